/-
  A part of the proof of a statement of the seat YteakahdpnpecoaaGreat.
-/
import Derived.Test.YteakahdpnpecoaaGreatBui03
set_option linter.unusedVariables false
namespace Go.Proofs
open Go Go.Abs
set_option maxRecDepth 100000
theorem TF (n:Nat) (a0r:Ko) (h03w:Option Addr) (h03l h03c:Nat):∀ r,FU n a0r=some r→WF Tryz.prog 119 [YR, .p (.val (.func (.func 103) #[] #[]))] (Go.Abs.look [(1000, .box 95 [.p (.sl 4 (Hr a0r.tks)),I a0r.pos,I a0r.length,hS h03w h03l h03c])]) (Xo (fun r:(List (List PV)) × Ko=>((.ret (.p (.sl 5 (mI r.1))),[(1000, .box 95 [.p (.sl 4 (Hr r.2.tks)),I r.2.pos,I r.2.length,hS h03w h03l h03c])]):QX × List (Nat × Blk))) r):=by
 refine Y3 (X:=fun r:(List (List PV)) × Ko=>((.ret (.p (.sl 5 (mI r.1))),(GH r.2.tks r.2.pos r.2.length (.slice h03w h03l h03c))):QX × List (Nat × Blk))) (GH a0r.tks a0r.pos a0r.length (.slice h03w h03l h03c)) Tryz.func119 rfl Tryz.ntmps119 rfl ?_
 unfold FU
 refine Qg Qd ⟨[(0,YR),(1, .p (.val (.func (.func 103) #[] #[])))],GH a0r.tks a0r.pos a0r.length (.slice h03w h03l h03c)⟩ Qa (Qg Qd ⟨bS (.func (.func 103) #[] #[]),GH a0r.tks a0r.pos a0r.length (.slice h03w h03l h03c)⟩ Qa (sB (EU ⟨bS (.func (.func 103) #[] #[]),GH a0r.tks a0r.pos a0r.length (.slice h03w h03l h03c)⟩ Qa (Zz (KT 24 5 300 [5] [] Qa) (QI (fun (l1_1,l1_2)=>⟨lW (.func (.func 103) #[] #[]) l1_1,TE l1_1++GH a0r.tks l1_2 a0r.length (.slice h03w h03l h03c)⟩:((List (List PV)) × Int)→St) (Xg Qa) ?_)))))
 rintro recl1 ⟨l1_1,l1_2⟩
 show QV (Gy n a0r recl1 l1_1 l1_2) _ _ _ _ _ _
 unfold Gy
 refine sB (sS (sG (xR 1 Qa ?_)))
 refine H8 [.ro []] Qa (Ug n (⟨a0r.tks,l1_2,a0r.length,[]⟩:Ko) h03w h03l h03c) Qa Qa QS (fun r2=>?_)
 refine xR 2 Qa (xE (Qp ⟨Qay (.func (.func 103) #[] #[]) l1_1,iI r2++TE l1_1++GH a0r.tks l1_2 a0r.length (.slice h03w h03l h03c)⟩ Qa (sS (sB (Qg Qd ⟨Qaz (.func (.func 103) #[] #[]) l1_1 (Qi r2.Kind 2),iI r2++TE l1_1++GH a0r.tks l1_2 a0r.length (.slice h03w h03l h03c)⟩ Qa (sC (Qi r2.Kind 2) Qa ?_ ?_))))))
 ·refine sG (xR 4 Qa (Vo [] [.agg [I r2.Kind,S r2.Text,I r2.N,I r2.At],I 6,S [],I r2.N,zS] [] [] [] Qa Tryz.func39 rfl Tryz.ntmps39 rfl Qa Qa Qa (Qg Qd ⟨bT 6 [] r2.N,lX r2⟩ Qa (Qg Qd ⟨bU,Dn 6 [] r2.N r2.At⟩ Qa (K6 (fun _=>(sq3 6 [] r2.N r2.At):Unit→St) ?_ ?_)))))
  ·refine Qg Qd ⟨bV,Dn 6 [] r2.N r2.At⟩ Qa (sB (Vr 0 (Qg Qd ⟨bW,Dn 6 [] r2.N r2.At⟩ Qa (sS (Zn Qa (Qz (ZW ?_)))))))
   refine Aa (QW ?_)
   exact QQ () Qa
  rintro _
  refine Qg Qd (sq4 6 [] r2.N r2.At) Qa (sT (Q4 (.agg [.id, .id, .id, .id, .sl 5]) [] [] (.agg [I 6,S [],I r2.N,I r2.At, .p (.sl 5 (mI []))]) Qa Qa (WQ (xR 1 Qa (xF Qa Qa (ZM (e:=24) (S:=5) (by_:=64) (enc:=KP) (tk:=300) (l:=l1_1) (l2:=[GN.cs (⟨6,[],r2.N,r2.At,[]⟩:GN)]) (xv:=.tsl 5 (mI [GN.cs (⟨6,[],r2.N,r2.At,[]⟩:GN)]) 19) rfl Qa Qa rfl Qa Qa Qa rfl Qa) (xR 1 Qa (xE ?_)))))))
  refine Q6 (Qp (sq5 (.func (.func 103) #[] #[]) (l1_1++[GN.cs (⟨6,[],r2.N,r2.At,[]⟩:GN)]) a0r.tks l1_2 a0r.length (.slice h03w h03l h03c)) Qa (sL Qd Qa (Q6 ?_)))
  exact KQ (l1_1++[GN.cs (⟨6,[],r2.N,r2.At,[]⟩:GN)],wi (l1_2+1)) Qa
 refine K6 (fun j4=>⟨QaA (.func (.func 103) #[] #[]) l1_1 j4,iI r2++TE l1_1++GH a0r.tks l1_2 a0r.length (.slice h03w h03l h03c)⟩:Bool→St) ?_ ?_
 ·refine sG (xR 4 Qa ?_)
  refine xS (Qi r2.Kind 1) (fun h5=>?_) (fun h5=>?_)
  ·refine xO (Qq Qa h5) Qa (xR 2 Qa ?_)
   refine xC [] Qa (Gx n r2.Text) Qa Qa QS (fun r6=>?_)
   refine xR 2 Qa (xE ?_)
   exact QQ r6 Qa
  refine xN (Qr Qa h5) Qa (xR 5 Qa (xE ?_))
  exact QQ false Qa
 rintro j4
 refine sC j4 Qa ?_ ?_
 rotate_left
 ·refine Qg Qd ⟨[(4, .tsl 5 (mI l1_1) 300)],TE l1_1++GH a0r.tks l1_2 a0r.length (.slice h03w h03l h03c)⟩ Qa (sT (Zd (Q7 (Zd (KH (Zd ?_))))))
  exact YW (.sl 5) [1000] [] Qa Qa Qa Qa
 refine sG (xR 4 Qa (Vo [] [.agg [I r2.Kind,S r2.Text,I r2.N,I r2.At],I 5,S r2.Text,I 0,zS] [] [] [] Qa Tryz.func39 rfl Tryz.ntmps39 rfl Qa Qa Qa (Qg Qd ⟨bT 5 r2.Text 0,lX r2⟩ Qa (Qg Qd ⟨bU,Dn 5 r2.Text 0 r2.At⟩ Qa (K6 (fun _=>(sq3 5 r2.Text 0 r2.At):Unit→St) ?_ ?_)))))
 ·refine Qg Qd ⟨bV,Dn 5 r2.Text 0 r2.At⟩ Qa (sB (Vr 0 (Qg Qd ⟨bW,Dn 5 r2.Text 0 r2.At⟩ Qa (sS (Zn Qa (Qz (ZW ?_)))))))
  refine Aa (QW ?_)
  exact QQ () Qa
 rintro _
 refine Qg Qd (sq4 5 r2.Text 0 r2.At) Qa (sT (Q4 (.agg [.id, .id, .id, .id, .sl 5]) [] [] (.agg [I 5,S r2.Text,I 0,I r2.At, .p (.sl 5 (mI []))]) Qa Qa (WQ (xR 1 Qa (xF Qa Qa (ZM (e:=24) (S:=5) (by_:=64) (enc:=KP) (tk:=300) (l:=l1_1) (l2:=[GN.cs (⟨5,r2.Text,0,r2.At,[]⟩:GN)]) (xv:=.tsl 5 (mI [GN.cs (⟨5,r2.Text,0,r2.At,[]⟩:GN)]) 36) rfl Qa Qa rfl Qa Qa Qa rfl Qa) (xR 1 Qa (xE ?_)))))))
 refine Q6 (Qp (sq5 (.func (.func 103) #[] #[]) (l1_1++[GN.cs (⟨5,r2.Text,0,r2.At,[]⟩:GN)]) a0r.tks l1_2 a0r.length (.slice h03w h03l h03c)) Qa (sL Qd Qa (Q6 ?_)))
 exact KQ (l1_1++[GN.cs (⟨5,r2.Text,0,r2.At,[]⟩:GN)],wi (l1_2+1)) Qa
def Yr (n:Nat) (a0r:Ko):Option YH :=
 cond (QO a0r.pos (Qc (List.map YH.cs a0r.tks)))
  ((Q8 a0r.tks a0r.pos).bind fun x1 =>
  some x1)
  (some (⟨0,[],0,a0r.length⟩:YH))
theorem KJ (n:Nat) (a0r:Ko):∀ r,Yr n a0r=some r→Q9 Tryz.prog 114 [.eptr (Ko.cs a0r)] (.ret (ag (YH.cs r))):=by
 refine Qs (X:=fun r:YH=>QX.ret (ag (YH.cs r))) Tryz.func114 rfl Tryz.ntmps114 rfl ?_
 unfold Yr
 refine Qg Qd ⟨tq8 (.eptr (Ko.cs a0r)),sF 0⟩ Qa (sS (Qg Qd ⟨[(0, .eptr (Ko.cs a0r)),qq 2,(12,B (QO a0r.pos (Qc (Hr a0r.tks))))],sF 0⟩ Qa (sC (QO a0r.pos (Qc (Hr a0r.tks))) Qa ?_ ?_)))
 ·refine sS (Vq Qd rfl (xR 8 Qa ?_))
  refine xG Qa Qa (QN (e:=98) (S:=4) (enc:=YH.cs) (l:=a0r.tks) (k:=.i64) (n:=a0r.pos) (sv:=.p (.sl 4 (Hr a0r.tks))) rfl Qa Qa Qa Qa Qa) (fun x1=>?_)
  refine xR 2 Qa (YB Qa (Qp ⟨[qq 2],hq4 x1⟩ Qa (sT (Q7 ?_))))
  exact qR (.id) Qa Qa Qa
 refine sK (Qp ⟨tq8 (.eptr (Ko.cs a0r)),sF 0⟩ Qa (Qg Qd ⟨[qq 2],sF a0r.length⟩ Qa (sT ?_)))
 exact qR (.id) Qa Qa Qa
def XU (n:Nat) (a0r:Ko):Option (Except Int Unit) :=
 (Yr n a0r).bind fun r1 =>
 some (.error r1.At)
theorem X5 (n:Nat) (a0r:Ko):∀ r,XU n a0r=some r→Q9 Tryz.prog 115 [.eptr (Ko.cs a0r)] (Eu (fun r:Unit=>(.tup []:AV)) (fun e:Int=>(.ifc 149 (.agg [I e]):AV)) r):=by
 refine Qs (X:=Eu (fun r:Unit=>(.tup []:AV)) (fun e:Int=>(.ifc 149 (.agg [I e]):AV))) Tryz.func115 rfl Tryz.ntmps115 rfl ?_
 unfold XU
 refine sG (xR 1 Qa ?_)
 refine xC [] Qa (KJ n a0r) Qa Qa QS (fun r1=>?_)
 refine xR 3 Qa (XM 149 (.agg [I r1.At]) Qa rfl Qa ?_)
 exact ze Qa Qa
def Ut (n:Nat) (a0text:List UInt8):Option Bool :=
 (Hf n a0text).bind fun r1 =>
 cond r1
  (some true)
  ((WV n a0text).bind fun r3 =>
  some r3)
theorem Dp (n:Nat) (a0text:List UInt8):∀ r,Ut n a0text=some r→Q9 Tryz.prog 124 [S a0text] (.ret (B r)):=by
 refine Qs (X:=fun r:Bool=>QX.ret (B r)) Tryz.func124 rfl Tryz.ntmps124 rfl ?_
 unfold Ut
 refine Qg Qd ⟨[(0,S a0text)],[]⟩ Qa (sS (sG (xR 1 Qa ?_)))
 refine xC [] Qa (Gx n a0text) Qa Qa QS (fun r1=>?_)
 refine xR 1 Qa ?_
 refine xS r1 (fun h2=>?_) (fun h2=>?_)
 ·refine xN (Qx Qa h2) Qa (xR 3 Qa (xE (Qp ⟨[(2,B true)],[]⟩ Qa (sT ?_))))
  exact qR (.id) Qa Qa Qa
 refine xO (Qw Qa h2) Qa ?_
 refine xC [] Qa (Gw n a0text) Qa Qa QS (fun r3=>?_)
 refine xR 2 Qa (xE (Qp ⟨[(2,B r3)],[]⟩ Qa (sT ?_)))
 exact qR (.id) Qa Qa Qa
def Uu (n:Nat) (a0r:Ko) (recl1:((List (List PV)) × Int)→Option ((List (List PV)) × Ko)) (l1_1:List (List PV)) (l1_2:Int):Option ((List (List PV)) × Ko) :=
 (He n (⟨a0r.tks,l1_2,a0r.length,[]⟩:Ko)).bind fun r2 =>
 cond (Qi r2.Kind 2)
  ((some ()).bind fun _ =>
  cond (ZB (List.length (l1_1++[GN.cs (⟨6,[],r2.N,r2.At,[]⟩:GN)])) 64) (
   recl1 (l1_1++[GN.cs (⟨6,[],r2.N,r2.At,[]⟩:GN)],wi (l1_2+1))) none)
  ((cond (Qi r2.Kind 1)
   ((Ut n r2.Text).bind fun r6 =>
   some r6)
   (some false)).bind fun j4 =>
  cond j4
   ((some ()).bind fun _ =>
   cond (ZB (List.length (l1_1++[GN.cs (⟨5,r2.Text,0,r2.At,[]⟩:GN)])) 64) (
    recl1 (l1_1++[GN.cs (⟨5,r2.Text,0,r2.At,[]⟩:GN)],wi (l1_2+1))) none)
   (some (l1_1,(⟨a0r.tks,l1_2,a0r.length,[]⟩:Ko))))
def FW (n:Nat) (a0r:Ko):Option ((List (List PV)) × Ko) :=
 QZ (fun recl1 (l1_1,l1_2)=>Uu n a0r recl1 l1_1 l1_2) n ([],a0r.pos)
theorem NM (n:Nat) (a0r:Ko) (h03w:Option Addr) (h03l h03c:Nat):∀ r,FW n a0r=some r→WF Tryz.prog 119 [YR, .p (.val (.func (.func 124) #[] #[]))] (Go.Abs.look [(1000, .box 95 [.p (.sl 4 (Hr a0r.tks)),I a0r.pos,I a0r.length,hS h03w h03l h03c])]) (Xo (fun r:(List (List PV)) × Ko=>((.ret (.p (.sl 5 (mI r.1))),[(1000, .box 95 [.p (.sl 4 (Hr r.2.tks)),I r.2.pos,I r.2.length,hS h03w h03l h03c])]):QX × List (Nat × Blk))) r):=by
 refine Y3 (X:=fun r:(List (List PV)) × Ko=>((.ret (.p (.sl 5 (mI r.1))),(GH r.2.tks r.2.pos r.2.length (.slice h03w h03l h03c))):QX × List (Nat × Blk))) (GH a0r.tks a0r.pos a0r.length (.slice h03w h03l h03c)) Tryz.func119 rfl Tryz.ntmps119 rfl ?_
 unfold FW
 refine Qg Qd ⟨[(0,YR),(1, .p (.val (.func (.func 124) #[] #[])))],GH a0r.tks a0r.pos a0r.length (.slice h03w h03l h03c)⟩ Qa (Qg Qd ⟨bS (.func (.func 124) #[] #[]),GH a0r.tks a0r.pos a0r.length (.slice h03w h03l h03c)⟩ Qa (sB (EU ⟨bS (.func (.func 124) #[] #[]),GH a0r.tks a0r.pos a0r.length (.slice h03w h03l h03c)⟩ Qa (Zz (KT 24 5 300 [5] [] Qa) (QI (fun (l1_1,l1_2)=>⟨lW (.func (.func 124) #[] #[]) l1_1,TE l1_1++GH a0r.tks l1_2 a0r.length (.slice h03w h03l h03c)⟩:((List (List PV)) × Int)→St) (Xg Qa) ?_)))))
 rintro recl1 ⟨l1_1,l1_2⟩
 show QV (Uu n a0r recl1 l1_1 l1_2) _ _ _ _ _ _
 unfold Uu
 refine sB (sS (sG (xR 1 Qa ?_)))
 refine H8 [.ro []] Qa (Ug n (⟨a0r.tks,l1_2,a0r.length,[]⟩:Ko) h03w h03l h03c) Qa Qa QS (fun r2=>?_)
 refine xR 2 Qa (xE (Qp ⟨Qay (.func (.func 124) #[] #[]) l1_1,iI r2++TE l1_1++GH a0r.tks l1_2 a0r.length (.slice h03w h03l h03c)⟩ Qa (sS (sB (Qg Qd ⟨Qaz (.func (.func 124) #[] #[]) l1_1 (Qi r2.Kind 2),iI r2++TE l1_1++GH a0r.tks l1_2 a0r.length (.slice h03w h03l h03c)⟩ Qa (sC (Qi r2.Kind 2) Qa ?_ ?_))))))
 ·refine sG (xR 4 Qa (Vo [] [.agg [I r2.Kind,S r2.Text,I r2.N,I r2.At],I 6,S [],I r2.N,zS] [] [] [] Qa Tryz.func39 rfl Tryz.ntmps39 rfl Qa Qa Qa (Qg Qd ⟨bT 6 [] r2.N,lX r2⟩ Qa (Qg Qd ⟨bU,Dn 6 [] r2.N r2.At⟩ Qa (K6 (fun _=>(sq3 6 [] r2.N r2.At):Unit→St) ?_ ?_)))))
  ·refine Qg Qd ⟨bV,Dn 6 [] r2.N r2.At⟩ Qa (sB (Vr 0 (Qg Qd ⟨bW,Dn 6 [] r2.N r2.At⟩ Qa (sS (Zn Qa (Qz (ZW ?_)))))))
   refine Aa (QW ?_)
   exact QQ () Qa
  rintro _
  refine Qg Qd (sq4 6 [] r2.N r2.At) Qa (sT (Q4 (.agg [.id, .id, .id, .id, .sl 5]) [] [] (.agg [I 6,S [],I r2.N,I r2.At, .p (.sl 5 (mI []))]) Qa Qa (WQ (xR 1 Qa (xF Qa Qa (ZM (e:=24) (S:=5) (by_:=64) (enc:=KP) (tk:=300) (l:=l1_1) (l2:=[GN.cs (⟨6,[],r2.N,r2.At,[]⟩:GN)]) (xv:=.tsl 5 (mI [GN.cs (⟨6,[],r2.N,r2.At,[]⟩:GN)]) 19) rfl Qa Qa rfl Qa Qa Qa rfl Qa) (xR 1 Qa (xE ?_)))))))
  refine Q6 (Qp (sq5 (.func (.func 124) #[] #[]) (l1_1++[GN.cs (⟨6,[],r2.N,r2.At,[]⟩:GN)]) a0r.tks l1_2 a0r.length (.slice h03w h03l h03c)) Qa (sL Qd Qa (Q6 ?_)))
  exact KQ (l1_1++[GN.cs (⟨6,[],r2.N,r2.At,[]⟩:GN)],wi (l1_2+1)) Qa
 refine K6 (fun j4=>⟨QaA (.func (.func 124) #[] #[]) l1_1 j4,iI r2++TE l1_1++GH a0r.tks l1_2 a0r.length (.slice h03w h03l h03c)⟩:Bool→St) ?_ ?_
 ·refine sG (xR 4 Qa ?_)
  refine xS (Qi r2.Kind 1) (fun h5=>?_) (fun h5=>?_)
  ·refine xO (Qq Qa h5) Qa (xR 2 Qa ?_)
   refine xC [] Qa (Dp n r2.Text) Qa Qa QS (fun r6=>?_)
   refine xR 2 Qa (xE ?_)
   exact QQ r6 Qa
  refine xN (Qr Qa h5) Qa (xR 5 Qa (xE ?_))
  exact QQ false Qa
 rintro j4
 refine sC j4 Qa ?_ ?_
 rotate_left
 ·refine Qg Qd ⟨[(4, .tsl 5 (mI l1_1) 300)],TE l1_1++GH a0r.tks l1_2 a0r.length (.slice h03w h03l h03c)⟩ Qa (sT (Zd (Q7 (Zd (KH (Zd ?_))))))
  exact YW (.sl 5) [1000] [] Qa Qa Qa Qa
 refine sG (xR 4 Qa (Vo [] [.agg [I r2.Kind,S r2.Text,I r2.N,I r2.At],I 5,S r2.Text,I 0,zS] [] [] [] Qa Tryz.func39 rfl Tryz.ntmps39 rfl Qa Qa Qa (Qg Qd ⟨bT 5 r2.Text 0,lX r2⟩ Qa (Qg Qd ⟨bU,Dn 5 r2.Text 0 r2.At⟩ Qa (K6 (fun _=>(sq3 5 r2.Text 0 r2.At):Unit→St) ?_ ?_)))))
 ·refine Qg Qd ⟨bV,Dn 5 r2.Text 0 r2.At⟩ Qa (sB (Vr 0 (Qg Qd ⟨bW,Dn 5 r2.Text 0 r2.At⟩ Qa (sS (Zn Qa (Qz (ZW ?_)))))))
  refine Aa (QW ?_)
  exact QQ () Qa
 rintro _
 refine Qg Qd (sq4 5 r2.Text 0 r2.At) Qa (sT (Q4 (.agg [.id, .id, .id, .id, .sl 5]) [] [] (.agg [I 5,S r2.Text,I 0,I r2.At, .p (.sl 5 (mI []))]) Qa Qa (WQ (xR 1 Qa (xF Qa Qa (ZM (e:=24) (S:=5) (by_:=64) (enc:=KP) (tk:=300) (l:=l1_1) (l2:=[GN.cs (⟨5,r2.Text,0,r2.At,[]⟩:GN)]) (xv:=.tsl 5 (mI [GN.cs (⟨5,r2.Text,0,r2.At,[]⟩:GN)]) 36) rfl Qa Qa rfl Qa Qa Qa rfl Qa) (xR 1 Qa (xE ?_)))))))
 refine Q6 (Qp (sq5 (.func (.func 124) #[] #[]) (l1_1++[GN.cs (⟨5,r2.Text,0,r2.At,[]⟩:GN)]) a0r.tks l1_2 a0r.length (.slice h03w h03l h03c)) Qa (sL Qd Qa (Q6 ?_)))
 exact KQ (l1_1++[GN.cs (⟨5,r2.Text,0,r2.At,[]⟩:GN)],wi (l1_2+1)) Qa
abbrev Vz:=(Except (Int × Ko) (GN × Ko))
def YX (r1:YH) (j3_1:List (List PV)) (j3_2:List YH) (j3_3:Int) (j3_4:Int):Option Vz :=
 some (.ok ((⟨4,r1.Text,0,r1.At,j3_1⟩:GN),(⟨j3_2,wi (j3_3+1),j3_4,[]⟩:Ko)))
def YY (n:Nat) (a0r:Ko) (r1:YH):Option Vz :=
 ((FW n (⟨a0r.tks,wi (a0r.pos+1),a0r.length,[]⟩:Ko)).bind fun r4 =>
 cond (ZB (List.length ([]++r4.1)) 64) (
  some ([]++r4.1,r4.2.tks,r4.2.pos,r4.2.length)) none).bind fun (j3_1,j3_2,j3_3,j3_4) =>
 (He n (⟨j3_2,j3_3,j3_4,[]⟩:Ko)).bind fun r5 =>
 (cond (Qi r5.Kind 0)
  (some true)
  ((cond (Qi r5.Kind 3)
   (some (QP r5.Text [59]))
   (some false)).bind fun j9 =>
  some (!j9))).bind fun j7 =>
 cond j7
  ((Ba n (⟨j3_2,j3_3,j3_4,[]⟩:Ko)).bind (Rk (fun r11 =>
   YX r1 j3_1 j3_2 j3_3 j3_4) fun e12=>some (.error (e12,(⟨j3_2,j3_3,j3_4,[]⟩:Ko)))))
  (YX r1 j3_1 j3_2 j3_3 j3_4)
def RA (n:Nat) (a0r:Ko):Option Vz :=
 (He n (⟨a0r.tks,a0r.pos,a0r.length,[]⟩:Ko)).bind fun r1 =>
 (cond (Qi r1.Kind 0)
  (some true)
  ((cond (Qi r1.Kind 1)
   ((YI n r1.Text).bind fun r17 =>
   some r17)
   (some false)).bind fun j15 =>
  some (!j15))).bind fun j13 =>
 cond j13
  ((Ba n (⟨a0r.tks,a0r.pos,a0r.length,[]⟩:Ko)).bind (Rk (fun r18 =>
   YY n a0r r1) fun e19=>some (.error (e19,(⟨a0r.tks,a0r.pos,a0r.length,[]⟩:Ko)))))
  (YY n a0r r1)
def bX:List (Nat × Blk):=[(1, .box 93 [.ptr 1000 0]),(2,(LA 0 [] 0 0))]
def bq5:=fun x0=>(.box 82 [.p (.val x0)]:Blk)
def sq6:=fun x0=>(⟨[(1, .ptr 1 0)],[(1,(bq5 x0))]⟩:St)
def sq7:=fun x0=>(⟨[(2, .fn (.func 116) [] [.ptr 1 0])],[(1,(bq5 x0))]⟩:St)
def yT:=fun x0 x1 x2 x3=>([(1000,(bq2 x0 x1 x2 x3)),(1001,(bq5 (.func (.func 112) #[] #[])))]:List (Nat × Blk))
def QaC:=fun x0=>([(0, .ptr 1000 0),(1, .fn x0 [] [.ptr 1001 0]),(4, .ptr 4 0)]:List (Nat × AV))
def xw:List (Nat × Blk):=[(4, .box 98 [I 0,S [],I 0,I 0])]
def QaD:=fun x0=>([(0, .ptr 1000 0),(1, .fn x0 [] [.ptr 1001 0]),(4, .ptr 4 0),(5, .ptr 5 0)]:List (Nat × AV))
def UI:=fun x0=>([(4, .box 98 [I 0,S [],I 0,I 0]),(5, .box 98 (Ya (YH.cs x0)))]:List (Nat × Blk))
def xx:List (Nat × AV):=[(0, .ptr 1000 0),(4, .ptr 4 0),(5, .ptr 5 0)]
def xy:=fun x0=>([(0, .ptr 1000 0),(4, .ptr 4 0),(5, .ptr 5 0),(16,B x0)]:List (Nat × AV))
def yU:=fun x0=>([(1000,(bq5 x0))]:List (Nat × Blk))
def lY:=fun x0 x1=>(⟨[(1, .ptr 1000 0),(2, .ptr 2 0)],hq4 x0++yU x1⟩:St)
def xz:=fun x0=>([(4, .box 98 (Ya (YH.cs x0)))]:List (Nat × Blk))
def lZ:List (Nat × AV):=[(1, .ptr 1 0),(2, .ptr 2 0),(3, .ptr 3 0)]
def zK:=fun x0=>([(1, .box 93 [.ptr 1000 0]),(2,(LA 0 [] 0 0)),(3, .box 98 (Ya (YH.cs x0)))]:List (Nat × Blk))
def bq6:Blk:=.box 99 [.fn (.func 123) [] [.ptr 1001 0]]
def MI:=fun x0 x1 x2 x3=>([(1000,(bq2 x0 x1 x2 x3)),(1001, .box 93 [.ptr 1000 0]),(1002,bq6)]:List (Nat × Blk))
def l5:=fun x0 x1 x2 x3=>([(1,I x0),(2,S (YH.Text x1)),(3,I x2),(4,x3),(5, .ptr 5 0),(10, .ptr 10 0)]:List (Nat × AV))
def xA:=fun x0=>([(4,x0),(10, .ptr 10 0),(11, .ptr 11 0)]:List (Nat × AV))
def bq7:=fun x0=>(.box 24 [I 4,S (YH.Text x0),I 0,I (YH.At x0), .p (.val (.slice none 0 0))]:Blk)
def xB:=fun x0=>([(10,(LA 0 [] 0 0)),(11,(bq7 x0))]:List (Nat × Blk))
def bq8:=fun x0 x1=>(.box 24 [I 4,S (YH.Text x0),I 0,I (YH.At x0), .tsl 5 (List.map KP x1) 300]:Blk)
abbrev nG:=((List (List PV)) × (List YH) × Int × Int)
def GA:=fun x0 x1 x2=>([(10, .ptr 10 0),(11, .ptr 11 0),(20,x0),(21,I x1),(22,I x2)]:List (Nat × AV))
def Dq:=fun x0 x1 x2 x3=>([(10, .ptr 10 0),(11, .ptr 11 0),(20,x0),(21,I x1),(22,I x2),(23,B x3)]:List (Nat × AV))
def QaF:List (Nat × AV):=[(10, .ptr 10 0),(11, .ptr 11 0),(13, .fn (.func 123) [] [.ptr 1001 0]),(20,(.bsl 1002 1)),(21,I 1),(22,I 0)]
def l8:=fun x0 x1 x2 x3=>([(1000,(bq2 x0 x1 x2 x3)),(1001, .box 93 [.ptr 1000 0])]:List (Nat × Blk))
def wy:=fun x0=>(.box 24 (Ya (GN.cs x0)):Blk)
def mJ:=fun x0=>([(1, .box 9 [S x0])]:List (Nat × Blk))
def sq8:=fun x0=>(⟨[(2, .fn (.func 117) [] [.ptr 1 0])],mJ x0⟩:St)
def yV:=fun x0 x1 x2 x3=>([(1000,(bq2 x0 x1 x2 x3)),(1001, .box 9 [S [59]])]:List (Nat × Blk))
def OJ:=fun x0=>([(1000, .box 9 [S x0])]:List (Nat × Blk))
def sq9:=fun x0 x1=>(⟨[(1, .ptr 1000 0),(2, .ptr 2 0)],hq4 x0++OJ x1⟩:St)
theorem EZ (n:Nat) (a0r:Ko) (h03w:Option Addr) (h03l h03c:Nat):∀ r,RA n a0r=some r→WF Tryz.prog 121 [YR] (Go.Abs.look [(1000, .box 95 [.p (.sl 4 (Hr a0r.tks)),I a0r.pos,I a0r.length,hS h03w h03l h03c])]) (Xo (CL (fun r:GN × Ko=>((.ret (ag (GN.cs r.1)),[(1000, .box 95 [.p (.sl 4 (Hr r.2.tks)),I r.2.pos,I r.2.length,hS h03w h03l h03c])]):QX × List (Nat × Blk))) (fun e:Int × Ko=>((.panic (.ifc 149 (.agg [I e.1])),[(1000, .box 95 [.p (.sl 4 (Hr e.2.tks)),I e.2.pos,I e.2.length,hS h03w h03l h03c])]):QX × List (Nat × Blk)))) r):=by
 refine Y3 (X:=CL (fun r:GN × Ko=>((.ret (ag (GN.cs r.1)),(GH r.2.tks r.2.pos r.2.length (.slice h03w h03l h03c))):QX × List (Nat × Blk))) (fun e:Int × Ko=>((.panic (.ifc 149 (.agg [I e.1])),(GH e.2.tks e.2.pos e.2.length (.slice h03w h03l h03c))):QX × List (Nat × Blk)))) (GH a0r.tks a0r.pos a0r.length (.slice h03w h03l h03c)) Tryz.func121 rfl Tryz.ntmps121 rfl ?_
 unfold RA
 refine Qg Qd ⟨[qq 1,qq 2],bX++GH a0r.tks a0r.pos a0r.length (.slice h03w h03l h03c)⟩ Qa (sS (EU ⟨[qq 1,qq 2],bX++GH a0r.tks a0r.pos a0r.length (.slice h03w h03l h03c)⟩ Qa (zu [0] 3 3 [1,2,3,4] Qd rfl Qa Qa (QR (Zq YR Qa rfl) (Ql)) Qa (Pe (f:=100) (args:=[.p (.val (.func (.func 112) #[] #[]))]) (dst:=some 6) Qa Qa rfl (Zy (hc:=[]) (args':=[.p (.val (.func (.func 112) #[] #[]))]) [(1,401)] [] [] Tryz.func100 rfl Tryz.ntmps100 rfl Qa Qa Qa (Qg Qd (sq6 (.func (.func 112) #[] #[])) Qa (Qg Qd (sq7 (.func (.func 112) #[] #[])) Qa ?_)))))))
 refine sT (Q4 (.id) [1] [] (.fn (.func 116) [] [.ptr 1 0]) Qa Qa (kf [0] Qa (QR (Zq YR Qa rfl) (Ql)) Qa (Pe (f:=99) (args:=[YR, .fn (.func 116) [] [.ptr 401 0]]) (dst:=some 7) Qa Qa rfl (Zy (hc:=(yT a0r.tks a0r.pos a0r.length (.slice h03w h03l h03c))) (args':=[YR, .fn (.func 116) [] [Tj]]) [(1001,401),(1000,1000)] [] [] Tryz.func99 rfl Tryz.ntmps99 rfl Qa Qa Qa (Qg Qd ⟨QaC (.func 116),xw++yT a0r.tks a0r.pos a0r.length (.slice h03w h03l h03c)⟩ Qa (sS (sG ?_)))))))
 refine xR 1 Qa ?_
 refine H8 [.ro []] Qa (Ug n (⟨a0r.tks,a0r.pos,a0r.length,[]⟩:Ko) h03w h03l h03c) Qa Qa QS (fun r1=>?_)
 refine xR 2 Qa (xE (Qp ⟨QaD (.func 116),UI r1++yT a0r.tks a0r.pos a0r.length (.slice h03w h03l h03c)⟩ Qa (ZR (fun _=>⟨xx,UI r1++yT a0r.tks a0r.pos a0r.length (.slice h03w h03l h03c)⟩:Unit→St) (fun _=>YY n a0r r1) ?_ ?_)))
 rotate_left
 ·refine K6 (fun j13=>⟨xy j13,UI r1++yT a0r.tks a0r.pos a0r.length (.slice h03w h03l h03c)⟩:Bool→St) ?_ ?_
  rotate_left
  ·rintro j13
   refine sC j13 Qa ?_ ?_
   ·refine sG (xR 1 Qa ?_)
    refine Mh [.ro []] Qa (NC n (⟨a0r.tks,a0r.pos,a0r.length,[]⟩:Ko) h03w h03l h03c) Qa Qa QS QS (fun r18=>?_) (fun e19=>?_)
    ·refine xE ?_
     exact KQ (k:=fun _=>YY n a0r r1) () Qa
    refine Zl (ZN [1000,1001] [] Qa (zl _ rfl (Z8 ?_)))
    exact Kn [1000] [] Qa Qa Qa
   refine sK ?_
   exact KQ (k:=fun _=>YY n a0r r1) () Qa
  refine sG (xR 4 Qa ?_)
  refine xS (Qi r1.Kind 0) (fun h14=>?_) (fun h14=>?_)
  ·refine xN (Qx Qa h14) Qa (xR 4 Qa (xE ?_))
   exact QQ true Qa
  refine xO (Qw Qa h14) Qa (xR 1 Qa (Vo (yU (.func (.func 112) #[] #[])) [.agg [I r1.Kind,S r1.Text,I r1.N,I r1.At],YR] [(1000,1001)] [] [] Qa Tryz.func116 rfl Tryz.ntmps116 rfl Qa Qa Qa (Qg Qd (lY r1 (.func (.func 112) #[] #[])) Qa (K6 (fun j15=>⟨[(3,B j15)],yU (.func (.func 112) #[] #[])⟩:Bool→St) ?_ ?_))))
  ·refine sG (xR 4 Qa ?_)
   refine xS (Qi r1.Kind 1) (fun h16=>?_) (fun h16=>?_)
   ·refine xO (Qq Qa h16) Qa (xR 2 Qa ?_)
    refine xC [] Qa (XT n r1.Text) Qa Qa QS (fun r17=>?_)
    refine xR 2 Qa (xE ?_)
    exact QQ r17 Qa
   refine xN (Qr Qa h16) Qa (xR 5 Qa (xE ?_))
   exact QQ false Qa
  rintro j15
  refine sT (Q4 (.id) [1000] [] (B j15) Qa Qa (WQ (xR 2 Qa (xE ?_))))
  exact QQ (!j15) Qa
 rintro _
 show QV (YY n a0r r1) _ _ _ _ _ _
 unfold YY
 refine Qg Qd ⟨[qq 4,qq 5],UI r1++yT a0r.tks (wi (a0r.pos+1)) a0r.length (.slice h03w h03l h03c)⟩ Qa (Qg Qd ⟨[qq 4],xz r1++yT a0r.tks (wi (a0r.pos+1)) a0r.length (.slice h03w h03l h03c)⟩ Qa (sT (Q4 (.id) [1000,1001] [] (.agg [I r1.Kind,S r1.Text,I r1.N,I r1.At]) Qa Qa (kf [] Qa (Ql) Qa (f_q [0] Qa Qa (QR (Zq YR Qa rfl) (Ql)) (Qaq [] rfl Qa Qa (Ql) Qa (si ?_)))))))
 refine Qp ⟨lZ,zK r1++GH a0r.tks (wi (a0r.pos+1)) a0r.length (.slice h03w h03l h03c)⟩ Qa (sS (sG (xR 5 Qa (Vo (MI a0r.tks (wi (a0r.pos+1)) a0r.length (.slice h03w h03l h03c)) [.agg [I r1.Kind,S r1.Text,I r1.N,I r1.At],I 4,S r1.Text,I 0, .bsl 1002 1] [(1001,1),(1002,12),(1000,1000)] [] [] Qa Tryz.func39 rfl Tryz.ntmps39 rfl Qa Qa Qa (Qg Qd ⟨l5 4 r1 0 (.bsl 1002 1),lX r1++MI a0r.tks (wi (a0r.pos+1)) a0r.length (.slice h03w h03l h03c)⟩ Qa (Qg Qd ⟨xA (.bsl 1002 1),xB r1++MI a0r.tks (wi (a0r.pos+1)) a0r.length (.slice h03w h03l h03c)⟩ Qa (K6 (fun (j3_1,j3_2,j3_3,j3_4)=>⟨[qq 10,qq 11],[(10,(LA 0 [] 0 0)),(11,(bq8 r1 j3_1))]++TE j3_1++MI j3_2 j3_3 j3_4 (.slice h03w h03l h03c)⟩:nG→St) ?_ ?_)))))))
 ·refine Qg Qd ⟨GA (.bsl 1002 1) 1 0,xB r1++MI a0r.tks (wi (a0r.pos+1)) a0r.length (.slice h03w h03l h03c)⟩ Qa (sB (Vr 1 (Qg Qd ⟨Dq (.bsl 1002 1) 1 0 true,xB r1++MI a0r.tks (wi (a0r.pos+1)) a0r.length (.slice h03w h03l h03c)⟩ Qa (sS (Zm Qa (sK (Qp ⟨GA (.bsl 1002 1) 1 0,xB r1++MI a0r.tks (wi (a0r.pos+1)) a0r.length (.slice h03w h03l h03c)⟩ Qa ?_)))))))
  refine sS (sB (Qg Qd ⟨QaF,xB r1++MI a0r.tks (wi (a0r.pos+1)) a0r.length (.slice h03w h03l h03c)⟩ Qa (EU ⟨QaF,xB r1++MI a0r.tks (wi (a0r.pos+1)) a0r.length (.slice h03w h03l h03c)⟩ Qa (Zz (KT 24 5 300 [] [(11,4)] Qa) (V5 [0,1,2] [0,1] [(3,[]),(4,[]),(5,[]),(6,[])] Qd rfl Qa Qa (K7 (f:=123) (args:=[Tj]) (dst:=some 29) Qa Qa (Zy (hc:=(l8 a0r.tks (wi (a0r.pos+1)) a0r.length (.slice h03w h03l h03c))) (args':=[Tj]) [(1000,1000),(1001,1001)] [] [] Tryz.func123 rfl Tryz.ntmps123 rfl Qa Qa Qa ?_)))))))
  refine Qg Qd ⟨[(0,Tj)],l8 a0r.tks (wi (a0r.pos+1)) a0r.length (.slice h03w h03l h03c)⟩ Qa (sS (sG (xR 1 Qa ?_)))
  refine Ou [(1000,1000)] [] [] Qa (NM n (⟨a0r.tks,wi (a0r.pos+1),a0r.length,[]⟩:Ko) h03w h03l h03c) Qa Qa Qa QS QS (fun r4=>?_)
  refine xR 1 Qa (xE (Qp ⟨[(1, .p (.sl 5 (mI r4.1)))],l8 r4.2.tks r4.2.pos r4.2.length (.slice h03w h03l h03c)⟩ Qa (sT (Q4 (.id) [1000,1001] [] (.p (.sl 5 (mI r4.1))) Qa Qa (kh [0,1] Qa (QR (Zq (.ptr 11 4) Qa rfl) (QR (WU (S:=5) (t:=300) (ty:=24) (es:=mI []) Qa Qa rfl) (Ql))) Qa (EG [] rfl Qa Qa (WS (e:=24) (S:=5) (by_:=64) (enc:=KP) (tk:=300) (l:=[]) (l2:=r4.1) (xv:=.p (.sl 5 (mI r4.1))) rfl Qa Qa rfl Qa Qa Qa Qa) (fun _=>Ql) (Jm [] Qa Qa (Ql) ?_)))))))
  refine Jm [] Qa Qa (Ql) (JH (Q6 (Qp ⟨GA (.bsl 1002 1) 1 0,[(10,(LA 0 [] 0 0)),(11,(bq8 r1 ([]++r4.1)))]++Gz ([]++r4.1)++MI r4.2.tks r4.2.pos r4.2.length (.slice h03w h03l h03c)⟩ Qa (sL Qd Qa (Oz ⟨[10,11,20,21,22],[10,11,300,1000,1001,1002],[],[]⟩ ⟨GA (.bsl 1002 1) 1 1,[(10,(LA 0 [] 0 0)),(11,(bq8 r1 ([]++r4.1)))]++Gz ([]++r4.1)++MI r4.2.tks r4.2.pos r4.2.length (.slice h03w h03l h03c)⟩ Qa (Qg Qd ⟨Dq (.bsl 1002 1) 1 1 false,[(10,(LA 0 [] 0 0)),(11,(bq8 r1 ([]++r4.1)))]++Gz ([]++r4.1)++MI r4.2.tks r4.2.pos r4.2.length (.slice h03w h03l h03c)⟩ Qa (sS ?_)))))))
  refine Zn Qa (Qz (ZW (Aa (QW ?_))))
  exact QQ ([]++r4.1,r4.2.tks,r4.2.pos,r4.2.length) Qa
 rintro ⟨j3_1,j3_2,j3_3,j3_4⟩
 refine Qg Qd ⟨[qq 10],[(10,(bq8 r1 j3_1))]++TE j3_1++MI j3_2 j3_3 j3_4 (.slice h03w h03l h03c)⟩ Qa (sT (Q4 (.agg [.id, .id, .id, .id, .sl 5]) [1000,1001,1002] [] (.agg [I 4,S r1.Text,I 0,I r1.At, .p (.sl 5 (mI j3_1))]) Qa Qa (WQ (xR 2 Qa (xE (Qp ⟨[qq 1,qq 2,qq 4],[(1, .box 93 [YR]),(2,(LA 0 [] 0 0)),(4,(wy ⟨4,r1.Text,0,r1.At,j3_1⟩))]++GH j3_2 j3_3 j3_4 (.slice h03w h03l h03c)⟩ Qa (sS ?_)))))))
 refine V5 [0] [0] [(1,[]),(2,[])] Qd rfl Qa Qa (K7 (f:=105) (args:=[S [59]]) (dst:=some 15) Qa Qa (Zy (hc:=[]) (args':=[S [59]]) [(1,401)] [] [] Tryz.func105 rfl Tryz.ntmps105 rfl Qa Qa Qa (Qg Qd ⟨[qq 1],mJ [59]⟩ Qa (Qg Qd (sq8 [59]) Qa (sT (Q4 (.id) [1] [] (.fn (.func 117) [] [.ptr 1 0]) Qa Qa (kh [0] Qa (QR (Zq YR Qa rfl) (Ql)) Qa ?_)))))))
 refine K7 (f:=99) (args:=[YR, .fn (.func 117) [] [.ptr 401 0]]) (dst:=some 16) Qa Qa (Zy (hc:=(yV j3_2 j3_3 j3_4 (.slice h03w h03l h03c))) (args':=[YR, .fn (.func 117) [] [Tj]]) [(1001,401),(1000,1000)] [] [] Tryz.func99 rfl Tryz.ntmps99 rfl Qa Qa Qa (Qg Qd ⟨QaC (.func 117),xw++yV j3_2 j3_3 j3_4 (.slice h03w h03l h03c)⟩ Qa (sS (sG (xR 1 Qa ?_)))))
 refine H8 [.ro []] Qa (Ug n (⟨j3_2,j3_3,j3_4,[]⟩:Ko) h03w h03l h03c) Qa Qa QS (fun r5=>?_)
 refine xR 2 Qa (xE (Qp ⟨QaD (.func 117),UI r5++yV j3_2 j3_3 j3_4 (.slice h03w h03l h03c)⟩ Qa (ZR (fun _=>⟨xx,UI r5++yV j3_2 j3_3 j3_4 (.slice h03w h03l h03c)⟩:Unit→St) (fun _=>YX r1 j3_1 j3_2 j3_3 j3_4) ?_ ?_)))
 ·rintro _
  show QV (YX r1 j3_1 j3_2 j3_3 j3_4) _ _ _ _ _ _
  unfold YX
  refine Qg Qd ⟨[qq 4,qq 5],UI r5++yV j3_2 (wi (j3_3+1)) j3_4 (.slice h03w h03l h03c)⟩ Qa (Qg Qd ⟨[qq 4],xz r5++yV j3_2 (wi (j3_3+1)) j3_4 (.slice h03w h03l h03c)⟩ Qa (sT (Q4 (.id) [1000,1001] [] (.agg [I r5.Kind,S r5.Text,I r5.N,I r5.At]) Qa Qa (kh [] Qa (Ql) Qa (JH (Qp ⟨[qq 2,qq 4],[(2,(LA 0 [] 0 0)),(4,(wy ⟨4,r1.Text,0,r1.At,j3_1⟩))]++GH j3_2 (wi (j3_3+1)) j3_4 (.slice h03w h03l h03c)⟩ Qa (Qg Qd ⟨[qq 2],[(2,(wy ⟨4,r1.Text,0,r1.At,j3_1⟩))]++GH j3_2 (wi (j3_3+1)) j3_4 (.slice h03w h03l h03c)⟩ Qa ?_)))))))
  refine sT ?_
  exact YW (.id) [1000] [] Qa Qa Qa Qa
 refine K6 (fun j7=>⟨xy j7,UI r5++yV j3_2 j3_3 j3_4 (.slice h03w h03l h03c)⟩:Bool→St) ?_ ?_
 rotate_left
 ·rintro j7
  refine sC j7 Qa ?_ ?_
  ·refine sG (xR 1 Qa ?_)
   refine Mh [.ro []] Qa (NC n (⟨j3_2,j3_3,j3_4,[]⟩:Ko) h03w h03l h03c) Qa Qa QS QS (fun r11=>?_) (fun e12=>?_)
   ·refine xE ?_
    exact KQ (k:=fun _=>YX r1 j3_1 j3_2 j3_3 j3_4) () Qa
   refine Zl (ZN [1000,1001] [] Qa (zl _ rfl (Z8 ?_)))
   exact Kn [1000] [] Qa Qa Qa
  refine sK ?_
  exact KQ (k:=fun _=>YX r1 j3_1 j3_2 j3_3 j3_4) () Qa
 refine sG (xR 4 Qa ?_)
 refine xS (Qi r5.Kind 0) (fun h8=>?_) (fun h8=>?_)
 ·refine xN (Qx Qa h8) Qa (xR 4 Qa (xE ?_))
  exact QQ true Qa
 refine xO (Qw Qa h8) Qa (xR 1 Qa (Vo (OJ [59]) [.agg [I r5.Kind,S r5.Text,I r5.N,I r5.At],YR] [(1000,1001)] [] [] Qa Tryz.func117 rfl Tryz.ntmps117 rfl Qa Qa Qa (Qg Qd (sq9 r5 [59]) Qa (K6 (fun j9=>⟨[(3,B j9)],OJ [59]⟩:Bool→St) ?_ ?_))))
 ·refine sG (xR 4 Qa ?_)
  refine xS (Qi r5.Kind 3) (fun h10=>?_) (fun h10=>?_)
  ·refine xO (Qq Qa h10) Qa (xR 5 Qa (xE ?_))
   exact QQ (QP r5.Text [59]) Qa
  refine xN (Qr Qa h10) Qa (xR 5 Qa (xE ?_))
  exact QQ false Qa
 rintro j9
 refine sT (Q4 (.id) [1000] [] (B j9) Qa Qa (WQ (xR 2 Qa (xE ?_))))
 exact QQ (!j9) Qa
def RB (a0r:Ko) (recl1:Int→Option ((List UInt8) × Ko)) (l1:Int):Option ((List UInt8) × Ko) :=
 cond (QO l1 (Qc (List.map YH.cs a0r.tks)))
  ((Q8 a0r.tks l1).bind fun x2 =>
  (cond (Qi x2.Kind 3)
   (some (!QP x2.Text [123]))
   (some false)).bind fun j3 =>
  cond j3
   (some (x2.Text,(⟨a0r.tks,wi (l1+1),a0r.length,[]⟩:Ko)))
   (recl1 (wi (l1+1))))
  (some ([],(⟨a0r.tks,l1,a0r.length,[]⟩:Ko)))
def Bd (n:Nat) (a0r:Ko):Option ((List UInt8) × Ko) :=
 QZ (fun recl1 l1=>RB a0r recl1 l1) n a0r.pos
def ek:=fun x0=>([(3, .box 98 (Ya (YH.cs x0)))]:List (Nat × Blk))
theorem ND (n:Nat) (a0r:Ko) (h03w:Option Addr) (h03l h03c:Nat):∀ r,Bd n a0r=some r→WF Tryz.prog 98 [YR] (Go.Abs.look [(1000, .box 95 [.p (.sl 4 (Hr a0r.tks)),I a0r.pos,I a0r.length,hS h03w h03l h03c])]) (Xo (fun r:(List UInt8) × Ko=>((.ret (S r.1),[(1000, .box 95 [.p (.sl 4 (Hr r.2.tks)),I r.2.pos,I r.2.length,hS h03w h03l h03c])]):QX × List (Nat × Blk))) r):=by
 refine Y3 (X:=fun r:(List UInt8) × Ko=>((.ret (S r.1),(GH r.2.tks r.2.pos r.2.length (.slice h03w h03l h03c))):QX × List (Nat × Blk))) (GH a0r.tks a0r.pos a0r.length (.slice h03w h03l h03c)) Tryz.func98 rfl Tryz.ntmps98 rfl ?_
 unfold Bd
 refine Qg Qd ⟨[(0,YR)],GH a0r.tks a0r.pos a0r.length (.slice h03w h03l h03c)⟩ Qa (sS (sB (QI (fun l1=>⟨[(0,YR)],GH a0r.tks l1 a0r.length (.slice h03w h03l h03c)⟩:Int→St) (Xg Qa) ?_)))
 rintro recl1 l1
 show QV (RB a0r recl1 l1) _ _ _ _ _ _
 unfold RB
 refine sS (Qg Qd ⟨[(0,YR),(13,B (QO l1 (Qc (Hr a0r.tks))))],GH a0r.tks l1 a0r.length (.slice h03w h03l h03c)⟩ Qa (sC (QO l1 (Qc (Hr a0r.tks))) Qa ?_ ?_))
 rotate_left
 ·refine Qz (ZW (KM (QW (Qp ⟨[],GH a0r.tks l1 a0r.length (.slice h03w h03l h03c)⟩ Qa (Qg Qd ⟨[(2,S [])],GH a0r.tks l1 a0r.length (.slice h03w h03l h03c)⟩ Qa (sT ?_))))))
  exact YW (.id) [1000] [] Qa Qa Qa Qa
 refine sK (Qp ⟨[(0,YR)],GH a0r.tks l1 a0r.length (.slice h03w h03l h03c)⟩ Qa (sB (sS (Vq Qd rfl (xR 8 Qa ?_)))))
 refine xG Qa Qa (QN (e:=98) (S:=4) (enc:=YH.cs) (l:=a0r.tks) (k:=.i64) (n:=l1) (sv:=.p (.sl 4 (Hr a0r.tks))) rfl Qa Qa Qa Qa Qa) (fun x2=>?_)
 refine xR 3 Qa (YB Qa (Qp ⟨[(0,YR),qq 3],ek x2++GH a0r.tks l1 a0r.length (.slice h03w h03l h03c)⟩ Qa (Qg Qd ⟨[(0,YR),qq 3],ek x2++GH a0r.tks (wi (l1+1)) a0r.length (.slice h03w h03l h03c)⟩ Qa (K6 (fun j3=>⟨[(0,YR),qq 3,(38,B j3)],ek x2++GH a0r.tks (wi (l1+1)) a0r.length (.slice h03w h03l h03c)⟩:Bool→St) ?_ ?_))))
 ·refine sG (xR 4 Qa ?_)
  refine xS (Qi x2.Kind 3) (fun h4=>?_) (fun h4=>?_)
  ·refine xO (Qq Qa h4) Qa (xR 3 Qa (xE ?_))
   exact QQ (!QP x2.Text [123]) Qa
  refine xN (Qr Qa h4) Qa (xR 3 Qa (xE ?_))
  exact QQ false Qa
 rintro j3
 refine sC j3 Qa ?_ ?_
 ·refine Qg Qd ⟨[(2,S x2.Text)],GH a0r.tks (wi (l1+1)) a0r.length (.slice h03w h03l h03c)⟩ Qa (sT (Zd (KH (Zd (Q7 ?_)))))
  exact YW (.id) [1000] [] Qa Qa Qa Qa
 refine sK (Q6 ?_)
 exact KQ (wi (l1+1)) Qa
def Uh (r1:YH) (r3:YH) (r5:Int) (j6_1:List (List PV)) (j6_2:List YH) (j6_3:Int) (j6_4:Int) (j6_5:List ZX):Option Vz :=
 some (.ok ((⟨2,r3.Text,r5,r1.At,j6_1⟩:GN),(⟨j6_2,j6_3,j6_4,j6_5⟩:Ko)))
abbrev ty5:=((List (List PV)) × (List YH) × Int × Int × Int × (List UInt8) × Int × Int)
def RD (n:Nat) (a0r:Ko) (recl9:ty5→Option nG) (l9_1:List (List PV)) (l9_2:List YH) (l9_3:Int) (l9_4:Int) (l9_5:Int) (l9_6:List UInt8) (l9_7:Int) (l9_8:Int):Option nG :=
 (cond (Qi l9_5 1)
  ((V6 n l9_6).bind fun r12 =>
  some r12)
  (some false)).bind fun j10 =>
 cond j10
  (((FU n (⟨l9_2,wi (l9_3+1),l9_4,[]⟩:Ko)).bind fun r14 =>
  cond (ZB (List.length ([]++r14.1)) 64) (
   some ([]++r14.1,r14.2.tks,r14.2.pos,r14.2.length)) none).bind fun (j13_1,j13_2,j13_3,j13_4) =>
  cond (ZB (List.length (l9_1++[GN.cs (⟨3,l9_6,0,l9_8,j13_1⟩:GN)])) 64) (
   (Yr n (⟨j13_2,j13_3,j13_4,a0r.dg⟩:Ko)).bind fun r15 =>
   recl9 (l9_1++[GN.cs (⟨3,l9_6,0,l9_8,j13_1⟩:GN)],j13_2,j13_3,j13_4,r15.Kind,r15.Text,r15.N,r15.At)) none)
  (some (l9_1,l9_2,l9_3,l9_4))
abbrev MJ:=((List (List PV)) × (List YH) × Int × Int × (List ZX))
def Xq (j7_1:List (List PV)) (j19_1:List (List PV)) (j19_2:List YH) (j19_3:Int) (j19_4:Int) (j19_5:List ZX):Option MJ :=
 cond (ZB (List.length ((([]++j7_1)++[])++j19_1)) 64) (
  some ((([]++j7_1)++[])++j19_1,j19_2,j19_3,j19_4,j19_5)) none
def FX (n:Nat) (j7_1:List (List PV)) (recl20:MJ→Option MJ) (l20_1:List (List PV)) (l20_2:List YH) (l20_3:Int) (l20_4:Int) (l20_5:List ZX):Option MJ :=
 (C9 n (⟨l20_2,l20_3,l20_4,l20_5⟩:Ko)).bind fun r21 =>
 cond (!r21)
  ((Yr n (⟨l20_2,l20_3,l20_4,l20_5⟩:Ko)).bind fun r22 =>
  (cond (Qi r22.Kind 3)
   (some (QP r22.Text [125]))
   (some false)).bind fun j23 =>
  cond j23
   (cond (ZB (List.length ((([]++j7_1)++[])++l20_1)) 64) (
    some ((([]++j7_1)++[])++l20_1,l20_2,wi (l20_3+1),l20_4,l20_5)) none)
   (((RA n (⟨l20_2,l20_3,l20_4,[]⟩:Ko)).bind (Rk (fun r26 =>
    some (true,[],r26.2.tks,r26.2.pos,r26.2.length,l20_5,r26.1.Kind,r26.1.Name,r26.1.N,r26.1.At,r26.1.Kids)) fun e27=>cond (ZB (List.length (l20_5++[(⟨7,e27.1⟩:ZX)])) 16) (
    (Bd n (⟨e27.2.tks,e27.2.pos,e27.2.length,[]⟩:Ko)).bind fun r28 =>
    some (false,r28.1,r28.2.tks,r28.2.pos,r28.2.length,l20_5++[(⟨7,e27.1⟩:ZX)],0,[],0,0,[])) none)).bind fun (j25_1,j25_2,j25_3,j25_4,j25_5,j25_6,j25_7,j25_8,j25_9,j25_10,j25_11) =>
   cond j25_1
    (cond (ZB (List.length (l20_1++[GN.cs (⟨j25_7,j25_8,j25_9,j25_10,j25_11⟩:GN)])) 64) (
     recl20 (l20_1++[GN.cs (⟨j25_7,j25_8,j25_9,j25_10,j25_11⟩:GN)],j25_3,j25_4,j25_5,j25_6)) none)
    (cond (!QP j25_2 [59])
     (cond (ZB (List.length ((([]++j7_1)++[])++l20_1)) 64) (
      some ((([]++j7_1)++[])++l20_1,j25_3,j25_4,j25_5,j25_6)) none)
     (recl20 (l20_1,j25_3,j25_4,j25_5,j25_6)))))
  (Xq j7_1 l20_1 l20_2 l20_3 l20_4 l20_5)
def V7 (n:Nat) (a0r:Ko) (r1:YH) (r3:YH) (r5:Int) (j7_1:List (List PV)) (j7_2:List YH) (j7_3:Int) (j7_4:Int):Option Vz :=
 cond (ZB (List.length (([]++j7_1)++[])) 64) (
  (QZ (fun recl20 (l20_1,l20_2,l20_3,l20_4,l20_5)=>FX n j7_1 recl20 l20_1 l20_2 l20_3 l20_4 l20_5) n ([],j7_2,wi (j7_3+1),j7_4,a0r.dg)).bind fun (j18_1,j18_2,j18_3,j18_4,j18_5) =>
  Uh r1 r3 r5 j18_1 j18_2 j18_3 j18_4 j18_5) none
def Xr (a0r:Ko) (r1:YH) (r3:YH) (r5:Int) (j35_1:List (List PV)) (j35_2:List YH) (j35_3:Int) (j35_4:Int):Option Vz :=
 some (.ok ((⟨2,r3.Text,r5,r1.At,j35_1⟩:GN),(⟨j35_2,j35_3,j35_4,a0r.dg⟩:Ko)))
def FY (n:Nat) (a0r:Ko) (recl38:ty5→Option nG) (l38_1:List (List PV)) (l38_2:List YH) (l38_3:Int) (l38_4:Int) (l38_5:Int) (l38_6:List UInt8) (l38_7:Int) (l38_8:Int):Option nG :=
 (cond (Qi l38_5 1)
  ((V6 n l38_6).bind fun r41 =>
  some r41)
  (some false)).bind fun j39 =>
 cond j39
  (((FU n (⟨l38_2,wi (l38_3+1),l38_4,[]⟩:Ko)).bind fun r43 =>
  cond (ZB (List.length ([]++r43.1)) 64) (
   some ([]++r43.1,r43.2.tks,r43.2.pos,r43.2.length)) none).bind fun (j42_1,j42_2,j42_3,j42_4) =>
  cond (ZB (List.length (l38_1++[GN.cs (⟨3,l38_6,0,l38_8,j42_1⟩:GN)])) 64) (
   (Yr n (⟨j42_2,j42_3,j42_4,a0r.dg⟩:Ko)).bind fun r44 =>
   recl38 (l38_1++[GN.cs (⟨3,l38_6,0,l38_8,j42_1⟩:GN)],j42_2,j42_3,j42_4,r44.Kind,r44.Text,r44.N,r44.At)) none)
  (some (l38_1,l38_2,l38_3,l38_4))
def V9 (a0r:Ko) (r1:YH) (r3:YH) (r5:Int) (j36_1:List (List PV)) (j36_2:List YH) (j36_3:Int) (j36_4:Int):Option Vz :=
 cond (ZB (List.length (([]++j36_1)++[])) 64) (
  Xr a0r r1 r3 r5 (([]++j36_1)++[]) j36_2 (wi (j36_3+1)) j36_4) none
def WW (n:Nat) (a0r:Ko) (r1:YH) (r3:YH):Option Vz :=
 (XQ n r1.Text).bind fun r5 =>
 cond (Qi r5 7)
  (((Yr n (⟨a0r.tks,wi ((wi (a0r.pos+1))+1),a0r.length,a0r.dg⟩:Ko)).bind fun r8 =>
  QZ (fun recl9 (l9_1,l9_2,l9_3,l9_4,l9_5,l9_6,l9_7,l9_8)=>RD n a0r recl9 l9_1 l9_2 l9_3 l9_4 l9_5 l9_6 l9_7 l9_8) n ([],a0r.tks,wi ((wi (a0r.pos+1))+1),a0r.length,r8.Kind,r8.Text,r8.N,r8.At)).bind fun (j7_1,j7_2,j7_3,j7_4) =>
  cond (ZB (List.length ([]++j7_1)) 64) (
   (Yr n (⟨j7_2,j7_3,j7_4,a0r.dg⟩:Ko)).bind fun r16 =>
   (cond (Qi r16.Kind 0)
    (some true)
    ((cond (Qi r16.Kind 3)
     (some (QP r16.Text [123]))
     (some false)).bind fun j31 =>
    some (!j31))).bind fun j29 =>
   cond j29
    ((XU n (⟨j7_2,j7_3,j7_4,a0r.dg⟩:Ko)).bind (Rk (fun r33 =>
     V7 n a0r r1 r3 r5 j7_1 j7_2 j7_3 j7_4) fun e34=>some (.error (e34,(⟨j7_2,j7_3,j7_4,a0r.dg⟩:Ko)))))
    (V7 n a0r r1 r3 r5 j7_1 j7_2 j7_3 j7_4)) none)
  (((Yr n (⟨a0r.tks,wi ((wi (a0r.pos+1))+1),a0r.length,a0r.dg⟩:Ko)).bind fun r37 =>
  QZ (fun recl38 (l38_1,l38_2,l38_3,l38_4,l38_5,l38_6,l38_7,l38_8)=>FY n a0r recl38 l38_1 l38_2 l38_3 l38_4 l38_5 l38_6 l38_7 l38_8) n ([],a0r.tks,wi ((wi (a0r.pos+1))+1),a0r.length,r37.Kind,r37.Text,r37.N,r37.At)).bind fun (j36_1,j36_2,j36_3,j36_4) =>
  cond (ZB (List.length ([]++j36_1)) 64) (
   (Yr n (⟨j36_2,j36_3,j36_4,a0r.dg⟩:Ko)).bind fun r45 =>
   (cond (Qi r45.Kind 0)
    (some true)
    ((cond (Qi r45.Kind 3)
     (some (QP r45.Text [59]))
     (some false)).bind fun j49 =>
    some (!j49))).bind fun j47 =>
   cond j47
    ((XU n (⟨j36_2,j36_3,j36_4,a0r.dg⟩:Ko)).bind (Rk (fun r51 =>
     V9 a0r r1 r3 r5 j36_1 j36_2 j36_3 j36_4) fun e52=>some (.error (e52,(⟨j36_2,j36_3,j36_4,a0r.dg⟩:Ko)))))
    (V9 a0r r1 r3 r5 j36_1 j36_2 j36_3 j36_4)) none)
def WX (n:Nat) (a0r:Ko) (r1:YH):Option Vz :=
 (Yr n (⟨a0r.tks,wi (a0r.pos+1),a0r.length,a0r.dg⟩:Ko)).bind fun r3 =>
 (cond (Qi r3.Kind 0)
  (some true)
  ((cond (Qi r3.Kind 1)
   ((Hf n r3.Text).bind fun r57 =>
   some r57)
   (some false)).bind fun j55 =>
  some (!j55))).bind fun j53 =>
 cond j53
  ((XU n (⟨a0r.tks,wi (a0r.pos+1),a0r.length,a0r.dg⟩:Ko)).bind (Rk (fun r58 =>
   WW n a0r r1 r3) fun e59=>some (.error (e59,(⟨a0r.tks,wi (a0r.pos+1),a0r.length,a0r.dg⟩:Ko)))))
  (WW n a0r r1 r3)
def E5 (n:Nat) (a0r:Ko):Option Vz :=
 (Yr n a0r).bind fun r1 =>
 (cond (Qi r1.Kind 0)
  (some true)
  ((cond (Qi r1.Kind 1)
   ((Dm n r1.Text).bind fun r64 =>
   some r64)
   (some false)).bind fun j62 =>
  some (!j62))).bind fun j60 =>
 cond j60
  ((XU n a0r).bind (Rk (fun r65 =>
   WX n a0r r1) fun e66=>some (.error (e66,a0r))))
  (WX n a0r r1)
def Qcq:=fun x0 x1 x2 x3=>(.box 95 [.p (.sl 4 (List.map YH.cs x0)),I x1,I x2, .tsl 2 (List.map ZX.cs x3) 1103]:Blk)
def WE:=fun x0=>(.arr 65 2 (List.map ZX.cs x0).length:Blk)
def Be:=fun x0 x1 x2 x3=>([(1000,(Qcq x0 x1 x2 x3)),(1103,(WE x3))]:List (Nat × Blk))
def OM:=fun x0 x1 x2 x3=>(.box 95 [.p (.sl 4 (List.map YH.cs x0)),I x1,I x2, .tsl 2 (List.map ZX.cs x3) 1001]:Blk)
def Bf:=fun x0 x1 x2 x3 x4=>([(1000,(OM x0 x1 x2 x3)),(1001,(WE x3)),(1002,(bq5 x4))]:List (Nat × Blk))
def nq0:List (Nat × Nat):=[(1002,401),(1000,1000),(1001,1103)]
def bY:=fun x0=>([(0, .ptr 1000 0),(1, .fn x0 [] [.ptr 1002 0]),(4, .ptr 4 0)]:List (Nat × AV))
def bZ:=fun x0=>([(0, .ptr 1000 0),(1, .fn x0 [] [.ptr 1002 0]),(4, .ptr 4 0),(5, .ptr 5 0)]:List (Nat × AV))
def QaG:=fun x0 x1=>([(1, .ptr 1 0),(2, .ptr 2 0),(3, .ptr 3 0),(4,S (YH.Text x0)),(5,I x1)]:List (Nat × AV))
def Qcr:Blk:=.box 99 [.fn (.func 106) [.ptr 1000 0] [], .fn (.func 108) [] [.ptr 1002 0]]
def Bg:=fun x0 x1 x2 x3=>([(1000,(OM x0 x1 x2 x3)),(1001,(WE x3)),(1002, .box 93 [.ptr 1000 0]),(1003,Qcr)]:List (Nat × Blk))
def Qcs:=fun x0 x1 x2=>(.box 24 [I 2,S (YH.Text x0),I x1,I (YH.At x2), .p (.val (.slice none 0 0))]:Blk)
def NN:=fun x0 x1 x2=>([(10,(LA 0 [] 0 0)),(11,(Qcs x0 x1 x2))]:List (Nat × Blk))
def eu:=fun x0 x1 x2 x3=>(.box 24 [I 2,S (YH.Text x0),I x1,I (YH.At x2), .tsl 5 (List.map KP x3) 300]:Blk)
def Bh:=fun x0 x1 x2 x3=>([(10,(LA 0 [] 0 0)),(11,(eu x0 x1 x2 x3))]:List (Nat × Blk))
def yX:=fun x0 x1 x2 x3=>([(10, .ptr 10 0),(11, .ptr 11 0),(13, .fn x0 [.ptr 1000 0] []),(20,x1),(21,I x2),(22,I x3)]:List (Nat × AV))
def VA:=fun x0 x1 x2 x3=>([(1000,(OM x0 x1 x2 x3)),(1001,(WE x3))]:List (Nat × Blk))
def OO:List (Nat × Blk):=[(1, .box 93 [.ptr 1000 0])]
def eB:=fun x0 x1 x2 x3=>(⟨[(1, .ptr 1 0)],OO++VA x0 x1 x2 x3⟩:St)
def zL:List (Nat × AV):=[(1, .ptr 1 0),(3, .p (.val (.slice none 0 0)))]
def df:List (Nat × AV):=[(1, .ptr 1 0),(3, .p (.val (.slice none 0 0))),(4, .ptr 4 0)]
def dh:=fun x0=>([(1, .box 93 [.ptr 1000 0]),(4, .box 98 (Ya (YH.cs x0)))]:List (Nat × Blk))
def QaH:=fun x0=>([(1, .ptr 1 0),(3, .tsl 5 (List.map KP x0) 300),(4, .ptr 4 0)]:List (Nat × AV))
def dm:=fun x0 x1 x2 x3=>([(1, .box 93 [.ptr 1000 0]),(4,(bq0 x0 x1 x2 x3))]:List (Nat × Blk))
def xD:=fun x0 x1 x2 x3 x4 x5 x6 x7 x8=>(⟨QaH x0,dm x1 x2 x3 x4++TE x0++VA x5 x6 x7 x8⟩:St)
def QaI:=fun x0 x1=>([(1, .ptr 1 0),(3, .tsl 5 (List.map KP x0) 300),(4, .ptr 4 0),(14,B x1)]:List (Nat × AV))
def Qct:Blk:=.box 99 [.fn (.func 118) [] [.ptr 1002 0]]
def Hg:=fun x0 x1 x2 x3=>([(1000,(OM x0 x1 x2 x3)),(1001,(WE x3)),(1002, .box 93 [.ptr 1000 0]),(1003,Qct)]:List (Nat × Blk))
def nq1:List (Nat × Nat):=[(1002,1),(1003,29),(1000,1000),(1001,1001)]
def eD:=fun x0 x1 x2=>([(1,I x0),(2,S x1),(3,I 0),(4,x2),(5, .ptr 5 0),(10, .ptr 10 0)]:List (Nat × AV))
def dn:=fun x0 x1 x2 x3=>(.box 24 [I x0,S x1,I 0,I x2, .tsl 5 (List.map KP x3) 300]:Blk)
def OP:=fun x0 x1 x2 x3=>([(10,(LA 0 [] 0 0)),(11,(dn x0 x1 x2 x3))]:List (Nat × Blk))
def dw:=fun x0 x1 x2 x3 x4 x5 x6 x7 x8=>(⟨QaH x0,dm x1 x2 x3 x4++Gz x0++VA x5 x6 x7 x8⟩:St)
def Qcu:=fun x0 x1 x2 x3 x4=>([(1, .ptr 1 0),(3, .tsl 5 (List.map KP x0) 300),(33, .agg [I x1,S x2,I x3,I x4])]:List (Nat × AV))
def QaJ:=fun x0 x1 x2 x3 x4 x5 x6 x7 x8=>(⟨Qcu x0 x1 x2 x3 x4,OO++Gz x0++VA x5 x6 x7 x8⟩:St)
def xH:=fun x0 x1 x2 x3=>([(10, .ptr 10 0),(11, .ptr 11 0),(13, .fn x0 [] [.ptr 1002 0]),(20,x1),(21,I x2),(22,I x3)]:List (Nat × AV))
def E8:=fun x0 x1 x2 x3=>([(1000,(OM x0 x1 x2 x3)),(1001,(WE x3)),(1002, .box 93 [.ptr 1000 0])]:List (Nat × Blk))
def nq2:List (Nat × Nat):=[(1000,1000),(1001,1001),(1002,1002)]
def dx:=fun x0 x1 x2 x3=>(⟨[(0, .ptr 1002 0)],E8 x0 x1 x2 x3⟩:St)
def dz:=fun x0 x1 x2 x3 x4 x5 x6 x7=>(⟨GA (.bsl 1003 1) 1 x0,OP 3 x1 x2 x3++Gz x3++Hg x4 x5 x6 x7⟩:St)
def mK:=fun x0 x1 x2 x3 x4 x5 x6 x7 x8=>(⟨GA (.bsl 1003 2) 2 x0,Bh x1 x2 x3 x4++Gz x4++Bg x5 x6 x7 x8⟩:St)
def Bi:=fun x0 x1 x2 x3 x4=>([(1000,(OM x0 x1 x2 x3)),(1001,(WE x3)),(1002, .box 9 [S x4])]:List (Nat × Blk))
def nq3:List (Nat × Nat):=[(1002,401),(1000,1000),(1001,1001)]
def Qcv:Blk:=.box 99 [.fn (.func 106) [.ptr 1000 0] [], .fn (.func 104) [] [.ptr 1002 0], .fn (.func 107) [.ptr 1000 0] []]
def Lm:=fun x0 x1 x2 x3=>([(1000,(OM x0 x1 x2 x3)),(1001,(WE x3)),(1002, .box 93 [.ptr 1000 0]),(1003,Qcv)]:List (Nat × Blk))
def xI:=fun x0 x1 x2 x3 x4 x5 x6 x7 x8=>(⟨GA (.bsl 1003 3) 3 x0,Bh x1 x2 x3 x4++Gz x4++Lm x5 x6 x7 x8⟩:St)
def eF:=fun x0=>([(32, .arr 24 5 (List.map KP x0).length)]:List (Nat × Blk))
def eG:=fun x0 x1 x2 x3 x4=>(⟨[(2, .tsl 5 (List.map KP x0) 32)],eF x0++VA x1 x2 x3 x4⟩:St)
def mM:=fun x0=>([(1, .ptr 1 0),(3, .tsl 5 (List.map KP x0) 32)]:List (Nat × AV))
def xJ:=fun x0=>([(1, .box 93 [.ptr 1000 0]),(32, .arr 24 5 (List.map KP x0).length)]:List (Nat × Blk))
def QaK:=fun x0=>([(1, .ptr 1 0),(3, .tsl 5 (List.map KP x0) 32),(4, .ptr 4 0)]:List (Nat × AV))
def QaL:=fun x0 x1=>([(1, .box 93 [.ptr 1000 0]),(4,(wy x0)),(32, .arr 24 5 (List.map KP x1).length)]:List (Nat × Blk))
def eH:=fun x0 x1 x2 x3=>([(1000,(OM x0 x1 x2 x3)),(1001,(WE x3)),(1002, .box 93 [.ptr 1000 0]),(1003,(LA 0 [] 0 0))]:List (Nat × Blk))
def QaM:=fun x0=>([(1, .fn x0 [] [.ptr 1002 0, .ptr 1003 0]),(4, .ptr 1901 0),(5, .ptr 1902 0)]:List (Nat × AV))
def eO:=fun x0=>([(1900, .box 93 [.ptr 1000 0]),(1901, .box 4 [B x0]),(1902, .box 9 [S []])]:List (Nat × Blk))
def nq4:List (Nat × Nat):=[(1000,1000),(1001,1001),(1002,1002),(1003,1003)]
def QaN:=fun x0 x1 x2 x3 x4=>([(1000,(OM x0 x1 x2 x3)),(1001,(WE x3)),(1002, .box 93 [.ptr 1000 0]),(1003, .box 24 (Ya (GN.cs x4)))]:List (Nat × Blk))
def nq5:List (Nat × Nat):=[(1000,1000),(1001,1001),(1002,1900),(1003,1901),(1004,1902)]
def OQ:=fun x0=>([(1002, .box 93 [.ptr 1000 0]),(1003, .box 4 [B x0]),(1004, .box 9 [S []])]:List (Nat × Blk))
def QaO:List (Nat × AV):=[(0, .ptr 1002 0),(1, .ptr 1003 0),(2, .ptr 1004 0),(3, .p (.val (.nilIface))),(8,B true)]
def QaP:=fun x0=>([(0, .ptr 1002 0),(1, .ptr 1003 0),(2, .ptr 1004 0),(3, .ifc 149 (.agg [I x0])),(8,B false)]:List (Nat × AV))
def QaQ:=fun x0=>([(0, .ptr 1002 0),(1, .ptr 1003 0),(2, .ptr 1004 0),(3, .ifc 149 (.agg [I x0]))]:List (Nat × AV))
def QaR:=fun x0=>([(0, .ptr 1002 0),(1, .ptr 1003 0),(2, .ptr 1004 0),(3, .ifc 149 (.agg [I x0])),(4, .ptr 4 0),(5,B true)]:List (Nat × AV))
def xK:=fun x0=>([(4, .box 149 [I x0])]:List (Nat × Blk))
def QaS:=fun x0=>([(0, .ptr 1002 0),(1, .ptr 1003 0),(2, .ptr 1004 0),(3, .ifc 149 (.agg [I x0])),(4, .ptr 4 0),(15,B false)]:List (Nat × AV))
def QaT:List (Nat × AV):=[(0, .ptr 1002 0),(1, .ptr 1003 0),(2, .ptr 1004 0),(4, .ptr 4 0)]
def QaU:List (Nat × AV):=[(0, .ptr 1002 0),(1, .ptr 1003 0),(2, .ptr 1004 0)]
abbrev yY (x:List ZX):Go.Abs.Blk:=.arr 65 2 (Wm x).length
abbrev sH (x:List (List PV)):Go.Abs.Blk:=.arr 24 5 (mI x).length
theorem zM (n:Nat) (a0r:Ko):∀ r,E5 n a0r=some r→WF Tryz.prog 75 [YR] (Go.Abs.look [(1000, .box 95 [.p (.sl 4 (Hr a0r.tks)),I a0r.pos,I a0r.length, .tsl 2 (Wm a0r.dg) 1103]),(1103,yY a0r.dg)]) (Xo (CL (fun r:GN × Ko=>((.ret (ag (GN.cs r.1)),[(1000, .box 95 [.p (.sl 4 (Hr r.2.tks)),I r.2.pos,I r.2.length, .tsl 2 (Wm r.2.dg) 1103]),(1103,yY r.2.dg)]):QX × List (Nat × Blk))) (fun e:Int × Ko=>((.panic (.ifc 149 (.agg [I e.1])),[(1000, .box 95 [.p (.sl 4 (Hr e.2.tks)),I e.2.pos,I e.2.length, .tsl 2 (Wm e.2.dg) 1103]),(1103,yY e.2.dg)]):QX × List (Nat × Blk)))) r):=by
 refine Y3 (X:=CL (fun r:GN × Ko=>((.ret (ag (GN.cs r.1)),(Be r.2.tks r.2.pos r.2.length r.2.dg)):QX × List (Nat × Blk))) (fun e:Int × Ko=>((.panic (.ifc 149 (.agg [I e.1])),(Be e.2.tks e.2.pos e.2.length e.2.dg)):QX × List (Nat × Blk)))) (Be a0r.tks a0r.pos a0r.length a0r.dg) Tryz.func75 rfl Tryz.ntmps75 rfl ?_
 unfold E5
 refine Qg Qd ⟨[qq 1,qq 2],bX++Be a0r.tks a0r.pos a0r.length a0r.dg⟩ Qa (sS (EU ⟨[qq 1,qq 2],bX++Be a0r.tks a0r.pos a0r.length a0r.dg⟩ Qa (zu [0] 3 3 [1,2,3,4] Qd rfl Qa Qa (QR (Zq YR Qa rfl) (Ql)) Qa (Pe (f:=100) (args:=[.p (.val (.func (.func 101) #[] #[]))]) (dst:=some 9) Qa Qa rfl (Zy (hc:=[]) (args':=[.p (.val (.func (.func 101) #[] #[]))]) [(1,401)] [] [] Tryz.func100 rfl Tryz.ntmps100 rfl Qa Qa Qa (Qg Qd (sq6 (.func (.func 101) #[] #[])) Qa (Qg Qd (sq7 (.func (.func 101) #[] #[])) Qa ?_)))))))
 refine sT (Q4 (.id) [1] [] (.fn (.func 116) [] [.ptr 1 0]) Qa Qa (kf [0] Qa (QR (Zq YR Qa rfl) (Ql)) Qa (Pe (f:=99) (args:=[YR, .fn (.func 116) [] [.ptr 401 0]]) (dst:=some 10) Qa Qa rfl (Zy (hc:=(Bf a0r.tks a0r.pos a0r.length a0r.dg (.func (.func 101) #[] #[]))) (args':=[YR, .fn (.func 116) [] [Lx]]) nq0 [] [] Tryz.func99 rfl Tryz.ntmps99 rfl Qa Qa Qa (Qg Qd ⟨bY (.func 116),xw++Bf a0r.tks a0r.pos a0r.length a0r.dg (.func (.func 101) #[] #[])⟩ Qa (sS (sG ?_)))))))
 refine xR 1 Qa ?_
 refine H8 [.ro [.id, .id, .id, .sl 2]] Qa (KJ n a0r) Qa Qa QS (fun r1=>?_)
 refine xR 2 Qa (xE (Qp ⟨bZ (.func 116),UI r1++Bf a0r.tks a0r.pos a0r.length a0r.dg (.func (.func 101) #[] #[])⟩ Qa (ZR (fun _=>⟨xx,UI r1++Bf a0r.tks a0r.pos a0r.length a0r.dg (.func (.func 101) #[] #[])⟩:Unit→St) (fun _=>WX n a0r r1) ?_ ?_)))
 rotate_left
 ·refine K6 (fun j60=>⟨xy j60,UI r1++Bf a0r.tks a0r.pos a0r.length a0r.dg (.func (.func 101) #[] #[])⟩:Bool→St) ?_ ?_
  rotate_left
  ·rintro j60
   refine sC j60 Qa ?_ ?_
   ·refine sG (xR 1 Qa ?_)
    refine Mh [.ro [.id, .id, .id, .sl 2]] Qa (X5 n a0r) Qa Qa QS QS (fun r65=>?_) (fun e66=>?_)
    ·refine xE ?_
     exact KQ (k:=fun _=>WX n a0r r1) () Qa
    refine Zl (ZN [1000,1001,1002] [] Qa (zl _ rfl (Z8 ?_)))
    exact Kn [1000,1103] [] Qa Qa Qa
   refine sK ?_
   exact KQ (k:=fun _=>WX n a0r r1) () Qa
  refine sG (xR 4 Qa ?_)
  refine xS (Qi r1.Kind 0) (fun h61=>?_) (fun h61=>?_)
  ·refine xN (Qx Qa h61) Qa (xR 4 Qa (xE ?_))
   exact QQ true Qa
  refine xO (Qw Qa h61) Qa (xR 1 Qa (Vo (yU (.func (.func 101) #[] #[])) [.agg [I r1.Kind,S r1.Text,I r1.N,I r1.At],YR] [(1000,1002)] [] [] Qa Tryz.func116 rfl Tryz.ntmps116 rfl Qa Qa Qa (Qg Qd (lY r1 (.func (.func 101) #[] #[])) Qa (K6 (fun j62=>⟨[(3,B j62)],yU (.func (.func 101) #[] #[])⟩:Bool→St) ?_ ?_))))
  ·refine sG (xR 4 Qa ?_)
   refine xS (Qi r1.Kind 1) (fun h63=>?_) (fun h63=>?_)
   ·refine xO (Qq Qa h63) Qa (xR 2 Qa ?_)
    refine xC [] Qa (Ah n r1.Text) Qa Qa QS (fun r64=>?_)
    refine xR 2 Qa (xE ?_)
    exact QQ r64 Qa
   refine xN (Qr Qa h63) Qa (xR 5 Qa (xE ?_))
   exact QQ false Qa
  rintro j62
  refine sT (Q4 (.id) [1000] [] (B j62) Qa Qa (WQ (xR 2 Qa (xE ?_))))
  exact QQ (!j62) Qa
 rintro _
 show QV (WX n a0r r1) _ _ _ _ _ _
 unfold WX
 refine Qg Qd ⟨[qq 4,qq 5],UI r1++Bf a0r.tks (wi (a0r.pos+1)) a0r.length a0r.dg (.func (.func 101) #[] #[])⟩ Qa (Qg Qd ⟨[qq 4],xz r1++Bf a0r.tks (wi (a0r.pos+1)) a0r.length a0r.dg (.func (.func 101) #[] #[])⟩ Qa (sT (Q4 (.id) [1000,1001,1002] [] (.agg [I r1.Kind,S r1.Text,I r1.N,I r1.At]) Qa Qa (kf [] Qa (Ql) Qa (f_q [0] Qa Qa (QR (Zq YR Qa rfl) (Ql)) (Qaq [] rfl Qa Qa (Ql) Qa (si ?_)))))))
 refine Qp ⟨lZ,zK r1++Be a0r.tks (wi (a0r.pos+1)) a0r.length a0r.dg⟩ Qa (sS (V5 [0] [0] [(1,[]),(2,[]),(3,[]),(4,[])] Qd rfl Qa Qa (K7 (f:=100) (args:=[.p (.val (.func (.func 103) #[] #[]))]) (dst:=some 12) Qa Qa (Zy (hc:=[]) (args':=[.p (.val (.func (.func 103) #[] #[]))]) [(1,401)] [] [] Tryz.func100 rfl Tryz.ntmps100 rfl Qa Qa Qa (Qg Qd (sq6 (.func (.func 103) #[] #[])) Qa (Qg Qd (sq7 (.func (.func 103) #[] #[])) Qa (sT ?_)))))))
 refine Q4 (.id) [1] [] (.fn (.func 116) [] [.ptr 1 0]) Qa Qa (kh [0] Qa (QR (Zq YR Qa rfl) (Ql)) Qa (K7 (f:=99) (args:=[YR, .fn (.func 116) [] [.ptr 401 0]]) (dst:=some 13) Qa Qa (Zy (hc:=(Bf a0r.tks (wi (a0r.pos+1)) a0r.length a0r.dg (.func (.func 103) #[] #[]))) (args':=[YR, .fn (.func 116) [] [Lx]]) nq0 [] [] Tryz.func99 rfl Tryz.ntmps99 rfl Qa Qa Qa (Qg Qd ⟨bY (.func 116),xw++Bf a0r.tks (wi (a0r.pos+1)) a0r.length a0r.dg (.func (.func 103) #[] #[])⟩ Qa (sS (sG (xR 1 Qa ?_)))))))
 refine H8 [.ro [.id, .id, .id, .sl 2]] Qa (KJ n (⟨a0r.tks,wi (a0r.pos+1),a0r.length,a0r.dg⟩:Ko)) Qa Qa QS (fun r3=>?_)
 refine xR 2 Qa (xE (Qp ⟨bZ (.func 116),UI r3++Bf a0r.tks (wi (a0r.pos+1)) a0r.length a0r.dg (.func (.func 103) #[] #[])⟩ Qa (ZR (fun _=>⟨xx,UI r3++Bf a0r.tks (wi (a0r.pos+1)) a0r.length a0r.dg (.func (.func 103) #[] #[])⟩:Unit→St) (fun _=>WW n a0r r1 r3) ?_ ?_)))
 rotate_left
 ·refine K6 (fun j53=>⟨xy j53,UI r3++Bf a0r.tks (wi (a0r.pos+1)) a0r.length a0r.dg (.func (.func 103) #[] #[])⟩:Bool→St) ?_ ?_
  rotate_left
  ·rintro j53
   refine sC j53 Qa ?_ ?_
   ·refine sG (xR 1 Qa ?_)
    refine Mh [.ro [.id, .id, .id, .sl 2]] Qa (X5 n (⟨a0r.tks,wi (a0r.pos+1),a0r.length,a0r.dg⟩:Ko)) Qa Qa QS QS (fun r58=>?_) (fun e59=>?_)
    ·refine xE ?_
     exact KQ (k:=fun _=>WW n a0r r1 r3) () Qa
    refine Zl (ZN [1000,1001,1002] [] Qa (zl _ rfl (Z8 ?_)))
    exact Kn [1000,1103] [] Qa Qa Qa
   refine sK ?_
   exact KQ (k:=fun _=>WW n a0r r1 r3) () Qa
  refine sG (xR 4 Qa ?_)
  refine xS (Qi r3.Kind 0) (fun h54=>?_) (fun h54=>?_)
  ·refine xN (Qx Qa h54) Qa (xR 4 Qa (xE ?_))
   exact QQ true Qa
  refine xO (Qw Qa h54) Qa (xR 1 Qa (Vo (yU (.func (.func 103) #[] #[])) [.agg [I r3.Kind,S r3.Text,I r3.N,I r3.At],YR] [(1000,1002)] [] [] Qa Tryz.func116 rfl Tryz.ntmps116 rfl Qa Qa Qa (Qg Qd (lY r3 (.func (.func 103) #[] #[])) Qa (K6 (fun j55=>⟨[(3,B j55)],yU (.func (.func 103) #[] #[])⟩:Bool→St) ?_ ?_))))
  ·refine sG (xR 4 Qa ?_)
   refine xS (Qi r3.Kind 1) (fun h56=>?_) (fun h56=>?_)
   ·refine xO (Qq Qa h56) Qa (xR 2 Qa ?_)
    refine xC [] Qa (Gx n r3.Text) Qa Qa QS (fun r57=>?_)
    refine xR 2 Qa (xE ?_)
    exact QQ r57 Qa
   refine xN (Qr Qa h56) Qa (xR 5 Qa (xE ?_))
   exact QQ false Qa
  rintro j55
  refine sT (Q4 (.id) [1000] [] (B j55) Qa Qa (WQ (xR 2 Qa (xE ?_))))
  exact QQ (!j55) Qa
 rintro _
 show QV (WW n a0r r1 r3) _ _ _ _ _ _
 unfold WW
 refine Qg Qd ⟨[qq 4,qq 5],UI r3++Bf a0r.tks (wi ((wi (a0r.pos+1))+1)) a0r.length a0r.dg (.func (.func 103) #[] #[])⟩ Qa (Qg Qd ⟨[qq 4],xz r3++Bf a0r.tks (wi ((wi (a0r.pos+1))+1)) a0r.length a0r.dg (.func (.func 103) #[] #[])⟩ Qa (sT (Q4 (.id) [1000,1001,1002] [] (.agg [I r3.Kind,S r3.Text,I r3.N,I r3.At]) Qa Qa (kh [] Qa (Ql) Qa (Jm [] Qa Qa (Ql) (Jm [] Qa Qa (Ql) (JH ?_)))))))
 refine Qp ⟨[qq 1,qq 2,qq 3,(4,S r3.Text)],zK r1++Be a0r.tks (wi ((wi (a0r.pos+1))+1)) a0r.length a0r.dg⟩ Qa (sS (sG (xR 2 Qa ?_)))
 refine xC [] Qa (Gv n r1.Text) Qa Qa QS (fun r5=>?_)
 refine xR 1 Qa (xE (Qp ⟨QaG r3 r5,zK r1++Be a0r.tks (wi ((wi (a0r.pos+1))+1)) a0r.length a0r.dg⟩ Qa (sS (Qg Qd ⟨[qq 1,qq 2,qq 3,(4,S r3.Text),(5,I r5),(19,B (Qi r5 7))],zK r1++Be a0r.tks (wi ((wi (a0r.pos+1))+1)) a0r.length a0r.dg⟩ Qa (sC (Qi r5 7) Qa ?_ ?_)))))
 rotate_left
 ·refine sK (Qp ⟨QaG r3 r5,zK r1++Be a0r.tks (wi ((wi (a0r.pos+1))+1)) a0r.length a0r.dg⟩ Qa (Qg Qd ⟨[qq 1,qq 2,qq 3,(4,S r3.Text),(5,I r5),(7, .fn (.func 108) [] [.ptr 1 0])],zK r1++Be a0r.tks (wi ((wi (a0r.pos+1))+1)) a0r.length a0r.dg⟩ Qa (sS (sG (xR 7 Qa (Vo (Bg a0r.tks (wi ((wi (a0r.pos+1))+1)) a0r.length a0r.dg) [.agg [I r1.Kind,S r1.Text,I r1.N,I r1.At],I 2,S r3.Text,I r5, .bsl 1003 2] [(1002,1),(1003,38),(1000,1000),(1001,1103)] [] [] Qa Tryz.func39 rfl Tryz.ntmps39 rfl Qa Qa Qa (Qg Qd ⟨l5 2 r3 r5 (.bsl 1003 2),lX r1++Bg a0r.tks (wi ((wi (a0r.pos+1))+1)) a0r.length a0r.dg⟩ Qa ?_)))))))
  refine Qg Qd ⟨xA (.bsl 1003 2),NN r3 r5 r1++Bg a0r.tks (wi ((wi (a0r.pos+1))+1)) a0r.length a0r.dg⟩ Qa (ZR (fun (j35_1,j35_2,j35_3,j35_4)=>⟨[qq 10,qq 11],Bh r3 r5 r1 j35_1++TE j35_1++Bg j35_2 j35_3 j35_4 a0r.dg⟩:nG→St) (fun (j35_1,j35_2,j35_3,j35_4)=>Xr a0r r1 r3 r5 j35_1 j35_2 j35_3 j35_4) ?_ ?_)
  ·rintro ⟨j35_1,j35_2,j35_3,j35_4⟩
   show QV (Xr a0r r1 r3 r5 j35_1 j35_2 j35_3 j35_4) _ _ _ _ _ _
   unfold Xr
   refine Qg Qd ⟨[qq 10],[(10,(eu r3 r5 r1 j35_1))]++TE j35_1++Bg j35_2 j35_3 j35_4 a0r.dg⟩ Qa (sT (Q4 (.agg [.id, .id, .id, .id, .sl 5]) [1000,1001,1002,1003] [] (.agg [I 2,S r3.Text,I r5,I r1.At, .p (.sl 5 (mI j35_1))]) Qa Qa (WQ (xR 1 Qa (xE (Qp ⟨[qq 2],[(2,(wy ⟨2,r3.Text,r5,r1.At,j35_1⟩))]++Be j35_2 j35_3 j35_4 a0r.dg⟩ Qa (sT ?_)))))))
   exact YW (.id) [1000,1103] [] Qa Qa Qa Qa
  refine Qg Qd ⟨GA (.bsl 1003 2) 2 0,NN r3 r5 r1++Bg a0r.tks (wi ((wi (a0r.pos+1))+1)) a0r.length a0r.dg⟩ Qa (sB (Vr 2 (Qg Qd ⟨Dq (.bsl 1003 2) 2 0 true,NN r3 r5 r1++Bg a0r.tks (wi ((wi (a0r.pos+1))+1)) a0r.length a0r.dg⟩ Qa (sS (Zm Qa (sK (Qp ⟨GA (.bsl 1003 2) 2 0,NN r3 r5 r1++Bg a0r.tks (wi ((wi (a0r.pos+1))+1)) a0r.length a0r.dg⟩ Qa ?_)))))))
  refine sS (sB (Qg Qd ⟨yX (.func 106) (.bsl 1003 2) 2 0,NN r3 r5 r1++Bg a0r.tks (wi ((wi (a0r.pos+1))+1)) a0r.length a0r.dg⟩ Qa (EU ⟨yX (.func 106) (.bsl 1003 2) 2 0,NN r3 r5 r1++Bg a0r.tks (wi ((wi (a0r.pos+1))+1)) a0r.length a0r.dg⟩ Qa (Zz (KT 24 5 300 [] [(11,4)] Qa) (V5 [0,1,2] [0,1] [(3,[]),(4,[]),(5,[]),(6,[])] Qd rfl Qa Qa (K7 (f:=106) (args:=[YR]) (dst:=some 29) Qa Qa (Zy (hc:=(VA a0r.tks (wi ((wi (a0r.pos+1))+1)) a0r.length a0r.dg)) (args':=[YR]) [(1000,1000),(1001,1001)] [] [] Tryz.func106 rfl Tryz.ntmps106 rfl Qa Qa Qa ?_)))))))
  refine Qg Qd (eB a0r.tks (wi ((wi (a0r.pos+1))+1)) a0r.length a0r.dg) Qa (Qg Qd ⟨zL,OO++VA a0r.tks (wi ((wi (a0r.pos+1))+1)) a0r.length a0r.dg⟩ Qa (K6 (fun (j36_1,j36_2,j36_3,j36_4)=>⟨[(3, .tsl 5 (mI j36_1) 300)],TE j36_1++VA j36_2 j36_3 j36_4 a0r.dg⟩:nG→St) ?_ ?_))
  ·refine sS (sG (xR 1 Qa ?_))
   refine H8 [.ro [.id, .id, .id, .sl 2]] Qa (KJ n (⟨a0r.tks,wi ((wi (a0r.pos+1))+1),a0r.length,a0r.dg⟩:Ko)) Qa Qa QS (fun r37=>?_)
   refine xR 2 Qa (xE (Qp ⟨df,dh r37++VA a0r.tks (wi ((wi (a0r.pos+1))+1)) a0r.length a0r.dg⟩ Qa (sB (EU ⟨df,dh r37++VA a0r.tks (wi ((wi (a0r.pos+1))+1)) a0r.length a0r.dg⟩ Qa (Zz (KT 24 5 300 [3] [] Qa) (QI (fun (l38_1,l38_2,l38_3,l38_4,l38_5,l38_6,l38_7,l38_8)=>(xD l38_1 l38_5 l38_6 l38_7 l38_8 l38_2 l38_3 l38_4 a0r.dg):ty5→St) (Xg Qa) ?_))))))
   rintro recl38 ⟨l38_1,l38_2,l38_3,l38_4,l38_5,l38_6,l38_7,l38_8⟩
   show QV (FY n a0r recl38 l38_1 l38_2 l38_3 l38_4 l38_5 l38_6 l38_7 l38_8) _ _ _ _ _ _
   unfold FY
   refine sS (K6 (fun j39=>⟨QaI l38_1 j39,dm l38_5 l38_6 l38_7 l38_8++TE l38_1++VA l38_2 l38_3 l38_4 a0r.dg⟩:Bool→St) ?_ ?_)
   ·refine sG (xR 4 Qa ?_)
    refine xS (Qi l38_5 1) (fun h40=>?_) (fun h40=>?_)
    ·refine xO (Qq Qa h40) Qa (xR 1 Qa ?_)
     refine xC [] Qa (X4 n l38_6) Qa Qa QS (fun r41=>?_)
     refine xR 1 Qa (xE ?_)
     exact QQ r41 Qa
    refine xN (Qr Qa h40) Qa (xR 3 Qa (xE ?_))
    exact QQ false Qa
   rintro j39
   refine sC j39 Qa ?_ ?_
   rotate_left
   ·refine Qz (ZW (KM (QW ?_)))
    exact QQ (l38_1,l38_2,l38_3,l38_4) Qa
   refine sK (Qp (xD l38_1 l38_5 l38_6 l38_7 l38_8 l38_2 l38_3 l38_4 a0r.dg) Qa (sS (sB (Qg Qd (xD l38_1 l38_5 l38_6 l38_7 l38_8 l38_2 (wi (l38_3+1)) l38_4 a0r.dg) Qa (sG (xR 6 Qa (Vo (Hg l38_2 (wi (l38_3+1)) l38_4 a0r.dg) [.agg [I l38_5,S l38_6,I l38_7,I l38_8],I 3,S l38_6,I 0, .bsl 1003 1] nq1 [] [] Qa Tryz.func39 rfl Tryz.ntmps39 rfl Qa Qa Qa ?_)))))))
   refine Qg Qd ⟨eD 3 l38_6 (.bsl 1003 1),[(5,(bq0 l38_5 l38_6 l38_7 l38_8)),(10,(LA 0 [] 0 0))]++Hg l38_2 (wi (l38_3+1)) l38_4 a0r.dg⟩ Qa (Qg Qd ⟨xA (.bsl 1003 1),Dn 3 l38_6 0 l38_8++Hg l38_2 (wi (l38_3+1)) l38_4 a0r.dg⟩ Qa (K6 (fun (j42_1,j42_2,j42_3,j42_4)=>⟨[qq 10,qq 11],OP 3 l38_6 l38_8 j42_1++TE j42_1++Hg j42_2 j42_3 j42_4 a0r.dg⟩:nG→St) ?_ ?_))
   rotate_left
   ·rintro ⟨j42_1,j42_2,j42_3,j42_4⟩
    refine Qg Qd ⟨[qq 10],[(10,(dn 3 l38_6 l38_8 j42_1))]++TE j42_1++Hg j42_2 j42_3 j42_4 a0r.dg⟩ Qa (sT (Q4 (.agg [.id, .id, .id, .id, .sl 5]) [1000,1001,1002,1003] [] (.agg [I 3,S l38_6,I 0,I l38_8, .p (.sl 5 (mI j42_1))]) Qa Qa (WQ (xR 1 Qa (xF Qa Qa (ZM (e:=24) (S:=5) (by_:=64) (enc:=KP) (tk:=300) (l:=l38_1) (l2:=[GN.cs (⟨3,l38_6,0,l38_8,j42_1⟩:GN)]) (xv:=.tsl 5 (mI [GN.cs (⟨3,l38_6,0,l38_8,j42_1⟩:GN)]) 31) rfl Qa Qa rfl Qa Qa Qa rfl Qa) (xR 1 Qa (xE ?_)))))))
    refine Q6 (Qp (dw (l38_1++[GN.cs (⟨3,l38_6,0,l38_8,j42_1⟩:GN)]) l38_5 l38_6 l38_7 l38_8 j42_2 j42_3 j42_4 a0r.dg) Qa (sS (Qg Qd (QaJ (l38_1++[GN.cs (⟨3,l38_6,0,l38_8,j42_1⟩:GN)]) l38_5 l38_6 l38_7 l38_8 j42_2 j42_3 j42_4 a0r.dg) Qa (sL Qd Qa (Qp (dw (l38_1++[GN.cs (⟨3,l38_6,0,l38_8,j42_1⟩:GN)]) l38_5 l38_6 l38_7 l38_8 j42_2 j42_3 j42_4 a0r.dg) Qa (sG (xR 1 Qa ?_)))))))
    refine H8 [.ro [.id, .id, .id, .sl 2]] Qa (KJ n (⟨j42_2,j42_3,j42_4,a0r.dg⟩:Ko)) Qa Qa QS (fun r44=>?_)
    refine xR 1 Qa (xE ?_)
    exact KQ (l38_1++[GN.cs (⟨3,l38_6,0,l38_8,j42_1⟩:GN)],j42_2,j42_3,j42_4,r44.Kind,r44.Text,r44.N,r44.At) Qa
   refine Qg Qd ⟨GA (.bsl 1003 1) 1 0,Dn 3 l38_6 0 l38_8++Hg l38_2 (wi (l38_3+1)) l38_4 a0r.dg⟩ Qa (sB (Vr 1 (Qg Qd ⟨Dq (.bsl 1003 1) 1 0 true,Dn 3 l38_6 0 l38_8++Hg l38_2 (wi (l38_3+1)) l38_4 a0r.dg⟩ Qa (sS (Zm Qa (sK (Qp ⟨GA (.bsl 1003 1) 1 0,Dn 3 l38_6 0 l38_8++Hg l38_2 (wi (l38_3+1)) l38_4 a0r.dg⟩ Qa ?_)))))))
   refine sS (sB (Qg Qd ⟨xH (.func 118) (.bsl 1003 1) 1 0,Dn 3 l38_6 0 l38_8++Hg l38_2 (wi (l38_3+1)) l38_4 a0r.dg⟩ Qa (EU ⟨xH (.func 118) (.bsl 1003 1) 1 0,Dn 3 l38_6 0 l38_8++Hg l38_2 (wi (l38_3+1)) l38_4 a0r.dg⟩ Qa (Zz (KT 24 5 300 [] [(11,4)] Qa) (V5 [0,1,2] [0,1] [(3,[]),(4,[]),(5,[]),(6,[])] Qd rfl Qa Qa (K7 (f:=118) (args:=[Lx]) (dst:=some 29) Qa Qa (Zy (hc:=(E8 l38_2 (wi (l38_3+1)) l38_4 a0r.dg)) (args':=[Lx]) nq2 [] [] Tryz.func118 rfl Tryz.ntmps118 rfl Qa Qa Qa ?_)))))))
   refine Qg Qd (dx l38_2 (wi (l38_3+1)) l38_4 a0r.dg) Qa (sS (sG (xR 1 Qa (Yb (f:=119) (args:=[YR, .p (.val (.func (.func 103) #[] #[]))]) Qa Qa Qa ?_))))
   refine CS 1000 3 1001 65 2 (Wm a0r.dg).length (Wm a0r.dg) ⟨[0,2],[1000,1002],[],[]⟩ Qa Qa rfl (fun _ _ _=>by kernel_rfl) (fun hu43w hu43l hu43c=>?_)
   refine CJ [(1000,1000)] [] [] (TF n (⟨l38_2,wi (l38_3+1),l38_4,[]⟩:Ko) hu43w hu43l hu43c) Qa Qa Qa QS QS (fun r43=>?_)
   refine EL _ rfl Qa Qa (WQ (xR 1 Qa (xE (Qp ⟨[(1, .p (.sl 5 (mI r43.1)))],E8 r43.2.tks r43.2.pos r43.2.length a0r.dg⟩ Qa (sT (Q4 (.id) [1000,1001,1002] [] (.p (.sl 5 (mI r43.1))) Qa Qa (kh [0,1] Qa (QR (Zq (.ptr 11 4) Qa rfl) (QR (WU (S:=5) (t:=300) (ty:=24) (es:=mI []) Qa Qa rfl) (Ql))) Qa ?_)))))))
   refine EG [] rfl Qa Qa (WS (e:=24) (S:=5) (by_:=64) (enc:=KP) (tk:=300) (l:=[]) (l2:=r43.1) (xv:=.p (.sl 5 (mI r43.1))) rfl Qa Qa rfl Qa Qa Qa Qa) (fun _=>Ql) (Jm [] Qa Qa (Ql) (Jm [] Qa Qa (Ql) (JH (Q6 (Qp (dz 0 l38_6 l38_8 ([]++r43.1) r43.2.tks r43.2.pos r43.2.length a0r.dg) Qa (sL Qd Qa (Oz ⟨[10,11,20,21,22],[10,11,300,1000,1001,1002,1003],[],[]⟩ (dz 1 l38_6 l38_8 ([]++r43.1) r43.2.tks r43.2.pos r43.2.length a0r.dg) Qa ?_)))))))
   refine Qg Qd ⟨Dq (.bsl 1003 1) 1 1 false,OP 3 l38_6 l38_8 ([]++r43.1)++Gz ([]++r43.1)++Hg r43.2.tks r43.2.pos r43.2.length a0r.dg⟩ Qa (sS (Zn Qa (Qz (ZW (Aa (QW ?_))))))
   exact QQ ([]++r43.1,r43.2.tks,r43.2.pos,r43.2.length) Qa
  rintro ⟨j36_1,j36_2,j36_3,j36_4⟩
  refine Qg Qd ⟨[(2, .tsl 5 (mI j36_1) 300)],TE j36_1++VA j36_2 j36_3 j36_4 a0r.dg⟩ Qa (sT (Q4 (.sl 5) [1000,1001] [] (.p (.sl 5 (mI j36_1))) Qa Qa (kh [0,1] Qa (QR (Zq (.ptr 11 4) Qa rfl) (QR (WU (S:=5) (t:=300) (ty:=24) (es:=mI []) Qa Qa rfl) (Ql))) Qa (EG [] rfl Qa Qa (WS (e:=24) (S:=5) (by_:=64) (enc:=KP) (tk:=300) (l:=[]) (l2:=j36_1) (xv:=.p (.sl 5 (mI j36_1))) rfl Qa Qa rfl Qa Qa Qa Qa) (fun _=>Ql) (Jm [] Qa Qa (Ql) (Jm [] Qa Qa (Ql) (JH ?_)))))))
  refine Q6 (Qp (mK 0 r3 r5 r1 ([]++j36_1) j36_2 j36_3 j36_4 a0r.dg) Qa (sL Qd Qa (Oz ⟨[10,11,20,21,22],[10,11,300,1000,1001,1002,1003],[],[]⟩ (mK 1 r3 r5 r1 ([]++j36_1) j36_2 j36_3 j36_4 a0r.dg) Qa (Qg Qd ⟨Dq (.bsl 1003 2) 2 1 true,Bh r3 r5 r1 ([]++j36_1)++Gz ([]++j36_1)++Bg j36_2 j36_3 j36_4 a0r.dg⟩ Qa (sS (Zm Qa (sK ?_)))))))
  refine Qp (mK 1 r3 r5 r1 ([]++j36_1) j36_2 j36_3 j36_4 a0r.dg) Qa (sS (sB (Qg Qd ⟨xH (.func 108) (.bsl 1003 2) 2 1,Bh r3 r5 r1 ([]++j36_1)++Gz ([]++j36_1)++Bg j36_2 j36_3 j36_4 a0r.dg⟩ Qa (V5 [0,1,2] [0,1] [(3,[]),(4,[]),(5,[]),(6,[])] Qd rfl Qa Qa (K7 (f:=108) (args:=[Lx]) (dst:=some 29) Qa Qa (Zy (hc:=(E8 j36_2 j36_3 j36_4 a0r.dg)) (args':=[Lx]) nq2 [] [] Tryz.func108 rfl Tryz.ntmps108 rfl Qa Qa Qa (Qg Qd (dx j36_2 j36_3 j36_4 a0r.dg) Qa ?_)))))))
  refine sS (V5 [0] [0] [(1,[]),(2,[])] Qd rfl Qa Qa (K7 (f:=105) (args:=[S [59]]) (dst:=some 3) Qa Qa (Zy (hc:=[]) (args':=[S [59]]) [(1,401)] [] [] Tryz.func105 rfl Tryz.ntmps105 rfl Qa Qa Qa (Qg Qd ⟨[qq 1],mJ [59]⟩ Qa (Qg Qd (sq8 [59]) Qa (sT (Q4 (.id) [1] [] (.fn (.func 117) [] [.ptr 1 0]) Qa Qa ?_)))))))
  refine kh [0] Qa (QR (Zq YR Qa rfl) (Ql)) Qa (K7 (f:=99) (args:=[YR, .fn (.func 117) [] [.ptr 401 0]]) (dst:=some 4) Qa Qa (Zy (hc:=(Bi j36_2 j36_3 j36_4 a0r.dg [59])) (args':=[YR, .fn (.func 117) [] [Lx]]) nq3 [] [] Tryz.func99 rfl Tryz.ntmps99 rfl Qa Qa Qa (Qg Qd ⟨bY (.func 117),xw++Bi j36_2 j36_3 j36_4 a0r.dg [59]⟩ Qa (sS (sG (xR 1 Qa ?_))))))
  refine H8 [.ro [.id, .id, .id, .sl 2]] Qa (KJ n (⟨j36_2,j36_3,j36_4,a0r.dg⟩:Ko)) Qa Qa QS (fun r45=>?_)
  refine xR 2 Qa (xE (Qp ⟨bZ (.func 117),UI r45++Bi j36_2 j36_3 j36_4 a0r.dg [59]⟩ Qa (ZR (fun _=>⟨xx,UI r45++Bi j36_2 j36_3 j36_4 a0r.dg [59]⟩:Unit→St) (fun _=>V9 a0r r1 r3 r5 j36_1 j36_2 j36_3 j36_4) ?_ ?_)))
  ·rintro _
   show QV (V9 a0r r1 r3 r5 j36_1 j36_2 j36_3 j36_4) _ _ _ _ _ _
   unfold V9
   refine Qg Qd ⟨[qq 4,qq 5],UI r45++Bi j36_2 (wi (j36_3+1)) j36_4 a0r.dg [59]⟩ Qa (Qg Qd ⟨[qq 4],xz r45++Bi j36_2 (wi (j36_3+1)) j36_4 a0r.dg [59]⟩ Qa (sT (Q4 (.id) [1000,1001,1002] [] (.agg [I r45.Kind,S r45.Text,I r45.N,I r45.At]) Qa Qa (kh [] Qa (Ql) Qa (JH (Qp ⟨[],E8 j36_2 (wi (j36_3+1)) j36_4 a0r.dg⟩ Qa (Qg Qd ⟨[(1,zS)],E8 j36_2 (wi (j36_3+1)) j36_4 a0r.dg⟩ Qa ?_)))))))
   refine sT (Q4 (.sl 5) [1000,1001,1002] [] (.p (.sl 5 (mI []))) Qa Qa (kh [0,1] Qa (QR (Zq (.ptr 11 4) Qa rfl) (QR (WU (S:=5) (t:=300) (ty:=24) (es:=mI ([]++j36_1)) Qa Qa rfl) (Ql))) Qa (EG [] rfl Qa Qa (WS (e:=24) (S:=5) (by_:=64) (enc:=KP) (tk:=300) (l:=[]++j36_1) (l2:=[]) (xv:=.p (.sl 5 (mI []))) rfl Qa Qa rfl Qa Qa Qa Qa) (fun _=>Ql) (Jm [] Qa Qa (Ql) (Jm [] Qa Qa (Ql) (JH (Q6 ?_)))))))
   refine Qp (mK 1 r3 r5 r1 (([]++j36_1)++[]) j36_2 (wi (j36_3+1)) j36_4 a0r.dg) Qa (sL Qd Qa (Oz ⟨[10,11,20,21,22],[10,11,300,1000,1001,1002,1003],[],[]⟩ (mK 2 r3 r5 r1 (([]++j36_1)++[]) j36_2 (wi (j36_3+1)) j36_4 a0r.dg) Qa (Qg Qd ⟨Dq (.bsl 1003 2) 2 2 false,Bh r3 r5 r1 (([]++j36_1)++[])++Gz (([]++j36_1)++[])++Bg j36_2 (wi (j36_3+1)) j36_4 a0r.dg⟩ Qa (sS (Zn Qa (Qz (ZW ?_)))))))
   refine Aa (QW ?_)
   exact KQ (k:=fun (j35_1,j35_2,j35_3,j35_4)=>Xr a0r r1 r3 r5 j35_1 j35_2 j35_3 j35_4) (([]++j36_1)++[],j36_2,wi (j36_3+1),j36_4) Qa
  refine K6 (fun j47=>⟨xy j47,UI r45++Bi j36_2 j36_3 j36_4 a0r.dg [59]⟩:Bool→St) ?_ ?_
  rotate_left
  ·rintro j47
   refine sC j47 Qa ?_ ?_
   rotate_left
   ·refine sK ?_
    exact KQ (k:=fun _=>V9 a0r r1 r3 r5 j36_1 j36_2 j36_3 j36_4) () Qa
   refine sG (xR 1 Qa ?_)
   refine Mh [.ro [.id, .id, .id, .sl 2]] Qa (X5 n (⟨j36_2,j36_3,j36_4,a0r.dg⟩:Ko)) Qa Qa QS QS (fun r51=>?_) (fun e52=>?_)
   ·refine xE ?_
    exact KQ (k:=fun _=>V9 a0r r1 r3 r5 j36_1 j36_2 j36_3 j36_4) () Qa
   refine Zl (ZN [1000,1001,1002] [] Qa (zl _ rfl (Z8 (ZN [1000,1001,1002] [] Qa (zl _ rfl (Ze (Z8 ?_)))))))
   refine Qap (Ze (Zl (ZN [1000,1001,1002,1003] [] Qa (Z8 ?_))))
   exact Kn [1000,1103] [] Qa Qa Qa
  refine sG (xR 4 Qa ?_)
  refine xS (Qi r45.Kind 0) (fun h48=>?_) (fun h48=>?_)
  ·refine xN (Qx Qa h48) Qa (xR 4 Qa (xE ?_))
   exact QQ true Qa
  refine xO (Qw Qa h48) Qa (xR 1 Qa (Vo (OJ [59]) [.agg [I r45.Kind,S r45.Text,I r45.N,I r45.At],YR] [(1000,1002)] [] [] Qa Tryz.func117 rfl Tryz.ntmps117 rfl Qa Qa Qa (Qg Qd (sq9 r45 [59]) Qa (K6 (fun j49=>⟨[(3,B j49)],OJ [59]⟩:Bool→St) ?_ ?_))))
  ·refine sG (xR 4 Qa ?_)
   refine xS (Qi r45.Kind 3) (fun h50=>?_) (fun h50=>?_)
   ·refine xO (Qq Qa h50) Qa (xR 5 Qa (xE ?_))
    exact QQ (QP r45.Text [59]) Qa
   refine xN (Qr Qa h50) Qa (xR 5 Qa (xE ?_))
   exact QQ false Qa
  rintro j49
  refine sT (Q4 (.id) [1000] [] (B j49) Qa Qa (WQ (xR 2 Qa (xE ?_))))
  exact QQ (!j49) Qa
 refine Qg Qd ⟨[qq 1,qq 2,qq 3,(4,S r3.Text),(5,I r5),(6, .fn (.func 104) [] [.ptr 1 0])],zK r1++Be a0r.tks (wi ((wi (a0r.pos+1))+1)) a0r.length a0r.dg⟩ Qa (sS (sG (xR 9 Qa (Vo (Lm a0r.tks (wi ((wi (a0r.pos+1))+1)) a0r.length a0r.dg) [.agg [I r1.Kind,S r1.Text,I r1.N,I r1.At],I 2,S r3.Text,I r5, .bsl 1003 3] [(1002,1),(1003,29),(1000,1000),(1001,1103)] [] [] Qa Tryz.func39 rfl Tryz.ntmps39 rfl Qa Qa Qa (Qg Qd ⟨l5 2 r3 r5 (.bsl 1003 3),lX r1++Lm a0r.tks (wi ((wi (a0r.pos+1))+1)) a0r.length a0r.dg⟩ Qa (Qg Qd ⟨xA (.bsl 1003 3),NN r3 r5 r1++Lm a0r.tks (wi ((wi (a0r.pos+1))+1)) a0r.length a0r.dg⟩ Qa (ZR (fun (j6_1,j6_2,j6_3,j6_4,j6_5)=>⟨[qq 10,qq 11],Bh r3 r5 r1 j6_1++TE j6_1++Lm j6_2 j6_3 j6_4 j6_5⟩:MJ→St) (fun (j6_1,j6_2,j6_3,j6_4,j6_5)=>Uh r1 r3 r5 j6_1 j6_2 j6_3 j6_4 j6_5) ?_ ?_)))))))
 ·rintro ⟨j6_1,j6_2,j6_3,j6_4,j6_5⟩
  show QV (Uh r1 r3 r5 j6_1 j6_2 j6_3 j6_4 j6_5) _ _ _ _ _ _
  unfold Uh
  refine Qg Qd ⟨[qq 10],[(10,(eu r3 r5 r1 j6_1))]++TE j6_1++Lm j6_2 j6_3 j6_4 j6_5⟩ Qa (sT (Q4 (.agg [.id, .id, .id, .id, .sl 5]) [1000,1001,1002,1003] [] (.agg [I 2,S r3.Text,I r5,I r1.At, .p (.sl 5 (mI j6_1))]) Qa Qa (WQ (xR 1 Qa (xE (Qp ⟨[qq 2],[(2,(wy ⟨2,r3.Text,r5,r1.At,j6_1⟩))]++Be j6_2 j6_3 j6_4 j6_5⟩ Qa (sT ?_)))))))
  refine Q7 ?_
  exact YW (.id) [1000,1103] [] Qa Qa Qa Qa
 refine Qg Qd ⟨GA (.bsl 1003 3) 3 0,NN r3 r5 r1++Lm a0r.tks (wi ((wi (a0r.pos+1))+1)) a0r.length a0r.dg⟩ Qa (sB (Vr 3 (Qg Qd ⟨Dq (.bsl 1003 3) 3 0 true,NN r3 r5 r1++Lm a0r.tks (wi ((wi (a0r.pos+1))+1)) a0r.length a0r.dg⟩ Qa (sS (Zm Qa (sK (Qp ⟨GA (.bsl 1003 3) 3 0,NN r3 r5 r1++Lm a0r.tks (wi ((wi (a0r.pos+1))+1)) a0r.length a0r.dg⟩ Qa ?_)))))))
 refine sS (sB (Qg Qd ⟨yX (.func 106) (.bsl 1003 3) 3 0,NN r3 r5 r1++Lm a0r.tks (wi ((wi (a0r.pos+1))+1)) a0r.length a0r.dg⟩ Qa (EU ⟨yX (.func 106) (.bsl 1003 3) 3 0,NN r3 r5 r1++Lm a0r.tks (wi ((wi (a0r.pos+1))+1)) a0r.length a0r.dg⟩ Qa (Zz (KT 24 5 300 [] [(11,4)] Qa) (V5 [0,1,2] [0,1] [(3,[]),(4,[]),(5,[]),(6,[])] Qd rfl Qa Qa (K7 (f:=106) (args:=[YR]) (dst:=some 29) Qa Qa (Zy (hc:=(VA a0r.tks (wi ((wi (a0r.pos+1))+1)) a0r.length a0r.dg)) (args':=[YR]) [(1000,1000),(1001,1001)] [] [] Tryz.func106 rfl Tryz.ntmps106 rfl Qa Qa Qa ?_)))))))
 refine Qg Qd (eB a0r.tks (wi ((wi (a0r.pos+1))+1)) a0r.length a0r.dg) Qa (Qg Qd ⟨zL,OO++VA a0r.tks (wi ((wi (a0r.pos+1))+1)) a0r.length a0r.dg⟩ Qa (K6 (fun (j7_1,j7_2,j7_3,j7_4)=>⟨[(3, .tsl 5 (mI j7_1) 300)],TE j7_1++VA j7_2 j7_3 j7_4 a0r.dg⟩:nG→St) ?_ ?_))
 ·refine sS (sG (xR 1 Qa ?_))
  refine H8 [.ro [.id, .id, .id, .sl 2]] Qa (KJ n (⟨a0r.tks,wi ((wi (a0r.pos+1))+1),a0r.length,a0r.dg⟩:Ko)) Qa Qa QS (fun r8=>?_)
  refine xR 2 Qa (xE (Qp ⟨df,dh r8++VA a0r.tks (wi ((wi (a0r.pos+1))+1)) a0r.length a0r.dg⟩ Qa (sB (EU ⟨df,dh r8++VA a0r.tks (wi ((wi (a0r.pos+1))+1)) a0r.length a0r.dg⟩ Qa (Zz (KT 24 5 300 [3] [] Qa) (QI (fun (l9_1,l9_2,l9_3,l9_4,l9_5,l9_6,l9_7,l9_8)=>(xD l9_1 l9_5 l9_6 l9_7 l9_8 l9_2 l9_3 l9_4 a0r.dg):ty5→St) (Xg Qa) ?_))))))
  rintro recl9 ⟨l9_1,l9_2,l9_3,l9_4,l9_5,l9_6,l9_7,l9_8⟩
  show QV (RD n a0r recl9 l9_1 l9_2 l9_3 l9_4 l9_5 l9_6 l9_7 l9_8) _ _ _ _ _ _
  unfold RD
  refine sS (K6 (fun j10=>⟨QaI l9_1 j10,dm l9_5 l9_6 l9_7 l9_8++TE l9_1++VA l9_2 l9_3 l9_4 a0r.dg⟩:Bool→St) ?_ ?_)
  ·refine sG (xR 4 Qa ?_)
   refine xS (Qi l9_5 1) (fun h11=>?_) (fun h11=>?_)
   ·refine xO (Qq Qa h11) Qa (xR 1 Qa ?_)
    refine xC [] Qa (X4 n l9_6) Qa Qa QS (fun r12=>?_)
    refine xR 1 Qa (xE ?_)
    exact QQ r12 Qa
   refine xN (Qr Qa h11) Qa (xR 3 Qa (xE ?_))
   exact QQ false Qa
  rintro j10
  refine sC j10 Qa ?_ ?_
  rotate_left
  ·refine Qz (ZW (KM (QW ?_)))
   exact QQ (l9_1,l9_2,l9_3,l9_4) Qa
  refine sK (Qp (xD l9_1 l9_5 l9_6 l9_7 l9_8 l9_2 l9_3 l9_4 a0r.dg) Qa (sS (sB (Qg Qd (xD l9_1 l9_5 l9_6 l9_7 l9_8 l9_2 (wi (l9_3+1)) l9_4 a0r.dg) Qa (sG (xR 6 Qa (Vo (Hg l9_2 (wi (l9_3+1)) l9_4 a0r.dg) [.agg [I l9_5,S l9_6,I l9_7,I l9_8],I 3,S l9_6,I 0, .bsl 1003 1] nq1 [] [] Qa Tryz.func39 rfl Tryz.ntmps39 rfl Qa Qa Qa ?_)))))))
  refine Qg Qd ⟨eD 3 l9_6 (.bsl 1003 1),[(5,(bq0 l9_5 l9_6 l9_7 l9_8)),(10,(LA 0 [] 0 0))]++Hg l9_2 (wi (l9_3+1)) l9_4 a0r.dg⟩ Qa (Qg Qd ⟨xA (.bsl 1003 1),Dn 3 l9_6 0 l9_8++Hg l9_2 (wi (l9_3+1)) l9_4 a0r.dg⟩ Qa (K6 (fun (j13_1,j13_2,j13_3,j13_4)=>⟨[qq 10,qq 11],OP 3 l9_6 l9_8 j13_1++TE j13_1++Hg j13_2 j13_3 j13_4 a0r.dg⟩:nG→St) ?_ ?_))
  rotate_left
  ·rintro ⟨j13_1,j13_2,j13_3,j13_4⟩
   refine Qg Qd ⟨[qq 10],[(10,(dn 3 l9_6 l9_8 j13_1))]++TE j13_1++Hg j13_2 j13_3 j13_4 a0r.dg⟩ Qa (sT (Q4 (.agg [.id, .id, .id, .id, .sl 5]) [1000,1001,1002,1003] [] (.agg [I 3,S l9_6,I 0,I l9_8, .p (.sl 5 (mI j13_1))]) Qa Qa (WQ (xR 1 Qa (xF Qa Qa (ZM (e:=24) (S:=5) (by_:=64) (enc:=KP) (tk:=300) (l:=l9_1) (l2:=[GN.cs (⟨3,l9_6,0,l9_8,j13_1⟩:GN)]) (xv:=.tsl 5 (mI [GN.cs (⟨3,l9_6,0,l9_8,j13_1⟩:GN)]) 31) rfl Qa Qa rfl Qa Qa Qa rfl Qa) (xR 1 Qa (xE ?_)))))))
   refine Q6 (Qp (dw (l9_1++[GN.cs (⟨3,l9_6,0,l9_8,j13_1⟩:GN)]) l9_5 l9_6 l9_7 l9_8 j13_2 j13_3 j13_4 a0r.dg) Qa (sS (Qg Qd (QaJ (l9_1++[GN.cs (⟨3,l9_6,0,l9_8,j13_1⟩:GN)]) l9_5 l9_6 l9_7 l9_8 j13_2 j13_3 j13_4 a0r.dg) Qa (sL Qd Qa (Qp (dw (l9_1++[GN.cs (⟨3,l9_6,0,l9_8,j13_1⟩:GN)]) l9_5 l9_6 l9_7 l9_8 j13_2 j13_3 j13_4 a0r.dg) Qa (sG (xR 1 Qa ?_)))))))
   refine H8 [.ro [.id, .id, .id, .sl 2]] Qa (KJ n (⟨j13_2,j13_3,j13_4,a0r.dg⟩:Ko)) Qa Qa QS (fun r15=>?_)
   refine xR 1 Qa (xE ?_)
   exact KQ (l9_1++[GN.cs (⟨3,l9_6,0,l9_8,j13_1⟩:GN)],j13_2,j13_3,j13_4,r15.Kind,r15.Text,r15.N,r15.At) Qa
  refine Qg Qd ⟨GA (.bsl 1003 1) 1 0,Dn 3 l9_6 0 l9_8++Hg l9_2 (wi (l9_3+1)) l9_4 a0r.dg⟩ Qa (sB (Vr 1 (Qg Qd ⟨Dq (.bsl 1003 1) 1 0 true,Dn 3 l9_6 0 l9_8++Hg l9_2 (wi (l9_3+1)) l9_4 a0r.dg⟩ Qa (sS (Zm Qa (sK (Qp ⟨GA (.bsl 1003 1) 1 0,Dn 3 l9_6 0 l9_8++Hg l9_2 (wi (l9_3+1)) l9_4 a0r.dg⟩ Qa ?_)))))))
  refine sS (sB (Qg Qd ⟨xH (.func 118) (.bsl 1003 1) 1 0,Dn 3 l9_6 0 l9_8++Hg l9_2 (wi (l9_3+1)) l9_4 a0r.dg⟩ Qa (EU ⟨xH (.func 118) (.bsl 1003 1) 1 0,Dn 3 l9_6 0 l9_8++Hg l9_2 (wi (l9_3+1)) l9_4 a0r.dg⟩ Qa (Zz (KT 24 5 300 [] [(11,4)] Qa) (V5 [0,1,2] [0,1] [(3,[]),(4,[]),(5,[]),(6,[])] Qd rfl Qa Qa (K7 (f:=118) (args:=[Lx]) (dst:=some 29) Qa Qa (Zy (hc:=(E8 l9_2 (wi (l9_3+1)) l9_4 a0r.dg)) (args':=[Lx]) nq2 [] [] Tryz.func118 rfl Tryz.ntmps118 rfl Qa Qa Qa ?_)))))))
  refine Qg Qd (dx l9_2 (wi (l9_3+1)) l9_4 a0r.dg) Qa (sS (sG (xR 1 Qa (Yb (f:=119) (args:=[YR, .p (.val (.func (.func 103) #[] #[]))]) Qa Qa Qa ?_))))
  refine CS 1000 3 1001 65 2 (Wm a0r.dg).length (Wm a0r.dg) ⟨[0,2],[1000,1002],[],[]⟩ Qa Qa rfl (fun _ _ _=>by kernel_rfl) (fun hu14w hu14l hu14c=>?_)
  refine CJ [(1000,1000)] [] [] (TF n (⟨l9_2,wi (l9_3+1),l9_4,[]⟩:Ko) hu14w hu14l hu14c) Qa Qa Qa QS QS (fun r14=>?_)
  refine EL _ rfl Qa Qa (WQ (xR 1 Qa (xE (Qp ⟨[(1, .p (.sl 5 (mI r14.1)))],E8 r14.2.tks r14.2.pos r14.2.length a0r.dg⟩ Qa (sT (Q4 (.id) [1000,1001,1002] [] (.p (.sl 5 (mI r14.1))) Qa Qa (kh [0,1] Qa (QR (Zq (.ptr 11 4) Qa rfl) (QR (WU (S:=5) (t:=300) (ty:=24) (es:=mI []) Qa Qa rfl) (Ql))) Qa ?_)))))))
  refine EG [] rfl Qa Qa (WS (e:=24) (S:=5) (by_:=64) (enc:=KP) (tk:=300) (l:=[]) (l2:=r14.1) (xv:=.p (.sl 5 (mI r14.1))) rfl Qa Qa rfl Qa Qa Qa Qa) (fun _=>Ql) (Jm [] Qa Qa (Ql) (Jm [] Qa Qa (Ql) (JH (Q6 (Qp (dz 0 l9_6 l9_8 ([]++r14.1) r14.2.tks r14.2.pos r14.2.length a0r.dg) Qa (sL Qd Qa (Oz ⟨[10,11,20,21,22],[10,11,300,1000,1001,1002,1003],[],[]⟩ (dz 1 l9_6 l9_8 ([]++r14.1) r14.2.tks r14.2.pos r14.2.length a0r.dg) Qa ?_)))))))
  refine Qg Qd ⟨Dq (.bsl 1003 1) 1 1 false,OP 3 l9_6 l9_8 ([]++r14.1)++Gz ([]++r14.1)++Hg r14.2.tks r14.2.pos r14.2.length a0r.dg⟩ Qa (sS (Zn Qa (Qz (ZW (Aa (QW ?_))))))
  exact QQ ([]++r14.1,r14.2.tks,r14.2.pos,r14.2.length) Qa
 rintro ⟨j7_1,j7_2,j7_3,j7_4⟩
 refine Qg Qd ⟨[(2, .tsl 5 (mI j7_1) 300)],TE j7_1++VA j7_2 j7_3 j7_4 a0r.dg⟩ Qa (sT (Q4 (.sl 5) [1000,1001] [] (.p (.sl 5 (mI j7_1))) Qa Qa (kh [0,1] Qa (QR (Zq (.ptr 11 4) Qa rfl) (QR (WU (S:=5) (t:=300) (ty:=24) (es:=mI []) Qa Qa rfl) (Ql))) Qa (EG [] rfl Qa Qa (WS (e:=24) (S:=5) (by_:=64) (enc:=KP) (tk:=300) (l:=[]) (l2:=j7_1) (xv:=.p (.sl 5 (mI j7_1))) rfl Qa Qa rfl Qa Qa Qa Qa) (fun _=>Ql) (Jm [] Qa Qa (Ql) (Jm [] Qa Qa (Ql) (JH ?_)))))))
 refine Q6 (Qp (xI 0 r3 r5 r1 ([]++j7_1) j7_2 j7_3 j7_4 a0r.dg) Qa (sL Qd Qa (Oz ⟨[10,11,20,21,22],[10,11,300,1000,1001,1002,1003],[],[]⟩ (xI 1 r3 r5 r1 ([]++j7_1) j7_2 j7_3 j7_4 a0r.dg) Qa (Qg Qd ⟨Dq (.bsl 1003 3) 3 1 true,Bh r3 r5 r1 ([]++j7_1)++Gz ([]++j7_1)++Lm j7_2 j7_3 j7_4 a0r.dg⟩ Qa (sS (Zm Qa (sK ?_)))))))
 refine Qp (xI 1 r3 r5 r1 ([]++j7_1) j7_2 j7_3 j7_4 a0r.dg) Qa (sS (sB (Qg Qd ⟨xH (.func 104) (.bsl 1003 3) 3 1,Bh r3 r5 r1 ([]++j7_1)++Gz ([]++j7_1)++Lm j7_2 j7_3 j7_4 a0r.dg⟩ Qa (V5 [0,1,2] [0,1] [(3,[]),(4,[]),(5,[]),(6,[])] Qd rfl Qa Qa (K7 (f:=104) (args:=[Lx]) (dst:=some 29) Qa Qa (Zy (hc:=(E8 j7_2 j7_3 j7_4 a0r.dg)) (args':=[Lx]) nq2 [] [] Tryz.func104 rfl Tryz.ntmps104 rfl Qa Qa Qa (Qg Qd (dx j7_2 j7_3 j7_4 a0r.dg) Qa ?_)))))))
 refine sS (V5 [0] [0] [(1,[]),(2,[])] Qd rfl Qa Qa (K7 (f:=105) (args:=[S [123]]) (dst:=some 3) Qa Qa (Zy (hc:=[]) (args':=[S [123]]) [(1,401)] [] [] Tryz.func105 rfl Tryz.ntmps105 rfl Qa Qa Qa (Qg Qd ⟨[qq 1],mJ [123]⟩ Qa (Qg Qd (sq8 [123]) Qa (sT (Q4 (.id) [1] [] (.fn (.func 117) [] [.ptr 1 0]) Qa Qa ?_)))))))
 refine kh [0] Qa (QR (Zq YR Qa rfl) (Ql)) Qa (K7 (f:=99) (args:=[YR, .fn (.func 117) [] [.ptr 401 0]]) (dst:=some 4) Qa Qa (Zy (hc:=(Bi j7_2 j7_3 j7_4 a0r.dg [123])) (args':=[YR, .fn (.func 117) [] [Lx]]) nq3 [] [] Tryz.func99 rfl Tryz.ntmps99 rfl Qa Qa Qa (Qg Qd ⟨bY (.func 117),xw++Bi j7_2 j7_3 j7_4 a0r.dg [123]⟩ Qa (sS (sG (xR 1 Qa ?_))))))
 refine H8 [.ro [.id, .id, .id, .sl 2]] Qa (KJ n (⟨j7_2,j7_3,j7_4,a0r.dg⟩:Ko)) Qa Qa QS (fun r16=>?_)
 refine xR 2 Qa (xE (Qp ⟨bZ (.func 117),UI r16++Bi j7_2 j7_3 j7_4 a0r.dg [123]⟩ Qa (ZR (fun _=>⟨xx,UI r16++Bi j7_2 j7_3 j7_4 a0r.dg [123]⟩:Unit→St) (fun _=>V7 n a0r r1 r3 r5 j7_1 j7_2 j7_3 j7_4) ?_ ?_)))
 rotate_left
 ·refine K6 (fun j29=>⟨xy j29,UI r16++Bi j7_2 j7_3 j7_4 a0r.dg [123]⟩:Bool→St) ?_ ?_
  rotate_left
  ·rintro j29
   refine sC j29 Qa ?_ ?_
   rotate_left
   ·refine sK ?_
    exact KQ (k:=fun _=>V7 n a0r r1 r3 r5 j7_1 j7_2 j7_3 j7_4) () Qa
   refine sG (xR 1 Qa ?_)
   refine Mh [.ro [.id, .id, .id, .sl 2]] Qa (X5 n (⟨j7_2,j7_3,j7_4,a0r.dg⟩:Ko)) Qa Qa QS QS (fun r33=>?_) (fun e34=>?_)
   ·refine xE ?_
    exact KQ (k:=fun _=>V7 n a0r r1 r3 r5 j7_1 j7_2 j7_3 j7_4) () Qa
   refine Zl (ZN [1000,1001,1002] [] Qa (zl _ rfl (Z8 (ZN [1000,1001,1002] [] Qa (zl _ rfl (Ze (Z8 ?_)))))))
   refine Qap (Ze (Zl (ZN [1000,1001,1002,1003] [] Qa (Z8 (Z8 ?_)))))
   exact Kn [1000,1103] [] Qa Qa Qa
  refine sG (xR 4 Qa ?_)
  refine xS (Qi r16.Kind 0) (fun h30=>?_) (fun h30=>?_)
  ·refine xN (Qx Qa h30) Qa (xR 4 Qa (xE ?_))
   exact QQ true Qa
  refine xO (Qw Qa h30) Qa (xR 1 Qa (Vo (OJ [123]) [.agg [I r16.Kind,S r16.Text,I r16.N,I r16.At],YR] [(1000,1002)] [] [] Qa Tryz.func117 rfl Tryz.ntmps117 rfl Qa Qa Qa (Qg Qd (sq9 r16 [123]) Qa (K6 (fun j31=>⟨[(3,B j31)],OJ [123]⟩:Bool→St) ?_ ?_))))
  ·refine sG (xR 4 Qa ?_)
   refine xS (Qi r16.Kind 3) (fun h32=>?_) (fun h32=>?_)
   ·refine xO (Qq Qa h32) Qa (xR 5 Qa (xE ?_))
    exact QQ (QP r16.Text [123]) Qa
   refine xN (Qr Qa h32) Qa (xR 5 Qa (xE ?_))
   exact QQ false Qa
  rintro j31
  refine sT (Q4 (.id) [1000] [] (B j31) Qa Qa (WQ (xR 2 Qa (xE ?_))))
  exact QQ (!j31) Qa
 rintro _
 show QV (V7 n a0r r1 r3 r5 j7_1 j7_2 j7_3 j7_4) _ _ _ _ _ _
 unfold V7
 refine Qg Qd ⟨[qq 4,qq 5],UI r16++Bi j7_2 (wi (j7_3+1)) j7_4 a0r.dg [123]⟩ Qa (Qg Qd ⟨[qq 4],xz r16++Bi j7_2 (wi (j7_3+1)) j7_4 a0r.dg [123]⟩ Qa (sT (Q4 (.id) [1000,1001,1002] [] (.agg [I r16.Kind,S r16.Text,I r16.N,I r16.At]) Qa Qa (kh [] Qa (Ql) Qa (JH (Qp ⟨[],E8 j7_2 (wi (j7_3+1)) j7_4 a0r.dg⟩ Qa (Qg Qd ⟨[(1,zS)],E8 j7_2 (wi (j7_3+1)) j7_4 a0r.dg⟩ Qa ?_)))))))
 refine sT (Q4 (.sl 5) [1000,1001,1002] [] (.p (.sl 5 (mI []))) Qa Qa (kh [0,1] Qa (QR (Zq (.ptr 11 4) Qa rfl) (QR (WU (S:=5) (t:=300) (ty:=24) (es:=mI ([]++j7_1)) Qa Qa rfl) (Ql))) Qa (EG [] rfl Qa Qa (WS (e:=24) (S:=5) (by_:=64) (enc:=KP) (tk:=300) (l:=[]++j7_1) (l2:=[]) (xv:=.p (.sl 5 (mI []))) rfl Qa Qa rfl Qa Qa Qa Qa) (fun _=>Ql) (Jm [] Qa Qa (Ql) (Jm [] Qa Qa (Ql) (JH (Q6 ?_)))))))
 refine Qp (xI 1 r3 r5 r1 (([]++j7_1)++[]) j7_2 (wi (j7_3+1)) j7_4 a0r.dg) Qa (sL Qd Qa (Oz ⟨[10,11,20,21,22],[10,11,300,1000,1001,1002,1003],[],[]⟩ (xI 2 r3 r5 r1 (([]++j7_1)++[]) j7_2 (wi (j7_3+1)) j7_4 a0r.dg) Qa (Qg Qd ⟨Dq (.bsl 1003 3) 3 2 true,Bh r3 r5 r1 (([]++j7_1)++[])++Gz (([]++j7_1)++[])++Lm j7_2 (wi (j7_3+1)) j7_4 a0r.dg⟩ Qa (sS (Zm Qa (sK (Qp (xI 2 r3 r5 r1 (([]++j7_1)++[]) j7_2 (wi (j7_3+1)) j7_4 a0r.dg) Qa ?_)))))))
 refine K6 (fun (j18_1,j18_2,j18_3,j18_4,j18_5)=>⟨GA (.bsl 1003 3) 3 2,Bh r3 r5 r1 j18_1++TE j18_1++Lm j18_2 j18_3 j18_4 j18_5⟩:MJ→St) ?_ ?_
 rotate_left
 ·rintro ⟨j18_1,j18_2,j18_3,j18_4,j18_5⟩
  refine sL Qd Qa (Oz ⟨[10,11,20,21,22],[10,11,300,1000,1001,1002,1003],[],[]⟩ ⟨GA (.bsl 1003 3) 3 3,Bh r3 r5 r1 j18_1++TE j18_1++Lm j18_2 j18_3 j18_4 j18_5⟩ Qa (Qg Qd ⟨Dq (.bsl 1003 3) 3 3 false,Bh r3 r5 r1 j18_1++TE j18_1++Lm j18_2 j18_3 j18_4 j18_5⟩ Qa (sS (Zn Qa (Qz (ZW (Aa ?_)))))))
  refine QW ?_
  exact KQ (k:=fun (j6_1,j6_2,j6_3,j6_4,j6_5)=>Uh r1 r3 r5 j6_1 j6_2 j6_3 j6_4 j6_5) (j18_1,j18_2,j18_3,j18_4,j18_5) Qa
 refine sB (Qg Qd ⟨yX (.func 107) (.bsl 1003 3) 3 2,Bh r3 r5 r1 (([]++j7_1)++[])++Gz (([]++j7_1)++[])++Lm j7_2 (wi (j7_3+1)) j7_4 a0r.dg⟩ Qa (V5 [0,1,2] [0,1] [(3,[]),(4,[]),(5,[]),(6,[])] Qd rfl Qa Qa (K7 (f:=107) (args:=[YR]) (dst:=some 29) Qa Qa (Zy (hc:=(VA j7_2 (wi (j7_3+1)) j7_4 a0r.dg)) (args':=[YR]) [(1000,1000),(1001,1001)] [] [] Tryz.func107 rfl Tryz.ntmps107 rfl Qa Qa Qa (Qg Qd (eB j7_2 (wi (j7_3+1)) j7_4 a0r.dg) Qa (Qg Qd ⟨zL,OO++VA j7_2 (wi (j7_3+1)) j7_4 a0r.dg⟩ Qa (ZR (fun (j19_1,j19_2,j19_3,j19_4,j19_5)=>⟨[(3, .tsl 5 (mI j19_1) 32)],eF j19_1++VA j19_2 j19_3 j19_4 j19_5⟩:MJ→St) (fun (j19_1,j19_2,j19_3,j19_4,j19_5)=>Xq j7_1 j19_1 j19_2 j19_3 j19_4 j19_5) ?_ ?_)))))))
 ·rintro ⟨j19_1,j19_2,j19_3,j19_4,j19_5⟩
  show QV (Xq j7_1 j19_1 j19_2 j19_3 j19_4 j19_5) _ _ _ _ _ _
  unfold Xq
  refine Qg Qd (eG j19_1 j19_2 j19_3 j19_4 j19_5) Qa (sT (Q4 (.sl 5) [1000,1001] [] (.p (.sl 5 (mI j19_1))) Qa Qa (kh [0,1] Qa (QR (Zq (.ptr 11 4) Qa rfl) (QR (WU (S:=5) (t:=300) (ty:=24) (es:=mI (([]++j7_1)++[])) Qa Qa rfl) (Ql))) Qa (EG [] rfl Qa Qa (WS (e:=24) (S:=5) (by_:=64) (enc:=KP) (tk:=300) (l:=([]++j7_1)++[]) (l2:=j19_1) (xv:=.p (.sl 5 (mI j19_1))) rfl Qa Qa rfl Qa Qa Qa Qa) (fun _=>Ql) (Jm [] Qa Qa (Ql) (Jm [] Qa Qa (Ql) (JH ?_)))))))
  refine Q6 ?_
  exact QQ ((([]++j7_1)++[])++j19_1,j19_2,j19_3,j19_4,j19_5) Qa
 refine sB (EU ⟨zL,OO++VA j7_2 (wi (j7_3+1)) j7_4 a0r.dg⟩ Qa (Zz (KT 24 5 32 [3] [] Qa) (QI (fun (l20_1,l20_2,l20_3,l20_4,l20_5)=>⟨mM l20_1,xJ l20_1++VA l20_2 l20_3 l20_4 l20_5⟩:MJ→St) (Xg Qa) ?_)))
 rintro recl20 ⟨l20_1,l20_2,l20_3,l20_4,l20_5⟩
 show QV (FX n j7_1 recl20 l20_1 l20_2 l20_3 l20_4 l20_5) _ _ _ _ _ _
 unfold FX
 refine sS (sS (sG (xR 1 Qa ?_)))
 refine H8 [.ro [.id, .id, .id, .sl 2]] Qa (NB n (⟨l20_2,l20_3,l20_4,l20_5⟩:Ko)) Qa Qa QS (fun r21=>?_)
 refine xR 1 Qa (xE (Qp ⟨[qq 1,(3, .tsl 5 (mI l20_1) 32),(9,B (!r21))],xJ l20_1++VA l20_2 l20_3 l20_4 l20_5⟩ Qa (sC (!r21) Qa ?_ ?_)))
 rotate_left
 ·refine Qz (ZW (KM (QW ?_)))
  exact KQ (k:=fun (j19_1,j19_2,j19_3,j19_4,j19_5)=>Xq j7_1 j19_1 j19_2 j19_3 j19_4 j19_5) (l20_1,l20_2,l20_3,l20_4,l20_5) Qa
 refine sK (Qp ⟨mM l20_1,xJ l20_1++VA l20_2 l20_3 l20_4 l20_5⟩ Qa (sB (sS (sS (V5 [1] [1] [(0,[]),(2,[]),(3,[])] Qd rfl Qa Qa (K7 (f:=105) (args:=[S [125]]) (dst:=some 10) Qa Qa (Zy (hc:=[]) (args':=[S [125]]) [(1,401)] [] [] Tryz.func105 rfl Tryz.ntmps105 rfl Qa Qa Qa ?_)))))))
 refine Qg Qd ⟨[qq 1],mJ [125]⟩ Qa (Qg Qd (sq8 [125]) Qa (sT (Q4 (.id) [1] [] (.fn (.func 117) [] [.ptr 1 0]) Qa Qa (kh [1] Qa (QR (Zq YR Qa rfl) (Ql)) Qa (K7 (f:=114) (args:=[YR]) (dst:=some 12) Qa Qa ?_)))))
 refine Qan [.ro [.id, .id, .id, .sl 2]] (KJ n (⟨l20_2,l20_3,l20_4,l20_5⟩:Ko)) Qa Qa QS (fun r22=>?_)
 refine kh [] Qa (Ql) Qa (K7 (f:=117) (args:=[.agg [I r22.Kind,S r22.Text,I r22.N,I r22.At], .ptr 401 0]) (dst:=some 13) Qa Qa (Zy (hc:=(OJ [125])) (args':=[.agg [I r22.Kind,S r22.Text,I r22.N,I r22.At],YR]) [(1000,401)] [] [] Tryz.func117 rfl Tryz.ntmps117 rfl Qa Qa Qa (Qg Qd (sq9 r22 [125]) Qa (K6 (fun j23=>⟨[(3,B j23)],OJ [125]⟩:Bool→St) ?_ ?_))))
 ·refine sG (xR 4 Qa ?_)
  refine xS (Qi r22.Kind 3) (fun h24=>?_) (fun h24=>?_)
  ·refine xO (Qq Qa h24) Qa (xR 5 Qa (xE ?_))
   exact QQ (QP r22.Text [125]) Qa
  refine xN (Qr Qa h24) Qa (xR 5 Qa (xE ?_))
  exact QQ false Qa
 rintro j23
 refine sT (Q4 (.id) [1000] [] (B j23) Qa Qa (kh [] Qa (Ql) Qa (JH (Qp ⟨[qq 1,(3, .tsl 5 (mI l20_1) 32),(13,B j23)],xJ l20_1++VA l20_2 l20_3 l20_4 l20_5⟩ Qa (sC j23 Qa ?_ ?_)))))
 ·refine Qg Qd ⟨[(3, .tsl 5 (mI l20_1) 32)],eF l20_1++VA l20_2 (wi (l20_3+1)) l20_4 l20_5⟩ Qa (Qg Qd (eG l20_1 l20_2 (wi (l20_3+1)) l20_4 l20_5) Qa (sT (Q7 (Zd (KH (Zd (KH ?_)))))))
  refine Q4 (.sl 5) [1000,1001] [] (.p (.sl 5 (mI l20_1))) Qa Qa (kh [0,1] Qa (QR (Zq (.ptr 11 4) Qa rfl) (QR (WU (S:=5) (t:=300) (ty:=24) (es:=mI (([]++j7_1)++[])) Qa Qa rfl) (Ql))) Qa (EG [] rfl Qa Qa (WS (e:=24) (S:=5) (by_:=64) (enc:=KP) (tk:=300) (l:=([]++j7_1)++[]) (l2:=l20_1) (xv:=.p (.sl 5 (mI l20_1))) rfl Qa Qa rfl Qa Qa Qa Qa) (fun _=>Ql) (Jm [] Qa Qa (Ql) (Jm [] Qa Qa (Ql) (JH (Q6 ?_))))))
  exact QQ ((([]++j7_1)++[])++l20_1,l20_2,wi (l20_3+1),l20_4,l20_5) Qa
 refine sK (Qp ⟨mM l20_1,xJ l20_1++VA l20_2 l20_3 l20_4 l20_5⟩ Qa (Qg Qd ⟨QaK l20_1,[(1, .box 93 [YR]),(4,(LA 0 [] 0 0)),(32,sH l20_1)]++VA l20_2 l20_3 l20_4 l20_5⟩ Qa (K6 (fun (j25_1,j25_2,j25_3,j25_4,j25_5,j25_6,j25_7,j25_8,j25_9,j25_10,j25_11)=>⟨[qq 1,(3, .tsl 5 (mI l20_1) 32),qq 4,(5,B j25_1),(6,S j25_2)],QaL ⟨j25_7,j25_8,j25_9,j25_10,j25_11⟩ l20_1++VA j25_3 j25_4 j25_5 j25_6⟩:(Bool × (List UInt8) × (List YH) × Int × Int × (List ZX) × Int × (List UInt8) × Int × Int × (List (List PV)))→St) ?_ ?_)))
 rotate_left
 ·rintro ⟨j25_1,j25_2,j25_3,j25_4,j25_5,j25_6,j25_7,j25_8,j25_9,j25_10,j25_11⟩
  refine Qg Qd ⟨[qq 1,(3, .tsl 5 (mI l20_1) 32),qq 4,(6,S j25_2),(28,B j25_1)],QaL ⟨j25_7,j25_8,j25_9,j25_10,j25_11⟩ l20_1++VA j25_3 j25_4 j25_5 j25_6⟩ Qa (sC j25_1 Qa ?_ ?_)
  ·refine sG (xR 3 Qa (xF Qa Qa (ZM (e:=24) (S:=5) (by_:=64) (enc:=KP) (tk:=32) (l:=l20_1) (l2:=[GN.cs (⟨j25_7,j25_8,j25_9,j25_10,j25_11⟩:GN)]) (xv:=.tsl 5 (mI [GN.cs (⟨j25_7,j25_8,j25_9,j25_10,j25_11⟩:GN)]) 31) rfl Qa Qa rfl Qa Qa Qa rfl Qa) (xR 1 Qa (xE (Q6 ?_)))))
   exact KQ (l20_1++[GN.cs (⟨j25_7,j25_8,j25_9,j25_10,j25_11⟩:GN)],j25_3,j25_4,j25_5,j25_6) Qa
  refine Qg Qd ⟨[qq 1,(3, .tsl 5 (mI l20_1) 32),(34,B (!QP j25_2 [59]))],xJ l20_1++VA j25_3 j25_4 j25_5 j25_6⟩ Qa (sC (!QP j25_2 [59]) Qa ?_ ?_)
  ·refine Qg Qd (eG l20_1 j25_3 j25_4 j25_5 j25_6) Qa (sT (Zd (KH (Zd (KH (Q4 (.sl 5) [1000,1001] [] (.p (.sl 5 (mI l20_1))) Qa Qa (kh [0,1] Qa (QR (Zq (.ptr 11 4) Qa rfl) (QR (WU (S:=5) (t:=300) (ty:=24) (es:=mI (([]++j7_1)++[])) Qa Qa rfl) (Ql))) Qa ?_)))))))
   refine EG [] rfl Qa Qa (WS (e:=24) (S:=5) (by_:=64) (enc:=KP) (tk:=300) (l:=([]++j7_1)++[]) (l2:=l20_1) (xv:=.p (.sl 5 (mI l20_1))) rfl Qa Qa rfl Qa Qa Qa Qa) (fun _=>Ql) (Jm [] Qa Qa (Ql) (Jm [] Qa Qa (Ql) (JH (Q6 ?_))))
   exact QQ ((([]++j7_1)++[])++l20_1,j25_3,j25_4,j25_5,j25_6) Qa
  refine sK (Q6 ?_)
  exact KQ (l20_1,j25_3,j25_4,j25_5,j25_6) Qa
 refine sG (xR 2 Qa (Yb (f:=73) (args:=[YR, .fn (.func 120) [] [.ptr 1 0, .ptr 4 0]]) Qa Qa Qa ?_))
 refine T9 (hc:=(eH l20_2 l20_3 l20_4 l20_5)) (args':=[YR, .fn (.func 120) [] [Lx,sD]]) [(1002,1),(1003,4),(1000,1000),(1001,1001)] [] [] (⟨_,_,_,_,_,_,[2,4,5],6,_,rfl,rfl,rfl,rfl,rfl,rfl,rfl,rfl,by decide⟩:GY Tryz.f73 97) [(2,1900),(4,1901),(5,1902)] Tryz.func73 Tryz.ntmps73 Qa Qa Qa Qa Qa Qd rfl Qa Qa ?_
 refine EU ⟨QaM (.func 120),eH l20_2 l20_3 l20_4 l20_5++eO false⟩ Qa (sS (sG (xR 1 Qa (Vo (eH l20_2 l20_3 l20_4 l20_5) [Lx,sD] nq4 [] [] Qa Tryz.func120 rfl Tryz.ntmps120 rfl Qa Qa Qa (sG (xR 1 Qa (Yb (f:=121) (args:=[YR]) Qa Qa Qa ?_)))))))
 refine CS 1000 3 1001 65 2 (Wm l20_5).length (Wm l20_5) ⟨[0,1,2],[1000,1002,1003],[],[]⟩ Qa Qa rfl (fun _ _ _=>by kernel_rfl) (fun hu26w hu26l hu26c=>?_)
 refine zf [(1000,1000)] [] [] (EZ n (⟨l20_2,l20_3,l20_4,[]⟩:Ko) hu26w hu26l hu26c) Qa Qa Qa QS QS QS QS (fun r26=>?_) (fun e27=>?_)
 ·refine EL _ rfl Qa Qa (WQ (xR 1 Qa (xE (Hw (.id) [1000,1001,1002,1003] [] (.tup []) Qa Qa (WQ (xE (Qp ⟨[(4, .ptr 1901 0),(5, .ptr 1902 0)],QaN r26.2.tks r26.2.pos r26.2.length l20_5 r26.1++eO false⟩ Qa ?_)))))))
  refine Qg Qd ⟨[(4, .ptr 1901 0),(5, .ptr 1902 0)],QaN r26.2.tks r26.2.pos r26.2.length l20_5 r26.1++eO true⟩ Qa (sT ?_)
  refine JB (⟨Tryz.f97,_,_,_,6,3,_,_,Tryz.func97,rfl,rfl,rfl,rfl,rfl,rfl,rfl,by decide,by decide⟩:Ke Tryz.prog 97) nq5 (VA r26.2.tks r26.2.pos r26.2.length l20_5++OQ true) (.p (.val (.nilIface))) [Lx,sD, .ptr 1004 0] [] rfl Qa Qa Qa Qa ?_
  refine sS (Qg Qd ⟨QaO,VA r26.2.tks r26.2.pos r26.2.length l20_5++OQ true⟩ Qa (Zm Qa (sT (Q7 (fM [1000,1001,1002,1003,1004] [] Qa Qa (Q4 (.id) [1000,1001,1002,1003] [] (.tup [B true,S []]) Qa Qa (WQ ?_)))))))
  refine xR 5 Qa (xE ?_)
  exact QQ (true,[],r26.2.tks,r26.2.pos,r26.2.length,l20_5,r26.1.Kind,r26.1.Name,r26.1.N,r26.1.At,r26.1.Kids) Qa
 refine lN _ rfl Qa Qa (ZN [1000,1001,1002,1003] [] Qa (Z8 ?_))
 refine JB (⟨Tryz.f97,_,_,_,6,3,_,_,Tryz.func97,rfl,rfl,rfl,rfl,rfl,rfl,rfl,by decide,by decide⟩:Ke Tryz.prog 97) nq5 (VA e27.2.tks e27.2.pos e27.2.length l20_5++OQ false) (.ifc 149 (.agg [I e27.1])) [Lx,sD, .ptr 1004 0] [] rfl Qa Qa Qa Qa ?_
 refine sS (Qg Qd ⟨QaP e27.1,VA e27.2.tks e27.2.pos e27.2.length l20_5++OQ false⟩ Qa (Zn Qa (sK (Qp ⟨QaQ e27.1,VA e27.2.tks e27.2.pos e27.2.length l20_5++OQ false⟩ Qa (Qg Qd ⟨QaR e27.1,xK e27.1++VA e27.2.tks e27.2.pos e27.2.length l20_5++OQ false⟩ Qa (sS (Qg Qd ⟨QaS e27.1,xK e27.1++VA e27.2.tks e27.2.pos e27.2.length l20_5++OQ false⟩ Qa ?_)))))))
 refine Zn Qa (sK (Qp ⟨QaT,xK e27.1++VA e27.2.tks e27.2.pos e27.2.length l20_5++OQ false⟩ Qa (sS (Vq Qd rfl (xR 9 Qa (xF Qa Qa (ZM (e:=65) (S:=2) (by_:=16) (enc:=ZX.cs) (tk:=1001) (l:=l20_5) (l2:=[(⟨7,e27.1⟩:ZX)]) (xv:=.tsl 2 (Wm [(⟨7,e27.1⟩:ZX)]) 25) rfl Qa Qa rfl Qa Qa Qa rfl Qa) (xR 3 Qa ?_)))))))
 refine YB Qa (Qp ⟨QaU,VA e27.2.tks e27.2.pos e27.2.length (l20_5++[(⟨7,e27.1⟩:ZX)])++OQ false⟩ Qa (sG (xR 1 Qa (Yb (f:=98) (args:=[YR]) Qa Qa Qa ?_))))
 refine CS 1000 3 1001 65 2 (Wm (l20_5++[(⟨7,e27.1⟩:ZX)])).length (Wm (l20_5++[(⟨7,e27.1⟩:ZX)])) ⟨[0,1,2,29],[1000,1002,1003,1004],[],[]⟩ Qa Qa rfl (fun _ _ _=>by kernel_rfl) (fun hu28w hu28l hu28c=>?_)
 refine CJ [(1000,1000)] [] [] (ND n (⟨e27.2.tks,e27.2.pos,e27.2.length,[]⟩:Ko) hu28w hu28l hu28c) Qa Qa Qa QS QS (fun r28=>?_)
 refine EL _ rfl Qa Qa (WQ (xR 2 Qa (xE (CO [1000,1001,1002,1003,1004] [] Qa Qa (Q4 (.id) [1000,1001,1002,1003] [] (.tup [B false,S r28.1]) Qa Qa (WQ (xR 5 Qa ?_)))))))
 refine xE ?_
 exact lG (false,r28.1,r28.2.tks,r28.2.pos,r28.2.length,l20_5++[(⟨7,e27.1⟩:ZX)],0,[],0,0,[]) ⟨[1,3,4,5,6],[1,4,32,1000,1001],[],[(4,[.id, .id, .id, .id, .sl 5])]⟩ Qa
def FZ (a0n:GN) (a1limit:Int) (rf_parser_count:GN→Int→Option Int) (recl1:(Int × Int)→Option Int) (l1_1:Int) (l1_2:Int):Option Int :=
 cond (QO l1_2 (Qc (List.map KP a0n.Kids)))
  ((Option.bind (Q8 a0n.Kids l1_2) GN.of).bind fun x2 =>
  cond (QO a1limit l1_1)
   (some l1_1)
   ((rf_parser_count x2 (wi (a1limit - l1_1))).bind fun r3 =>
   recl1 (wi (l1_1+r3),wi (l1_2+1))))
  (some l1_1)
def Hl (n:Nat) (rf_parser_count:GN→Int→Option Int) (a0n:GN) (a1limit:Int):Option Int :=
 QZ (fun recl1 (l1_1,l1_2)=>FZ a0n a1limit rf_parser_count recl1 l1_1 l1_2) n (1,0)
def G9:Nat→GN→Int→Option Int
 | 0,_,_=>none
 | n+1,a0n,a1limit=>Hl n (G9 n) a0n a1limit
def Yj:=fun x0=>([(2, .box 24 (Ya (GN.cs x0)))]:List (Nat × Blk))
def mO:=fun x0 x1=>(⟨[(1,I x0),(2, .ptr 2 0)],Yj x1⟩:St)
def xL:=fun x0 x1=>([(1,I x0),(2, .ptr 2 0),(5,I x1)]:List (Nat × AV))
def dA:=fun x0 x1 x2 x3=>([(1,I x0),(5,I x1),(9, .p (.sl 5 (List.map KP (GN.Kids x2)))),(10,I (Qc (List.map KP (GN.Kids x2)))),(11,I x3)]:List (Nat × AV))
def QaV:=fun x0 x1 x2 x3=>([(1,I x0),(5,I x1),(7, .ptr 7 0),(9, .p (.sl 5 (List.map KP (GN.Kids x2)))),(10,I (Qc (List.map KP (GN.Kids x2)))),(11,I x3)]:List (Nat × AV))
def dB:=fun x0=>([(7, .box 24 (Ya (GN.cs x0)))]:List (Nat × Blk))
theorem OT (n:Nat) (a0n:GN) (a1limit:Int):∀ r,G9 n a0n a1limit=some r→Q9 Tryz.prog 41 [ag (GN.cs a0n),I a1limit] (.ret (I r)):=by
 induction n generalizing a0n a1limit with
 | zero=>intro r hr; cases (show (none:Option Int)=some r from hr)
 | succ n ih =>
 show ∀ r,Hl n (G9 n) a0n a1limit=some r→_
 generalize G9 n=rf_parser_count at ih ⊢
 refine Qs (X:=fun r:Int=>QX.ret (I r)) Tryz.func41 rfl Tryz.ntmps41 rfl ?_
 unfold Hl
 refine Qg Qd (mO a1limit a0n) Qa (Qg Qd ⟨xL a1limit 1,Yj a0n⟩ Qa (sS (Qg Qd ⟨dA a1limit 1 a0n 0,[]⟩ Qa (sB (QI (fun (l1_1,l1_2)=>⟨dA a1limit l1_1 a0n l1_2,[]⟩:(Int × Int)→St) (Xg Qa) ?_)))))
 rintro recl1 ⟨l1_1,l1_2⟩
 show QV (FZ a0n a1limit rf_parser_count recl1 l1_1 l1_2) _ _ _ _ _ _
 unfold FZ
 refine Qg Qd ⟨[(1,I a1limit),(5,I l1_1),(9, .p (.sl 5 (mI a0n.Kids))),(10,I (Qc (mI a0n.Kids))),(11,I l1_2),(12,B (QO l1_2 (Qc (mI a0n.Kids))))],[]⟩ Qa (sS (sC (QO l1_2 (Qc (mI a0n.Kids))) Qa ?_ ?_))
 rotate_left
 ·refine Qz (ZW (KM (QW (Qp ⟨[(5,I l1_1)],[]⟩ Qa (Qg Qd ⟨[(4,I l1_1)],[]⟩ Qa (sT ?_))))))
  exact qR (.id) Qa Qa Qa
 refine sK (Qp ⟨dA a1limit l1_1 a0n l1_2,[]⟩ Qa (sS (sB (sS (sG ?_)))))
 refine xG Qa Qa (Yc (e:=24) (S:=5) (enc:=GN.cs) (dec:=GN.of) (l:=a0n.Kids) (k:=.i64) (n:=l1_2) (sv:=.p (.sl 5 (mI a0n.Kids))) GN.of_cs rfl Qa Qa Qa Qa Qa) (fun x2=>?_)
 refine xR 3 Qa (xE (Qp ⟨QaV a1limit l1_1 a0n l1_2,dB x2⟩ Qa (sS (Qg Qd ⟨[(1,I a1limit),(5,I l1_1),qq 7,(9, .p (.sl 5 (mI a0n.Kids))),(10,I (Qc (mI a0n.Kids))),(11,I l1_2),(17,B (QO a1limit l1_1))],dB x2⟩ Qa (sC (QO a1limit l1_1) Qa ?_ ?_)))))
 ·refine Qg Qd ⟨[(4,I l1_1)],[]⟩ Qa (sT (Q7 (Zd (Q7 (KH (Zd (Q7 ?_)))))))
  exact qR (.id) Qa Qa Qa
 refine sK (Qp ⟨QaV a1limit l1_1 a0n l1_2,dB x2⟩ Qa (sG (xR 5 Qa ?_)))
 refine xC [] Qa (ih x2 (wi (a1limit - l1_1))) Qa Qa QS (fun r3=>?_)
 refine xR 2 Qa (xE (Q6 (Qp ⟨dA a1limit (wi (l1_1+r3)) a0n l1_2,[]⟩ Qa (sL Qd Qa ?_))))
 exact KQ (wi (l1_1+r3),wi (l1_2+1)) Qa
def F3 (n:Nat) (recl4:MJ→Option MJ) (l4_1:List (List PV)) (l4_2:List YH) (l4_3:Int) (l4_4:Int) (l4_5:List ZX):Option MJ :=
 (cond (QO l4_3 (Qc (List.map YH.cs l4_2)))
  ((C9 n (⟨l4_2,l4_3,l4_4,l4_5⟩:Ko)).bind fun r7 =>
  some (!r7))
  (some false)).bind fun j5 =>
 cond j5
  (((E5 n (⟨l4_2,l4_3,l4_4,l4_5⟩:Ko)).bind (Rk (fun r9 =>
   some (true,r9.2.tks,r9.2.pos,r9.2.length,r9.2.dg,r9.1.Kind,r9.1.Name,r9.1.N,r9.1.At,r9.1.Kids)) fun e10=>cond (ZB (List.length (e10.2.dg++[(⟨7,e10.1⟩:ZX)])) 16) (
   (Bd n (⟨e10.2.tks,e10.2.pos,e10.2.length,[]⟩:Ko)).bind fun r11 =>
   some (false,r11.2.tks,r11.2.pos,r11.2.length,e10.2.dg++[(⟨7,e10.1⟩:ZX)],0,[],0,0,[])) none)).bind fun (j8_1,j8_2,j8_3,j8_4,j8_5,j8_6,j8_7,j8_8,j8_9,j8_10) =>
  cond j8_1
   (cond (ZB (List.length (l4_1++[GN.cs (⟨j8_6,j8_7,j8_8,j8_9,j8_10⟩:GN)])) 64) (
    recl4 (l4_1++[GN.cs (⟨j8_6,j8_7,j8_8,j8_9,j8_10⟩:GN)],j8_2,j8_3,j8_4,j8_5)) none)
   (recl4 (l4_1,j8_2,j8_3,j8_4,j8_5)))
  (some (l4_1,l4_2,l4_3,l4_4,l4_5))
def Tf (n:Nat) (a0z:List UInt8):Option (GN × (List ZX)) :=
 (OI n a0z).bind fun r1 =>
 cond (!Qi r1.2.1 0)
  (some ((⟨0,[],0,0,[]⟩:GN),[(⟨r1.2.1,r1.2.2⟩:ZX)]))
  (((QZ (fun recl4 (l4_1,l4_2,l4_3,l4_4,l4_5)=>F3 n recl4 l4_1 l4_2 l4_3 l4_4 l4_5) n ([],r1.1,0,Qc a0z,[])).bind fun (j3_1,j3_2,j3_3,j3_4,j3_5) =>
  cond (ZB (List.length ([]++j3_1)) 64) (
   some ([]++j3_1,j3_2,j3_3,j3_4,j3_5)) none).bind fun (j2_1,j2_2,j2_3,j2_4,j2_5) =>
  cond (QO 0 (Qc (List.map ZX.cs j2_5)))
   (some ((⟨0,[],0,0,[]⟩:GN),j2_5))
   ((G9 n (⟨1,[],0,0,j2_1⟩:GN) 1500).bind fun r12 =>
   cond (QO 1500 r12)
    (some ((⟨0,[],0,0,[]⟩:GN),[(⟨2,0⟩:ZX)]))
    (some ((⟨1,[],0,0,j2_1⟩:GN),[]))))
def dC:=fun x0=>(.arr 65 2 (List.map ZX.cs [x0]).length:Blk)
def xM:=fun x0 x1=>(.box 95 [.p (.sl 4 (List.map YH.cs x0)),I 0,I (x1), .p (.val (.slice none 0 0))]:Blk)
def QaW:Blk:=.box 99 [.fn (.func 40) [.ptr 1000 0] []]
def zN:=fun x0 x1=>([(1000,(xM x0 (x1))),(1001,QaW)]:List (Nat × Blk))
def dD:=fun x0 x1 x2 x3=>(.box 95 [.p (.sl 4 (List.map YH.cs x0)),I x1,I x2, .tsl 2 (List.map ZX.cs x3) 700]:Blk)
def mP:=fun x0 x1 x2 x3=>([(1000,(dD x0 x1 x2 x3)),(1001,QaW)]:List (Nat × Blk))
def QaX:=fun x0 x1=>([(32, .arr 24 5 (List.map KP x0).length),(700,(WE x1))]:List (Nat × Blk))
def zO:=fun x0 x1 x2 x3=>([(1000,(dD x0 x1 x2 x3))]:List (Nat × Blk))
def eP:=fun x0 x1=>([(1, .box 93 [.ptr 1000 0]),(32, .arr 24 5 (List.map KP x0).length),(700,(WE x1))]:List (Nat × Blk))
def QaY:=fun x0 x1 x2=>([(1, .box 93 [.ptr 1000 0]),(4,(wy x0)),(32, .arr 24 5 (List.map KP x1).length),(700,(WE x2))]:List (Nat × Blk))
def eQ:=fun x0 x1 x2 x3=>(.box 95 [.p (.sl 4 (List.map YH.cs x0)),I x1,I x2, .tsl 2 (List.map ZX.cs x3) 1000]:Blk)
def eT:=fun x0 x1 x2 x3=>([(1000,(WE x0)),(1001,(eQ x1 x2 x3 x0)),(1002, .box 93 [.ptr 1001 0]),(1003,(LA 0 [] 0 0))]:List (Nat × Blk))
def eU:=fun x0=>([(1900, .box 93 [.ptr 1001 0]),(1901, .box 4 [B x0]),(1902, .box 9 [S []])]:List (Nat × Blk))
def QaZ:=fun x0 x1 x2 x3 x4=>([(1000,(WE x0)),(1001,(eQ x1 x2 x3 x0)),(1002, .box 93 [.ptr 1001 0]),(1003, .box 24 (Ya (GN.cs x4)))]:List (Nat × Blk))
def OU:=fun x0 x1 x2 x3=>([(1000,(WE x0)),(1001,(eQ x1 x2 x3 x0))]:List (Nat × Blk))
def OV:=fun x0=>([(1002, .box 93 [.ptr 1001 0]),(1003, .box 4 [B x0]),(1004, .box 9 [S []])]:List (Nat × Blk))
theorem Bj (n:Nat) (a0z:List UInt8):∀ r,Tf n a0z=some r→Q9 Tryz.prog 21 [S a0z] (.ret (.tup [ag (GN.cs r.1), .p (.sl 2 (Wm r.2))])):=by
 refine Qs (X:=fun r:GN × (List ZX)=>QX.ret (.tup [ag (GN.cs r.1), .p (.sl 2 (Wm r.2))])) Tryz.func21 rfl Tryz.ntmps21 rfl ?_
 unfold Tf
 refine Qg Qd ⟨[(0,S a0z),qq 2],[(2,(LA 0 [] 0 0))]⟩ Qa (sS (sG (xR 1 Qa ?_)))
 refine xC [] Qa (yR n a0z) Qa Qa QS (fun r1=>?_)
 refine xR 7 Qa (xE (Qp ⟨[(0,S a0z),qq 2,(4, .p (.sl 4 (Hr r1.1))),(5,I r1.2.1),(6,I r1.2.2)],[(2,(LA 0 [] 0 0))]⟩ Qa (sS (Qg Qd ⟨[(0,S a0z),qq 2,(4, .p (.sl 4 (Hr r1.1))),(5,I r1.2.1),(6,I r1.2.2),(16,B (!Qi r1.2.1 0))],[(2,(LA 0 [] 0 0))]⟩ Qa (sC (!Qi r1.2.1 0) Qa ?_ ?_)))))
 ·refine Qg Qd ⟨[qq 2,(3, .tsl 2 (Wm [(⟨r1.2.1,r1.2.2⟩:ZX)]) 21)],[(2,(LA 0 [] 0 0)),(21,(dC (⟨r1.2.1,r1.2.2⟩:ZX)))]⟩ Qa (sT (Q7 ?_))
  exact qR (.agg [.agg [.id, .id, .id, .id, .sl 5], .sl 2]) Qa Qa Qa
 refine sK (Qp ⟨[(0,S a0z),qq 2,(4, .p (.sl 4 (Hr r1.1)))],[(2,(LA 0 [] 0 0))]⟩ Qa (Qg Qd ⟨[qq 2,(7, .ptr 26 0)],[(2,(LA 0 [] 0 0)),(26,(xM r1.1 (Qc a0z)))]⟩ Qa (sS (sG (xR 4 Qa (Vo (zN r1.1 (Qc a0z)) [.agg [I 0,S [],I 0,I 0],I 1,S [],I 0, .bsl 1001 1] [(1000,26),(1001,30),(700,700)] [] [] Qa Tryz.func39 rfl Tryz.ntmps39 rfl Qa Qa Qa (Qg Qd ⟨eD 1 [] (.bsl 1001 1),[(5, .box 98 [I 0,S [],I 0,I 0]),(10,(LA 0 [] 0 0))]++zN r1.1 (Qc a0z)⟩ Qa ?_)))))))
 refine Qg Qd ⟨xA (.bsl 1001 1),Dn 1 [] 0 0++zN r1.1 (Qc a0z)⟩ Qa (K6 (fun (j2_1,j2_2,j2_3,j2_4,j2_5)=>⟨[qq 10,qq 11],OP 1 [] 0 j2_1++TE j2_1++[(700,(WE j2_5))]++mP j2_2 j2_3 j2_4 j2_5⟩:MJ→St) ?_ ?_)
 rotate_left
 ·rintro ⟨j2_1,j2_2,j2_3,j2_4,j2_5⟩
  refine Qg Qd ⟨[qq 10],[(10,(dn 1 [] 0 j2_1))]++TE j2_1++[(700,(WE j2_5))]++mP j2_2 j2_3 j2_4 j2_5⟩ Qa (sT (Q4 (.agg [.id, .id, .id, .id, .sl 5]) [700,1000,1001] [] (.agg [I 1,S [],I 0,I 0, .p (.sl 5 (mI j2_1))]) Qa Qa (WQ (xR 2 Qa (xE (Qp ⟨[qq 2,(7, .ptr 26 0),qq 8],[(2,(LA 0 [] 0 0)),(8,(wy ⟨1,[],0,0,j2_1⟩)),(26,(dD j2_2 j2_3 j2_4 j2_5)),(700,(WE j2_5))]⟩ Qa (sS ?_)))))))
  refine Qg Qd ⟨[qq 2,(7, .ptr 26 0),qq 8,(37,B (QO 0 (Qc (Wm j2_5))))],[(2,(LA 0 [] 0 0)),(8,(wy ⟨1,[],0,0,j2_1⟩)),(26,(dD j2_2 j2_3 j2_4 j2_5)),(700,(WE j2_5))]⟩ Qa (sC (QO 0 (Qc (Wm j2_5))) Qa ?_ ?_)
  ·refine Qg Qd ⟨[qq 2,(3, .tsl 2 (Wm j2_5) 700)],[(2,(LA 0 [] 0 0)),(700,(WE j2_5))]⟩ Qa (sT (Q7 ?_))
   exact qR (.agg [.agg [.id, .id, .id, .id, .sl 5], .sl 2]) Qa Qa Qa
  refine sK (Qp ⟨[qq 2,qq 8],[(2,(LA 0 [] 0 0)),(8,(wy ⟨1,[],0,0,j2_1⟩))]⟩ Qa (sS (sS (sG (xR 1 Qa ?_)))))
  refine xC [] Qa (OT n (⟨1,[],0,0,j2_1⟩:GN) 1500) Qa Qa QS (fun r12=>?_)
  refine xR 1 Qa (xE (Qp ⟨[qq 2,qq 8,(45,B (QO 1500 r12))],[(2,(LA 0 [] 0 0)),(8,(wy ⟨1,[],0,0,j2_1⟩))]⟩ Qa (sC (QO 1500 r12) Qa ?_ ?_)))
  ·refine Qg Qd ⟨[qq 2,(3, .tsl 2 (Wm [(⟨2,0⟩:ZX)]) 48)],[(2,(LA 0 [] 0 0)),(48,(dC (⟨2,0⟩:ZX)))]⟩ Qa (sT (Q7 ?_))
   exact qR (.agg [.agg [.id, .id, .id, .id, .sl 5], .sl 2]) Qa Qa Qa
  refine sK (Qp ⟨[qq 2,qq 8],[(2,(LA 0 [] 0 0)),(8,(wy ⟨1,[],0,0,j2_1⟩))]⟩ Qa (Qg Qd ⟨[qq 2,(3,zS)],[(2,(wy ⟨1,[],0,0,j2_1⟩))]⟩ Qa (sT ?_)))
  exact qR (.agg [.id, .sl 2]) Qa Qa Qa
 refine Qg Qd ⟨GA (.bsl 1001 1) 1 0,Dn 1 [] 0 0++zN r1.1 (Qc a0z)⟩ Qa (sB (Vr 1 (Qg Qd ⟨Dq (.bsl 1001 1) 1 0 true,Dn 1 [] 0 0++zN r1.1 (Qc a0z)⟩ Qa (sS (Zm Qa (sK (Qp ⟨GA (.bsl 1001 1) 1 0,Dn 1 [] 0 0++zN r1.1 (Qc a0z)⟩ Qa ?_)))))))
 refine sS (sB (Qg Qd ⟨yX (.func 40) (.bsl 1001 1) 1 0,Dn 1 [] 0 0++zN r1.1 (Qc a0z)⟩ Qa (EU ⟨yX (.func 40) (.bsl 1001 1) 1 0,Dn 1 [] 0 0++zN r1.1 (Qc a0z)⟩ Qa (Zz (KT 24 5 300 [] [(11,4)] Qa) (V5 [0,1,2] [0,1] [(3,[]),(4,[]),(5,[]),(6,[])] Qd rfl Qa Qa (K7 (f:=40) (args:=[YR]) (dst:=some 29) Qa Qa (Zy (hc:=[(1000,(xM r1.1 (Qc a0z)))]) (args':=[YR]) [(1000,1000),(700,700)] [] [] Tryz.func40 rfl Tryz.ntmps40 rfl Qa Qa Qa ?_)))))))
 refine Qg Qd ⟨[qq 1],OO++[(1000,(xM r1.1 (Qc a0z)))]⟩ Qa (Qg Qd ⟨zL,OO++[(1000,(xM r1.1 (Qc a0z)))]⟩ Qa (K6 (fun (j3_1,j3_2,j3_3,j3_4,j3_5)=>⟨[(3, .tsl 5 (mI j3_1) 32)],QaX j3_1 j3_5++zO j3_2 j3_3 j3_4 j3_5⟩:MJ→St) ?_ ?_))
 rotate_left
 ·rintro ⟨j3_1,j3_2,j3_3,j3_4,j3_5⟩
  refine Qg Qd ⟨[(2, .tsl 5 (mI j3_1) 32)],QaX j3_1 j3_5++zO j3_2 j3_3 j3_4 j3_5⟩ Qa (sT (Q4 (.sl 5) [700,1000] [] (.p (.sl 5 (mI j3_1))) Qa Qa (kh [0,1] Qa (QR (Zq (.ptr 11 4) Qa rfl) (QR (WU (S:=5) (t:=300) (ty:=24) (es:=mI []) Qa Qa rfl) (Ql))) Qa (EG [] rfl Qa Qa (WS (e:=24) (S:=5) (by_:=64) (enc:=KP) (tk:=300) (l:=[]) (l2:=j3_1) (xv:=.p (.sl 5 (mI j3_1))) rfl Qa Qa rfl Qa Qa Qa Qa) (fun _=>Ql) (Jm [] Qa Qa (Ql) (Jm [] Qa Qa (Ql) (JH ?_)))))))
  refine Q6 (Qp ⟨GA (.bsl 1001 1) 1 0,OP 1 [] 0 ([]++j3_1)++Gz ([]++j3_1)++[(700,(WE j3_5))]++mP j3_2 j3_3 j3_4 j3_5⟩ Qa (sL Qd Qa (Oz ⟨[10,11,20,21,22],[10,11,300,700,1000,1001],[],[]⟩ ⟨GA (.bsl 1001 1) 1 1,OP 1 [] 0 ([]++j3_1)++Gz ([]++j3_1)++[(700,(WE j3_5))]++mP j3_2 j3_3 j3_4 j3_5⟩ Qa (Qg Qd ⟨Dq (.bsl 1001 1) 1 1 false,OP 1 [] 0 ([]++j3_1)++Gz ([]++j3_1)++[(700,(WE j3_5))]++mP j3_2 j3_3 j3_4 j3_5⟩ Qa (sS (Zn Qa (Qz ?_)))))))
  refine ZW (Aa (QW ?_))
  exact QQ ([]++j3_1,j3_2,j3_3,j3_4,j3_5) Qa
 refine sB (EU ⟨zL,OO++[(1000,(xM r1.1 (Qc a0z)))]⟩ Qa (Zz (Weak.trans (KT 24 5 32 [3] [] Qa) (KT 65 2 700 [] [(1000,3)] Qa)) (QI (fun (l4_1,l4_2,l4_3,l4_4,l4_5)=>⟨mM l4_1,eP l4_1 l4_5++zO l4_2 l4_3 l4_4 l4_5⟩:MJ→St) (Xg Qa) ?_)))
 rintro recl4 ⟨l4_1,l4_2,l4_3,l4_4,l4_5⟩
 show QV (F3 n recl4 l4_1 l4_2 l4_3 l4_4 l4_5) _ _ _ _ _ _
 unfold F3
 refine sS (K6 (fun j5=>⟨[qq 1,(3, .tsl 5 (mI l4_1) 32),(21,B j5)],eP l4_1 l4_5++zO l4_2 l4_3 l4_4 l4_5⟩:Bool→St) ?_ ?_)
 ·refine Vq Qd rfl (xR 11 Qa ?_)
  refine xS (QO l4_3 (Qc (Hr l4_2))) (fun h6=>?_) (fun h6=>?_)
  ·refine xO (Qq Qa h6) Qa (FN rfl Qa Qa ?_)
   refine H8 [.ro [.id, .id, .id, .sl 2]] Qa (NB n (⟨l4_2,l4_3,l4_4,l4_5⟩:Ko)) Qa Qa QS (fun r7=>?_)
   refine xR 2 Qa (xE ?_)
   exact QQ (!r7) Qa
  refine xN (Qr Qa h6) Qa (xR 3 Qa (YB Qa ?_))
  exact QQ false Qa
 rintro j5
 refine sC j5 Qa ?_ ?_
 rotate_left
 ·refine Qz (ZW (KM (QW ?_)))
  exact QQ (l4_1,l4_2,l4_3,l4_4,l4_5) Qa
 refine sK (Qp ⟨mM l4_1,eP l4_1 l4_5++zO l4_2 l4_3 l4_4 l4_5⟩ Qa (sB (Qg Qd ⟨QaK l4_1,[(1, .box 93 [YR]),(4,(LA 0 [] 0 0)),(32,sH l4_1),(700,(WE l4_5))]++zO l4_2 l4_3 l4_4 l4_5⟩ Qa (K6 (fun (j8_1,j8_2,j8_3,j8_4,j8_5,j8_6,j8_7,j8_8,j8_9,j8_10)=>⟨[qq 1,(3, .tsl 5 (mI l4_1) 32),qq 4,(5,B j8_1)],QaY ⟨j8_6,j8_7,j8_8,j8_9,j8_10⟩ l4_1 j8_5++zO j8_2 j8_3 j8_4 j8_5⟩:(Bool × (List YH) × Int × Int × (List ZX) × Int × (List UInt8) × Int × Int × (List (List PV)))→St) ?_ ?_))))
 rotate_left
 ·rintro ⟨j8_1,j8_2,j8_3,j8_4,j8_5,j8_6,j8_7,j8_8,j8_9,j8_10⟩
  refine Qg Qd ⟨[qq 1,(3, .tsl 5 (mI l4_1) 32),qq 4,(28,B j8_1)],QaY ⟨j8_6,j8_7,j8_8,j8_9,j8_10⟩ l4_1 j8_5++zO j8_2 j8_3 j8_4 j8_5⟩ Qa (sC j8_1 Qa ?_ ?_)
  ·refine sG (xR 3 Qa (xF Qa Qa (ZM (e:=24) (S:=5) (by_:=64) (enc:=KP) (tk:=32) (l:=l4_1) (l2:=[GN.cs (⟨j8_6,j8_7,j8_8,j8_9,j8_10⟩:GN)]) (xv:=.tsl 5 (mI [GN.cs (⟨j8_6,j8_7,j8_8,j8_9,j8_10⟩:GN)]) 31) rfl Qa Qa rfl Qa Qa Qa rfl Qa) (xR 1 Qa (xE (Q6 ?_)))))
   exact KQ (l4_1++[GN.cs (⟨j8_6,j8_7,j8_8,j8_9,j8_10⟩:GN)],j8_2,j8_3,j8_4,j8_5) Qa
  refine sK (Q6 ?_)
  exact KQ (l4_1,j8_2,j8_3,j8_4,j8_5) Qa
 refine sG (xR 2 Qa (Yb (f:=73) (args:=[YR, .fn (.func 74) [] [.ptr 1 0, .ptr 4 0]]) Qa Qa Qa ?_))
 refine T9 (hc:=(eT l4_5 l4_2 l4_3 l4_4)) (args':=[Tj, .fn (.func 74) [] [Lx,sD]]) [(1002,1),(1003,4),(1000,700),(1001,1000)] [] [] (⟨_,_,_,_,_,_,[2,4,5],6,_,rfl,rfl,rfl,rfl,rfl,rfl,rfl,rfl,by decide⟩:GY Tryz.f73 97) [(2,1900),(4,1901),(5,1902)] Tryz.func73 Tryz.ntmps73 Qa Qa Qa Qa Qa Qd rfl Qa Qa ?_
 refine EU ⟨QaM (.func 74),eT l4_5 l4_2 l4_3 l4_4++eU false⟩ Qa (sS (sG (xR 1 Qa (Vo (eT l4_5 l4_2 l4_3 l4_4) [Lx,sD] nq4 [] [] Qa Tryz.func74 rfl Tryz.ntmps74 rfl Qa Qa Qa (sG (xR 1 Qa ?_))))))
 refine U6 [(1000,1001),(1103,1000)] [] [] Qa (zM n (⟨l4_2,l4_3,l4_4,l4_5⟩:Ko)) Qa Qa Qa QS QS QS QS (fun r9=>?_) (fun e10=>?_)
 ·refine xR 1 Qa (xE (Hw (.id) [1000,1001,1002,1003] [] (.tup []) Qa Qa (WQ (xE (Qp ⟨[(4, .ptr 1901 0),(5, .ptr 1902 0)],QaZ r9.2.dg r9.2.tks r9.2.pos r9.2.length r9.1++eU false⟩ Qa (Qg Qd ⟨[(4, .ptr 1901 0),(5, .ptr 1902 0)],QaZ r9.2.dg r9.2.tks r9.2.pos r9.2.length r9.1++eU true⟩ Qa (sT ?_)))))))
  refine JB (⟨Tryz.f97,_,_,_,6,3,_,_,Tryz.func97,rfl,rfl,rfl,rfl,rfl,rfl,rfl,by decide,by decide⟩:Ke Tryz.prog 97) nq5 (OU r9.2.dg r9.2.tks r9.2.pos r9.2.length++OV true) (.p (.val (.nilIface))) [Lx,sD, .ptr 1004 0] [] rfl Qa Qa Qa Qa ?_
  refine sS (Qg Qd ⟨QaO,OU r9.2.dg r9.2.tks r9.2.pos r9.2.length++OV true⟩ Qa (Zm Qa (sT (Q7 (fM [1000,1001,1002,1003,1004] [] Qa Qa (Q4 (.id) [1000,1001,1002,1003] [] (.tup [B true,S []]) Qa Qa (WQ ?_)))))))
  refine xR 5 Qa (xE ?_)
  exact QQ (true,r9.2.tks,r9.2.pos,r9.2.length,r9.2.dg,r9.1.Kind,r9.1.Name,r9.1.N,r9.1.At,r9.1.Kids) Qa
 refine ZN [1000,1001,1002,1003] [] Qa (Z8 ?_)
 refine JB (⟨Tryz.f97,_,_,_,6,3,_,_,Tryz.func97,rfl,rfl,rfl,rfl,rfl,rfl,rfl,by decide,by decide⟩:Ke Tryz.prog 97) nq5 (OU e10.2.dg e10.2.tks e10.2.pos e10.2.length++OV false) (.ifc 149 (.agg [I e10.1])) [Lx,sD, .ptr 1004 0] [] rfl Qa Qa Qa Qa ?_
 refine sS (Qg Qd ⟨QaP e10.1,OU e10.2.dg e10.2.tks e10.2.pos e10.2.length++OV false⟩ Qa (Zn Qa (sK (Qp ⟨QaQ e10.1,OU e10.2.dg e10.2.tks e10.2.pos e10.2.length++OV false⟩ Qa (Qg Qd ⟨QaR e10.1,xK e10.1++OU e10.2.dg e10.2.tks e10.2.pos e10.2.length++OV false⟩ Qa (sS (Qg Qd ⟨QaS e10.1,xK e10.1++OU e10.2.dg e10.2.tks e10.2.pos e10.2.length++OV false⟩ Qa ?_)))))))
 refine Zn Qa (sK (Qp ⟨QaT,xK e10.1++OU e10.2.dg e10.2.tks e10.2.pos e10.2.length++OV false⟩ Qa (sS (Vq Qd rfl (xR 9 Qa (xF Qa Qa (ZM (e:=65) (S:=2) (by_:=16) (enc:=ZX.cs) (tk:=1000) (l:=e10.2.dg) (l2:=[(⟨7,e10.1⟩:ZX)]) (xv:=.tsl 2 (Wm [(⟨7,e10.1⟩:ZX)]) 25) rfl Qa Qa rfl Qa Qa Qa rfl Qa) (xR 3 Qa ?_)))))))
 refine YB Qa (Qp ⟨QaU,OU (e10.2.dg++[(⟨7,e10.1⟩:ZX)]) e10.2.tks e10.2.pos e10.2.length++OV false⟩ Qa (sG (xR 1 Qa (Yb (f:=98) (args:=[Tj]) Qa Qa Qa ?_))))
 refine CS 1001 3 1000 65 2 (Wm (e10.2.dg++[(⟨7,e10.1⟩:ZX)])).length (Wm (e10.2.dg++[(⟨7,e10.1⟩:ZX)])) ⟨[0,1,2,29],[1001,1002,1003,1004],[],[]⟩ Qa Qa rfl (fun _ _ _=>by kernel_rfl) (fun hu11w hu11l hu11c=>?_)
 refine CJ [(1000,1001)] [] [] (ND n (⟨e10.2.tks,e10.2.pos,e10.2.length,[]⟩:Ko) hu11w hu11l hu11c) Qa Qa Qa QS QS (fun r11=>?_)
 refine EL _ rfl Qa Qa (WQ (xR 2 Qa (xE (CO [1000,1001,1002,1003,1004] [] Qa Qa (Q4 (.id) [1000,1001,1002,1003] [] (.tup [B false,S r11.1]) Qa Qa (WQ (xR 5 Qa ?_)))))))
 refine xE ?_
 exact lG (false,r11.2.tks,r11.2.pos,r11.2.length,e10.2.dg++[(⟨7,e10.1⟩:ZX)],0,[],0,0,[]) ⟨[1,3,4,5],[1,4,32,700,1000],[],[(4,[.id, .id, .id, .id, .sl 5])]⟩ Qa
def Yt (a0text:List UInt8) (recl7:Int→Option Bool) (l7:Int):Option Bool :=
 cond (QO l7 (Qc a0text))
  ((Q8 a0text l7).bind fun x8 =>
  (cond (leI 97 (Y2 x8))
   (cond (leI (Y2 x8) 122)
    (some false)
    (cond (leI 48 (Y2 x8))
     (cond (leI (Y2 x8) 57)
      (some false)
      (some (!(Qi (Y2 x8) 95))))
     (some (!(Qi (Y2 x8) 95)))))
   (cond (leI 48 (Y2 x8))
    (cond (leI (Y2 x8) 57)
     (some false)
     (some (!(Qi (Y2 x8) 95))))
    (some (!(Qi (Y2 x8) 95))))).bind fun j9 =>
  cond j9
   (some false)
   (recl7 (wi (l7+1))))
  (some true)
def Xt (n:Nat) (a0text:List UInt8):Option Bool :=
 (cond (QO (Qc a0text) 1)
  (some true)
  (cond (QO 12 (Qc a0text))
   (some true)
   ((Q8 a0text 0).bind fun x4 =>
   cond (QO (Y2 x4) 97)
    (some true)
    ((Q8 a0text 0).bind fun x6 =>
    some (QO 122 (Y2 x6)))))).bind fun j1 =>
 cond j1
  (some false)
  (QZ (fun recl7 l7=>Yt a0text recl7 l7) n 1)
theorem NP (n:Nat) (a0text:List UInt8):∀ r,Xt n a0text=some r→Q9 Tryz.prog 109 [S a0text] (.ret (B r)):=by
 refine Qs (X:=fun r:Bool=>QX.ret (B r)) Tryz.func109 rfl Tryz.ntmps109 rfl ?_
 unfold Xt
 refine Qg Qd ⟨[(0,S a0text)],[]⟩ Qa (sS (K6 (fun j1=>⟨[(0,S a0text),(22,B j1)],[]⟩:Bool→St) ?_ ?_))
 ·refine sG (xR 4 Qa ?_)
  refine xS (QO (Qc a0text) 1) (fun h2=>?_) (fun h2=>?_)
  ·refine xN (Qx Qa h2) Qa (xR 13 Qa (xE ?_))
   exact QQ true Qa
  refine xO (Qw Qa h2) Qa (xR 4 Qa ?_)
  refine xS (QO 12 (Qc a0text)) (fun h3=>?_) (fun h3=>?_)
  ·refine xN (Qx Qa h3) Qa (xR 8 Qa (xE ?_))
   exact QQ true Qa
  refine xO (Qw Qa h3) Qa ?_
  refine xG Qa Qa (WR (l:=a0text) (k:=.i64) (n:=0) rfl Qa Qa Qa) (fun x4=>?_)
  refine xR 3 Qa ?_
  refine xS (QO (Y2 x4) 97) (fun h5=>?_) (fun h5=>?_)
  ·refine xN (Qx Qa h5) Qa (xR 3 Qa (xE ?_))
   exact QQ true Qa
  refine xO (Qw Qa h5) Qa ?_
  refine xG Qa Qa (WR (l:=a0text) (k:=.i64) (n:=0) rfl Qa Qa Qa) (fun x6=>?_)
  refine xR 2 Qa (xE ?_)
  exact QQ (QO 122 (Y2 x6)) Qa
 rintro j1
 refine sC j1 Qa ?_ ?_
 ·refine Qg Qd ⟨[(2,B false)],[]⟩ Qa (sT (Q7 ?_))
  exact qR (.id) Qa Qa Qa
 refine sK (Qp ⟨[(0,S a0text)],[]⟩ Qa (sS (Qg Qd ⟨[(0,S a0text),(3,I 1)],[]⟩ Qa (sB (QI (fun l7=>⟨[(0,S a0text),(3,I l7)],[]⟩:Int→St) (Xg Qa) ?_)))))
 rintro recl7 l7
 show QV (Yt a0text recl7 l7) _ _ _ _ _ _
 unfold Yt
 refine sS (Qg Qd ⟨[(0,S a0text),(3,I l7),(26,B (QO l7 (Qc a0text)))],[]⟩ Qa (sC (QO l7 (Qc a0text)) Qa ?_ ?_))
 rotate_left
 ·refine Qz (ZW (KM (QW (Qp ⟨[],[]⟩ Qa (Qg Qd ⟨[(2,B true)],[]⟩ Qa (sT ?_))))))
  exact qR (.id) Qa Qa Qa
 refine sK (Qp ⟨[(0,S a0text),(3,I l7)],[]⟩ Qa (sS (sB (sS (sG (xR 2 Qa ?_))))))
 refine xG Qa Qa (WR (l:=a0text) (k:=.i64) (n:=l7) rfl Qa Qa Qa) (fun x8=>?_)
 refine xR 1 Qa (xE (Qp ⟨[(0,S a0text),(3,I l7),(4,B8 (Y2 x8))],[]⟩ Qa (K6 (fun j9=>⟨[(0,S a0text),(3,I l7),(50,B j9)],[]⟩:Bool→St) ?_ ?_)))
 rotate_left
 ·rintro j9
  refine sC j9 Qa ?_ ?_
  ·refine Qg Qd ⟨[(2,B false)],[]⟩ Qa (sT (Zd (Q7 (KH (Zd (Q7 ?_))))))
   exact qR (.id) Qa Qa Qa
  refine sK (Q6 (Qp ⟨[(0,S a0text),(3,I l7)],[]⟩ Qa (sL Qd Qa ?_)))
  exact KQ (wi (l7+1)) Qa
 refine sG (xR 3 Qa ?_)
 refine xS (leI 97 (Y2 x8)) (fun h10=>?_) (fun h10=>?_)
 rotate_left
 ·refine xN (Qr Qa h10) Qa (xR 6 Qa ?_)
  refine xS (leI 48 (Y2 x8)) (fun h14=>?_) (fun h14=>?_)
  ·refine xO (Qq Qa h14) Qa (xR 4 Qa ?_)
   refine xS (leI (Y2 x8) 57) (fun h15=>?_) (fun h15=>?_)
   ·refine xN (Qx Qa h15) Qa (xR 3 Qa (xE ?_))
    exact QQ false Qa
   refine xO (Qw Qa h15) Qa (xR 3 Qa (xE ?_))
   exact QQ (!(Qi (Y2 x8) 95)) Qa
  refine xN (Qr Qa h14) Qa (xR 8 Qa (xE ?_))
  exact QQ (!(Qi (Y2 x8) 95)) Qa
 refine xO (Qq Qa h10) Qa (xR 3 Qa ?_)
 refine xS (leI (Y2 x8) 122) (fun h11=>?_) (fun h11=>?_)
 ·refine xN (Qx Qa h11) Qa (xR 11 Qa (xE ?_))
  exact QQ false Qa
 refine xO (Qw Qa h11) Qa (xR 2 Qa ?_)
 refine xS (leI 48 (Y2 x8)) (fun h12=>?_) (fun h12=>?_)
 ·refine xO (Qq Qa h12) Qa (xR 4 Qa ?_)
  refine xS (leI (Y2 x8) 57) (fun h13=>?_) (fun h13=>?_)
  ·refine xN (Qx Qa h13) Qa (xR 3 Qa (xE ?_))
   exact QQ false Qa
  refine xO (Qw Qa h13) Qa (xR 3 Qa (xE ?_))
  exact QQ (!(Qi (Y2 x8) 95)) Qa
 refine xN (Qr Qa h12) Qa (xR 8 Qa (xE ?_))
 exact QQ (!(Qi (Y2 x8) 95)) Qa
def Jp (n:Nat) (a0text:List UInt8):Option Bool :=
 (Xt n a0text).bind fun r1 =>
 cond r1
  ((UR n a0text).bind fun r3 =>
  some (!r3))
  (some false)
theorem F7 (n:Nat) (a0text:List UInt8):∀ r,Jp n a0text=some r→Q9 Tryz.prog 76 [S a0text] (.ret (B r)):=by
 refine Qs (X:=fun r:Bool=>QX.ret (B r)) Tryz.func76 rfl Tryz.ntmps76 rfl ?_
 unfold Jp
 refine Qg Qd ⟨[(0,S a0text)],[]⟩ Qa (sS (sG (xR 1 Qa ?_)))
 refine xC [] Qa (NP n a0text) Qa Qa QS (fun r1=>?_)
 refine xR 1 Qa ?_
 refine xS r1 (fun h2=>?_) (fun h2=>?_)
 ·refine xO (Qq Qa h2) Qa ?_
  refine xC [] Qa (Bc n a0text) Qa Qa QS (fun r3=>?_)
  refine xR 3 Qa (xE (Qp ⟨[(2,B (!r3))],[]⟩ Qa (sT ?_)))
  exact qR (.id) Qa Qa Qa
 refine xN (Qr Qa h2) Qa (xR 4 Qa (xE (Qp ⟨[(2,B false)],[]⟩ Qa (sT ?_))))
 exact qR (.id) Qa Qa Qa
def WY (n:Nat) (a0n:GN) (a1words:Bool):Option Bool :=
 cond (!Qi (Qc (List.map KP a0n.Kids)) 0)
  (some false)
  (cond (Qi a0n.Kind 5)
   (cond (Qi a0n.N 0)
    ((Jp n a0n.Name).bind fun r2 =>
    cond r2
     (some true)
     (cond a1words
      ((WV n a0n.Name).bind fun r5 =>
      some r5)
      (some false)))
    (some false))
   (cond (Qi a0n.Kind 6)
    (cond (QP a0n.Name [])
     (cond (leI 0 a0n.N)
      (some (leI a0n.N 1000000))
      (some false))
     (some false))
    (some false)))
theorem Bl (n:Nat) (a0n:GN) (a1words:Bool):∀ r,WY n a0n a1words=some r→Q9 Tryz.prog 113 [ag (GN.cs a0n),B a1words] (.ret (B r)):=by
 refine Qs (X:=fun r:Bool=>QX.ret (B r)) Tryz.func113 rfl Tryz.ntmps113 rfl ?_
 unfold WY
 refine Qg Qd ⟨[(1,B a1words),qq 2],Yj a0n⟩ Qa (sS (Qg Qd ⟨[(1,B a1words),qq 2,(8,B (!Qi (Qc (mI a0n.Kids)) 0))],Yj a0n⟩ Qa (sC (!Qi (Qc (mI a0n.Kids)) 0) Qa ?_ ?_)))
 ·refine Qg Qd ⟨[(4,B false)],[]⟩ Qa (sT (Q7 ?_))
  exact qR (.id) Qa Qa Qa
 refine sK (Qp ⟨[(1,B a1words),qq 2],Yj a0n⟩ Qa (sS (Qg Qd ⟨[(1,B a1words),qq 2,(10,I a0n.Kind)],Yj a0n⟩ Qa (sB (Qg Qd ⟨[(1,B a1words),qq 2,(10,I a0n.Kind),(11,B (Qi a0n.Kind 5))],Yj a0n⟩ Qa (sC (Qi a0n.Kind 5) Qa ?_ ?_))))))
 rotate_left
 ·refine Qg Qd ⟨[qq 2,(29,B (Qi a0n.Kind 6))],Yj a0n⟩ Qa (sC (Qi a0n.Kind 6) Qa ?_ ?_)
  rotate_left
  ·refine sK (Q6 (Qp ⟨[],[]⟩ Qa (Qg Qd ⟨[(4,B false)],[]⟩ Qa (sT ?_))))
   exact qR (.id) Qa Qa Qa
  refine sS (sG (xR 4 Qa ?_))
  refine xS (QP a0n.Name []) (fun h6=>?_) (fun h6=>?_)
  rotate_left
  ·refine xN (Qr Qa h6) Qa (xR 9 Qa (xE (Qp ⟨[(4,B false)],[]⟩ Qa (sT (Zd (Q7 ?_))))))
   exact qR (.id) Qa Qa Qa
  refine xO (Qq Qa h6) Qa (xR 4 Qa ?_)
  refine xS (leI 0 a0n.N) (fun h7=>?_) (fun h7=>?_)
  ·refine xO (Qq Qa h7) Qa (xR 4 Qa (xE (Qp ⟨[(4,B (leI a0n.N 1000000))],[]⟩ Qa (sT (Zd (Q7 ?_))))))
   exact qR (.id) Qa Qa Qa
  refine xN (Qr Qa h7) Qa (xR 4 Qa (xE (Qp ⟨[(4,B false)],[]⟩ Qa (sT (Zd (Q7 ?_))))))
  exact qR (.id) Qa Qa Qa
 refine sS (sG (xR 4 Qa ?_))
 refine xS (Qi a0n.N 0) (fun h1=>?_) (fun h1=>?_)
 rotate_left
 ·refine xN (Qr Qa h1) Qa (xR 12 Qa (xE (Qp ⟨[(4,B false)],[]⟩ Qa (sT (Zd (Q7 ?_))))))
  exact qR (.id) Qa Qa Qa
 refine xO (Qq Qa h1) Qa (xR 1 Qa ?_)
 refine xC [] Qa (F7 n a0n.Name) Qa Qa QS (fun r2=>?_)
 refine xR 1 Qa ?_
 refine xS r2 (fun h3=>?_) (fun h3=>?_)
 ·refine xN (Qx Qa h3) Qa (xR 8 Qa (xE (Qp ⟨[(4,B true)],[]⟩ Qa (sT (Zd (Q7 ?_))))))
  exact qR (.id) Qa Qa Qa
 refine xO (Qw Qa h3) Qa (xR 1 Qa ?_)
 refine xS a1words (fun h4=>?_) (fun h4=>?_)
 ·refine xO (Qq Qa h4) Qa (xR 1 Qa ?_)
  refine xC [] Qa (Gw n a0n.Name) Qa Qa QS (fun r5=>?_)
  refine xR 4 Qa (xE (Qp ⟨[(4,B r5)],[]⟩ Qa (sT (Zd (Q7 ?_)))))
  exact qR (.id) Qa Qa Qa
 refine xN (Qr Qa h4) Qa (xR 6 Qa (xE (Qp ⟨[(4,B false)],[]⟩ Qa (sT (Zd (Q7 ?_))))))
 exact qR (.id) Qa Qa Qa
def YL (n:Nat) (a0n:GN) (a1left:Int) (recl9:Int→Option (Bool × Int)) (l9:Int):Option (Bool × Int) :=
 cond (QO l9 (Qc (List.map KP a0n.Kids)))
  ((Option.bind (Q8 a0n.Kids l9) GN.of).bind fun x10 =>
  (WY n x10 (Qi a0n.Kind 4)).bind fun r11 =>
  cond (!r11)
   (some (false,wi (a1left - (Qc (List.map KP a0n.Kids)))))
   (recl9 (wi (l9+1))))
  (some (true,wi (a1left - (Qc (List.map KP a0n.Kids)))))
def JI (n:Nat) (a0n:GN) (a1left:Int):Option (Bool × Int) :=
 cond (!Qi a0n.N 0)
  (some (false,a1left))
  ((cond (Qi a0n.Kind 3)
   ((V6 n a0n.Name).bind fun r3 =>
   some (!r3))
   (some false)).bind fun j1 =>
  cond j1
   (some (false,a1left))
   ((cond (Qi a0n.Kind 4)
    ((YI n a0n.Name).bind fun r6 =>
    some (!r6))
    (some false)).bind fun j4 =>
   cond j4
    (some (false,a1left))
    ((cond (!Qi a0n.Kind 3)
     (some (!Qi a0n.Kind 4))
     (some false)).bind fun j7 =>
    cond j7
     (some (false,a1left))
     (cond (QO (wi (a1left - (Qc (List.map KP a0n.Kids)))) 0)
      (some (false,wi (a1left - (Qc (List.map KP a0n.Kids)))))
      (QZ (fun recl9 l9=>YL n a0n a1left recl9 l9) n 0)))))
def J5:=fun x0=>([(1001, .box 3 [I x0])]:List (Nat × Blk))
def eX:=fun x0 x1=>(⟨[(1, .ptr 1001 0),(2, .ptr 2 0)],Yj x0++J5 x1⟩:St)
def dE:=fun x0=>([(1, .ptr 1001 0),(2, .ptr 2 0),(5,B x0)]:List (Nat × AV))
def eY:=fun x0=>(.box 3 [I x0]:Blk)
def F4:=fun x0=>([(1001,(eY x0))]:List (Nat × Blk))
def dF:=fun x0 x1 x2=>([(5,B x0),(57, .p (.sl 5 (List.map KP (GN.Kids x1)))),(58,I (Qc (List.map KP (GN.Kids x1)))),(59,I x2)]:List (Nat × AV))
theorem MK (n:Nat) (a0n:GN) (a1left:Int):∀ r,JI n a0n a1left=some r→WF Tryz.prog 77 [ag (GN.cs a0n),Tj] (Go.Abs.look [(1001, .box 3 [I a1left])]) (Xo (fun r:Bool × Int=>((.ret (B r.1),[(1001, .box 3 [I r.2])]):QX × List (Nat × Blk))) r):=by
 refine Y3 (X:=fun r:Bool × Int=>((.ret (B r.1),(J5 r.2)):QX × List (Nat × Blk))) (J5 a1left) Tryz.func77 rfl Tryz.ntmps77 rfl ?_
 unfold JI
 refine Qg Qd (eX a0n a1left) Qa (Qg Qd ⟨dE (Qi a0n.Kind 4),Yj a0n++J5 a1left⟩ Qa (sS (sB (Qg Qd ⟨[(1,Tj),qq 2,(5,B (Qi a0n.Kind 4)),(11,B (!Qi a0n.N 0))],Yj a0n++J5 a1left⟩ Qa (sC (!Qi a0n.N 0) Qa ?_ ?_)))))
 ·refine Qg Qd ⟨[(4,B false)],J5 a1left⟩ Qa (sT (Zd (Q7 ?_)))
  exact YW (.id) [1001] [] Qa Qa Qa Qa
 refine K6 (fun j1=>⟨[(1,Tj),qq 2,(5,B (Qi a0n.Kind 4)),(15,B j1)],Yj a0n++J5 a1left⟩:Bool→St) ?_ ?_
 ·refine sG (xR 4 Qa ?_)
  refine xS (Qi a0n.Kind 3) (fun h2=>?_) (fun h2=>?_)
  ·refine xO (Qq Qa h2) Qa (xR 1 Qa ?_)
   refine xC [] Qa (X4 n a0n.Name) Qa Qa QS (fun r3=>?_)
   refine xR 3 Qa (xE ?_)
   exact QQ (!r3) Qa
  refine xN (Qr Qa h2) Qa (xR 5 Qa (xE ?_))
  exact QQ false Qa
 rintro j1
 refine sC j1 Qa ?_ ?_
 ·refine Qg Qd ⟨[(4,B false)],J5 a1left⟩ Qa (sT (Zd (Q7 ?_)))
  exact YW (.id) [1001] [] Qa Qa Qa Qa
 refine K6 (fun j4=>⟨[(1,Tj),qq 2,(5,B (Qi a0n.Kind 4)),(25,B j4)],Yj a0n++J5 a1left⟩:Bool→St) ?_ ?_
 ·refine sG (xR 4 Qa ?_)
  refine xS (Qi a0n.Kind 4) (fun h5=>?_) (fun h5=>?_)
  ·refine xO (Qq Qa h5) Qa (xR 1 Qa ?_)
   refine xC [] Qa (XT n a0n.Name) Qa Qa QS (fun r6=>?_)
   refine xR 3 Qa (xE ?_)
   exact QQ (!r6) Qa
  refine xN (Qr Qa h5) Qa (xR 5 Qa (xE ?_))
  exact QQ false Qa
 rintro j4
 refine sC j4 Qa ?_ ?_
 ·refine Qg Qd ⟨[(4,B false)],J5 a1left⟩ Qa (sT (Zd (Q7 ?_)))
  exact YW (.id) [1001] [] Qa Qa Qa Qa
 refine K6 (fun j7=>⟨[(1,Tj),qq 2,(5,B (Qi a0n.Kind 4)),(35,B j7)],Yj a0n++J5 a1left⟩:Bool→St) ?_ ?_
 ·refine sG (xR 4 Qa ?_)
  refine xS (!Qi a0n.Kind 3) (fun h8=>?_) (fun h8=>?_)
  ·refine xO (Qq Qa h8) Qa (xR 4 Qa (xE ?_))
   exact QQ (!Qi a0n.Kind 4) Qa
  refine xN (Qr Qa h8) Qa (xR 4 Qa (xE ?_))
  exact QQ false Qa
 rintro j7
 refine sC j7 Qa ?_ ?_
 ·refine Qg Qd ⟨[(4,B false)],J5 a1left⟩ Qa (sT (Zd (Q7 ?_)))
  exact YW (.id) [1001] [] Qa Qa Qa Qa
 refine sK (Q6 (Qp ⟨dE (Qi a0n.Kind 4),Yj a0n++J5 a1left⟩ Qa (Qg Qd ⟨dE (Qi a0n.Kind 4),Yj a0n++F4 (wi (a1left - (Qc (mI a0n.Kids))))⟩ Qa (sS (Qg Qd ⟨[qq 2,(5,B (Qi a0n.Kind 4)),(55,B (QO (wi (a1left - (Qc (mI a0n.Kids)))) 0))],Yj a0n++F4 (wi (a1left - (Qc (mI a0n.Kids))))⟩ Qa (sC (QO (wi (a1left - (Qc (mI a0n.Kids)))) 0) Qa ?_ ?_))))))
 ·refine Qg Qd ⟨[(4,B false)],F4 (wi (a1left - (Qc (mI a0n.Kids))))⟩ Qa (sT (Q7 ?_))
  exact YW (.id) [1001] [] Qa Qa Qa Qa
 refine sK (Qp ⟨[qq 2,(5,B (Qi a0n.Kind 4))],Yj a0n++F4 (wi (a1left - (Qc (mI a0n.Kids))))⟩ Qa (sS (Qg Qd ⟨dF (Qi a0n.Kind 4) a0n 0,F4 (wi (a1left - (Qc (mI a0n.Kids))))⟩ Qa (sB (QI (fun l9=>⟨dF (Qi a0n.Kind 4) a0n l9,F4 (wi (a1left - (Qc (mI a0n.Kids))))⟩:Int→St) (Xg Qa) ?_)))))
 rintro recl9 l9
 show QV (YL n a0n a1left recl9 l9) _ _ _ _ _ _
 unfold YL
 refine Qg Qd ⟨[(5,B (Qi a0n.Kind 4)),(57, .p (.sl 5 (mI a0n.Kids))),(58,I (Qc (mI a0n.Kids))),(59,I l9),(60,B (QO l9 (Qc (mI a0n.Kids))))],F4 (wi (a1left - (Qc (mI a0n.Kids))))⟩ Qa (sS (sC (QO l9 (Qc (mI a0n.Kids))) Qa ?_ ?_))
 rotate_left
 ·refine Qz (ZW (KM (QW (Qp ⟨[],F4 (wi (a1left - (Qc (mI a0n.Kids))))⟩ Qa (Qg Qd ⟨[(4,B true)],F4 (wi (a1left - (Qc (mI a0n.Kids))))⟩ Qa (sT ?_))))))
  exact YW (.id) [1001] [] Qa Qa Qa Qa
 refine sK (Qp ⟨dF (Qi a0n.Kind 4) a0n l9,F4 (wi (a1left - (Qc (mI a0n.Kids))))⟩ Qa (sS (sB (sS (sG ?_)))))
 refine xG Qa Qa (Yc (e:=24) (S:=5) (enc:=GN.cs) (dec:=GN.of) (l:=a0n.Kids) (k:=.i64) (n:=l9) (sv:=.p (.sl 5 (mI a0n.Kids))) GN.of_cs rfl Qa Qa Qa Qa Qa) (fun x10=>?_)
 refine xR 3 Qa (xE (Qp ⟨[(5,B (Qi a0n.Kind 4)),qq 7,(57, .p (.sl 5 (mI a0n.Kids))),(58,I (Qc (mI a0n.Kids))),(59,I l9)],dB x10++F4 (wi (a1left - (Qc (mI a0n.Kids))))⟩ Qa (sS (sG (xR 2 Qa ?_)))))
 refine xC [] Qa (Bl n x10 (Qi a0n.Kind 4)) Qa Qa QS (fun r11=>?_)
 refine xR 1 Qa (xE (Qp ⟨[(5,B (Qi a0n.Kind 4)),(57, .p (.sl 5 (mI a0n.Kids))),(58,I (Qc (mI a0n.Kids))),(59,I l9),(66,B (!r11))],F4 (wi (a1left - (Qc (mI a0n.Kids))))⟩ Qa (sC (!r11) Qa ?_ ?_)))
 ·refine Qg Qd ⟨[(4,B false)],F4 (wi (a1left - (Qc (mI a0n.Kids))))⟩ Qa (sT (Zd (Q7 (KH (Zd (Q7 ?_))))))
  exact YW (.id) [1001] [] Qa Qa Qa Qa
 refine sK (Q6 (Qp ⟨dF (Qi a0n.Kind 4) a0n l9,F4 (wi (a1left - (Qc (mI a0n.Kids))))⟩ Qa (sL Qd Qa ?_)))
 exact KQ (wi (l9+1)) Qa
def YM (a0n:GN) (j6_1:Bool) (j6_2:Int):Option (Bool × Int) :=
 cond (!j6_1)
  (some (true,j6_2))
  (some (Qi a0n.N 7,j6_2))
def ZU (n:Nat) (l8_2:Int) (l8_3:Int) (recl8:(Bool × Int × Int)→Option (Bool × Int)) (x9:GN) (j10:Bool):Option (Bool × Int) :=
 (JI n x9 l8_3).bind fun r11 =>
 cond (!r11.1)
  (some (false,r11.2))
  (recl8 (j10,wi (l8_2+1),r11.2))
def VM (n:Nat) (a0n:GN) (recl8:(Bool × Int × Int)→Option (Bool × Int)) (l8_1:Bool) (l8_2:Int) (l8_3:Int):Option (Bool × Int) :=
 cond (QO l8_2 (Qc (List.map KP a0n.Kids)))
  ((Option.bind (Q8 a0n.Kids l8_2) GN.of).bind fun x9 =>
  cond (Qi x9.Kind 4)
   (ZU n l8_2 l8_3 recl8 x9 true)
   (cond l8_1
    (some (false,l8_3))
    (ZU n l8_2 l8_3 recl8 x9 l8_1)))
  (YM a0n l8_1 l8_3)
def Vs (n:Nat) (a0n:GN) (a1left:Int):Option (Bool × Int) :=
 (cond (!Qi a0n.Kind 2)
  (some true)
  (cond (QO a0n.N 1)
   (some true)
   (cond (QO 7 a0n.N)
    (some true)
    ((Jp n a0n.Name).bind fun r5 =>
    some (!r5))))).bind fun j1 =>
 cond j1
  (some (false,a1left))
  (cond (QO (wi (a1left - (Qc (List.map KP a0n.Kids)))) 0)
   (some (false,wi (a1left - (Qc (List.map KP a0n.Kids)))))
   (QZ (fun recl8 (l8_1,l8_2,l8_3)=>VM n a0n recl8 l8_1 l8_2 l8_3) n (false,0,wi (a1left - (Qc (List.map KP a0n.Kids))))))
def Qa0:=fun x0 x1=>(⟨[(1, .ptr 1001 0),(2, .ptr 2 0)],Yj x0++F4 x1⟩:St)
def dG:=fun x0 x1 x2=>([(1, .ptr 1001 0),(2, .ptr 2 0),(5,B x0),(40, .p (.sl 5 (List.map KP (GN.Kids x1)))),(41,I (Qc (List.map KP (GN.Kids x1)))),(42,I x2)]:List (Nat × AV))
def Qa1:=fun x0 x1 x2=>([(1, .ptr 1001 0),(2, .ptr 2 0),(5,B x0),(7, .ptr 7 0),(40, .p (.sl 5 (List.map KP (GN.Kids x1)))),(41,I (Qc (List.map KP (GN.Kids x1)))),(42,I x2)]:List (Nat × AV))
def dH:=fun x0 x1=>([(2, .box 24 (Ya (GN.cs x0))),(7, .box 24 (Ya (GN.cs x1)))]:List (Nat × Blk))
theorem ML (n:Nat) (a0n:GN) (a1left:Int):∀ r,Vs n a0n a1left=some r→WF Tryz.prog 42 [ag (GN.cs a0n),Tj] (Go.Abs.look [(1001, .box 3 [I a1left])]) (Xo (fun r:Bool × Int=>((.ret (B r.1),[(1001, .box 3 [I r.2])]):QX × List (Nat × Blk))) r):=by
 refine Y3 (X:=fun r:Bool × Int=>((.ret (B r.1),(J5 r.2)):QX × List (Nat × Blk))) (J5 a1left) Tryz.func42 rfl Tryz.ntmps42 rfl ?_
 unfold Vs
 refine Qg Qd (eX a0n a1left) Qa (sS (K6 (fun j1=>⟨[(1,Tj),qq 2,(26,B j1)],Yj a0n++J5 a1left⟩:Bool→St) ?_ ?_))
 ·refine sG (xR 4 Qa ?_)
  refine xS (!Qi a0n.Kind 2) (fun h2=>?_) (fun h2=>?_)
  ·refine xN (Qx Qa h2) Qa (xR 14 Qa (xE ?_))
   exact QQ true Qa
  refine xO (Qw Qa h2) Qa (xR 4 Qa ?_)
  refine xS (QO a0n.N 1) (fun h3=>?_) (fun h3=>?_)
  ·refine xN (Qx Qa h3) Qa (xR 9 Qa (xE ?_))
   exact QQ true Qa
  refine xO (Qw Qa h3) Qa (xR 4 Qa ?_)
  refine xS (QO 7 a0n.N) (fun h4=>?_) (fun h4=>?_)
  ·refine xN (Qx Qa h4) Qa (xR 4 Qa (xE ?_))
   exact QQ true Qa
  refine xO (Qw Qa h4) Qa (xR 1 Qa ?_)
  refine xC [] Qa (F7 n a0n.Name) Qa Qa QS (fun r5=>?_)
  refine xR 2 Qa (xE ?_)
  exact QQ (!r5) Qa
 rintro j1
 refine sC j1 Qa ?_ ?_
 ·refine Qg Qd ⟨[(4,B false)],J5 a1left⟩ Qa (sT (Q7 ?_))
  exact YW (.id) [1001] [] Qa Qa Qa Qa
 refine sK (Qp (eX a0n a1left) Qa (Qg Qd (Qa0 a0n (wi (a1left - (Qc (mI a0n.Kids))))) Qa (sS (Qg Qd ⟨[(1,Tj),qq 2,(38,B (QO (wi (a1left - (Qc (mI a0n.Kids)))) 0))],Yj a0n++F4 (wi (a1left - (Qc (mI a0n.Kids))))⟩ Qa (sC (QO (wi (a1left - (Qc (mI a0n.Kids)))) 0) Qa ?_ ?_)))))
 ·refine Qg Qd ⟨[(4,B false)],F4 (wi (a1left - (Qc (mI a0n.Kids))))⟩ Qa (sT (Q7 ?_))
  exact YW (.id) [1001] [] Qa Qa Qa Qa
 refine sK (Qp (Qa0 a0n (wi (a1left - (Qc (mI a0n.Kids))))) Qa (Qg Qd ⟨dE false,Yj a0n++F4 (wi (a1left - (Qc (mI a0n.Kids))))⟩ Qa (ZR (fun (j6_1,j6_2)=>⟨[qq 2,(5,B j6_1)],Yj a0n++J5 j6_2⟩:(Bool × Int)→St) (fun (j6_1,j6_2)=>YM a0n j6_1 j6_2) ?_ ?_)))
 ·rintro ⟨j6_1,j6_2⟩
  show QV (YM a0n j6_1 j6_2) _ _ _ _ _ _
  unfold YM
  refine sS (sG (xR 3 Qa ?_))
  refine xS (!j6_1) (fun h7=>?_) (fun h7=>?_)
  ·refine xN (Qx Qa h7) Qa (xR 4 Qa (xE (Qp ⟨[(4,B true)],J5 j6_2⟩ Qa (sT ?_))))
   exact YW (.id) [1001] [] Qa Qa Qa Qa
  refine xO (Qw Qa h7) Qa (xR 4 Qa (xE (Qp ⟨[(4,B (Qi a0n.N 7))],J5 j6_2⟩ Qa (sT ?_))))
  exact YW (.id) [1001] [] Qa Qa Qa Qa
 refine Qg Qd ⟨dG false a0n 0,Yj a0n++F4 (wi (a1left - (Qc (mI a0n.Kids))))⟩ Qa (sB (QI (fun (l8_1,l8_2,l8_3)=>⟨dG l8_1 a0n l8_2,Yj a0n++J5 l8_3⟩:(Bool × Int × Int)→St) (Xg Qa) ?_))
 rintro recl8 ⟨l8_1,l8_2,l8_3⟩
 show QV (VM n a0n recl8 l8_1 l8_2 l8_3) _ _ _ _ _ _
 unfold VM
 refine Qg Qd ⟨[(1,Tj),qq 2,(5,B l8_1),(40, .p (.sl 5 (mI a0n.Kids))),(41,I (Qc (mI a0n.Kids))),(42,I l8_2),(43,B (QO l8_2 (Qc (mI a0n.Kids))))],Yj a0n++J5 l8_3⟩ Qa (sS (sC (QO l8_2 (Qc (mI a0n.Kids))) Qa ?_ ?_))
 rotate_left
 ·refine Qz (ZW (KM (QW ?_)))
  exact KQ (k:=fun (j6_1,j6_2)=>YM a0n j6_1 j6_2) (l8_1,l8_3) Qa
 refine sK (Qp ⟨dG l8_1 a0n l8_2,Yj a0n++J5 l8_3⟩ Qa (sS (sB (sS (sG ?_)))))
 refine xG Qa Qa (Yc (e:=24) (S:=5) (enc:=GN.cs) (dec:=GN.of) (l:=a0n.Kids) (k:=.i64) (n:=l8_2) (sv:=.p (.sl 5 (mI a0n.Kids))) GN.of_cs rfl Qa Qa Qa Qa Qa) (fun x9=>?_)
 refine xR 3 Qa (xE (Qp ⟨Qa1 l8_1 a0n l8_2,dH a0n x9++J5 l8_3⟩ Qa (ZR (fun j10=>⟨Qa1 j10 a0n l8_2,dH a0n x9++J5 l8_3⟩:Bool→St) (fun j10=>ZU n l8_2 l8_3 recl8 x9 j10) ?_ ?_)))
 rotate_left
 ·refine Qg Qd ⟨[(1,Tj),qq 2,(5,B l8_1),qq 7,(40, .p (.sl 5 (mI a0n.Kids))),(41,I (Qc (mI a0n.Kids))),(42,I l8_2),(48,B (Qi x9.Kind 4))],dH a0n x9++J5 l8_3⟩ Qa (sC (Qi x9.Kind 4) Qa ?_ ?_)
  ·refine sL Qd Qa ?_
   exact KQ (k:=fun j10=>ZU n l8_2 l8_3 recl8 x9 j10) true Qa
  refine Qg Qd ⟨[(1,Tj),qq 2,(5,B l8_1),qq 7,(40, .p (.sl 5 (mI a0n.Kids))),(41,I (Qc (mI a0n.Kids))),(42,I l8_2),(49,B l8_1)],dH a0n x9++J5 l8_3⟩ Qa (sC l8_1 Qa ?_ ?_)
  ·refine Qg Qd ⟨[(4,B false)],J5 l8_3⟩ Qa (sT (KH (Zd (Q7 (KH (Zd (KH ?_)))))))
   exact YW (.id) [1001] [] Qa Qa Qa Qa
  refine sK ?_
  exact KQ (k:=fun j10=>ZU n l8_2 l8_3 recl8 x9 j10) l8_1 Qa
 rintro j10
 show QV (ZU n l8_2 l8_3 recl8 x9 j10) _ _ _ _ _ _
 unfold ZU
 refine sS (sG (xR 2 Qa ?_))
 refine Ou [(1001,1001)] [] [] Qa (MK n x9 l8_3) Qa Qa Qa QS QS (fun r11=>?_)
 refine xR 1 Qa (xE (Qp ⟨[(1,Tj),qq 2,(5,B j10),(40, .p (.sl 5 (mI a0n.Kids))),(41,I (Qc (mI a0n.Kids))),(42,I l8_2),(53,B (!r11.1))],Yj a0n++J5 r11.2⟩ Qa (sC (!r11.1) Qa ?_ ?_)))
 ·refine Qg Qd ⟨[(4,B false)],J5 r11.2⟩ Qa (sT (Zd (Q7 (KH (Zd (KH ?_))))))
  exact YW (.id) [1001] [] Qa Qa Qa Qa
 refine sK (Q6 (Qp ⟨dG j10 a0n l8_2,Yj a0n++J5 r11.2⟩ Qa (sL Qd Qa ?_)))
 exact KQ (j10,wi (l8_2+1),r11.2) Qa
def We (n:Nat) (a0n:GN) (recl5:(Int × Int)→Option Bool) (l5_1:Int) (l5_2:Int):Option Bool :=
 cond (QO l5_1 (Qc (List.map KP a0n.Kids)))
  ((Option.bind (Q8 a0n.Kids l5_1) GN.of).bind fun x6 =>
  (Vs n x6 l5_2).bind fun r7 =>
  cond (!r7.1)
   (some false)
   (recl5 (wi (l5_1+1),r7.2)))
  (some true)
def Xe (n:Nat) (a0n:GN):Option Bool :=
 (cond (!Qi a0n.Kind 1)
  (some true)
  (cond (!QP a0n.Name [])
   (some true)
   (cond (!Qi a0n.N 0)
    (some true)
    (some (QO (wi (1499 - (Qc (List.map KP a0n.Kids)))) 0))))).bind fun j1 =>
 cond j1
  (some false)
  (QZ (fun recl5 (l5_1,l5_2)=>We n a0n recl5 l5_1 l5_2) n (0,wi (1499 - (Qc (List.map KP a0n.Kids)))))
def Lp:=fun x0=>([(1, .box 24 (Ya (GN.cs x0)))]:List (Nat × Blk))
def eZ:=fun x0 x1=>([(1, .box 24 (Ya (GN.cs x0))),(3,(eY x1))]:List (Nat × Blk))
def dJ:=fun x0 x1=>([(3, .ptr 3 0),(28, .p (.sl 5 (List.map KP (GN.Kids x0)))),(29,I (Qc (List.map KP (GN.Kids x0)))),(30,I x1)]:List (Nat × AV))
abbrev RF (x:GN):Go.Abs.Blk:=.box 24 (Ya (GN.cs x))
theorem Bn (n:Nat) (a0n:GN):∀ r,Xe n a0n=some r→Q9 Tryz.prog 24 [ag (GN.cs a0n)] (.ret (B r)):=by
 refine Qs (X:=fun r:Bool=>QX.ret (B r)) Tryz.func24 rfl Tryz.ntmps24 rfl ?_
 unfold Xe
 refine Qg Qd ⟨[qq 1],Lp a0n⟩ Qa (Qg Qd ⟨[qq 1,qq 3],eZ a0n (wi (1499 - (Qc (mI a0n.Kids))))⟩ Qa (sS (K6 (fun j1=>⟨[qq 1,qq 3,(26,B j1)],eZ a0n (wi (1499 - (Qc (mI a0n.Kids))))⟩:Bool→St) ?_ ?_)))
 ·refine sG (xR 4 Qa ?_)
  refine xS (!Qi a0n.Kind 1) (fun h2=>?_) (fun h2=>?_)
  ·refine xN (Qx Qa h2) Qa (xR 12 Qa (xE ?_))
   exact QQ true Qa
  refine xO (Qw Qa h2) Qa (xR 4 Qa ?_)
  refine xS (!QP a0n.Name []) (fun h3=>?_) (fun h3=>?_)
  ·refine xN (Qx Qa h3) Qa (xR 7 Qa (xE ?_))
   exact QQ true Qa
  refine xO (Qw Qa h3) Qa (xR 4 Qa ?_)
  refine xS (!Qi a0n.N 0) (fun h4=>?_) (fun h4=>?_)
  ·refine xN (Qx Qa h4) Qa (xR 2 Qa (xE ?_))
   exact QQ true Qa
  refine xO (Qw Qa h4) Qa (xR 2 Qa (xE ?_))
  exact QQ (QO (wi (1499 - (Qc (mI a0n.Kids)))) 0) Qa
 rintro j1
 refine sC j1 Qa ?_ ?_
 ·refine Qg Qd ⟨[(2,B false)],[]⟩ Qa (sT (Q7 ?_))
  exact qR (.id) Qa Qa Qa
 refine sK (Qp ⟨[qq 1,qq 3],eZ a0n (wi (1499 - (Qc (mI a0n.Kids))))⟩ Qa (sS (Qg Qd ⟨dJ a0n 0,[(3,(eY (wi (1499 - (Qc (mI a0n.Kids))))))]⟩ Qa (sB (QI (fun (l5_1,l5_2)=>⟨dJ a0n l5_1,[(3, .box 3 [I l5_2])]⟩:(Int × Int)→St) (Xg Qa) ?_)))))
 rintro recl5 ⟨l5_1,l5_2⟩
 show QV (We n a0n recl5 l5_1 l5_2) _ _ _ _ _ _
 unfold We
 refine Qg Qd ⟨[qq 3,(28, .p (.sl 5 (mI a0n.Kids))),(29,I (Qc (mI a0n.Kids))),(30,I l5_1),(31,B (QO l5_1 (Qc (mI a0n.Kids))))],[(3, .box 3 [I l5_2])]⟩ Qa (sS (sC (QO l5_1 (Qc (mI a0n.Kids))) Qa ?_ ?_))
 rotate_left
 ·refine Qz (ZW (KM (QW (Qp ⟨[],[]⟩ Qa (Qg Qd ⟨[(2,B true)],[]⟩ Qa (sT ?_))))))
  exact qR (.id) Qa Qa Qa
 refine sK (Qp ⟨dJ a0n l5_1,[(3, .box 3 [I l5_2])]⟩ Qa (sS (sB (sS (sG ?_)))))
 refine xG Qa Qa (Yc (e:=24) (S:=5) (enc:=GN.cs) (dec:=GN.of) (l:=a0n.Kids) (k:=.i64) (n:=l5_1) (sv:=.p (.sl 5 (mI a0n.Kids))) GN.of_cs rfl Qa Qa Qa Qa Qa) (fun x6=>?_)
 refine xR 3 Qa (xE (Qp ⟨[qq 3,qq 5,(28, .p (.sl 5 (mI a0n.Kids))),(29,I (Qc (mI a0n.Kids))),(30,I l5_1)],[(3, .box 3 [I l5_2]),(5,RF x6)]⟩ Qa (sS (sG (xR 1 Qa ?_)))))
 refine Ou [(1001,3)] [] [] Qa (ML n x6 l5_2) Qa Qa Qa QS QS (fun r7=>?_)
 refine xR 1 Qa (xE (Qp ⟨[qq 3,(28, .p (.sl 5 (mI a0n.Kids))),(29,I (Qc (mI a0n.Kids))),(30,I l5_1),(36,B (!r7.1))],[(3, .box 3 [I r7.2])]⟩ Qa (sC (!r7.1) Qa ?_ ?_)))
 ·refine Qg Qd ⟨[(2,B false)],[]⟩ Qa (sT (Zd (Q7 (KH (Zd (Q7 ?_))))))
  exact qR (.id) Qa Qa Qa
 refine sK (Q6 (Qp ⟨dJ a0n l5_1,[(3, .box 3 [I r7.2])]⟩ Qa (sL Qd Qa ?_)))
 exact KQ (wi (l5_1+1),r7.2) Qa
def Va (a0u_0:List Int) (a1kind:Int) (recl1:Int→Option Bool) (l1:Int):Option Bool :=
 cond (QO l1 (Qc (List.map ci a0u_0)))
  ((Q8 a0u_0 l1).bind fun x2 =>
  cond (Qi x2 a1kind)
   (some true)
   (recl1 (wi (l1+1))))
  (some false)
def QE (n:Nat) (a0u_0:List Int) (a0u_1:Bool) (a1kind:Int):Option Bool :=
 QZ (fun recl1 l1=>Va a0u_0 a1kind recl1 l1) n 0
def dK:=fun x0 x1 x2=>([(1,I x0),(8, .p (.sl 1 (List.map ci x1))),(9,I (Qc (List.map ci x1))),(10,I x2)]:List (Nat × AV))
theorem QD (n:Nat) (a0u_0:List Int) (a0u_1:Bool) (a1kind:Int) (hw0_2:FV):∀ r,QE n a0u_0 a0u_1 a1kind=some r→Q9 Tryz.prog 83 [.agg [.p (.sl 1 (List.map ci a0u_0)),B a0u_1, .p (.val (fv hw0_2))],I a1kind] (.ret (B r)):=by
 refine Qs (X:=fun r:Bool=>QX.ret (B r)) Tryz.func83 rfl Tryz.ntmps83 rfl ?_
 unfold QE
 refine Qg Qd ⟨[(1,I a1kind),qq 2],[(2, .box 111 [.p (.sl 1 (List.map ci a0u_0)),B a0u_1, .p (.val (fv hw0_2))])]⟩ Qa (sS (Qg Qd ⟨dK a1kind a0u_0 0,[]⟩ Qa (sB (QI (fun l1=>⟨dK a1kind a0u_0 l1,[]⟩:Int→St) (Xg Qa) ?_))))
 rintro recl1 l1
 show QV (Va a0u_0 a1kind recl1 l1) _ _ _ _ _ _
 unfold Va
 refine Qg Qd ⟨[(1,I a1kind),(8, .p (.sl 1 (List.map ci a0u_0))),(9,I (Qc (List.map ci a0u_0))),(10,I l1),(11,B (QO l1 (Qc (List.map ci a0u_0))))],[]⟩ Qa (sS (sC (QO l1 (Qc (List.map ci a0u_0))) Qa ?_ ?_))
 rotate_left
 ·refine Qz (ZW (KM (QW (Qp ⟨[],[]⟩ Qa (Qg Qd ⟨[(4,B false)],[]⟩ Qa (sT ?_))))))
  exact qR (.id) Qa Qa Qa
 refine sK (Qp ⟨dK a1kind a0u_0 l1,[]⟩ Qa (sS (sB (sS (sG ?_)))))
 refine xG Qa Qa (QN (e:=3) (S:=1) (enc:=ci) (l:=a0u_0) (k:=.i64) (n:=l1) (sv:=.p (.sl 1 (List.map ci a0u_0))) rfl Qa Qa Qa Qa Qa) (fun x2=>?_)
 refine xR 2 Qa (xE (Qp ⟨[(1,I a1kind),(6,I x2),(8, .p (.sl 1 (List.map ci a0u_0))),(9,I (Qc (List.map ci a0u_0))),(10,I l1)],[]⟩ Qa (Qg Qd ⟨[(1,I a1kind),(8, .p (.sl 1 (List.map ci a0u_0))),(9,I (Qc (List.map ci a0u_0))),(10,I l1),(16,B (Qi x2 a1kind))],[]⟩ Qa (sC (Qi x2 a1kind) Qa ?_ ?_))))
 ·refine Qg Qd ⟨[(4,B true)],[]⟩ Qa (sT (Zd (Q7 (KH (Zd (Q7 ?_))))))
  exact qR (.id) Qa Qa Qa
 refine sK (Q6 (Qp ⟨dK a1kind a0u_0 l1,[]⟩ Qa (sL Qd Qa ?_)))
 exact KQ (wi (l1+1)) Qa
def Qy (n:Nat) (a0s:ZA) (a1n:Int):Option Bool :=
 cond (leI a0s.from_ a1n)
  (some (leI a1n a0s.to_))
  (some false)
theorem QF (n:Nat) (a0s:ZA) (a1n:Int):∀ r,Qy n a0s a1n=some r→Q9 Tryz.prog 64 [.agg [I a0s.from_,I a0s.to_],I a1n] (.ret (B r)):=by
 refine Qs (X:=fun r:Bool=>QX.ret (B r)) Tryz.func64 rfl Tryz.ntmps64 rfl ?_
 unfold Qy
 refine Qg Qd ⟨[(1,I a1n),qq 2],[(2, .box 103 [I a0s.from_,I a0s.to_])]⟩ Qa (sS (sG (xR 5 Qa ?_)))
 refine xS (leI a0s.from_ a1n) (fun h1=>?_) (fun h1=>?_)
 ·refine xO (Qq Qa h1) Qa (xR 5 Qa (xE (Qp ⟨[(4,B (leI a1n a0s.to_))],[]⟩ Qa (sT ?_))))
  exact qR (.id) Qa Qa Qa
 refine xN (Qr Qa h1) Qa (xR 5 Qa (xE (Qp ⟨[(4,B false)],[]⟩ Qa (sT ?_))))
 exact qR (.id) Qa Qa Qa
def Vb (n:Nat) (a0attr:GN) (a1spans:List ZA) (recl2:((List Int) × Int)→Option (Except (Int × Int) (List Int))) (l2_1:List Int) (l2_2:Int):Option (Except (Int × Int) (List Int)) :=
 cond (QO l2_2 (Qc (List.map KP a0attr.Kids)))
  ((Option.bind (Q8 a0attr.Kids l2_2) GN.of).bind fun x3 =>
  (Q8 a1spans l2_2).bind fun x4 =>
  (Qy n x4 x3.N).bind fun r5 =>
  cond (!r5)
   (some (.error (3,a0attr.At)))
   ((Q8 l2_1 l2_2).bind fun x6 =>
   recl2 (List.set l2_1 (Int.toNat l2_2) x3.N,wi (l2_2+1))))
  (some (.ok l2_1))
def KN (n:Nat) (a0attr:GN) (a1spans:List ZA):Option (Except (Int × Int) (List Int)) :=
 cond (zg (Qc (List.map ZA.cs a1spans)) (Qc (List.map ZA.cs a1spans)) 8) (
  QZ (fun recl2 (l2_1,l2_2)=>Vb n a0attr a1spans recl2 l2_1 l2_2) n (List.replicate (Int.toNat (Qc (List.map ZA.cs a1spans))) 0,0)) none
def Vd (n:Nat) (a0attr:GN) (a1spans:List ZA) (recl7:Int→Option (Except (Int × Int) (List Int))) (l7:Int):Option (Except (Int × Int) (List Int)) :=
 cond (QO l7 (Qc (List.map KP a0attr.Kids)))
  ((Option.bind (Q8 a0attr.Kids l7) GN.of).bind fun x8 =>
  cond (!Qi x8.Kind 6)
   (some (.error (9,a0attr.At)))
   (recl7 (wi (l7+1))))
  (KN n a0attr a1spans)
def Zu (n:Nat) (a0attr:GN) (a1spans:List ZA):Option (Except (Int × Int) (List Int)) :=
 cond (!Qi (Qc (List.map KP a0attr.Kids)) (Qc (List.map ZA.cs a1spans)))
  (some (.error (9,a0attr.At)))
  (QZ (fun recl7 l7=>Vd n a0attr a1spans recl7 l7) n 0)
def aa:=fun x0=>([(1, .p (.sl 2 (List.map ZA.cs x0))),(2, .ptr 2 0)]:List (Nat × AV))
def WL:=fun x0=>([(3, .box 24 (Ya (GN.cs x0)))]:List (Nat × Blk))
def Hm:=fun x0 x1=>(⟨[(0,I x0),(3, .ptr 3 0)],WL x1⟩:St)
def dL:=fun x0 x1 x2=>([(1, .p (.sl 2 (List.map ZA.cs x0))),(2, .ptr 2 0),(19, .p (.sl 5 (List.map KP (GN.Kids x1)))),(20,I (Qc (List.map KP (GN.Kids x1)))),(21,I x2)]:List (Nat × AV))
def ae:=fun x0 x1=>([(2, .box 24 (Ya (GN.cs x0))),(33,x1)]:List (Nat × Blk))
def Qcw:=fun x0 x1 x2 x3=>([(1, .p (.sl 2 (List.map ZA.cs x0))),(2, .ptr 2 0),(7,x1),(35, .p (.sl 5 (List.map KP (GN.Kids x2)))),(36,I (Qc (List.map KP (GN.Kids x2)))),(37,I x3)]:List (Nat × AV))
def mQ:=fun x0 x1 x2 x3 x4=>(⟨Qcw x0 x1 x2 x3,ae x2 x4⟩:St)
def Qa2:=fun x0 x1 x2 x3=>([(1, .p (.sl 2 (List.map ZA.cs x0))),(2, .ptr 2 0),(7,x1),(8,I x2),(9, .ptr 9 0),(35, .p (.sl 5 (List.map KP (GN.Kids x3)))),(36,I (Qc (List.map KP (GN.Kids x3)))),(37,I x2)]:List (Nat × AV))
def af:=fun x0 x1 x2=>([(2, .box 24 (Ya (GN.cs x0))),(9, .box 24 (Ya (GN.cs x1))),(33,x2)]:List (Nat × Blk))
theorem ZV (n:Nat) (a0attr:GN) (a1spans:List ZA):∀ r,Zu n a0attr a1spans=some r→Q9 Tryz.prog 47 [ag (GN.cs a0attr), .p (.sl 2 (Iz a1spans))] (Eu (fun r:List Int=>(.p (.sl 1 (List.map ci r)):AV)) (fun e:(Int × Int)=>(.ifc 116 (.agg [I e.1,I e.2]):AV)) r):=by
 refine Qs (X:=Eu (fun r:List Int=>(.p (.sl 1 (List.map ci r)):AV)) (fun e:(Int × Int)=>(.ifc 116 (.agg [I e.1,I e.2]):AV))) Tryz.func47 rfl Tryz.ntmps47 rfl ?_
 unfold Zu
 refine Qg Qd ⟨aa a1spans,Yj a0attr⟩ Qa (sS (Qg Qd ⟨[(1, .p (.sl 2 (Iz a1spans))),qq 2,(15,B (!Qi (Qc (mI a0attr.Kids)) (Qc (Iz a1spans))))],Yj a0attr⟩ Qa (sC (!Qi (Qc (mI a0attr.Kids)) (Qc (Iz a1spans))) Qa ?_ ?_)))
 ·refine sG (xR 1 Qa (Vo [] [I 9, .agg [I a0attr.Kind,S a0attr.Name,I a0attr.N,I a0attr.At, .p (.sl 5 (mI a0attr.Kids))]] [] [] [] Qa Tryz.func49 rfl Tryz.ntmps49 rfl Qa Qa Qa (Qg Qd (Hm 9 a0attr) Qa (sG (xR 6 Qa (XM 116 (.agg [I 9,I a0attr.At]) Qa rfl Qa (ZN [] [] Qa ?_)))))))
  refine Z8 ?_
  exact ze Qa Qa
 refine sK (Qp ⟨aa a1spans,Yj a0attr⟩ Qa (ZR (fun _=>⟨aa a1spans,Yj a0attr⟩:Unit→St) (fun _=>KN n a0attr a1spans) ?_ ?_))
 rotate_left
 ·refine Qg Qd ⟨dL a1spans a0attr 0,Yj a0attr⟩ Qa (sB (QI (fun l7=>⟨dL a1spans a0attr l7,Yj a0attr⟩:Int→St) (Xg Qa) ?_))
  rintro recl7 l7
  show QV (Vd n a0attr a1spans recl7 l7) _ _ _ _ _ _
  unfold Vd
  refine Qg Qd ⟨[(1, .p (.sl 2 (Iz a1spans))),qq 2,(19, .p (.sl 5 (mI a0attr.Kids))),(20,I (Qc (mI a0attr.Kids))),(21,I l7),(22,B (QO l7 (Qc (mI a0attr.Kids))))],Yj a0attr⟩ Qa (sS (sC (QO l7 (Qc (mI a0attr.Kids))) Qa ?_ ?_))
  rotate_left
  ·refine Qz (ZW (KM (QW ?_)))
   exact KQ (k:=fun _=>KN n a0attr a1spans) () Qa
  refine sK (Qp ⟨dL a1spans a0attr l7,Yj a0attr⟩ Qa (sS (sB (sS (sG ?_)))))
  refine xG Qa Qa (Yc (e:=24) (S:=5) (enc:=GN.cs) (dec:=GN.of) (l:=a0attr.Kids) (k:=.i64) (n:=l7) (sv:=.p (.sl 5 (mI a0attr.Kids))) GN.of_cs rfl Qa Qa Qa Qa Qa) (fun x8=>?_)
  refine xR 3 Qa (xE (Qp ⟨[(1, .p (.sl 2 (Iz a1spans))),qq 2,qq 6,(19, .p (.sl 5 (mI a0attr.Kids))),(20,I (Qc (mI a0attr.Kids))),(21,I l7)],[(2,RF a0attr),(6,RF x8)]⟩ Qa (Qg Qd ⟨[(1, .p (.sl 2 (Iz a1spans))),qq 2,(19, .p (.sl 5 (mI a0attr.Kids))),(20,I (Qc (mI a0attr.Kids))),(21,I l7),(27,B (!Qi x8.Kind 6))],Yj a0attr⟩ Qa (sC (!Qi x8.Kind 6) Qa ?_ ?_))))
  ·refine sG (xR 1 Qa (Vo [] [I 9, .agg [I a0attr.Kind,S a0attr.Name,I a0attr.N,I a0attr.At, .p (.sl 5 (mI a0attr.Kids))]] [] [] [] Qa Tryz.func49 rfl Tryz.ntmps49 rfl Qa Qa Qa (Qg Qd (Hm 9 a0attr) Qa (sG (xR 6 Qa (XM 116 (.agg [I 9,I a0attr.At]) Qa rfl Qa (ZN [] [] Qa ?_)))))))
   refine Ze (Z8 (Zl (Ze (Zl ?_))))
   exact ze Qa Qa
  refine sK (Q6 (Qp ⟨dL a1spans a0attr l7,Yj a0attr⟩ Qa (sL Qd Qa ?_)))
  exact KQ (wi (l7+1)) Qa
 rintro _
 show QV (KN n a0attr a1spans) _ _ _ _ _ _
 unfold KN
 refine sS (sG (xR 2 Qa (xF Qa Qa (fD (e:=3) (S:=1) (by_:=8) (d:=33) (enc:=ci) (z0:=0) (k:=.i64) (k':=.i64) (l:=Qc (Iz a1spans)) (c:=Qc (Iz a1spans)) rfl rfl Qa Qa rfl Qa Qa Qa Qa) (xR 1 Qa (xE (Qp ⟨[(1, .p (.sl 2 (Iz a1spans))),qq 2,(7, .vsl 1 33 (List.map ci (List.replicate (Int.toNat (Qc (Iz a1spans))) 0)).length)],ae a0attr (.vec 3 1 (List.map ci (List.replicate (Int.toNat (Qc (Iz a1spans))) 0)))⟩ Qa (sS ?_)))))))
 refine Qg Qd (mQ a1spans (.vsl 1 33 (List.map ci (List.replicate (Int.toNat (Qc (Iz a1spans))) 0)).length) a0attr 0 (.vec 3 1 (List.map ci (List.replicate (Int.toNat (Qc (Iz a1spans))) 0)))) Qa (sB (QI (fun (l2_1,l2_2)=>(mQ a1spans (.vsl 1 33 (List.map ci l2_1).length) a0attr l2_2 (.vec 3 1 (List.map ci l2_1))):((List Int) × Int)→St) (Xg Qa) ?_))
 rintro recl2 ⟨l2_1,l2_2⟩
 show QV (Vb n a0attr a1spans recl2 l2_1 l2_2) _ _ _ _ _ _
 unfold Vb
 refine Qg Qd ⟨[(1, .p (.sl 2 (Iz a1spans))),qq 2,(7, .vsl 1 33 (List.map ci l2_1).length),(35, .p (.sl 5 (mI a0attr.Kids))),(36,I (Qc (mI a0attr.Kids))),(37,I l2_2),(38,B (QO l2_2 (Qc (mI a0attr.Kids))))],ae a0attr (.vec 3 1 (List.map ci l2_1))⟩ Qa (sS (sC (QO l2_2 (Qc (mI a0attr.Kids))) Qa ?_ ?_))
 rotate_left
 ·refine Qz (ZW (KM (QW (Qp ⟨[(7, .vsl 1 33 (List.map ci l2_1).length)],[(33, .vec 3 1 (List.map ci l2_1))]⟩ Qa (Zz (gZ 33 3 1 (List.map ci l2_1) [(List.map ci l2_1).length] Qa Qa zq Qa Qa) (Qg Qd ⟨[(4, .p (.sl 1 (List.map ci l2_1)))],[]⟩ Qa (sT ?_)))))))
  exact qR (.id) Qa Qa Qa
 refine sK (Qp (mQ a1spans (.vsl 1 33 (List.map ci l2_1).length) a0attr l2_2 (.vec 3 1 (List.map ci l2_1))) Qa (sS (sB (sS (sG (xR 1 Qa ?_))))))
 refine xG Qa Qa (Yc (e:=24) (S:=5) (enc:=GN.cs) (dec:=GN.of) (l:=a0attr.Kids) (k:=.i64) (n:=l2_2) (sv:=.p (.sl 5 (mI a0attr.Kids))) GN.of_cs rfl Qa Qa Qa Qa Qa) (fun x3=>?_)
 refine xR 4 Qa (xE (Qp ⟨Qa2 a1spans (.vsl 1 33 (List.map ci l2_1).length) l2_2 a0attr,af a0attr x3 (.vec 3 1 (List.map ci l2_1))⟩ Qa (sS (sS (Vq Qd rfl (xR 2 Qa ?_))))))
 refine xG Qa Qa (QN (e:=103) (S:=2) (enc:=ZA.cs) (l:=a1spans) (k:=.i64) (n:=l2_2) (sv:=.p (.sl 2 (Iz a1spans))) rfl Qa Qa Qa Qa Qa) (fun x4=>?_)
 refine xR 3 Qa ?_
 refine xC [] Qa (QF n x4 x3.N) Qa Qa QS (fun r5=>?_)
 refine xR 1 Qa (YB Qa (Qp ⟨[(1, .p (.sl 2 (Iz a1spans))),qq 2,(7, .vsl 1 33 (List.map ci l2_1).length),(8,I l2_2),qq 9,(35, .p (.sl 5 (mI a0attr.Kids))),(36,I (Qc (mI a0attr.Kids))),(37,I l2_2),(49,B (!r5))],af a0attr x3 (.vec 3 1 (List.map ci l2_1))⟩ Qa (sC (!r5) Qa ?_ ?_)))
 ·refine sG (xR 1 Qa (Vo [] [I 3, .agg [I a0attr.Kind,S a0attr.Name,I a0attr.N,I a0attr.At, .p (.sl 5 (mI a0attr.Kids))]] [] [] [] Qa Tryz.func49 rfl Tryz.ntmps49 rfl Qa Qa Qa (Qg Qd (Hm 3 a0attr) Qa (sG (xR 6 Qa (XM 116 (.agg [I 3,I a0attr.At]) Qa rfl Qa (ZN [] [] Qa ?_)))))))
  refine Z8 (Ze (Z8 (Zl (Ze (Z8 ?_)))))
  exact ze Qa Qa
 refine sK (Qp ⟨Qa2 a1spans (.vsl 1 33 (List.map ci l2_1).length) l2_2 a0attr,af a0attr x3 (.vec 3 1 (List.map ci l2_1))⟩ Qa (sG (xR 4 Qa ?_)))
 refine bA Qa Qa (fC (e:=3) (S:=1) (tk:=33) (ty:=3) (enc:=ci) (l:=l2_1) (k:=.i64) (n:=l2_2) (nn:=(List.map ci l2_1).length) rfl Qa Qa Qa Qa Qa zq) (fun x6 hx6=>?_)
 refine ZH Qa Qa (bC (S:=1) (tb:=3) (tk:=33) (n:=Int.toNat l2_2) (f:=0) (enc:=ci) (l:=l2_1) (v:=x6) (v':=x3.N) (xv:=I x3.N) rfl Qa Qa Qa (bB hx6) Qa) (xE (Q6 (Qp (mQ a1spans (.vsl 1 33 (List.map ci l2_1).length) a0attr l2_2 (.vec 3 1 (List.map ci (List.set l2_1 (Int.toNat l2_2) x3.N)))) Qa (sL Qd Qa ?_))))
 exact Qcc  (List.set l2_1 (Int.toNat l2_2) x3.N,wi (l2_2+1)) ⟨[1,2,7,35,36,37],[2,33],[],[]⟩ (mQ a1spans (.vsl 1 33 (List.map ci l2_1).length) a0attr (wi (l2_2+1)) (.vec 3 1 (List.map ci (List.set l2_1 (Int.toNat l2_2) x3.N)))) Qa zq
def Wh (yI:GN) (yC:ZJ) (yK:ZT) (yG:ZY) (yB:Zi) (yS:Qm) (yF:Bool) (yD:List ZX) (h7_m:List ((List UInt8) × Bool)) (h8_m:List ((List UInt8) × Kt)) (h10_m:List ((List UInt8) × Bool)):List (Nat × Blk):=[(1000, .box 108 ([.ptr 1001 0]++Ya (GN.cs yI)++[.mv 1010]++Ya (ZJ.cs yC)++Ya (ZT.cs yK)++Ya (ZY.cs yG)++[S yB.Name,I yB.Charger])),(1001, .box 74 [.tsl 11 (List.map ZJ.cs yS.Conductors) 1002, .tsl 1 (List.map Zb.cs yS.Owners) 1003, .tsl 4 (List.map ZT.cs yS.Contracts) 1004, .tsl 8 (List.map ZY.cs yS.Chargers) 1005, .tsl 2 (List.map Zi.cs yS.Bays) 1006, .mv 1007,B yF, .mv 1008, .tsl 2 (List.map ZX.cs yD) 1009]),(1002, .arr 49 11 (List.map ZJ.cs yS.Conductors).length),(1003, .arr 52 1 (List.map Zb.cs yS.Owners).length),(1004, .arr 54 4 (List.map ZT.cs yS.Contracts).length),(1005, .arr 56 8 (List.map ZY.cs yS.Chargers).length),(1006, .arr 58 2 (List.map Zi.cs yS.Bays).length),(1007, .mp (JD QT QU h7_m)),(1008, .mp (JD VK VL h8_m)),(1009, .arr 65 2 (List.map ZX.cs yD).length),(1010, .mp (JD QT QU h10_m)),(1011, .arr 3 1 (List.map ci [1,2]).length)]
def yZ:List Nat:=[1000,1001,1002,1003,1004,1005,1006,1007,1008,1009,1010,1011]
def Ve (a1attr:GN):Option (Except (Int × Int) Int) :=
 some (.error (8,a1attr.At))
def Xu (a1attr:GN) (h8_m:List ((List UInt8) × Kt)) (x4:GN) (recl6:Int→Option (Except (Int × Int) Int)) (l6:Int):Option (Except (Int × Int) Int) :=
 cond (QO l6 (Qc (List.map ci [1,2])))
  ((Q8 [1,2] l6).bind fun x7 =>
  cond (Qi x7 ((QB Qv x4.Name (⟨0,0⟩:Kt) h8_m).kind))
   (some (.ok ((QB Qv x4.Name (⟨0,0⟩:Kt) h8_m).index)))
   (recl6 (wi (l6+1))))
  (Ve a1attr)
def UT (n:Nat) (a1attr:GN) (yI:GN) (yC:ZJ) (yK:ZT) (yG:ZY) (yB:Zi) (yS:Qm) (yF:Bool) (yD:List ZX) (h7_m:List ((List UInt8) × Bool)) (h8_m:List ((List UInt8) × Kt)) (h10_m:List ((List UInt8) × Bool)):Option (Except (Int × Int) Int) :=
 (cond (!Qi (Qc (List.map KP a1attr.Kids)) 1)
  (some true)
  ((Option.bind (Q8 a1attr.Kids 0) GN.of).bind fun x3 =>
  some (!Qi x3.Kind 5))).bind fun j1 =>
 cond j1
  (some (.error (9,a1attr.At)))
  ((Option.bind (Q8 a1attr.Kids 0) GN.of).bind fun x4 =>
  cond (Rt Qv x4.Name h8_m)
   (QZ (fun recl6 l6=>Xu a1attr h8_m x4 recl6 l6) n 0)
   (Ve a1attr))
def MN (yI:GN) (yC:ZJ) (yK:ZT) (yG:ZY) (yB:Zi) (yS:Qm) (yF:Bool) (yD:List ZX) (h7_m:List ((List UInt8) × Bool)) (h8_m:List ((List UInt8) × Kt)) (h10_m:List ((List UInt8) × Bool)):List (Nat × Blk):=Wh yI yC yK yG yB yS yF yD h7_m h8_m h10_m
def xP:=fun x0=>([(0, .ptr 1000 0),(2, .tsl 1 (List.map ci x0) 1011),(4, .ptr 4 0)]:List (Nat × AV))
def Hy:=fun x0=>([(4, .box 24 (Ya (GN.cs x0)))]:List (Nat × Blk))
def ah:=fun x0 x1=>([(0, .ptr 1000 0),(2, .tsl 1 (List.map ci x0) 1011),(4, .ptr 4 0),(22,B x1)]:List (Nat × AV))
def ai:=fun x0 x1=>([(2, .tsl 1 (List.map ci x0) 1011),(4, .ptr 4 0),(7, .ptr 7 0),(8,B x1)]:List (Nat × AV))
def Qcx:=fun x0=>(.box 137 (Ya (Kt.cs x0)):Blk)
def GD:=fun x0 x1=>([(4, .box 24 (Ya (GN.cs x0))),(7,(Qcx x1))]:List (Nat × Blk))
def aj:=fun x0 x1=>([(2, .tsl 1 (List.map ci x0) 1011),(4, .ptr 4 0),(7, .ptr 7 0),(41,B x1)]:List (Nat × AV))
def xQ:=fun x0 x1 x2=>([(4, .ptr 4 0),(7, .ptr 7 0),(42, .tsl 1 (List.map ci x0) 1011),(43,I (Qc (List.map ci x1))),(44,I x2)]:List (Nat × AV))
def ak:=fun x0 x1 x2 x3=>([(4, .ptr 4 0),(7, .ptr 7 0),(42, .tsl 1 (List.map ci x0) 1011),(43,I (Qc (List.map ci x1))),(44,I x2),(45,B x3)]:List (Nat × AV))
def au:=fun x0 x1 x2 x3=>([(4, .ptr 4 0),(7, .ptr 7 0),(10,I x0),(42, .tsl 1 (List.map ci x1) 1011),(43,I (Qc (List.map ci x2))),(44,I x3)]:List (Nat × AV))
def av:=fun x0 x1 x2 x3=>([(4, .ptr 4 0),(7, .ptr 7 0),(42, .tsl 1 (List.map ci x0) 1011),(43,I (Qc (List.map ci x1))),(44,I x2),(51,B x3)]:List (Nat × AV))
theorem Bo (n:Nat) (a1attr:GN) (yI:GN) (yC:ZJ) (yK:ZT) (yG:ZY) (yB:Zi) (yS:Qm) (yF:Bool) (yD:List ZX) (h7_m:List ((List UInt8) × Bool)) (h8_m:List ((List UInt8) × Kt)) (h10_m:List ((List UInt8) × Bool)):∀ r,UT n a1attr yI yC yK yG yB yS yF yD h7_m h8_m h10_m=some r→WF Tryz.prog 45 [YR,ag (GN.cs a1attr), .tsl 1 (List.map ci [1,2]) 1011] (Go.Abs.look (MN yI yC yK yG yB yS yF yD h7_m h8_m h10_m)) (Xo (CL (fun r:Int=>((.ret (I r),MN yI yC yK yG yB yS yF yD h7_m h8_m h10_m):QX × List (Nat × Blk))) (fun e:(Int × Int)=>((.panic (.ifc 116 (.agg [I e.1,I e.2])),MN yI yC yK yG yB yS yF yD h7_m h8_m h10_m):QX × List (Nat × Blk)))) r):=by
 refine Y3 (X:=CL (fun r:Int=>((.ret (I r),MN yI yC yK yG yB yS yF yD h7_m h8_m h10_m):QX × List (Nat × Blk))) (fun e:(Int × Int)=>((.panic (.ifc 116 (.agg [I e.1,I e.2])),MN yI yC yK yG yB yS yF yD h7_m h8_m h10_m):QX × List (Nat × Blk)))) (MN yI yC yK yG yB yS yF yD h7_m h8_m h10_m) Tryz.func45 rfl Tryz.ntmps45 rfl ?_
 unfold UT
 refine Qg Qd ⟨xP [1,2],Hy a1attr++Wh yI yC yK yG yB yS yF yD h7_m h8_m h10_m⟩ Qa (sS (K6 (fun j1=>⟨ah [1,2] j1,Hy a1attr++Wh yI yC yK yG yB yS yF yD h7_m h8_m h10_m⟩:Bool→St) ?_ ?_))
 ·refine sG (xR 5 Qa ?_)
  refine xS (!Qi (Qc (mI a1attr.Kids)) 1) (fun h2=>?_) (fun h2=>?_)
  ·refine xN (Qx Qa h2) Qa (xR 6 Qa (xE ?_))
   exact QQ true Qa
  refine xO (Qw Qa h2) Qa (xR 1 Qa ?_)
  refine xG Qa Qa (Yc (e:=24) (S:=5) (enc:=GN.cs) (dec:=GN.of) (l:=a1attr.Kids) (k:=.i64) (n:=0) (sv:=.p (.sl 5 (mI a1attr.Kids))) GN.of_cs rfl Qa Qa Qa Qa Qa) (fun x3=>?_)
  refine xR 4 Qa (xE ?_)
  exact QQ (!Qi x3.Kind 5) Qa
 rintro j1
 refine sC j1 Qa ?_ ?_
 ·refine sG (xR 1 Qa (Vo [] [I 9, .agg [I a1attr.Kind,S a1attr.Name,I a1attr.N,I a1attr.At, .p (.sl 5 (mI a1attr.Kids))]] [] [] [] Qa Tryz.func49 rfl Tryz.ntmps49 rfl Qa Qa Qa (Qg Qd (Hm 9 a1attr) Qa (sG (xR 6 Qa (XM 116 (.agg [I 9,I a1attr.At]) Qa rfl Qa (ZN [] [] Qa ?_)))))))
  refine Z8 ?_
  exact Kn yZ [] Qa Qa Qa
 refine sK (Qp ⟨xP [1,2],Hy a1attr++Wh yI yC yK yG yB yS yF yD h7_m h8_m h10_m⟩ Qa (sS (Vq Qd rfl (xR 9 Qa ?_))))
 refine xG Qa Qa (Yc (e:=24) (S:=5) (enc:=GN.cs) (dec:=GN.of) (l:=a1attr.Kids) (k:=.i64) (n:=0) (sv:=.p (.sl 5 (mI a1attr.Kids))) GN.of_cs rfl Qa Qa Qa Qa Qa) (fun x4=>?_)
 refine xR 2 Qa ?_
 refine ZH Qa Qa (Zt (kt:=9) (e:=137) (ke:=VK) (ve:=VL) (eq:=Qv) (b:=1008) (m:=h8_m) (k:=x4.Name) (z0:=(⟨0,0⟩:Kt)) rfl Qa Qa Qa Qa Qa QS (fun _ _=>Q0 rfl _ _) Qa) ?_
 refine xR 6 Qa (YB Qa (Qp ⟨ai [1,2] (Rt Qv x4.Name h8_m),GD a1attr (QB Qv x4.Name (⟨0,0⟩:Kt) h8_m)++Wh yI yC yK yG yB yS yF yD h7_m h8_m h10_m⟩ Qa (ZR (fun _=>⟨[qq 4],Hy a1attr++Wh yI yC yK yG yB yS yF yD h7_m h8_m h10_m⟩:Unit→St) (fun _=>Ve a1attr) ?_ ?_)))
 ·rintro _
  show QV (Ve a1attr) _ _ _ _ _ _
  unfold Ve
  refine sS (sG (xR 1 Qa (Vo [] [I 8, .agg [I a1attr.Kind,S a1attr.Name,I a1attr.N,I a1attr.At, .p (.sl 5 (mI a1attr.Kids))]] [] [] [] Qa Tryz.func49 rfl Tryz.ntmps49 rfl Qa Qa Qa (Qg Qd (Hm 8 a1attr) Qa (sG (xR 6 Qa (XM 116 (.agg [I 8,I a1attr.At]) Qa rfl Qa ?_)))))))
  refine ZN [] [] Qa (Z8 ?_)
  exact Kn yZ [] Qa Qa Qa
 refine Qg Qd ⟨aj [1,2] (Rt Qv x4.Name h8_m),GD a1attr (QB Qv x4.Name (⟨0,0⟩:Kt) h8_m)++Wh yI yC yK yG yB yS yF yD h7_m h8_m h10_m⟩ Qa (sC (Rt Qv x4.Name h8_m) Qa ?_ ?_)
 rotate_left
 ·refine sK ?_
  exact KQ (k:=fun _=>Ve a1attr) () Qa
 refine Qg Qd ⟨xQ [1,2] [1,2] 0,GD a1attr (QB Qv x4.Name (⟨0,0⟩:Kt) h8_m)++Wh yI yC yK yG yB yS yF yD h7_m h8_m h10_m⟩ Qa (sB (QI (fun l6=>⟨xQ [1,2] [1,2] l6,GD a1attr (QB Qv x4.Name (⟨0,0⟩:Kt) h8_m)++Wh yI yC yK yG yB yS yF yD h7_m h8_m h10_m⟩:Int→St) (Xg Qa) ?_))
 rintro recl6 l6
 show QV (Xu a1attr h8_m x4 recl6 l6) _ _ _ _ _ _
 unfold Xu
 refine Qg Qd ⟨ak [1,2] [1,2] l6 (QO l6 (Qc (List.map ci [1,2]))),GD a1attr (QB Qv x4.Name (⟨0,0⟩:Kt) h8_m)++Wh yI yC yK yG yB yS yF yD h7_m h8_m h10_m⟩ Qa (sS (sC (QO l6 (Qc (List.map ci [1,2]))) Qa ?_ ?_))
 rotate_left
 ·refine Qz (ZW (KM (QW ?_)))
  exact KQ (k:=fun _=>Ve a1attr) () Qa
 refine sK (Qp ⟨xQ [1,2] [1,2] l6,GD a1attr (QB Qv x4.Name (⟨0,0⟩:Kt) h8_m)++Wh yI yC yK yG yB yS yF yD h7_m h8_m h10_m⟩ Qa (sS (sB (sS (sG ?_)))))
 refine xG Qa Qa (QN (e:=3) (S:=1) (enc:=ci) (l:=[1,2]) (k:=.i64) (n:=l6) (sv:=.tsl 1 (List.map ci [1,2]) 1011) rfl Qa Qa Qa Qa Qa) (fun x7=>?_)
 refine xR 2 Qa (xE (Qp ⟨au x7 [1,2] [1,2] l6,GD a1attr (QB Qv x4.Name (⟨0,0⟩:Kt) h8_m)++Wh yI yC yK yG yB yS yF yD h7_m h8_m h10_m⟩ Qa (Qg Qd ⟨av [1,2] [1,2] l6 (Qi x7 ((QB Qv x4.Name (⟨0,0⟩:Kt) h8_m).kind)),GD a1attr (QB Qv x4.Name (⟨0,0⟩:Kt) h8_m)++Wh yI yC yK yG yB yS yF yD h7_m h8_m h10_m⟩ Qa (sC (Qi x7 ((QB Qv x4.Name (⟨0,0⟩:Kt) h8_m).kind)) Qa ?_ ?_))))
 ·refine Qg Qd ⟨[(6,I ((QB Qv x4.Name (⟨0,0⟩:Kt) h8_m).index))],Wh yI yC yK yG yB yS yF yD h7_m h8_m h10_m⟩ Qa (sT (Zd (Q7 (KH (Zd (KH ?_))))))
  exact YW (.id) yZ [] Qa Qa Qa Qa
 refine sK (Q6 (Qp ⟨xQ [1,2] [1,2] l6,GD a1attr (QB Qv x4.Name (⟨0,0⟩:Kt) h8_m)++Wh yI yC yK yG yB yS yF yD h7_m h8_m h10_m⟩ Qa (sL Qd Qa ?_)))
 exact KQ (wi (l6+1)) Qa
def Y4 (yI:GN) (yC:ZJ) (yK:ZT) (yG:ZY) (yB:Zi) (yS:Qm) (yF:Bool) (yD:List ZX) (h7_m:List ((List UInt8) × Bool)) (h8_m:List ((List UInt8) × Kt)) (h10_m:List ((List UInt8) × Bool)):List (Nat × Blk):=[(1000, .box 108 ([.ptr 1001 0]++Ya (GN.cs yI)++[.mv 1010]++Ya (ZJ.cs yC)++Ya (ZT.cs yK)++Ya (ZY.cs yG)++[S yB.Name,I yB.Charger])),(1001, .box 74 [.tsl 11 (List.map ZJ.cs yS.Conductors) 1002, .tsl 1 (List.map Zb.cs yS.Owners) 1003, .tsl 4 (List.map ZT.cs yS.Contracts) 1004, .tsl 8 (List.map ZY.cs yS.Chargers) 1005, .tsl 2 (List.map Zi.cs yS.Bays) 1006, .mv 1007,B yF, .mv 1008, .tsl 2 (List.map ZX.cs yD) 1009]),(1002, .arr 49 11 (List.map ZJ.cs yS.Conductors).length),(1003, .arr 52 1 (List.map Zb.cs yS.Owners).length),(1004, .arr 54 4 (List.map ZT.cs yS.Contracts).length),(1005, .arr 56 8 (List.map ZY.cs yS.Chargers).length),(1006, .arr 58 2 (List.map Zi.cs yS.Bays).length),(1007, .mp (JD QT QU h7_m)),(1008, .mp (JD VK VL h8_m)),(1009, .arr 65 2 (List.map ZX.cs yD).length),(1010, .mp (JD QT QU h10_m)),(1011, .arr 3 1 (List.map ci [3]).length)]
def E9:List Nat:=[1000,1001,1002,1003,1004,1005,1006,1007,1008,1009,1010,1011]
def Ye (a1attr:GN):Option (Except (Int × Int) Int) :=
 some (.error (8,a1attr.At))
def WZ (a1attr:GN) (h8_m:List ((List UInt8) × Kt)) (x4:GN) (recl6:Int→Option (Except (Int × Int) Int)) (l6:Int):Option (Except (Int × Int) Int) :=
 cond (QO l6 (Qc (List.map ci [3])))
  ((Q8 [3] l6).bind fun x7 =>
  cond (Qi x7 ((QB Qv x4.Name (⟨0,0⟩:Kt) h8_m).kind))
   (some (.ok ((QB Qv x4.Name (⟨0,0⟩:Kt) h8_m).index)))
   (recl6 (wi (l6+1))))
  (Ye a1attr)
def Ui (n:Nat) (a1attr:GN) (yI:GN) (yC:ZJ) (yK:ZT) (yG:ZY) (yB:Zi) (yS:Qm) (yF:Bool) (yD:List ZX) (h7_m:List ((List UInt8) × Bool)) (h8_m:List ((List UInt8) × Kt)) (h10_m:List ((List UInt8) × Bool)):Option (Except (Int × Int) Int) :=
 (cond (!Qi (Qc (List.map KP a1attr.Kids)) 1)
  (some true)
  ((Option.bind (Q8 a1attr.Kids 0) GN.of).bind fun x3 =>
  some (!Qi x3.Kind 5))).bind fun j1 =>
 cond j1
  (some (.error (9,a1attr.At)))
  ((Option.bind (Q8 a1attr.Kids 0) GN.of).bind fun x4 =>
  cond (Rt Qv x4.Name h8_m)
   (QZ (fun recl6 l6=>WZ a1attr h8_m x4 recl6 l6) n 0)
   (Ye a1attr))
def Fa (yI:GN) (yC:ZJ) (yK:ZT) (yG:ZY) (yB:Zi) (yS:Qm) (yF:Bool) (yD:List ZX) (h7_m:List ((List UInt8) × Bool)) (h8_m:List ((List UInt8) × Kt)) (h10_m:List ((List UInt8) × Bool)):List (Nat × Blk):=Y4 yI yC yK yG yB yS yF yD h7_m h8_m h10_m
def dM:=fun x0 x1 x2 x3 x4 x5 x6 x7 x8 x9 x10 x11 x12 x13=>(⟨xQ [3] [3] x0,GD x1 x2++Y4 x3 x4 x5 x6 x7 x8 x9 x10 x11 x12 x13⟩:St)
theorem Sd (n:Nat) (a1attr:GN) (yI:GN) (yC:ZJ) (yK:ZT) (yG:ZY) (yB:Zi) (yS:Qm) (yF:Bool) (yD:List ZX) (h7_m:List ((List UInt8) × Bool)) (h8_m:List ((List UInt8) × Kt)) (h10_m:List ((List UInt8) × Bool)):∀ r,Ui n a1attr yI yC yK yG yB yS yF yD h7_m h8_m h10_m=some r→WF Tryz.prog 45 [YR,ag (GN.cs a1attr), .tsl 1 (List.map ci [3]) 1011] (Go.Abs.look (Fa yI yC yK yG yB yS yF yD h7_m h8_m h10_m)) (Xo (CL (fun r:Int=>((.ret (I r),Fa yI yC yK yG yB yS yF yD h7_m h8_m h10_m):QX × List (Nat × Blk))) (fun e:(Int × Int)=>((.panic (.ifc 116 (.agg [I e.1,I e.2])),Fa yI yC yK yG yB yS yF yD h7_m h8_m h10_m):QX × List (Nat × Blk)))) r):=by
 refine Y3 (X:=CL (fun r:Int=>((.ret (I r),Fa yI yC yK yG yB yS yF yD h7_m h8_m h10_m):QX × List (Nat × Blk))) (fun e:(Int × Int)=>((.panic (.ifc 116 (.agg [I e.1,I e.2])),Fa yI yC yK yG yB yS yF yD h7_m h8_m h10_m):QX × List (Nat × Blk)))) (Fa yI yC yK yG yB yS yF yD h7_m h8_m h10_m) Tryz.func45 rfl Tryz.ntmps45 rfl ?_
 unfold Ui
 refine Qg Qd ⟨xP [3],Hy a1attr++Y4 yI yC yK yG yB yS yF yD h7_m h8_m h10_m⟩ Qa (sS (K6 (fun j1=>⟨ah [3] j1,Hy a1attr++Y4 yI yC yK yG yB yS yF yD h7_m h8_m h10_m⟩:Bool→St) ?_ ?_))
 ·refine sG (xR 5 Qa ?_)
  refine xS (!Qi (Qc (mI a1attr.Kids)) 1) (fun h2=>?_) (fun h2=>?_)
  ·refine xN (Qx Qa h2) Qa (xR 6 Qa (xE ?_))
   exact QQ true Qa
  refine xO (Qw Qa h2) Qa (xR 1 Qa ?_)
  refine xG Qa Qa (Yc (e:=24) (S:=5) (enc:=GN.cs) (dec:=GN.of) (l:=a1attr.Kids) (k:=.i64) (n:=0) (sv:=.p (.sl 5 (mI a1attr.Kids))) GN.of_cs rfl Qa Qa Qa Qa Qa) (fun x3=>?_)
  refine xR 4 Qa (xE ?_)
  exact QQ (!Qi x3.Kind 5) Qa
 rintro j1
 refine sC j1 Qa ?_ ?_
 ·refine sG (xR 1 Qa (Vo [] [I 9, .agg [I a1attr.Kind,S a1attr.Name,I a1attr.N,I a1attr.At, .p (.sl 5 (mI a1attr.Kids))]] [] [] [] Qa Tryz.func49 rfl Tryz.ntmps49 rfl Qa Qa Qa (Qg Qd (Hm 9 a1attr) Qa (sG (xR 6 Qa (XM 116 (.agg [I 9,I a1attr.At]) Qa rfl Qa (ZN [] [] Qa ?_)))))))
  refine Z8 ?_
  exact Kn E9 [] Qa Qa Qa
 refine sK (Qp ⟨xP [3],Hy a1attr++Y4 yI yC yK yG yB yS yF yD h7_m h8_m h10_m⟩ Qa (sS (Vq Qd rfl (xR 9 Qa ?_))))
 refine xG Qa Qa (Yc (e:=24) (S:=5) (enc:=GN.cs) (dec:=GN.of) (l:=a1attr.Kids) (k:=.i64) (n:=0) (sv:=.p (.sl 5 (mI a1attr.Kids))) GN.of_cs rfl Qa Qa Qa Qa Qa) (fun x4=>?_)
 refine xR 2 Qa ?_
 refine ZH Qa Qa (Zt (kt:=9) (e:=137) (ke:=VK) (ve:=VL) (eq:=Qv) (b:=1008) (m:=h8_m) (k:=x4.Name) (z0:=(⟨0,0⟩:Kt)) rfl Qa Qa Qa Qa Qa QS (fun _ _=>Q0 rfl _ _) Qa) ?_
 refine xR 6 Qa (YB Qa (Qp ⟨ai [3] (Rt Qv x4.Name h8_m),GD a1attr (QB Qv x4.Name (⟨0,0⟩:Kt) h8_m)++Y4 yI yC yK yG yB yS yF yD h7_m h8_m h10_m⟩ Qa (ZR (fun _=>⟨[qq 4],Hy a1attr++Y4 yI yC yK yG yB yS yF yD h7_m h8_m h10_m⟩:Unit→St) (fun _=>Ye a1attr) ?_ ?_)))
 ·rintro _
  show QV (Ye a1attr) _ _ _ _ _ _
  unfold Ye
  refine sS (sG (xR 1 Qa (Vo [] [I 8, .agg [I a1attr.Kind,S a1attr.Name,I a1attr.N,I a1attr.At, .p (.sl 5 (mI a1attr.Kids))]] [] [] [] Qa Tryz.func49 rfl Tryz.ntmps49 rfl Qa Qa Qa (Qg Qd (Hm 8 a1attr) Qa (sG (xR 6 Qa (XM 116 (.agg [I 8,I a1attr.At]) Qa rfl Qa ?_)))))))
  refine ZN [] [] Qa (Z8 ?_)
  exact Kn E9 [] Qa Qa Qa
 refine Qg Qd ⟨aj [3] (Rt Qv x4.Name h8_m),GD a1attr (QB Qv x4.Name (⟨0,0⟩:Kt) h8_m)++Y4 yI yC yK yG yB yS yF yD h7_m h8_m h10_m⟩ Qa (sC (Rt Qv x4.Name h8_m) Qa ?_ ?_)
 rotate_left
 ·refine sK ?_
  exact KQ (k:=fun _=>Ye a1attr) () Qa
 refine Qg Qd (dM 0 a1attr (QB Qv x4.Name (⟨0,0⟩:Kt) h8_m) yI yC yK yG yB yS yF yD h7_m h8_m h10_m) Qa (sB (QI (fun l6=>(dM l6 a1attr (QB Qv x4.Name (⟨0,0⟩:Kt) h8_m) yI yC yK yG yB yS yF yD h7_m h8_m h10_m):Int→St) (Xg Qa) ?_))
 rintro recl6 l6
 show QV (WZ a1attr h8_m x4 recl6 l6) _ _ _ _ _ _
 unfold WZ
 refine Qg Qd ⟨ak [3] [3] l6 (QO l6 (Qc (List.map ci [3]))),GD a1attr (QB Qv x4.Name (⟨0,0⟩:Kt) h8_m)++Y4 yI yC yK yG yB yS yF yD h7_m h8_m h10_m⟩ Qa (sS (sC (QO l6 (Qc (List.map ci [3]))) Qa ?_ ?_))
 rotate_left
 ·refine Qz (ZW (KM (QW ?_)))
  exact KQ (k:=fun _=>Ye a1attr) () Qa
 refine sK (Qp (dM l6 a1attr (QB Qv x4.Name (⟨0,0⟩:Kt) h8_m) yI yC yK yG yB yS yF yD h7_m h8_m h10_m) Qa (sS (sB (sS (sG ?_)))))
 refine xG Qa Qa (QN (e:=3) (S:=1) (enc:=ci) (l:=[3]) (k:=.i64) (n:=l6) (sv:=.tsl 1 (List.map ci [3]) 1011) rfl Qa Qa Qa Qa Qa) (fun x7=>?_)
 refine xR 2 Qa (xE (Qp ⟨au x7 [3] [3] l6,GD a1attr (QB Qv x4.Name (⟨0,0⟩:Kt) h8_m)++Y4 yI yC yK yG yB yS yF yD h7_m h8_m h10_m⟩ Qa (Qg Qd ⟨av [3] [3] l6 (Qi x7 ((QB Qv x4.Name (⟨0,0⟩:Kt) h8_m).kind)),GD a1attr (QB Qv x4.Name (⟨0,0⟩:Kt) h8_m)++Y4 yI yC yK yG yB yS yF yD h7_m h8_m h10_m⟩ Qa (sC (Qi x7 ((QB Qv x4.Name (⟨0,0⟩:Kt) h8_m).kind)) Qa ?_ ?_))))
 ·refine Qg Qd ⟨[(6,I ((QB Qv x4.Name (⟨0,0⟩:Kt) h8_m).index))],Y4 yI yC yK yG yB yS yF yD h7_m h8_m h10_m⟩ Qa (sT (Zd (Q7 (KH (Zd (KH ?_))))))
  exact YW (.id) E9 [] Qa Qa Qa Qa
 refine sK (Q6 (Qp (dM l6 a1attr (QB Qv x4.Name (⟨0,0⟩:Kt) h8_m) yI yC yK yG yB yS yF yD h7_m h8_m h10_m) Qa (sL Qd Qa ?_)))
 exact KQ (wi (l6+1)) Qa
def VN (a0attr:GN) (r3:List Int) (recl5:(Int × Int × Int)→Option (Except (Int × Int) Int)) (l5_1:Int) (l5_2:Int) (l5_3:Int):Option (Except (Int × Int) Int) :=
 cond (QO l5_3 (Qc (List.map ci r3)))
  ((Q8 r3 l5_3).bind fun x6 =>
  cond (leI x6 l5_2)
   (some (.error (3,a0attr.At)))
   (cond (!QO (wi (x6 - 1)) 0) (
    recl5 (pz .i64 l5_1 (I5 .i64 1 (wi (x6 - 1))),x6,wi (l5_3+1))) none))
  (some (.ok l5_1))
def JJ (n:Nat) (a0attr:GN):Option (Except (Int × Int) Int) :=
 (cond (QO (Qc (List.map KP a0attr.Kids)) 1)
  (some true)
  (some (QO 3 (Qc (List.map KP a0attr.Kids))))).bind fun j1 =>
 cond j1
  (some (.error (9,a0attr.At)))
  (cond (sliceB 0 (Qc (List.map KP a0attr.Kids)) (List.length [(⟨1,3⟩:ZA),(⟨1,3⟩:ZA),(⟨1,3⟩:ZA)])) (
   (Zu n a0attr (List.drop (Int.toNat 0) (List.take (Int.toNat (Qc (List.map KP a0attr.Kids))) [(⟨1,3⟩:ZA),(⟨1,3⟩:ZA),(⟨1,3⟩:ZA)]))).bind (Rk (fun r3 =>
    QZ (fun recl5 (l5_1,l5_2,l5_3)=>VN a0attr r3 recl5 l5_1 l5_2 l5_3) n (0,0,0)) fun e4=>some (.error (e4.1,e4.2)))) none)
def Qa3:=fun x0=>(.arr 103 2 (List.map ZA.cs [x0,x0,x0]).length:Blk)
def dN:=fun x0 x1 x2 x3=>([(1, .ptr 1 0),(4,I x0),(5,I x1),(30, .p (.sl 1 (List.map ci x2))),(31,I (Qc (List.map ci x2))),(32,I x3)]:List (Nat × AV))
def Qa4:=fun x0 x1 x2 x3=>([(1, .ptr 1 0),(4,I x0),(7,I x1),(30, .p (.sl 1 (List.map ci x2))),(31,I (Qc (List.map ci x2))),(32,I x3)]:List (Nat × AV))
theorem MO (n:Nat) (a0attr:GN):∀ r,JJ n a0attr=some r→Q9 Tryz.prog 52 [ag (GN.cs a0attr)] (Eu (fun r:Int=>(I r:AV)) (fun e:(Int × Int)=>(.ifc 116 (.agg [I e.1,I e.2]):AV)) r):=by
 refine Qs (X:=Eu (fun r:Int=>(I r:AV)) (fun e:(Int × Int)=>(.ifc 116 (.agg [I e.1,I e.2]):AV))) Tryz.func52 rfl Tryz.ntmps52 rfl ?_
 unfold JJ
 refine Qg Qd ⟨[qq 1],Lp a0attr⟩ Qa (sS (K6 (fun j1=>⟨[qq 1,(17,B j1)],Lp a0attr⟩:Bool→St) ?_ ?_))
 ·refine sG (xR 5 Qa ?_)
  refine xS (QO (Qc (mI a0attr.Kids)) 1) (fun h2=>?_) (fun h2=>?_)
  ·refine xN (Qx Qa h2) Qa (xR 4 Qa (xE ?_))
   exact QQ true Qa
  refine xO (Qw Qa h2) Qa (xR 4 Qa (xE ?_))
  exact QQ (QO 3 (Qc (mI a0attr.Kids))) Qa
 rintro j1
 refine sC j1 Qa ?_ ?_
 ·refine sG (xR 1 Qa (Vo [] [I 9, .agg [I a0attr.Kind,S a0attr.Name,I a0attr.N,I a0attr.At, .p (.sl 5 (mI a0attr.Kids))]] [] [] [] Qa Tryz.func49 rfl Tryz.ntmps49 rfl Qa Qa Qa (Qg Qd (Hm 9 a0attr) Qa (sG (xR 6 Qa (XM 116 (.agg [I 9,I a0attr.At]) Qa rfl Qa (ZN [] [] Qa ?_)))))))
  refine Z8 ?_
  exact ze Qa Qa
 refine sK (Qp ⟨[qq 1],Lp a0attr⟩ Qa (Qg Qd ⟨[qq 1,(3, .tsl 2 (Iz [(⟨1,3⟩:ZA),(⟨1,3⟩:ZA),(⟨1,3⟩:ZA)]) 23)],[(1,RF a0attr),(23,(Qa3 (⟨1,3⟩:ZA)))]⟩ Qa (Qg Qd ⟨[qq 1,(3, .tsl 2 (Iz [(⟨1,3⟩:ZA),(⟨1,3⟩:ZA),(⟨1,3⟩:ZA)]) 23),(4,I 0),(5,I 0)],[(1,RF a0attr),(23,(Qa3 (⟨1,3⟩:ZA)))]⟩ Qa (sS (sS (mH 8 Qd rfl Qa (xR 6 Qa ?_)))))))
 refine xF Qa Qa (Ih (e:=103) (S:=2) (enc:=ZA.cs) (l:=[(⟨1,3⟩:ZA),(⟨1,3⟩:ZA),(⟨1,3⟩:ZA)]) (sv:=.tsl 2 (Iz [(⟨1,3⟩:ZA),(⟨1,3⟩:ZA),(⟨1,3⟩:ZA)]) 23) (a:=0) (b:=Qc (mI a0attr.Kids)) rfl Qa Qa Qa Qa Qa Qa) (FN rfl Qa Qa ?_)
 refine Gp [] Qa (ZV n a0attr (List.drop (Int.toNat 0) (List.take (Int.toNat (Qc (mI a0attr.Kids))) [(⟨1,3⟩:ZA),(⟨1,3⟩:ZA),(⟨1,3⟩:ZA)]))) Qa Qa QS QS (fun r3=>?_) (fun e4=>?_)
 rotate_left
 ·refine Qch rfl (Z8 (Z8 ?_))
  exact ze Qa Qa
 refine xR 1 Qa (xE (Qcg (Qp ⟨dN 0 0 r3 0,Lp a0attr⟩ Qa (sB (QI (fun (l5_1,l5_2,l5_3)=>⟨dN l5_1 l5_2 r3 l5_3,Lp a0attr⟩:(Int × Int × Int)→St) (Xg Qa) ?_)))))
 rintro recl5 ⟨l5_1,l5_2,l5_3⟩
 show QV (VN a0attr r3 recl5 l5_1 l5_2 l5_3) _ _ _ _ _ _
 unfold VN
 refine Qg Qd ⟨[qq 1,(4,I l5_1),(5,I l5_2),(30, .p (.sl 1 (List.map ci r3))),(31,I (Qc (List.map ci r3))),(32,I l5_3),(33,B (QO l5_3 (Qc (List.map ci r3))))],Lp a0attr⟩ Qa (sS (sC (QO l5_3 (Qc (List.map ci r3))) Qa ?_ ?_))
 rotate_left
 ·refine Qz (ZW (KM (QW (Qp ⟨[(4,I l5_1)],[]⟩ Qa (Qg Qd ⟨[(2,I l5_1)],[]⟩ Qa (sT ?_))))))
  exact qR (.id) Qa Qa Qa
 refine sK (Qp ⟨dN l5_1 l5_2 r3 l5_3,Lp a0attr⟩ Qa (sS (sB (sS (sG ?_)))))
 refine xG Qa Qa (QN (e:=3) (S:=1) (enc:=ci) (l:=r3) (k:=.i64) (n:=l5_3) (sv:=.p (.sl 1 (List.map ci r3))) rfl Qa Qa Qa Qa Qa) (fun x6=>?_)
 refine xR 2 Qa (xE (Qp ⟨[qq 1,(4,I l5_1),(5,I l5_2),(7,I x6),(30, .p (.sl 1 (List.map ci r3))),(31,I (Qc (List.map ci r3))),(32,I l5_3)],Lp a0attr⟩ Qa (sS (Qg Qd ⟨[qq 1,(4,I l5_1),(7,I x6),(30, .p (.sl 1 (List.map ci r3))),(31,I (Qc (List.map ci r3))),(32,I l5_3),(38,B (leI x6 l5_2))],Lp a0attr⟩ Qa (sC (leI x6 l5_2) Qa ?_ ?_)))))
 ·refine sG (xR 1 Qa (Vo [] [I 3, .agg [I a0attr.Kind,S a0attr.Name,I a0attr.N,I a0attr.At, .p (.sl 5 (mI a0attr.Kids))]] [] [] [] Qa Tryz.func49 rfl Tryz.ntmps49 rfl Qa Qa Qa (Qg Qd (Hm 3 a0attr) Qa (sG (xR 6 Qa (XM 116 (.agg [I 3,I a0attr.At]) Qa rfl Qa (ZN [] [] Qa ?_)))))))
  refine Z8 (Ze (Z8 (Zl (Ze (Z8 ?_)))))
  exact ze Qa Qa
 refine sK (Qp ⟨Qa4 l5_1 x6 r3 l5_3,Lp a0attr⟩ Qa (sS (sG (xR 3 Qa (xF Qa Qa (bu (k:=.i64) (k':=.i64) (a:=1) (b:=wi (x6 - 1)) rfl Qa Qa) (xR 2 Qa (xE ?_)))))))
 refine Qp ⟨Qa4 (pz .i64 l5_1 (I5 .i64 1 (wi (x6 - 1)))) x6 r3 l5_3,Lp a0attr⟩ Qa (sL Qd Qa (Q6 (Qp ⟨dN (pz .i64 l5_1 (I5 .i64 1 (wi (x6 - 1)))) x6 r3 l5_3,Lp a0attr⟩ Qa (sL Qd Qa ?_))))
 exact KQ (pz .i64 l5_1 (I5 .i64 1 (wi (x6 - 1))),x6,wi (l5_3+1)) Qa
def Y5 (yI:GN) (yC:ZJ) (yK:ZT) (yG:ZY) (yB:Zi) (yS:Qm) (yF:Bool) (yD:List ZX) (h7_m:List ((List UInt8) × Bool)) (h8_m:List ((List UInt8) × Kt)) (h10_m:List ((List UInt8) × Bool)):List (Nat × Blk):=[(1000, .box 108 ([.ptr 1001 0]++Ya (GN.cs yI)++[.mv 1010]++Ya (ZJ.cs yC)++Ya (ZT.cs yK)++Ya (ZY.cs yG)++[S yB.Name,I yB.Charger])),(1001, .box 74 [.tsl 11 (List.map ZJ.cs yS.Conductors) 1002, .tsl 1 (List.map Zb.cs yS.Owners) 1003, .tsl 4 (List.map ZT.cs yS.Contracts) 1004, .tsl 8 (List.map ZY.cs yS.Chargers) 1005, .tsl 2 (List.map Zi.cs yS.Bays) 1006, .mv 1007,B yF, .mv 1008, .tsl 2 (List.map ZX.cs yD) 1009]),(1002, .arr 49 11 (List.map ZJ.cs yS.Conductors).length),(1003, .arr 52 1 (List.map Zb.cs yS.Owners).length),(1004, .arr 54 4 (List.map ZT.cs yS.Contracts).length),(1005, .arr 56 8 (List.map ZY.cs yS.Chargers).length),(1006, .arr 58 2 (List.map Zi.cs yS.Bays).length),(1007, .mp (JD QT QU h7_m)),(1008, .mp (JD VK VL h8_m)),(1009, .arr 65 2 (List.map ZX.cs yD).length),(1010, .mp (JD QT QU h10_m)),(1011, .arr 3 1 (List.map ci [5]).length)]
def Sg:List Nat:=[1000,1001,1002,1003,1004,1005,1006,1007,1008,1009,1010,1011]
def Yf (a1attr:GN):Option (Except (Int × Int) Int) :=
 some (.error (8,a1attr.At))
def W9 (a1attr:GN) (h8_m:List ((List UInt8) × Kt)) (x4:GN) (recl6:Int→Option (Except (Int × Int) Int)) (l6:Int):Option (Except (Int × Int) Int) :=
 cond (QO l6 (Qc (List.map ci [5])))
  ((Q8 [5] l6).bind fun x7 =>
  cond (Qi x7 ((QB Qv x4.Name (⟨0,0⟩:Kt) h8_m).kind))
   (some (.ok ((QB Qv x4.Name (⟨0,0⟩:Kt) h8_m).index)))
   (recl6 (wi (l6+1))))
  (Yf a1attr)
def Uj (n:Nat) (a1attr:GN) (yI:GN) (yC:ZJ) (yK:ZT) (yG:ZY) (yB:Zi) (yS:Qm) (yF:Bool) (yD:List ZX) (h7_m:List ((List UInt8) × Bool)) (h8_m:List ((List UInt8) × Kt)) (h10_m:List ((List UInt8) × Bool)):Option (Except (Int × Int) Int) :=
 (cond (!Qi (Qc (List.map KP a1attr.Kids)) 1)
  (some true)
  ((Option.bind (Q8 a1attr.Kids 0) GN.of).bind fun x3 =>
  some (!Qi x3.Kind 5))).bind fun j1 =>
 cond j1
  (some (.error (9,a1attr.At)))
  ((Option.bind (Q8 a1attr.Kids 0) GN.of).bind fun x4 =>
  cond (Rt Qv x4.Name h8_m)
   (QZ (fun recl6 l6=>W9 a1attr h8_m x4 recl6 l6) n 0)
   (Yf a1attr))
def Fb (yI:GN) (yC:ZJ) (yK:ZT) (yG:ZY) (yB:Zi) (yS:Qm) (yF:Bool) (yD:List ZX) (h7_m:List ((List UInt8) × Bool)) (h8_m:List ((List UInt8) × Kt)) (h10_m:List ((List UInt8) × Bool)):List (Nat × Blk):=Y5 yI yC yK yG yB yS yF yD h7_m h8_m h10_m
def dO:=fun x0 x1 x2 x3 x4 x5 x6 x7 x8 x9 x10 x11 x12 x13=>(⟨xQ [5] [5] x0,GD x1 x2++Y5 x3 x4 x5 x6 x7 x8 x9 x10 x11 x12 x13⟩:St)
theorem Si (n:Nat) (a1attr:GN) (yI:GN) (yC:ZJ) (yK:ZT) (yG:ZY) (yB:Zi) (yS:Qm) (yF:Bool) (yD:List ZX) (h7_m:List ((List UInt8) × Bool)) (h8_m:List ((List UInt8) × Kt)) (h10_m:List ((List UInt8) × Bool)):∀ r,Uj n a1attr yI yC yK yG yB yS yF yD h7_m h8_m h10_m=some r→WF Tryz.prog 45 [YR,ag (GN.cs a1attr), .tsl 1 (List.map ci [5]) 1011] (Go.Abs.look (Fb yI yC yK yG yB yS yF yD h7_m h8_m h10_m)) (Xo (CL (fun r:Int=>((.ret (I r),Fb yI yC yK yG yB yS yF yD h7_m h8_m h10_m):QX × List (Nat × Blk))) (fun e:(Int × Int)=>((.panic (.ifc 116 (.agg [I e.1,I e.2])),Fb yI yC yK yG yB yS yF yD h7_m h8_m h10_m):QX × List (Nat × Blk)))) r):=by
 refine Y3 (X:=CL (fun r:Int=>((.ret (I r),Fb yI yC yK yG yB yS yF yD h7_m h8_m h10_m):QX × List (Nat × Blk))) (fun e:(Int × Int)=>((.panic (.ifc 116 (.agg [I e.1,I e.2])),Fb yI yC yK yG yB yS yF yD h7_m h8_m h10_m):QX × List (Nat × Blk)))) (Fb yI yC yK yG yB yS yF yD h7_m h8_m h10_m) Tryz.func45 rfl Tryz.ntmps45 rfl ?_
 unfold Uj
 refine Qg Qd ⟨xP [5],Hy a1attr++Y5 yI yC yK yG yB yS yF yD h7_m h8_m h10_m⟩ Qa (sS (K6 (fun j1=>⟨ah [5] j1,Hy a1attr++Y5 yI yC yK yG yB yS yF yD h7_m h8_m h10_m⟩:Bool→St) ?_ ?_))
 ·refine sG (xR 5 Qa ?_)
  refine xS (!Qi (Qc (mI a1attr.Kids)) 1) (fun h2=>?_) (fun h2=>?_)
  ·refine xN (Qx Qa h2) Qa (xR 6 Qa (xE ?_))
   exact QQ true Qa
  refine xO (Qw Qa h2) Qa (xR 1 Qa ?_)
  refine xG Qa Qa (Yc (e:=24) (S:=5) (enc:=GN.cs) (dec:=GN.of) (l:=a1attr.Kids) (k:=.i64) (n:=0) (sv:=.p (.sl 5 (mI a1attr.Kids))) GN.of_cs rfl Qa Qa Qa Qa Qa) (fun x3=>?_)
  refine xR 4 Qa (xE ?_)
  exact QQ (!Qi x3.Kind 5) Qa
 rintro j1
 refine sC j1 Qa ?_ ?_
 ·refine sG (xR 1 Qa (Vo [] [I 9, .agg [I a1attr.Kind,S a1attr.Name,I a1attr.N,I a1attr.At, .p (.sl 5 (mI a1attr.Kids))]] [] [] [] Qa Tryz.func49 rfl Tryz.ntmps49 rfl Qa Qa Qa (Qg Qd (Hm 9 a1attr) Qa (sG (xR 6 Qa (XM 116 (.agg [I 9,I a1attr.At]) Qa rfl Qa (ZN [] [] Qa ?_)))))))
  refine Z8 ?_
  exact Kn Sg [] Qa Qa Qa
 refine sK (Qp ⟨xP [5],Hy a1attr++Y5 yI yC yK yG yB yS yF yD h7_m h8_m h10_m⟩ Qa (sS (Vq Qd rfl (xR 9 Qa ?_))))
 refine xG Qa Qa (Yc (e:=24) (S:=5) (enc:=GN.cs) (dec:=GN.of) (l:=a1attr.Kids) (k:=.i64) (n:=0) (sv:=.p (.sl 5 (mI a1attr.Kids))) GN.of_cs rfl Qa Qa Qa Qa Qa) (fun x4=>?_)
 refine xR 2 Qa ?_
 refine ZH Qa Qa (Zt (kt:=9) (e:=137) (ke:=VK) (ve:=VL) (eq:=Qv) (b:=1008) (m:=h8_m) (k:=x4.Name) (z0:=(⟨0,0⟩:Kt)) rfl Qa Qa Qa Qa Qa QS (fun _ _=>Q0 rfl _ _) Qa) ?_
 refine xR 6 Qa (YB Qa (Qp ⟨ai [5] (Rt Qv x4.Name h8_m),GD a1attr (QB Qv x4.Name (⟨0,0⟩:Kt) h8_m)++Y5 yI yC yK yG yB yS yF yD h7_m h8_m h10_m⟩ Qa (ZR (fun _=>⟨[qq 4],Hy a1attr++Y5 yI yC yK yG yB yS yF yD h7_m h8_m h10_m⟩:Unit→St) (fun _=>Yf a1attr) ?_ ?_)))
 ·rintro _
  show QV (Yf a1attr) _ _ _ _ _ _
  unfold Yf
  refine sS (sG (xR 1 Qa (Vo [] [I 8, .agg [I a1attr.Kind,S a1attr.Name,I a1attr.N,I a1attr.At, .p (.sl 5 (mI a1attr.Kids))]] [] [] [] Qa Tryz.func49 rfl Tryz.ntmps49 rfl Qa Qa Qa (Qg Qd (Hm 8 a1attr) Qa (sG (xR 6 Qa (XM 116 (.agg [I 8,I a1attr.At]) Qa rfl Qa ?_)))))))
  refine ZN [] [] Qa (Z8 ?_)
  exact Kn Sg [] Qa Qa Qa
 refine Qg Qd ⟨aj [5] (Rt Qv x4.Name h8_m),GD a1attr (QB Qv x4.Name (⟨0,0⟩:Kt) h8_m)++Y5 yI yC yK yG yB yS yF yD h7_m h8_m h10_m⟩ Qa (sC (Rt Qv x4.Name h8_m) Qa ?_ ?_)
 rotate_left
 ·refine sK ?_
  exact KQ (k:=fun _=>Yf a1attr) () Qa
 refine Qg Qd (dO 0 a1attr (QB Qv x4.Name (⟨0,0⟩:Kt) h8_m) yI yC yK yG yB yS yF yD h7_m h8_m h10_m) Qa (sB (QI (fun l6=>(dO l6 a1attr (QB Qv x4.Name (⟨0,0⟩:Kt) h8_m) yI yC yK yG yB yS yF yD h7_m h8_m h10_m):Int→St) (Xg Qa) ?_))
 rintro recl6 l6
 show QV (W9 a1attr h8_m x4 recl6 l6) _ _ _ _ _ _
 unfold W9
 refine Qg Qd ⟨ak [5] [5] l6 (QO l6 (Qc (List.map ci [5]))),GD a1attr (QB Qv x4.Name (⟨0,0⟩:Kt) h8_m)++Y5 yI yC yK yG yB yS yF yD h7_m h8_m h10_m⟩ Qa (sS (sC (QO l6 (Qc (List.map ci [5]))) Qa ?_ ?_))
 rotate_left
 ·refine Qz (ZW (KM (QW ?_)))
  exact KQ (k:=fun _=>Yf a1attr) () Qa
 refine sK (Qp (dO l6 a1attr (QB Qv x4.Name (⟨0,0⟩:Kt) h8_m) yI yC yK yG yB yS yF yD h7_m h8_m h10_m) Qa (sS (sB (sS (sG ?_)))))
 refine xG Qa Qa (QN (e:=3) (S:=1) (enc:=ci) (l:=[5]) (k:=.i64) (n:=l6) (sv:=.tsl 1 (List.map ci [5]) 1011) rfl Qa Qa Qa Qa Qa) (fun x7=>?_)
 refine xR 2 Qa (xE (Qp ⟨au x7 [5] [5] l6,GD a1attr (QB Qv x4.Name (⟨0,0⟩:Kt) h8_m)++Y5 yI yC yK yG yB yS yF yD h7_m h8_m h10_m⟩ Qa (Qg Qd ⟨av [5] [5] l6 (Qi x7 ((QB Qv x4.Name (⟨0,0⟩:Kt) h8_m).kind)),GD a1attr (QB Qv x4.Name (⟨0,0⟩:Kt) h8_m)++Y5 yI yC yK yG yB yS yF yD h7_m h8_m h10_m⟩ Qa (sC (Qi x7 ((QB Qv x4.Name (⟨0,0⟩:Kt) h8_m).kind)) Qa ?_ ?_))))
 ·refine Qg Qd ⟨[(6,I ((QB Qv x4.Name (⟨0,0⟩:Kt) h8_m).index))],Y5 yI yC yK yG yB yS yF yD h7_m h8_m h10_m⟩ Qa (sT (Zd (Q7 (KH (Zd (KH ?_))))))
  exact YW (.id) Sg [] Qa Qa Qa Qa
 refine sK (Q6 (Qp (dO l6 a1attr (QB Qv x4.Name (⟨0,0⟩:Kt) h8_m) yI yC yK yG yB yS yF yD h7_m h8_m h10_m) Qa (sL Qd Qa ?_)))
 exact KQ (wi (l6+1)) Qa
def QL (yS:Qm) (yF:Bool) (yD:List ZX) (h7_m:List ((List UInt8) × Bool)) (h8_m:List ((List UInt8) × Kt)):List (Nat × Blk):=[(1001, .box 74 [.tsl 11 (List.map ZJ.cs yS.Conductors) 1002, .tsl 1 (List.map Zb.cs yS.Owners) 1003, .tsl 4 (List.map ZT.cs yS.Contracts) 1004, .tsl 8 (List.map ZY.cs yS.Chargers) 1005, .tsl 2 (List.map Zi.cs yS.Bays) 1006, .mv 1007,B yF, .mv 1008, .tsl 2 (List.map ZX.cs yD) 1009]),(1002, .arr 49 11 (List.map ZJ.cs yS.Conductors).length),(1003, .arr 52 1 (List.map Zb.cs yS.Owners).length),(1004, .arr 54 4 (List.map ZT.cs yS.Contracts).length),(1005, .arr 56 8 (List.map ZY.cs yS.Chargers).length),(1006, .arr 58 2 (List.map Zi.cs yS.Bays).length),(1007, .mp (JD QT QU h7_m)),(1008, .mp (JD VK VL h8_m)),(1009, .arr 65 2 (List.map ZX.cs yD).length)]
def Zk:List (Nat × Blk):=[(1011, .mf (UH 1012 1013 1014 1015 1016 1017 1018 1019 1020 1021)),(1012, .arr 3 1 (List.map ci [1,2]).length),(1013, .box 103 [I 1,I 1000]),(1014, .arr 3 1 (List.map ci [2]).length),(1015, .box 104 [.tsl 1 (List.map ci [1,2]) 1012]),(1016, .arr 3 1 (List.map ci [4,5]).length),(1017, .arr 3 1 (List.map ci [4]).length),(1018, .arr 3 1 (List.map ci [4]).length),(1019, .arr 3 1 (List.map ci [5]).length),(1020, .box 103 [I 1,I 80]),(1021, .arr 3 1 (List.map ci [6]).length)]
def ZC:List Nat:=[1000,1001,1002,1003,1004,1005,1006,1007,1008,1009,1010,1011,1012,1013,1014,1015,1016,1017,1018,1019,1020,1021]
abbrev ty6:=(Int × ZJ × ZT × ZY × Zi × (List ((List UInt8) × Bool)))
abbrev O3:=(Except ((Int × Int) × ZJ × ZT × ZY × Zi × (List ((List UInt8) × Bool))) (ZJ × ZT × ZY × Zi × (List ((List UInt8) × Bool))))
def QH (l1_1:Int) (recl1:ty6→Option O3) (j2_1:ZJ) (j2_2:ZT) (j2_3:ZY) (j2_4:Zi) (j2_5:List ((List UInt8) × Bool)):Option O3 :=
 recl1 (wi (l1_1+1),j2_1,j2_2,j2_3,j2_4,j2_5)
def Ja (yS:Qm) (l1_1:Int) (l1_2:ZJ) (l1_3:ZT) (l1_4:ZY) (l1_5:Zi) (l1_6:List ((List UInt8) × Bool)) (recl1:ty6→Option O3) (x3:GN) (x51:Int) (recl52:Int→Option O3) (l52:Int):Option O3 :=
 cond (QO l52 (Qc (List.map ZT.cs yS.Contracts)))
  ((Q8 yS.Contracts l52).bind fun x53 =>
  cond (Qi x53.Card x51)
   (some (.error ((5,x3.At),l1_2,(⟨l1_3.Name,l1_3.Owner,l1_3.Rank,x51⟩:ZT),l1_4,l1_5,Qk Qb x3.Name true l1_6)))
   (recl52 (wi (l52+1))))
  (QH l1_1 recl1 l1_2 (⟨l1_3.Name,l1_3.Owner,l1_3.Rank,x51⟩:ZT) l1_4 l1_5 (Qk Qb x3.Name true l1_6))
def JK (n:Nat) (yI:GN) (yS:Qm) (yF:Bool) (yD:List ZX) (h7_m:List ((List UInt8) × Bool)) (h8_m:List ((List UInt8) × Kt)) (recl1:ty6→Option O3) (l1_1:Int) (l1_2:ZJ) (l1_3:ZT) (l1_4:ZY) (l1_5:Zi) (l1_6:List ((List UInt8) × Bool)):Option O3 :=
 cond (QO l1_1 (Qc (List.map KP yI.Kids)))
  ((Option.bind (Q8 yI.Kids l1_1) GN.of).bind fun x3 =>
  cond (!Qi x3.Kind 3)
   (QH l1_1 recl1 l1_2 l1_3 l1_4 l1_5 l1_6)
   (cond (QP x3.Name [108,105,109,105,116]&&true)
    ((QE n [1,2] false yI.N).bind fun r7 =>
    cond (!r7)
     (some (.error ((9,x3.At),l1_2,l1_3,l1_4,l1_5,l1_6)))
     (cond (QB Qb x3.Name false l1_6)
      (some (.error ((5,x3.At),l1_2,l1_3,l1_4,l1_5,l1_6)))
      ((Zu n x3 [(⟨1,1000⟩:ZA)]).bind (Rk (fun r8 =>
       (Q8 r8 0).bind fun x10 =>
       QH l1_1 recl1 (⟨l1_2.Name,l1_2.Up,x10,l1_2.Neutral,l1_2.Fuse,l1_2.Cable⟩:ZJ) l1_3 l1_4 l1_5 (Qk Qb x3.Name true l1_6)) fun e9=>some (.error ((e9.1,e9.2),l1_2,l1_3,l1_4,l1_5,Qk Qb x3.Name true l1_6))))))
    (cond (QP x3.Name [110,101,117,116,114,97,108]&&true)
     ((QE n [1,2] false yI.N).bind fun r13 =>
     cond (!r13)
      (some (.error ((9,x3.At),l1_2,l1_3,l1_4,l1_5,l1_6)))
      (cond (QB Qb x3.Name false l1_6)
       (some (.error ((5,x3.At),l1_2,l1_3,l1_4,l1_5,l1_6)))
       ((Zu n x3 [(⟨1,1000⟩:ZA)]).bind (Rk (fun r14 =>
        (Q8 r14 0).bind fun x16 =>
        QH l1_1 recl1 (⟨l1_2.Name,l1_2.Up,l1_2.Limit,x16,l1_2.Fuse,l1_2.Cable⟩:ZJ) l1_3 l1_4 l1_5 (Qk Qb x3.Name true l1_6)) fun e15=>some (.error ((e15.1,e15.2),l1_2,l1_3,l1_4,l1_5,Qk Qb x3.Name true l1_6))))))
     (cond (QP x3.Name [102,117,115,101]&&true)
      ((QE n [1,2] true yI.N).bind fun r19 =>
      cond (!r19)
       (some (.error ((9,x3.At),l1_2,l1_3,l1_4,l1_5,l1_6)))
       (cond (QB Qb x3.Name false l1_6)
        (some (.error ((5,x3.At),l1_2,l1_3,l1_4,l1_5,l1_6)))
        ((Zu n x3 [(⟨1,1000⟩:ZA),(⟨0,1000000⟩:ZA)]).bind (Rk (fun r20 =>
         (Q8 r20 0).bind fun x22 =>
         (Q8 r20 1).bind fun x23 =>
         QH l1_1 recl1 (⟨l1_2.Name,l1_2.Up,l1_2.Limit,l1_2.Neutral,(⟨x22,x23⟩:Rw),l1_2.Cable⟩:ZJ) l1_3 l1_4 l1_5 (Qk Qb x3.Name true l1_6)) fun e21=>some (.error ((e21.1,e21.2),l1_2,l1_3,l1_4,l1_5,Qk Qb x3.Name true l1_6))))))
      (cond (QP x3.Name [116,104,101,114,109,97,108]&&true)
       ((QE n [1,2] true yI.N).bind fun r25 =>
       cond (!r25)
        (some (.error ((9,x3.At),l1_2,l1_3,l1_4,l1_5,l1_6)))
        (cond (QB Qb x3.Name false l1_6)
         (some (.error ((5,x3.At),l1_2,l1_3,l1_4,l1_5,l1_6)))
         ((Zu n x3 [(⟨0,200000⟩:ZA),(⟨0,200000⟩:ZA),(⟨0,1000⟩:ZA),(⟨0,1000⟩:ZA),(⟨1,1000000⟩:ZA)]).bind (Rk (fun r26 =>
          (Q8 r26 0).bind fun x28 =>
          (Q8 r26 1).bind fun x29 =>
          (Q8 r26 2).bind fun x30 =>
          (Q8 r26 3).bind fun x31 =>
          (Q8 r26 4).bind fun x32 =>
          QH l1_1 recl1 (⟨l1_2.Name,l1_2.Up,l1_2.Limit,l1_2.Neutral,l1_2.Fuse,(⟨x28,x29,x30,x31,x32⟩:J4)⟩:ZJ) l1_3 l1_4 l1_5 (Qk Qb x3.Name true l1_6)) fun e27=>some (.error ((e27.1,e27.2),l1_2,l1_3,l1_4,l1_5,Qk Qb x3.Name true l1_6))))))
       (cond (QP x3.Name [102,114,111,109]&&true)
        ((QE n [2] false yI.N).bind fun r35 =>
        cond (!r35)
         (some (.error ((9,x3.At),l1_2,l1_3,l1_4,l1_5,l1_6)))
         (cond (QB Qb x3.Name false l1_6)
          (some (.error ((5,x3.At),l1_2,l1_3,l1_4,l1_5,l1_6)))
          ((UT n x3 yI l1_2 l1_3 l1_4 l1_5 yS yF yD h7_m h8_m (Qk Qb x3.Name true l1_6)).bind (Rk (fun r36 =>
           QH l1_1 recl1 (⟨l1_2.Name,r36,l1_2.Limit,l1_2.Neutral,l1_2.Fuse,l1_2.Cable⟩:ZJ) l1_3 l1_4 l1_5 (Qk Qb x3.Name true l1_6)) fun e37=>some (.error ((e37.1,e37.2),l1_2,l1_3,l1_4,l1_5,Qk Qb x3.Name true l1_6))))))
        (cond (QP x3.Name [111,119,110,101,114]&&true)
         ((QE n [4,5] false yI.N).bind fun r39 =>
         cond (!r39)
          (some (.error ((9,x3.At),l1_2,l1_3,l1_4,l1_5,l1_6)))
          (cond (QB Qb x3.Name false l1_6)
           (some (.error ((5,x3.At),l1_2,l1_3,l1_4,l1_5,l1_6)))
           ((Ui n x3 yI l1_2 l1_3 l1_4 l1_5 yS yF yD h7_m h8_m (Qk Qb x3.Name true l1_6)).bind (Rk (fun r40 =>
            QH l1_1 recl1 l1_2 (⟨l1_3.Name,r40,l1_3.Rank,l1_3.Card⟩:ZT) (⟨l1_4.Name,l1_4.At,l1_4.Phases,l1_4.Min,l1_4.Max,l1_4.Step,l1_4.Fallback,r40⟩:ZY) l1_5 (Qk Qb x3.Name true l1_6)) fun e41=>some (.error ((e41.1,e41.2),l1_2,l1_3,l1_4,l1_5,Qk Qb x3.Name true l1_6))))))
         (cond (QP x3.Name [114,97,110,107]&&true)
          ((QE n [4] false yI.N).bind fun r43 =>
          cond (!r43)
           (some (.error ((9,x3.At),l1_2,l1_3,l1_4,l1_5,l1_6)))
           (cond (QB Qb x3.Name false l1_6)
            (some (.error ((5,x3.At),l1_2,l1_3,l1_4,l1_5,l1_6)))
            ((Zu n x3 [(⟨1,9⟩:ZA)]).bind (Rk (fun r44 =>
             (Q8 r44 0).bind fun x46 =>
             QH l1_1 recl1 l1_2 (⟨l1_3.Name,l1_3.Owner,x46,l1_3.Card⟩:ZT) l1_4 l1_5 (Qk Qb x3.Name true l1_6)) fun e45=>some (.error ((e45.1,e45.2),l1_2,l1_3,l1_4,l1_5,Qk Qb x3.Name true l1_6))))))
          (cond (QP x3.Name [99,97,114,100]&&true)
           ((QE n [4] false yI.N).bind fun r48 =>
           cond (!r48)
            (some (.error ((9,x3.At),l1_2,l1_3,l1_4,l1_5,l1_6)))
            (cond (QB Qb x3.Name false l1_6)
             (some (.error ((5,x3.At),l1_2,l1_3,l1_4,l1_5,l1_6)))
             ((Zu n x3 [(⟨1,1000000⟩:ZA)]).bind (Rk (fun r49 =>
              (Q8 r49 0).bind fun x51 =>
              QZ (fun recl52 l52=>Ja yS l1_1 l1_2 l1_3 l1_4 l1_5 l1_6 recl1 x3 x51 recl52 l52) n 0) fun e50=>some (.error ((e50.1,e50.2),l1_2,l1_3,l1_4,l1_5,Qk Qb x3.Name true l1_6))))))
           (cond (QP x3.Name [97,116]&&true)
            ((QE n [5] false yI.N).bind fun r55 =>
            cond (!r55)
             (some (.error ((9,x3.At),l1_2,l1_3,l1_4,l1_5,l1_6)))
             (cond (QB Qb x3.Name false l1_6)
              (some (.error ((5,x3.At),l1_2,l1_3,l1_4,l1_5,l1_6)))
              ((UT n x3 yI l1_2 l1_3 l1_4 l1_5 yS yF yD h7_m h8_m (Qk Qb x3.Name true l1_6)).bind (Rk (fun r56 =>
               QH l1_1 recl1 l1_2 l1_3 (⟨l1_4.Name,r56,l1_4.Phases,l1_4.Min,l1_4.Max,l1_4.Step,l1_4.Fallback,l1_4.Owner⟩:ZY) l1_5 (Qk Qb x3.Name true l1_6)) fun e57=>some (.error ((e57.1,e57.2),l1_2,l1_3,l1_4,l1_5,Qk Qb x3.Name true l1_6))))))
            (cond (QP x3.Name [112,104,97,115,101,115]&&true)
             ((QE n [5] false yI.N).bind fun r59 =>
             cond (!r59)
              (some (.error ((9,x3.At),l1_2,l1_3,l1_4,l1_5,l1_6)))
              (cond (QB Qb x3.Name false l1_6)
               (some (.error ((5,x3.At),l1_2,l1_3,l1_4,l1_5,l1_6)))
               ((JJ n x3).bind (Rk (fun r60 =>
                QH l1_1 recl1 l1_2 l1_3 (⟨l1_4.Name,l1_4.At,r60,l1_4.Min,l1_4.Max,l1_4.Step,l1_4.Fallback,l1_4.Owner⟩:ZY) l1_5 (Qk Qb x3.Name true l1_6)) fun e61=>some (.error ((e61.1,e61.2),l1_2,l1_3,l1_4,l1_5,Qk Qb x3.Name true l1_6))))))
             (cond (QP x3.Name [97,109,112,115]&&true)
              ((QE n [5] false yI.N).bind fun r64 =>
              cond (!r64)
               (some (.error ((9,x3.At),l1_2,l1_3,l1_4,l1_5,l1_6)))
               (cond (QB Qb x3.Name false l1_6)
                (some (.error ((5,x3.At),l1_2,l1_3,l1_4,l1_5,l1_6)))
                ((Zu n x3 [(⟨1,80⟩:ZA),(⟨1,80⟩:ZA),(⟨1,80⟩:ZA)]).bind (Rk (fun r65 =>
                 (Q8 r65 0).bind fun x67 =>
                 (Q8 r65 1).bind fun x68 =>
                 (Q8 r65 2).bind fun x69 =>
                 QH l1_1 recl1 l1_2 l1_3 (⟨l1_4.Name,l1_4.At,l1_4.Phases,x67,x68,x69,l1_4.Fallback,l1_4.Owner⟩:ZY) l1_5 (Qk Qb x3.Name true l1_6)) fun e66=>some (.error ((e66.1,e66.2),l1_2,l1_3,l1_4,l1_5,Qk Qb x3.Name true l1_6))))))
              (cond (QP x3.Name [102,97,108,108,98,97,99,107]&&true)
               ((QE n [5] false yI.N).bind fun r71 =>
               cond (!r71)
                (some (.error ((9,x3.At),l1_2,l1_3,l1_4,l1_5,l1_6)))
                (cond (QB Qb x3.Name false l1_6)
                 (some (.error ((5,x3.At),l1_2,l1_3,l1_4,l1_5,l1_6)))
                 ((Zu n x3 [(⟨0,80⟩:ZA)]).bind (Rk (fun r72 =>
                  (Q8 r72 0).bind fun x74 =>
                  QH l1_1 recl1 l1_2 l1_3 (⟨l1_4.Name,l1_4.At,l1_4.Phases,l1_4.Min,l1_4.Max,l1_4.Step,x74,l1_4.Owner⟩:ZY) l1_5 (Qk Qb x3.Name true l1_6)) fun e73=>some (.error ((e73.1,e73.2),l1_2,l1_3,l1_4,l1_5,Qk Qb x3.Name true l1_6))))))
               (cond (QP x3.Name [99,104,97,114,103,101,114]&&true)
                ((QE n [6] false yI.N).bind fun r76 =>
                cond (!r76)
                 (some (.error ((9,x3.At),l1_2,l1_3,l1_4,l1_5,l1_6)))
                 (cond (QB Qb x3.Name false l1_6)
                  (some (.error ((5,x3.At),l1_2,l1_3,l1_4,l1_5,l1_6)))
                  ((Uj n x3 yI l1_2 l1_3 l1_4 l1_5 yS yF yD h7_m h8_m (Qk Qb x3.Name true l1_6)).bind (Rk (fun r77 =>
                   QH l1_1 recl1 l1_2 l1_3 l1_4 (⟨l1_5.Name,r77⟩:Zi) (Qk Qb x3.Name true l1_6)) fun e78=>some (.error ((e78.1,e78.2),l1_2,l1_3,l1_4,l1_5,Qk Qb x3.Name true l1_6))))))
                (some (.error ((9,x3.At),l1_2,l1_3,l1_4,l1_5,l1_6)))))))))))))))))
  (some (.ok (l1_2,l1_3,l1_4,l1_5,l1_6)))
def Ho (n:Nat) (yI:GN) (yC:ZJ) (yK:ZT) (yG:ZY) (yB:Zi) (yS:Qm) (yF:Bool) (yD:List ZX) (h7_m:List ((List UInt8) × Bool)) (h8_m:List ((List UInt8) × Kt)) (h10_m:List ((List UInt8) × Bool)):Option O3 :=
 QZ (fun recl1 (l1_1,l1_2,l1_3,l1_4,l1_5,l1_6)=>JK n yI yS yF yD h7_m h8_m recl1 l1_1 l1_2 l1_3 l1_4 l1_5 l1_6) n (0,yC,yK,yG,yB,h10_m)
def MP (yI:GN) (yC:ZJ) (yK:ZT) (yG:ZY) (yB:Zi) (yS:Qm) (yF:Bool) (yD:List ZX) (h7_m:List ((List UInt8) × Bool)) (h8_m:List ((List UInt8) × Kt)) (h10_m:List ((List UInt8) × Bool)):List (Nat × Blk):=[(1000, .box 108 ([.ptr 1001 0]++Ya (GN.cs yI)++[.mv 1010]++Ya (ZJ.cs yC)++Ya (ZT.cs yK)++Ya (ZY.cs yG)++[S yB.Name,I yB.Charger]))]++QL yS yF yD h7_m h8_m++[(1010, .mp (JD QT QU h10_m))]++Zk
def Qcy:=fun x0 x1=>([(0, .ptr 1000 0),(1, .mv 1011),(12, .p (.sl 5 (List.map KP (GN.Kids x0)))),(13,I (Qc (List.map KP (GN.Kids x0)))),(14,I x1)]:List (Nat × AV))
def Qa5:=fun x0 x1 x2 x3 x4=>(.box 108 ([.ptr 1001 0]++Ya (GN.cs x0)++[.mv 1010]++Ya (ZJ.cs x1)++Ya (ZT.cs x2)++Ya (ZY.cs x3)++[S (Zi.Name x4),I (Zi.Charger x4)]):Blk)
def Ky:=fun x0 x1 x2 x3 x4=>([(1000,(Qa5 x0 x1 x2 x3 x4))]:List (Nat × Blk))
def KO:=fun x0=>([(1010, .mp (JD QT QU x0))]:List (Nat × Blk))
def dP:=fun x0 x1 x2 x3 x4 x5 x6 x7 x8 x9 x10 x11=>(⟨Qcy x0 x1,Ky x0 x2 x3 x4 x5++QL x6 x7 x8 x9 x10++KO x11++Zk⟩:St)
def Qa6:=fun x0 x1=>([(0, .ptr 1000 0),(1, .mv 1011),(5, .ptr 5 0),(12, .p (.sl 5 (List.map KP (GN.Kids x0)))),(13,I (Qc (List.map KP (GN.Kids x0)))),(14,I x1)]:List (Nat × AV))
def ax:=fun x0=>([(5, .box 24 (Ya (GN.cs x0)))]:List (Nat × Blk))
def Ai:=fun x0 x1 x2=>([(0, .ptr 1000 0),(1, .mv 1011),(5, .ptr 5 0),(6, .ptr 6 0),(7,B x0),(12, .p (.sl 5 (List.map KP (GN.Kids x1)))),(13,I (Qc (List.map KP (GN.Kids x1)))),(14,I x2)]:List (Nat × AV))
def Qa7:=fun x0 x1=>(.box 111 [.tsl 1 (List.map ci [1,2]) 1012,B x0, .fn x1 [] [.ptr 1013 0]]:Blk)
def dQ:=fun x0 x1 x2=>([(5, .box 24 (Ya (GN.cs x0))),(6,(Qa7 x1 x2))]:List (Nat × Blk))
def ay:=fun x0 x1 x2 x3 x4 x5 x6 x7 x8 x9 x10 x11 x12 x13 x14=>(⟨Ai true x0 x1,dQ x2 x3 x4++Ky x0 x5 x6 x7 x8++QL x9 x10 x11 x12 x13++KO x14++Zk⟩:St)
def Aj:=fun x0 x1 x2=>([(0, .ptr 1000 0),(1, .mv 1011),(5, .ptr 5 0),(6, .ptr 6 0),(12, .p (.sl 5 (List.map KP (GN.Kids x0)))),(13,I (Qc (List.map KP (GN.Kids x0)))),(14,I x1),(39,B x2)]:List (Nat × AV))
def az:=fun x0 x1 x2 x3 x4 x5 x6 x7 x8 x9 x10 x11 x12 x13 x14 x15=>(⟨Aj x0 x1 x2,dQ x3 x4 x5++Ky x0 x6 x7 x8 x9++QL x10 x11 x12 x13 x14++KO x15++Zk⟩:St)
def OW:=fun x0 x1=>([(0, .ptr 1000 0),(1, .mv 1011),(5, .ptr 5 0),(6, .ptr 6 0),(12, .p (.sl 5 (List.map KP (GN.Kids x0)))),(13,I (Qc (List.map KP (GN.Kids x0)))),(14,I x1)]:List (Nat × AV))
def OX:=fun x0 x1 x2 x3 x4 x5 x6 x7 x8 x9 x10 x11 x12 x13 x14=>(⟨OW x0 x1,dQ x2 x3 x4++Ky x0 x5 x6 x7 x8++QL x9 x10 x11 x12 x13++KO x14++Zk⟩:St)
def OY:=fun x0 x1 x2=>([(0, .ptr 1000 0),(1, .mv 1011),(5, .ptr 5 0),(6, .ptr 6 0),(12, .p (.sl 5 (List.map KP (GN.Kids x0)))),(13,I (Qc (List.map KP (GN.Kids x0)))),(14,I x1),(48,B x2)]:List (Nat × AV))
def aA:=fun x0 x1 x2 x3 x4 x5 x6 x7 x8 x9 x10 x11 x12 x13 x14 x15=>(⟨OY x0 x1 x2,dQ x3 x4 x5++Ky x0 x6 x7 x8 x9++QL x10 x11 x12 x13 x14++KO x15++Zk⟩:St)
def y5:=fun x0 x1=>([(1010, .mp (JD QT QU x0)),(1011, .box 103 [I 1,I x1])]:List (Nat × Blk))
def nq6:List (Nat × Nat):=[(1000,1000),(1001,1001),(1002,1002),(1003,1003),(1004,1004),(1005,1005),(1006,1006),(1007,1007),(1008,1008),(1009,1009),(1010,1010),(1011,1013)]
def QcA:List (Nat × AV):=[(0, .ptr 1000 0),(2, .ptr 1011 0),(4, .ptr 4 0)]
def dR:=fun x0 x1 x2 x3 x4 x5 x6 x7 x8 x9 x10 x11 x12=>(⟨QcA,Hy x0++Ky x1 x2 x3 x4 x5++QL x6 x7 x8 x9 x10++y5 x11 x12⟩:St)
def Qa8:=fun x0=>([(0, .ptr 1000 0),(5, .p (.sl 1 (List.map ci x0)))]:List (Nat × AV))
def Qa9:Blk:=.box 111 [.tsl 1 (List.map ci [1,2]) 1012,B true, .p (.val (.func (.func 81) #[] #[]))]
def dS:=fun x0=>([(5, .box 24 (Ya (GN.cs x0))),(6,Qa9)]:List (Nat × Blk))
def aB:=fun x0 x1 x2 x3 x4 x5 x6 x7 x8 x9 x10 x11 x12=>(⟨OW x0 x1,dS x2++Ky x0 x3 x4 x5 x6++QL x7 x8 x9 x10 x11++KO x12++Zk⟩:St)
def sI:List (Nat × Nat):=[(1000,1000),(1001,1001),(1002,1002),(1003,1003),(1004,1004),(1005,1005),(1006,1006),(1007,1007),(1008,1008),(1009,1009),(1010,1010)]
def zP:=fun x0 x1 x2 x3 x4 x5 x6 x7 x8 x9 x10 x11=>(⟨[(0, .ptr 1000 0),(3, .ptr 3 0)],WL x0++Ky x1 x2 x3 x4 x5++QL x6 x7 x8 x9 x10++KO x11⟩:St)
def Qba:Blk:=.box 111 [.tsl 1 (List.map ci [2]) 1014,B false, .fn (.func 82) [] [.ptr 1015 0]]
def dU:=fun x0=>([(5, .box 24 (Ya (GN.cs x0))),(6,Qba)]:List (Nat × Blk))
def aC:=fun x0 x1 x2 x3 x4 x5 x6 x7 x8 x9 x10 x11 x12=>(⟨OW x0 x1,dU x2++Ky x0 x3 x4 x5 x6++QL x7 x8 x9 x10 x11++KO x12++Zk⟩:St)
def Qbb:Blk:=.box 104 [.tsl 1 (List.map ci [1,2]) 1011]
def Qbc:=fun x0=>([(1010, .mp (JD QT QU x0)),(1011, .arr 3 1 (List.map ci [1,2]).length),(1012,Qbb)]:List (Nat × Blk))
def Qbd:Blk:=.box 111 [.tsl 1 (List.map ci [4,5]) 1016,B false, .p (.val (.func (.func 44) #[] #[]))]
def dV:=fun x0=>([(5, .box 24 (Ya (GN.cs x0))),(6,Qbd)]:List (Nat × Blk))
def aD:=fun x0 x1 x2 x3 x4 x5 x6 x7 x8 x9 x10 x11 x12=>(⟨OW x0 x1,dV x2++Ky x0 x3 x4 x5 x6++QL x7 x8 x9 x10 x11++KO x12++Zk⟩:St)
def nq8:List (Nat × Nat):=[(1000,1000),(1001,1001),(1002,1002),(1003,1003),(1004,1004),(1005,1005),(1006,1006),(1007,1007),(1008,1008),(1009,1009),(1010,1010),(1011,7)]
def Qbe:Blk:=.box 111 [.tsl 1 (List.map ci [4]) 1017,B false, .p (.val (.func (.func 46) #[] #[]))]
def dW:=fun x0=>([(5, .box 24 (Ya (GN.cs x0))),(6,Qbe)]:List (Nat × Blk))
def aF:=fun x0 x1 x2 x3 x4 x5 x6 x7 x8 x9 x10 x11 x12=>(⟨OW x0 x1,dW x2++Ky x0 x3 x4 x5 x6++QL x7 x8 x9 x10 x11++KO x12++Zk⟩:St)
def Qbf:Blk:=.box 111 [.tsl 1 (List.map ci [4]) 1018,B false, .p (.val (.func (.func 48) #[] #[]))]
def dX:=fun x0=>([(5, .box 24 (Ya (GN.cs x0))),(6,Qbf)]:List (Nat × Blk))
def aG:=fun x0 x1 x2 x3 x4 x5 x6 x7 x8 x9 x10 x11 x12=>(⟨OW x0 x1,dX x2++Ky x0 x3 x4 x5 x6++QL x7 x8 x9 x10 x11++KO x12++Zk⟩:St)
def QcC:=fun x0 x1 x2 x3 x4 x5=>(.box 108 ([.ptr 1001 0]++Ya (GN.cs x0)++[.mv 1010]++Ya (ZJ.cs x1)++[S (ZT.Name x2),I (ZT.Owner x2),I (ZT.Rank x2),I x3]++Ya (ZY.cs x4)++[S (Zi.Name x5),I (Zi.Charger x5)]):Blk)
def mR:=fun x0 x1 x2 x3 x4 x5=>([(1000,(QcC x0 x1 x2 x3 x4 x5))]:List (Nat × Blk))
def QcD:=fun x0 x1=>([(0, .ptr 1000 0),(3, .ptr 3 0),(23, .tsl 4 (List.map ZT.cs (Qm.Contracts x0)) 1004),(24,I (Qc (List.map ZT.cs (Qm.Contracts x0)))),(25,I x1)]:List (Nat × AV))
def dY:=fun x0 x1 x2 x3 x4 x5 x6 x7 x8 x9 x10 x11 x12 x13=>(⟨QcD x0 x1,WL x2++mR x3 x4 x5 x6 x7 x8++QL x0 x9 x10 x11 x12++KO x13⟩:St)
def Qbg:=fun x0=>(.box 111 [.tsl 1 (List.map ci [5]) 1019,B false, .p (.val x0)]:Blk)
def dZ:=fun x0 x1=>([(5, .box 24 (Ya (GN.cs x0))),(6,(Qbg x1))]:List (Nat × Blk))
def aH:=fun x0 x1 x2 x3 x4 x5 x6 x7 x8 x9 x10 x11 x12 x13=>(⟨Ai true x0 x1,dZ x2 x3++Ky x0 x4 x5 x6 x7++QL x8 x9 x10 x11 x12++KO x13++Zk⟩:St)
def aI:=fun x0 x1 x2 x3 x4 x5 x6 x7 x8 x9 x10 x11 x12 x13 x14=>(⟨Aj x0 x1 x2,dZ x3 x4++Ky x0 x5 x6 x7 x8++QL x9 x10 x11 x12 x13++KO x14++Zk⟩:St)
def OZ:=fun x0 x1 x2 x3 x4 x5 x6 x7 x8 x9 x10 x11 x12 x13=>(⟨OW x0 x1,dZ x2 x3++Ky x0 x4 x5 x6 x7++QL x8 x9 x10 x11 x12++KO x13++Zk⟩:St)
def aJ:=fun x0 x1 x2 x3 x4 x5 x6 x7 x8 x9 x10 x11 x12 x13 x14=>(⟨OY x0 x1 x2,dZ x3 x4++Ky x0 x5 x6 x7 x8++QL x9 x10 x11 x12 x13++KO x14++Zk⟩:St)
def Qbh:Blk:=.box 111 [.tsl 1 (List.map ci [5]) 1019,B false, .fn (.func 53) [] [.ptr 1020 0]]
def d9:=fun x0=>([(5, .box 24 (Ya (GN.cs x0))),(6,Qbh)]:List (Nat × Blk))
def aK:=fun x0 x1 x2 x3 x4 x5 x6 x7 x8 x9 x10 x11 x12=>(⟨OW x0 x1,d9 x2++Ky x0 x3 x4 x5 x6++QL x7 x8 x9 x10 x11++KO x12++Zk⟩:St)
def Qbi:=fun x0=>([(5, .box 24 (Ya (GN.cs x0))),(6, .box 111 [.p (.val (.slice none 0 0)),B false, .p (.val (.nilFunc))])]:List (Nat × Blk))
def Qbj:Blk:=.box 111 [.tsl 1 (List.map ci [6]) 1021,B false, .p (.val (.func (.func 55) #[] #[]))]
def cu:=fun x0=>([(5, .box 24 (Ya (GN.cs x0))),(6,Qbj)]:List (Nat × Blk))
def aL:=fun x0 x1 x2 x3 x4 x5 x6 x7 x8 x9 x10 x11 x12=>(⟨OW x0 x1,cu x2++Ky x0 x3 x4 x5 x6++QL x7 x8 x9 x10 x11++KO x12++Zk⟩:St)
abbrev mU (x:ZT):Go.Abs.Blk:=.box 54 (Ya (ZT.cs x))
theorem Ak (n:Nat) (yI:GN) (yC:ZJ) (yK:ZT) (yG:ZY) (yB:Zi) (yS:Qm) (yF:Bool) (yD:List ZX) (h7_m:List ((List UInt8) × Bool)) (h8_m:List ((List UInt8) × Kt)) (h10_m:List ((List UInt8) × Bool)):∀ r,Ho n yI yC yK yG yB yS yF yD h7_m h8_m h10_m=some r→WF Tryz.prog 58 [YR, .mv 1011] (Go.Abs.look (MP yI yC yK yG yB yS yF yD h7_m h8_m h10_m)) (Xo (CL (fun r:ZJ × ZT × ZY × Zi × (List ((List UInt8) × Bool))=>((.ret (.tup []),MP yI r.1 r.2.1 r.2.2.1 r.2.2.2.1 yS yF yD h7_m h8_m r.2.2.2.2):QX × List (Nat × Blk))) (fun e:(Int × Int) × ZJ × ZT × ZY × Zi × (List ((List UInt8) × Bool))=>((.panic (.ifc 116 (.agg [I e.1.1,I e.1.2])),MP yI e.2.1 e.2.2.1 e.2.2.2.1 e.2.2.2.2.1 yS yF yD h7_m h8_m e.2.2.2.2.2):QX × List (Nat × Blk)))) r):=by
 refine Y3 (X:=CL (fun r:ZJ × ZT × ZY × Zi × (List ((List UInt8) × Bool))=>((.ret (.tup []),MP yI r.1 r.2.1 r.2.2.1 r.2.2.2.1 yS yF yD h7_m h8_m r.2.2.2.2):QX × List (Nat × Blk))) (fun e:(Int × Int) × ZJ × ZT × ZY × Zi × (List ((List UInt8) × Bool))=>((.panic (.ifc 116 (.agg [I e.1.1,I e.1.2])),MP yI e.2.1 e.2.2.1 e.2.2.2.1 e.2.2.2.2.1 yS yF yD h7_m h8_m e.2.2.2.2.2):QX × List (Nat × Blk)))) (MP yI yC yK yG yB yS yF yD h7_m h8_m h10_m) Tryz.func58 rfl Tryz.ntmps58 rfl ?_
 unfold Ho
 refine Qg Qd (dP yI 0 yC yK yG yB yS yF yD h7_m h8_m h10_m) Qa (sB (QI (fun (l1_1,l1_2,l1_3,l1_4,l1_5,l1_6)=>(dP yI l1_1 l1_2 l1_3 l1_4 l1_5 yS yF yD h7_m h8_m l1_6):ty6→St) (Xg Qa) ?_))
 rintro recl1 ⟨l1_1,l1_2,l1_3,l1_4,l1_5,l1_6⟩
 show QV (JK n yI yS yF yD h7_m h8_m recl1 l1_1 l1_2 l1_3 l1_4 l1_5 l1_6) _ _ _ _ _ _
 unfold JK
 refine Qg Qd ⟨[(0,YR),(1, .mv 1011),(12, .p (.sl 5 (mI yI.Kids))),(13,I (Qc (mI yI.Kids))),(14,I l1_1),(15,B (QO l1_1 (Qc (mI yI.Kids))))],Ky yI l1_2 l1_3 l1_4 l1_5++QL yS yF yD h7_m h8_m++KO l1_6++Zk⟩ Qa (sS (sC (QO l1_1 (Qc (mI yI.Kids))) Qa ?_ ?_))
 rotate_left
 ·refine Qz (ZW (KM (QW ?_)))
  exact Qam (.id) ZC [] Qa Qa Qa Qa
 refine sK (Qp (dP yI l1_1 l1_2 l1_3 l1_4 l1_5 yS yF yD h7_m h8_m l1_6) Qa (ZR (fun (j2_1,j2_2,j2_3,j2_4,j2_5)=>(dP yI l1_1 j2_1 j2_2 j2_3 j2_4 yS yF yD h7_m h8_m j2_5):(ZJ × ZT × ZY × Zi × (List ((List UInt8) × Bool)))→St) (fun (j2_1,j2_2,j2_3,j2_4,j2_5)=>QH l1_1 recl1 j2_1 j2_2 j2_3 j2_4 j2_5) ?_ ?_))
 ·rintro ⟨j2_1,j2_2,j2_3,j2_4,j2_5⟩
  show QV (QH l1_1 recl1 j2_1 j2_2 j2_3 j2_4 j2_5) _ _ _ _ _ _
  unfold QH
  refine sL Qd Qa ?_
  exact KQ (wi (l1_1+1),j2_1,j2_2,j2_3,j2_4,j2_5) Qa
 refine sB (sS (sG ?_))
 refine xG Qa Qa (Yc (e:=24) (S:=5) (enc:=GN.cs) (dec:=GN.of) (l:=yI.Kids) (k:=.i64) (n:=l1_1) (sv:=.p (.sl 5 (mI yI.Kids))) GN.of_cs rfl Qa Qa Qa Qa Qa) (fun x3=>?_)
 refine xR 3 Qa (xE (Qp ⟨Qa6 yI l1_1,ax x3++Ky yI l1_2 l1_3 l1_4 l1_5++QL yS yF yD h7_m h8_m++KO l1_6++Zk⟩ Qa (sS (Qg Qd ⟨[(0,YR),(1, .mv 1011),qq 5,(12, .p (.sl 5 (mI yI.Kids))),(13,I (Qc (mI yI.Kids))),(14,I l1_1),(20,B (!Qi x3.Kind 3))],ax x3++Ky yI l1_2 l1_3 l1_4 l1_5++QL yS yF yD h7_m h8_m++KO l1_6++Zk⟩ Qa (sC (!Qi x3.Kind 3) Qa ?_ ?_)))))
 ·refine Qz (ZW (QW ?_))
  exact KQ (k:=fun (j2_1,j2_2,j2_3,j2_4,j2_5)=>QH l1_1 recl1 j2_1 j2_2 j2_3 j2_4 j2_5) (l1_2,l1_3,l1_4,l1_5,l1_6) Qa
 refine sK (Qp ⟨Qa6 yI l1_1,ax x3++Ky yI l1_2 l1_3 l1_4 l1_5++QL yS yF yD h7_m h8_m++KO l1_6++Zk⟩ Qa (sS (sG (xR 3 Qa ?_))))
 refine xS (QP x3.Name [108,105,109,105,116]&&true) (fun h5=>?_) (fun h5=>?_)
 ·refine ZH Qa Qa (Jo (kt:=9) (e:=111) (b:=1011) (w:=x3.Name) (ok:=true) (es:=(UH 1012 1013 1014 1015 1016 1017 1018 1019 1020 1021)) (v:=.agg [.tsl 1 (List.map ci [1,2]) 1012,B false, .fn (.func 78) [] [.ptr 1013 0]]) rfl Qa Qa Qa Qa Qa (Jn h5)) (xR 6 Qa (xE (Qp (ay yI l1_1 x3 false (.func 78) l1_2 l1_3 l1_4 l1_5 yS yF yD h7_m h8_m l1_6) Qa (sS (sS (Vq Qd rfl (xR 9 Qa ?_)))))))
  refine FN rfl Qa Qa (Yb (f:=83) (args:=[.agg [.tsl 1 (List.map ci [1,2]) 1012,B false, .fn (.func 78) [] [.ptr 1013 0]],I yI.N]) Qa Qa Qa ?_)
  refine ET 2 rfl (fun hw6=>?_)
  refine CF [.agg [.sl 1, .id, .id], .id] (QD n [1,2] false yI.N hw6) Qa Qa QS (fun r7=>?_)
  refine WQ (xR 2 Qa (xE (Qp (az yI l1_1 (!r7) x3 false (.func 78) l1_2 l1_3 l1_4 l1_5 yS yF yD h7_m h8_m l1_6) Qa (sC (!r7) Qa ?_ ?_))))
  ·refine sG (xR 1 Qa (Vo [] [I 9, .agg [I x3.Kind,S x3.Name,I x3.N,I x3.At, .p (.sl 5 (mI x3.Kids))]] [] [] [] Qa Tryz.func49 rfl Tryz.ntmps49 rfl Qa Qa Qa (Qg Qd ⟨[(0,I 9),qq 3],WL x3⟩ Qa (sG (xR 6 Qa (XM 116 (.agg [I 9,I x3.At]) Qa rfl Qa (ZN [] [] Qa ?_)))))))
   refine Z8 (Ze (Zl (Zl (Ze ?_))))
   exact Kn ZC [] Qa Qa Qa
  refine sK (Qp (OX yI l1_1 x3 false (.func 78) l1_2 l1_3 l1_4 l1_5 yS yF yD h7_m h8_m l1_6) Qa (sS (sS (Vq Qd rfl (xR 6 Qa ?_)))))
  refine ZH Qa Qa (Zt (kt:=9) (e:=4) (ke:=QT) (ve:=QU) (eq:=Qb) (b:=1010) (m:=l1_6) (k:=x3.Name) (z0:=false) rfl Qa Qa Qa Qa Qa QS (fun _ _=>Q0 rfl _ _) Qa) ?_
  refine YB Qa (Qp (aA yI l1_1 (QB Qb x3.Name false l1_6) x3 false (.func 78) l1_2 l1_3 l1_4 l1_5 yS yF yD h7_m h8_m l1_6) Qa (sC (QB Qb x3.Name false l1_6) Qa ?_ ?_))
  ·refine sG (xR 1 Qa (Vo [] [I 5, .agg [I x3.Kind,S x3.Name,I x3.N,I x3.At, .p (.sl 5 (mI x3.Kids))]] [] [] [] Qa Tryz.func49 rfl Tryz.ntmps49 rfl Qa Qa Qa (Qg Qd ⟨[(0,I 5),qq 3],WL x3⟩ Qa (sG (xR 6 Qa (XM 116 (.agg [I 5,I x3.At]) Qa rfl Qa (ZN [] [] Qa ?_)))))))
   refine Z8 (Ze (Zl (Zl (Ze ?_))))
   exact Kn ZC [] Qa Qa Qa
  refine sK (Qp (OX yI l1_1 x3 false (.func 78) l1_2 l1_3 l1_4 l1_5 yS yF yD h7_m h8_m l1_6) Qa (sS (Vq Qd rfl (xR 6 Qa ?_))))
  refine ZH Qa Qa (Yd (kt:=9) (e:=4) (ke:=QT) (ve:=QU) (eq:=Qb) (b:=1010) (m:=l1_6) (k:=x3.Name) (v:=true) rfl Qa Qa Qa Qa Qa Qa QS (fun _ _=>Q0 rfl _ _)) ?_
  refine YB Qa (Qp (OX yI l1_1 x3 false (.func 78) l1_2 l1_3 l1_4 l1_5 yS yF yD h7_m h8_m (Qk Qb x3.Name true l1_6)) Qa (sG (xR 4 Qa (Vo ((Ky yI l1_2 l1_3 l1_4 l1_5)++QL yS yF yD h7_m h8_m++(y5 (Qk Qb x3.Name true l1_6) 1000)) [YR, .agg [I x3.Kind,S x3.Name,I x3.N,I x3.At, .p (.sl 5 (mI x3.Kids))], .ptr 1011 0] nq6 [] [] Qa Tryz.func78 rfl Tryz.ntmps78 rfl Qa Qa Qa (Qg Qd (dR x3 yI l1_2 l1_3 l1_4 l1_5 yS yF yD h7_m h8_m (Qk Qb x3.Name true l1_6) 1000) Qa (sG (xR 4 Qa ?_)))))))
  refine Gp [.id, .sl 2] Qa (ZV n x3 [(⟨1,1000⟩:ZA)]) Qa Qa QS QS (fun r8=>?_) (fun e9=>?_)
  ·refine xG Qa Qa (QN (e:=3) (S:=1) (enc:=ci) (l:=r8) (k:=.i64) (n:=0) (sv:=.p (.sl 1 (List.map ci r8))) rfl Qa Qa Qa Qa Qa) (fun x10=>?_)
   refine xR 5 Qa (xE (Hw (.id) [1000,1001,1002,1003,1004,1005,1006,1007,1008,1009,1010,1011] [] (.tup []) Qa Qa (WQ (xE (Q6 ?_)))))
   exact KQ (k:=fun (j2_1,j2_2,j2_3,j2_4,j2_5)=>QH l1_1 recl1 j2_1 j2_2 j2_3 j2_4 j2_5) ((⟨l1_2.Name,l1_2.Up,x10,l1_2.Neutral,l1_2.Fuse,l1_2.Cable⟩:ZJ),l1_3,l1_4,l1_5,Qk Qb x3.Name true l1_6) Qa
  refine ZN [1000,1001,1002,1003,1004,1005,1006,1007,1008,1009,1010,1011] [] Qa (Ze (Zl (Zl (Ze ?_))))
  exact Kn ZC [] Qa Qa Qa
 refine xS (QP x3.Name [110,101,117,116,114,97,108]&&true) (fun h11=>?_) (fun h11=>?_)
 ·refine ZH Qa Qa (Jo (kt:=9) (e:=111) (b:=1011) (w:=x3.Name) (ok:=true) (es:=(UH 1012 1013 1014 1015 1016 1017 1018 1019 1020 1021)) (v:=.agg [.tsl 1 (List.map ci [1,2]) 1012,B false, .fn (.func 79) [] [.ptr 1013 0]]) rfl Qa Qa Qa Qa Qa (Qu h5 (Jn h11))) (xR 6 Qa (xE (Qp (ay yI l1_1 x3 false (.func 79) l1_2 l1_3 l1_4 l1_5 yS yF yD h7_m h8_m l1_6) Qa (sS (sS (Vq Qd rfl (xR 9 Qa ?_)))))))
  refine FN rfl Qa Qa (Yb (f:=83) (args:=[.agg [.tsl 1 (List.map ci [1,2]) 1012,B false, .fn (.func 79) [] [.ptr 1013 0]],I yI.N]) Qa Qa Qa ?_)
  refine ET 2 rfl (fun hw12=>?_)
  refine CF [.agg [.sl 1, .id, .id], .id] (QD n [1,2] false yI.N hw12) Qa Qa QS (fun r13=>?_)
  refine WQ (xR 2 Qa (xE (Qp (az yI l1_1 (!r13) x3 false (.func 79) l1_2 l1_3 l1_4 l1_5 yS yF yD h7_m h8_m l1_6) Qa (sC (!r13) Qa ?_ ?_))))
  ·refine sG (xR 1 Qa (Vo [] [I 9, .agg [I x3.Kind,S x3.Name,I x3.N,I x3.At, .p (.sl 5 (mI x3.Kids))]] [] [] [] Qa Tryz.func49 rfl Tryz.ntmps49 rfl Qa Qa Qa (Qg Qd ⟨[(0,I 9),qq 3],WL x3⟩ Qa (sG (xR 6 Qa (XM 116 (.agg [I 9,I x3.At]) Qa rfl Qa (ZN [] [] Qa ?_)))))))
   refine Z8 (Ze (Zl (Zl (Ze ?_))))
   exact Kn ZC [] Qa Qa Qa
  refine sK (Qp (OX yI l1_1 x3 false (.func 79) l1_2 l1_3 l1_4 l1_5 yS yF yD h7_m h8_m l1_6) Qa (sS (sS (Vq Qd rfl (xR 6 Qa ?_)))))
  refine ZH Qa Qa (Zt (kt:=9) (e:=4) (ke:=QT) (ve:=QU) (eq:=Qb) (b:=1010) (m:=l1_6) (k:=x3.Name) (z0:=false) rfl Qa Qa Qa Qa Qa QS (fun _ _=>Q0 rfl _ _) Qa) ?_
  refine YB Qa (Qp (aA yI l1_1 (QB Qb x3.Name false l1_6) x3 false (.func 79) l1_2 l1_3 l1_4 l1_5 yS yF yD h7_m h8_m l1_6) Qa (sC (QB Qb x3.Name false l1_6) Qa ?_ ?_))
  ·refine sG (xR 1 Qa (Vo [] [I 5, .agg [I x3.Kind,S x3.Name,I x3.N,I x3.At, .p (.sl 5 (mI x3.Kids))]] [] [] [] Qa Tryz.func49 rfl Tryz.ntmps49 rfl Qa Qa Qa (Qg Qd ⟨[(0,I 5),qq 3],WL x3⟩ Qa (sG (xR 6 Qa (XM 116 (.agg [I 5,I x3.At]) Qa rfl Qa (ZN [] [] Qa ?_)))))))
   refine Z8 (Ze (Zl (Zl (Ze ?_))))
   exact Kn ZC [] Qa Qa Qa
  refine sK (Qp (OX yI l1_1 x3 false (.func 79) l1_2 l1_3 l1_4 l1_5 yS yF yD h7_m h8_m l1_6) Qa (sS (Vq Qd rfl (xR 6 Qa ?_))))
  refine ZH Qa Qa (Yd (kt:=9) (e:=4) (ke:=QT) (ve:=QU) (eq:=Qb) (b:=1010) (m:=l1_6) (k:=x3.Name) (v:=true) rfl Qa Qa Qa Qa Qa Qa QS (fun _ _=>Q0 rfl _ _)) ?_
  refine YB Qa (Qp (OX yI l1_1 x3 false (.func 79) l1_2 l1_3 l1_4 l1_5 yS yF yD h7_m h8_m (Qk Qb x3.Name true l1_6)) Qa (sG (xR 4 Qa (Vo ((Ky yI l1_2 l1_3 l1_4 l1_5)++QL yS yF yD h7_m h8_m++(y5 (Qk Qb x3.Name true l1_6) 1000)) [YR, .agg [I x3.Kind,S x3.Name,I x3.N,I x3.At, .p (.sl 5 (mI x3.Kids))], .ptr 1011 0] nq6 [] [] Qa Tryz.func79 rfl Tryz.ntmps79 rfl Qa Qa Qa (Qg Qd (dR x3 yI l1_2 l1_3 l1_4 l1_5 yS yF yD h7_m h8_m (Qk Qb x3.Name true l1_6) 1000) Qa (sG (xR 4 Qa ?_)))))))
  refine Gp [.id, .sl 2] Qa (ZV n x3 [(⟨1,1000⟩:ZA)]) Qa Qa QS QS (fun r14=>?_) (fun e15=>?_)
  ·refine xG Qa Qa (QN (e:=3) (S:=1) (enc:=ci) (l:=r14) (k:=.i64) (n:=0) (sv:=.p (.sl 1 (List.map ci r14))) rfl Qa Qa Qa Qa Qa) (fun x16=>?_)
   refine xR 5 Qa (xE (Hw (.id) [1000,1001,1002,1003,1004,1005,1006,1007,1008,1009,1010,1011] [] (.tup []) Qa Qa (WQ (xE (Q6 ?_)))))
   exact KQ (k:=fun (j2_1,j2_2,j2_3,j2_4,j2_5)=>QH l1_1 recl1 j2_1 j2_2 j2_3 j2_4 j2_5) ((⟨l1_2.Name,l1_2.Up,l1_2.Limit,x16,l1_2.Fuse,l1_2.Cable⟩:ZJ),l1_3,l1_4,l1_5,Qk Qb x3.Name true l1_6) Qa
  refine ZN [1000,1001,1002,1003,1004,1005,1006,1007,1008,1009,1010,1011] [] Qa (Ze (Zl (Zl (Ze ?_))))
  exact Kn ZC [] Qa Qa Qa
 refine xS (QP x3.Name [102,117,115,101]&&true) (fun h17=>?_) (fun h17=>?_)
 ·refine ZH Qa Qa (Jo (kt:=9) (e:=111) (b:=1011) (w:=x3.Name) (ok:=true) (es:=(UH 1012 1013 1014 1015 1016 1017 1018 1019 1020 1021)) (v:=.agg [.tsl 1 (List.map ci [1,2]) 1012,B true, .fn (.func 80) [] [.ptr 1013 0]]) rfl Qa Qa Qa Qa Qa (Qu h5 (Qu h11 (Jn h17)))) (xR 6 Qa (xE (Qp (ay yI l1_1 x3 true (.func 80) l1_2 l1_3 l1_4 l1_5 yS yF yD h7_m h8_m l1_6) Qa (sS (sS (Vq Qd rfl (xR 9 Qa ?_)))))))
  refine FN rfl Qa Qa (Yb (f:=83) (args:=[.agg [.tsl 1 (List.map ci [1,2]) 1012,B true, .fn (.func 80) [] [.ptr 1013 0]],I yI.N]) Qa Qa Qa ?_)
  refine ET 2 rfl (fun hw18=>?_)
  refine CF [.agg [.sl 1, .id, .id], .id] (QD n [1,2] true yI.N hw18) Qa Qa QS (fun r19=>?_)
  refine WQ (xR 2 Qa (xE (Qp (az yI l1_1 (!r19) x3 true (.func 80) l1_2 l1_3 l1_4 l1_5 yS yF yD h7_m h8_m l1_6) Qa (sC (!r19) Qa ?_ ?_))))
  ·refine sG (xR 1 Qa (Vo [] [I 9, .agg [I x3.Kind,S x3.Name,I x3.N,I x3.At, .p (.sl 5 (mI x3.Kids))]] [] [] [] Qa Tryz.func49 rfl Tryz.ntmps49 rfl Qa Qa Qa (Qg Qd ⟨[(0,I 9),qq 3],WL x3⟩ Qa (sG (xR 6 Qa (XM 116 (.agg [I 9,I x3.At]) Qa rfl Qa (ZN [] [] Qa ?_)))))))
   refine Z8 (Ze (Zl (Zl (Ze ?_))))
   exact Kn ZC [] Qa Qa Qa
  refine sK (Qp (OX yI l1_1 x3 true (.func 80) l1_2 l1_3 l1_4 l1_5 yS yF yD h7_m h8_m l1_6) Qa (sS (sS (Vq Qd rfl (xR 6 Qa ?_)))))
  refine ZH Qa Qa (Zt (kt:=9) (e:=4) (ke:=QT) (ve:=QU) (eq:=Qb) (b:=1010) (m:=l1_6) (k:=x3.Name) (z0:=false) rfl Qa Qa Qa Qa Qa QS (fun _ _=>Q0 rfl _ _) Qa) ?_
  refine YB Qa (Qp (aA yI l1_1 (QB Qb x3.Name false l1_6) x3 true (.func 80) l1_2 l1_3 l1_4 l1_5 yS yF yD h7_m h8_m l1_6) Qa (sC (QB Qb x3.Name false l1_6) Qa ?_ ?_))
  ·refine sG (xR 1 Qa (Vo [] [I 5, .agg [I x3.Kind,S x3.Name,I x3.N,I x3.At, .p (.sl 5 (mI x3.Kids))]] [] [] [] Qa Tryz.func49 rfl Tryz.ntmps49 rfl Qa Qa Qa (Qg Qd ⟨[(0,I 5),qq 3],WL x3⟩ Qa (sG (xR 6 Qa (XM 116 (.agg [I 5,I x3.At]) Qa rfl Qa (ZN [] [] Qa ?_)))))))
   refine Z8 (Ze (Zl (Zl (Ze ?_))))
   exact Kn ZC [] Qa Qa Qa
  refine sK (Qp (OX yI l1_1 x3 true (.func 80) l1_2 l1_3 l1_4 l1_5 yS yF yD h7_m h8_m l1_6) Qa (sS (Vq Qd rfl (xR 6 Qa ?_))))
  refine ZH Qa Qa (Yd (kt:=9) (e:=4) (ke:=QT) (ve:=QU) (eq:=Qb) (b:=1010) (m:=l1_6) (k:=x3.Name) (v:=true) rfl Qa Qa Qa Qa Qa Qa QS (fun _ _=>Q0 rfl _ _)) ?_
  refine YB Qa (Qp (OX yI l1_1 x3 true (.func 80) l1_2 l1_3 l1_4 l1_5 yS yF yD h7_m h8_m (Qk Qb x3.Name true l1_6)) Qa (sG (xR 4 Qa (Vo ((Ky yI l1_2 l1_3 l1_4 l1_5)++QL yS yF yD h7_m h8_m++(y5 (Qk Qb x3.Name true l1_6) 1000)) [YR, .agg [I x3.Kind,S x3.Name,I x3.N,I x3.At, .p (.sl 5 (mI x3.Kids))], .ptr 1011 0] nq6 [] [] Qa Tryz.func80 rfl Tryz.ntmps80 rfl Qa Qa Qa (Qg Qd (dR x3 yI l1_2 l1_3 l1_4 l1_5 yS yF yD h7_m h8_m (Qk Qb x3.Name true l1_6) 1000) Qa (sS (sG ?_)))))))
  refine xR 4 Qa ?_
  refine Gp [.id, .sl 2] Qa (ZV n x3 [(⟨1,1000⟩:ZA),(⟨0,1000000⟩:ZA)]) Qa Qa QS QS (fun r20=>?_) (fun e21=>?_)
  ·refine xR 1 Qa (xE (Qp ⟨Qa8 r20,Ky yI l1_2 l1_3 l1_4 l1_5++QL yS yF yD h7_m h8_m++y5 (Qk Qb x3.Name true l1_6) 1000⟩ Qa (Vq Qd rfl (xR 2 Qa ?_))))
   refine xG Qa Qa (QN (e:=3) (S:=1) (enc:=ci) (l:=r20) (k:=.i64) (n:=0) (sv:=.p (.sl 1 (List.map ci r20))) rfl Qa Qa Qa Qa Qa) (fun x22=>?_)
   refine xR 2 Qa ?_
   refine xG Qa Qa (QN (e:=3) (S:=1) (enc:=ci) (l:=r20) (k:=.i64) (n:=1) (sv:=.p (.sl 1 (List.map ci r20))) rfl Qa Qa Qa Qa Qa) (fun x23=>?_)
   refine xR 6 Qa (YB Qa (Hw (.id) [1000,1001,1002,1003,1004,1005,1006,1007,1008,1009,1010,1011] [] (.tup []) Qa Qa (WQ (xE (Q6 ?_)))))
   exact KQ (k:=fun (j2_1,j2_2,j2_3,j2_4,j2_5)=>QH l1_1 recl1 j2_1 j2_2 j2_3 j2_4 j2_5) ((⟨l1_2.Name,l1_2.Up,l1_2.Limit,l1_2.Neutral,(⟨x22,x23⟩:Rw),l1_2.Cable⟩:ZJ),l1_3,l1_4,l1_5,Qk Qb x3.Name true l1_6) Qa
  refine Z8 (ZN [1000,1001,1002,1003,1004,1005,1006,1007,1008,1009,1010,1011] [] Qa (Ze (Zl (Zl (Ze ?_)))))
  exact Kn ZC [] Qa Qa Qa
 refine xS (QP x3.Name [116,104,101,114,109,97,108]&&true) (fun h24=>?_) (fun h24=>?_)
 ·refine ZH Qa Qa (Jo (kt:=9) (e:=111) (b:=1011) (w:=x3.Name) (ok:=true) (es:=(UH 1012 1013 1014 1015 1016 1017 1018 1019 1020 1021)) (v:=.agg [.tsl 1 (List.map ci [1,2]) 1012,B true, .p (.val (.func (.func 81) #[] #[]))]) rfl Qa Qa Qa Qa Qa (Qu h5 (Qu h11 (Qu h17 (Jn h24))))) (xR 6 Qa (xE (Qp ⟨Ai true yI l1_1,dS x3++Ky yI l1_2 l1_3 l1_4 l1_5++QL yS yF yD h7_m h8_m++KO l1_6++Zk⟩ Qa (sS (sS (Vq Qd rfl (xR 9 Qa ?_)))))))
  refine xC [.agg [.sl 1, .id, .id], .id] Qa (QD n [1,2] true yI.N (.func 81,#[],#[])) Qa Qa QS (fun r25=>?_)
  refine xR 2 Qa (YB Qa (Qp ⟨Aj yI l1_1 (!r25),dS x3++Ky yI l1_2 l1_3 l1_4 l1_5++QL yS yF yD h7_m h8_m++KO l1_6++Zk⟩ Qa (sC (!r25) Qa ?_ ?_)))
  ·refine sG (xR 1 Qa (Vo [] [I 9, .agg [I x3.Kind,S x3.Name,I x3.N,I x3.At, .p (.sl 5 (mI x3.Kids))]] [] [] [] Qa Tryz.func49 rfl Tryz.ntmps49 rfl Qa Qa Qa (Qg Qd ⟨[(0,I 9),qq 3],WL x3⟩ Qa (sG (xR 6 Qa (XM 116 (.agg [I 9,I x3.At]) Qa rfl Qa (ZN [] [] Qa ?_)))))))
   refine Z8 (Ze (Zl (Zl (Ze ?_))))
   exact Kn ZC [] Qa Qa Qa
  refine sK (Qp (aB yI l1_1 x3 l1_2 l1_3 l1_4 l1_5 yS yF yD h7_m h8_m l1_6) Qa (sS (sS (Vq Qd rfl (xR 6 Qa ?_)))))
  refine ZH Qa Qa (Zt (kt:=9) (e:=4) (ke:=QT) (ve:=QU) (eq:=Qb) (b:=1010) (m:=l1_6) (k:=x3.Name) (z0:=false) rfl Qa Qa Qa Qa Qa QS (fun _ _=>Q0 rfl _ _) Qa) ?_
  refine YB Qa (Qp ⟨OY yI l1_1 (QB Qb x3.Name false l1_6),dS x3++Ky yI l1_2 l1_3 l1_4 l1_5++QL yS yF yD h7_m h8_m++KO l1_6++Zk⟩ Qa (sC (QB Qb x3.Name false l1_6) Qa ?_ ?_))
  ·refine sG (xR 1 Qa (Vo [] [I 5, .agg [I x3.Kind,S x3.Name,I x3.N,I x3.At, .p (.sl 5 (mI x3.Kids))]] [] [] [] Qa Tryz.func49 rfl Tryz.ntmps49 rfl Qa Qa Qa (Qg Qd ⟨[(0,I 5),qq 3],WL x3⟩ Qa (sG (xR 6 Qa (XM 116 (.agg [I 5,I x3.At]) Qa rfl Qa (ZN [] [] Qa ?_)))))))
   refine Z8 (Ze (Zl (Zl (Ze ?_))))
   exact Kn ZC [] Qa Qa Qa
  refine sK (Qp (aB yI l1_1 x3 l1_2 l1_3 l1_4 l1_5 yS yF yD h7_m h8_m l1_6) Qa (sS (Vq Qd rfl (xR 6 Qa ?_))))
  refine ZH Qa Qa (Yd (kt:=9) (e:=4) (ke:=QT) (ve:=QU) (eq:=Qb) (b:=1010) (m:=l1_6) (k:=x3.Name) (v:=true) rfl Qa Qa Qa Qa Qa Qa QS (fun _ _=>Q0 rfl _ _)) ?_
  refine YB Qa (Qp (aB yI l1_1 x3 l1_2 l1_3 l1_4 l1_5 yS yF yD h7_m h8_m (Qk Qb x3.Name true l1_6)) Qa (sG (xR 4 Qa (Vo ((Ky yI l1_2 l1_3 l1_4 l1_5)++QL yS yF yD h7_m h8_m++(KO (Qk Qb x3.Name true l1_6))) [YR, .agg [I x3.Kind,S x3.Name,I x3.N,I x3.At, .p (.sl 5 (mI x3.Kids))]] sI [] [] Qa Tryz.func81 rfl Tryz.ntmps81 rfl Qa Qa Qa (Qg Qd (zP x3 yI l1_2 l1_3 l1_4 l1_5 yS yF yD h7_m h8_m (Qk Qb x3.Name true l1_6)) Qa (sS (sG ?_)))))))
  refine xR 7 Qa ?_
  refine Gp [.id, .sl 2] Qa (ZV n x3 [(⟨0,200000⟩:ZA),(⟨0,200000⟩:ZA),(⟨0,1000⟩:ZA),(⟨0,1000⟩:ZA),(⟨1,1000000⟩:ZA)]) Qa Qa QS QS (fun r26=>?_) (fun e27=>?_)
  rotate_left
  ·refine Z8 (ZN [1000,1001,1002,1003,1004,1005,1006,1007,1008,1009,1010] [] Qa (Ze (Zl (Zl (Ze ?_)))))
   exact Kn ZC [] Qa Qa Qa
  refine xR 1 Qa (xE (Qp ⟨[(0,YR),(4, .p (.sl 1 (List.map ci r26)))],Ky yI l1_2 l1_3 l1_4 l1_5++QL yS yF yD h7_m h8_m++KO (Qk Qb x3.Name true l1_6)⟩ Qa (Vq Qd rfl (xR 2 Qa ?_))))
  refine xG Qa Qa (QN (e:=3) (S:=1) (enc:=ci) (l:=r26) (k:=.i64) (n:=0) (sv:=.p (.sl 1 (List.map ci r26))) rfl Qa Qa Qa Qa Qa) (fun x28=>?_)
  refine xR 2 Qa ?_
  refine xG Qa Qa (QN (e:=3) (S:=1) (enc:=ci) (l:=r26) (k:=.i64) (n:=1) (sv:=.p (.sl 1 (List.map ci r26))) rfl Qa Qa Qa Qa Qa) (fun x29=>?_)
  refine xR 2 Qa ?_
  refine xG Qa Qa (QN (e:=3) (S:=1) (enc:=ci) (l:=r26) (k:=.i64) (n:=2) (sv:=.p (.sl 1 (List.map ci r26))) rfl Qa Qa Qa Qa Qa) (fun x30=>?_)
  refine xR 2 Qa ?_
  refine xG Qa Qa (QN (e:=3) (S:=1) (enc:=ci) (l:=r26) (k:=.i64) (n:=3) (sv:=.p (.sl 1 (List.map ci r26))) rfl Qa Qa Qa Qa Qa) (fun x31=>?_)
  refine xR 2 Qa ?_
  refine xG Qa Qa (QN (e:=3) (S:=1) (enc:=ci) (l:=r26) (k:=.i64) (n:=4) (sv:=.p (.sl 1 (List.map ci r26))) rfl Qa Qa Qa Qa Qa) (fun x32=>?_)
  refine xR 6 Qa (YB Qa (Hw (.id) [1000,1001,1002,1003,1004,1005,1006,1007,1008,1009,1010] [] (.tup []) Qa Qa (WQ (xE (Q6 ?_)))))
  exact KQ (k:=fun (j2_1,j2_2,j2_3,j2_4,j2_5)=>QH l1_1 recl1 j2_1 j2_2 j2_3 j2_4 j2_5) ((⟨l1_2.Name,l1_2.Up,l1_2.Limit,l1_2.Neutral,l1_2.Fuse,(⟨x28,x29,x30,x31,x32⟩:J4)⟩:ZJ),l1_3,l1_4,l1_5,Qk Qb x3.Name true l1_6) Qa
 refine xS (QP x3.Name [102,114,111,109]&&true) (fun h33=>?_) (fun h33=>?_)
 ·refine ZH Qa Qa (Jo (kt:=9) (e:=111) (b:=1011) (w:=x3.Name) (ok:=true) (es:=(UH 1012 1013 1014 1015 1016 1017 1018 1019 1020 1021)) (v:=.agg [.tsl 1 (List.map ci [2]) 1014,B false, .fn (.func 82) [] [.ptr 1015 0]]) rfl Qa Qa Qa Qa Qa (Qu h5 (Qu h11 (Qu h17 (Qu h24 (Jn h33)))))) (xR 6 Qa (xE (Qp ⟨Ai true yI l1_1,dU x3++Ky yI l1_2 l1_3 l1_4 l1_5++QL yS yF yD h7_m h8_m++KO l1_6++Zk⟩ Qa (sS (sS (Vq Qd rfl (xR 9 Qa ?_)))))))
  refine FN rfl Qa Qa (Yb (f:=83) (args:=[.agg [.tsl 1 (List.map ci [2]) 1014,B false, .fn (.func 82) [] [.ptr 1015 0]],I yI.N]) Qa Qa Qa ?_)
  refine ET 2 rfl (fun hw34=>?_)
  refine CF [.agg [.sl 1, .id, .id], .id] (QD n [2] false yI.N hw34) Qa Qa QS (fun r35=>?_)
  refine WQ (xR 2 Qa (xE (Qp ⟨Aj yI l1_1 (!r35),dU x3++Ky yI l1_2 l1_3 l1_4 l1_5++QL yS yF yD h7_m h8_m++KO l1_6++Zk⟩ Qa (sC (!r35) Qa ?_ ?_))))
  ·refine sG (xR 1 Qa (Vo [] [I 9, .agg [I x3.Kind,S x3.Name,I x3.N,I x3.At, .p (.sl 5 (mI x3.Kids))]] [] [] [] Qa Tryz.func49 rfl Tryz.ntmps49 rfl Qa Qa Qa (Qg Qd ⟨[(0,I 9),qq 3],WL x3⟩ Qa (sG (xR 6 Qa (XM 116 (.agg [I 9,I x3.At]) Qa rfl Qa (ZN [] [] Qa ?_)))))))
   refine Z8 (Ze (Zl (Zl (Ze ?_))))
   exact Kn ZC [] Qa Qa Qa
  refine sK (Qp (aC yI l1_1 x3 l1_2 l1_3 l1_4 l1_5 yS yF yD h7_m h8_m l1_6) Qa (sS (sS (Vq Qd rfl (xR 6 Qa ?_)))))
  refine ZH Qa Qa (Zt (kt:=9) (e:=4) (ke:=QT) (ve:=QU) (eq:=Qb) (b:=1010) (m:=l1_6) (k:=x3.Name) (z0:=false) rfl Qa Qa Qa Qa Qa QS (fun _ _=>Q0 rfl _ _) Qa) ?_
  refine YB Qa (Qp ⟨OY yI l1_1 (QB Qb x3.Name false l1_6),dU x3++Ky yI l1_2 l1_3 l1_4 l1_5++QL yS yF yD h7_m h8_m++KO l1_6++Zk⟩ Qa (sC (QB Qb x3.Name false l1_6) Qa ?_ ?_))
  ·refine sG (xR 1 Qa (Vo [] [I 5, .agg [I x3.Kind,S x3.Name,I x3.N,I x3.At, .p (.sl 5 (mI x3.Kids))]] [] [] [] Qa Tryz.func49 rfl Tryz.ntmps49 rfl Qa Qa Qa (Qg Qd ⟨[(0,I 5),qq 3],WL x3⟩ Qa (sG (xR 6 Qa (XM 116 (.agg [I 5,I x3.At]) Qa rfl Qa (ZN [] [] Qa ?_)))))))
   refine Z8 (Ze (Zl (Zl (Ze ?_))))
   exact Kn ZC [] Qa Qa Qa
  refine sK (Qp (aC yI l1_1 x3 l1_2 l1_3 l1_4 l1_5 yS yF yD h7_m h8_m l1_6) Qa (sS (Vq Qd rfl (xR 6 Qa ?_))))
  refine ZH Qa Qa (Yd (kt:=9) (e:=4) (ke:=QT) (ve:=QU) (eq:=Qb) (b:=1010) (m:=l1_6) (k:=x3.Name) (v:=true) rfl Qa Qa Qa Qa Qa Qa QS (fun _ _=>Q0 rfl _ _)) ?_
  refine YB Qa (Qp (aC yI l1_1 x3 l1_2 l1_3 l1_4 l1_5 yS yF yD h7_m h8_m (Qk Qb x3.Name true l1_6)) Qa (sG (xR 4 Qa (Vo ((Ky yI l1_2 l1_3 l1_4 l1_5)++QL yS yF yD h7_m h8_m++(Qbc (Qk Qb x3.Name true l1_6))) [YR, .agg [I x3.Kind,S x3.Name,I x3.N,I x3.At, .p (.sl 5 (mI x3.Kids))], .ptr 1012 0] [(1000,1000),(1001,1001),(1002,1002),(1003,1003),(1004,1004),(1005,1005),(1006,1006),(1007,1007),(1008,1008),(1009,1009),(1010,1010),(1011,1012),(1012,1015)] [] [] Qa Tryz.func82 rfl Tryz.ntmps82 rfl Qa Qa Qa (Qg Qd ⟨[(0,YR),(2, .ptr 1012 0),qq 4],Hy x3++Ky yI l1_2 l1_3 l1_4 l1_5++QL yS yF yD h7_m h8_m++Qbc (Qk Qb x3.Name true l1_6)⟩ Qa (sG (xR 4 Qa ?_)))))))
  refine U6 [(1000,1000),(1001,1001),(1002,1002),(1003,1003),(1004,1004),(1005,1005),(1006,1006),(1007,1007),(1008,1008),(1009,1009),(1010,1010),(1011,1011)] [] [] Qa (Bo n x3 yI l1_2 l1_3 l1_4 l1_5 yS yF yD h7_m h8_m (Qk Qb x3.Name true l1_6)) Qa Qa Qa QS QS QS QS (fun r36=>?_) (fun e37=>?_)
  ·refine xR 4 Qa (xE (Hw (.id) [1000,1001,1002,1003,1004,1005,1006,1007,1008,1009,1010,1011,1012] [] (.tup []) Qa Qa (WQ (xE (Q6 ?_)))))
   exact KQ (k:=fun (j2_1,j2_2,j2_3,j2_4,j2_5)=>QH l1_1 recl1 j2_1 j2_2 j2_3 j2_4 j2_5) ((⟨l1_2.Name,r36,l1_2.Limit,l1_2.Neutral,l1_2.Fuse,l1_2.Cable⟩:ZJ),l1_3,l1_4,l1_5,Qk Qb x3.Name true l1_6) Qa
  refine ZN [1000,1001,1002,1003,1004,1005,1006,1007,1008,1009,1010,1011,1012] [] Qa (Ze (Zl (Zl (Ze ?_))))
  exact Kn ZC [] Qa Qa Qa
 refine xS (QP x3.Name [111,119,110,101,114]&&true) (fun h38=>?_) (fun h38=>?_)
 ·refine ZH Qa Qa (Jo (kt:=9) (e:=111) (b:=1011) (w:=x3.Name) (ok:=true) (es:=(UH 1012 1013 1014 1015 1016 1017 1018 1019 1020 1021)) (v:=.agg [.tsl 1 (List.map ci [4,5]) 1016,B false, .p (.val (.func (.func 44) #[] #[]))]) rfl Qa Qa Qa Qa Qa (Qu h5 (Qu h11 (Qu h17 (Qu h24 (Qu h33 (Jn h38))))))) (xR 6 Qa (xE (Qp ⟨Ai true yI l1_1,dV x3++Ky yI l1_2 l1_3 l1_4 l1_5++QL yS yF yD h7_m h8_m++KO l1_6++Zk⟩ Qa (sS (sS (Vq Qd rfl (xR 9 Qa ?_)))))))
  refine xC [.agg [.sl 1, .id, .id], .id] Qa (QD n [4,5] false yI.N (.func 44,#[],#[])) Qa Qa QS (fun r39=>?_)
  refine xR 2 Qa (YB Qa (Qp ⟨Aj yI l1_1 (!r39),dV x3++Ky yI l1_2 l1_3 l1_4 l1_5++QL yS yF yD h7_m h8_m++KO l1_6++Zk⟩ Qa (sC (!r39) Qa ?_ ?_)))
  ·refine sG (xR 1 Qa (Vo [] [I 9, .agg [I x3.Kind,S x3.Name,I x3.N,I x3.At, .p (.sl 5 (mI x3.Kids))]] [] [] [] Qa Tryz.func49 rfl Tryz.ntmps49 rfl Qa Qa Qa (Qg Qd ⟨[(0,I 9),qq 3],WL x3⟩ Qa (sG (xR 6 Qa (XM 116 (.agg [I 9,I x3.At]) Qa rfl Qa (ZN [] [] Qa ?_)))))))
   refine Z8 (Ze (Zl (Zl (Ze ?_))))
   exact Kn ZC [] Qa Qa Qa
  refine sK (Qp (aD yI l1_1 x3 l1_2 l1_3 l1_4 l1_5 yS yF yD h7_m h8_m l1_6) Qa (sS (sS (Vq Qd rfl (xR 6 Qa ?_)))))
  refine ZH Qa Qa (Zt (kt:=9) (e:=4) (ke:=QT) (ve:=QU) (eq:=Qb) (b:=1010) (m:=l1_6) (k:=x3.Name) (z0:=false) rfl Qa Qa Qa Qa Qa QS (fun _ _=>Q0 rfl _ _) Qa) ?_
  refine YB Qa (Qp ⟨OY yI l1_1 (QB Qb x3.Name false l1_6),dV x3++Ky yI l1_2 l1_3 l1_4 l1_5++QL yS yF yD h7_m h8_m++KO l1_6++Zk⟩ Qa (sC (QB Qb x3.Name false l1_6) Qa ?_ ?_))
  ·refine sG (xR 1 Qa (Vo [] [I 5, .agg [I x3.Kind,S x3.Name,I x3.N,I x3.At, .p (.sl 5 (mI x3.Kids))]] [] [] [] Qa Tryz.func49 rfl Tryz.ntmps49 rfl Qa Qa Qa (Qg Qd ⟨[(0,I 5),qq 3],WL x3⟩ Qa (sG (xR 6 Qa (XM 116 (.agg [I 5,I x3.At]) Qa rfl Qa (ZN [] [] Qa ?_)))))))
   refine Z8 (Ze (Zl (Zl (Ze ?_))))
   exact Kn ZC [] Qa Qa Qa
  refine sK (Qp (aD yI l1_1 x3 l1_2 l1_3 l1_4 l1_5 yS yF yD h7_m h8_m l1_6) Qa (sS (Vq Qd rfl (xR 6 Qa ?_))))
  refine ZH Qa Qa (Yd (kt:=9) (e:=4) (ke:=QT) (ve:=QU) (eq:=Qb) (b:=1010) (m:=l1_6) (k:=x3.Name) (v:=true) rfl Qa Qa Qa Qa Qa Qa QS (fun _ _=>Q0 rfl _ _)) ?_
  refine YB Qa (Qp (aD yI l1_1 x3 l1_2 l1_3 l1_4 l1_5 yS yF yD h7_m h8_m (Qk Qb x3.Name true l1_6)) Qa (sG (xR 4 Qa (Vo ((Ky yI l1_2 l1_3 l1_4 l1_5)++QL yS yF yD h7_m h8_m++(KO (Qk Qb x3.Name true l1_6))) [YR, .agg [I x3.Kind,S x3.Name,I x3.N,I x3.At, .p (.sl 5 (mI x3.Kids))]] sI [] [] Qa Tryz.func44 rfl Tryz.ntmps44 rfl Qa Qa Qa (Qg Qd (zP x3 yI l1_2 l1_3 l1_4 l1_5 yS yF yD h7_m h8_m (Qk Qb x3.Name true l1_6)) Qa (sS (sG ?_)))))))
  refine xR 3 Qa ?_
  refine U6 nq8 [] [] Qa (Sd n x3 yI l1_2 l1_3 l1_4 l1_5 yS yF yD h7_m h8_m (Qk Qb x3.Name true l1_6)) Qa Qa Qa QS QS QS QS (fun r40=>?_) (fun e41=>?_)
  ·refine xR 1 Qa (xE (Qp ⟨[(0,YR),(4,I r40)],Ky yI l1_2 l1_3 l1_4 l1_5++QL yS yF yD h7_m h8_m++KO (Qk Qb x3.Name true l1_6)⟩ Qa (sL Qd Qa (Hw (.id) [1000,1001,1002,1003,1004,1005,1006,1007,1008,1009,1010] [] (.tup []) Qa Qa (WQ (xE (Q6 ?_)))))))
   exact KQ (k:=fun (j2_1,j2_2,j2_3,j2_4,j2_5)=>QH l1_1 recl1 j2_1 j2_2 j2_3 j2_4 j2_5) (l1_2,(⟨l1_3.Name,r40,l1_3.Rank,l1_3.Card⟩:ZT),(⟨l1_4.Name,l1_4.At,l1_4.Phases,l1_4.Min,l1_4.Max,l1_4.Step,l1_4.Fallback,r40⟩:ZY),l1_5,Qk Qb x3.Name true l1_6) Qa
  refine Z8 (ZN [1000,1001,1002,1003,1004,1005,1006,1007,1008,1009,1010] [] Qa (Ze (Zl (Zl (Ze ?_)))))
  exact Kn ZC [] Qa Qa Qa
 refine xS (QP x3.Name [114,97,110,107]&&true) (fun h42=>?_) (fun h42=>?_)
 ·refine ZH Qa Qa (Jo (kt:=9) (e:=111) (b:=1011) (w:=x3.Name) (ok:=true) (es:=(UH 1012 1013 1014 1015 1016 1017 1018 1019 1020 1021)) (v:=.agg [.tsl 1 (List.map ci [4]) 1017,B false, .p (.val (.func (.func 46) #[] #[]))]) rfl Qa Qa Qa Qa Qa (Qu h5 (Qu h11 (Qu h17 (Qu h24 (Qu h33 (Qu h38 (Jn h42)))))))) (xR 6 Qa (xE (Qp ⟨Ai true yI l1_1,dW x3++Ky yI l1_2 l1_3 l1_4 l1_5++QL yS yF yD h7_m h8_m++KO l1_6++Zk⟩ Qa (sS (sS (Vq Qd rfl (xR 9 Qa ?_)))))))
  refine xC [.agg [.sl 1, .id, .id], .id] Qa (QD n [4] false yI.N (.func 46,#[],#[])) Qa Qa QS (fun r43=>?_)
  refine xR 2 Qa (YB Qa (Qp ⟨Aj yI l1_1 (!r43),dW x3++Ky yI l1_2 l1_3 l1_4 l1_5++QL yS yF yD h7_m h8_m++KO l1_6++Zk⟩ Qa (sC (!r43) Qa ?_ ?_)))
  ·refine sG (xR 1 Qa (Vo [] [I 9, .agg [I x3.Kind,S x3.Name,I x3.N,I x3.At, .p (.sl 5 (mI x3.Kids))]] [] [] [] Qa Tryz.func49 rfl Tryz.ntmps49 rfl Qa Qa Qa (Qg Qd ⟨[(0,I 9),qq 3],WL x3⟩ Qa (sG (xR 6 Qa (XM 116 (.agg [I 9,I x3.At]) Qa rfl Qa (ZN [] [] Qa ?_)))))))
   refine Z8 (Ze (Zl (Zl (Ze ?_))))
   exact Kn ZC [] Qa Qa Qa
  refine sK (Qp (aF yI l1_1 x3 l1_2 l1_3 l1_4 l1_5 yS yF yD h7_m h8_m l1_6) Qa (sS (sS (Vq Qd rfl (xR 6 Qa ?_)))))
  refine ZH Qa Qa (Zt (kt:=9) (e:=4) (ke:=QT) (ve:=QU) (eq:=Qb) (b:=1010) (m:=l1_6) (k:=x3.Name) (z0:=false) rfl Qa Qa Qa Qa Qa QS (fun _ _=>Q0 rfl _ _) Qa) ?_
  refine YB Qa (Qp ⟨OY yI l1_1 (QB Qb x3.Name false l1_6),dW x3++Ky yI l1_2 l1_3 l1_4 l1_5++QL yS yF yD h7_m h8_m++KO l1_6++Zk⟩ Qa (sC (QB Qb x3.Name false l1_6) Qa ?_ ?_))
  ·refine sG (xR 1 Qa (Vo [] [I 5, .agg [I x3.Kind,S x3.Name,I x3.N,I x3.At, .p (.sl 5 (mI x3.Kids))]] [] [] [] Qa Tryz.func49 rfl Tryz.ntmps49 rfl Qa Qa Qa (Qg Qd ⟨[(0,I 5),qq 3],WL x3⟩ Qa (sG (xR 6 Qa (XM 116 (.agg [I 5,I x3.At]) Qa rfl Qa (ZN [] [] Qa ?_)))))))
   refine Z8 (Ze (Zl (Zl (Ze ?_))))
   exact Kn ZC [] Qa Qa Qa
  refine sK (Qp (aF yI l1_1 x3 l1_2 l1_3 l1_4 l1_5 yS yF yD h7_m h8_m l1_6) Qa (sS (Vq Qd rfl (xR 6 Qa ?_))))
  refine ZH Qa Qa (Yd (kt:=9) (e:=4) (ke:=QT) (ve:=QU) (eq:=Qb) (b:=1010) (m:=l1_6) (k:=x3.Name) (v:=true) rfl Qa Qa Qa Qa Qa Qa QS (fun _ _=>Q0 rfl _ _)) ?_
  refine YB Qa (Qp (aF yI l1_1 x3 l1_2 l1_3 l1_4 l1_5 yS yF yD h7_m h8_m (Qk Qb x3.Name true l1_6)) Qa (sG (xR 4 Qa (Vo ((Ky yI l1_2 l1_3 l1_4 l1_5)++QL yS yF yD h7_m h8_m++(KO (Qk Qb x3.Name true l1_6))) [YR, .agg [I x3.Kind,S x3.Name,I x3.N,I x3.At, .p (.sl 5 (mI x3.Kids))]] sI [] [] Qa Tryz.func46 rfl Tryz.ntmps46 rfl Qa Qa Qa (Qg Qd (zP x3 yI l1_2 l1_3 l1_4 l1_5 yS yF yD h7_m h8_m (Qk Qb x3.Name true l1_6)) Qa (sG (xR 4 Qa ?_)))))))
  refine Gp [.id, .sl 2] Qa (ZV n x3 [(⟨1,9⟩:ZA)]) Qa Qa QS QS (fun r44=>?_) (fun e45=>?_)
  ·refine xG Qa Qa (QN (e:=3) (S:=1) (enc:=ci) (l:=r44) (k:=.i64) (n:=0) (sv:=.p (.sl 1 (List.map ci r44))) rfl Qa Qa Qa Qa Qa) (fun x46=>?_)
   refine xR 5 Qa (xE (Hw (.id) [1000,1001,1002,1003,1004,1005,1006,1007,1008,1009,1010] [] (.tup []) Qa Qa (WQ (xE (Q6 ?_)))))
   exact KQ (k:=fun (j2_1,j2_2,j2_3,j2_4,j2_5)=>QH l1_1 recl1 j2_1 j2_2 j2_3 j2_4 j2_5) (l1_2,(⟨l1_3.Name,l1_3.Owner,x46,l1_3.Card⟩:ZT),l1_4,l1_5,Qk Qb x3.Name true l1_6) Qa
  refine ZN [1000,1001,1002,1003,1004,1005,1006,1007,1008,1009,1010] [] Qa (Ze (Zl (Zl (Ze ?_))))
  exact Kn ZC [] Qa Qa Qa
 refine xS (QP x3.Name [99,97,114,100]&&true) (fun h47=>?_) (fun h47=>?_)
 ·refine ZH Qa Qa (Jo (kt:=9) (e:=111) (b:=1011) (w:=x3.Name) (ok:=true) (es:=(UH 1012 1013 1014 1015 1016 1017 1018 1019 1020 1021)) (v:=.agg [.tsl 1 (List.map ci [4]) 1018,B false, .p (.val (.func (.func 48) #[] #[]))]) rfl Qa Qa Qa Qa Qa (Qu h5 (Qu h11 (Qu h17 (Qu h24 (Qu h33 (Qu h38 (Qu h42 (Jn h47))))))))) (xR 6 Qa (xE (Qp ⟨Ai true yI l1_1,dX x3++Ky yI l1_2 l1_3 l1_4 l1_5++QL yS yF yD h7_m h8_m++KO l1_6++Zk⟩ Qa (sS (sS (Vq Qd rfl (xR 9 Qa ?_)))))))
  refine xC [.agg [.sl 1, .id, .id], .id] Qa (QD n [4] false yI.N (.func 48,#[],#[])) Qa Qa QS (fun r48=>?_)
  refine xR 2 Qa (YB Qa (Qp ⟨Aj yI l1_1 (!r48),dX x3++Ky yI l1_2 l1_3 l1_4 l1_5++QL yS yF yD h7_m h8_m++KO l1_6++Zk⟩ Qa (sC (!r48) Qa ?_ ?_)))
  ·refine sG (xR 1 Qa (Vo [] [I 9, .agg [I x3.Kind,S x3.Name,I x3.N,I x3.At, .p (.sl 5 (mI x3.Kids))]] [] [] [] Qa Tryz.func49 rfl Tryz.ntmps49 rfl Qa Qa Qa (Qg Qd ⟨[(0,I 9),qq 3],WL x3⟩ Qa (sG (xR 6 Qa (XM 116 (.agg [I 9,I x3.At]) Qa rfl Qa (ZN [] [] Qa ?_)))))))
   refine Z8 (Ze (Zl (Zl (Ze ?_))))
   exact Kn ZC [] Qa Qa Qa
  refine sK (Qp (aG yI l1_1 x3 l1_2 l1_3 l1_4 l1_5 yS yF yD h7_m h8_m l1_6) Qa (sS (sS (Vq Qd rfl (xR 6 Qa ?_)))))
  refine ZH Qa Qa (Zt (kt:=9) (e:=4) (ke:=QT) (ve:=QU) (eq:=Qb) (b:=1010) (m:=l1_6) (k:=x3.Name) (z0:=false) rfl Qa Qa Qa Qa Qa QS (fun _ _=>Q0 rfl _ _) Qa) ?_
  refine YB Qa (Qp ⟨OY yI l1_1 (QB Qb x3.Name false l1_6),dX x3++Ky yI l1_2 l1_3 l1_4 l1_5++QL yS yF yD h7_m h8_m++KO l1_6++Zk⟩ Qa (sC (QB Qb x3.Name false l1_6) Qa ?_ ?_))
  ·refine sG (xR 1 Qa (Vo [] [I 5, .agg [I x3.Kind,S x3.Name,I x3.N,I x3.At, .p (.sl 5 (mI x3.Kids))]] [] [] [] Qa Tryz.func49 rfl Tryz.ntmps49 rfl Qa Qa Qa (Qg Qd ⟨[(0,I 5),qq 3],WL x3⟩ Qa (sG (xR 6 Qa (XM 116 (.agg [I 5,I x3.At]) Qa rfl Qa (ZN [] [] Qa ?_)))))))
   refine Z8 (Ze (Zl (Zl (Ze ?_))))
   exact Kn ZC [] Qa Qa Qa
  refine sK (Qp (aG yI l1_1 x3 l1_2 l1_3 l1_4 l1_5 yS yF yD h7_m h8_m l1_6) Qa (sS (Vq Qd rfl (xR 6 Qa ?_))))
  refine ZH Qa Qa (Yd (kt:=9) (e:=4) (ke:=QT) (ve:=QU) (eq:=Qb) (b:=1010) (m:=l1_6) (k:=x3.Name) (v:=true) rfl Qa Qa Qa Qa Qa Qa QS (fun _ _=>Q0 rfl _ _)) ?_
  refine YB Qa (Qp (aG yI l1_1 x3 l1_2 l1_3 l1_4 l1_5 yS yF yD h7_m h8_m (Qk Qb x3.Name true l1_6)) Qa (sG (xR 4 Qa (Vo ((Ky yI l1_2 l1_3 l1_4 l1_5)++QL yS yF yD h7_m h8_m++(KO (Qk Qb x3.Name true l1_6))) [YR, .agg [I x3.Kind,S x3.Name,I x3.N,I x3.At, .p (.sl 5 (mI x3.Kids))]] sI [] [] Qa Tryz.func48 rfl Tryz.ntmps48 rfl Qa Qa Qa (Qg Qd (zP x3 yI l1_2 l1_3 l1_4 l1_5 yS yF yD h7_m h8_m (Qk Qb x3.Name true l1_6)) Qa (sS (sG ?_)))))))
  refine xR 4 Qa ?_
  refine Gp [.id, .sl 2] Qa (ZV n x3 [(⟨1,1000000⟩:ZA)]) Qa Qa QS QS (fun r49=>?_) (fun e50=>?_)
  rotate_left
  ·refine Z8 (ZN [1000,1001,1002,1003,1004,1005,1006,1007,1008,1009,1010] [] Qa (Ze (Zl (Zl (Ze ?_)))))
   exact Kn ZC [] Qa Qa Qa
  refine xG Qa Qa (QN (e:=3) (S:=1) (enc:=ci) (l:=r49) (k:=.i64) (n:=0) (sv:=.p (.sl 1 (List.map ci r49))) rfl Qa Qa Qa Qa Qa) (fun x51=>?_)
  refine xR 5 Qa (xE (Qp ⟨[(0,YR),qq 3],WL x3++mR yI l1_2 l1_3 x51 l1_4 l1_5++QL yS yF yD h7_m h8_m++KO (Qk Qb x3.Name true l1_6)⟩ Qa (Qg Qd (dY yS 0 x3 yI l1_2 l1_3 x51 l1_4 l1_5 yF yD h7_m h8_m (Qk Qb x3.Name true l1_6)) Qa (sB (QI (fun l52=>(dY yS l52 x3 yI l1_2 l1_3 x51 l1_4 l1_5 yF yD h7_m h8_m (Qk Qb x3.Name true l1_6)):Int→St) (Xg Qa) ?_)))))
  rintro recl52 l52
  show QV (Ja yS l1_1 l1_2 l1_3 l1_4 l1_5 l1_6 recl1 x3 x51 recl52 l52) _ _ _ _ _ _
  unfold Ja
  refine Qg Qd ⟨[(0,YR),qq 3,(23, .tsl 4 (Ht yS.Contracts) 1004),(24,I (Qc (Ht yS.Contracts))),(25,I l52),(26,B (QO l52 (Qc (Ht yS.Contracts))))],WL x3++mR yI l1_2 l1_3 x51 l1_4 l1_5++QL yS yF yD h7_m h8_m++KO (Qk Qb x3.Name true l1_6)⟩ Qa (sS (sC (QO l52 (Qc (Ht yS.Contracts))) Qa ?_ ?_))
  rotate_left
  ·refine Qz (ZW (KM (QW (Hw (.id) [1000,1001,1002,1003,1004,1005,1006,1007,1008,1009,1010] [] (.tup []) Qa Qa (WQ (xE (Q6 ?_)))))))
   exact KQ (k:=fun (j2_1,j2_2,j2_3,j2_4,j2_5)=>QH l1_1 recl1 j2_1 j2_2 j2_3 j2_4 j2_5) (l1_2,(⟨l1_3.Name,l1_3.Owner,l1_3.Rank,x51⟩:ZT),l1_4,l1_5,Qk Qb x3.Name true l1_6) Qa
  refine sK (Qp (dY yS l52 x3 yI l1_2 l1_3 x51 l1_4 l1_5 yF yD h7_m h8_m (Qk Qb x3.Name true l1_6)) Qa (sS (sB (sS (sG ?_)))))
  refine xG Qa Qa (QN (e:=54) (S:=4) (enc:=ZT.cs) (l:=yS.Contracts) (k:=.i64) (n:=l52) (sv:=.tsl 4 (Ht yS.Contracts) 1004) rfl Qa Qa Qa Qa Qa) (fun x53=>?_)
  refine xR 3 Qa (xE (Qp ⟨[(0,YR),qq 3,qq 5,(23, .tsl 4 (Ht yS.Contracts) 1004),(24,I (Qc (Ht yS.Contracts))),(25,I l52)],[(3,RF x3),(5,mU x53)]++mR yI l1_2 l1_3 x51 l1_4 l1_5++QL yS yF yD h7_m h8_m++KO (Qk Qb x3.Name true l1_6)⟩ Qa (Qg Qd ⟨[(0,YR),qq 3,(23, .tsl 4 (Ht yS.Contracts) 1004),(24,I (Qc (Ht yS.Contracts))),(25,I l52),(36,B (Qi x53.Card x51))],WL x3++mR yI l1_2 l1_3 x51 l1_4 l1_5++QL yS yF yD h7_m h8_m++KO (Qk Qb x3.Name true l1_6)⟩ Qa (sC (Qi x53.Card x51) Qa ?_ ?_))))
  rotate_left
  ·refine sK (Q6 (Qp (dY yS l52 x3 yI l1_2 l1_3 x51 l1_4 l1_5 yF yD h7_m h8_m (Qk Qb x3.Name true l1_6)) Qa (sL Qd Qa ?_)))
   exact KQ (wi (l52+1)) Qa
  refine sG (xR 1 Qa (Vo [] [I 5, .agg [I x3.Kind,S x3.Name,I x3.N,I x3.At, .p (.sl 5 (mI x3.Kids))]] [] [] [] Qa Tryz.func49 rfl Tryz.ntmps49 rfl Qa Qa Qa (Qg Qd ⟨[(0,I 5),qq 3],WL x3⟩ Qa (sG (xR 6 Qa (XM 116 (.agg [I 5,I x3.At]) Qa rfl Qa (ZN [] [] Qa ?_)))))))
  refine Ze (Z8 (Zl (Ze (ZN [1000,1001,1002,1003,1004,1005,1006,1007,1008,1009,1010] [] Qa (Ze (Zl (Zl ?_)))))))
  refine Ze ?_
  exact Kn ZC [] Qa Qa Qa
 refine xS (QP x3.Name [97,116]&&true) (fun h54=>?_) (fun h54=>?_)
 ·refine ZH Qa Qa (Jo (kt:=9) (e:=111) (b:=1011) (w:=x3.Name) (ok:=true) (es:=(UH 1012 1013 1014 1015 1016 1017 1018 1019 1020 1021)) (v:=.agg [.tsl 1 (List.map ci [5]) 1019,B false, .p (.val (.func (.func 50) #[] #[]))]) rfl Qa Qa Qa Qa Qa (Qu h5 (Qu h11 (Qu h17 (Qu h24 (Qu h33 (Qu h38 (Qu h42 (Qu h47 (Jn h54)))))))))) (xR 6 Qa (xE (Qp (aH yI l1_1 x3 (.func (.func 50) #[] #[]) l1_2 l1_3 l1_4 l1_5 yS yF yD h7_m h8_m l1_6) Qa (sS (sS (Vq Qd rfl (xR 9 Qa ?_)))))))
  refine xC [.agg [.sl 1, .id, .id], .id] Qa (QD n [5] false yI.N (.func 50,#[],#[])) Qa Qa QS (fun r55=>?_)
  refine xR 2 Qa (YB Qa (Qp (aI yI l1_1 (!r55) x3 (.func (.func 50) #[] #[]) l1_2 l1_3 l1_4 l1_5 yS yF yD h7_m h8_m l1_6) Qa (sC (!r55) Qa ?_ ?_)))
  ·refine sG (xR 1 Qa (Vo [] [I 9, .agg [I x3.Kind,S x3.Name,I x3.N,I x3.At, .p (.sl 5 (mI x3.Kids))]] [] [] [] Qa Tryz.func49 rfl Tryz.ntmps49 rfl Qa Qa Qa (Qg Qd ⟨[(0,I 9),qq 3],WL x3⟩ Qa (sG (xR 6 Qa (XM 116 (.agg [I 9,I x3.At]) Qa rfl Qa (ZN [] [] Qa ?_)))))))
   refine Z8 (Ze (Zl (Zl (Ze ?_))))
   exact Kn ZC [] Qa Qa Qa
  refine sK (Qp (OZ yI l1_1 x3 (.func (.func 50) #[] #[]) l1_2 l1_3 l1_4 l1_5 yS yF yD h7_m h8_m l1_6) Qa (sS (sS (Vq Qd rfl (xR 6 Qa ?_)))))
  refine ZH Qa Qa (Zt (kt:=9) (e:=4) (ke:=QT) (ve:=QU) (eq:=Qb) (b:=1010) (m:=l1_6) (k:=x3.Name) (z0:=false) rfl Qa Qa Qa Qa Qa QS (fun _ _=>Q0 rfl _ _) Qa) ?_
  refine YB Qa (Qp (aJ yI l1_1 (QB Qb x3.Name false l1_6) x3 (.func (.func 50) #[] #[]) l1_2 l1_3 l1_4 l1_5 yS yF yD h7_m h8_m l1_6) Qa (sC (QB Qb x3.Name false l1_6) Qa ?_ ?_))
  ·refine sG (xR 1 Qa (Vo [] [I 5, .agg [I x3.Kind,S x3.Name,I x3.N,I x3.At, .p (.sl 5 (mI x3.Kids))]] [] [] [] Qa Tryz.func49 rfl Tryz.ntmps49 rfl Qa Qa Qa (Qg Qd ⟨[(0,I 5),qq 3],WL x3⟩ Qa (sG (xR 6 Qa (XM 116 (.agg [I 5,I x3.At]) Qa rfl Qa (ZN [] [] Qa ?_)))))))
   refine Z8 (Ze (Zl (Zl (Ze ?_))))
   exact Kn ZC [] Qa Qa Qa
  refine sK (Qp (OZ yI l1_1 x3 (.func (.func 50) #[] #[]) l1_2 l1_3 l1_4 l1_5 yS yF yD h7_m h8_m l1_6) Qa (sS (Vq Qd rfl (xR 6 Qa ?_))))
  refine ZH Qa Qa (Yd (kt:=9) (e:=4) (ke:=QT) (ve:=QU) (eq:=Qb) (b:=1010) (m:=l1_6) (k:=x3.Name) (v:=true) rfl Qa Qa Qa Qa Qa Qa QS (fun _ _=>Q0 rfl _ _)) ?_
  refine YB Qa (Qp (OZ yI l1_1 x3 (.func (.func 50) #[] #[]) l1_2 l1_3 l1_4 l1_5 yS yF yD h7_m h8_m (Qk Qb x3.Name true l1_6)) Qa (sG (xR 4 Qa (Vo ((Ky yI l1_2 l1_3 l1_4 l1_5)++QL yS yF yD h7_m h8_m++(KO (Qk Qb x3.Name true l1_6))) [YR, .agg [I x3.Kind,S x3.Name,I x3.N,I x3.At, .p (.sl 5 (mI x3.Kids))]] sI [] [] Qa Tryz.func50 rfl Tryz.ntmps50 rfl Qa Qa Qa (Qg Qd (zP x3 yI l1_2 l1_3 l1_4 l1_5 yS yF yD h7_m h8_m (Qk Qb x3.Name true l1_6)) Qa (sG (xR 4 Qa ?_)))))))
  refine U6 nq8 [] [] Qa (Bo n x3 yI l1_2 l1_3 l1_4 l1_5 yS yF yD h7_m h8_m (Qk Qb x3.Name true l1_6)) Qa Qa Qa QS QS QS QS (fun r56=>?_) (fun e57=>?_)
  ·refine xR 4 Qa (xE (Hw (.id) [1000,1001,1002,1003,1004,1005,1006,1007,1008,1009,1010] [] (.tup []) Qa Qa (WQ (xE (Q6 ?_)))))
   exact KQ (k:=fun (j2_1,j2_2,j2_3,j2_4,j2_5)=>QH l1_1 recl1 j2_1 j2_2 j2_3 j2_4 j2_5) (l1_2,l1_3,(⟨l1_4.Name,r56,l1_4.Phases,l1_4.Min,l1_4.Max,l1_4.Step,l1_4.Fallback,l1_4.Owner⟩:ZY),l1_5,Qk Qb x3.Name true l1_6) Qa
  refine ZN [1000,1001,1002,1003,1004,1005,1006,1007,1008,1009,1010] [] Qa (Ze (Zl (Zl (Ze ?_))))
  exact Kn ZC [] Qa Qa Qa
 refine xS (QP x3.Name [112,104,97,115,101,115]&&true) (fun h58=>?_) (fun h58=>?_)
 ·refine ZH Qa Qa (Jo (kt:=9) (e:=111) (b:=1011) (w:=x3.Name) (ok:=true) (es:=(UH 1012 1013 1014 1015 1016 1017 1018 1019 1020 1021)) (v:=.agg [.tsl 1 (List.map ci [5]) 1019,B false, .p (.val (.func (.func 51) #[] #[]))]) rfl Qa Qa Qa Qa Qa (Qu h5 (Qu h11 (Qu h17 (Qu h24 (Qu h33 (Qu h38 (Qu h42 (Qu h47 (Qu h54 (Jn h58))))))))))) (xR 6 Qa (xE (Qp (aH yI l1_1 x3 (.func (.func 51) #[] #[]) l1_2 l1_3 l1_4 l1_5 yS yF yD h7_m h8_m l1_6) Qa (sS (sS (Vq Qd rfl (xR 9 Qa ?_)))))))
  refine xC [.agg [.sl 1, .id, .id], .id] Qa (QD n [5] false yI.N (.func 51,#[],#[])) Qa Qa QS (fun r59=>?_)
  refine xR 2 Qa (YB Qa (Qp (aI yI l1_1 (!r59) x3 (.func (.func 51) #[] #[]) l1_2 l1_3 l1_4 l1_5 yS yF yD h7_m h8_m l1_6) Qa (sC (!r59) Qa ?_ ?_)))
  ·refine sG (xR 1 Qa (Vo [] [I 9, .agg [I x3.Kind,S x3.Name,I x3.N,I x3.At, .p (.sl 5 (mI x3.Kids))]] [] [] [] Qa Tryz.func49 rfl Tryz.ntmps49 rfl Qa Qa Qa (Qg Qd ⟨[(0,I 9),qq 3],WL x3⟩ Qa (sG (xR 6 Qa (XM 116 (.agg [I 9,I x3.At]) Qa rfl Qa (ZN [] [] Qa ?_)))))))
   refine Z8 (Ze (Zl (Zl (Ze ?_))))
   exact Kn ZC [] Qa Qa Qa
  refine sK (Qp (OZ yI l1_1 x3 (.func (.func 51) #[] #[]) l1_2 l1_3 l1_4 l1_5 yS yF yD h7_m h8_m l1_6) Qa (sS (sS (Vq Qd rfl (xR 6 Qa ?_)))))
  refine ZH Qa Qa (Zt (kt:=9) (e:=4) (ke:=QT) (ve:=QU) (eq:=Qb) (b:=1010) (m:=l1_6) (k:=x3.Name) (z0:=false) rfl Qa Qa Qa Qa Qa QS (fun _ _=>Q0 rfl _ _) Qa) ?_
  refine YB Qa (Qp (aJ yI l1_1 (QB Qb x3.Name false l1_6) x3 (.func (.func 51) #[] #[]) l1_2 l1_3 l1_4 l1_5 yS yF yD h7_m h8_m l1_6) Qa (sC (QB Qb x3.Name false l1_6) Qa ?_ ?_))
  ·refine sG (xR 1 Qa (Vo [] [I 5, .agg [I x3.Kind,S x3.Name,I x3.N,I x3.At, .p (.sl 5 (mI x3.Kids))]] [] [] [] Qa Tryz.func49 rfl Tryz.ntmps49 rfl Qa Qa Qa (Qg Qd ⟨[(0,I 5),qq 3],WL x3⟩ Qa (sG (xR 6 Qa (XM 116 (.agg [I 5,I x3.At]) Qa rfl Qa (ZN [] [] Qa ?_)))))))
   refine Z8 (Ze (Zl (Zl (Ze ?_))))
   exact Kn ZC [] Qa Qa Qa
  refine sK (Qp (OZ yI l1_1 x3 (.func (.func 51) #[] #[]) l1_2 l1_3 l1_4 l1_5 yS yF yD h7_m h8_m l1_6) Qa (sS (Vq Qd rfl (xR 6 Qa ?_))))
  refine ZH Qa Qa (Yd (kt:=9) (e:=4) (ke:=QT) (ve:=QU) (eq:=Qb) (b:=1010) (m:=l1_6) (k:=x3.Name) (v:=true) rfl Qa Qa Qa Qa Qa Qa QS (fun _ _=>Q0 rfl _ _)) ?_
  refine YB Qa (Qp (OZ yI l1_1 x3 (.func (.func 51) #[] #[]) l1_2 l1_3 l1_4 l1_5 yS yF yD h7_m h8_m (Qk Qb x3.Name true l1_6)) Qa (sG (xR 4 Qa (Vo ((Ky yI l1_2 l1_3 l1_4 l1_5)++QL yS yF yD h7_m h8_m++(KO (Qk Qb x3.Name true l1_6))) [YR, .agg [I x3.Kind,S x3.Name,I x3.N,I x3.At, .p (.sl 5 (mI x3.Kids))]] sI [] [] Qa Tryz.func51 rfl Tryz.ntmps51 rfl Qa Qa Qa (Qg Qd (zP x3 yI l1_2 l1_3 l1_4 l1_5 yS yF yD h7_m h8_m (Qk Qb x3.Name true l1_6)) Qa (sG (xR 2 Qa ?_)))))))
  refine Gp [] Qa (MO n x3) Qa Qa QS QS (fun r60=>?_) (fun e61=>?_)
  ·refine xR 4 Qa (xE (Hw (.id) [1000,1001,1002,1003,1004,1005,1006,1007,1008,1009,1010] [] (.tup []) Qa Qa (WQ (xE (Q6 ?_)))))
   exact KQ (k:=fun (j2_1,j2_2,j2_3,j2_4,j2_5)=>QH l1_1 recl1 j2_1 j2_2 j2_3 j2_4 j2_5) (l1_2,l1_3,(⟨l1_4.Name,l1_4.At,r60,l1_4.Min,l1_4.Max,l1_4.Step,l1_4.Fallback,l1_4.Owner⟩:ZY),l1_5,Qk Qb x3.Name true l1_6) Qa
  refine ZN [1000,1001,1002,1003,1004,1005,1006,1007,1008,1009,1010] [] Qa (Ze (Zl (Zl (Ze ?_))))
  exact Kn ZC [] Qa Qa Qa
 refine xS (QP x3.Name [97,109,112,115]&&true) (fun h62=>?_) (fun h62=>?_)
 ·refine ZH Qa Qa (Jo (kt:=9) (e:=111) (b:=1011) (w:=x3.Name) (ok:=true) (es:=(UH 1012 1013 1014 1015 1016 1017 1018 1019 1020 1021)) (v:=.agg [.tsl 1 (List.map ci [5]) 1019,B false, .fn (.func 53) [] [.ptr 1020 0]]) rfl Qa Qa Qa Qa Qa (Qu h5 (Qu h11 (Qu h17 (Qu h24 (Qu h33 (Qu h38 (Qu h42 (Qu h47 (Qu h54 (Qu h58 (Jn h62)))))))))))) (xR 6 Qa (xE (Qp ⟨Ai true yI l1_1,d9 x3++Ky yI l1_2 l1_3 l1_4 l1_5++QL yS yF yD h7_m h8_m++KO l1_6++Zk⟩ Qa (sS (sS (Vq Qd rfl (xR 9 Qa ?_)))))))
  refine FN rfl Qa Qa (Yb (f:=83) (args:=[.agg [.tsl 1 (List.map ci [5]) 1019,B false, .fn (.func 53) [] [.ptr 1020 0]],I yI.N]) Qa Qa Qa ?_)
  refine ET 2 rfl (fun hw63=>?_)
  refine CF [.agg [.sl 1, .id, .id], .id] (QD n [5] false yI.N hw63) Qa Qa QS (fun r64=>?_)
  refine WQ (xR 2 Qa (xE (Qp ⟨Aj yI l1_1 (!r64),d9 x3++Ky yI l1_2 l1_3 l1_4 l1_5++QL yS yF yD h7_m h8_m++KO l1_6++Zk⟩ Qa (sC (!r64) Qa ?_ ?_))))
  ·refine sG (xR 1 Qa (Vo [] [I 9, .agg [I x3.Kind,S x3.Name,I x3.N,I x3.At, .p (.sl 5 (mI x3.Kids))]] [] [] [] Qa Tryz.func49 rfl Tryz.ntmps49 rfl Qa Qa Qa (Qg Qd ⟨[(0,I 9),qq 3],WL x3⟩ Qa (sG (xR 6 Qa (XM 116 (.agg [I 9,I x3.At]) Qa rfl Qa (ZN [] [] Qa ?_)))))))
   refine Z8 (Ze (Zl (Zl (Ze ?_))))
   exact Kn ZC [] Qa Qa Qa
  refine sK (Qp (aK yI l1_1 x3 l1_2 l1_3 l1_4 l1_5 yS yF yD h7_m h8_m l1_6) Qa (sS (sS (Vq Qd rfl (xR 6 Qa ?_)))))
  refine ZH Qa Qa (Zt (kt:=9) (e:=4) (ke:=QT) (ve:=QU) (eq:=Qb) (b:=1010) (m:=l1_6) (k:=x3.Name) (z0:=false) rfl Qa Qa Qa Qa Qa QS (fun _ _=>Q0 rfl _ _) Qa) ?_
  refine YB Qa (Qp ⟨OY yI l1_1 (QB Qb x3.Name false l1_6),d9 x3++Ky yI l1_2 l1_3 l1_4 l1_5++QL yS yF yD h7_m h8_m++KO l1_6++Zk⟩ Qa (sC (QB Qb x3.Name false l1_6) Qa ?_ ?_))
  ·refine sG (xR 1 Qa (Vo [] [I 5, .agg [I x3.Kind,S x3.Name,I x3.N,I x3.At, .p (.sl 5 (mI x3.Kids))]] [] [] [] Qa Tryz.func49 rfl Tryz.ntmps49 rfl Qa Qa Qa (Qg Qd ⟨[(0,I 5),qq 3],WL x3⟩ Qa (sG (xR 6 Qa (XM 116 (.agg [I 5,I x3.At]) Qa rfl Qa (ZN [] [] Qa ?_)))))))
   refine Z8 (Ze (Zl (Zl (Ze ?_))))
   exact Kn ZC [] Qa Qa Qa
  refine sK (Qp (aK yI l1_1 x3 l1_2 l1_3 l1_4 l1_5 yS yF yD h7_m h8_m l1_6) Qa (sS (Vq Qd rfl (xR 6 Qa ?_))))
  refine ZH Qa Qa (Yd (kt:=9) (e:=4) (ke:=QT) (ve:=QU) (eq:=Qb) (b:=1010) (m:=l1_6) (k:=x3.Name) (v:=true) rfl Qa Qa Qa Qa Qa Qa QS (fun _ _=>Q0 rfl _ _)) ?_
  refine YB Qa (Qp (aK yI l1_1 x3 l1_2 l1_3 l1_4 l1_5 yS yF yD h7_m h8_m (Qk Qb x3.Name true l1_6)) Qa (sG (xR 4 Qa (Vo ((Ky yI l1_2 l1_3 l1_4 l1_5)++QL yS yF yD h7_m h8_m++(y5 (Qk Qb x3.Name true l1_6) 80)) [YR, .agg [I x3.Kind,S x3.Name,I x3.N,I x3.At, .p (.sl 5 (mI x3.Kids))], .ptr 1011 0] [(1000,1000),(1001,1001),(1002,1002),(1003,1003),(1004,1004),(1005,1005),(1006,1006),(1007,1007),(1008,1008),(1009,1009),(1010,1010),(1011,1020)] [] [] Qa Tryz.func53 rfl Tryz.ntmps53 rfl Qa Qa Qa (Qg Qd (dR x3 yI l1_2 l1_3 l1_4 l1_5 yS yF yD h7_m h8_m (Qk Qb x3.Name true l1_6) 80) Qa (sS (sG ?_)))))))
  refine xR 5 Qa ?_
  refine Gp [.id, .sl 2] Qa (ZV n x3 [(⟨1,80⟩:ZA),(⟨1,80⟩:ZA),(⟨1,80⟩:ZA)]) Qa Qa QS QS (fun r65=>?_) (fun e66=>?_)
  rotate_left
  ·refine Z8 (ZN [1000,1001,1002,1003,1004,1005,1006,1007,1008,1009,1010,1011] [] Qa (Ze (Zl (Zl (Ze ?_)))))
   exact Kn ZC [] Qa Qa Qa
  refine xR 1 Qa (xE (Qp ⟨Qa8 r65,Ky yI l1_2 l1_3 l1_4 l1_5++QL yS yF yD h7_m h8_m++y5 (Qk Qb x3.Name true l1_6) 80⟩ Qa (Vq Qd rfl (xR 4 Qa ?_))))
  refine xG Qa Qa (QN (e:=3) (S:=1) (enc:=ci) (l:=r65) (k:=.i64) (n:=0) (sv:=.p (.sl 1 (List.map ci r65))) rfl Qa Qa Qa Qa Qa) (fun x67=>?_)
  refine xR 2 Qa ?_
  refine xG Qa Qa (QN (e:=3) (S:=1) (enc:=ci) (l:=r65) (k:=.i64) (n:=1) (sv:=.p (.sl 1 (List.map ci r65))) rfl Qa Qa Qa Qa Qa) (fun x68=>?_)
  refine xR 2 Qa ?_
  refine xG Qa Qa (QN (e:=3) (S:=1) (enc:=ci) (l:=r65) (k:=.i64) (n:=2) (sv:=.p (.sl 1 (List.map ci r65))) rfl Qa Qa Qa Qa Qa) (fun x69=>?_)
  refine xR 13 Qa (YB Qa (Hw (.id) [1000,1001,1002,1003,1004,1005,1006,1007,1008,1009,1010,1011] [] (.tup []) Qa Qa (WQ (xE (Q6 ?_)))))
  exact KQ (k:=fun (j2_1,j2_2,j2_3,j2_4,j2_5)=>QH l1_1 recl1 j2_1 j2_2 j2_3 j2_4 j2_5) (l1_2,l1_3,(⟨l1_4.Name,l1_4.At,l1_4.Phases,x67,x68,x69,l1_4.Fallback,l1_4.Owner⟩:ZY),l1_5,Qk Qb x3.Name true l1_6) Qa
 refine xS (QP x3.Name [102,97,108,108,98,97,99,107]&&true) (fun h70=>?_) (fun h70=>?_)
 ·refine ZH Qa Qa (Jo (kt:=9) (e:=111) (b:=1011) (w:=x3.Name) (ok:=true) (es:=(UH 1012 1013 1014 1015 1016 1017 1018 1019 1020 1021)) (v:=.agg [.tsl 1 (List.map ci [5]) 1019,B false, .p (.val (.func (.func 54) #[] #[]))]) rfl Qa Qa Qa Qa Qa (Qu h5 (Qu h11 (Qu h17 (Qu h24 (Qu h33 (Qu h38 (Qu h42 (Qu h47 (Qu h54 (Qu h58 (Qu h62 (Jn h70))))))))))))) (xR 6 Qa (xE (Qp (aH yI l1_1 x3 (.func (.func 54) #[] #[]) l1_2 l1_3 l1_4 l1_5 yS yF yD h7_m h8_m l1_6) Qa (sS (sS (Vq Qd rfl (xR 9 Qa ?_)))))))
  refine xC [.agg [.sl 1, .id, .id], .id] Qa (QD n [5] false yI.N (.func 54,#[],#[])) Qa Qa QS (fun r71=>?_)
  refine xR 2 Qa (YB Qa (Qp (aI yI l1_1 (!r71) x3 (.func (.func 54) #[] #[]) l1_2 l1_3 l1_4 l1_5 yS yF yD h7_m h8_m l1_6) Qa (sC (!r71) Qa ?_ ?_)))
  ·refine sG (xR 1 Qa (Vo [] [I 9, .agg [I x3.Kind,S x3.Name,I x3.N,I x3.At, .p (.sl 5 (mI x3.Kids))]] [] [] [] Qa Tryz.func49 rfl Tryz.ntmps49 rfl Qa Qa Qa (Qg Qd ⟨[(0,I 9),qq 3],WL x3⟩ Qa (sG (xR 6 Qa (XM 116 (.agg [I 9,I x3.At]) Qa rfl Qa (ZN [] [] Qa ?_)))))))
   refine Z8 (Ze (Zl (Zl (Ze ?_))))
   exact Kn ZC [] Qa Qa Qa
  refine sK (Qp (OZ yI l1_1 x3 (.func (.func 54) #[] #[]) l1_2 l1_3 l1_4 l1_5 yS yF yD h7_m h8_m l1_6) Qa (sS (sS (Vq Qd rfl (xR 6 Qa ?_)))))
  refine ZH Qa Qa (Zt (kt:=9) (e:=4) (ke:=QT) (ve:=QU) (eq:=Qb) (b:=1010) (m:=l1_6) (k:=x3.Name) (z0:=false) rfl Qa Qa Qa Qa Qa QS (fun _ _=>Q0 rfl _ _) Qa) ?_
  refine YB Qa (Qp (aJ yI l1_1 (QB Qb x3.Name false l1_6) x3 (.func (.func 54) #[] #[]) l1_2 l1_3 l1_4 l1_5 yS yF yD h7_m h8_m l1_6) Qa (sC (QB Qb x3.Name false l1_6) Qa ?_ ?_))
  ·refine sG (xR 1 Qa (Vo [] [I 5, .agg [I x3.Kind,S x3.Name,I x3.N,I x3.At, .p (.sl 5 (mI x3.Kids))]] [] [] [] Qa Tryz.func49 rfl Tryz.ntmps49 rfl Qa Qa Qa (Qg Qd ⟨[(0,I 5),qq 3],WL x3⟩ Qa (sG (xR 6 Qa (XM 116 (.agg [I 5,I x3.At]) Qa rfl Qa (ZN [] [] Qa ?_)))))))
   refine Z8 (Ze (Zl (Zl (Ze ?_))))
   exact Kn ZC [] Qa Qa Qa
  refine sK (Qp (OZ yI l1_1 x3 (.func (.func 54) #[] #[]) l1_2 l1_3 l1_4 l1_5 yS yF yD h7_m h8_m l1_6) Qa (sS (Vq Qd rfl (xR 6 Qa ?_))))
  refine ZH Qa Qa (Yd (kt:=9) (e:=4) (ke:=QT) (ve:=QU) (eq:=Qb) (b:=1010) (m:=l1_6) (k:=x3.Name) (v:=true) rfl Qa Qa Qa Qa Qa Qa QS (fun _ _=>Q0 rfl _ _)) ?_
  refine YB Qa (Qp (OZ yI l1_1 x3 (.func (.func 54) #[] #[]) l1_2 l1_3 l1_4 l1_5 yS yF yD h7_m h8_m (Qk Qb x3.Name true l1_6)) Qa (sG (xR 4 Qa (Vo ((Ky yI l1_2 l1_3 l1_4 l1_5)++QL yS yF yD h7_m h8_m++(KO (Qk Qb x3.Name true l1_6))) [YR, .agg [I x3.Kind,S x3.Name,I x3.N,I x3.At, .p (.sl 5 (mI x3.Kids))]] sI [] [] Qa Tryz.func54 rfl Tryz.ntmps54 rfl Qa Qa Qa (Qg Qd (zP x3 yI l1_2 l1_3 l1_4 l1_5 yS yF yD h7_m h8_m (Qk Qb x3.Name true l1_6)) Qa (sG (xR 4 Qa ?_)))))))
  refine Gp [.id, .sl 2] Qa (ZV n x3 [(⟨0,80⟩:ZA)]) Qa Qa QS QS (fun r72=>?_) (fun e73=>?_)
  ·refine xG Qa Qa (QN (e:=3) (S:=1) (enc:=ci) (l:=r72) (k:=.i64) (n:=0) (sv:=.p (.sl 1 (List.map ci r72))) rfl Qa Qa Qa Qa Qa) (fun x74=>?_)
   refine xR 5 Qa (xE (Hw (.id) [1000,1001,1002,1003,1004,1005,1006,1007,1008,1009,1010] [] (.tup []) Qa Qa (WQ (xE (Q6 ?_)))))
   exact KQ (k:=fun (j2_1,j2_2,j2_3,j2_4,j2_5)=>QH l1_1 recl1 j2_1 j2_2 j2_3 j2_4 j2_5) (l1_2,l1_3,(⟨l1_4.Name,l1_4.At,l1_4.Phases,l1_4.Min,l1_4.Max,l1_4.Step,x74,l1_4.Owner⟩:ZY),l1_5,Qk Qb x3.Name true l1_6) Qa
  refine ZN [1000,1001,1002,1003,1004,1005,1006,1007,1008,1009,1010] [] Qa (Ze (Zl (Zl (Ze ?_))))
  exact Kn ZC [] Qa Qa Qa
 refine xS (QP x3.Name [99,104,97,114,103,101,114]&&true) (fun h75=>?_) (fun h75=>?_)
 rotate_left
 ·refine ZH Qa Qa (bN (kt:=9) (e:=111) (b:=1011) (w:=x3.Name) (ok:=true) (es:=(UH 1012 1013 1014 1015 1016 1017 1018 1019 1020 1021)) (z:=.agg #[.slice none 0 0, .bool false, .nilFunc]) rfl Qa Qa Qa Qa Qa Qa (Qu h5 (Qu h11 (Qu h17 (Qu h24 (Qu h33 (Qu h38 (Qu h42 (Qu h47 (Qu h54 (Qu h58 (Qu h62 (Qu h70 (Qu h75 (bM))))))))))))))) (xR 6 Qa (xE (Qp ⟨Ai false yI l1_1,Qbi x3++Ky yI l1_2 l1_3 l1_4 l1_5++QL yS yF yD h7_m h8_m++KO l1_6++Zk⟩ Qa (sS (Qg Qd ⟨Aj yI l1_1 true,Qbi x3++Ky yI l1_2 l1_3 l1_4 l1_5++QL yS yF yD h7_m h8_m++KO l1_6++Zk⟩ Qa (Zm Qa (sG ?_)))))))
  refine xR 1 Qa (Vo [] [I 9, .agg [I x3.Kind,S x3.Name,I x3.N,I x3.At, .p (.sl 5 (mI x3.Kids))]] [] [] [] Qa Tryz.func49 rfl Tryz.ntmps49 rfl Qa Qa Qa (Qg Qd ⟨[(0,I 9),qq 3],WL x3⟩ Qa (sG (xR 6 Qa (XM 116 (.agg [I 9,I x3.At]) Qa rfl Qa (ZN [] [] Qa (Z8 ?_)))))))
  refine Ze (Zl (Zl (Ze ?_)))
  exact Kn ZC [] Qa Qa Qa
 refine ZH Qa Qa (Jo (kt:=9) (e:=111) (b:=1011) (w:=x3.Name) (ok:=true) (es:=(UH 1012 1013 1014 1015 1016 1017 1018 1019 1020 1021)) (v:=.agg [.tsl 1 (List.map ci [6]) 1021,B false, .p (.val (.func (.func 55) #[] #[]))]) rfl Qa Qa Qa Qa Qa (Qu h5 (Qu h11 (Qu h17 (Qu h24 (Qu h33 (Qu h38 (Qu h42 (Qu h47 (Qu h54 (Qu h58 (Qu h62 (Qu h70 (Jn h75)))))))))))))) (xR 6 Qa (xE (Qp ⟨Ai true yI l1_1,cu x3++Ky yI l1_2 l1_3 l1_4 l1_5++QL yS yF yD h7_m h8_m++KO l1_6++Zk⟩ Qa (sS (sS (Vq Qd rfl (xR 9 Qa ?_)))))))
 refine xC [.agg [.sl 1, .id, .id], .id] Qa (QD n [6] false yI.N (.func 55,#[],#[])) Qa Qa QS (fun r76=>?_)
 refine xR 2 Qa (YB Qa (Qp ⟨Aj yI l1_1 (!r76),cu x3++Ky yI l1_2 l1_3 l1_4 l1_5++QL yS yF yD h7_m h8_m++KO l1_6++Zk⟩ Qa (sC (!r76) Qa ?_ ?_)))
 ·refine sG (xR 1 Qa (Vo [] [I 9, .agg [I x3.Kind,S x3.Name,I x3.N,I x3.At, .p (.sl 5 (mI x3.Kids))]] [] [] [] Qa Tryz.func49 rfl Tryz.ntmps49 rfl Qa Qa Qa (Qg Qd ⟨[(0,I 9),qq 3],WL x3⟩ Qa (sG (xR 6 Qa (XM 116 (.agg [I 9,I x3.At]) Qa rfl Qa (ZN [] [] Qa ?_)))))))
  refine Z8 (Ze (Zl (Zl (Ze ?_))))
  exact Kn ZC [] Qa Qa Qa
 refine sK (Qp (aL yI l1_1 x3 l1_2 l1_3 l1_4 l1_5 yS yF yD h7_m h8_m l1_6) Qa (sS (sS (Vq Qd rfl (xR 6 Qa ?_)))))
 refine ZH Qa Qa (Zt (kt:=9) (e:=4) (ke:=QT) (ve:=QU) (eq:=Qb) (b:=1010) (m:=l1_6) (k:=x3.Name) (z0:=false) rfl Qa Qa Qa Qa Qa QS (fun _ _=>Q0 rfl _ _) Qa) ?_
 refine YB Qa (Qp ⟨OY yI l1_1 (QB Qb x3.Name false l1_6),cu x3++Ky yI l1_2 l1_3 l1_4 l1_5++QL yS yF yD h7_m h8_m++KO l1_6++Zk⟩ Qa (sC (QB Qb x3.Name false l1_6) Qa ?_ ?_))
 ·refine sG (xR 1 Qa (Vo [] [I 5, .agg [I x3.Kind,S x3.Name,I x3.N,I x3.At, .p (.sl 5 (mI x3.Kids))]] [] [] [] Qa Tryz.func49 rfl Tryz.ntmps49 rfl Qa Qa Qa (Qg Qd ⟨[(0,I 5),qq 3],WL x3⟩ Qa (sG (xR 6 Qa (XM 116 (.agg [I 5,I x3.At]) Qa rfl Qa (ZN [] [] Qa ?_)))))))
  refine Z8 (Ze (Zl (Zl (Ze ?_))))
  exact Kn ZC [] Qa Qa Qa
 refine sK (Qp (aL yI l1_1 x3 l1_2 l1_3 l1_4 l1_5 yS yF yD h7_m h8_m l1_6) Qa (sS (Vq Qd rfl (xR 6 Qa ?_))))
 refine ZH Qa Qa (Yd (kt:=9) (e:=4) (ke:=QT) (ve:=QU) (eq:=Qb) (b:=1010) (m:=l1_6) (k:=x3.Name) (v:=true) rfl Qa Qa Qa Qa Qa Qa QS (fun _ _=>Q0 rfl _ _)) ?_
 refine YB Qa (Qp (aL yI l1_1 x3 l1_2 l1_3 l1_4 l1_5 yS yF yD h7_m h8_m (Qk Qb x3.Name true l1_6)) Qa (sG (xR 4 Qa (Vo ((Ky yI l1_2 l1_3 l1_4 l1_5)++QL yS yF yD h7_m h8_m++(KO (Qk Qb x3.Name true l1_6))) [YR, .agg [I x3.Kind,S x3.Name,I x3.N,I x3.At, .p (.sl 5 (mI x3.Kids))]] sI [] [] Qa Tryz.func55 rfl Tryz.ntmps55 rfl Qa Qa Qa (Qg Qd (zP x3 yI l1_2 l1_3 l1_4 l1_5 yS yF yD h7_m h8_m (Qk Qb x3.Name true l1_6)) Qa (sG (xR 4 Qa ?_)))))))
 refine U6 nq8 [] [] Qa (Si n x3 yI l1_2 l1_3 l1_4 l1_5 yS yF yD h7_m h8_m (Qk Qb x3.Name true l1_6)) Qa Qa Qa QS QS QS QS (fun r77=>?_) (fun e78=>?_)
 ·refine xR 4 Qa (xE (Hw (.id) [1000,1001,1002,1003,1004,1005,1006,1007,1008,1009,1010] [] (.tup []) Qa Qa (WQ (xE (Q6 ?_)))))
  exact KQ (k:=fun (j2_1,j2_2,j2_3,j2_4,j2_5)=>QH l1_1 recl1 j2_1 j2_2 j2_3 j2_4 j2_5) (l1_2,l1_3,l1_4,(⟨l1_5.Name,r77⟩:Zi),Qk Qb x3.Name true l1_6) Qa
 refine ZN [1000,1001,1002,1003,1004,1005,1006,1007,1008,1009,1010] [] Qa (Ze (Zl (Zl (Ze ?_))))
 exact Kn ZC [] Qa Qa Qa
def YN (n:Nat) (a0c:J4):Option Bool :=
 some (QO a0c.Ambient a0c.Most)
abbrev UU (x:J4):Go.Abs.Blk:=.box 47 (Ya (J4.cs x))
theorem UB (n:Nat) (a0c:J4):∀ r,YN n a0c=some r→Q9 Tryz.prog 84 [ag (J4.cs a0c)] (.ret (B r)):=by
 refine Qs (X:=fun r:Bool=>QX.ret (B r)) Tryz.func84 rfl Tryz.ntmps84 rfl ?_
 unfold YN
 refine Qg Qd ⟨[qq 1],[(1,UU a0c)]⟩ Qa (Qg Qd ⟨[(2,B (QO a0c.Ambient a0c.Most))],[]⟩ Qa (sT ?_))
 exact qR (.id) Qa Qa Qa
def KR (n:Nat) (a0c:ZY):Option Bool :=
 cond (leI a0c.Min a0c.Max)
  (cond (Qi a0c.Fallback 0)
   (some true)
   (cond (leI a0c.Min a0c.Fallback)
    (some (leI a0c.Fallback a0c.Max))
    (some false)))
  (some false)
def Qbk:=fun x0=>(⟨[(1, .ptr 1 0)],[(1, .box 56 (Ya (ZY.cs x0)))]⟩:St)
theorem J6 (n:Nat) (a0c:ZY):∀ r,KR n a0c=some r→Q9 Tryz.prog 85 [ag (ZY.cs a0c)] (.ret (B r)):=by
 refine Qs (X:=fun r:Bool=>QX.ret (B r)) Tryz.func85 rfl Tryz.ntmps85 rfl ?_
 unfold KR
 refine Qg Qd (Qbk a0c) Qa (sS (sG (xR 6 Qa ?_)))
 refine xS (leI a0c.Min a0c.Max) (fun h1=>?_) (fun h1=>?_)
 rotate_left
 ·refine xN (Qr Qa h1) Qa (xR 18 Qa (xE (Qp ⟨[(2,B false)],[]⟩ Qa (sT ?_))))
  exact qR (.id) Qa Qa Qa
 refine xO (Qq Qa h1) Qa (xR 3 Qa ?_)
 refine xS (Qi a0c.Fallback 0) (fun h2=>?_) (fun h2=>?_)
 ·refine xN (Qx Qa h2) Qa (xR 14 Qa (xE (Qp ⟨[(2,B true)],[]⟩ Qa (sT ?_))))
  exact qR (.id) Qa Qa Qa
 refine xO (Qw Qa h2) Qa (xR 5 Qa ?_)
 refine xS (leI a0c.Min a0c.Fallback) (fun h3=>?_) (fun h3=>?_)
 ·refine xO (Qq Qa h3) Qa (xR 8 Qa (xE (Qp ⟨[(2,B (leI a0c.Fallback a0c.Max))],[]⟩ Qa (sT ?_))))
  exact qR (.id) Qa Qa Qa
 refine xN (Qr Qa h3) Qa (xR 8 Qa (xE (Qp ⟨[(2,B false)],[]⟩ Qa (sT ?_))))
 exact qR (.id) Qa Qa Qa
def Pg (yI:GN) (yC:ZJ) (yK:ZT) (yG:ZY) (yB:Zi) (yS:Qm) (yF:Bool) (yD:List ZX) (h7_m:List ((List UInt8) × Bool)) (h8_m:List ((List UInt8) × Kt)) (h10_m:List ((List UInt8) × Bool)):List (Nat × Blk):=[(1000, .box 108 ([.ptr 1001 0]++Ya (GN.cs yI)++[.mv 1010]++Ya (ZJ.cs yC)++Ya (ZT.cs yK)++Ya (ZY.cs yG)++[S yB.Name,I yB.Charger])),(1001, .box 74 [.tsl 11 (List.map ZJ.cs yS.Conductors) 1002, .tsl 1 (List.map Zb.cs yS.Owners) 1003, .tsl 4 (List.map ZT.cs yS.Contracts) 1004, .tsl 8 (List.map ZY.cs yS.Chargers) 1005, .tsl 2 (List.map Zi.cs yS.Bays) 1006, .mv 1007,B yF, .mv 1008, .tsl 2 (List.map ZX.cs yD) 1009]),(1002, .arr 49 11 (List.map ZJ.cs yS.Conductors).length),(1003, .arr 52 1 (List.map Zb.cs yS.Owners).length),(1004, .arr 54 4 (List.map ZT.cs yS.Contracts).length),(1005, .arr 56 8 (List.map ZY.cs yS.Chargers).length),(1006, .arr 58 2 (List.map Zi.cs yS.Bays).length),(1007, .mp (JD QT QU h7_m)),(1008, .mp (JD VK VL h8_m)),(1009, .arr 65 2 (List.map ZX.cs yD).length),(1010, .mp (JD QT QU h10_m)),(1011, .mf (UH 1012 1013 1014 1015 1016 1017 1018 1019 1020 1021)),(1012, .arr 3 1 (List.map ci [1,2]).length),(1013, .box 103 [I 1,I 1000]),(1014, .arr 3 1 (List.map ci [2]).length),(1015, .box 104 [.tsl 1 (List.map ci [1,2]) 1012]),(1016, .arr 3 1 (List.map ci [4,5]).length),(1017, .arr 3 1 (List.map ci [4]).length),(1018, .arr 3 1 (List.map ci [4]).length),(1019, .arr 3 1 (List.map ci [5]).length),(1020, .box 103 [I 1,I 80]),(1021, .arr 3 1 (List.map ci [6]).length)]
def Yg:List Nat:=[1000,1001,1002,1003,1004,1005,1006,1007,1008,1009,1010,1011,1012,1013,1014,1015,1016,1017,1018,1019,1020,1021]
def Vt (n:Nat) (yI:GN) (yC:ZJ) (yG:ZY) (h10_m:List ((List UInt8) × Bool)):Option (Except (Int × Int) Unit) :=
 (cond (QB Qb [116,104,101,114,109,97,108] false h10_m)
  ((YN n yC.Cable).bind fun r4 =>
  cond (!r4)
   (some true)
   (cond (Qi yI.N 5)
    ((KR n yG).bind fun r7 =>
    some (!r7))
    (some false)))
  (cond (Qi yI.N 5)
   ((KR n yG).bind fun r9 =>
   some (!r9))
   (some false))).bind fun j2 =>
 cond j2
  (some (.error (3,yI.At)))
  (some (.ok ()))
def Hq (n:Nat) (yI:GN) (yC:ZJ) (yK:ZT) (yG:ZY) (yB:Zi) (yS:Qm) (yF:Bool) (yD:List ZX) (h7_m:List ((List UInt8) × Bool)) (h8_m:List ((List UInt8) × Kt)) (h10_m:List ((List UInt8) × Bool)):Option (Except (Int × Int) Unit) :=
 yO (some (.error (4,yI.At))) (Vt n yI yC yG h10_m) [(fun q16 =>
  ((QE n [1,2] false yI.N).bind fun r20 =>
  cond r20
   (some (!(QB Qb [108,105,109,105,116] false h10_m)))
   (some false)).bind fun j19 =>
  cond j19
   (some (.error (4,yI.At)))
   q16),(fun q23 =>
  ((QE n [1,2] false yI.N).bind fun r27 =>
  cond r27
   (some (!(QB Qb [110,101,117,116,114,97,108] false h10_m)))
   (some false)).bind fun j26 =>
  cond j26
   (some (.error (4,yI.At)))
   q23),(fun q30 =>
  ((QE n [1,2] true yI.N).bind fun r34 =>
  cond r34
   (some ())
   (some ())).bind fun _ =>
  q30),(fun q37 =>
  ((QE n [1,2] true yI.N).bind fun r40 =>
  cond r40
   (some ())
   (some ())).bind fun _ =>
  q37),(fun q43 =>
  ((QE n [2] false yI.N).bind fun r47 =>
  cond r47
   (some (!(QB Qb [102,114,111,109] false h10_m)))
   (some false)).bind fun j46 =>
  cond j46
   (some (.error (4,yI.At)))
   q43),(fun q50 =>
  ((QE n [4,5] false yI.N).bind fun r53 =>
  cond r53
   (some (!(QB Qb [111,119,110,101,114] false h10_m)))
   (some false)).bind fun j52 =>
  cond j52
   (some (.error (4,yI.At)))
   q50),(fun q56 =>
  ((QE n [4] false yI.N).bind fun r59 =>
  cond r59
   (some (!(QB Qb [114,97,110,107] false h10_m)))
   (some false)).bind fun j58 =>
  cond j58
   (some (.error (4,yI.At)))
   q56),(fun q62 =>
  ((QE n [4] false yI.N).bind fun r65 =>
  cond r65
   (some (!(QB Qb [99,97,114,100] false h10_m)))
   (some false)).bind fun j64 =>
  cond j64
   (some (.error (4,yI.At)))
   q62),(fun q68 =>
  ((QE n [5] false yI.N).bind fun r71 =>
  cond r71
   (some (!(QB Qb [97,116] false h10_m)))
   (some false)).bind fun j70 =>
  cond j70
   (some (.error (4,yI.At)))
   q68),(fun q74 =>
  ((QE n [5] false yI.N).bind fun r77 =>
  cond r77
   (some (!(QB Qb [112,104,97,115,101,115] false h10_m)))
   (some false)).bind fun j76 =>
  cond j76
   (some (.error (4,yI.At)))
   q74),(fun q80 =>
  ((QE n [5] false yI.N).bind fun r84 =>
  cond r84
   (some (!(QB Qb [97,109,112,115] false h10_m)))
   (some false)).bind fun j83 =>
  cond j83
   (some (.error (4,yI.At)))
   q80),(fun q87 =>
  ((QE n [5] false yI.N).bind fun r90 =>
  cond r90
   (some (!(QB Qb [102,97,108,108,98,97,99,107] false h10_m)))
   (some false)).bind fun j89 =>
  cond j89
   (some (.error (4,yI.At)))
   q87),(fun q93 =>
  ((QE n [6] false yI.N).bind fun r96 =>
  cond r96
   (some (!(QB Qb [99,104,97,114,103,101,114] false h10_m)))
   (some false)).bind fun j95 =>
  cond j95
   (some (.error (4,yI.At)))
   q93)]
def MQ (yI:GN) (yC:ZJ) (yK:ZT) (yG:ZY) (yB:Zi) (yS:Qm) (yF:Bool) (yD:List ZX) (h7_m:List ((List UInt8) × Bool)) (h8_m:List ((List UInt8) × Kt)) (h10_m:List ((List UInt8) × Bool)):List (Nat × Blk):=Pg yI yC yK yG yB yS yF yD h7_m h8_m h10_m
def QcE:=fun x0 x1 x2=>(.box 74 [.tsl 11 (List.map ZJ.cs (Qm.Conductors x0)) 1002, .tsl 1 (List.map Zb.cs (Qm.Owners x0)) 1003, .tsl 4 (List.map ZT.cs (Qm.Contracts x0)) 1004, .tsl 8 (List.map ZY.cs (Qm.Chargers x0)) 1005, .tsl 2 (List.map Zi.cs (Qm.Bays x0)) 1006, .mv 1007,B x1, .mv 1008, .tsl 2 (List.map ZX.cs x2) 1009]:Blk)
def QcF:=fun x0=>(.arr 49 11 (List.map ZJ.cs (Qm.Conductors x0)).length:Blk)
def QcG:=fun x0=>(.arr 52 1 (List.map Zb.cs (Qm.Owners x0)).length:Blk)
def QcH:=fun x0=>(.arr 54 4 (List.map ZT.cs (Qm.Contracts x0)).length:Blk)
def QcI:=fun x0=>(.arr 56 8 (List.map ZY.cs (Qm.Chargers x0)).length:Blk)
def QcJ:=fun x0=>(.arr 58 2 (List.map Zi.cs (Qm.Bays x0)).length:Blk)
def QcK:Blk:=.box 104 [.tsl 1 (List.map ci [1,2]) 1012]
def Dr:=fun x0 x1 x2 x3 x4 x5 x6 x7 x8 x9 x10 x11 x12=>([(1000,(Qa5 x0 x1 x2 x3 x4)),(1001,(QcE x5 x6 x7)),(1002,(QcF x5)),(1003,(QcG x5)),(1004,(QcH x5)),(1005,(QcI x5)),(1006,(QcJ x5)),(1007, .mp (JD QT QU x8)),(1008, .mp (JD VK VL x9)),(1009,(WE x7)),(1010, .mp (JD QT QU x10)),(1011, .mg x11 x12 (UH 1012 1013 1014 1015 1016 1017 1018 1019 1020 1021)),(1012, .arr 3 1 (List.map ci [1,2]).length),(1013, .box 103 [I 1,I 1000]),(1014, .arr 3 1 (List.map ci [2]).length),(1015,QcK)]:List (Nat × Blk))
def Dt:List (Nat × Blk):=[(1016, .arr 3 1 (List.map ci [4,5]).length),(1017, .arr 3 1 (List.map ci [4]).length),(1018, .arr 3 1 (List.map ci [4]).length),(1019, .arr 3 1 (List.map ci [5]).length),(1020, .box 103 [I 1,I 80]),(1021, .arr 3 1 (List.map ci [6]).length)]
def QcL:List (Nat × AV):=[(0, .ptr 1000 0),(7, .iv 700),(9,B true)]
def aM:=fun x0 x1=>([(700, .it 1011 x0 x1)]:List (Nat × Blk))
def MR:=fun x0 x1 x2 x3 x4 x5 x6 x7 x8 x9 x10 x11 x12 x13=>(⟨QcL,aM x0 x1++Dr x2 x3 x4 x5 x6 x7 x8 x9 x10 x11 x12 x13 x0++Dt⟩:St)
def MS:=fun x0 x1 x2 x3 x4 x5 x6 x7 x8 x9 x10 x11 x12 x13=>(⟨[(0, .ptr 1000 0),(7, .iv 700)],aM x0 x1++Dr x2 x3 x4 x5 x6 x7 x8 x9 x10 x11 x12 x13 x0++Dt⟩:St)
def O0:=fun x0=>([(0, .ptr 1000 0),(4,S x0),(5, .ptr 5 0),(7, .iv 700)]:List (Nat × AV))
def aN:=fun x0 x1 x2 x3 x4 x5 x6 x7 x8 x9 x10 x11 x12 x13 x14 x15 x16=>(⟨O0 x0,[(5,(Qa7 x1 x2)),(700, .it 1011 x3 x4)]++Dr x5 x6 x7 x8 x9 x10 x11 x12 x13 x14 x15 x16 x3++Dt⟩:St)
def QcM:=fun x0=>([(0, .ptr 1000 0),(7, .iv 700),(33,B x0)]:List (Nat × AV))
def MV:=fun x0 x1 x2 x3 x4 x5 x6 x7 x8 x9 x10 x11 x12 x13 x14=>(⟨QcM x0,aM x1 x2++Dr x3 x4 x5 x6 x7 x8 x9 x10 x11 x12 x13 x14 x1++Dt⟩:St)
def aO:=fun x0 x1 x2 x3 x4 x5 x6 x7 x8 x9 x10 x11 x12 x13 x14 x15=>(⟨O0 x0,[(5,(Qbg x1)),(700, .it 1011 x2 x3)]++Dr x4 x5 x6 x7 x8 x9 x10 x11 x12 x13 x14 x15 x2++Dt⟩:St)
end Go.Proofs
