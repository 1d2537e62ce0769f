/-
  A part of the proof of a statement of the seat YtkhhdppjbakngaaGreatDoor.
-/
import Derived.Test.YtkhhdppjbakngaaGreatDoorPrs06
set_option linter.unusedVariables false
namespace Go.Proofs
open Go Go.Abs
set_option maxRecDepth 100000
variable {A:List Int}{N:Nat}{R:Type}{b:Bool}{c0:Int}{d:Nat}{e:Int}{g:Kz}{h:Jo}{i k:Nat}{left:Int}{n p:Nat}{q:SQ}{s:List UInt8}{sp:List ZW}{v:Int}{w:List UInt8}{x y:GN}{α:Type}
theorem vZ{s:BS}:uZ s (YS y s)∧(YS y s).fd=(s.fd||Qp y.N 1):=by
 have J:uZ s (Z8 y s):=QeJ s;have G:∀e,uZ s ((Z8 y s).err e):=fun e=>⟨⟨_,rfl⟩,J.2⟩
 unfold YS;split
 ·exact⟨G _,rfl⟩
 split
 ·exact⟨J,rfl⟩
 split
 ·exact⟨G _,rfl⟩
 split
 ·exact⟨G _,rfl⟩
 ·rename_i q _;obtain⟨_,d1,d2,d3⟩:=QeH (y:=y) (q:=q) (s:=Z8 y s);exact⟨QeI J ⟨⟨[],zc⟩,d3⟩,d1⟩
theorem gu:∀{l:List GN} {s:BS},uZ s (runF l s)
|[],s=>QeJ s
|y::l,s=>by
  unfold runF;split
  ·exact vZ.1
  ·exact QeI vZ.1 gu
theorem Qit{s t:BS}(h:uZ s t)(G:t.dg=[]):s.dg=[]:=by
 obtain⟨a,e⟩:=h.1
 simp_all
theorem bL{l:List GN}{s:BS}(h:(runF (y::l) s).dg=[]):(YS y s).dg=[]∧runF (y::l) s=runF l (YS y s):=by
 have e:runF (y::l) s=if(YS y s).dg.length=20 then YS y s else runF l (YS y s):=rfl
 rw[e] at h ⊢;split at h
 ·grind
 ·rename_i G;rw[if_neg G];exact⟨Qit gu h,rfl⟩
theorem good_step{s:BS}(h:(YS y s).dg=[]):twB y s=false∧((y.N=7∧YS y s=Z8 y s)∨(y.N≠7∧¬jv y.N≤DL y.N s∧∃q,OT y s=.ok q∧YS y s=FX y q (Z8 y s))):=by
 unfold YS at h ⊢;split at h
 ·simp[BS.err] at h
 rename_i G;simp only[Bool.not_eq_true] at G;rw[if_neg<|zc];refine⟨G,?_⟩;split at h
 ·grind
 rename_i J;rw[if_neg J];split at h
 ·simp[BS.err] at h
 rename_i O;rw[if_neg O];split at h
 ·simp[BS.err] at h
 grind
theorem jL:∀{l:List GN} {s:BS},s.fit→(runF l s).fit
|[],s,h=>h
|y::l,s,h=>by
  unfold runF;split
  ·exact(Am h).1
  ·exact jL (Am h).1
theorem Qiu:bs0.fit:=by simp[BS.fit,bs0]
theorem QeO{a:Qk}(O:a.Conductors.length≤1000)(h2:a.Owners.length≤1000)(U:a.Contracts.length≤1000)(Z:a.Chargers.length≤1000)(Y:a.Bays.length≤1000)(hn:2000≤n):Vn n a a=some true:=by
 unfold Vn;have:=Jk (B:=fun rec i=>Jg a a rec i) (n:=n) (L:=a.Bays.length) (fun i r=>r=true) zo (fun rec i hi J=>?_) 0 zo zo
 ·obtain⟨r,e,rfl⟩:=this;exact e
 unfold Jg;simp only[Qc,WF,QC];by_cases G:i<a.Bays.length;rotate_left
 ·rw[VR zo,Kt];exact Aj rfl rfl
 simp_all [R6,Q0,Qp,VA,KJ,Q6,List.getElem?_eq_getElem]
theorem QeP{a:Qk}(G:a.Conductors.length≤1000)(Y:a.Owners.length≤1000)(J:a.Contracts.length≤1000)(U:a.Chargers.length≤1000)(O:a.Bays.length≤1000)(Z:2000≤n):Vo n a a=some true:=by
 unfold Vo;have:=Jk (B:=fun rec i=>Jh n a a rec i) (n:=n) (L:=a.Chargers.length) (fun i r=>r=true) zo (fun rec i hi hr=>?_) 0 zo zo
 ·obtain⟨r,e,rfl⟩:=this;exact e
 unfold Jh;simp only[Qc,WF,QC];by_cases c1:i<a.Chargers.length;rotate_left
 ·rw[VR zo,Kt];exact Aj (QeO G Y J U O Z) rfl
 simp_all [R6,Q0,Qp,VA,KJ,Q6,List.getElem?_eq_getElem]
theorem QeQ{a:Qk}(G:a.Conductors.length≤1000)(Y:a.Owners.length≤1000)(J:a.Contracts.length≤1000)(U:a.Chargers.length≤1000)(O:a.Bays.length≤1000)(Z:2000≤n):Vp n a a=some true:=by
 unfold Vp;have:=Jk (B:=fun rec i=>Ji n a a rec i) (n:=n) (L:=a.Contracts.length) (fun i r=>r=true) zo (fun rec i hi hr=>?_) 0 zo zo
 ·obtain⟨r,e,rfl⟩:=this;exact e
 unfold Ji;simp only[Qc,WF,QC];by_cases c1:i<a.Contracts.length;rotate_left
 ·rw[VR zo,Kt];exact Aj (QeP G Y J U O Z) rfl
 simp_all [R6,Q0,Qp,VA,KJ,Q6,List.getElem?_eq_getElem]
theorem QeR{a:Qk}(G:a.Conductors.length≤1000)(Y:a.Owners.length≤1000)(J:a.Contracts.length≤1000)(U:a.Chargers.length≤1000)(O:a.Bays.length≤1000)(Z:2000≤n):Vq n a a=some true:=by
 unfold Vq;have:=Jk (B:=fun rec i=>Jj n a a rec i) (n:=n) (L:=a.Owners.length) (fun i r=>r=true) zo (fun rec i hi hr=>?_) 0 zo zo
 ·obtain⟨r,e,rfl⟩:=this;exact e
 unfold Jj;simp only[Qc,WF,QC];by_cases c1:i<a.Owners.length;rotate_left
 ·rw[VR zo,Kt];exact Aj (QeQ G Y J U O Z) rfl
 simp_all [R6,Q0,VA,KJ,Q6,List.getElem?_eq_getElem,Zm]
theorem QeS{a:Qk}(G:a.Conductors.length≤1000)(Y:a.Owners.length≤1000)(J:a.Contracts.length≤1000)(U:a.Chargers.length≤1000)(O:a.Bays.length≤1000)(Z:2000≤n):QB (fun rec i=>VL n a a rec i) n 0=some true:=by
 have:=Jk (B:=fun rec i=>VL n a a rec i) (n:=n) (L:=a.Conductors.length) (fun i r=>r=true) zo (fun rec i hi hr=>?_) 0 zo zo
 ·obtain⟨r,e,rfl⟩:=this;exact e
 unfold VL;simp only[Qc,WF,QC];by_cases c1:i<a.Conductors.length;rotate_left
 ·rw[VR zo,Kt];exact Aj (QeR G Y J U O Z) rfl
 simp_all [R6,Q0,Qp,VA,KJ,Q6,List.getElem?_eq_getElem]
theorem bM{a:Qk}(Z:a.Conductors.length≤1000)(U:a.Owners.length≤1000)(Y:a.Contracts.length≤1000)(J:a.Chargers.length≤1000)(G:a.Bays.length≤1000)(O:2000≤n):Gv n a a=some true:=by
 simp_all [Gv,Qp,beq_self_eq_true,Bool.not_true,Kt,Zm,QeS]
theorem PH{R V:Type}{B:(V→Option R)→V→Option R}{E:Option R}{f:Nat→V}{k:Nat}(hs:∀rec (i:Nat),i<k→B rec (f i)=rec (f<|i+1))(G:∀rec,B rec (f k)=E):∀{n:Nat} (i:Nat),i≤k→k-i<n→QB B n (f i)=E
|0,_,_,h=>absurd h<|Nat.not_lt_zero _
|n+1,i,hi,h=>by
  unfold QB;by_cases c:i<k
  ·rw[hs _ i c];exact PH hs G (i+1) c zo
  grind
theorem tO:∀(l:List GN) (s:BS),s.fit→s.dg.length≤19→(runF l s).dg.length≤20
|[],s,_,h=>by unfold runF;omega
|y::l,s,hf,h=>by
  obtain⟨f1,f2,_⟩:=Am (y:=y) hf;unfold runF;split
  ·omega
  ·exact tO l _ f1 zo
theorem gy{r:Qk×List ZN}(U:ZM d x)(J:9223372036854776000≤n)(O:okT x=true)(h:Kq n x=some r):r.2.length≤20∧r.1.Conductors.length≤1000∧r.1.Owners.length≤1000∧r.1.Contracts.length≤1000∧r.1.Chargers.length≤1000∧r.1.Bays.length≤1000:=by
 have G:=O;simp only[okT,leI,Ku,Pd] at G;have g:=qB U J zo;rw[G.1] at g;rw[g] at h;obtain rfl:=Option.some.inj h;have Z:=tO (Qi x.Kids) bs0 Qiu (by simp[bs0]);obtain⟨h2,h3,h4,h5,Y⟩:=jL (l:=Qi x.Kids) Qiu
 grind [runF,Qi,bs0,BS.site]
theorem gz(G:ZM d x)(J:9223372036854776000≤n)(O:okT x=false):Kq n x=some (⟨[],[],[],[],[]⟩,[⟨1,0⟩]):=by
 grind [Kq,jD]
theorem Bz:ZM 1 nz:=⟨by decide,by decide,by decide,by decide,by decide,fun k G=>by cases G⟩
theorem QeT(n:Nat)(x y:Int):∃r,Vi n x y=some r:=by
 unfold Vi JY;simp only[Zm,Qp];cases h1:(x==x)<;>cases h2:(y==y)<;>simp[cond]<;>(repeat' split)<;>simp
structure Eu(N m:Nat)(T:List Int)(l0 l:List Int):Prop where
 len:l.length=N
 perm:(l.take m).Perm (l0.take m)
def Pls(T:List Int)(l:List Int):Prop:=∀v∈l,∃x,QT T v=some x
theorem Eu.pls{m:Nat}{T l0 l:List Int}(h:Eu N m T l0 l)(hp:Pls T (l0.take m)):Pls T (l.take m):=fun v G=>hp v<|h.perm.mem_iff.1 G
theorem Nj{m:Nat}{l:List Int}{i:Int}(O:l.length=N)(J:m≤N)(h0:0≤i)(G:i<m):∃(h:i.toNat<l.length),TM N m l i=some l[i.toNat]∧l[i.toNat]∈l.take m:=by
 have hh:i.toNat<l.length:=by omega
 refine⟨hh,?_,?_⟩
 ·simp_all [TM,QT]
 ·rw[List.mem_iff_getElem?];exact⟨i.toNat,zc⟩
theorem Qby{m:Nat}{T l0 l:List Int}{j:Nat}(h:Eu N m T l0 l)(hm:m≤N)(hi:i<m)(hj:j<m)(Z:i<l.length)(Y:j<l.length):Eu N m T l0 ((l.set i l[j]).set j l[i]):=by
 refine⟨by simp[h.len],?_⟩;rw[List.take_set,List.take_set];have O:i<(l.take m).length:=by simp;omega
 have J:j<(l.take m).length:=by simp;omega
 have G:(l.take m)[j]=l[j]:=by simp
 have U:(l.take m)[i]=l[i]:=by simp
 have:=List.set_set_perm O J;rw[G,U] at this;exact this.trans h.perm
theorem iG{m:Nat}{T l0 l:List Int}{i j:Int}{k:List Int→Option R}{Q:R→Prop}(h:Eu N m T l0 l)(O:m≤N)(hi:0≤i)(J:i<m)(U:0≤j)(G:j<m)(hk:∀l',Eu N m T l0 l'→Does (k l') Q) :
  Does ((TM N m l j).bind fun x=>(TM N m l i).bind fun y=>(TM N m l i).bind fun _=>(TM N m (List.set l (Int.toNat i) x) j).bind fun _=>k<|List.set (List.set l (Int.toNat i) x) (Int.toNat j) y) Q:=by
 obtain⟨h1,h2,_⟩:=Nj h.len O hi J;obtain⟨Y,h4,_⟩:=Nj h.len O U G;obtain⟨Z,h6,_⟩:=Nj (l:=List.set l (Int.toNat i) l[j.toNat]) (N:=N) (by simp[h.len]) O U G
 grind [Qby]
section
variable {n N m:Nat}{T l0:List Int}
def tQ(n N m:Nat)(T l0:List Int):Prop:=m≤N∧N≤4611686018427387904∧m+100≤n∧Pls T (l0.take m)
theorem Qbz{l:List Int}(h:Pls T l)(G:v∈l):∃x,QT T v=some x:=h v G
theorem QbA{l:List Int}{i j:Int}{k:Int→Option R}{Q:R→Prop}(g:tQ n N m T l0)(h:Eu N m T l0 l)(hi:0≤i)(G:i<m)(Z:0≤j)(J:j<m)(q:Nat)(hk:∀r,Does (k r) Q) :
  Does ((TM N m l i).bind fun x5=>(TM N m l j).bind fun Y=>(QT T Y).bind fun U=>(QT T x5).bind fun O=>(Vi q U O).bind k) Q:=by
 obtain⟨_,h2,p2⟩:=Nj h.len g.1 hi G;obtain⟨_,h4,p4⟩:=Nj h.len g.1 Z J;obtain⟨u,hu⟩:=Qbz (h.pls g.2.2.2) p2;obtain⟨v,hv⟩:=Qbz (h.pls g.2.2.2) p4;obtain⟨r,hr⟩:=QeT q v u
 grind
theorem gB{l:List Int}{a b:Int}(g:tQ n N m T l0)(h:Eu N m T l0 l)(ha:0≤a)(ac:a≤b)(hb:b≤m) :
  Does (Zu n a b N m l T) (fun r=>Eu N m T l0 r):=by
 obtain⟨hm,hN,hn,hp⟩:=g;have g:tQ n N m T l0:=⟨hm,hN,hn,hp⟩;unfold Zu;refine ZP (Q:=fun _ r=>Eu N m T l0 r) (μ:=fun v:List Int×Int=>(b-v.2).toNat) (Inv:=fun v:List Int×Int=>Eu N m T l0 v.1∧a+1≤v.2) ?_ ⟨h,by grind [Zh]⟩ (by grind [Zh]);rintro rec ⟨l1,i⟩ ⟨Z,h2⟩ ih;simp only at Z h2;show Does (ZC n a b N m T rec l1 i) _;unfold ZC;refine Kg (fun hc=>?_) fun hc=>Qq Z;have hc:i<b:=by grind [QC]
 refine ZP (Q:=fun _ r=>Eu N m T l0 r) (μ:=fun v:List Int×Int=>(v.2-a).toNat) (Inv:=fun v:List Int×Int=>Eu N m T l0 v.1∧a≤v.2∧v.2≤i) ?_ ⟨Z,by omega,Int.le_refl _⟩ zo;rintro G ⟨l2,j⟩ ⟨Y,h4,h5⟩ ab;simp only at Y h4 h5;show Does (ZB n a N m T i rec G l2 j) _;unfold ZB
 have J:Does (rec (l2,wi<|i+1)) (fun r=>Eu N m T l0 r):=by
  grind [Zh]
 refine ZO (Q:=fun j3=>j3=true→a<j) (Kg (fun O=>?_) fun _=>Qq zq) fun j3 U=>Kg (fun hq=>?_) fun _=>J
 ·have O:a<j:=by grind [QC]
  rw[Zh (x:=j-1) zo zo];exact QbA g Y zo zo zo zo n fun r=>Qq fun _=>O
 ·have:=U hq;rw[Zh (x:=j-1) zo zo];exact iG (k:=fun l'=>G (l',j-1)) Y hm zo zo zo zo (fun l' aa=>ab (l',j-1) ⟨aa,by omega,by omega⟩ zo)
end
theorem QbB(s k:List UInt8):∀m:List (List UInt8×Bool),QH Qd s false (Qt Qd k true m)=(QH Qd s false m||(s==k))
|[]=>by
  grind [Qt,QH,RA,Qd,Q0]
|(q,w)::m=>by
  have G:=QbB s k m
  grind [QH,Qt,Qd,Q0,RA]
theorem Ew(s k:List UInt8)(m:Jo):VN (Qt Qd k true m) s=(VN m s||(s==k)):=QbB s k m
section
variable {ks:List Int}{k:Int}{a:GN}{h hh:Jo}{v v2:Except (Int×Int) SQ}{w:SQ×Jo}
theorem XU(G:DK ks k a h v=.ok w):ks.contains k=true∧VN h a.Name=false∧∃q,v=.ok q∧w=(q,Qt Qd a.Name true h):=by
 unfold DK at G;split at G;rotate_left
 ·cases G
 rename_i O;split at G
 ·cases G
 rename_i J;simp only[Bool.not_eq_true] at J;cases v with
|error e=>cases G
|ok q=>cases G;grind
end
abbrev tT:List UInt8:=[108,105,109,105,116]
abbrev wh:List UInt8:=[110,101,117,116,114,97,108]
abbrev Qiv:List UInt8:=[102,117,115,101]
abbrev Nk:List UInt8:=[116,104,101,114,109,97,108]
abbrev QhO:List UInt8:=[102,114,111,109]
abbrev tV:List UInt8:=[111,119,110,101,114]
abbrev QbC:List UInt8:=[114,97,110,107]
abbrev QbD:List UInt8:=[99,97,114,100]
abbrev QkR:List UInt8:=[97,116]
abbrev gD:List UInt8:=[112,104,97,115,101,115]
abbrev QbE:List UInt8:=[97,109,112,115]
abbrev qG:List UInt8:=[102,97,108,108,98,97,99,107]
abbrev wm:List UInt8:=[99,104,97,114,103,101,114]
def y8(th:yu)(ks:List Int)(x:Int):Prop:=∃w t,RA Qz w th=some t∧ks.contains t.kind=true∧t.index=x
structure RQ(K:List KP)(th:yu)(q:SQ)(h:Jo):Prop where
 limit:VN h tT=true→1≤q.1.Limit∧q.1.Limit≤1000
 neutral:VN h wh=true→1≤q.1.Neutral∧q.1.Neutral≤1000
 fuse:(q.1.Fuse.Rated=0∧q.1.Fuse.Heat=0)∨((1≤q.1.Fuse.Rated∧q.1.Fuse.Rated≤1000)∧0≤q.1.Fuse.Heat∧q.1.Fuse.Heat≤1000000)
 cold:VN h Nk=false→q.1.Cable=⟨0,0,0,0,0⟩
 thermal:VN h Nk=true→(0≤q.1.Cable.Ambient∧q.1.Cable.Ambient≤200000)∧(0≤q.1.Cable.Most∧q.1.Cable.Most≤200000)∧(0≤q.1.Cable.Gain∧q.1.Cable.Gain≤1000)∧(0≤q.1.Cable.Loss∧q.1.Cable.Loss≤1000)∧1≤q.1.Cable.Den∧q.1.Cable.Den≤1000000
 frm:VN h QhO=true→y8 th [1,2] q.1.Up
 owner:VN h tV=true→y8 th [3] q.2.1.Owner∧y8 th [3] q.2.2.1.Owner
 rank:VN h QbC=true→1≤q.2.1.Rank∧q.2.1.Rank≤9
 card:VN h QbD=true→(1≤q.2.1.Card∧q.2.1.Card≤1000000)∧∀c∈K,c.Card≠q.2.1.Card
 at_:VN h QkR=true→y8 th [1,2] q.2.2.1.At
 phases:VN h gD=true→1≤q.2.2.1.Phases∧q.2.2.1.Phases≤7
 amps:VN h QbE=true→(1≤q.2.2.1.Min∧q.2.2.1.Min≤80)∧(1≤q.2.2.1.Max∧q.2.2.1.Max≤80)∧1≤q.2.2.1.Step∧q.2.2.1.Step≤80
 fallback:VN h qG=true→0≤q.2.2.1.Fallback∧q.2.2.1.Fallback≤80
 charger:VN h wm=true→y8 th [5] q.2.2.2.Charger
theorem rq0(K:List KP)(th:yu):RQ K th jr [] :=
 ⟨nofun,nofun,.inl ⟨rfl,rfl⟩,fun _=>rfl,nofun,nofun,nofun,nofun,nofun,nofun,nofun,nofun,nofun,nofun⟩
theorem Qiw{k:List UInt8}(e:(w==k)=false):VN (Qt Qd k true h) w=VN h w:=by rw[Ew,e,Bool.or_false]
theorem Qr{k:List UInt8}{P:Prop}(f:VN h w=b→P)(e:(w==k)=false:=by rfl):VN (Qt Qd k true h) w=b→P:=fun t=>f<|(Qiw e).symm.trans t
theorem Qix{k:List UInt8}:VN (Qt Qd k true h) k=true:=by rw[Ew,beq_self_eq_true,Bool.or_true]
theorem QbF:∀{l:List GN} {sp:List ZW} {i:Nat} {s:ZW},l.length=sp.length→(l.zip sp).all uH=true→sp[i]?=some s→s.from_≤(l.map (·.N)).getD i 0∧(l.map (·.N)).getD i 0≤s.to_
|[],[],i,s,_,_,hs=>by simp at hs
|x::l,p::sp,0,s,_,h,hs=>by
  simp_all [uH]
|x::l,p::sp,i+1,s,G,h,hs=>by
  simp only[List.zip_cons_cons,List.all_cons,Ku] at h;have:=QbF (i:=i) (s:=s) zc h.2 zc
  grind
theorem Ui{a:GN}{l:List Int}(O:ZM d a)(h:uI a sp=.ok l){s:ZW}(hs:sp[i]?=some s):s.from_≤l.getD i 0∧l.getD i 0≤s.to_:=by
 obtain⟨U,J,G⟩:=Ak O h;subst J;exact QbF zc G hs
theorem QkS{ks:List Int}{th:yu}{a:GN}{x:Int}(h:nmF ks th a=.ok x):y8 th ks x:=by
 unfold nmF at h;split at h
 ·rename_i y J;split at h
  ·split at h
   ·rename_i t G;split at h
    ·rename_i hc;cases h;exact⟨_,t,G,hc,rfl⟩
    ·cases h
   ·cases h
  ·cases h
 ·cases h
theorem PI{a:GN}{f:List Int→SQ}(h:I4 a sp f=.ok q):∃l,uI a sp=.ok l∧q=f l:=by
 unfold I4 at h;cases e:uI a sp with
|error G=>rw[e] at h;cases h
|ok l=>rw[e] at h;cases h;simp
theorem jM{ks:List Int}{th:yu}{a:GN}{f:Int→SQ}(h:nmQ ks th a f=.ok q):∃x,y8 th ks x∧q=f x:=by
 unfold nmQ at h;cases e:nmF ks th a with
|error G=>rw[e] at h;cases h
|ok x=>rw[e] at h;cases h;exact⟨x,QkS e,rfl⟩
theorem QeU{K:List KP}{a:GN}{f:List Int→SQ}(h:yw K a f=.ok q):∃l,uI a [(⟨1,1000000⟩:ZW)]=.ok l∧q=f l∧∀c∈K,c.Card≠l.getD 0 0:=by
 unfold yw at h;cases e:uI a [(⟨1,1000000⟩:ZW)] with
|error G=>rw[e] at h;cases h
|ok l =>
  rw[e] at h;simp only[eb] at h
  grind
theorem QkT{a:GN}{b:Int}(ht:ZM d a)(h:phF a=.ok b):1≤b∧b≤7:=by
 unfold phF at h;split at h;rotate_left
 ·cases h
 rename_i hl;cases e:uI a (vW a) with
|error e1=>rw[e] at h;cases h
|ok l =>
  rw[e] at h;have h:phL a l 0 0=.ok b:=h;obtain⟨O,_,_⟩:=Ak ht e
  have G:∀i<l.length,1≤l.getD i 0∧l.getD i 0≤3:=by
   intro i hi;rw[O] at hi
   have hs:(vW a)[i]?=some ⟨1,3⟩:=by
    grind [vW]
   exact Ui ht e hs
  have aa:l.length≤3∧1≤l.length:=by grind [vW]
  clear O e hl ht
  match l,aa with
 |[x],_ =>
   have J:=G 0 zq;simp only[List.getD_cons_zero] at J;have:x=1∨x=2∨x=3:=by omega
   clear G J;rcases this with rfl|rfl|rfl<;>(cases h;decide)
 |[x,y],_ =>
   have J:=G 0 zq;have U:=G 1 zq;simp only[List.getD_cons_zero,List.getD_cons_succ] at J U;have Z:x=1∨x=2∨x=3:=by omega
   have Y:y=1∨y=2∨y=3:=by omega
   clear G J U;rcases Z with rfl|rfl|rfl<;>rcases Y with rfl|rfl|rfl<;>first|(cases h;done)|(cases h;decide)
 |[x,y,z],_ =>
   have J:=G 0 zq;have U:=G 1 zq;have hz:=G 2 zq;simp only[List.getD_cons_zero,List.getD_cons_succ] at J U hz;have Z:x=1∨x=2∨x=3:=by omega
   have Y:y=1∨y=2∨y=3:=by omega
   have h3:z=1∨z=2∨z=3:=by omega
   clear G J U hz;rcases Z with rfl|rfl|rfl<;>rcases Y with rfl|rfl|rfl<;>rcases h3 with rfl|rfl|rfl<;>first|(cases h;done)|(cases h;decide)
theorem QeV{k:Int}{K:List KP}{th:yu}{a:GN}{w:SQ×Jo}(ht:ZM d a)(G:pF k K th a q h=.ok w)(r:RQ K th q h):RQ K th w.1 w.2:=by
 unfold pF at G;by_cases aa:a.Name=tT
 ·rw[if_pos aa] at G;obtain⟨_,_,q2,e,rfl⟩:=XU G;rw[aa];obtain⟨l,Z,rfl⟩:=PI e;exact⟨fun _=>Ui ht Z (i:=0) rfl,Qr r.neutral,r.fuse,Qr r.cold,Qr r.thermal,Qr r.frm,Qr r.owner,Qr r.rank,Qr r.card,Qr r.at_,Qr r.phases,Qr r.amps,Qr r.fallback,Qr r.charger⟩
 rw[if_neg aa] at G;by_cases U:a.Name=wh
 ·rw[if_pos U] at G;obtain⟨_,_,q2,e,rfl⟩:=XU G;rw[U];obtain⟨l,Z,rfl⟩:=PI e;exact⟨Qr r.limit,fun _=>Ui ht Z (i:=0) rfl,r.fuse,Qr r.cold,Qr r.thermal,Qr r.frm,Qr r.owner,Qr r.rank,Qr r.card,Qr r.at_,Qr r.phases,Qr r.amps,Qr r.fallback,Qr r.charger⟩
 rw[if_neg U] at G;by_cases af:a.Name=Qiv
 ·rw[if_pos af] at G;obtain⟨_,_,q2,e,rfl⟩:=XU G;rw[af];obtain⟨l,Z,rfl⟩:=PI e;exact⟨Qr r.limit,Qr r.neutral,.inr ⟨Ui ht Z (i:=0) rfl,Ui ht Z (i:=1) rfl⟩,Qr r.cold,Qr r.thermal,Qr r.frm,Qr r.owner,Qr r.rank,Qr r.card,Qr r.at_,Qr r.phases,Qr r.amps,Qr r.fallback,Qr r.charger⟩
 rw[if_neg af] at G;by_cases O:a.Name=Nk
 ·rw[if_pos O] at G;obtain⟨_,_,q2,e,rfl⟩:=XU G;rw[O];obtain⟨l,Z,rfl⟩:=PI e;exact⟨Qr r.limit,Qr r.neutral,r.fuse,fun t=>(by grind [Qix]),fun _=>⟨Ui ht Z (i:=0) rfl,Ui ht Z (i:=1) rfl,Ui ht Z (i:=2) rfl,Ui ht Z (i:=3) rfl,Ui ht Z (i:=4) rfl⟩,Qr r.frm,Qr r.owner,Qr r.rank,Qr r.card,Qr r.at_,Qr r.phases,Qr r.amps,Qr r.fallback,Qr r.charger⟩
 rw[if_neg O] at G;by_cases ai:a.Name=QhO
 ·rw[if_pos ai] at G;obtain⟨_,_,q2,e,rfl⟩:=XU G;rw[ai];obtain⟨x,hx,rfl⟩:=jM e;exact⟨Qr r.limit,Qr r.neutral,r.fuse,Qr r.cold,Qr r.thermal,fun _=>hx,Qr r.owner,Qr r.rank,Qr r.card,Qr r.at_,Qr r.phases,Qr r.amps,Qr r.fallback,Qr r.charger⟩
 rw[if_neg ai] at G;by_cases ab:a.Name=tV
 ·rw[if_pos ab] at G;obtain⟨_,_,q2,e,rfl⟩:=XU G;rw[ab];obtain⟨x,hx,rfl⟩:=jM e;exact⟨Qr r.limit,Qr r.neutral,r.fuse,Qr r.cold,Qr r.thermal,Qr r.frm,fun _=>⟨hx,hx⟩,Qr r.rank,Qr r.card,Qr r.at_,Qr r.phases,Qr r.amps,Qr r.fallback,Qr r.charger⟩
 rw[if_neg ab] at G;by_cases ae:a.Name=QbC
 ·rw[if_pos ae] at G;obtain⟨_,_,q2,e,rfl⟩:=XU G;rw[ae];obtain⟨l,Z,rfl⟩:=PI e;exact⟨Qr r.limit,Qr r.neutral,r.fuse,Qr r.cold,Qr r.thermal,Qr r.frm,Qr r.owner,fun _=>Ui ht Z (i:=0) rfl,Qr r.card,Qr r.at_,Qr r.phases,Qr r.amps,Qr r.fallback,Qr r.charger⟩
 rw[if_neg ae] at G;by_cases ad:a.Name=QbD
 ·rw[if_pos ad] at G;obtain⟨_,_,q2,e,rfl⟩:=XU G;rw[ad];obtain⟨l,Z,rfl,hx⟩:=QeU e;exact⟨Qr r.limit,Qr r.neutral,r.fuse,Qr r.cold,Qr r.thermal,Qr r.frm,Qr r.owner,Qr r.rank,fun _=>⟨Ui ht Z (i:=0) rfl,hx⟩,Qr r.at_,Qr r.phases,Qr r.amps,Qr r.fallback,Qr r.charger⟩
 rw[if_neg ad] at G;by_cases aj:a.Name=QkR
 ·rw[if_pos aj] at G;obtain⟨_,_,q2,e,rfl⟩:=XU G;rw[aj];obtain⟨x,hx,rfl⟩:=jM e;exact⟨Qr r.limit,Qr r.neutral,r.fuse,Qr r.cold,Qr r.thermal,Qr r.frm,Qr r.owner,Qr r.rank,Qr r.card,fun _=>hx,Qr r.phases,Qr r.amps,Qr r.fallback,Qr r.charger⟩
 rw[if_neg aj] at G;by_cases Y:a.Name=gD
 ·rw[if_pos Y] at G;obtain⟨_,_,q2,e,rfl⟩:=XU G;rw[Y];cases Z:phF a with
 |error e2=>rw[Z] at e;cases e
 |ok b =>
  rw[Z] at e;cases e;exact⟨Qr r.limit,Qr r.neutral,r.fuse,Qr r.cold,Qr r.thermal,Qr r.frm,Qr r.owner,Qr r.rank,Qr r.card,Qr r.at_,fun _=>QkT ht Z,Qr r.amps,Qr r.fallback,Qr r.charger⟩
 rw[if_neg Y] at G;by_cases ah:a.Name=QbE
 ·rw[if_pos ah] at G;obtain⟨_,_,q2,e,rfl⟩:=XU G;rw[ah];obtain⟨l,Z,rfl⟩:=PI e;exact⟨Qr r.limit,Qr r.neutral,r.fuse,Qr r.cold,Qr r.thermal,Qr r.frm,Qr r.owner,Qr r.rank,Qr r.card,Qr r.at_,Qr r.phases,fun _=>⟨Ui ht Z (i:=0) rfl,Ui ht Z (i:=1) rfl,Ui ht Z (i:=2) rfl⟩,Qr r.fallback,Qr r.charger⟩
 rw[if_neg ah] at G;by_cases J:a.Name=qG
 ·rw[if_pos J] at G;obtain⟨_,_,q2,e,rfl⟩:=XU G;rw[J];obtain⟨l,Z,rfl⟩:=PI e;exact⟨Qr r.limit,Qr r.neutral,r.fuse,Qr r.cold,Qr r.thermal,Qr r.frm,Qr r.owner,Qr r.rank,Qr r.card,Qr r.at_,Qr r.phases,Qr r.amps,fun _=>Ui ht Z (i:=0) rfl,Qr r.charger⟩
 rw[if_neg J] at G;by_cases ac:a.Name=wm
 ·rw[if_pos ac] at G;obtain⟨_,_,q2,e,rfl⟩:=XU G;rw[ac];obtain⟨x,hx,rfl⟩:=jM e;exact⟨Qr r.limit,Qr r.neutral,r.fuse,Qr r.cold,Qr r.thermal,Qr r.frm,Qr r.owner,Qr r.rank,Qr r.card,Qr r.at_,Qr r.phases,Qr r.amps,Qr r.fallback,fun _=>hx⟩
 grind
theorem jN{k:Int}{K:List KP}{th:yu}{d:Nat}:∀{l:List GN} {q:SQ} {h:Jo} {w:SQ×Jo},(∀a∈l,ZM d a)→Lp k K th l q h=.ok w→RQ K th q h→RQ K th w.1 w.2
|[],q,h,w,_,G,r=>by cases G;exact r
|a::l,q,h,w,J,G,r=>by
  unfold Lp at G;split at G
  ·cases e:pF k K th a q h with
  |error O=>rw[e] at G;cases G
  |ok v =>
    rw[e] at G;exact jN (fun b hb=>J b<|by simp[hb]) G<|QeV (J a zq) e r
  ·exact jN (fun b hb=>J b<|by simp[hb]) G r
theorem QeW{s:BS}(J:ZM d y)(h:OT y s=.ok q):∃hh,RQ s.ks s.th q hh∧jo y.N hh=false∧jq y.N q.1 q.2.2.1 hh=false:=by
 obtain⟨e,rfl,_,_,O⟩:=Zx J;unfold OT at h;cases e1:Lp y.N s.ks s.th (Qi y.Kids) jr [] with
|error U=>rw[e1] at h;cases h
|ok v =>
  rw[e1] at h;have r:=jN (fun a G=>G9 O a G) e1<|rq0 _ _
  grind [eb,whF,jo,jq]
theorem QbG{k:Int}(G:jo k h=false){ks:List Int}(O:(ks,w)∈needT)(J:ks.contains k=true):VN h w=true:=by
 grind [jo]
theorem qH{K V:Type}{eq:K→K→Bool}(J:∀a b,eq a b=true↔a=b)(k G:K)(v:V):∀m:List (K×V),RA eq G (Qt eq k v m)=bif eq G k then some v else RA eq G m
|[]=>by rfl
|(q,w)::m=>by
  have O:=qH J k G v m;unfold Qt;cases h:eq k q
  ·rw[Kt];unfold RA
   grind
  ·obtain rfl:=(J _ _).1 h
   grind [RA]
theorem QkU(a b:List UInt8):Qz a b=true↔a=b:=by
 simp[Qz,Q0]
def THi(th:yu)(a b c:Nat):Prop:=∀w t,RA Qz w th=some t→(t.kind=1∨t.kind=2→0≤t.index∧t.index<a)∧(t.kind=3→0≤t.index∧t.index<b)∧(t.kind=5→0≤t.index∧t.index<c)
theorem Nl{th:yu}{a b c a2 b2 G:Nat}{k i:Int}(h:THi th a b c)(U:a≤a2)(Y:b≤b2)(O:c≤G)(Z:(k=1∨k=2→0≤i∧i<a2)∧(k=3→0≤i∧i<b2)∧(k=5→0≤i∧i<G)) :
  THi (Qt Qz w (⟨k,i⟩:K9) th) a2 b2 G:=by
 intro v t J;rw[qH QkU] at J;cases e:Qz v w
 ·rw[e,Kt] at J;obtain⟨g1,g2,g3⟩:=h v t J;omega
 grind
theorem qI{th:yu}{a b c:Nat}(h:THi th a b c){x:Int}:(y8 th [1,2] x→0≤x∧x<a)∧(y8 th [3] x→0≤x∧x<b)∧(y8 th [5] x→0≤x∧x<c):=by
 refine⟨?_,?_,?_⟩
 all_goals
  rintro⟨w,t,J,G,rfl⟩;obtain⟨g1,g2,g3⟩:=h w t J;simp only[List.contains_cons,List.contains_nil,Bool.or_false,Bool.or_eq_true,beq_iff_eq] at G
 ·exact g1 G
 ·exact g2 G
 omega
def Kj(s:Qk):List (List UInt8):=s.Conductors.map (·.Name)++s.Owners.map (·.Name)++s.Contracts.map (·.Name)++s.Chargers.map (·.Name)++s.Bays.map (·.Name)
def okF(f:Ba):Prop:=(f.Rated=0∧f.Heat=0)∨((1≤f.Rated∧f.Rated≤1000)∧0≤f.Heat∧f.Heat≤1000000)
def okW(c:Yl):Prop:=c=⟨0,0,0,0,0⟩∨(((0≤c.Ambient∧c.Ambient≤200000)∧(0≤c.Most∧c.Most≤200000)∧(0≤c.Gain∧c.Gain≤1000)∧(0≤c.Loss∧c.Loss≤1000)∧1≤c.Den∧c.Den≤1000000)∧c.Ambient<c.Most)
def okC(c:Z0)(i:Nat):Prop:=((i=0→c.Up=-1)∧(0<i→0≤c.Up∧c.Up<i))∧(1≤c.Limit∧c.Limit≤1000)∧(1≤c.Neutral∧c.Neutral≤1000)∧okF c.Fuse∧okW c.Cable
def okK(no:Nat)(c:KP):Prop:=(0≤c.Owner∧c.Owner<no)∧(1≤c.Rank∧c.Rank≤9)∧1≤c.Card∧c.Card≤1000000
def okG(G no:Nat)(c:Kz):Prop:=(0≤c.At∧c.At<G)∧(0≤c.Owner∧c.Owner<no)∧(1≤c.Phases∧c.Phases≤7)∧(1≤c.Min∧c.Min≤80)∧(1≤c.Max∧c.Max≤80)∧(1≤c.Step∧c.Step≤80)∧(0≤c.Fallback∧c.Fallback≤80)∧c.Min≤c.Max∧(c.Fallback=0∨(c.Min≤c.Fallback∧c.Fallback≤c.Max))
structure bN(s:Qk):Prop where
 c:∀i c,s.Conductors[i]?=some c→okC c i
 k:∀c∈s.Contracts,okK s.Owners.length c
 kd:s.Contracts.Pairwise fun a b=>a.Card≠b.Card
 g:∀c∈s.Chargers,okG s.Conductors.length s.Owners.length c
 b:∀c∈s.Bays,0≤c.Charger∧c.Charger<s.Chargers.length
 nm:∀w∈Kj s,Jw w=true
 nd:(Kj s).Nodup
structure IV(s:BS):Prop where
 ok:bN s.site
 fd:s.fd=true↔s.cs≠[]
 th:THi s.th s.cs.length s.os.length s.gs.length
 nm:∀w∈Kj s.site,VN s.nm w=true
theorem iv0:IV bs0 :=
 ⟨⟨fun i c h=>by simp[bs0,BS.site] at h,fun c h=>by simp[bs0,BS.site] at h,List.Pairwise.nil,fun c h=>by simp[bs0,BS.site] at h,fun c h=>by simp[bs0,BS.site] at h,fun w h=>by simp[bs0,BS.site,Kj] at h,List.nodup_nil⟩,by simp[bs0],fun w t h=>by simp[bs0,RA] at h,fun w h=>by simp[bs0,BS.site,Kj] at h⟩
theorem iH{L G:List (List UInt8)}{nm:Jo}(U:∀v∈L,VN nm v=true)(Y:∀v∈L,Jw v=true)(O:L.Nodup)(hw:VN nm w=false)(hb:Jw w=true)(hp:G.Perm (w::L)) :
  (∀v∈G,VN (Qt Qd w true nm) v=true)∧(∀v∈G,Jw v=true)∧G.Nodup:=by
 have Z:∀v∈G,v=w∨v∈L:=fun v J=>by grind
 refine⟨fun v J=>?_,fun v J=>?_,?_⟩
 ·rw[Ew]
  grind
 ·grind
 grind
theorem Nn{A B L G:List α}{x:α}(J:G=A++x::B)(O:L=A++B):G.Perm (x::L):=by
 simp_all
theorem QhP{l:List Z0}{c:Z0}(h:∀i c,l[i]?=some c→okC c i)(hc:okC c l.length):∀i G,(l++[c])[i]?=some G→okC G i:=by
 grind
theorem jO{P:α→Prop}{l:List α}{x:α}(h:∀c∈l,P c)(G:P x):∀c∈l++[x],P c:=by
 grind
theorem bO{O no J G:Nat}{c:Kz}(Y:O≤J)(U:no≤G)(h:okG O no c):okG J G c:=by
 grind [okG]
theorem Qiy{no G:Nat}{c:KP}(J:no≤G)(h:okK no c):okK G c:=by
 grind [okK]
theorem DX{l:List α}{x:α}:l.length≤(l++[x]).length:=by simp
theorem QeX{s:BS}(ht:ZM d y)(hb:Jw y.Name=true)(hN:1≤y.N∧y.N≤7)(h:IV s)(hg:(YS y s).dg=[]):IV (YS y s) ∧
  (YS y s).cs.length=s.cs.length+(if y.N=1∨y.N=2 then 1 else 0)∧(YS y s).os.length=s.os.length+(if y.N=3 then 1 else 0)∧(YS y s).ks.length=s.ks.length+(if y.N=4 then 1 else 0)∧(YS y s).gs.length=s.gs.length+(if y.N=5 then 1 else 0)∧(YS y s).bs.length=s.bs.length+(if y.N=6 then 1 else 0):=by
 obtain⟨ac,hg⟩:=good_step hg;unfold twB at ac;rw[Bool.or_eq_false_iff] at ac;obtain⟨hw,ac⟩:=ac;obtain⟨⟨o1,o2,o3,o4,o5,o6,o7⟩,O,G,af⟩:=h;rcases hg with⟨h7,e⟩|⟨h7,hr,q,hq,e⟩
 ·rw[e,h7];refine⟨⟨⟨o1,o2,o3,o4,o5,o6,o7⟩,?_,G,fun w ak=>?_⟩,rfl,rfl,rfl,rfl,rfl⟩
  ·show(s.fd||Qp y.N 1)=true↔_;rw[h7,show Qp 7 1=false from rfl,Bool.or_false];exact O
  ·show VN (Qt Qd y.Name true s.nm) w=true;rw[Ew,af w ak,Bool.true_or]
 obtain⟨hh,R,hm,hl⟩:=QeW ht hq;have M:∀{ks:List Int} {w:List UInt8},(ks,w)∈needT→ks.contains y.N=true→VN hh w=true:=fun a b=>QbG hm a b
 unfold jq at hl;rw[Bool.or_eq_false_iff] at hl;obtain⟨l1,l2⟩:=hl
 have ad:okW q.1.Cable:=by
  cases e2:VN hh Nk
  ·exact .inl<|R.cold e2
  ·rw[e2,Bool.true_and] at l1;have l1:(!QC q.1.Cable.Ambient q.1.Cable.Most)=false:=l1;simp only[QC,Bool.not_eq_false',Pd] at l1;exact .inr ⟨R.thermal e2,l1⟩
 rw[e];have hp:∀{L2:List (List UInt8)},L2.Perm (y.Name::Kj s.site)→(∀v∈L2,VN (Qt Qd y.Name true s.nm) v=true)∧(∀v∈L2,Jw v=true)∧L2.Nodup:=fun hp=>iH af o6 o7 hw hb hp
 obtain⟨cs,os,ks,gs,bs,fd,dg,nm,th⟩:=s;simp only[BS.site] at o1 o2 o3 o4 o5 o6 o7 af hp O G hw ac R;rw[show Z8 y (⟨cs,os,ks,gs,bs,fd,dg,nm,th⟩:BS)=⟨cs,os,ks,gs,bs,fd||Qp y.N 1,dg,Qt Qd y.Name true nm,th⟩ from rfl];unfold FX DL;dsimp only;by_cases c1:y.N=1
 ·rw[if_pos c1]
  have hf:fd=false:=by
   grind [Qp]
  have am:cs=[]:=by
   grind
  subst am;have ab:=R.limit (M (ks:=[1,2]) (by simp[needT])<|zc);have aa:=R.neutral (M (ks:=[1,2]) (by simp[needT])<|zc);obtain⟨Z,Y,p3⟩:=hp (Nn (A:=([]:List Z0).map (·.Name)) (B:=os.map (·.Name)++ks.map (·.Name)++gs.map (·.Name)++bs.map (·.Name)) rfl<|by rfl);refine⟨⟨⟨QhP o1 ⟨⟨fun _=>rfl,fun h=>absurd h zq⟩,ab,aa,R.fuse,ad⟩,o2,o3,fun c hc=>bO DX (KD _)<|o4 c hc,o5,fun v J=>Y v (by assumption),by assumption⟩,⟨fun _=>by simp,fun _=>by simp[c1,Qp]⟩,Nl G DX (KD _) (KD _) (by simp[c1,Qp];try omega),fun v J=>Z v<|by assumption⟩,?_⟩;simp[c1]
 rw[if_neg c1];by_cases c2:y.N=2
 ·rw[if_pos c2];have aw:=R.frm (M (ks:=[2]) (by simp[needT])<|zc);have ao:=(qI G).1 aw;have al:cs≠[]:=by grind
  have ab:=R.limit (M (ks:=[1,2]) (by simp[needT])<|zc);have aa:=R.neutral (M (ks:=[1,2]) (by simp[needT])<|zc);obtain⟨Z,Y,p3⟩:=hp (Nn (A:=cs.map (·.Name)) (B:=os.map (·.Name)++ks.map (·.Name)++gs.map (·.Name)++bs.map (·.Name)) rfl<|by simp[Kj]);refine⟨⟨⟨QhP o1 ⟨⟨fun h=>absurd (List.length_eq_zero_iff.1 h) al,fun _=>ao⟩,ab,aa,R.fuse,ad⟩,o2,o3,fun c hc=>bO DX (KD _)<|o4 c hc,o5,fun v J=>Y v (by simpa [Kj,BS.site,Z8] using J),by simpa [Kj,BS.site,Z8] using p3⟩,⟨fun _=>by simp,fun _=>by grind⟩,Nl G DX (KD _) (KD _) (by simp[c2,Qp];try omega),fun v J=>Z v<|by simpa [Kj,BS.site,Z8] using J⟩,?_⟩;simp[c2]
 rw[if_neg c2];by_cases c3:y.N=3
 ·rw[if_pos c3];obtain⟨Z,Y,p3⟩:=hp (Nn (A:=cs.map (·.Name)++os.map (·.Name)) (B:=ks.map (·.Name)++gs.map (·.Name)++bs.map (·.Name)) rfl<|by simp[Kj]);refine⟨⟨⟨o1,fun c hc=>Qiy DX<|o2 c hc,o3,fun c hc=>bO (KD _) DX<|o4 c hc,o5,fun v J=>Y v (by simpa [Kj,BS.site,Z8] using J),by simpa [Kj,BS.site,Z8] using p3⟩,by simp only[c3];rw[show Qp 3 1=false from rfl,Bool.or_false];exact O,Nl G (KD _) DX (KD _) (by simp[c3,Qp];try omega),fun v J=>Z v<|by simpa [Kj,BS.site,Z8] using J⟩,?_⟩;simp[c3]
 rw[if_neg c3];by_cases c4:y.N=4
 ·rw[if_pos c4];have U:=R.owner (M (ks:=[4,5]) (by simp[needT])<|zc);have aj:=R.rank (M (ks:=[4]) (by simp[needT])<|zc);have ah:=R.card (M (ks:=[4]) (by simp[needT])<|zc);have ae:=(qI G).2.1 U.1;obtain⟨Z,Y,p3⟩:=hp (Nn (A:=cs.map (·.Name)++os.map (·.Name)++ks.map (·.Name)) (B:=gs.map (·.Name)++bs.map (·.Name)) rfl<|by simp[Kj]);refine⟨⟨⟨o1,jO o2 ⟨ae,aj,ah.1⟩,List.pairwise_append.2 ⟨o3,List.pairwise_singleton _ _,fun a ha b hb=>by grind⟩,o4,o5,fun v J=>Y v (by simpa [Kj,BS.site,Z8] using J),by simpa [Kj,BS.site,Z8] using p3⟩,by simp only[c4];rw[show Qp 4 1=false from rfl,Bool.or_false];exact O,Nl G (KD _) (KD _) (KD _) zo,fun v J=>Z v<|by simpa [Kj,BS.site,Z8] using J⟩,?_⟩;simp[c4]
 rw[if_neg c4];by_cases c5:y.N=5
 ·rw[if_pos c5];have U:=R.owner (M (ks:=[4,5]) (by simp[needT])<|zc);have av:=R.at_ (M (ks:=[5]) (by simp[needT])<|zc);have aq:=R.phases (M (ks:=[5]) (by simp[needT])<|zc);have ai:=R.amps (M (ks:=[5]) (by simp[needT])<|zc);have ay:=R.fallback (M (ks:=[5]) (by simp[needT])<|zc);have ae:=(qI G).2.1 U.2;have an:=(qI G).1 av
  have au:q.2.2.1.Min≤q.2.2.1.Max∧(q.2.2.1.Fallback=0∨(q.2.2.1.Min≤q.2.2.1.Fallback∧q.2.2.1.Fallback≤q.2.2.1.Max)):=by
   grind [pG,Qp,leI]
  obtain⟨Z,Y,p3⟩:=hp (Nn (A:=cs.map (·.Name)++os.map (·.Name)++ks.map (·.Name)++gs.map (·.Name)) (B:=bs.map (·.Name)) rfl<|by rfl);refine⟨⟨⟨o1,o2,o3,jO o4 ⟨an,ae,aq,ai.1,ai.2.1,ai.2.2,ay,au⟩,fun c hc=>⟨(o5 c hc).1,Int.lt_of_lt_of_le (o5 c hc).2 (Int.ofNat_le.2 DX)⟩,fun v J=>Y v (by simpa [Kj,BS.site,Z8] using J),by simpa [Kj,BS.site,Z8] using p3⟩,by simp only[c5];rw[show Qp 5 1=false from rfl,Bool.or_false];exact O,Nl G (KD _) (KD _) DX (by simp[c5,Qp];try omega),fun v J=>Z v<|by simpa [Kj,BS.site,Z8] using J⟩,?_⟩;simp[c5]
 rw[if_neg c5];by_cases c6:y.N=6
 ·rw[if_pos c6];have ar:=R.charger (M (ks:=[6]) (by simp[needT])<|zc);have ax:=(qI G).2.2 ar;obtain⟨Z,Y,p3⟩:=hp (Nn (A:=cs.map (·.Name)++os.map (·.Name)++ks.map (·.Name)++gs.map (·.Name)++bs.map (·.Name)) (B:=[]) rfl<|by simp[Kj]);refine⟨⟨⟨o1,o2,o3,o4,jO o5 ax,fun v J=>Y v (by simpa [Kj,BS.site,Z8] using J),by simpa [Kj,BS.site,Z8] using p3⟩,by simp only[c6];rw[show Qp 6 1=false from rfl,Bool.or_false];exact O,Nl G (KD _) (KD _) (KD _) zo,fun v J=>Z v<|by simpa [Kj,BS.site,Z8] using J⟩,?_⟩;simp[c6]
 omega
theorem QbH{d:Nat}:∀{l:List GN} {s:BS},(∀y∈l,ZM d y∧Jw y.Name=true∧1≤y.N∧y.N≤7)→IV s→(runF l s).dg=[]→IV (runF l s) ∧
  (runF l s).cs.length=s.cs.length+l.countP (fun y=>decide (y.N=1∨y.N=2))∧(runF l s).os.length=s.os.length+l.countP (fun y=>decide (y.N=3))∧(runF l s).ks.length=s.ks.length+l.countP (fun y=>decide (y.N=4))∧(runF l s).gs.length=s.gs.length+l.countP (fun y=>decide (y.N=5))∧(runF l s).bs.length=s.bs.length+l.countP (fun y=>decide (y.N=6))
|[],s,_,h,_=>⟨h,by simp[runF],by simp[runF],by simp[runF],by simp[runF],by simp[runF]⟩
|y::l,s,J,h,G=>by
  obtain⟨U,O⟩:=bL G;obtain⟨t1,t2,t3⟩:=J y zq;obtain⟨g,g1,g2,g3,g4,g5⟩:=QeX t1 t2 t3 h U;rw[O] at G ⊢;obtain⟨k,k1,Z,k3,k4,k5⟩:=QbH (fun z Y=>J z<|by simp[Y]) g G
  grind
theorem step_loop{R V:Type}{B:(V→Option R)→V→Option R}{E:Option R}{f:Nat→V}{k:Nat}(hs:∀rec (i:Nat),i<k→B rec (f i)=rec (f<|i+1))(G:∀rec,B rec (f k)=E):∀{n:Nat} (i:Nat),i≤k→k-i<n→QB B n (f i)=E
|0,_,_,h=>absurd h<|Nat.not_lt_zero _
|n+1,i,hi,h=>by
  unfold QB;by_cases c:i<k
  ·rw[hs _ i c];exact step_loop hs G (i+1) c zo
  grind
theorem PK{x lo hi:Int}(h:lo≤x∧x≤hi):QA n (⟨lo,hi⟩:ZW) x=some true:=by
 simp_all [QA,Oh,KJ]
theorem Qiz{f:Ba}(h:okF f):R6 ((Qp f.Rated 0)&&((Qp f.Heat 0)&&true))=true∨(R6 ((Qp f.Rated 0)&&((Qp f.Heat 0)&&true))=false∧(1≤f.Rated∧f.Rated≤1000)∧0≤f.Heat∧f.Heat≤1000000):=by
 rcases h with⟨J,G⟩|⟨J,G⟩
 ·left;rw[J,G];rfl
 grind
theorem QeY{c:Yl}(h:okW c):R6 ((Qp c.Ambient 0)&&((Qp c.Most 0)&&((Qp c.Gain 0)&&((Qp c.Loss 0)&&((Qp c.Den 0)&&true)))))=true∨(R6 ((Qp c.Ambient 0)&&((Qp c.Most 0)&&((Qp c.Gain 0)&&((Qp c.Loss 0)&&((Qp c.Den 0)&&true)))))=false∧((0≤c.Ambient∧c.Ambient≤200000)∧(0≤c.Most∧c.Most≤200000)∧(0≤c.Gain∧c.Gain≤1000)∧(0≤c.Loss∧c.Loss≤1000)∧1≤c.Den∧c.Den≤1000000)∧c.Ambient<c.Most):=by
 rcases h with rfl|h
 ·left;rfl
 grind
theorem QiA{c:Z0}(h:okC c i):YJ n c (i:Int)=some true:=by
 obtain⟨⟨O,Z⟩,h2,U,h4,Y⟩:=h;unfold YJ
 have hu:(cond (Qp (i:Int) 0) (cond (!Qp c.Up (-1)) (some true)<|cond (QC 0 (i:Int)) (cond (QC c.Up 0) (some true)<|some<|leI (i:Int) c.Up)<|some false)<|cond (QC 0 (i:Int)) (cond (QC c.Up 0) (some true)<|some<|leI (i:Int) c.Up)<|some false)=some false:=by
  by_cases h0:i=0
  ·subst h0;rw[O rfl];rfl
  ·have hi:=Z zo
   simp_all [QhQ,Kt,Fz,KJ,V9,qY]
 rw[hu,Zm,Kt,PK h2,Zm,Bool.not_true,Kt,PK U,Zm,Zm,Bool.not_true,Kt]
 have hf:(cond (!R6 ((Qp c.Fuse.Rated 0)&&((Qp c.Fuse.Heat 0)&&true))) ((QA n (⟨1,1000⟩:ZW) c.Fuse.Rated).bind fun G=>cond G ((QA n (⟨0,1000000⟩:ZW) c.Fuse.Heat).bind fun J=>some (!J))<|some true)<|some false)=some false:=by
  grind [Qiz,PK]
 rw[hf,Zm,Kt];rcases QeY Y with e|⟨e,⟨e1,e2,e3,e4,e5⟩,e6⟩
 ·rw[e];rfl
 simp_all [VJ,Kt,PK,Zm,KJ,Fz]
theorem jP(h:k≤1000):wi ((k:Int)-1)=(k:Int)-1:=Zh zo zo
theorem QkW{s:Qk}{c:Kz}(h:okG s.Conductors.length s.Owners.length c)(G:s.Conductors.length≤1000)(h2:s.Owners.length≤1000):Vt n s c=some true:=by
 obtain⟨a1,a2,J,a4,Y,O,U,Z,a9⟩:=h;unfold Vt;simp only[Qc,WF];rw[jP G,jP h2,PK zo,Zm,KJ,PK zo,Zm,KJ,PK J,Zm,KJ,PK a4,Zm,KJ,PK Y,Zm,KJ,PK O,Zm,KJ,PK U,Zm,KJ];unfold YD;rw[Oh Z,KJ]
 grind [Qp,Oh]
theorem bP{L:List α}(hi:i<L.length):L.take (i+1)=L.take i++[L[i]]:=by
 simp
theorem L9{L:List α}{nm:α→List UInt8}{cs:α→List PV}{B:(List (List UInt8)×Int→Option (List<|List UInt8))→List (List UInt8)×Int→Option (List<|List UInt8)}{acc:List (List UInt8)}(G:∀rec a i,B rec (a,i)=cond (QC i<|Qc<|L.map cs) ((QT L i).bind fun x=>cond (QX (List.length<|a++[nm x]) 16) (rec (a++[nm x],wi<|i+1)) none) (some a))(O:L.length≤50)(U:acc.length≤500)(J:2000≤n):QB B n (acc,0)=some (acc++L.map nm):=by
 have:=step_loop (B:=B) (E:=some<|acc++L.map nm) (k:=L.length) (f:=fun i=>(acc++(L.take i).map nm,(i:Int))) (fun rec i hi=>?_) (fun rec=>?_) (n:=n) 0 zo zo
 ·grind
 ·rw[G];simp only[Qc,WF];rw[Fz zo,KJ,Q6,List.getElem?_eq_getElem hi,Zm,Zh zo zo]
  grind [List.map,List.take,QX,List.length,bP,List.append_assoc]
 simp_all [Qc,WF,V9,Kt,List.take_length]
theorem bQ{l:List (List UInt8)}(h:l.Nodup)(hi:i<l.length):l[i]∉l.take i:=by
 grind [List.mem_iff_getElem,List.length_take,List.getElem_inj]
def AU(s:Qk):Prop:=s.Conductors.length≤16∧s.Owners.length≤8∧s.Contracts.length≤32∧s.Chargers.length≤16∧s.Bays.length≤24
theorem bR{s:Qk}(h:AU s):(Kj s).length≤100:=by
 grind [AU,Kj]
theorem QeZ{s:Qk}(hf:AU s)(G:2000≤n):XL n s=some (Kj s):=by
 obtain⟨f1,f2,f3,f4,f5⟩:=hf;unfold XL;refine(congrArg (fun q=>Option.bind q _) (L9 (L:=s.Conductors) (nm:=(·.Name)) (acc:=[]) (B:=fun rec (v:List (List UInt8)×Int)=>Xj s rec v.1 v.2) (fun _ _ _=>rfl) zo zq G)).trans ?_;rw[Zm];refine(congrArg (fun q=>Option.bind q _) (L9 (L:=s.Owners) (nm:=(·.Name)) (acc:=([]++s.Conductors.map (·.Name))) (B:=fun rec (v:List (List UInt8)×Int)=>Xk s rec v.1 v.2) (fun _ _ _=>rfl) zo zc G)).trans ?_;rw[Zm];refine(congrArg (fun q=>Option.bind q _) (L9 (L:=s.Contracts) (nm:=(·.Name)) (acc:=(([]++s.Conductors.map (·.Name))++s.Owners.map (·.Name))) (B:=fun rec (v:List (List UInt8)×Int)=>Xl s rec v.1 v.2) (fun _ _ _=>rfl) zo zc G)).trans ?_;rw[Zm];refine(congrArg (fun q=>Option.bind q _) (L9 (L:=s.Chargers) (nm:=(·.Name)) (acc:=((([]++s.Conductors.map (·.Name))++s.Owners.map (·.Name))++s.Contracts.map (·.Name))) (B:=fun rec (v:List (List UInt8)×Int)=>JM s rec v.1 v.2) (fun _ _ _=>rfl) zo zc G)).trans ?_;rw[Zm];refine(L9 (L:=s.Bays) (nm:=(·.Name)) (acc:=(((([]++s.Conductors.map (·.Name))++s.Owners.map (·.Name))++s.Contracts.map (·.Name))++s.Chargers.map (·.Name))) (B:=fun rec (v:List (List UInt8)×Int)=>JN s rec v.1 v.2) (fun _ _ _=>rfl) zo zc G).trans ?_;rw[List.nil_append];rfl
def gF(l:List KP):List (Int×Bool):=l.foldl (fun m c=>Qt Zr c.Card true m) []
theorem QiB(a b:Int):Zr a b=true↔a=b:=by
 unfold Zr Qp;simp
theorem wo:∀(l:List KP) (m:List (Int×Bool)) (z:Int),(∀c∈l,c.Card≠z)→QH Zr z false m=false→QH Zr z false (l.foldl (fun m c=>Qt Zr c.Card true m) m)=false
|[],m,z,_,h=>h
|c::l,m,z,hc,h=>by
  rw[List.foldl_cons];refine wo l _ z (fun a G=>hc a<|by simp[G]) ?_
  grind [QH,Zr,absurd,qH,QiB]
def gG(l:List (List UInt8)):Jo:=l.foldl (fun m w=>Qt Qd w true m) []
theorem ww:∀(l:List (List UInt8)) (m:Jo) (z:List UInt8),z∉l→QH Qd z false m=false→QH Qd z false (l.foldl (fun m w=>Qt Qd w true m) m)=false
|[],m,z,_,h=>h
|c::l,m,z,hc,h=>by
  rw[List.foldl_cons];simp only[List.mem_cons,not_or] at hc;refine ww l _ z hc.2 ?_;have:=Ew z c m
  grind [VN]
theorem Qe0{s:Qk}(h:bN s)(hf:AU s)(Y:2000≤n):Wv n s=some true:=by
 obtain⟨f1,f2,f3,f4,f5⟩:=hf;unfold Wv;refine step_loop (f:=fun i:Nat=>(i:Int)) (k:=s.Conductors.length) (fun rec i hi=>?_) (fun rec=>?_) 0 zo zo
 ·unfold YK;simp only[Qc,WF];rw[Fz zo,KJ,Q6,List.getElem?_eq_getElem hi,Zm,QiA<|h.c i _<|List.getElem?_eq_getElem hi,Zm,Bool.not_true,Kt,Zh zo zo];rfl
 unfold YK;simp only[Qc,WF];rw[V9 zo,Kt];unfold Yh;refine step_loop (B:=fun rec (v:Int×List (Int×Bool))=>K3 n s rec v.1 v.2) (f:=fun i:Nat=>((i:Int),gF<|s.Contracts.take i)) (k:=s.Contracts.length) (fun rec i hi=>?_) (fun rec=>?_) 0 zo zo
 ·unfold K3;simp only[Qc,WF];obtain⟨k1,G,O⟩:=h.k _ (List.getElem_mem hi)
  have e:QH Zr s.Contracts[i].Card false (gF<|s.Contracts.take i)=false:=by
   refine wo _ _ _ (fun c hc=>?_) rfl;obtain⟨j,J,e⟩:=List.mem_iff_getElem.1 hc;simp only[List.length_take] at J;rw[List.getElem_take] at e;rw[←e];exact List.pairwise_iff_getElem.1 h.kd j i zo hi zo
  have U:gF (s.Contracts.take<|i+1)=Qt Zr s.Contracts[i].Card true (gF<|s.Contracts.take i):=by
   grind [gF,bP]
  rw[Fz zo,KJ,Q6,List.getElem?_eq_getElem hi,Zm,jP zo,PK zo,Zm,Bool.not_true,Kt,PK G,Zm,Bool.not_true,Kt,PK O,Zm,Bool.not_true,Kt,e,Zm,Kt,Zh zo zo,U];rfl
 unfold K3;simp only[Qc,WF];rw[V9 zo,Kt];unfold Yg;refine step_loop (f:=fun i:Nat=>(i:Int)) (k:=s.Chargers.length) (fun rec i hi=>?_) (fun rec=>?_) 0 zo zo
 ·unfold Y7;simp only[Qc,WF];rw[Fz zo,KJ,Q6,List.getElem?_eq_getElem hi,Zm,QkW (h.g _<|List.getElem_mem hi) zo zo,Zm,Bool.not_true,Kt,Zh zo zo];rfl
 unfold Y7;simp only[Qc,WF];rw[V9 zo,Kt];unfold Yf;refine step_loop (f:=fun i:Nat=>(i:Int)) (k:=s.Bays.length) (fun rec i hi=>?_) (fun rec=>?_) 0 zo zo
 ·unfold Y6;simp only[Qc,WF];have k1:=h.b _<|List.getElem_mem hi;rw[Fz zo,KJ,Q6,List.getElem?_eq_getElem hi,Zm,jP zo,PK zo,Zm,Bool.not_true,Kt,Zh zo zo];rfl
 simp[Y6,Qc,WF,V9,Kt]
theorem qJ{s:Qk}(h:bN s)(hf:AU s)(Y:1≤s.Conductors.length)(J:2000≤n):JO n s=some true:=by
 have hp:=Qe0 h hf J;have G:=QeZ hf J;have Z:=bR hf;obtain⟨f1,f2,f3,f4,f5⟩:=hf;unfold JO;simp only[Qc,WF];rw[V9 zo,Kt,V9 zo,Kt,V9 zo,Kt,V9 zo,Kt,V9 zo,Kt,V9 zo,Zm,Kt,G,Zm];refine step_loop (B:=fun rec (v:Int×Jo)=>VK n s (Kj s) rec v.1 v.2) (f:=fun i:Nat=>((i:Int),gG<|(Kj s).take i)) (k:=(Kj s).length) (fun rec i hi=>?_) (fun rec=>?_) 0 zo zo
 ·unfold VK;simp only[Qc,WF];have e:QH Qd (Kj s)[i] false (gG<|(Kj s).take i)=false:=ww _ _ _ (bQ h.nd hi) rfl
  have U:gG ((Kj s).take<|i+1)=Qt Qd (Kj s)[i] true (gG<|(Kj s).take i):=by
   grind [gG,bP]
  have O:JV n (Kj s)[i]=some true:=by
   unfold JV;rw[QdA n _ zo,h.nm _<|List.getElem_mem hi];rfl
  rw[Fz zo,KJ,Q6,List.getElem?_eq_getElem hi,Zm,O,Zm,Bool.not_true,Kt,e,Zm,Kt,Zh zo zo,U];rfl
 simp_all [VK,Qc,V4,WF,V9,Kt]
def onB(s:Qk):Nat→Int→Nat→Bool
|0,_,_=>false
|k+1,c0,c=>if c0<0 then false else if c0=(c:Int) then true else match s.Conductors[c0.toNat]? with|some x=>onB s k x.Up c|none=>false
def HZ(s:Qk)(c0:Int)(c:Nat):Bool:=onB s (c0+1).toNat c0 c
theorem gH{s:Qk}(h:bN s){c:Nat}:∀(k1 G:Nat) (c0:Int),(c0+1).toNat≤k1→(c0+1).toNat≤G→onB s k1 c0 c=onB s G c0 c
|0,0,_,_,_=>rfl
|0,G+1,c0,J,O=>by grind [onB]
|k1+1,0,c0,J,O=>by grind [onB]
|k1+1,G+1,c0,J,O=>by
  simp only[onB];split
  ·rfl
  split
  ·rfl
  rename_i Z _;cases hx:s.Conductors[c0.toNat]? with
 |none=>rfl
 |some x =>
   obtain⟨⟨U,Y⟩,_⟩:=h.c _ _ hx
   have hu:x.Up<c0:=by
    omega
   exact gH h k1 G x.Up zo zo
theorem Ey{s:Qk}{c:Nat}(h:c0<0):HZ s c0 c=false:=by
 unfold HZ;rw[show(c0+1).toNat=0 from by omega];rfl
theorem wy{s:Qk}(h:0≤c0):HZ s c0 c0.toNat=true:=by
 unfold HZ;rw[show(c0+1).toNat=c0.toNat+1 from by omega]
 grind [onB]
theorem tX{s:Qk}(h:bN s){x:Z0}(h0:0≤c0)(G:s.Conductors[c0.toNat]?=some x):-1≤x.Up∧x.Up<c0:=by
 obtain⟨⟨O,J⟩,_⟩:=h.c _ _ G;omega
theorem Np{s:Qk}(h:bN s){c:Nat}{x:Z0}(h0:0≤c0)(J:s.Conductors[c0.toNat]?=some x)(G:c0≠(c:Int)):HZ s c0 c=HZ s x.Up c:=by
 obtain⟨O,U⟩:=tX h h0 J;unfold HZ;rw[show(c0+1).toNat=c0.toNat+1 from by omega];simp only[onB];rw[if_neg zo,if_neg G,J]
 grind [gH]
theorem jQ{s:Qk}(h:bN s){c:Nat}:∀(k:Nat) (c0:Int),(c0+1).toNat≤k→HZ s c0 c=true→(c:Int)≤c0
|0,c0,J,hw=>by grind [Ey]
|k+1,c0,J,hw=>by
  by_cases h0:c0<0
  ·grind [Ey]
  by_cases G:c0=(c:Int)
  ·omega
  cases hx:s.Conductors[c0.toNat]? with
 |none =>
   unfold HZ at hw;rw[show(c0+1).toNat=c0.toNat+1 from by omega] at hw
   grind [onB]
 |some x =>
   rw[Np h zo hx G] at hw;obtain⟨_,O⟩:=tX h zo hx;have:=jQ h k x.Up zo hw;omega
def PL(G:Int)(p:Nat):Bool:=!Qp (Xo .i64 G<|WU .i64 1 (p:Int)) 0
def ctr(s:Qk)(A:List Int)(c p i:Nat):Int:=match s.Chargers[i]?,A[i]? with|some g,some a=>if HZ s g.At c&&PL g.Phases p then a else 0|_,_=>0
def Rb(s:Qk)(A:List Int)(c p:Nat):Nat→Int|0=>0|i+1=>Rb s A c p i+ctr s A c p i
theorem Qe1{s:Qk}(G:∀a∈A,0≤a∧a≤80)(c p i:Nat):0≤ctr s A c p i∧ctr s A c p i≤80:=by
 unfold ctr;split
 ·rename_i g a O J;have:=G a<|List.mem_of_getElem? J;omega
 ·omega
theorem Ez{s:Qk}{A:List Int}(G:∀a∈A,0≤a∧a≤80)(c p:Nat):∀k:Nat,0≤Rb s A c p k∧Rb s A c p k≤80*(k:Int)
|0=>by simp[Rb]
|k+1=>by
  have J:=Ez (s:=s) G c p k;have O:=Qe1 (s:=s) G c p k
  grind [Rb]
def nt(b0 b1 b2:Bool)(a:Int)(x:Int×Int×Int):Int×Int×Int:=(if b0 then x.1+a else x.1,if b1 then x.2.1+a else x.2.1,if b2 then x.2.2+a else x.2.2)
theorem QkX{b0 b1 b2:Bool}{a:Int}{l:List (Int×Int×Int)}{x:Int×Int×Int}(J:l[k]?=some x)(U:0≤a∧a≤80)(G:0≤x.1∧x.1≤100000)(Y:0≤x.2.1∧x.2.1≤100000)(O:0≤x.2.2∧x.2.2≤100000) :
  cond b0
   (cond b1
    (cond b2
     (some<|List.set (List.set (List.set l k (wi<|x.1+a,x.2.1,x.2.2)) k (wi<|x.1+a,wi<|x.2.1+a,x.2.2)) k (wi<|x.1+a,wi<|x.2.1+a,wi<|x.2.2+a))
     (some<|List.set (List.set l k (wi<|x.1+a,x.2.1,x.2.2)) k (wi<|x.1+a,wi<|x.2.1+a,x.2.2)))
    (cond b2
     (some<|List.set (List.set l k (wi<|x.1+a,x.2.1,x.2.2)) k (wi<|x.1+a,x.2.1,wi<|x.2.2+a))
     (some<|List.set l k (wi<|x.1+a,x.2.1,x.2.2))))
   (cond b1
    (cond b2
     (some<|List.set (List.set l k (x.1,wi<|x.2.1+a,x.2.2)) k (x.1,wi<|x.2.1+a,wi<|x.2.2+a))
     (some<|List.set l k (x.1,wi<|x.2.1+a,x.2.2)))
    (cond b2
     (some<|List.set l k (x.1,x.2.1,wi<|x.2.2+a))
     (some l)))=some (l.set k<|nt b0 b1 b2 a x):=by
 have hid:l.set k x=l:=by
  apply List.ext_getElem?
  grind
 grind [nt,Zh,List.set_set]
theorem qK(b:Bool)(x a:Int):(if b=true then x+a else x)=x+(if b=true then a else 0):=by grind
def LdI(s:Qk)(A:List Int)(k:Nat)(l:List (Int×Int×Int)):Prop:=l.length=s.Conductors.length∧∀c<s.Conductors.length,l[c]?=some (Rb s A c 0 k,Rb s A c 1 k,Rb s A c 2 k)
def LdJ(s:Qk)(A:List Int)(k:Nat)(g:Kz)(a c':Int)(l:List (Int×Int×Int)):Prop:=l.length=s.Conductors.length∧∀c<s.Conductors.length,l[c]? = some (Rb s A c 0 k+(if HZ s g.At c&&!HZ s c' c&&PL g.Phases 0 then a else 0),Rb s A c 1 k+(if HZ s g.At c&&!HZ s c' c&&PL g.Phases 1 then a else 0),Rb s A c 2 k+(if HZ s g.At c&&!HZ s c' c&&PL g.Phases 2 then a else 0))
theorem bS{s:Qk}(hok:bN s)(Z:AU s)(ha:∀a∈A,0≤a∧a≤80)(ae:A.length=s.Chargers.length)(hn:9223372036854776000≤n) :
  Does (Vm n s A) (fun r=>r.2=0∧LdI s A s.Chargers.length r.1):=by
 obtain⟨f1,f2,f3,f4,f5⟩:=Z;unfold Vm;simp only[Qc,WF];rw[show MF (s.Conductors.length:Int) (s.Conductors.length:Int) 24=true from by grind [MF],KJ,Int.toNat_natCast]
 refine ZP (B:=fun rec (v:Int×List (Int×Int×Int))=>JX n s A rec v.1 v.2) (Q:=fun _ r=>r.2=0∧LdI s A s.Chargers.length r.1) (fun v=>s.Chargers.length-v.1.toNat)
  (fun v=>∃i:Nat,v.1=(i:Int)∧i≤s.Chargers.length∧LdI s A i v.2) ?_ ⟨0,rfl,Nat.zero_le _,by simp,fun c hc=>by rw[List.getElem?_replicate,if_pos hc];rfl⟩ zo
 rintro rec ⟨q,l⟩ ⟨i,hi,ad,hb⟩ J;simp only at hi hb J ⊢;subst hi;unfold JX;simp only[Qc,WF,Int.toNat_natCast] at J ⊢;by_cases c1:i<s.Chargers.length;rotate_left
 ·rw[V9 zo,Kt];have:i=s.Chargers.length:=by omega
  subst this;exact Qq ⟨rfl,hb⟩
 rw[Fz zo,KJ,Q6,List.getElem?_eq_getElem c1,Zm];obtain⟨⟨a1,a2⟩,_⟩:=hok.g _<|List.getElem_mem c1;have c2:i<A.length:=by omega
 have hA:=ha _<|List.getElem_mem c2
 refine ZP (B:=fun O (v:Int×List (Int×Int×Int))=>JW s A (i:Int) rec s.Chargers[i] O v.1 v.2) (Q:=fun _ r=>r.2=0∧LdI s A s.Chargers.length r.1) (fun v=>(v.1+1).toNat)
  (fun v=>-1≤v.1∧v.1<s.Conductors.length∧(∀c,HZ s v.1 c=true→HZ s s.Chargers[i].At c=true)∧LdJ s A i s.Chargers[i] A[i] v.1 v.2) ?_ ⟨by simp only;omega,a2,fun c h=>h,hb.1,fun c hc=>?_⟩ (by simp only;omega)
 rotate_left
 ·rw[hb.2 c hc];simp
 rintro O ⟨c,l⟩ ⟨b1,b2,b3,Y⟩ G;simp only at b1 b2 b3 Y G ⊢;unfold JW;by_cases c3:0≤c;rotate_left
 ·rw[qY zo,Kt,Zh zo zo];refine J _ ⟨i+1,by rfl,c1,Y.1,fun d U=>?_⟩ zo;rw[Y.2 d U];have hz:=Ey (s:=s) (c:=d) (show c<0 by omega);simp only[Rb,ctr,List.getElem?_eq_getElem c1,List.getElem?_eq_getElem c2,hz,Bool.not_false,Bool.and_true]
 ·rw[Oh c3,KJ];have aa:c.toNat<s.Conductors.length:=by omega
  have ab:=Y.2 c.toNat aa;have ac:(c:Int)=((c.toNat:Nat):Int):=by omega
  rw[show QT l c=l[c.toNat]? from by rw[ac,Q6,Int.toNat_natCast],ab,Zm,Q6,List.getElem?_eq_getElem c2,Zm];have r0:=Ez (s:=s) ha c.toNat 0 i;have r1:=Ez (s:=s) ha c.toNat 1 i;have r2:=Ez (s:=s) ha c.toNat 2 i;have hs:=QkX (b0:=PL s.Chargers[i].Phases 0) (b1:=PL s.Chargers[i].Phases 1) (b2:=PL s.Chargers[i].Phases 2) ab hA (by simp only;split<;>omega) (by simp only;split<;>omega) (by simp only;split<;>omega);unfold PL at hs;rw[show((0:Nat):Int)=0 from rfl,show((1:Nat):Int)=1 from rfl,show((2:Nat):Int)=2 from rfl] at hs;have hC:s.Conductors[c.toNat]?=some s.Conductors[c.toNat]:=List.getElem?_eq_getElem aa;refine ZO (Q:=fun l'=>l'=_) ⟨_,hs,rfl⟩ ?_;rintro _ rfl;rw[show QT s.Conductors c=s.Conductors[c.toNat]? from by rw[ac,Q6,Int.toNat_natCast],hC,Zm];obtain⟨u1,u2⟩:=tX hok c3 hC;refine G _ ⟨u1,by omega,fun d U=>?_,by simp[Y.1],fun d U=>?_⟩ zo
  ·by_cases e:c=(d:Int)
   ·have:=jQ hok _ _ (KD _) U;omega
   ·exact b3 d (by rw[Np hok c3 hC e];exact U)
  ·rw[List.getElem?_set];by_cases e:c.toNat=d
   ·subst e;rw[if_pos rfl,if_pos<|zc];have e1:HZ s c c.toNat=true:=wy c3;have e2:HZ s s.Chargers[i].At c.toNat=true:=b3 _ e1
    have e3:HZ s s.Conductors[c.toNat].Up c.toNat=false:=by
     cases hq:HZ s s.Conductors[c.toNat].Up c.toNat with
    |false=>rfl
    |true=>have:=jQ hok _ _ (KD _) hq;omega
    simp only[nt,PL,e1,e2,e3,Bool.not_true,Bool.not_false,Bool.and_false,Bool.false_and,Bool.true_and,Bool.and_true,Bool.false_eq_true,if_false,Int.add_zero];congr 1;exact Prod.ext (qK _ _ _)<|Prod.ext (qK _ _ _)<|qK _ _ _
   ·rw[if_neg e,Y.2 d U,Np hok c3 hC fun e2=>e zo]
def zC:Yl:=⟨0,0,0,0,0⟩
def Od(c:Yl):Int:=Xp c.Loss c.Den
def qL(c:Yl)(a:Int):Prop:=Od c*(c.Most-c.Ambient)<c.Gain*a*a
theorem QbI{x lo hi:Int}(J:lo≤x)(G:x≤hi):Y8 n x lo hi=some true:=by
 simp_all [Y8,Oh,KJ]
theorem QbJ{c:Yl}:Does (Ww n ⟨c,0⟩) (fun b=>(b=true→c=zC)∧(b=false→c≠zC)):=by
 unfold Ww;refine Qq ?_;obtain⟨a1,a2,J,G,O⟩:=c;simp only[R6,zC,Qp];simp
theorem iI{c:Yl}(h:okW c):UE n c=some true:=by
 unfold UE;rcases h with rfl|⟨⟨⟨O,h2⟩,⟨Z,h4⟩,⟨h5,J⟩,⟨h7,Y⟩,U,h10⟩,G⟩
 ·rfl
 simp_all [R6,QbI,Zm,KJ,Fz,Oh]
theorem jR{a b x y:Int}(O:0≤a)(U:a≤x)(G:0≤b)(J:b≤y):0≤a*b∧a*b≤x*y:=⟨Int.mul_nonneg O G,Int.mul_le_mul U J G zo⟩
theorem gI{c:Yl}(h:okW c)(hn:2000≤n) :
  Does (Wy n c) (fun r=>r.2=0∧0≤r.1∧r.1≤1000∧(c≠zC→∀a,r.1<a→a≤1000→qL c a)):=by
 unfold Wy;rw[iI h,Zm,Bool.not_true,Kt];refine ZO QbJ (fun b hb=>Kg (fun e=>Qq ⟨rfl,by simp,by simp,fun hc=>absurd (hb.1 e) hc⟩) fun e=>?_);have hz:=hb.2 e;rcases h with h|⟨⟨⟨h1,h2⟩,⟨h3,h4⟩,⟨Y,h6⟩,⟨h7,h8⟩,h9,h10⟩,aa⟩
 ·exact absurd h hz
 have Z:0≤Od c∧Od c≤1000:=by grind [Od,Xp]
 show Does ((Wx n ⟨c,0⟩).bind _) _;unfold Wx;rw[Zm];show Does ((QB (fun G (v:Int×Int)=>Yi c (Od c) G v.1 v.2) n (0,1000)).bind _) _;have hR:=jR Z.1 Z.2 (show 0≤c.Most-c.Ambient by omega) (show c.Most-c.Ambient≤200000 by omega);refine ZO (Q:=fun r=>0≤r∧r≤1000∧∀a,r<a→a≤1000→qL c a) ?_ fun r O=>Qq ⟨rfl,O.1,O.2.1,fun _=>O.2.2⟩;refine ZP (Q:=fun _ r=>0≤r∧r≤1000∧∀a,r<a→a≤1000→qL c a) (μ:=fun v:Int×Int=>(v.2-v.1).toNat) (Inv:=fun v:Int×Int=>0≤v.1∧v.1≤v.2∧v.2≤1000∧∀a,v.2<a→a≤1000→qL c a) ?_ ⟨by simp,by simp,by simp,fun a U q2=>by omega⟩ zo;rintro rec ⟨lo,hi⟩ ⟨i1,i2,i3,i4⟩ ih;simp only at i1 i2 i3 i4;show Does (Yi c (Od c) rec lo hi) _;unfold Yi;refine Kg (fun hc=>?_) fun hc=>?_;rotate_left
 ·grind [QC,Qq]
 have hc:lo<hi:=by grind [QC]
 rw[Zh (x:=hi-lo) zo zo,Zh (x:=hi-lo+1) zo zo,Int.tdiv_eq_ediv_of_nonneg zo];have J:∃m,lo+(hi-lo+1) / 2=m:=⟨_,rfl⟩;obtain⟨m,hm⟩:=J;rw[Zh (x:=(hi-lo+1) / 2) zo zo,hm,Zh (x:=m) zo zo];have g1:=jR Y h6 (show 0≤m by omega) (show m≤1000 by omega);have g2:=jR g1.1 g1.2 (show 0≤m by omega) (show m≤1000 by omega);rw[Zh (x:=c.Most-c.Ambient) zo zo,Zh (x:=c.Gain*m) zo zo,Zh (x:=c.Gain*m*m) zo zo,Zh (x:=Od c*(c.Most-c.Ambient)) zo zo,Zh (x:=m-1) zo zo];refine Kg (fun hq=>ih (m,hi) ⟨by omega,by omega,i3,i4⟩ zo) (fun hq=>ih (lo,m-1) ⟨i1,by omega,by omega,fun a U q2=>?_⟩ zo);have hq:¬c.Gain*m*m≤Od c*(c.Most-c.Ambient):=by grind [leI]
 simp only at U;unfold qL;have k1:c.Gain*m≤c.Gain*a:=Int.mul_le_mul_of_nonneg_left zo Y;have k2:c.Gain*m*m≤c.Gain*a*a:=Int.mul_le_mul k1 zo zo zo;omega
theorem qM{f:Int}{l:List Int}(Y:l.length≤10)(Z:2000≤n)(hf:0≤f∧f≤1000)(h:∀x∈l,0≤x∧x≤1000):Does (Jc n f l) (fun r=>0≤r∧r≤1000):=by
 unfold Jc;refine ZP (Q:=fun _ r=>0≤r∧r≤1000) (μ:=fun v:Int×Int=>l.length-v.2.toNat) (Inv:=fun v:Int×Int=>(0≤v.1∧v.1≤1000)∧∃i:Nat,v.2=(i:Int)∧i≤l.length) ?_ ⟨hf,0,rfl,Nat.zero_le _⟩ zo;rintro rec ⟨x,q⟩ ⟨G,i,hi,J⟩ O;simp only at G hi;subst hi;show Does (Wz l rec x i) _;unfold Wz;simp only[Qc,WF];refine Kg (fun hc=>?_) fun hc=>Qq G
 have hc:i<l.length:=by
  grind [QC]
 rw[Q6,List.getElem?_eq_getElem hc,Zm];have U:=h _<|List.getElem_mem hc;refine O _ ⟨by grind [Xp],i+1,by grind [Zh],by omega⟩ ?_
 grind [Zh]
theorem qN{c:Z0}(h:okC c i)(J:2000≤n):Does (KG n c) (fun r=>0≤r∧r≤1000):=by
 obtain⟨_,⟨l1,l2⟩,⟨l3,l4⟩,hF,Z⟩:=h;unfold KG;refine ZO (gI Z J) fun r G=>?_;obtain⟨e1,e2,e3,_⟩:=G;rw[e1,show(!Qp 0 0)=false from rfl,Kt,Zm];refine Kg (fun hc=>?_) fun hc=>?_
 ·refine ZO (qM zq J ⟨by omega,l2⟩ ?_) (fun r G=>Qq G)
  grind
 ·refine ZO (qM zq J ⟨by omega,l2⟩ ?_) fun r G=>Qq G;intro x O;simp at O;have:0≤c.Fuse.Rated∧c.Fuse.Rated≤1000:=by rcases hF with⟨Y,U⟩|⟨⟨Y,U⟩,h3⟩<;>omega
  omega
def BA(s:Qk)(A:List Int):Prop:=A.length=s.Chargers.length∧∀a∈A,0≤a∧a≤80
theorem Oe{s:Qk}(hok:bN s)(G:AU s)(O:1≤s.Conductors.length)(hA:A.length≤1000000)(hn:9223372036854776000≤n) :
  Does (X9 n s A) (fun r=>(¬BA s A∧r.2=1)∨(BA s A∧r.2=0∧LdI s A s.Chargers.length r.1)):=by
 unfold X9;rw[qJ hok G O zo,Zm,Bool.not_true,Kt,Zm];simp only[Qc,WF];by_cases J:A.length=s.Chargers.length;rotate_left
 ·rw[show(!Qp (A.length:Int) (s.Chargers.length:Int))=true from by simp[Qp];omega,KJ];exact Qq<|.inl ⟨fun h=>J h.1,rfl⟩
 rw[J,show(!Qp (s.Chargers.length:Int) (s.Chargers.length:Int))=false from by simp[Qp],Kt];refine ZP (B:=fun rec (v:Int)=>Jb n s A rec v) (Q:=fun _ r=>(¬BA s A∧r.2=1)∨(BA s A∧r.2=0∧LdI s A s.Chargers.length r.1)) (μ:=fun v:Int=>A.length-v.toNat) (Inv:=fun v:Int=>∃i:Nat,v=(i:Int)∧i≤A.length∧∀j (U:j<A.length),j<i→0≤A[j]∧A[j]≤80) ?_ ⟨0,rfl,Nat.zero_le _,fun j _ h=>by omega⟩ zo;rintro rec q ⟨i,rfl,hi,Z⟩ ih;unfold Jb;simp only[Qc,WF];refine Kg (fun hc=>?_) fun hc=>?_
 ·have hc:i<A.length:=by
   grind [QC]
  rw[Q6,List.getElem?_eq_getElem hc,Zm];by_cases hb:0≤A[i]∧A[i]≤80
  ·rw[V9 zo,Kt,V9 zo,Zm,Kt,Zh zo zo];refine ih _ ⟨i+1,by omega,hc,fun j U aa=>?_⟩ zo
   grind
  ·have:cond (QC A[i] 0) (some true) (some<|QC 80 A[i])=some true:=by
    by_cases e:A[i]<0
    ·rw[Fz e,KJ]
    ·rw[V9 e,Kt,Fz zo]
   rw[this,Zm,KJ];exact Qq<|.inl ⟨fun h=>hb<|h.2 _<|List.getElem_mem hc,rfl⟩
 ·have hc:¬i<A.length:=by
   grind [QC]
  have Y:∀a∈A,0≤a∧a≤80:=by
   intro a h;obtain⟨j,U,rfl⟩:=List.getElem_of_mem h
   grind
  exact Vj (bS hok G Y J hn) fun r hr=>.inr ⟨⟨J,Y⟩,hr⟩
def QbK(n:Nat)(s:Qk)(A:List Int)(v:Zq):Prop:=∃(c p:Nat) (h:c<s.Conductors.length) (G:Int),p<3∧v=⟨(c:Int),(p:Int),Rb s A c p s.Chargers.length⟩∧KG n s.Conductors[c]=some G∧G<Rb s A c p s.Chargers.length
def qg(n:Nat)(s:Qk)(A:List Int)(k:Nat):Prop:=∀(c p:Nat) (h:c<s.Conductors.length) (G:Int),c<k→p<3→KG n s.Conductors[c]=some G→Rb s A c p s.Chargers.length≤G
theorem bT{s:Qk}(hok:bN s)(O:AU s)(aa:1≤s.Conductors.length)(hA:A.length≤1000000)(hn:9223372036854776000≤n) :
  Does (XM n s A) (fun r=>(¬BA s A∧r=(⟨0,0,0⟩,false,1))∨(BA s A∧r=(⟨0,0,0⟩,false,0)∧qg n s A s.Conductors.length)∨(BA s A∧r.2=(true,0)∧QbK n s A r.1)):=by
 unfold XM;refine ZO (Oe hok O aa hA hn) ?_;rintro⟨L,e⟩ (⟨h1,Z⟩|⟨h1,Z,h3⟩)
 ·simp only at Z;subst Z;exact Qq<|.inl ⟨h1,rfl⟩
 simp only at Z h3;subst Z;rw[show(!Qp ((L,(0:Int)).2) 0)=false from rfl,Kt];refine Vj (Q:=fun r=>(r=((⟨0,0,0⟩:Zq),false,0)∧qg n s A s.Conductors.length)∨(r.2=(true,0)∧QbK n s A r.1)) ?_ (fun r hr=>by rcases hr with h|h;exact .inr<|.inl ⟨h1,h⟩;exact .inr<|.inr ⟨h1,h⟩);refine ZP (B:=fun rec (v:Int)=>WA n s (L,0) rec v) (Q:=fun _ r=>(r=((⟨0,0,0⟩:Zq),false,0)∧qg n s A s.Conductors.length)∨(r.2=(true,0)∧QbK n s A r.1)) (μ:=fun v:Int=>s.Conductors.length-v.toNat) (Inv:=fun v:Int=>∃i:Nat,v=(i:Int)∧i≤s.Conductors.length∧qg n s A i) ?_ ⟨0,rfl,Nat.zero_le _,fun c p h G hc=>by omega⟩ (by have:=O.1;omega);rintro rec q ⟨i,rfl,hi,U⟩ ih;unfold WA;simp only[Qc,WF];refine Kg (fun hc=>?_) fun hc=>?_;rotate_left
 ·have hc:¬i<s.Conductors.length:=by
   grind [QC]
  have:i=s.Conductors.length:=by omega
  subst this;exact Qq<|.inl ⟨rfl,U⟩
 have hc:i<s.Conductors.length:=by
  grind [QC]
 have hx:=h3.2 i hc;obtain⟨G,J,ad,ab⟩:=qN (n:=n) (hok.c i _<|List.getElem?_eq_getElem hc) zo;rw[show QT L (i:Int)=L[i]? from Q6,hx,show QT s.Conductors (i:Int)=some s.Conductors[i] from by rw[Q6,List.getElem?_eq_getElem hc]];simp only[Zm,J];refine Kg (fun hq=>?_) fun h0=>?_
 ·exact Qq (.inr ⟨rfl,i,0,hc,G,by omega,rfl,J,by grind [QC]⟩)
 refine Kg (fun hq=>?_) fun ac=>?_
 ·exact Qq (.inr ⟨rfl,i,1,hc,G,by omega,rfl,J,by grind [QC]⟩)
 refine Kg (fun hq=>?_) fun ae=>?_
 ·exact Qq (.inr ⟨rfl,i,2,hc,G,by omega,rfl,J,by grind [QC]⟩)
 have q0:¬G<Rb s A i 0 s.Chargers.length:=by grind [QC]
 have q1:¬G<Rb s A i 1 s.Chargers.length:=by grind [QC]
 have q2:¬G<Rb s A i 2 s.Chargers.length:=by grind [QC]
 rw[Zh zo (by have:=O.1;omega)];refine ih _ ⟨i+1,by omega,hc,fun c p h Y af hp hl=>?_⟩ zo;by_cases e:c=i
 ·grind
 ·exact U c p h Y zo hp hl
def YX(s:Qk)(c:Nat):Nat→List Int
|0=>[]
|k+1=>match s.Chargers[k]? with|some g=>if HZ s g.At c then YX s c k++[(k:Int)] else YX s c k|none=>YX s c k
theorem DY{s:Qk}{c:Nat}:∀{k:Nat} {v:Int},v∈YX s c k→∃(i:Nat) (g:Kz),v=(i:Int)∧i<k∧s.Chargers[i]?=some g∧HZ s g.At c=true
|k+1,v,h=>by
  simp only[YX] at h;split at h
  ·rename_i g Y;split at h
   ·rename_i hw;rcases List.mem_append.1 h with h|h
    ·obtain⟨i,U,G,O,J⟩:=DY h
     grind
    grind
   ·obtain⟨i,U,G,O,J⟩:=DY h
    grind
  ·obtain⟨i,U,G,O,J⟩:=DY h
   grind
theorem wz{s:Qk}{c:Nat}{g:Kz}{i:Nat}(G:s.Chargers[i]?=some g)(hw:HZ s g.At c=true):∀{k:Nat},i<k→(i:Int)∈YX s c k
|k+1,h=>by
  simp only[YX];by_cases e:i=k
  ·grind
  ·have:=wz G hw (k:=k) zo
   grind
theorem PM{s:Qk}{c:Nat}:∀k:Nat,(YX s c k).length≤k
|0=>by simp[YX]
|k+1=>by
  have:=PM (s:=s) (c:=c) k
  grind [YX]
theorem QbL{s:Qk}{c:Nat}(hok:bN s):∀(c0:Int),-1≤c0→c0<s.Conductors.length→(c0+2).toNat<n→Does (QB (fun rec l=>Jd s (c:Int) rec l) n c0) (fun b=>b=HZ s c0 c):=by
 intro c0 U Y Z;refine ZP (Q:=fun v b=>b=HZ s v c) (μ:=fun v:Int=>(v+1).toNat) (Inv:=fun v:Int=>-1≤v∧v<s.Conductors.length) ?_ ⟨U,Y⟩ zo;rintro rec v ⟨v1,v2⟩ ih;unfold Jd V5;by_cases h0:0≤v;rotate_left
 ·simp_all [qY,Kt,Qq,Ey]
 rw[Oh h0,KJ];by_cases J:v=(c:Int)
 ·subst J;rw[show Qp (c:Int) (c:Int)=true from by simp[Qp],KJ]
  grind [Qq,wy,Int.toNat_natCast]
 ·rw[show Qp v (c:Int)=false from by simp[Qp,J],Kt];have G:v.toNat<s.Conductors.length:=by omega
  have O:s.Conductors[v.toNat]?=some s.Conductors[v.toNat]:=List.getElem?_eq_getElem G;rw[show QT s.Conductors v=s.Conductors[v.toNat]? from by grind [QT],O,Zm];obtain⟨u1,u2⟩:=tX hok h0 O
  grind [Np]
theorem bU{s:Qk}{c:Nat}(hok:bN s)(G:AU s)(aa:c<s.Conductors.length)(hn:9223372036854776000≤n) :
  Ua n s (c:Int)=some (YX s c s.Chargers.length,0):=by
 have key:Does (Ua n s (c:Int)) (fun r=>r=(YX s c s.Chargers.length,0)):=by
  unfold Ua;rw[qJ hok G zo zo,Zm,Bool.not_true,Kt,V9 zo,Kt];simp only[Qc,WF];rw[qY zo,Zm,Kt];obtain⟨f1,_,_,f4,_⟩:=G;refine ZP (B:=fun rec (v:List Int×Int)=>V6 n s (c:Int) rec v.1 v.2) (Q:=fun _ r=>r=(YX s c s.Chargers.length,0)) (μ:=fun v:List Int×Int=>s.Chargers.length-v.2.toNat) (Inv:=fun v:List Int×Int=>∃i:Nat,v.2=(i:Int)∧i≤s.Chargers.length∧v.1=YX s c i) ?_ ⟨0,rfl,Nat.zero_le _,rfl⟩ zo;rintro rec ⟨l,q⟩ ⟨i,hi,Z,Y⟩ O;simp only at hi Y;subst hi Y;show Does (V6 n s (c:Int) rec (YX s c i) (i:Int)) _;unfold V6;simp only[Qc,WF];refine Kg (fun hc=>?_) fun hc=>?_;rotate_left
  ·have:i=s.Chargers.length:=by
    grind [QC]
   subst this;exact Qq rfl
  have hc:i<s.Chargers.length:=by
   grind [QC]
  have U:s.Chargers[i]?=some s.Chargers[i]:=List.getElem?_eq_getElem hc;obtain⟨⟨a1,a2⟩,_⟩:=hok.g _<|List.getElem_mem hc;rw[Q6,U,Zm];refine ZO (QbL hok _ zo a2 zo) ?_;rintro b rfl;have J:YX s c (i+1)=if HZ s s.Chargers[i].At c then YX s c i++[(i:Int)] else YX s c i:=by simp only[YX,U]
  rw[Zh zo zo];refine Kg (fun e=>?_) fun e=>?_
  ·rw[show QX (List.length<|YX s c i++[(i:Int)]) 8=true from by grind [QX,PM],KJ];exact O (YX s c i++[(i:Int)],(i:Int)+1) ⟨i+1,by rfl,hc,zc⟩ zo
  ·exact O (YX s c i,(i:Int)+1) ⟨i+1,by rfl,hc,zc⟩ zo
 obtain⟨r,h1,rfl⟩:=key;exact h1
def Fw(s:Qk)(p:Nat)(v:Int):Bool:=match s.Chargers[v.toNat]? with|some g=>PL g.Phases p|none=>false
def bV(s:Qk)(c p:Nat):List Int:=(YX s c s.Chargers.length).filter<|Fw s p
def jS(T:List Int):List Int→Int→List Int→List Int|[],_,o=>o|i::G,left,o=>if left-Xp ((T[i.toNat]?).getD 0) left=0 then o.set i.toNat (Xp ((T[i.toNat]?).getD 0) left) else jS T G (left-Xp ((T[i.toNat]?).getD 0) left) (o.set i.toNat<|Xp ((T[i.toNat]?).getD 0) left)
def GL(s:Qk)(B:List Int):Prop:=∀v∈B,∃(i:Nat) (g:Kz),v=(i:Int)∧s.Chargers[i]?=some g
theorem gJ{s:Qk}(G:s.Chargers[i]?=some g):Fw s p (i:Int)=PL g.Phases p:=by
 grind [Fw]
theorem iJ{s:Qk}{v:Zq}{B:List Int}(U:v.Phase=(p:Int))(G:GL s B)(hl:B.length≤1000)(hn:2000≤n) :
  Does (QB (fun rec l=>VQ s v (B,e) rec l) n 0) (fun j=>(j=-1∧B.filter (Fw s p)=B)∨∃k:Nat,j=(k:Int)∧k<B.length∧(B.take<|k+1).filter (Fw s p)=B.take k):=by
 refine ZP (Q:=fun _ j=>(j=-1∧B.filter (Fw s p)=B)∨∃k:Nat,j=(k:Int)∧k<B.length∧(B.take<|k+1).filter (Fw s p)=B.take k) (μ:=fun v:Int=>B.length-v.toNat) (Inv:=fun v:Int=>∃i:Nat,v=(i:Int)∧i≤B.length∧(B.take i).filter (Fw s p)=B.take i) ?_ ⟨0,rfl,Nat.zero_le _,by simp⟩ zo;rintro rec q ⟨i,rfl,hi,hf⟩ J;unfold VQ YQ;simp only[Qc,WF,List.nil_append];refine Kg (fun hc=>?_) fun hc=>?_;rotate_left
 ·have:i=B.length:=by
   grind [QC]
  subst this;exact Qq (.inl ⟨rfl,zc⟩)
 have hc:i<B.length:=by
  grind [QC]
 obtain⟨k,g,Y,O⟩:=G _<|List.getElem_mem hc;rw[Q6,List.getElem?_eq_getElem hc,Zm,Y,Q6,O,Zm,U,V9 zo,Bool.not_false,KJ];have hb:Fw s p B[i]=PL g.Phases p:=by grind [gJ]
 unfold PL at hb;have Z:B.take (i+1)=B.take i++[B[i]]:=by simp
 refine Kg (fun e=>?_) fun e=>?_
 ·refine Qq (.inr ⟨i,rfl,hc,?_⟩)
  grind
 ·rw[Zh zo zo];refine J _ ⟨i+1,by omega,hc,?_⟩ zo
  grind
theorem QbM{s:Qk}{v:Zq}{B:List Int}(hv:v.Phase=(p:Int))(hB:GL s B)(hl:B.length≤1000)(hn:2000≤n)(hk:k<B.length)(hf:(B.take<|k+1).filter (Fw s p)=B.take k) :
  Does (QB (fun rec (w:List Int×Int×Int)=>Yy s v rec w.1 w.2.1 w.2.2) n (B,(k:Int),(k:Int)+1)) (fun r=>∃i:Nat,r.2=(i:Int)∧i≤B.length∧r.1.length=B.length∧r.1.take i=B.filter (Fw s p)):=by
 refine ZP (Q:=fun _ (r:List Int×Int)=>∃i:Nat,r.2=(i:Int)∧i≤B.length∧r.1.length=B.length∧r.1.take i=B.filter (Fw s p)) (μ:=fun w:List Int×Int×Int=>B.length-w.2.2.toNat)
  (Inv:=fun w:List Int×Int×Int=>∃i j:Nat,w.2.1=(i:Int)∧w.2.2=(j:Int)∧i<j∧j≤B.length∧w.1.length=B.length∧w.1.take i=(B.take j).filter (Fw s p)∧w.1.drop j=B.drop j) ?_ ⟨k,k+1,rfl,by simp,by omega,hk,rfl,hf.symm,rfl⟩ zo
 rintro rec ⟨L,q1,q2⟩ ⟨i,j,h1,h2,ab,hj,J,ht,O⟩ ih;simp only at h1 h2 J ht O;subst h1 h2;show Does (Yy s v rec L (i:Int) (j:Int)) _;unfold Yy;simp only[Qc,WF];refine Kg (fun hc=>?_) fun hc=>?_;rotate_left
 ·have:j=B.length:=by
   grind [QC]
  subst this;exact Qq ⟨i,rfl,by omega,J,zc⟩
 have hc:j<L.length:=by
  grind [QC]
 have G:j<B.length:=by omega
 have U:L[j]=B[j]:=by
  have e1:(L.drop j)[0]?=(B.drop j)[0]?:=by rw[O]
  grind
 obtain⟨m,g,hm,hg⟩:=hB _<|List.getElem_mem G;rw[Q6,List.getElem?_eq_getElem hc,Zm,U,hm,Q6,hg,Zm,hv,V9 zo,Bool.not_false,KJ];have hb:Fw s p B[j]=PL g.Phases p:=by grind [gJ]
 unfold PL at hb;have aa:B.take (j+1)=B.take j++[B[j]]:=by simp
 have Y:L.drop (j+1)=B.drop (j+1):=by rw[←List.drop_drop,←List.drop_drop,O]
 have Z:i<L.length:=by omega
 rw[Zh (x:=(j:Int)+1) zo zo,Zh (x:=(i:Int)+1) zo zo];refine Kg (fun e=>?_) fun e=>?_
 ·rw[Q6,List.getElem?_eq_getElem Z,Zm,Int.toNat_natCast];refine ih (L.set i (m:Int),(i:Int)+1,(j:Int)+1) ⟨i+1,j+1,by rfl,by rfl,by omega,G,by simp[J],?_,?_⟩ (by simp only;omega)
  ·grind [List.take_add_one,List.getElem?_set_self,List.take_set,List.set_eq_of_length_le]
  grind [List.drop_set_of_lt]
 ·refine ih (L,(i:Int),(j:Int)+1) ⟨i,j+1,rfl,by rfl,by omega,G,J,?_,Y⟩ (by simp only;omega)
  grind
theorem iK{m:Nat}{T L:List Int}(hL:L.length=N)(hm:m≤N)(hN:N≤1000)(hT:∀a∈T,0≤a∧a≤80)(hp:∀v∈L.take m,∃i:Nat,v=(i:Int)∧i<T.length)(hn:2000≤n)(hl:0≤left∧left≤100000) :
  Does (QB (fun rec (w:List Int×Int×Int)=>YA T N m L rec w.1 w.2.1 w.2.2) n (List.replicate T.length 0,left,0)) (fun r=>r=jS T (L.take m) left (List.replicate T.length 0)):=by
 refine ZP (Q:=fun _ r=>r=jS T (L.take m) left (List.replicate T.length 0)) (μ:=fun w:List Int×Int×Int=>m-w.2.2.toNat)
  (Inv:=fun w:List Int×Int×Int=>∃i:Nat,w.2.2=(i:Int)∧i≤m∧w.1.length=T.length∧(0≤w.2.1∧w.2.1≤100000)∧jS T ((L.take m).drop i) w.2.1 w.1=jS T (L.take m) left (List.replicate T.length 0)) ?_ ⟨0,rfl,Nat.zero_le _,by simp,hl,rfl⟩ zo
 rintro rec ⟨o,le,q⟩ ⟨i,h1,ac,Z,U,G⟩ ih;simp only at h1 Z U G;subst h1;show Does (YA T N m L rec o le (i:Int)) _;unfold YA;refine Kg (fun hc=>?_) fun hc=>?_;rotate_left
 ·have hi:¬(i:Int)<Z5 m:=by grind [QC]
  have:i=m:=by grind [Z5]
  subst this;rw[List.drop_of_length_le (by simp;omega)] at G;exact Qq G
 have hi:i<m:=by
  grind [Z5,QC]
 obtain⟨hh,h2,Y⟩:=Nj (m:=m) (i:=(i:Int)) hL hm zo zo;simp only[Int.toNat_natCast] at h2 Y hh;obtain⟨j,hj,O⟩:=hp _ Y
 have J:(L.take m).drop i=(j:Int)::(L.take m).drop (i+1):=by
  grind [List.drop_eq_getElem_cons]
 have ab:=hT _<|List.getElem_mem O;rw[h2,Zm,hj,Q6,List.getElem?_eq_getElem O,Zm,Q6,List.getElem?_eq_getElem zo,Zm,Int.toNat_natCast,Q6,List.getElem?_set_self zo,Zm];have aa:0≤Xp T[j] le∧Xp T[j] le≤le:=by grind [Xp]
 rw[Zh (x:=le-Xp T[j] le) zo zo,Zh (x:=(i:Int)+1) zo zo];rw[J] at G;simp only[jS,Int.toNat_natCast,List.getElem?_eq_getElem O,Option.getD_some] at G;refine Kg (fun e=>?_) fun e=>?_
 ·have e:le-Xp T[j] le=0:=by grind [Qp]
  rw[if_pos e] at G;exact Qq G
 ·have e:¬le-Xp T[j] le=0:=by grind [Qp]
  rw[if_neg e] at G;exact ih (o.set j<|Xp T[j] le,le-Xp T[j] le,(i:Int)+1) ⟨i+1,by rfl,hi,by simp[Z],zc,G⟩ zc
theorem gK{s:Qk}{A:List Int}{c p:Nat}:∀{k:Nat},0<Rb s A c p k→∃(i:Nat) (g:Kz),i<k∧s.Chargers[i]?=some g∧HZ s g.At c=true
|k+1,h=>by
  simp only[Rb] at h;by_cases h0:0<Rb s A c p k
  ·obtain⟨i,g,G,J⟩:=gK h0
   grind
  grind [ctr]
|0,h=>by simp[Rb] at h
theorem jT{s:Qk}{T:List Int}{c:Nat}{G am:Int}(hok:bN s)(U:AU s)(hA:BA s T)(hc:c<s.Conductors.length)(hp:p<3)(an:KG n s.Conductors[c]=some G)(ac:G<Rb s T c p s.Chargers.length)(hn:9223372036854776000≤n) :
  Does (JZ n s T ⟨(c:Int),(p:Int),am⟩) (fun w=>∃us:List Int,us.Perm (bV s c p)∧w=jS T us (G+1) (List.replicate T.length 0)):=by
 obtain⟨av,af⟩:=hA;have J:=U;obtain⟨f1,f2,f3,f4,f5⟩:=U
 have ar:0≤G∧G≤1000:=by
  obtain⟨r,hr,h1⟩:=qN (n:=n) (hok.c c _<|List.getElem?_eq_getElem hc) zo
  grind
 have hB:GL s (YX s c s.Chargers.length):=fun v hv=>by
  grind [DY]
 have ab:=PM (s:=s) (c:=c) s.Chargers.length
 have ad:YX s c s.Chargers.length≠[]:=by
  obtain⟨i,g,h1,h2,h3⟩:=gK (s:=s) (A:=T) (c:=c) (p:=p) (k:=s.Chargers.length) zo;have:=wz h2 h3 h1;intro e;rw[e] at this;cases this
 unfold JZ;simp only;rw[bU hok J hc hn,Zm]
 have hL:XN n s (c:Int)=some (G,0):=by
  unfold XN;rw[qJ hok J zo zo,Zm,Bool.not_true,Kt,V9 zo,Kt]
  simp_all [Qc,WF,qY,Zm,Kt,Q6,List.getElem?_eq_getElem]
 rw[hL,Zm];generalize ao:YX s c s.Chargers.length=B at hB ab ad;have hU:bV s c p=B.filter (Fw s p):=by grind [bV]
 rw[hU];have ai:T.length≤16:=by omega
 refine ZO (Q:=fun Z:List Int×Nat×Nat=>Z.1.length=Z.2.1∧Z.2.1=B.length∧Z.2.2≤B.length∧Z.1.take Z.2.2=B.filter (Fw s p)) ?_ ?_
 ·rw[show(!List.isEmpty B)=true from by grind,KJ,List.nil_append,show QX (List.length B) 8=true from by grind [QX],KJ];refine ZO (iJ (p:=p) rfl hB zo zo) ?_;rintro j (⟨rfl,hf⟩|⟨k,rfl,hk,hf⟩)
  ·rw[show Qp (-1) (-1)=true from rfl,KJ]
   grind [Qq]
  ·rw[show Qp (k:Int) (-1)=false from by simp[Qp],Kt,Zh zo zo];have au:((B,(0:Int)).1).length=B.length:=rfl;have ah:B.length≤1000:=by omega
   refine ZO (QbM (n:=n) (p:=p) rfl hB ah zo hk hf) ?_;rintro⟨L,q⟩ ⟨i,hi,aq,aa,ht⟩;simp only at hi aa ht;subst hi;have c1:TB (List.map ci L).length (i:Int) (Z5 (List.map ci L).length) L.length=true:=by simp_all [TB,sliceB,Z5]
   have c2:Qc0 ((List.map ci L).length) (Int.toNat (i:Int)) ((Int.toNat<|Z5 (List.map ci L).length)-(Int.toNat (i:Int))) (List.length L)=true:=by simp_all [Qc0,Z5]
   simp only[c1,c2,KJ];have al:(List.take (Int.toNat (i:Int)) L++List.replicate ((Int.toNat<|Z5 (List.map ci L).length)-(Int.toNat (i:Int))) 0++List.drop ((Int.toNat (i:Int))+((Int.toNat<|Z5 (List.map ci L).length)-(Int.toNat (i:Int)))) L).length=L.length:=by unfold Z5;simp;omega
   have c3:TB (List.map ci L).length 0 (i:Int) (List.length<|List.take (Int.toNat (i:Int)) L++List.replicate ((Int.toNat<|Z5 (List.map ci L).length)-(Int.toNat (i:Int))) 0++List.drop ((Int.toNat (i:Int))+((Int.toNat<|Z5 (List.map ci L).length)-(Int.toNat (i:Int)))) L)=true:=by grind [TB,sliceB]
   simp only[c3,KJ]
   grind [Qq,Int.toNat_natCast,List.append_assoc,Nat.min_self]
 rintro⟨L,N,m⟩ ⟨Y,hN,hm,ht⟩;simp only at Y hN hm ht;simp only;rw[Y,Nat.beq_refl,KJ]
 have ak:Pls T (L.take m):=by
  rw[ht];intro v hv;obtain⟨i,g,h1,h2⟩:=hB v (List.mem_filter.1 hv).1
  grind [wB,Q6,List.getElem?_eq_getElem]
 have g:tQ n N m T L:=⟨by omega,by omega,by omega,ak⟩;have ae:∃k,n=k+1:=⟨n-1,by omega⟩;obtain⟨k,rfl⟩:=ae
 have e1:QB (fun O (v:List Int×Int×Int)=>Yz (k+1) T N m O v.1 v.2.1 v.2.2) (k+1) (L,0,20)=some (L,0):=by
  show Yz (k+1) T N m _ L 0 20=_;unfold Yz;rw[qY (by unfold Z5;omega),Kt]
 refine ZO ⟨_,e1,rfl⟩ (Q:=fun v=>v=(L,0)) ?_;rintro _ rfl;refine ZO (gB (b:=Z5 m) g ⟨Y,List.Perm.refl _⟩ (Int.le_refl _) (by simp[Z5])<|by simp[Z5]) fun r hr=>?_;show Does (Vv (k+1) T (G,0) N m r _ 20) _;unfold Vv;rw[V9 (by unfold Z5;omega),Kt];simp only[Qc,WF];rw[show MF (T.length:Int) (T.length:Int) 8=true from by grind [MF],KJ,hr.len,Nat.beq_refl,KJ,Int.toNat_natCast,Zh zo zo];refine Vj (iK hr.len zo zo af ?_ zo zo) (fun w hw=>⟨r.take m,by rw[←ht];exact hr.perm,hw⟩);intro v hv;have aj:v∈B.filter (Fw s p):=by rw[←ht];exact hr.perm.mem_iff.1 hv
 obtain⟨i,g2,h1,h2⟩:=hB v (List.mem_filter.1 aj).1
 grind
theorem bW{s:Qk}{T:List Int}(hok:bN s)(G:AU s)(O:1≤s.Conductors.length)(hT:T.length≤1000000)(hn:9223372036854776000≤n):∃r,YW n s T=some r∧r.1.Sums.length≤16∧r.2.1.length≤1000000:=by
 have key:Does (YW n s T) (fun r=>r.1.Sums.length≤16∧r.2.1.length≤1000000):=by
  unfold YW;refine ZO (bT hok G O hT hn) ?_;rintro⟨v,b,e⟩ (⟨Y,J⟩|⟨Y,J,Z⟩|⟨Y,J,Z⟩)
  ·cases J;exact Qq ⟨by simp,by simp⟩
  ·cases J;refine ZO (Oe hok G O hT hn) ?_;rintro⟨L,e⟩ (⟨q1,q2⟩|⟨q1,q2,q3⟩)
   ·grind
   ·simp only at q2 q3;subst q2;have:=G.1;exact Qq ⟨by simp only;rw[q3.1];omega,by simp⟩
  ·simp only at J Z;cases J;obtain⟨c,p,hc,ab,hp,rfl,hl,ho⟩:=Z;refine ZO (jT hok G Y hc hp hl ho hn) ?_;rintro w ⟨U,_,rfl⟩;refine Qq ⟨by simp,?_⟩;simp only
   have aa:∀(U:List Int) (l:Int) (o:List Int),(jS T U l o).length=o.length:=by
    intro U
    induction U with
   |nil=>intro l o;rfl
   |cons i U ih=>grind [jS]
   grind
 obtain⟨r,Y,J⟩:=key
 grind
theorem Qe2:Kr 36893488147419103232=some true:=by kernel_rfl
theorem jU(h:He x=true)(G:y∈Qi x.Kids):Jw y.Name=true∧1≤y.N∧y.N≤7:=by
 grind [He,Va]
theorem QbN{r:Qk×List ZN}(Y:ZM d x)(hn:9223372036854776000≤n)(hv:okT x=true)(h:Kq n x=some r)(h0:r.2=[]):bN r.1∧AU r.1∧1≤r.1.Conductors.length:=by
 have G:=hv;simp only[okT,leI,Ku,Pd] at G;have g:=qB Y hn zo;rw[G.1] at g;rw[g] at h;obtain rfl:=Option.some.inj h;clear h g;simp only[if_true] at h0 ⊢;by_cases J:(runF (Qi x.Kids) bs0).dg=[];rotate_left
 ·grind
 rw[if_pos J] at h0 ⊢;by_cases O:(runF (Qi x.Kids) bs0).fd=true;rotate_left
 ·grind
 rw[if_pos O];obtain⟨e,rfl,hl,_,hk⟩:=Zx Y;obtain⟨iv,_⟩:=QbH (d:=e) (fun y Z=>⟨G9 hk y Z,jU G.1 Z⟩) iv0 J;have U:AU (runF (Qi x.Kids) bs0).site:=jL (l:=Qi x.Kids) Qiu;exact⟨iv.ok,U,List.length_pos_iff.2<|iv.fd.1 O⟩
theorem iL{l:List Int}(G:l.length≤1000000)(J:9223372036854776000≤n):Uc n l l=some true:=by
 unfold Uc;rw[wC rfl,Bool.not_true,Kt];refine PH (f:=fun i:Nat=>(i:Int)) (k:=l.length) (fun rec i hi=>?_) (fun rec=>?_) 0 zo zo
 ·unfold J2;simp only[Qc,WF];rw[Fz zo,KJ,Q6,List.getElem?_eq_getElem hi,Zm,Zm,wC rfl,Bool.not_true,Kt,Zh zo zo];rfl
 simp[J2,Qc,WF,V9,Kt]
theorem gL{p:JG}(G:p.Sums.length≤1000)(J:9223372036854776000≤n):Gw n p p=some true:=by
 unfold Gw;rw[wC rfl,Bool.not_true,Kt];refine PH (f:=fun i:Nat=>(i:Int)) (k:=p.Sums.length) (fun rec i hi=>?_) (fun rec=>?_) 0 zo zo
 ·unfold J3;simp only[Qc,WF];rw[Fz zo,KJ,Q6,List.getElem?_eq_getElem hi,Zm,Zm,Zh zo zo];simp[R6,Qp]
 simp[J3,Qc,WF,V9,Kt]
theorem bX{T:List Int}(G:9223372036854776000≤n)(hh:Kr n=some true):Z6 n s T=some true:=by
 unfold Z6;rw[hh,Zm];cases hlen:QC 8000 (Qc s);rotate_left
 ·rfl
 rw[Kt,Zm];cases hlen2:QC 40 (Qc<|List.map ci T);rotate_left
 ·rfl
 rw[Kt]
 have hT:T.length≤1000000:=by
  have:¬(40:Int)<Qc (List.map ci T):=by grind [QC]
  grind
 obtain⟨r,er,hr⟩:=OU n s zo;have ae:=Qbn er hr;rw[er,Zm];rcases hr with⟨J,X,xs,hG,U⟩|⟨U,J,_⟩
 rotate_left
 ·have:0<r.2.length:=List.length_pos_iff.2 J
  have hb:∃q,Kq n nz=some q:=by
   cases hz:okT nz
   ·exact⟨_,gz Bz G hz⟩
   ·obtain⟨q,_,h1,_⟩:=y5 Bz Bz G hz hz rfl
    grind
  obtain⟨q,Z⟩:=hb
  have Dw:q.2.length≤20:=by
   cases hz:okT nz
   ·rw[gz Bz G hz] at Z;obtain rfl:=Option.some.inj Z;simp
   grind [gy,Bz]
  rw[U,Z,Zm];simp only[Qc,WF]
  grind [Zh,Fz]
 obtain⟨Y,hS⟩:=tK hG;have hv:=iF G hG;obtain⟨q0,af,c0,_,_,_⟩:=y5 Y Y G hv hv rfl;obtain⟨d1,d2,d3,d4,d5,d6⟩:=gy Y G hv c0;rw[U,J,c0,Zm];simp only[Qc,WF,List.length_nil];rw[Zh zo zo];by_cases Z:q0.2=[];rotate_left
 ·grind [List.length_pos_iff,Fz]
 rw[Z,V9 zq,Kt,Qej Y G,Zm];rcases tJ (Xq xs) with h0|⟨_,h0⟩|⟨aa,_⟩
 rotate_left
 ·obtain⟨w,ew,_⟩:=OU n (qf<|Xq xs).1 zo;rw[ew,Zm,h0];rfl
 ·grind
 obtain⟨X',ys,O,ad⟩:=QhK G hG h0;obtain⟨ab,ai⟩:=tK O;have aa:=iF G O;obtain⟨q1,q2,c1,c2,c3,c4⟩:=y5 Y ab G hv aa ad.symm;rw[c0] at c1;obtain rfl:=Option.some.inj c1
 have Dw:q2.2=[]:=by
  simp_all
 obtain⟨k1,k2,k3⟩:=QbN Y G hv c0 Z;obtain⟨p,hp,ah,ac⟩:=bW (T:=T) k1 k2 k3 hT G;rw[h0,wC rfl,Bool.not_true,yT zo O,Zm,Kt];simp only;rw[c2,Zm,Dw];simp only[List.length_nil];rw[show QC 0 (wi<|((0:Nat):Int)+((0:Nat):Int))=false from rfl,Kt,←c3,hp,Zm,Zm,bM d2 d3 d4 d5 d6 zo,gL zc G,iL ac G,wC rfl];rfl
end Go.Proofs
namespace Go.Proofs.YtkhhdppjbakngaaGreatDoor
open Go Go.Abs Go.Proofs
theorem topPrintedSite_holds:Rows.TopPrintedSiteCardSaid :=
 N9 (fun s T h _=>⟨_,bX (by decide) Qe2⟩)
end Go.Proofs.YtkhhdppjbakngaaGreatDoor
