/-
  A part of the proof of a statement of the seat YtkhhdppjbakngaaGreat.
-/
import Derived.Test.YtkhhdppjbakngaaGreatWhh06
set_option linter.unusedVariables false
namespace Go.Proofs
open Go Go.Abs
set_option maxRecDepth 100000
variable {A:List Int}{N:Nat}{T:List Int}{c:Nat}{hi:Int}{k:Nat}{lo:Int}{m n p:Nat}{s:Qo}{x:Int}
theorem mM{v:Zg}{B:List Int}{e:Int}(U:v.Phase=(p:Int))(Y:GL s B)(hl:B.length≤1000)(hn:2000≤n) :
    Does (Q0 (fun rec l=>VZ s v (B,e) rec l) n 0) (fun j=>(j=-1∧B.filter (U5 s p)=B)∨∃k:Nat,j=(k:Int)∧k<B.length∧(B.take (k+1)).filter (U5 s p)=B.take k):=by
  refine Vo (Q:=fun _ j=>(j=-1∧B.filter (U5 s p)=B)∨∃k:Nat,j=(k:Int)∧k<B.length∧(B.take (k+1)).filter (U5 s p)=B.take k) (μ:=fun v:Int=>B.length-v.toNat) (Inv:=fun v:Int=>∃i:Nat,v=(i:Int)∧i≤B.length∧(B.take i).filter (U5 s p)=B.take i) ?_ ⟨0,rfl,Nat.zero_le _,by simp⟩ (by omega);rintro rec q ⟨i,rfl,hi,hf⟩ Z;unfold VZ YW;simp only[Qd,List.length_map,List.nil_append];refine Kb (fun hc=>?_) (fun hc=>?_);rotate_left
  · have:i=B.length:=by
       have:¬(i:Int)<B.length:=by simpa [QD] using hc
       omega
    subst this;exact Qs (.inl ⟨rfl,by simpa using hf⟩)
  have hc:i<B.length:=by
     have:(i:Int)<B.length:=by simpa [QD] using hc
     omega
  obtain⟨k,g,G,O⟩:=Y _ (List.getElem_mem hc);rw[Zj,List.getElem?_eq_getElem hc,Zy,G,Zj,O,Zy,U,KM (by omega),Bool.not_false,cond_true];have hb:U5 s p B[i]=BV g.Phases p:=by rw[G];exact qm O
  unfold BV at hb;have J:B.take (i+1)=B.take i++[B[i]]:=by rw[List.take_add_one,List.getElem?_eq_getElem hc];rfl
  refine Kb (fun e=>?_) (fun e=>?_)
  · refine Qs (.inr ⟨i,rfl,hc,?_⟩)
    rw[e] at hb;rw[J,List.filter_append,hf];simp[hb]
  · rw[ZM (by omega) (by omega)]
    refine Z _ ⟨i+1,by omega,hc,?_⟩ (by omega);rw[e] at hb;rw[J,List.filter_append,hf];simp[hb]
theorem bL{v:Zg}{B:List Int}(hv:v.Phase=(p:Int))(hB:GL s B)(hl:B.length≤1000)(hn:2000≤n)(hk:k<B.length)(hf:(B.take (k+1)).filter (U5 s p)=B.take k) :
    Does (Q0 (fun rec (w:List Int×Int×Int)=>YJ s v rec w.1 w.2.1 w.2.2) n (B,(k:Int),(k:Int)+1)) (fun r=>∃i:Nat,r.2=(i:Int)∧i≤B.length∧r.1.length=B.length∧r.1.take i=B.filter (U5 s p)):=by
  refine Vo (Q:=fun _ (r:List Int×Int)=>∃i:Nat,r.2=(i:Int)∧i≤B.length∧r.1.length=B.length∧r.1.take i=B.filter (U5 s p)) (μ:=fun w:List Int×Int×Int=>B.length-w.2.2.toNat)
    (Inv:=fun w:List Int×Int×Int=>∃i j:Nat,w.2.1=(i:Int)∧w.2.2=(j:Int)∧i<j∧j≤B.length∧w.1.length=B.length∧w.1.take i=(B.take j).filter (U5 s p)∧w.1.drop j=B.drop j) ?_ ⟨k,k+1,rfl,by simp,by omega,hk,rfl,hf.symm,rfl⟩ (by simp only;omega)
  rintro rec ⟨L,q1,q2⟩ ⟨i,j,h1,h2,ab,hj,Z,Y,hd⟩ ih;simp only at h1 h2 Z Y hd;subst h1 h2;show Does (YJ s v rec L (i:Int) (j:Int)) _;unfold YJ;simp only[Qd,List.length_map];refine Kb (fun hc=>?_) (fun hc=>?_);rotate_left
  · have:j=B.length:=by
       have:¬(j:Int)<L.length:=by simpa [QD] using hc
       omega
    subst this;exact Qs ⟨i,rfl,by omega,Z,by simpa using Y⟩
  have hc:j<L.length:=by
     have:(j:Int)<L.length:=by simpa [QD] using hc
     omega
  have G:j<B.length:=by omega
  have aa:L[j]=B[j]:=by
    have e1:(L.drop j)[0]?=(B.drop j)[0]?:=by rw[hd]
    rw[List.getElem?_drop,List.getElem?_drop,Nat.add_zero,List.getElem?_eq_getElem hc,List.getElem?_eq_getElem G] at e1;exact Option.some.inj e1
  obtain⟨m,g,hm,hg⟩:=hB _ (List.getElem_mem G);rw[Zj,List.getElem?_eq_getElem hc,Zy,aa,hm,Zj,hg,Zy,hv,KM (by omega),Bool.not_false,cond_true];have hb:U5 s p B[j]=BV g.Phases p:=by rw[hm];exact qm hg
  unfold BV at hb;have J:B.take (j+1)=B.take j++[B[j]]:=by rw[List.take_add_one,List.getElem?_eq_getElem G];rfl
  have O:L.drop (j+1)=B.drop (j+1):=by rw[←List.drop_drop,←List.drop_drop,hd]
  have U:i<L.length:=by omega
  rw[ZM (x:=(j:Int)+1) (by omega) (by omega),ZM (x:=(i:Int)+1) (by omega) (by omega)];refine Kb (fun e=>?_) (fun e=>?_)
  · rw[Zj,List.getElem?_eq_getElem U,Zy,Int.toNat_natCast]
    refine ih (L.set i (m:Int),(i:Int)+1,(j:Int)+1) ⟨i+1,j+1,by simp only;omega,by simp only;omega,by omega,G,by simp[Z],?_,?_⟩ (by simp only;omega)
    · rw[e] at hb
      rw[J,List.filter_append,←Y,List.take_add_one,List.getElem?_set_self U,List.take_set,List.set_eq_of_length_le (by simp;omega)];rw[hm] at hb ⊢;simp[hb]
    · rw[List.drop_set_of_lt (by omega)]
      exact O
  · refine ih (L,(i:Int),(j:Int)+1) ⟨i,j+1,rfl,by simp only;omega,by omega,G,Z,?_,O⟩ (by simp only;omega)
    have e':(!Qq (JY IntKind.i64 g.Phases (WZ IntKind.i64 1 (p:Int))) 0)=false:=e;rw[e'] at hb;rw[J,List.filter_append,←Y];simp[hb]
theorem mO{L:List Int}(hL:L.length=N)(hm:m≤N)(hN:N≤1000)(hT:∀a∈T,0≤a∧a≤80)(hp:∀v∈L.take m,∃i:Nat,v=(i:Int)∧i<T.length)(hn:2000≤n){left:Int}(hl:0≤left∧left≤100000) :
    Does (Q0 (fun rec (w:List Int×Int×Int)=>YL T N m L rec w.1 w.2.1 w.2.2) n (List.replicate T.length 0,left,0)) (fun r=>r=RP T (L.take m) left (List.replicate T.length 0)):=by
  refine Vo (Q:=fun _ r=>r=RP T (L.take m) left (List.replicate T.length 0)) (μ:=fun w:List Int×Int×Int=>m-w.2.2.toNat)
    (Inv:=fun w:List Int×Int×Int=>∃i:Nat,w.2.2=(i:Int)∧i≤m∧w.1.length=T.length∧(0≤w.2.1∧w.2.1≤100000)∧RP T ((L.take m).drop i) w.2.1 w.1=RP T (L.take m) left (List.replicate T.length 0)) ?_ ⟨0,rfl,Nat.zero_le _,by simp,hl,rfl⟩ (by simp only;omega)
  rintro rec ⟨o,le,q⟩ ⟨i,Z,ab,ho,U,G⟩ ih;simp only at Z ho U G;subst Z;show Does (YL T N m L rec o le (i:Int)) _;unfold YL;refine Kb (fun hc=>?_) (fun hc=>?_);rotate_left
  · have hi:¬(i:Int)<ZP m:=by simpa [QD] using hc
    have:i=m:=by unfold ZP at hi;omega
    subst this;rw[List.drop_of_length_le (by simp;omega)] at G;exact Qs G
  have hi:i<m:=by
     have:(i:Int)<ZP m:=by simpa [QD] using hc
     unfold ZP at this;omega
  obtain⟨hh,h2,h3⟩:=BJ (m:=m) (i:=(i:Int)) hL hm (by omega) (by omega);simp only[Int.toNat_natCast] at h2 h3 hh;obtain⟨j,Y,O⟩:=hp _ h3
  have J:(L.take m).drop i=(j:Int)::(L.take m).drop (i+1):=by
    have hlt:i<(L.take m).length:=by simp;omega
    rw[List.drop_eq_getElem_cons hlt];congr 1;rw[List.getElem_take];exact Y
  have ac:=hT _ (List.getElem_mem O);rw[h2,Zy,Y,Zj,List.getElem?_eq_getElem O,Zy,Zj,List.getElem?_eq_getElem (by omega),Zy,Int.toNat_natCast,Zj,List.getElem?_set_self (by omega),Zy];have aa:0≤K9 T[j] le∧K9 T[j] le≤le:=by unfold K9;split<;>omega
  rw[ZM (x:=le-K9 T[j] le) (by omega) (by omega),ZM (x:=(i:Int)+1) (by omega) (by omega)];rw[J] at G;simp only[RP,Int.toNat_natCast,List.getElem?_eq_getElem O,Option.getD_some] at G;refine Kb (fun e=>?_) (fun e=>?_)
  · have e:le-K9 T[j] le=0:=by simpa [Qq] using e
    rw[if_pos e] at G;exact Qs G
  · have e:¬le-K9 T[j] le=0:=by simpa [Qq] using e
    rw[if_neg e] at G;exact ih (o.set j (K9 T[j] le),le-K9 T[j] le,(i:Int)+1) ⟨i+1,by simp only;omega,hi,by simp[ho],by simp only;omega,G⟩ (by simp only;omega)
theorem vv{s:Qo}{A:List Int}{c p:Nat}:∀{k:Nat},0<XU s A c p k→∃(i:Nat) (g:Kj),i<k∧s.Chargers[i]?=some g∧Uy s g.At c=true
|k+1,h=>by
  simp only[XU] at h;by_cases h0:0<XU s A c p k
  ·obtain⟨i,g,Y,J⟩:=vv h0;exact⟨i,g,by omega,J⟩
  ·have hc:0<ctr s A c p k:=by omega
   unfold ctr at hc;split at hc
   ·rename_i g a O U;split at hc
    ·rename_i G;simp only[KL] at G;exact⟨k,g,by omega,O,G.1⟩
    ·omega
   ·omega
|0,h=>by simp[XU] at h
theorem kg{G am:Int}(hok:mG s)(aa:AO s)(hA:LB s T)(hc:c<s.Conductors.length)(hp:p<3)(Z:KE n s.Conductors[c]=some G)(af:G<XU s T c p s.Chargers.length)(hn:9223372036854776000≤n) :
  Does (JO n s T ⟨(c:Int),(p:Int),am⟩) (fun w=>∃us:List Int,us.Perm (y9 s c p)∧w=RP T us (G+1) (List.replicate T.length 0)):=by
 obtain⟨ao,ak⟩:=hA;have J:=aa;obtain⟨f1,f2,f3,f4,f5⟩:=aa
 have an:0≤G∧G≤1000:=by
  obtain⟨r,hr,O⟩:=Di (n:=n) (hok.c c _ (List.getElem?_eq_getElem hc)) zo;rw[Z] at hr;cases hr;exact O
 have hB:GL s (K7 s c s.Chargers.length):=fun v hv=>by
  obtain⟨i,g,O,h2,h3,_⟩:=Gi hv;exact⟨i,g,O,h3⟩
 have aj:=Nv (s:=s) (c:=c) s.Chargers.length
 have hne:K7 s c s.Chargers.length≠[]:=by
  obtain⟨i,g,O,h2,h3⟩:=vv (s:=s) (A:=T) (c:=c) (p:=p) (k:=s.Chargers.length) zo;have:=z8 h2 h3 O;intro e;rw[e] at this;cases this
 unfold JO;simp only;rw[uO hok J hc hn,Zy]
 have hL:Vb n s (c:Int)=some (G,0):=by
  unfold Vb;rw[Ed hok J zo zo,Zy,Bool.not_true,Ye,KM zo,Ye];simp only[Qd,RS];rw[UI zo,Zy,Ye,Zj,List.getElem?_eq_getElem hc,Zy,Z,Zy]
 rw[hL,Zy];generalize ai:K7 s c s.Chargers.length=B at hB aj hne;have hU:y9 s c p=B.filter (U5 s p):=by unfold y9;rw[ai]
 rw[hU];have ad:T.length≤16:=by omega
 refine Vn (Q:=fun j3:List Int×Nat×Nat=>j3.1.length=j3.2.1∧j3.2.1=B.length∧j3.2.2≤B.length∧j3.1.take j3.2.2=B.filter (U5 s p)) ?_ ?_
 ·rw[show(!List.isEmpty B)=true from by cases B with|nil=>exact absurd rfl hne|cons b B=>rfl,V5,List.nil_append,show ZW (List.length B) 8=true from by unfold ZW;simp;omega,V5];refine Vn (mM (p:=p) rfl hB zo zo) ?_;rintro j (⟨rfl,hf⟩|⟨k,rfl,hk,hf⟩)
  ·rw[show Qq (-1) (-1)=true from rfl,V5];exact Qs ⟨by simp,by simp,by simp,by simp[hf]⟩
  ·rw[show Qq (k:Int) (-1)=false from by simp[Qq],Ye,ZM zo zo];have hz0:((B,(0:Int)).1).length=B.length:=rfl;have hBk:B.length≤1000:=(by omega);refine Vn (bL (n:=n) (p:=p) rfl hB hBk (by omega) hk hf) ?_;rintro⟨L,q⟩ ⟨i,hi,aq,ac,ht⟩;simp only at hi ac ht;subst hi;have c1:L8 (List.map ci L).length (i:Int) (ZP (List.map ci L).length) L.length=true:=by unfold L8 sliceB ZP;simp;omega
   have c2:sJ ((List.map ci L).length) (Int.toNat (i:Int)) ((Int.toNat (ZP (List.map ci L).length))-(Int.toNat (i:Int))) (List.length L)=true:=by unfold sJ ZP;simp;omega
   simp only[c1,c2,V5];have Y:(List.take (Int.toNat (i:Int)) L++List.replicate ((Int.toNat (ZP (List.map ci L).length))-(Int.toNat (i:Int))) 0++List.drop ((Int.toNat (i:Int))+((Int.toNat (ZP (List.map ci L).length))-(Int.toNat (i:Int)))) L).length=L.length:=by unfold ZP;simp;omega
   have c3:L8 (List.map ci L).length 0 (i:Int) (List.length (List.take (Int.toNat (i:Int)) L++List.replicate ((Int.toNat (ZP (List.map ci L).length))-(Int.toNat (i:Int))) 0++List.drop ((Int.toNat (i:Int))+((Int.toNat (ZP (List.map ci L).length))-(Int.toNat (i:Int)))) L))=true:=by rw[Y];unfold L8 sliceB;simp;omega
   simp only[c3,V5];refine Qs ⟨by rw[Y];simp,by simp[ac],by simp;omega,?_⟩;simp only[Int.toNat_natCast];rw[←ht,List.append_assoc,List.take_append_of_le_length (by simp;omega),List.take_take,Nat.min_self]
 rintro⟨L,N,m⟩ ⟨ab,hN,hm,ht⟩;simp only at ab hN hm ht;simp only;rw[ab,Nat.beq_refl,V5]
 have al:Pls T (L.take m):=by
  rw[ht];intro v hv;obtain⟨i,g,O,h2⟩:=hB v (List.mem_filter.1 hv).1;have hi:=(MG.1 h2).1;exact⟨_,by rw[O,Zj,List.getElem?_eq_getElem zo]⟩
 have g:mJ n N m T L:=⟨by omega,by omega,by omega,al⟩;have ah:∃k,n=k+1:=⟨n-1,by omega⟩;obtain⟨k,rfl⟩:=ah
 have e1:Q0 (fun U (v:List Int×Int×Int)=>YK (k+1) T N m U v.1 v.2.1 v.2.2) (k+1) (L,0,20)=some (L,0):=by
  show YK (k+1) T N m _ L 0 20=_;unfold YK;rw[UI (by unfold ZP;omega),Ye]
 refine Vn ⟨_,e1,rfl⟩ (Q:=fun v=>v=(L,0)) ?_;rintro _ rfl;refine Vn (jT (b:=ZP m) g ⟨ab,List.Perm.refl _⟩ (Int.le_refl _) (by unfold ZP;omega) (by unfold ZP;omega)) (fun r hr=>?_);show Does (VE (k+1) T (G,0) N m _ r 20) _;unfold VE;rw[KM (by unfold ZP;omega),Ye];simp only[Qd,RS];rw[show Pi (T.length:Int) (T.length:Int) 8=true from by unfold Pi;simp;omega,V5,hr.len,Nat.beq_refl,V5,Int.toNat_natCast,ZM zo zo];refine Kw (mO hr.len zo zo ak ?_ zo zo) (fun w hw=>⟨r.take m,by rw[←ht];exact hr.perm,hw⟩);intro v hv;have ae:v∈B.filter (U5 s p):=by rw[←ht];exact hr.perm.mem_iff.1 hv
 obtain⟨i,g2,O,h2⟩:=hB v (List.mem_filter.1 ae).1;have hi:=(MG.1 h2).1;exact⟨i,O,by omega⟩
theorem Ny(J:lo≤x)(G:x≤hi):KX n x lo hi=some true:=by
 unfold KX JG;simp only[Zy];have:d9 lo (K9 x hi)=x:=by unfold K9 d9;split<;>split<;>omega
 simp only[this,Qq,beq_self_eq_true]
theorem lT{f:V9}(h:okF f):U2 n f=some true:=by
 unfold U2;rcases h with⟨G,J⟩|⟨⟨G,J⟩,O,U⟩
 ·rw[G,J];rfl
 ·rw[Ny G J,Zy,V5,Ny O zo,Zy];cases TA _<;>rfl
theorem bM(h0:0≤x)(G:x≤1000):0≤x*x∧x*x≤1000000:=by
 have:=Dh h0 G h0 G;omega
theorem Qdc{f:V9}{v:Int}(h:okF f)(hr:0<f.Rated)(Z:f.Rated<v)(U:v≤1000):∃k,U3 n f 0 v=some (k,0)∧0≤k:=by
 obtain⟨⟨h1,Y⟩,h3,h4⟩:(1≤f.Rated∧f.Rated≤1000)∧0≤f.Heat∧f.Heat≤1000000:=by
  rcases h with⟨h1,Y⟩|h
  ·omega
  ·exact h
 have s1:=bM (x:=v) zo U;have s2:=bM (x:=f.Rated) zo Y
 have hg:0<v*v-f.Rated*f.Rated:=by
  have e1:f.Rated*f.Rated≤f.Rated*v:=Int.mul_le_mul_of_nonneg_left zo zo;have e2:f.Rated*v<v*v:=Int.mul_lt_mul_of_pos_right Z zo;omega
 have J:∀y,YZ n ⟨f,y⟩ v=some (v*v-f.Rated*f.Rated):=by
  intro y;unfold YZ;simp only;rw[ZM (x:=v*v) zo zo,ZM (x:=f.Rated*f.Rated) zo zo,ZM zo zo]
 have G:∀y,VP n ⟨f,y⟩=some false:=by
  intro y;unfold VP;rw[show Qq f.Rated 0=false from by simp[Qq];omega]
 have O:∃q,GZ n f 0 v=some (q,0):=by
  unfold GZ XH;rw[lT h,Zy,Bool.not_true,Ye,Ny (Int.le_refl 0) h3,Zy,Bool.not_true,Ye,Ny zo U,Zy,Zy,Bool.not_true,Zy,Ye];unfold XI;rw[G,Zy,Bool.not_false,V5,J,Zy,Zy];exact⟨_,rfl⟩
 obtain⟨q,hq⟩:=O;unfold U3;rw[hq,Zy,show(!Qq ((q,(0:Int)).2) 0)=false from rfl,Ye,G,Zy,Ye,J,Zy,UI zo,Zy,Ye,Zy,show(!Qq (v*v-f.Rated*f.Rated) 0)=true from by simp[Qq];omega,V5,ZM (x:=f.Heat-0) zo zo,Int.tdiv_eq_ediv_of_nonneg zo];have d0:0≤(f.Heat-0) / (v*v-f.Rated*f.Rated):=Int.ediv_nonneg zo zo;have d1:(f.Heat-0) / (v*v-f.Rated*f.Rated)≤f.Heat-0:=Int.ediv_le_self _ zo;exact⟨_,by rw[ZM zo zo],d0⟩
theorem Qdd{c:Z0}{v:Int}(h:okW c)(hz:c≠zC)(O:0≤v∧v≤1000)(ht:Ns c v):∃r,U4 n c c.Most v=some r∧(r.2=0→c.Most<r.1):=by
 have Y:=zZ (n:=n) h;rcases h with h|⟨⟨⟨h1,h2⟩,⟨h3,h4⟩,⟨h5,h6⟩,⟨h7,h8⟩,h9,af⟩,ae⟩
 ·exact absurd h hz
 have hl:0≤Rl c∧Rl c≤1000:=by unfold Rl K9;split<;>omega
 unfold Ns at ht;have g1:=Dh h5 h6 O.1 O.2;have g2:=Dh g1.1 g1.2 O.1 O.2;have g3:=Dh hl.1 hl.2 (show 0≤c.Most-c.Ambient by omega) (show c.Most-c.Ambient≤200000 by omega);unfold U4 Xr J9;rw[Y,Zy,Bool.not_true,Ye,Tq h3 zo,Zy,Zy,Bool.not_true,Ye,Tq O.1 O.2,Zy,Zy,Bool.not_true,Zy,Ye]
 have J:∃t,WL n ⟨c,c.Most⟩ v=some ⟨c,t⟩∧c.Most<t:=by
  unfold WL Yz Dc
  have ab:Z8 n ⟨c,c.Most⟩=some false:=by
   obtain⟨b,Z,_,ah⟩:=Eh (n:=n) (c:=c);have e:Z8 n ⟨c,c.Most⟩=Z8 n ⟨c,0⟩:=rfl;cases b with
  |false=>rw[e,Z]
  |true =>
    obtain⟨b',G,U,_⟩:=Eh (n:=n) (c:=c);rw[Z] at G;cases G;exact absurd (U rfl) hz
  rw[ab,Zy,Ye,Zy];simp only;change ∃t,(Option.bind _ _)=_∧_;have hL:K9 c.Loss c.Den=Rl c:=rfl;rw[hL,ZM (x:=c.Most-c.Ambient) zo zo,ZM (x:=c.Gain*v) zo zo,ZM (x:=c.Gain*v*v) zo zo,ZM (x:=Rl c*(c.Most-c.Ambient)) zo zo];generalize hX:c.Gain*v*v-Rl c*(c.Most-c.Ambient)=X;have ad:0<X∧X≤1000*1000*1000:=by omega
  rw[ZM (x:=X) zo zo,show(!Qq c.Den 0)=true from by simp[Qq];omega,V5,V5,Int.tdiv_eq_ediv_of_nonneg zo,Int.tmod_eq_emod_of_nonneg zo];have d0:0≤X / c.Den:=Int.ediv_nonneg zo zo;have d1:X / c.Den≤X:=Int.ediv_le_self _ zo;have d2:=Int.emod_add_mul_ediv X c.Den;rw[ZM (x:=X / c.Den) zo zo,ZM (x:=X / c.Den+1) zo zo];by_cases hm:0<X%c.Den
  ·rw[Vy hm,V5,Zy,ZM zo zo];exact⟨_,rfl,by omega⟩
  ·rw[KM zo,Ye,Zy,ZM zo zo];refine⟨_,rfl,?_⟩
   have:X / c.Den≠0:=by
    intro e;rw[e,Int.mul_zero] at d2;have:=Int.emod_nonneg X (show c.Den≠0 by omega);omega
   omega
 obtain⟨t,aa,ac⟩:=J
 have hb:∃b,Ki n t 0 1000000000=some b:=by
  unfold Ki;cases leI 0 t
  ·exact⟨_,rfl⟩
  ·exact⟨_,rfl⟩
 obtain⟨b,hb⟩:=hb;rw[aa,Zy,hb,Zy,Zy];cases b
 ·exact⟨_,rfl,fun h=>by cases h⟩
 ·exact⟨_,rfl,fun _=>ac⟩
def U6(A:List Int):List Int→Int|[]=>0|v::G=>(A[v.toNat]?).getD 0+U6 A G
theorem vw(A:List Int):∀a b:List Int,U6 A (a++b)=U6 A a+U6 A b
|[],b=>by simp[U6]
|v::a,b=>by simp only[List.cons_append,U6,vw A a b];omega
theorem q8{a b:List Int}(h:a.Perm b):U6 A a=U6 A b:=by
 induction h with
|nil=>rfl
|cons x _ J=>simp only[U6,J]
|swap x y l=>simp only[U6];omega
|trans _ _ G i2=>rw[G,i2]
theorem jX{s:Qo}{A:List Int}{c p:Nat}(O:A.length=s.Chargers.length):∀k:Nat,k≤s.Chargers.length→XU s A c p k=U6 A ((K7 s c k).filter (U5 s p))
|0,_=>rfl
|k+1,U=>by
  have J:s.Chargers[k]?=some s.Chargers[k]:=List.getElem?_eq_getElem zo;have G:A[k]?=some A[k]:=List.getElem?_eq_getElem zo;simp only[XU,K7,ctr,J,G];rw[jX O k zo];cases hw:Uy s s.Chargers[k].At c
  ·simp
  ·rw[if_pos rfl,List.filter_append,vw];congr 1;have hu:=qm (p:=p) J;cases hb:BV s.Chargers[k].Phases p
   ·rw[hb] at hu;simp[hu,U6]
   ·rw[hb] at hu;simp[hu,U6,G]
theorem Ih{T:List Int}:∀(G:List Int) (l:Int) (o:List Int),(RP T G l o).length=o.length
|[],l,o=>rfl
|i::G,l,o=>by simp only[RP];split;simp;rw[Ih G];simp
theorem ku{T:List Int}:∀(G:List Int) (l:Int) (o:List Int) (j:Nat),(j:Int)∉G→(∀v∈G,0≤v)→(RP T G l o)[j]?=o[j]?
|[],l,o,j,_,_=>rfl
|i::G,l,o,j,h,h0=>by
  have hi:i.toNat≠j:=by
   intro e;have:=h0 i zq;exact h (by rw[←e];simp[show((i.toNat:Nat):Int)=i by omega])
  simp only[RP];split
  ·rw[List.getElem?_set_ne hi]
  ·rw[ku G _ _ j (fun O=>h (by simp[O])) (fun v J=>h0 v (by simp[J])),List.getElem?_set_ne hi]
theorem vz{T:List Int}(hT:∀a∈T,0≤a∧a≤80):∀(J:List Int) (l:Int) (o:List Int),J.Nodup→(∀v∈J,∃i:Nat,v=(i:Int)∧i<T.length∧o[i]?=some 0)→o.length=T.length→0≤l→U6 (RP T J l o) J=K9 l (U6 T J)∧0≤U6 T J∧(∀v∈J,0≤((RP T J l o)[v.toNat]?).getD 0∧((RP T J l o)[v.toNat]?).getD 0≤80)
|[],l,o,_,_,_,hl=>by simp[U6,K9];omega
|v::J,l,o,hn,hv,ho,hl=>by
  obtain⟨i,rfl,hi,hz⟩:=hv v zq;have ae:=hT _ (List.getElem_mem hi);have Y:=List.nodup_cons.1 hn;have Z:∀w∈J,0≤w:=fun w hw=>by obtain⟨j,rfl,_⟩:=hv w (by simp[hw]);omega
  have aa:i<o.length:=by omega
  have ad:0≤K9 T[i] l∧K9 T[i] l≤l∧K9 T[i] l≤T[i]:=by unfold K9;split<;>omega
  have hne:∀w∈J,∀j:Nat,w=(j:Int)→j≠i:=fun w hw j e e2=>Y.1 (by rw[←e2,←e];exact hw)
  have ab:∀w∈J,∃j:Nat,w=(j:Int)∧j<T.length∧(o.set i (K9 T[i] l))[j]?=some 0:=fun w hw=>by
   obtain⟨j,e,h1,h2⟩:=hv w (by simp[hw]);exact⟨j,e,h1,by rw[List.getElem?_set_ne (fun e2=>hne w hw j e e2.symm)];exact h2⟩
  have G:=vz hT J (l-K9 T[i] l) (o.set i (K9 T[i] l)) Y.2 ab (by simp[ho]) zo;have U:=ku (T:=T) J (l-K9 T[i] l) (o.set i (K9 T[i] l)) i Y.1 Z;rw[List.getElem?_set_self aa] at U;have O:(T[i]?).getD 0=T[i]:=by rw[List.getElem?_eq_getElem hi];rfl
  have key:∀r:List Int,r[i]?=some (K9 T[i] l)→U6 r J=K9 (l-K9 T[i] l) (U6 T J)→U6 r ((i:Int)::J)=K9 l (U6 T ((i:Int)::J)):=by
   intro r h1 h2;simp only[U6,Int.toNat_natCast,h1,Option.getD_some,h2,O];have:=G.2.1;unfold K9 at *;split<;>split<;>split<;>omega
  refine⟨?_,by simp only[U6,Int.toNat_natCast,O];have:=G.2.1;omega,?_⟩
  ·simp only[RP,Int.toNat_natCast,O];by_cases e:l-K9 T[i] l=0
   ·rw[if_pos e];refine key _ (by rw[List.getElem?_set_self aa]) ?_
    have ac:∀ws:List Int,(∀w∈ws,∃j:Nat,w=(j:Int)∧j<T.length∧(o.set i (K9 T[i] l))[j]?=some 0)→U6 (o.set i (K9 T[i] l)) ws=0:=by
     intro ws
     induction ws with
    |nil=>intro _;rfl
    |cons w ws ih =>
      intro h;obtain⟨j,rfl,_,h3⟩:=h w zq;simp only[U6,Int.toNat_natCast,h3,Option.getD_some];rw[ih (fun x hx=>h x (by simp[hx]))];rfl
    rw[ac J ab,e];have:=G.2.1;unfold K9;split<;>omega
   ·rw[if_neg e];exact key _ U G.1
  ·intro w hw;simp only[RP,Int.toNat_natCast,O];by_cases e:l-K9 T[i] l=0
   ·rw[if_pos e];rcases List.mem_cons.1 hw with rfl|hw
    ·rw[Int.toNat_natCast,List.getElem?_set_self aa];simp only[Option.getD_some];omega
    ·obtain⟨j,rfl,_,h3⟩:=ab w hw;rw[Int.toNat_natCast,h3];simp
   ·rw[if_neg e];rcases List.mem_cons.1 hw with rfl|hw
    ·rw[Int.toNat_natCast,U];simp only[Option.getD_some];omega
    ·exact G.2.2 w hw
theorem jY{n:Nat}{J:List Int}{G:Int}(hA:LB s T)(hl:0≤G)(ac:G<XU s T c p s.Chargers.length)(hp:J.Perm (y9 s c p)) :
  LB s (RP T J (G+1) (List.replicate T.length 0))∧XU s (RP T J (G+1) (List.replicate T.length 0)) c p s.Chargers.length=G+1:=by
 obtain⟨Z,aa⟩:=hA
 have U:∀v∈J,∃i:Nat,v=(i:Int)∧i<T.length∧(List.replicate T.length (0:Int))[i]?=some 0:=by
  intro v hv;obtain⟨i,g,h1,h2,h3,_⟩:=Gi (List.mem_filter.1 (hp.mem_iff.1 hv)).1;exact⟨i,h1,by omega,by rw[List.getElem?_replicate,if_pos zo]⟩
 have ab:J.Nodup:=hp.nodup_iff.2 ((Ei _).filter _);obtain⟨o1,o2,o3⟩:=vz aa J (G+1) (List.replicate T.length 0) ab U zq zo;have O:(RP T J (G+1) (List.replicate T.length 0)).length=s.Chargers.length:=by rw[Ih];simpa using Z
 have Y:U6 T J=XU s T c p s.Chargers.length:=by
  rw[jX Z _ (Yf _)];exact q8 hp
 refine⟨⟨O,fun a ha=>?_⟩,?_⟩
 ·obtain⟨j,hj,rfl⟩:=List.getElem_of_mem ha;by_cases hu:(j:Int)∈J
  ·have:=o3 _ hu;rw[Int.toNat_natCast,List.getElem?_eq_getElem hj] at this;exact this
  ·have h0:∀v∈J,0≤v:=fun v hv=>by obtain⟨i,rfl,_⟩:=U v hv;omega
   have:=ku (T:=T) J (G+1) (List.replicate T.length 0) j hu h0;rw[List.getElem?_eq_getElem hj,List.getElem?_replicate,if_pos (by rw[Ih] at hj;simpa using hj)] at this;rw[Option.some.inj this];omega
 ·rw[jX O _ (Yf _),←show U6 _ J=U6 _ ((K7 s c s.Chargers.length).filter (U5 s p)) from q8 hp,o1,Y];unfold K9;split<;>omega
theorem mP(hw:∀w∈VM s,w.length≤9223372036854775807)(az:T.length≤9223372036854775807)(hn:9223372036854776000≤n)(hh:Kr n=some true) :
  ZZ n s T=some true:=by
 unfold ZZ;rw[hh,Zy]
 have hU:Does (KQ n s T) (fun b=>b=true→(mG s∧AO s∧1≤s.Conductors.length)∧(∀a∈T,0≤a∧a≤80)∧T.length=s.Chargers.length):=by
  unfold KQ;obtain⟨b,e,hb⟩:=Qe0 (n:=n) (s:=s);rw[e,Zy];cases b
  ·exact Qs (x:=false) nofun
  obtain⟨b2,e2,a8⟩:=lH (hb rfl) hw hn;rw[V5,e2,Zy];cases b2
  ·exact Qs (x:=false) nofun
  rw[V5];obtain⟨b3,e3,aw⟩:=Qe1 (s:=s) az hn;rw[e3,Zy];exact Qs fun h=>⟨a8 rfl,aw h⟩
 obtain⟨b,e,hU⟩:=hU;rw[e,Zy];cases b
 ·rfl
 obtain⟨⟨hok,J,Z⟩,ha,ak⟩:=hU rfl;have hA:LB s T:=⟨ak,ha⟩;have ad:T.length≤1000000:=by have:=J.2.2.2.1;omega
 rw[Bool.not_true,Ye];unfold JW;obtain⟨r,er,hr⟩:=Nu (A:=T) hok J Z ad hn;rw[er,Zy];rcases hr with⟨h1,_⟩|⟨_,rfl,_⟩|⟨_,h2,a7⟩
 ·exact absurd hA h1
 ·obtain⟨q,eq,hq⟩:=Ai (A:=T) hok J Z ad hn;obtain⟨w,ew,_⟩:=Nu (A:=[]) hok J Z zq hn;rw[show(!Qq (((⟨0,0,0⟩:Zg),false,(0:Int)).2.2) 0)=false from rfl,Ye];simp only[Ye];rw[eq,Zy];rcases hq with⟨q1,_⟩|⟨_,q2,_⟩
  ·exact absurd hA q1
  rw[q2,show(!Qq 0 0)=false from rfl,Ye,Zy];simp only;rw[ew];rfl
 ·obtain⟨c,p,hc,U,hp,hv,hl,ho⟩:=a7;obtain⟨v,b,e⟩:=r;simp only[DC] at h2;obtain⟨rfl,rfl⟩:=h2;simp only at hv;subst hv;rw[show(!Qq (0:Int) 0)=false from rfl,Ye];simp only[V5]
  have au:0≤U∧U≤1000:=by
   obtain⟨r,hr,h1⟩:=Di (n:=n) (hok.c c _ (List.getElem?_eq_getElem hc)) zo;rw[hl] at hr;cases hr;exact h1
  obtain⟨w,ew,us,ar,rfl⟩:=kg (am:=XU s T c p s.Chargers.length) hok J hA hc hp hl ho hn;rw[ew,Zy,Zy];simp only;obtain⟨ae,av⟩:=jY (n:=n) hA au.1 ho ar;have ab:(RP T us (U+1) (List.replicate T.length 0)).length≤1000000:=by rw[ae.1];have:=J.2.2.2.1;omega
  generalize RP T us (U+1) (List.replicate T.length 0)=w at ae av ab;obtain⟨r4,e4,h4⟩:=Nu (A:=w) hok J Z ab hn;rw[e4,Zy,show(!Qq (13:Int) 13)=false from rfl,Ye];rcases h4 with⟨h1,_⟩|⟨_,_,ax⟩|⟨_,ai,ao⟩
  ·exact absurd ae h1
  ·have:=ax c p hc U hc hp hl;omega
  obtain⟨O,p4,aa,G,bc,al,aq,ay⟩:=ao;obtain⟨v4,b4,bf⟩:=r4;simp only[DC] at ai;obtain⟨rfl,rfl⟩:=ai;simp only at al;subst al
  have bb:0≤G∧G≤1000:=by
   obtain⟨r,hr,h1⟩:=Di (n:=n) (hok.c O _ (List.getElem?_eq_getElem aa)) zo;rw[aq] at hr;cases hr;exact h1
  have hL:Vb n s (O:Int)=some (G,0):=by
   unfold Vb;rw[Ed hok J zo zo,Zy,Bool.not_true,Ye,KM zo,Ye];simp only[Qd,RS];rw[UI zo,Zy,Ye,Zj,List.getElem?_eq_getElem aa,Zy,aq,Zy]
  simp only[Qd,RS];rw[show(!Qq (0:Int) 0)=false from rfl,Ye,Bool.not_true,Ye,KM zo,Ye,UI zo,Zy,Ye,Zj,List.getElem?_eq_getElem aa,Zy,hL,Zy];simp only;rw[show(!Qq (0:Int) 0)=false from rfl,Ye,UI zo,Ye,Zy];by_cases ac:1000<XU s w O p4 s.Chargers.length
  ·rw[Vy ac,V5,Iu rfl,V5,Vy ay];rfl
  rw[KM ac,Ye];have aj:=hok.c O _ (List.getElem?_eq_getElem aa);obtain⟨_,_,_,hF,hW⟩:=aj
  have Y:QX n true ((⟨(O:Int),(p4:Int),XU s w O p4 s.Chargers.length⟩:Zg),true,0) s.Conductors[O] (G,0)=some true:=by
   unfold QX;obtain⟨q,eq,q1,q2,q3,q4⟩:=Ah (n:=n) hW zo;rw[eq,Zy,q1,show(!Qq (0:Int) 0)=false from rfl,Ye];obtain⟨bz,af,bd,ba⟩:=Eh (n:=n) (c:=s.Conductors[O].Cable);unfold Z8 at af;simp only[Zf] at af;rw[af];cases bz;rotate_left
   ·rfl
   rw[Bool.not_false,V5,Zy];by_cases hq:q.1=G
   ·rw[Iu hq,V5];have hz:=ba rfl;obtain⟨t,et,ht⟩:=Qdd (n:=n) (v:=XU s w O p4 s.Chargers.length) hW hz ⟨by omega,by omega⟩ (q4 hz _ zo zo);rw[et,Zy];by_cases h0:t.2=0
    ·rw[Iu h0,V5,UI (by have:=ht h0;omega)];rfl
    ·rw[show Qq t.2 0=false from by simp[Qq,h0],Ye];rfl
   ·rw[show Qq q.1 G=false from by simp[Qq,hq],Ye]
  by_cases ah:0<s.Conductors[O].Fuse.Rated
  ·rw[Vy ah,V5,Zy];by_cases an:s.Conductors[O].Fuse.Rated=G
   ·rw[Iu an,V5];obtain⟨k,a6,be⟩:=Qdc (n:=n) (v:=XU s w O p4 s.Chargers.length) hF ah zo zo;rw[a6,Zy,show(!Qq ((k,(0:Int)).2) 0)=false from rfl,Ye,KM (by simp only;omega),Zy,Ye];exact Y
   ·rw[show Qq s.Conductors[O].Fuse.Rated G=false from by simp[Qq,an],Ye];exact Y
  ·rw[KM ah,Ye,Zy,Ye];exact Y
end Go.Proofs
namespace Go.Proofs.YtkhhdppjbakngaaGreat
open Go Go.Abs Go.Proofs
theorem mQ{s:Qo}(h:Qo.wf s):∀w∈VM s,w.length≤9223372036854775807:=by
 intro w hw;simp only[VM,List.mem_append,List.mem_map] at hw;rcases hw with(((⟨x,G,rfl⟩|⟨x,G,rfl⟩)|⟨x,G,rfl⟩)|⟨x,G,rfl⟩)|⟨x,G,rfl⟩
 ·exact(h.Conductors.2 x G).Name
 ·exact(h.Owners.2 x G).Name
 ·exact(h.Contracts.2 x G).Name
 ·exact(h.Chargers.2 x G).Name
 ·exact(h.Bays.2 x G).Name
theorem topWitnessHarms_holds:Rows.TopWitnessHarmsSaid :=
 Bc (fun s T J G=>⟨_,mP (mQ J) G.1 (by decide) QaP⟩)
end Go.Proofs.YtkhhdppjbakngaaGreat
