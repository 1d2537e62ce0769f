/-
  A part of the proof of a statement of the seat YtkhhdppjbakngaaGreatDoor.
-/
import Derived.Test.YtkhhdppjbakngaaGreatDoorSam06
set_option linter.unusedVariables false
namespace Go.Proofs
open Go Go.Abs
set_option maxRecDepth 100000
variable {T a:List Zb}{a':GN}{c:UInt8}{d:Nat}{l l':List (List PV)}{n:Nat}{n7:Bool}{s:List UInt8}{v:Int}{x:GN}{xs:List (List PV)}{y:GN}
theorem lh(h:l.map (Vu 1)=l'.map (Vu 1))(a:Ko)(g:Bool):(Yh n ⟨a,l,g⟩).map rs=(Yh n ⟨a,l',g⟩).map rs:=by
  have key:∀(k:Nat) (x y:Int) (b:Bool) (l l' m J:List (List PV)),l.map (Vu 1)=l'.map (Vu 1) →
      (Qy (fun G (v:Int×Int×List (List PV)×Bool)=>Zl n ⟨a,m,g⟩ G v.1 v.2.1 v.2.2.1 v.2.2.2) k (x,y,l,b)).map (fun r=>(r.1,r.2.1.map (Vu 1),r.2.2)) =
      (Qy (fun G (v:Int×Int×List (List PV)×Bool)=>Zl n ⟨a,J,g⟩ G v.1 v.2.1 v.2.2.1 v.2.2.2) k (x,y,l',b)).map (fun r=>(r.1,r.2.1.map (Vu 1),r.2.2)):=by
    intro k
    induction k with
   |zero=>intros;rfl
   |succ k O =>
      intro x y b l l' m J h;rw[J7,J7];have O:=fun x y b l l' h=>O x y b l l' m J h
      generalize Qy (fun G (v:Int×Int×List (List PV)×Bool)=>Zl n ⟨a,m,g⟩ G v.1 v.2.1 v.2.2.1 v.2.2.2) k=L at O ⊢;generalize Qy (fun G (v:Int×Int×List (List PV)×Bool)=>Zl n ⟨a,J,g⟩ G v.1 v.2.1 v.2.2.1 v.2.2.2) k=U at O ⊢;show(Zl n ⟨a,m,g⟩ L x y l b).map _=(Zl n ⟨a,J,g⟩ U x y l' b).map _;unfold Zl;simp only[Qb,List.length_map,TI h,show Int.toNat 1=1 from rfl];cases Ql y 0;rotate_left
      · simp[h]
      simp only[Bool.not_false,cond_true]
      cases Ql (wo .i64 x y) 0<;>simp only[Bool.not_true,Bool.not_false,cond_true,cond_false,Zf] <;>
        (cases Wq 1 (l'.length:Int) (l'.length:Int) l'.length
         · rfl
         · simp only[cond_true]
           rw[qj (AJ h _) a a _ _];cases Zr n _ with
          |none=>rfl
          |some Y =>
             simp only[Zf];cases J6 n Y with
            |none=>rfl
            |some r7=>exact O _ _ _ _ _ (AJ h _))
  unfold Yh;rw[qj h a a g g];cases Zr n ⟨a,l',g⟩ with
 |none=>rfl
 |some W =>
    simp only[Zf];cases J6 n W with
   |none=>rfl
   |some Z =>
      simp only[Zf];refine tX (key n 0 Z g l l' l l' h) ?_;rintro⟨x,v,b⟩ ⟨x',v',b'⟩ e;simp only[Prod.mk.injEq] at e;obtain⟨rfl,e,rfl⟩:=e;simp only;cases Ql x 0<;>simp[rs,e]
theorem lm{Y:GN}(h1:x.Name=Y.Name)(h:x.Kids.map (Vu 1)=Y.Kids.map (Vu 1)):Us n x=Us n Y:=by
 have key:∀(k:Nat) (a:Bool) (b c d e f g i:Int) (l l':List (List PV)) (j p q r s:Bool),l.map (Vu 1)=l'.map (Vu 1)→Qy (tB n) k (a,b,c,d,e,f,g,i,l,j,p,q,r,s)=Qy (tB n) k (a,b,c,d,e,f,g,i,l',j,p,q,r,s):=by
  intro k
  induction k with
 |zero=>intros;rfl
 |succ k W =>
   intro a b c d e f g i l l' j p q r s h;rw[J7,J7];generalize Qy (tB n) k=L at W ⊢;have go:∀{A A':Option (Int×GI)} (F:Int×GI→TSt),A.map rs=A'.map rs→(∀u J,rs u=rs J→L (F u)=L (F J))→(A.bind fun u=>L (F u))=A'.bind fun u=>L (F u):=fun F hA hF=>qi hA hF
   have U:∀{u J:Int×GI},rs u=rs J→u.1=J.1∧u.2.article=J.2.article∧u.2.values.map (Vu 1)=J.2.values.map (Vu 1)∧u.2.good=J.2.good:=by
    intro u J e;simp only[rs,Xu] at e;exact e
   unfold tB;show VY n L a b c d e f g i l j p q r s=VY n L a b c d e f g i l' j p q r s;unfold VY;simp only[Qb,Jd,TI h,show Int.toNat 1=1 from rfl];have hc:=AJ h;rw[qj h _ ⟨b,c,d,e,f,g,i⟩ _ j];cases (cond j (some (QR 0 (l'.length:Int))) (some false)) with
  |none=>rfl
  |some Z =>
    simp only[Zf];cases Z
    ·rfl
    simp only[Kb];cases Zr n ⟨⟨b,c,d,e,f,g,i⟩,l',j⟩ with
   |none=>rfl
   |some G =>
     simp only[Zf];cases (Qs G [112,101,114]&&p);rotate_left
     ·simp only[Kb];cases (cond a (some true) (some (Qs G [112,101,114]))) with
     |none=>rfl
     |some O =>
       simp only[Zf];cases Wq 1 (l'.length:Int) (l'.length:Int) l'.length
       ·rfl
       ·refine go _ (PR (hc _) _ _) fun u J e=>?_
        obtain⟨g1,g2,g3,g4⟩:=U e;rw[g1,g2,g4];exact W _ _ _ _ _ _ _ _ _ _ _ _ _ _ _ g3
     simp only[Km];cases (Qs G [102,114,101,101]&&q);rotate_left
     ·simp only[Kb];cases (cond a (some true) (some (Qs G [112,101,114]))) with
     |none=>rfl
     |some O =>
       simp only[Zf];cases Wq 1 (l'.length:Int) (l'.length:Int) l'.length
       ·rfl
       ·refine go _ (PR (hc _) _ _) fun u J e=>?_
        obtain⟨g1,g2,g3,g4⟩:=U e;rw[g1,g2,g4];exact W _ _ _ _ _ _ _ _ _ _ _ _ _ _ _ g3
     simp only[Km];cases (Qs G [111,110]&&r);rotate_left
     ·simp only[Kb];cases (cond a (some true) (some (Qs G [112,101,114]))) with
     |none=>rfl
     |some O =>
       simp only[Zf];cases Wq 1 (l'.length:Int) (l'.length:Int) l'.length
       ·rfl
       ·refine go _ (lh (hc _) _ _) fun u J e=>?_
        obtain⟨g1,g2,g3,g4⟩:=U e;rw[g1,g2,g4];exact W _ _ _ _ _ _ _ _ _ _ _ _ _ _ _ g3
     simp only[Km];cases (Qs G [98,101,116,119,101,101,110]&&s)
     ·rfl
     ·simp only[Kb];cases (cond a (some true) (some (Qs G [112,101,114]))) with
     |none=>rfl
     |some O =>
       simp only[Zf];cases Wq 1 (l'.length:Int) (l'.length:Int) l'.length
       ·rfl
       ·refine qi (PR (hc _) _ _) fun u J e=>?_
        obtain⟨g1,g2,g3,g4⟩:=U e;rw[g1,g2,g4];refine go _ (PR g3 _ _) fun v v' e=>?_
        obtain⟨g1,g2,g3,g4⟩:=U e;rw[g1,g2,g4];exact W _ _ _ _ _ _ _ _ _ _ _ _ _ _ _ g3
 unfold Us;rw[h1];cases FZ n Y.Name with
|none=>rfl
|some r1 =>
  simp only[Zf];refine qi (PR h _ _) fun u J e=>?_
  simp only[rs,Xu] at e;obtain⟨g1,g2,g3,g4⟩:=e;rw[g1,g2,g4];have hk:=fun a b c d e f g i j p q r s=>key n a b c d e f g i _ _ j p q r s g3
  unfold tB at hk;simp only[hk]
theorem lq{J:GN}(h:Jq 3 y=Jq 3 J):(ZF n y).2.Err=(ZF n J).2.Err∧(ZF n y).1=(ZF n J).1:=by
 obtain⟨_,_,_,h⟩:=KR h
 have key:∀(k:Nat) (v:List Ko×Bool×Int),(Qy (fun G (v:(List Ko)×Bool×Int)=>ZR n y G v.1 v.2.1 v.2.2) k v).map (fun r=>(r.1,r.2.Err))=(Qy (fun G (v:(List Ko)×Bool×Int)=>ZR n J G v.1 v.2.1 v.2.2) k v).map (fun r=>(r.1,r.2.Err)):=by
  intro k
  induction k with
 |zero=>intro v;rfl
 |succ k W =>
   rintro⟨c,a,b⟩;rw[J7,J7];generalize Qy (fun G (v:(List Ko)×Bool×Int)=>ZR n y G v.1 v.2.1 v.2.2) k=L at W ⊢;generalize Qy (fun G (v:(List Ko)×Bool×Int)=>ZR n J G v.1 v.2.1 v.2.2) k=Z at W ⊢;show(ZR n y L c a b).map _=(ZR n J Z c a b).map _;unfold ZR;simp only[Qb,Jd,TI h];cases QR b (J.Kids.length:Int)
   ·rfl
   simp only[Kb];rcases ER h b with⟨e,O⟩|⟨z,Y,e,O,hz⟩
   ·rw[e,O];rfl
   rw[e,O];obtain⟨g1,g2,_,g4⟩:=KR hz;simp only[Zf,g1,lm g2 g4];cases Ql Y.Kind 3;rotate_left
   ·rfl
   simp only[Km];cases Ql (c.length:Int) 12;rotate_left
   ·rfl
   simp only[Km];cases Us n Y with
  |none=>rfl
  |some U =>
    simp only[Zf];cases U.2
    ·rfl
    simp only[Bool.not_true,Km];cases Vh n U.1 with
   |none=>rfl
   |some r4 =>
     simp only[Zf];cases r4
     ·rfl
     simp only[Bool.not_true,Km];cases Ql U.1.Kind 6<;>cases a<;>simp only[Kb,Km,Zf]<;>try rfl
     all_goals
      cases QJ (List.length (c++[U.1])) 56
      ·rfl
      ·exact W _
 have hb:(Yd n y).map (fun r=>(r.1,r.2.Err))=(Yd n J).map (fun r=>(r.1,r.2.Err)):=key n _;unfold ZF;cases e:Yd n y<;>cases O:Yd n J<;>rw[e,O] at hb<;>simp only[Option.map_none,Option.map_some,reduceCtorEq,QW,Xu] at hb
 ·exact⟨rfl,rfl⟩
 ·exact⟨hb.2,hb.1⟩
theorem AL{α β:Type}{f:α→β}:∀{l l':List α},l.map f=l'.map f→∃ps:List (α×α),l=ps.map (·.1)∧l'=ps.map (·.2)∧∀p∈ps,f p.1=f p.2
|[],[],_=>⟨[],rfl,rfl,fun p h=>by cases h⟩
|[],_::_,h=>by cases h
|_::_,[],h=>by cases h
|a::l,b::l',h=>by
  simp only[Yy,List.cons.injEq] at h;obtain⟨ps,J,G,O⟩:=AL h.2;refine⟨(a,b)::ps,by rw[J];rfl,by rw[G];rfl,fun p hp=>?_⟩;rcases List.mem_cons.1 hp with rfl|hp
  ·exact h.1
  ·exact O p hp
def Qe4(n:Nat)(p:GN×GN):Prop:=p.1.Name=p.2.Name∧(ZF n p.1).2.Err=(ZF n p.2).2.Err∧(ZF n p.1).1=(ZF n p.2).1
theorem QbH{p:GN×GN}(h:Qe4 n p)(nm:List (List UInt8)):(Ga (ZF n) nm p.1).2.Err=(Ga (ZF n) nm p.2).2.Err∧(Ga (ZF n) nm p.1).1=(Ga (ZF n) nm p.2).1:=by
 unfold Ga;rw[h.1];cases nm.contains p.2.Name
 ·cases decide (8≤nm.length)
  ·exact h.2
  ·exact⟨rfl,rfl⟩
 ·exact⟨rfl,rfl⟩
theorem zW{n:Nat}:∀(ps:List (GN×GN)) (out:List JF) (dg G:List Q5) (nm:List (List UInt8)),(∀p∈ps,Qe4 n p)→dg.map (·.Err)=G.map (·.Err) →
  (MZ (ZF n) (ps.map (·.1)) out dg nm).2.map (·.Err)=(MZ (ZF n) (ps.map (·.2)) out G nm).2.map (·.Err)∧(MZ (ZF n) (ps.map (·.1)) out dg nm).1=(MZ (ZF n) (ps.map (·.2)) out G nm).1
|[],out,dg,G,nm,_,J=>⟨J,rfl⟩
|p::ps,out,dg,G,nm,U,J=>by
  have hp:=U p List.mem_cons_self;have W:=fun q Z=>U q (List.mem_cons_of_mem _ Z)
  obtain⟨o1,o2⟩:=QbH hp nm;have O:dg.length=G.length:=by simpa using congrArg List.length J
  have Y:(dg++[(Ga (ZF n) nm p.1).2]).map (·.Err)=(G++[(Ga (ZF n) nm p.2).2]).map (·.Err):=by simp only[List.map_append,J,Yy,List.map_nil,o1]
  simp only[Yy,MZ];rw[←o1,←hp.1,←O,←o2];cases decide ((Ga (ZF n) nm p.1).2.Err=0)
  ·cases decide (dg.length=19)
   ·exact zW ps _ _ _ _ W Y
   ·exact⟨Y,rfl⟩
  ·exact zW ps _ _ _ _ W J
theorem QbI(hn:9223372036854776000≤n)(W:Good n s T xs)(h0:(qa (JS xs)).2=0) :
  ∃T' ys,Good n (qa (JS xs)).1 T' ys∧Jq 4 (JS ys)=Jq 4 (JS xs):=by
 have G:=(F6 s T).1 W.1;have hD:ZH 4 (JS xs):=Qbs G.1 zo G.2.1 W.2.1;have hP:=CF W.1 W.2.1;obtain⟨hv,hs,h0⟩:=Qec h0;have Y:=Fg 4 _ hP;obtain⟨T',ys,h1,Z,h3⟩:=Qd7 hv Y;have U:∀c∈xs,∃y,GN.of c=some y∧CJ 3 y:=(TT 3 (JS xs)▸Y).2;have hw:∀t∈T,vL t:=bQ G.2.1 zo;have ab:∀t∈T',vL t:=bQ h1 zo;have ac:=um U h3;have J:=Qeb W.2.1 Z hw ab U ac h3.symm;have ad:T.length=T'.length:=by have:=congrArg List.length J;simpa using this
 have O:BK (sT (JS xs))=.ok T':=(F6 _ _).2 ⟨hs,h1,by omega⟩;obtain⟨g1,g2,g3,g4⟩:=tQ hn hv Y hs O h1 Z h3
 have hok:okT (JS ys)=true:=by
  rw[←(vE (d:=0) (Fg 4 _ g2)).1,g4,(vE (d:=0) Y).1];exact hv
 obtain⟨c,e,aa⟩:=ul g3 hn hok;rw[h0];exact⟨T',ys,⟨O,Z,c,e,aa⟩,g4⟩
theorem uC(J:Good n s T xs):ZH 4 (JS xs)∧CJ 4 (JS xs):=by
 have G:=(F6 s T).1 J.1;exact⟨Qbs G.1 zo G.2.1 J.2.1,Fg 4 _ (CF J.1 J.2.1)⟩
theorem zX{A:GN→List Ko×Q5}:∀(l:List GN) (out:List JF) (dg:List Q5) (nm:List (List UInt8)),dg.length≤19→(MZ A l out dg nm).2.length≤20
|[],out,dg,nm,h=>by unfold MZ;simp only;omega
|y::l,out,dg,nm,h=>by
  unfold MZ;by_cases c:(Ga A nm y).2.Err=0
  ·rw[Z9 c,Kb];exact zX l _ _ _ h
  ·rw[ZX c,Km];by_cases G:dg.length=19
   ·rw[Z9 G,Kb];simp only[Vv,Vr,List.length_nil];omega
   ·rw[ZX G,Km];exact zX l _ _ _ (by simp only[Vv,Vr,List.length_nil];omega)
theorem zY{A:GN→List Ko×Q5}:∀(l:List GN) (out:List JF) (dg:List Q5) (nm:List (List UInt8)),(MZ A l out dg nm).1.length≤out.length+l.length
|[],out,dg,nm=>by unfold MZ;simp
|y::l,out,dg,nm=>by
  unfold MZ;cases decide ((Ga A nm y).2.Err=0)
  ·cases decide (dg.length=19)
   ·have:=zY (A:=A) l (out++[⟨y.Name,(Ga A nm y).1⟩]) (dg++[(Ga A nm y).2]) (nm++[y.Name]);simp only[Km,Vv,Vr,List.length_nil] at this ⊢;omega
   ·simp only[Km,Kb];omega
  ·have:=zY (A:=A) l (out++[⟨y.Name,(Ga A nm y).1⟩]) dg (nm++[y.Name]);simp only[Kb,Vv,Vr,List.length_nil] at this ⊢;omega
theorem uD{z:GN}(U:CJ 4 x)(W:CJ 4 z)(h:Jq 4 x=Jq 4 z):∃ps:List (GN×GN),Qf x.Kids=ps.map (·.1)∧Qf z.Kids=ps.map (·.2)∧∀p∈ps,Jq 3 p.1=Jq 3 p.2:=by
 obtain⟨_,_,_,G⟩:=KR h;have O:=V3 (k:=3) (TT 3 x▸U).2;have J:=V3 (k:=3) (TT 3 z▸W).2;exact AL (by rw[←O,←J,G])
theorem zZ(J:ZH d x)(G:9223372036854776000≤n)(O:okT x=true) :
  WC n x=some (bif decide ((MZ (ZF n) (Xq (Qf x.Kids)) [] [] []).2=[]) then(MZ (ZF n) (Xq (Qf x.Kids)) [] [] []) else([],(MZ (ZF n) (Xq (Qf x.Kids)) [] [] []).2)):=by
 obtain⟨e,_,_,_,U⟩:=Zi J;have:=(xY O).2.2.2.2;exact xB U zo G (by rw[zN J G,O])
theorem QbJ{d':Nat}{z:GN}(ht:ZH d x)(W:ZH d' z)(hn:9223372036854776000≤n)(hv:okT x=true)(U:okT z=true)(hx:CJ 4 x)(hz:CJ 4 z)(h:Jq 4 x=Jq 4 z) :
  ∃r r',WC n x=some r∧WC n z=some r'∧r.2.map (·.Err)=r'.2.map (·.Err)∧r.1=r'.1∧r.2.length≤20∧r.1.length≤1500:=by
 obtain⟨ps,e1,e2,Z⟩:=uD hx hz h;have hA:∀p∈ps,Qe4 n p:=fun p hp=>⟨(KR (Z p hp)).2.1,lq (Z p hp)⟩
 have hN:∀p∈ps,p.1.N=p.2.N:=fun p hp=>(KR (Z p hp)).2.2.1
 have hf:∀O:List (GN×GN),(∀p∈O,p.1.N=p.2.N)→Xq (O.map (·.1))=(O.filter fun p=>decide (p.1.N=7)).map (·.1)∧Xq (O.map (·.2))=(O.filter fun p=>decide (p.1.N=7)).map (·.2):=by
  intro O
  induction O with
 |nil=>intro _;exact⟨rfl,rfl⟩
 |cons p O ih =>
   intro hq;obtain⟨Y,i2⟩:=ih fun q h=>hq q (List.mem_cons_of_mem _ h)
   have hp:=hq p List.mem_cons_self;unfold Xq at Y i2 ⊢;simp only[Yy,List.filter_cons];rw[←hp];cases decide (p.1.N=7)
   ·exact⟨Y,i2⟩
   ·simp only[if_true,Yy,Y,i2];exact⟨trivial,trivial⟩
 obtain⟨f1,f2⟩:=hf ps hN;rw[zZ ht hn hv,zZ W hn U,e1,e2,f1,f2];have hb:=zW (n:=n) (ps.filter fun p=>decide (p.1.N=7)) [] [] [] [] (fun p hp=>hA p (List.mem_filter.1 hp).1) rfl;have J:=zX (A:=ZF n) ((ps.filter fun p=>decide (p.1.N=7)).map (·.1)) [] [] [] zq;have G:=zY (A:=ZF n) ((ps.filter fun p=>decide (p.1.N=7)).map (·.1)) [] [] []
 have aa:(ps.filter fun p=>decide (p.1.N=7)).length≤1500:=by
  have h1:=List.length_filter_le (fun p:GN×GN=>decide (p.1.N=7)) ps;have h2:=congrArg List.length e1;have h3:=Bt x.Kids;have h4:=(xY hv).2.2.2.2;simp only[Jd] at h2;omega
 simp only[List.length_nil,Jd] at G;generalize MZ (ZF n) ((ps.filter fun p=>decide (p.1.N=7)).map (·.1)) [] [] []=r at hb J G;generalize MZ (ZF n) ((ps.filter fun p=>decide (p.1.N=7)).map (·.2)) [] [] []=r' at hb;refine⟨_,_,rfl,rfl,?_⟩;by_cases c:r.2=[]
 ·have c':r'.2=[]:=by
   have:=hb.1;rw[c] at this;simpa using this.symm
  rw[Z9 c,Z9 c',Kb,Kb];exact⟨hb.1,hb.2,J,by omega⟩
 ·have c':r'.2≠[]:=by
   intro h;have:=hb.1;rw[h] at this;exact c (by simpa using this)
  rw[ZX c,ZX c',Km,Km];exact⟨hb.1,rfl,J,by simp⟩
theorem PU(d:Nat):∀l:List (List PV),Qf (l.map (Vu d))=(Qf l).map (Jq d)
|[]=>rfl
|c::l=>by
  have G:=PU d l;unfold Qf at G ⊢;rw[Yy,List.filterMap_cons,List.filterMap_cons,QbE];cases GN.of c with
 |none=>exact G
 |some y=>simp only[Option.map_some,Yy,G]
theorem CR(h:l.map (Vu (d+1))=l'.map (Vu (d+1))):∃ps:List (GN×GN),Qf l=ps.map (·.1)∧Qf l'=ps.map (·.2)∧∀p∈ps,Jq (d+1) p.1=Jq (d+1) p.2 :=
 AL (by rw[←PU,←PU,h])
def ea{A:Type}(x:Except (Int×Int) A):Except Int A:=match x with
|.ok a=>.ok a
|.error e=>.error e.1
theorem M8{A B:Type}{x G:Except (Int×Int) A}{k k':A→Except (Int×Int) B}(h:ea x=ea G)(J:∀a,ea (k a)=ea (k' a)):ea (eb x k)=ea (eb G k'):=by
 cases x<;>cases G<;>simp only[ea,reduceCtorEq,Except.error.injEq,Except.ok.injEq] at h
 ·simp only[eb,ea,h]
 ·subst h;exact J _
theorem lu{A:Type}{x G:Except (Int×Int) A}(h:ea x=ea G):(∃e J,x=.error e∧G=.error J∧e.1=J.1)∨∃a,x=.ok a∧G=.ok a:=by
 cases x<;>cases G<;>simp only[ea,reduceCtorEq,Except.error.injEq,Except.ok.injEq] at h
 ·exact .inl ⟨_,_,rfl,rfl,h⟩
 ·subst h;exact .inr ⟨_,rfl,rfl⟩
theorem lv:∀(l:List GN) (sp:List K6),(l.zip sp).all mJ=((l.map (·.N)).zip sp).all (fun p=>decide (p.2.from_≤p.1)&&decide (p.1≤p.2.to_))
|[],_=>by simp
|_::_,[]=>by simp
|a::l,b::sp=>by
  simp only[Yy,List.zip_cons_cons,List.all_cons,lv l sp];rfl
theorem uE{a:GN}(h:Jq (d+2) a=Jq (d+2) a')(sp:List K6):ea (tT a sp)=ea (tT a' sp):=by
 obtain⟨_,_,_,J⟩:=KR h;obtain⟨ps,Y,O,G⟩:=CR J
 have W:(ps.map (·.1)).map (·.N)=(ps.map (·.2)).map (·.N):=by
  rw[List.map_map,List.map_map];exact List.map_congr_left fun p hp=>(KR (G p hp)).2.2.1
 have U:(ps.map (·.1)).all (fun y=>decide (y.Kind=6))=(ps.map (·.2)).all (fun y=>decide (y.Kind=6)):=by
  rw[List.all_map,List.all_map,Bool.eq_iff_iff,Xb,Xb];constructor
  ·intro q p hp;have:=q p hp;simp only[Function.comp] at this ⊢;rw[←(KR (G p hp)).1];exact this
  ·intro q p hp;have:=q p hp;simp only[Function.comp] at this ⊢;rw[(KR (G p hp)).1];exact this
 unfold tT snR;rw[lv,lv,Y,O,W,U,TI J];split
 ·split
  ·split<;>rfl
  ·rfl
 ·rfl
theorem Qe5{a:GN}(h:Jq (d+2) a=Jq (d+2) a')(ks:List Int)(th:tV):ea (nmF ks th a)=ea (nmF ks th a'):=by
 obtain⟨_,_,_,J⟩:=KR h;obtain⟨ps,U,O,G⟩:=CR J;unfold nmF;rw[U,O]
 match ps,G with
|[],_=>rfl
|[p],G =>
  obtain⟨g1,g2,_,_⟩:=KR (G p List.mem_cons_self);simp only[Yy,List.map_nil,g1,g2];split
  ·split
   ·split<;>rfl
   ·rfl
  ·rfl
|_::_::_,_=>rfl
theorem Qe6{a:GN}(h:Jq (d+2) a=Jq (d+2) a'):ea (phF a)=ea (phF a'):=by
 have O:∀(l:List Int) (x y:Int),ea (phL a l x y)=ea (phL a' l x y):=by
  intro l
  induction l with
 |nil=>intro x y;rfl
 |cons z l J =>
   intro x y;unfold phL;split
   ·rfl
   ·exact J _ _
 obtain⟨_,_,_,G⟩:=KR h;unfold phF mM;rw[TI G];split
 ·exact M8 (uE h _) fun l=>O l 0 0
 ·rfl
theorem kg{a:GN}(J:a.Name=a'.Name)(ks:List Int)(k:Int)(G:Uz){v v':Except (Int×Int) SQ}(O:ea v=ea v'):ea (Df ks k a G v)=ea (Df ks k a' G v'):=by
 unfold Df;rw[J];split
 ·split
  ·rfl
  ·exact M8 O fun q=>rfl
 ·rfl
theorem Qe7{a:GN}(h:Jq (d+2) a=Jq (d+2) a')(k:Int)(cs:List Yf)(th:tV)(q:SQ)(U:Uz):ea (QbA k cs th a q U)=ea (QbA k cs th a' q U):=by
 have G:=(KR h).2.1;have num:∀sp f,ea (qg a sp f)=ea (qg a' sp f):=fun sp f=>M8 (uE h sp) fun l=>rfl
 have nm:∀ks f,ea (nmQ ks th a f)=ea (nmQ ks th a' f):=fun ks f=>M8 (Qe5 h ks th) fun l=>rfl
 have cd:∀f,ea (uq cs a f)=ea (uq cs a' f):=fun f=>M8 (uE h _) fun l=>by split<;>rfl
 have Y:∀f:Int→SQ,ea (eb (phF a) fun x=>.ok (f x))=ea (eb (phF a') fun x=>.ok (f x)):=fun f=>M8 (Qe6 h) fun l=>rfl
 unfold QbA;rw[←G]
 have ite:∀{c:Prop} [Decidable c] {x y J O:Except (Int×Int) (SQ×Uz)},ea x=ea J→ea y=ea O→ea (if c then x else y)=ea (if c then J else O):=by
  intro c _ x y J O Z W;split
  ·exact Z
  ·exact W
 repeat' first|exact kg G _ _ _ (num _ _)|exact kg G _ _ _ (nm _ _)|exact kg G _ _ _ (cd _)|exact kg G _ _ _ (Y _)|refine ite ?_ ?_
 rfl
theorem lw{d:Nat}(k:Int)(cs:List Yf)(th:tV):∀(ps:List (GN×GN)),(∀p∈ps,Jq (d+2) p.1=Jq (d+2) p.2)→∀(q:SQ) (G:Uz),ea (RX k cs th (ps.map (·.1)) q G)=ea (RX k cs th (ps.map (·.2)) q G)
|[],_,_,_=>rfl
|p::ps,h,q,G=>by
  have hp:=h p List.mem_cons_self;have J:=lw (d:=d) k cs th ps fun p hp=>h p (List.mem_cons_of_mem _ hp)
  simp only[Yy,RX];rw[(KR hp).1];split
  ·exact M8 (Qe7 hp k cs th q G) fun v=>J _ _
  ·exact J _ _
def za(s:BS):BS:=⟨s.cs,s.os,s.ks,s.gs,s.bs,s.fd,s.dg.map fun x=>⟨x.Err,0⟩,s.nm,s.th⟩
theorem lC{U:GN}(h:Jq (d+3) y=Jq (d+3) U){s s':BS}(hs:za s=za s'):za (Gh y s)=za (Gh U s'):=by
 obtain⟨cs,os,ks,gs,bs,fd,dg,nm,th⟩:=s;obtain⟨cs',aa,ad,ac,af,ab,G,ah,ae⟩:=s';simp only[za,BS.mk.injEq] at hs;obtain⟨rfl,rfl,rfl,rfl,rfl,rfl,hd,rfl,rfl⟩:=hs;obtain⟨_,Y,O,hk⟩:=KR h;obtain⟨ps,e1,e2,e3⟩:=CR hk
 have W:ea (uu y ⟨cs,os,ks,gs,bs,fd,dg,nm,th⟩)=ea (uu U ⟨cs,os,ks,gs,bs,fd,G,nm,th⟩):=by
  unfold uu;rw[e1,e2,O];refine M8 (lw _ _ _ ps e3 _ _) fun v=>M8 ?_ fun _=>rfl
  unfold whF;rw[O];split
  ·rfl
  ·split<;>rfl
 unfold Gh;rw[show twB y ⟨cs,os,ks,gs,bs,fd,dg,nm,th⟩=twB U ⟨cs,os,ks,gs,bs,fd,G,nm,th⟩ from by unfold twB;rw[Y,O],show CQ y.N ⟨cs,os,ks,gs,bs,fd,dg,nm,th⟩=CQ U.N ⟨cs,os,ks,gs,bs,fd,G,nm,th⟩ from by rw[O];rfl,O]
 have J:∀e Z:Int×Int,e.1=Z.1→za ((YR y ⟨cs,os,ks,gs,bs,fd,dg,nm,th⟩).err e)=za ((YR U ⟨cs,os,ks,gs,bs,fd,G,nm,th⟩).err Z):=by
  intro e Z he;simp only[za,YR,BS.err,Y,O,List.map_append,hd,Yy,List.map_nil,he]
 split
 ·exact J _ _ rfl
 split
 ·simp only[za,YR,Y,O,hd]
 split
 ·exact J _ _ rfl
 rcases lu W with⟨e,Z,g1,g2,g3⟩|⟨q,g1,g2⟩
 ·rw[g1,g2];exact J _ _ g3
 ·rw[g1,g2];simp only;unfold zV;simp only[Y,O];have hr:∀k,CQ k (YR y ⟨cs,os,ks,gs,bs,fd,dg,nm,th⟩)=CQ k (YR U ⟨cs,os,ks,gs,bs,fd,G,nm,th⟩):=fun k=>rfl
  rw[hr]
  repeat' split
  all_goals simp only[za,YR,Y,O,hd]
theorem mQ{d:Nat}:∀(ps:List (GN×GN)),(∀p∈ps,Jq (d+3) p.1=Jq (d+3) p.2)→∀(s s':BS),za s=za s'→za (runF (ps.map (·.1)) s)=za (runF (ps.map (·.2)) s')
|[],_,s,s',h=>h
|p::ps,h,s,s',hs=>by
  have G:=lC (h p List.mem_cons_self) hs
  have J:(Gh p.1 s).dg.length=(Gh p.2 s').dg.length:=by
   have:=congrArg (fun z=>z.dg.length) G;simpa [za] using this
  simp only[Yy,runF];rw[←J];split
  ·exact G
  ·exact mQ ps (fun p hp=>h p (List.mem_cons_of_mem _ hp)) _ _ G
theorem lD{d':Nat}{z:GN}(ht:ZH d x)(W:ZH d' z)(Y:9223372036854776000≤n)(Z:okT x=true)(G:okT z=true)(h:Jq 4 x=Jq 4 z) :
  ∃r r',Yx n x=some r∧Yx n z=some r'∧r.1=r'.1∧r.2.map (·.Err)=r'.2.map (·.Err):=by
 obtain⟨_,_,_,hk⟩:=KR h;obtain⟨ps,e1,e2,e3⟩:=CR hk
 have hw:∀{y:GN},okT y=true→U3 y=true∧1+(y.Kids.length:Int)+PT (Qf y.Kids)≤1500:=by
  intro y hy;simp only[okT,leI,ZG,Fh] at hy;exact⟨hy.1,by omega⟩
 have g1:=vO ht Y (hw Z).2;have g2:=vO W Y (hw G).2;rw[(hw Z).1,e1] at g1;rw[(hw G).1,e2] at g2;have U:=mQ ps e3 bs0 bs0 rfl;generalize runF (ps.map (·.1)) bs0=s at g1 U;generalize runF (ps.map (·.2)) bs0=s' at g2 U;refine⟨_,_,g1,g2,?_⟩;obtain⟨cs,os,ks,gs,bs,fd,dg,nm,th⟩:=s;obtain⟨cs',aa,ad,ac,af,ab,J,ah,ae⟩:=s';simp only[za,BS.mk.injEq] at U;obtain⟨rfl,rfl,rfl,rfl,rfl,rfl,hd,rfl,rfl⟩:=U
 have hd2:dg.map (·.Err)=J.map (·.Err):=by
  have:=congrArg (List.map (·.Err)) hd;simpa [List.map_map,Function.comp_def] using this
 have O:dg=[]↔J=[]:=by
  constructor<;>intro e<;>subst e<;>simpa using hd
 simp only[if_true,O];split
 ·split<;>exact⟨rfl,rfl⟩
 ·exact⟨rfl,hd2⟩
def nmT(s:List UInt8):Prop:=(1≤s.length∧s.length≤12)∧(∀x∈s.head?,97≤ZQ x∧ZQ x≤122)∧s.all OP=true
theorem QbK(h:Di c=true):OP c=true:=by
 unfold Di OT Uy at h;simp only[Bool.or_eq_true,Fh] at h;refine Z9 ?_;rcases h with(h|h)|h
 ·exact .inl h
 ·exact .inr (.inl h)
 ·exact .inr (.inr h)
theorem Qhe{t x:List UInt8}{k:Int}(hw:Yi t=true)(h:Jh t=.ok (k,x,v))(U:k=1):nmT x:=by
 cases t with
|nil=>cases hw
|cons c r =>
  unfold Jh at h;unfold Yi at hw;simp only at h hw;by_cases J:OT c=true
  ·rw[if_pos J] at h hw;split at h
   ·cases h
   ·rename_i O;simp only[Except.ok.injEq,Xu] at h;obtain⟨_,rfl,_⟩:=h;refine⟨⟨by simp,by omega⟩,fun y G=>?_,?_⟩
    ·simp only[List.head?_cons,Option.mem_def,QW] at G;subst G;exact of_decide_eq_true J
    ·rw[Xb] at hw ⊢;exact fun y G=>QbK (hw y G)
  ·rw[if_neg J] at h;split at h
   ·split at h
    ·cases h
    cases hv:Gf 0 (c::r) with
   |none=>rw[hv] at h;cases h
   |some u =>
     rw[hv] at h;simp only[Except.ok.injEq,Xu] at h;omega
   ·split at h
    ·simp only[Except.ok.injEq,Xu] at h;omega
    ·cases h
def wfN(t:Zb):Prop:=vL t∧(t.Kind=1→nmT t.Text)
theorem Qhf{p:Nat}{l:List Zb}(h:Lx p s l):∀t∈l,t.Kind=1→nmT t.Text:=by
 induction h with
|nil U=>intro t J;cases J
|@cons p g t r l k v x U hw J O Y W =>
  intro z G;rcases List.mem_cons.1 G with rfl|G
  ·exact fun h=>Qhe hw J h
  ·exact W z G
theorem Qe9(h:nmT s)(J:Lr s=false):Gv s=true:=by
 obtain⟨O,G,U⟩:=h;unfold Gv;rw[J,U,Z9 O,Z9 G];rfl
theorem Qhg{w:Bool}{t:Zb}(h:okV w t=true)(hb:wfN t):VZ w (F8 t)=true:=by
 unfold okV at h;unfold F8 VZ;by_cases c:t.Kind=2
 ·rw[if_pos c];simp[hb.1.2.1.1,hb.1.2.1.2]
 ·rw[if_neg c];rw[ZX c,Bool.false_or,ZG] at h;have J:=of_decide_eq_true h.1;cases hk:Lr t.Text
  ·have:=Qe9 (hb.2 J) hk;simp[this]
  ·have G:=h.2;rw[hk] at G;simp only[Bool.not_true,Bool.false_or,ZG] at G;rw[Qbm] at G;simp[G.1,G.2]
theorem lF{w:Bool}{v:List Zb}(h:∀x∈v,okV w x=true)(hb:∀t∈v,wfN t):(Qf (v.map M4)).all (VZ w)=true:=by
 rw[M7,List.all_map,Xb];exact fun t G=>Qhg (h t G) (hb t G)
theorem uF(x:GN)(xs:List (List PV)):Qf (GN.cs x::xs)=x::Qf xs:=WK (Jp x)
theorem lG(h:Dc a xs):(∀t∈a,wfN t)→∀r:List GN,UB n7 false (Qf xs++r)=UB n7 false r:=by
 induction h with
|nil=>intro _ r;rfl
|@cons t v q xs Y J O W U =>
  intro hb r
  have hp:Z8 (⟨3,t.Text,0,t.At,v.map M4⟩:GN)=true:=by
   unfold Z8;simp only;rw[←Qbk,J,show decide ((3:Int)=4)=false from rfl,lF O fun z G=>hb z (by simp[G])];rfl
  rw[uF,List.cons_append,UB,hp,←U (fun z G=>hb z (by simp[G])) r];simp
theorem Qfa(h:qY a x)(hb:∀t∈a,wfN t):Z8 x=true∧x.Kind=4:=by
 cases h with
|@mk t e v Y G O W =>
  refine⟨?_,rfl⟩;have U:=lF O fun z J=>hb z (by simp[J])
  unfold Z8;simp only;rw[←Qbl,G];simp[U]
theorem Qfb(h:M5 a xs):(∀t∈a,wfN t)→∀p,UB true p (Qf xs)=true:=by
 induction h with
|nil=>intro _ p;rfl
|@cons a r x xs J W O =>
  intro hb p;obtain⟨k1,U⟩:=Qfa J fun z G=>hb z (by simp[G])
  rw[uF,UB,k1,U,O (fun z G=>hb z (by simp[G])) _];rfl
theorem QbL(h:TS a x)(hb:∀t∈a,wfN t):YJ x=true:=by
 cases h with
|@plain t m e a xs h1 Z h3 O U Y h7 =>
  have hk:=PO Z;have W:=Qe9 ((hb m zq).2 O) U;have J:=lG (n7:=decide (F7 t.Text=7)) Y (fun z G=>hb z (by simp[G])) [];rw[List.append_nil] at J;unfold YJ;simp only;rw[W,J,Z9 hk.2.1,Z9 hk.2.2];rfl
|@tariff t m e a b xs ys h1 Z O U Y h7 h8 =>
  have W:=Qe9 ((hb m zq).2 O) U;have J:=lG (n7:=true) Y (fun z G=>hb z (by simp[G])) (Qf ys);have hR:=Qfb h8 (fun z G=>hb z (by simp[G])) false;unfold YJ;simp only;rw[W,Bw];simp[J,hR]
theorem QbM(h:UD a xs):(∀t∈a,wfN t)→(Qf xs).all YJ=true:=by
 induction h with
|nil=>intro _;rfl
|@cons a r x xs J U O =>
  intro hb;rw[uF,List.all_cons,QbL J (fun z G=>hb z (by simp[G])),O (fun z G=>hb z (by simp[G]))];rfl
theorem lH:∀(d:Nat) (x:GN),ZH (d+1) x→sz (d+1) x=sz d x
|0,x,h=>by
  obtain⟨e,O,_,_,G⟩:=Zi h
  have:Qf x.Kids=[]:=by
   cases hl:Qf x.Kids with
  |nil=>rfl
  |cons y r =>
    have:=Fb G y (by rw[hl];simp);rw[show e=0 by omega] at this;exact this.elim
  unfold sz;rw[this];rfl
|d+1,x,h=>by
  obtain⟨e,O,_,_,G⟩:=Zi h;have J:=Fb G;rw[show e=d+1 by omega] at J;rw[sz,sz];have:(Qf x.Kids).map (sz (d+1))=(Qf x.Kids).map (sz d):=List.map_congr_left fun y U=>lH d y (J y U)
  rw[this]
theorem mR(hn:9223372036854776000≤n)(O:Good n s T xs):okT (JS xs)=true:=by
 have J:=(F6 s T).1 O.1;have U:=(uC O).1;have Z:=bQ J.2.1 zo;have W:=Qhf J.2.1;have G:=QbM O.2.1 fun t ht=>⟨Z t ht,W t ht⟩
 obtain⟨c,e,Y⟩:=O.2.2;obtain⟨r,e',_,_,g3,_⟩:=xP 1500 n 4 (JS xs) 1500 U zo zo zo zo;obtain rfl:c=r:=by rw[e] at e';exact Option.some.inj e'
 have h4:=g3 Y;rw[lH 3 _ U,sz3 U] at h4;unfold okT U3;rw[show(JS xs).Kind=1 from rfl,show(JS xs).Name=[] from rfl,show(JS xs).N=0 from rfl,show(Qf (JS xs).Kids).all YJ=true from G];simp only[leI];rw[Z9 (show 1+(((JS xs).Kids.length:Int)+PT (Qf (JS xs).Kids))≤1500 by omega)];rfl
theorem Qfc:K3 36893488147419103232=some true:=by kernel_rfl
theorem R3{R V:Type}{B:(V→Option R)→V→Option R}{E:Option R}{f:Nat→V}{k:Nat}(hs:∀rec (i:Nat),i<k→B rec (f i)=rec (f (i+1)))(G:∀rec,B rec (f k)=E):∀{n:Nat} (i:Nat),i≤k→k-i<n→Qy B n (f i)=E
|0,_,_,h=>absurd h (Nat.not_lt_zero _)
|n+1,i,hi,h=>by
  unfold Qy;by_cases c:i<k
  ·rw[hs _ i c];exact R3 hs G (i+1) c zo
  ·rw[show i=k by omega];exact G _
theorem mU{a b:List Q5}(h:a.map (·.Err)=b.map (·.Err))(O:a.length≤900)(U:1000≤n):Ke n a b=some true:=by
 have G:a.length=b.length:=by simpa using congrArg List.length h
 unfold Ke;simp only[Qb,Jd];rw[qZ zo,Bool.not_true,Km];refine R3 (f:=fun i:Nat=>(i:Int)) (k:=a.length) (fun rec i hi=>?_) (fun rec=>?_) 0 zo zo
 ·unfold Kk;simp only[Qb,Jd]
  have J:(a[i]).Err=(b[i]'zo).Err:=by
   have:=congrArg (fun l=>l[i]?) h;simp only[List.getElem?_map,List.getElem?_eq_getElem hi,List.getElem?_eq_getElem (show i<b.length by omega),Option.map_some,QW] at this;exact this
  rw[A9 zo,Kb,ZL,List.getElem?_eq_getElem hi,Zf,ZL,List.getElem?_eq_getElem (show i<b.length by omega),Zf,J,qZ rfl,Ka zo zo];rfl
 ·unfold Kk;simp only[Qb,Jd];rw[ET zo,Km]
theorem lI{t:JF}(G:t.Articles.length≤900)(J:1000≤n):Uw n t t=some true:=by
 unfold Uw;simp only[Qbg,Bool.not_true,Km,Zf];rw[qZ rfl,Bool.not_true,Km];refine R3 (f:=fun i:Nat=>(i:Int)) (k:=t.Articles.length) (fun rec i hi=>?_) (fun rec=>?_) 0 zo zo
 ·unfold Jg;simp only[Qb,Jd];rw[A9 zo,Kb,ZL,List.getElem?_eq_getElem hi,Zf,Zf,Ka zo zo];simp[Ni,Ql]
 ·unfold Jg;simp only[Qb,Jd];rw[ET zo,Km]
theorem Qfd{l:List JF}(O:l.length≤2000)(G:∀t∈l,t.Articles.length≤900)(J:3000≤n):Kq n l l=some true:=by
 unfold Kq;rw[qZ rfl,Bool.not_true,Km];refine R3 (f:=fun i:Nat=>(i:Int)) (k:=l.length) (fun rec i hi=>?_) (fun rec=>?_) 0 zo zo
 ·unfold Z0;simp only[Qb,Jd];rw[A9 zo,Kb,ZL,List.getElem?_eq_getElem hi,Zf,Zf,lI (G _ (List.getElem_mem hi)) zo,Zf,Ka zo zo];rfl
 ·unfold Z0;simp only[Qb,Jd];rw[ET zo,Km]
theorem ku{A:GN→List Ko×Q5}:∀(l:List GN) (out:List JF) (dg:List Q5) (nm:List (List UInt8)),(MZ A l out dg nm).2=[]→dg=[]
|[],out,dg,nm,h=>h
|y::l,out,dg,nm,h=>by
  unfold MZ at h;cases c:decide ((Ga A nm y).2.Err=0)
  ·rw[c,Km] at h;cases c2:decide (dg.length=19)
   ·rw[c2,Km] at h;have:=ku l _ _ _ h;simp at this
   ·rw[c2,Kb] at h;simp at h
  ·rw[c,Kb] at h;exact ku l _ _ _ h
theorem vR{A:GN→List Ko×Q5}:∀(l:List GN) (out:List JF) (dg:List Q5) (nm:List (List UInt8)),(∀y∈l,(A y).2.Err=0→(A y).1.length≤12)→(∀t∈out,t.Articles.length≤12)→(MZ A l out dg nm).2=[]→∀t∈(MZ A l out dg nm).1,t.Articles.length≤12
|[],out,dg,nm,_,O,_=>O
|y::l,out,dg,nm,U,O,G=>by
  have W:=fun z Y=>U z (List.mem_cons_of_mem _ Y)
  unfold MZ at G ⊢;cases c:decide ((Ga A nm y).2.Err=0)
  ·rw[c,Km] at G;exfalso;cases c2:decide (dg.length=19)
   ·rw[c2,Km] at G;have:=ku l _ _ _ G;simp at this
   ·rw[c2,Kb] at G;simp at G
  ·rw[c,Kb] at G;rw[Kb];refine vR l _ _ _ W (fun t J=>?_) G;rcases List.mem_append.1 J with J|J
   ·exact O t J
   ·obtain rfl:=List.mem_singleton.1 J;have c:=of_decide_eq_true c;have Z:=U y List.mem_cons_self;simp only;unfold Ga at c ⊢;cases e1:nm.contains y.Name
    ·rw[e1,Km] at c;rw[Km];cases e2:decide (8≤nm.length)
     ·rw[e2,Km] at c;exact Z c
     ·exact Nat.zero_le _
    ·exact Nat.zero_le _
theorem lJ{r:List JF×List Q5}(G:ZH d x)(O:9223372036854776000≤n)(hv:okT x=true)(h:WC n x=some r):∀t∈r.1,t.Articles.length≤12:=by
 obtain⟨e,_,_,_,hk⟩:=Zi G
 have Y:∀y∈Xq (Qf x.Kids),(ZF n y).2.Err=0→(ZF n y).1.length≤12:=by
  intro y J h0;have J:=(List.mem_filter.1 J).1;obtain⟨q,Z,W,_⟩:=xA (n:=n) (Fb hk _ J) O;have U:ZF n y=q:=by unfold ZF;rw[Z];rfl
  rw[U];exact W
 rw[zZ G O hv] at h;obtain rfl:=Option.some.inj h;have:=vR (Xq (Qf x.Kids)) [] [] [] Y (fun t G=>by cases G);by_cases c:(MZ (ZF n) (Xq (Qf x.Kids)) [] [] []).2=[]
 ·rw[Z9 c,Kb];exact this c
 ·rw[ZX c,Km];exact fun t G=>by cases G
theorem mV:∀(l:List GN) (s:BS),s.fit→s.dg.length≤19→(runF l s).dg.length≤20
|[],s,_,h=>by unfold runF;omega
|y::l,s,hf,h=>by
  obtain⟨f1,f2,_⟩:=PQ (y:=y) hf;unfold runF;split
  ·omega
  ·exact mV l _ f1 zo
theorem lK{r:Q0×List Q5}(ht:ZH d x)(Y:9223372036854776000≤n)(hv:okT x=true)(h:Yx n x=some r):r.2.length≤20∧r.1.Conductors.length≤1000∧r.1.Owners.length≤1000∧r.1.Contracts.length≤1000∧r.1.Chargers.length≤1000∧r.1.Bays.length≤1000:=by
 have G:=hv;simp only[okT,leI,ZG,Fh] at G;have g:=vO ht Y zo;rw[G.1] at g;rw[g] at h;obtain rfl:=Option.some.inj h;have J:=mV (Qf x.Kids) bs0 Qi6 (by simp[bs0]);obtain⟨O,h3,U,W,Z⟩:=bV (l:=Qf x.Kids) Qi6;generalize runF (Qf x.Kids) bs0=s at J O h3 U W Z;simp only[if_true];split
 ·split
  ·exact⟨by simp,by simp only[BS.site];omega,by simp only[BS.site];omega,by simp only[BS.site];omega,by simp only[BS.site];omega,by simp only[BS.site];omega⟩
  ·exact⟨by simp,by simp,by simp,by simp,by simp,by simp⟩
 ·exact⟨J,by simp,by simp,by simp,by simp,by simp⟩
theorem lL:ZH 1 nz:=⟨by decide,by decide,by decide,by decide,by decide,fun k G=>by cases G⟩
theorem lM(J:9223372036854776000≤n)(hh:K3 n=some true):ZV n s=some true:=by
 unfold ZV;rw[hh,Zf];cases hlen:QR 3000 (Qb s);rotate_left
 ·rfl
 rw[Km];obtain⟨r,er,hr⟩:=xL n s zo;rw[er,Zf];rcases hr with⟨O,T,xs,hG,U⟩|⟨U,O,_⟩
 rotate_left
 ·have:0<r.2.length:=List.length_pos_iff.2 O;rw[U,xZ lL J,Zf];simp only[Qb,Jd];rw[A9 zo];rfl
 obtain⟨hD,hS⟩:=uC hG;have Z:=mR J hG;rw[U,O,xZ hD J,Zf];simp only[Qb,List.map_nil,List.length_nil];rw[show QR 0 ((0:Nat):Int)=false from rfl,Km,Zf];rcases mH (JS xs) with h0|⟨_,h0⟩|⟨G,_⟩
 rotate_left
 ·rw[h0];rfl
 ·rw[Z] at G;cases G
 obtain⟨T',ys,W,aa⟩:=QbI J hG h0;obtain⟨Y,ab⟩:=uC W;have G:=mR J W;obtain⟨p1,p2,b1,b2,b3,b4,b5,b6⟩:=QbJ hD Y J Z G hS ab aa.symm;obtain⟨q1,q2,c1,c2,c3,c4⟩:=lD hD Y J Z G aa.symm;obtain⟨d1,d2,d3,d4,d5,d6⟩:=lK hD J Z c1;have ac:=lJ hD J Z b1;rw[h0,qZ rfl,Bool.not_true,Km,O7 zo W,Zf,c1,Zf];simp only;rw[c2,Zf,b1,Zf,b2,Zf,←c3,←b4,mP d2 d3 d4 d5 d6 zo,mU c4 zo zo,Qfd zo (fun t ht=>by have:=ac t ht;omega) zo,mU b3 zo zo];rfl
end Go.Proofs
namespace Go.Proofs.YtkhhdppjbakngaaGreatDoor
open Go Go.Abs Go.Proofs
theorem topSameSources_holds:Rows.TopSameSourcesCardSaid :=
 BJ (fun s h=>⟨_,lM (by decide) Qfc⟩)
end Go.Proofs.YtkhhdppjbakngaaGreatDoor
