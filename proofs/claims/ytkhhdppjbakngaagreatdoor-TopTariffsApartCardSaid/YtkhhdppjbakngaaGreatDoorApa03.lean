/-
  A part of the proof of a statement of the seat YtkhhdppjbakngaaGreatDoor.
-/
import Derived.Test.YtkhhdppjbakngaaGreatDoorApa02
set_option linter.unusedVariables false
namespace Go.Abs
open Go
variable {D:DB}{H:List (Nat×Blk)}{M M0:ZM}{N:Nat}{P:Program}{Q:AX→St→Prop}{Q':Exit→Act→World→Prop}{T:Nat→Option AV}{a:Act}{b:Nat}{body c:Code}{d:Nat}{e:TypeId}{α:Type}{enc:α→List PV}{es:List (Bool×List UInt8×AV)}{fn:Func}{h h0:QO}{hc hc':List (Nat×Blk)}{hi:Option Operand}{i id:Nat}{ix:Operand}{j:Nat}{k0:Blk}{kt:TypeId}{len:Nat}{listed:Array Bool}{lo:Option Operand}{n:Nat}{nf:R3}{o:Oper}{ok:Bool}{ops:Array Oper}{p:AV}{pd:Option Code}{ro:Option Nat}{s s' s1:St}{st:LoopState}{sv:AV}{tk:Nat}{tx ty:TypeId}{v:Value}{w w' w0:World}{x y:Operand}{z:Value}{β:Type}{ρ φ φ' φ0:Nat→Nat}
section
variable {P:Program}{o:Oper}{T:Nat→Option AV}{h:QO}
def pW(P:Program):Nat→TypeId→Value→Value→Option Bool
|0,_,_,_=>none
|d+1,t,x,y =>
  match P.underlying t with
 |some .bool=>match x,y with|.bool a,.bool b=>some (a==b)|_,_=>none
 |some (.int _)=>match x,y with|.int k a,.int k' b=>if k=k' then some (Qj a b) else none|_,_=>none
 |some .string=>match x,y with|.string a,.string b=>some (Qs (JK a) (JK b))|_,_=>none
 |some (.struct fields)=>match x,y with
  |.agg xs,.agg ys=>if P.stoodInHeld t then none else fields.toList.foldr (fun f r=>if f.name="_" then r else
     match TI P f.type xs.toList f.offset,TI P f.type ys.toList f.offset with
    |some a,some b=>match pW P d f.type a b,r with|some p,some q=>some (p&&q)|_,_=>none
    |_,_=>none) (some true)
  |_,_=>none
 |_=>none
theorem fJ(P:Program):∀(d:Nat) (t:TypeId) (x y:Value),pW P d t x y=eqV P d t x y
 |0,t,x,y=>by simp[pW,eqV]
 |d+1,t,x,y=>by
    have hf:∀(xs ys:List Value) (G:List Field),G.foldr (fun f r=>if f.name="_" then r else
          match TI P f.type xs f.offset,TI P f.type ys f.offset with
         |some a,some b=>match pW P d f.type a b,r with|some p,some q=>some (p&&q)|_,_=>none
         |_,_=>none) (some true)=eqV.eqFs P d xs ys G:=by
      intro xs ys G
      induction G with
     |nil=>simp[eqV.eqFs]
     |cons f G U =>
        simp only[List.foldr_cons,eqV.eqFs,U];split
        · rfl
        · split
          · rename_i a b O J;simp only[O,J,fJ P d f.type a b];cases eqV P d f.type a b<;>cases eqV.eqFs P d xs ys G<;>rfl
          · rename_i O
            split
            · rename_i J Z;exact absurd Z (by intro W;exact O _ _ J W)
            · rfl
    unfold pW eqV;cases hu:P.underlying t with
   |none=>rfl
   |some Y =>
      cases Y with
     |bool=>cases x<;>cases y<;>rfl
     |int k=>cases x<;>cases y<;>rfl
     |string=>cases x<;>cases y<;>rfl
     |struct fields =>
        cases x<;>cases y<;>try rfl
        rename_i xs ys;simp only;split
        · rfl
        · exact hf _ _ _
     |_=>rfl
theorem D5{xs ys:List AV}{vx vy:List Value}{b:Bool}(O:o.op=.binOp .neq tx x y ty)(Y:Zp T x=some (.agg xs):=by kernel_rfl)(W:Zp T y=some (.agg ys):=by kernel_rfl)(U:P.eqGuardType P.depth tx=false:=by kernel_rfl)(G:Bi xs=some vx:=by kernel_rfl)(J:Bi ys=some vy:=by kernel_rfl)(hb:pW P 4 tx (.agg vx.toArray) (.agg vy.toArray)=some b:=by kernel_rfl):Jb P o T h=some (.p (.val (.bool (!MJ b))),none,[]):=by
 rw[fJ] at hb;simp[Jb,O,Ap,Y,W,R5,aEq,xP,U,G,J,hb]
end
def Ww{V:Type}(X:V→Ku×List (Nat×Blk))(v:V):Ku→QO→Prop:=fun r h'=>r=(X v).1∧h'=look (X v).2
def hQ{V:Type}(P:Program)(fn:Func)(hc:List (Nat×Blk))(X:V→Ku×List (Nat×Blk)):V→AX→St→Prop:=fun v=>fC P fn hc (Ww X v)
section
variable {R V E:Type}{a a1 a2:Option R}{P:Program}{N:Nat}{ro:Option Nat}{ops:Array Oper}{o:Oper}{l:List Oper}{dr:Bool}{acc:List Yz}{s s':St}{Q:R→AX→St→Prop}{K:R→St→Prop}{f:FuncId}{args args':List AV}{dst:Option Tmp}
theorem KO{X:R→Ku×List (Nat×Blk)}(hc:List (Nat×Blk))(hf:P.funcs[f]?=some fn)(hb:fn.body=some c)(J:fn.ntmps=n)(G:Nat.ble args.length n=true)(h:Q4 a P n none c ⟨Jc 0 args,hc⟩ (hQ P fn hc X))(r:R)(O:a=some r) :
  YV P f args (look hc) (Ww X r):=by
 subst J;exact EA hf hb (Nat.le_of_ble_eq_true G) (h.h r O)
def CR(hc hc':List (Nat×Blk))(y:AV):Bool:=Kr (look hc') y&&dU (look hc') hc'&&Yh (look hc') hc
theorem eX{X:V→Ku×List (Nat×Blk)}{v:V}(C:Conv)(bs:List Nat)(cb:List (Nat×List Conv))(h:(TT P fn (look s.T) (look s.H)).map (cv C)=some (Wv (X v).1))(U:(X v).1=.ret (Wv (X v).1))(J:Yu cb s.H bs=(X v).2)(hok:CR hc (X v).2 (Wv (X v).1)=true):EP P fn hc (Ww X v) s:=by
 obtain⟨x,W,O⟩:=Gn.1 h;simp only[CR,Z8] at hok;refine⟨x,Wv (X v).1,(X v).2,W,O▸wB C x,hok.1.1,?_,hok.2,U.symm,rfl⟩;have G:=hok.1.2;rw[←J] at G ⊢;exact Vh G
theorem KU{X:V→Ku×List (Nat×Blk)}{v:V}(C:Conv)(bs:List Nat)(cb:List (Nat×List Conv))(h:(TT P fn (look s.T) (look s.H)).map (cv C)=some (Wv (X v).1):=by kernel_rfl)(O:(X v).1=.ret (Wv (X v).1):=by kernel_rfl)(G:Yu cb s.H bs=(X v).2:=by kernel_rfl)(hok:CR hc (X v).2 (Wv (X v).1)=true:=by kernel_rfl):ZI (some v) (hQ P fn hc X) .ret s:=⟨fun r J=>by cases J;exact eX C bs cb h O G hok⟩
theorem pX{X:V→Ku×List (Nat×Blk)}{v:V}(C:Conv)(bs:List Nat)(cb:List (Nat×List Conv))(h:(TT P fn (look s.T) (look s.H)).map (cv C)=some (Wv (X v).1):=by kernel_rfl)(O:(X v).1=.ret (Wv (X v).1):=by kernel_rfl)(G:Yu cb s.H bs=(X v).2:=by kernel_rfl)(hok:CR hc (X v).2 (Wv (X v).1)=true:=by kernel_rfl):ZI (some v) (hQ P fn hc X) .normal s:=⟨fun r J=>by cases J;exact eX C bs cb h O G hok⟩
theorem KP{X:V→Ku×List (Nat×Blk)}{v:V}(bs:List Nat)(cb:List (Nat×List Conv))(O:(X v).1=.panic p:=by kernel_rfl)(J:Yu cb s.H bs=(X v).2:=by kernel_rfl)(hok:CR hc (X v).2 p=true:=by kernel_rfl):ZI (some v) (hQ P fn hc X) (.panic p) s:=by
 refine⟨fun r U=>?_⟩;cases U;simp only[CR,Z8] at hok;refine⟨p,(X v).2,le_refl p,hok.1.1,?_,hok.2,O.symm,rfl⟩;have G:=hok.1.2;rw[←J] at G ⊢;exact Vh G
def Vq(L:List (Nat×Nat))(c:Nat):Nat:=(look L c).getD c
def eY(ρ:Nat→Nat):List Nat→Bool|[]=>true|c::l=>l.all (fun d=>ρ c != ρ d||c==d)&&eY ρ l
theorem Un{ρ:Nat→Nat}:∀{l:List Nat},eY ρ l=true→∀c∈l,∀d∈l,ρ c=ρ d→c=d
|[],_,c,hc,_,_,_=>by cases hc
|x::l,h,c,hc,d,O,J=>by
  simp only[eY,Z8,X5] at h;rcases List.mem_cons.1 hc with rfl|hc'<;>rcases List.mem_cons.1 O with rfl|G
  ·rfl
  ·have:=h.1 d G;simp[J] at this;exact this
  ·have:=h.1 c hc';simp[J] at this;exact this.symm
  ·exact Un h.2 c hc' d G J
def J5(ρ:Nat→Nat)(hc hc' H:List (Nat×Blk)):Bool :=(hc.map (·.1)).all (fun c=>(hc'.map (·.1)).contains c)&&(hc'.map (·.1)).all (fun c=>(hc.map (·.1)).contains c||(look H (ρ c)).isNone)&&eY ρ (hc'.map (·.1))
theorem XM(h:J5 ρ hc hc' H=true):G5 ρ hc hc' H:=by
 simp only[J5,Z8] at h;refine⟨fun c hc=>?_,fun c hc=>?_,Un h.2⟩
 ·have:=X5.1 h.1.1 c hc;simpa using this
 ·have:=X5.1 h.1.2 c hc;simp only[Bool.or_eq_true,Option.isNone_iff_eq_none] at this;rcases this with G|G
  ·exact .inl (by simpa using G)
  ·exact .inr G
theorem LM{h:QO}:∀{l:List (Nat×Blk)},dU h l=true→∀c k,look l c=some k→okRefB h k=true
|[],_,c,k,G=>by simp[look] at G
|(b,x)::l,J,c,k,G=>by
  simp only[dU,Z8] at J;simp only[look] at G;by_cases e:b=c
  ·simp only[e,if_true,Q0] at G;subst G;exact J.1
  ·simp only[e,if_false] at G;exact LM J.2 c k G
def LP(H:List (Nat×Blk))(ρ:Nat→Nat)(cb:List (Nat×List Conv))(hc:List (Nat×Blk)):List (Option Blk):=hc.map fun p=>(look H (ρ p.1)).map (cvB ((look cb p.1).getD []))
theorem Uo{H:List (Nat×Blk)}{ρ:Nat→Nat}{cb:List (Nat×List Conv)}:∀{hc:List (Nat×Blk)},LP H ρ cb hc=hc.map (fun p=>some (Kq ρ p.2))→∀c k,look hc c=some k→∃k0,look H (ρ c)=some k0∧leB k0 (Kq ρ k)
|[],_,c,k,G=>by simp[look] at G
|(b,x)::l,J,c,k,G=>by
  simp only[LP,WV,List.cons.injEq] at J;simp only[look] at G;by_cases e:b=c
  ·simp only[e,if_true,Q0] at G;subst G e;obtain⟨k0,O,U⟩:=Gn.1 J.1;exact⟨k0,O,U▸eP _ _⟩
  ·simp only[e,if_false] at G;exact Uo (hc:=l) J.2 c k G
def Je(N:Nat)(dst:Option Tmp)(ρ:Nat→Nat)(hc:List (Nat×Blk))(args':List AV):Bool :=KA N dst&&KF (look hc) args'&&(hc.map (·.1)).all (fun c=>decide (1000≤c))&&dU (look hc) hc&&eY ρ (hc.map (·.1))
def eZ(K:St→Prop)(Q:AX→St→Prop)(s:St)(dst:Option Tmp)(ρ:Nat→Nat)(hc':List (Nat×Blk)):Ku→Prop|.ret x=>K (St.put ⟨s.T,KD ρ hc' s.H⟩ dst (WW ρ x))|.panic x=>Q (.panic (WW ρ x)) ⟨s.T,KD ρ hc' s.H⟩
theorem PI{P:Program}{N:Nat}{s:St}{K:St→Prop}{Q:AX→St→Prop}{x:Ku}(L:List (Nat×Nat))(C:List Conv)(cb:List (Nat×List Conv))(hcall:YV P f args' (look hc) (fun r h'=>r=x∧h'=look hc'))(G:ER C args=VW (Vq L) args')(hok:Je N dst (Vq L) hc args'=true)(hsub:LP s.H (Vq L) cb hc=hc.map (fun p=>some (Kq (Vq L) p.2)))(J:J5 (Vq L) hc hc' s.H=true)(O:eZ K Q s dst (Vq L) hc' x):F5 P N f args dst s K Q:=by
 simp only[Je,Z8] at hok;obtain⟨⟨⟨⟨Z,W⟩,h3⟩,Y⟩,U⟩:=hok;refine Bt (Vq L) hcall (G▸XK C args) W (fun c hc=>by simpa using X5.1 h3 c hc) (LM Y) (Uo hsub) (Un U) (Z7 Z) ?_;rintro r h' ⟨rfl,rfl⟩;refine⟨hc',KD (Vq L) hc' s.H,rfl,XM J,fun _=>rfl,?_⟩;cases r with
|ret x=>exact O
|panic x=>exact O
theorem YM{m:Option V}{k:V→Option R}{X:V→Ku×List (Nat×Blk)}(L:List (Nat×Nat))(C:List Conv)(cb:List (Nat×List Conv))(hcall:∀v,m=some v→YV P f args' (look hc) (Ww X v))(G:ER C args=VW (Vq L) args')(hok:Je N dst (Vq L) hc args'=true)(hsub:LP s.H (Vq L) cb hc=hc.map (fun p=>some (Kq (Vq L) p.2)))(J:∀v,J5 (Vq L) hc (X v).2 s.H=true)(Z:∀v,(X v).1=.ret (Wv (X v).1))(h:∀v,Tf (k v) K (St.put ⟨s.T,KD (Vq L) (X v).2 s.H⟩ dst (WW (Vq L) (Wv (X v).1)))):Ci (m.bind k) P N f args dst s K Q:=by
 refine⟨fun r W=>?_⟩;obtain⟨v,O,U⟩:=NS.1 W;have Y:=Z v;refine PI L C cb (hcall v O) G hok hsub (J v) ?_;rw[Y];exact(h v).h r U
theorem wF{m:Option (Except E V)}{k:V→Option R}{ke:E→Option R}{X:Except E V→Ku×List (Nat×Blk)}(L:List (Nat×Nat))(C:List Conv)(cb:List (Nat×List Conv))(hcall:∀v,m=some v→YV P f args' (look hc) (Ww X v))(G:ER C args=VW (Vq L) args')(hok:Je N dst (Vq L) hc args'=true)(hsub:LP s.H (Vq L) cb hc=hc.map (fun p=>some (Kq (Vq L) p.2)))(O:∀v,J5 (Vq L) hc (X (.ok v)).2 s.H=true)(J:∀v,J5 (Vq L) hc (X (.error v)).2 s.H=true)(hX:∀v,(X (.ok v)).1=.ret (Wv (X (.ok v)).1))(Y:∀v,(X (.error v)).1=.panic (Wv (X (.error v)).1))(h:∀v,Tf (k v) K (St.put ⟨s.T,KD (Vq L) (X (.ok v)).2 s.H⟩ dst (WW (Vq L) (Wv (X (.ok v)).1))))(Z:∀e,ZI (ke e) Q (.panic (WW (Vq L) (Wv (X (.error e)).1))) ⟨s.T,KD (Vq L) (X (.error e)).2 s.H⟩):Ci (m.bind (FE k ke)) P N f args dst s K Q:=by
 refine⟨fun r hr=>?_⟩;obtain⟨v,U,W⟩:=NS.1 hr;cases v with
|ok v =>
  refine PI L C cb (hcall _ U) G hok hsub (O v) ?_;rw[hX v];exact(h v).h r W
|error e =>
  refine PI L C cb (hcall _ U) G hok hsub (J e) ?_;rw[Y e];exact(Z e).h r W
theorem UD{m:Option V}{k:V→Option R}{X:V→Ku×List (Nat×Blk)}(L:List (Nat×Nat))(C:List Conv)(cb:List (Nat×List Conv))(hcall:∀v,m=some v→YV P f args' (look hc) (Ww X v))(J:∀v,J5 (Vq L) hc (X v).2 s.H=true)(O:∀v,(X v).1=.ret (Wv (X v).1))(h:∀v,KR (k v) P N ops Q false ((none,[])::acc) l (St.put ⟨(mk ops o s true).T,KD (Vq L) (X v).2 s.H⟩ o.dst (WW (Vq L) (Wv (X v).1))))(hw:ZH ops o (look s.T)=some true:=by kernel_rfl)(hf:(Kg (look (Zm ops o s.T true)) o.op).map (fun p=>(p.1,ER C p.2))=some (f,VW (Vq L) args'):=by kernel_rfl)(hok:(Y1 P f&&Je N o.dst (Vq L) hc args')=true:=by kernel_rfl)(hsub:LP s.H (Vq L) cb hc=hc.map (fun p=>some (Kq (Vq L) p.2)):=by kernel_rfl):KR (m.bind k) P N ops Q false acc (o::l) s:=by
 obtain⟨⟨f0,args⟩,G,hp⟩:=Gn.1 hf;simp only[XA] at hp;obtain⟨rfl,hp⟩:=hp;simp only[Z8] at hok;exact ZU hw G hok.1 (YM L C cb hcall hp hok.2 hsub J O (fun v=>kr (h v)))
theorem G7{m:Option (Except E V)}{k:V→Option R}{ke:E→Option R}{X:Except E V→Ku×List (Nat×Blk)}(L:List (Nat×Nat))(C:List Conv)(cb:List (Nat×List Conv))(hcall:∀v,m=some v→YV P f args' (look hc) (Ww X v))(O:∀v,J5 (Vq L) hc (X (.ok v)).2 s.H=true)(J:∀v,J5 (Vq L) hc (X (.error v)).2 s.H=true)(Y:∀v,(X (.ok v)).1=.ret (Wv (X (.ok v)).1))(U:∀v,(X (.error v)).1=.panic (Wv (X (.error v)).1))(h:∀v,KR (k v) P N ops Q false ((none,[])::acc) l (St.put ⟨(mk ops o s true).T,KD (Vq L) (X (.ok v)).2 s.H⟩ o.dst (WW (Vq L) (Wv (X (.ok v)).1))))(W:∀e,ZI (ke e) Q (.panic (WW (Vq L) (Wv (X (.error e)).1))) ⟨(mk ops o s true).T,KD (Vq L) (X (.error e)).2 s.H⟩)(hw:ZH ops o (look s.T)=some true:=by kernel_rfl)(hf:(Kg (look (Zm ops o s.T true)) o.op).map (fun p=>(p.1,ER C p.2))=some (f,VW (Vq L) args'):=by kernel_rfl)(hok:(Y1 P f&&Je N o.dst (Vq L) hc args')=true:=by kernel_rfl)(hsub:LP s.H (Vq L) cb hc=hc.map (fun p=>some (Kq (Vq L) p.2)):=by kernel_rfl):KR (m.bind (FE k ke)) P N ops Q false acc (o::l) s:=by
 obtain⟨⟨f0,args⟩,G,hp⟩:=Gn.1 hf;simp only[XA] at hp;obtain⟨rfl,hp⟩:=hp;simp only[Z8] at hok;exact ZU hw G hok.1 (wF L C cb hcall hp hok.2 hsub O J Y U (fun v=>kr (h v)) W)
def pY:List AV→Option (List PV)|[]=>some []|.p x::l=>(pY l).map (x::·)|_=>none
theorem qD:∀{l:List AV} {ps:List PV},pY l=some ps→l=ps.map .p
|[],ps,h=>by simp[pY] at h;subst h;rfl
|x::l,ps,h=>by
  cases x with
 |p x =>
   simp only[pY] at h;obtain⟨J,G,rfl⟩:=Gn.1 h;simp[qD G]
 |_=>simp[pY] at h
def roV(H:QO)(cs:List Conv):AV→Option AV
|.ptr b off=>match H b with
 |some (.box _ l)=>match pY (ER cs l) with
  |some ps=>if Ug (ps.map .p) then some (.eptr (ps.drop off)) else none
  |none=>none
 |_=>none
|_=>none
inductive RoC where
|cv (c:Conv)
|ro (cs:List Conv)
def roA(H:QO):RoC→AV→Option AV|.cv c,x=>some (cv c x)|.ro cs,x=>roV H cs x
def zQ(H:QO):List RoC→List AV→Option (List AV)
|[],[]=>some []
|c::cs,x::xs=>match roA H c x,zQ H cs xs with|some y,some ys=>some (y::ys)|_,_=>none
|_,_=>none
theorem aA{H:QO}{c:RoC}{x y:AV}(h:roA H c x=some y):leR H x y:=by
 cases c with
|cv c=>simp only[roA,Q0] at h;subst h;exact .inl (wB c x)
|ro cs =>
  simp only[roA,roV] at h;split at h
  ·rename_i b off;split at h
   ·rename_i ty l hb;split at h
    ·rename_i ps G;split at h
     ·rename_i J;simp only[Q0] at h;subst h;exact Qbr hb (qD G▸XK cs l) J rfl
     ·cases h
    ·cases h
   ·cases h
  ·cases h
theorem D6{H:QO}:∀{cs:List RoC} {xs ys:List AV},zQ H cs xs=some ys→ug H xs ys
|[],[],ys,h=>by simp[zQ] at h;subst h;simp[ug]
|[],_::_,ys,h=>by simp[zQ] at h
|_::_,[],ys,h=>by simp[zQ] at h
|c::cs,x::xs,ys,h=>by
  simp only[zQ] at h;split at h
  ·rename_i y G O J;simp only[Q0] at h;subst h;exact⟨y,G,rfl,aA O,D6 J⟩
  ·cases h
theorem UZ{m:Option V}{k:V→Option R}{X:V→AV}(C:List RoC)(hc:∀v,m=some v→Q9 P f args' (.ret (X v)))(O:∀v,flat (X v)=true)(h:∀v,KR (k v) P N ops Q false ((none,[])::acc) l (St.put (mk ops o s true) o.dst (X v)))(hw:ZH ops o (look s.T)=some true:=by kernel_rfl)(hf:(Kg (look (Zm ops o s.T true)) o.op).bind (fun p=>(zQ (look s.H) C p.2).map fun a=>(p.1,a))=some (f,args'):=by kernel_rfl)(hb:(Y1 P f&&KA N o.dst&&Y0 args')=true:=by kernel_rfl):KR (m.bind k) P N ops Q false acc (o::l) s:=by
 refine⟨fun r Y=>?_⟩;obtain⟨v,U,W⟩:=NS.1 Y;obtain⟨⟨f0,args⟩,hcall,hp⟩:=NS.1 hf;obtain⟨Z,J,G⟩:=Gn.1 hp;simp only[XA] at G;obtain⟨rfl,rfl⟩:=G;simp only[Z8] at hb;show Yg P N ops (Q r) (o::l) s;simp only[Yg,hw,ZX,Jd hcall];exact Xu hcall hb.1.1 (zM (hc v U) (D6 J) hb.2 (Z7 hb.1.2) ⟨O v,(h v).h r W⟩)
theorem PK{m:Option (Except E V)}{k:V→Option R}{ke:E→Option R}{X:V→AV}{Y:E→AV}(C:List RoC)(hc:∀v,m=some v→Q9 P f args' (uh X Y v))(W:∀v,flat (X v)=true)(U:∀v,flat (Y v)=true)(h:∀v,KR (k v) P N ops Q false ((none,[])::acc) l (St.put (mk ops o s true) o.dst (X v)))(he:∀e,ZI (ke e) Q (.panic (Y e)) (mk ops o s true))(hw:ZH ops o (look s.T)=some true:=by kernel_rfl)(hf:(Kg (look (Zm ops o s.T true)) o.op).bind (fun p=>(zQ (look s.H) C p.2).map fun a=>(p.1,a))=some (f,args'):=by kernel_rfl)(hb:(Y1 P f&&KA N o.dst&&Y0 args')=true:=by kernel_rfl):KR (m.bind (FE k ke)) P N ops Q false acc (o::l) s:=by
 refine⟨fun r hr=>?_⟩;obtain⟨v,Z,O⟩:=NS.1 hr;obtain⟨⟨f0,args⟩,hcall,hp⟩:=NS.1 hf;obtain⟨aa,J,G⟩:=Gn.1 hp;simp only[XA] at G;obtain⟨rfl,rfl⟩:=G;simp only[Z8] at hb;show Yg P N ops (Q r) (o::l) s;simp only[Yg,hw,ZX,Jd hcall];refine Xu hcall hb.1.1 (zM (hc v Z) (D6 J) hb.2 (Z7 hb.1.2) ?_);cases v with
|ok v=>exact⟨W v,(h v).h r O⟩
|error e=>exact⟨U e,(he e).h r O⟩
end
def QI(n bytes:Nat):Bool:=decide (n*bytes≤140737488355328∧n≤140737488355328)
section
variable {P:Program}{o:Oper}{T:Nat→Option AV}{h:QO}
theorem Km{t:TypeId}{s:Operand}{S by_:Nat}{l l2:List α}{xv:AV}(ho:o.op=.call ⟨.builtin .append,#[s,x],#[t,t]⟩)(ht:P.underlying t=some (.slice e))(hi:(P.info? e).bind (fun i=>i.zero.map fun z=>(i.size,i.bytes,z.cells.size))=some (S,by_,S))(hS:Nat.ble 1 S=true)(hs:Zp T s=some (.tsl S (List.map enc l) tk))(hx:Zp T x=some xv)(he:Bl S xv=some (List.map enc l2))(hn:l2.isEmpty=false)(hb:h tk=some (.arr e S (List.map enc l).length))(hc:QI (l++l2).length by_=true):Jb P o T h=some (.tsl S (List.map enc (l++l2)) tk,some (tk,.arr e S (List.map enc (l++l2)).length),[tk]):=by
 obtain⟨i,O,Y⟩:=NS.1 hi;obtain⟨z,U,G⟩:=Gn.1 Y;simp only[XA] at G;obtain⟨rfl,rfl,Z⟩:=G;have W:¬l2=[]:=by intro e;subst e;cases hn
 have J:0<i.size:=Nat.le_of_ble_eq_true hS;simp only[QI,Bg,X4] at hc;simp[Jb,ho,gX,hs,hx,FO,ht,O,U,he,Z,J,isNil,hb,W,hc]
theorem V6{t:TypeId}{s:Operand}{S by_:Nat}{l l2:List α}{xv:AV}(ho:o.op=.call ⟨.builtin .append,#[s,x],#[t,t]⟩)(ht:P.underlying t=some (.slice e))(hi:(P.info? e).bind (fun i=>i.zero.map fun z=>(i.size,i.bytes,z.cells.size))=some (S,by_,S))(hS:Nat.ble 1 S=true)(hs:Zp T s=some (.tsl S (List.map enc l) tk))(hx:Zp T x=some xv)(he:Bl S xv=some (List.map enc l2))(hb:h tk=some (.arr e S (List.map enc l).length))(hc:QI (l++l2).length by_=true):Jb P o T h=some (.tsl S (List.map enc (l++l2)) tk,some (tk,.arr e S (List.map enc (l++l2)).length),[tk]):=by
 obtain⟨i,J,Y⟩:=NS.1 hi;obtain⟨z,O,W⟩:=Gn.1 Y;simp only[XA] at W;obtain⟨rfl,rfl,Z⟩:=W;have G:0<i.size:=Nat.le_of_ble_eq_true hS;simp only[QI,Bg,X4] at hc;by_cases U:l2=[]
 ·subst U;simp[Jb,ho,gX,hs,hx,FO,ht,J,O,he,Z,G,isNil,hb]
 simp[Jb,ho,gX,hs,hx,FO,ht,J,O,he,Z,G,isNil,hb,U,hc]
end
inductive OL(α:Type) where
|nil
|own (l:List α)
def OL.toL{α:Type}:OL α→List α|.nil=>[]|.own l=>l
@[simp] theorem OL.toL_nil{α:Type}:(OL.nil:OL α).toL=[]:=rfl
@[simp] theorem OL.toL_own{α:Type}(l:List α):(OL.own l).toL=l:=rfl
section
variable {R V E:Type}{a a1 a2:Option R}{P:Program}{N:Nat}{ro:Option Nat}{ops:Array Oper}{o:Oper}{l:List Oper}{dr:Bool}{acc:List Yz}{s s' s1:St}{Q:R→AX→St→Prop}{K:R→St→Prop}{f:FuncId}{args args':List AV}{dst:Option Tmp}
theorem Qby{m:Option V}{k:V→Option R}{u:V→KL}(hw:ZH ops o (look s.T)=some true)(hp:(plain o.op&&KA N o.dst)=true)(hu:∀v,m=some v→Jb P o (look (Zm ops o s.T true)) (look s.H)=some (u v))(h:∀v,m=some v→KR (k v) P N ops Q dr (Io (u v)::acc) l (nxt ops o s (u v))):KR (m.bind k) P N ops Q dr acc (o::l) s:=by
 simp only[Z8] at hp;refine⟨fun r O=>?_⟩;obtain⟨v,G,J⟩:=NS.1 O;exact DZ hw hp.1 (hu v G) hp.2 (LK dr acc _▸(h v G).h r J)
theorem Qbz{l:List α}{i:Int}{v:α}(h:Q3 l i=some v):l[i.toNat]?=some v:=by
 unfold Q3 at h;split at h
 ·cases h
 ·exact h
def wG(P:Program)(fn:Func)(hc:List (Nat×Blk))(ρ:Nat→Nat)(s:St)(dst:Option Tmp)(K:R→St→Prop)(Q:R→AX→St→Prop):R→AX→St→Prop :=fun r=>fC P fn hc (fun x h'=>∃hc',h'=look hc'∧G5 ρ hc hc' s.H∧eZ (K r) (Q r) s dst ρ hc' x)
theorem Zt(L:List (Nat×Nat))(C:List Conv)(cb:List (Nat×List Conv))(hf:P.funcs[f]?=some fn)(hb:fn.body=some c)(hn:fn.ntmps=n)(Y:Nat.ble args'.length n=true)(G:ER C args=VW (Vq L) args')(hok:Je N dst (Vq L) hc args'=true)(hsub:LP s.H (Vq L) cb hc=hc.map (fun p=>some (Kq (Vq L) p.2)))(h:Q4 a P n none c ⟨Jc 0 args',hc⟩ (wG P fn hc (Vq L) s dst K Q)):Ci a P N f args dst s K Q:=by
 subst hn;refine⟨fun r hr=>?_⟩;simp only[Je,Z8] at hok;obtain⟨⟨⟨⟨h1,U⟩,h3⟩,Z⟩,O⟩:=hok;refine Bt (Vq L) (EA hf hb (Nat.le_of_ble_eq_true Y) (h.h r hr)) (G▸XK C args) U (fun c hc=>by simpa using X5.1 h3 c hc) (LM Z) (Uo hsub) (Un O) (Z7 h1) ?_;rintro x h' ⟨hc',rfl,W,J⟩;refine⟨hc',KD (Vq L) hc' s.H,rfl,W,fun _=>rfl,?_⟩;cases x with
|ret x=>exact J
|panic x=>exact J
def T9(ρ:Nat→Nat)(hc hc':List (Nat×Blk))(s:St)(y:AV):Bool:=CR hc hc' y&&J5 ρ hc hc' s.H
theorem aB{x:AX}(G:x=.ret∨x=.normal)(C:Conv)(bs:List Nat)(cb:List (Nat×List Conv))(y:AV)(h:(TT P fn (look s1.T) (look s1.H)).map (cv C)=some y)(hok:T9 ρ hc (Yu cb s1.H bs) s y=true)(O:Tf a K (St.put ⟨s.T,KD ρ (Yu cb s1.H bs) s.H⟩ dst (WW ρ y))):ZI a (wG P fn hc ρ s dst K Q) x s1:=by
 obtain⟨z,W,J⟩:=Gn.1 h;simp only[T9,CR,Z8] at hok;refine⟨fun r U=>?_⟩
 have:EP P fn hc (fun x h'=>∃hc',h'=look hc'∧G5 ρ hc hc' s.H∧eZ (K r) (Q r) s dst ρ hc' x) s1 :=
  ⟨z,y,Yu cb s1.H bs,W,J▸wB C z,hok.1.1.1,Vh hok.1.1.2,hok.1.2,_,rfl,XM hok.2,O.h r U⟩
 rcases G with rfl|rfl<;>exact this
theorem QJ(C:Conv)(bs:List Nat)(cb:List (Nat×List Conv))(y:AV)(G:Tf a K (St.put ⟨s.T,KD ρ (Yu cb s1.H bs) s.H⟩ dst (WW ρ y)))(h:(TT P fn (look s1.T) (look s1.H)).map (cv C)=some y:=by kernel_rfl)(hok:T9 ρ hc (Yu cb s1.H bs) s y=true:=by kernel_rfl):ZI a (wG P fn hc ρ s dst K Q) .ret s1:=aB (.inl rfl) C bs cb y h hok G
theorem Ju(C:Conv)(bs:List Nat)(cb:List (Nat×List Conv))(y:AV)(G:Tf a K (St.put ⟨s.T,KD ρ (Yu cb s1.H bs) s.H⟩ dst (WW ρ y)))(h:(TT P fn (look s1.T) (look s1.H)).map (cv C)=some y:=by kernel_rfl)(hok:T9 ρ hc (Yu cb s1.H bs) s y=true:=by kernel_rfl):ZI a (wG P fn hc ρ s dst K Q) .normal s1:=aB (.inr rfl) C bs cb y h hok G
theorem Ur(bs:List Nat)(cb:List (Nat×List Conv))(G:ZI a Q (.panic (WW ρ p)) ⟨s.T,KD ρ (Yu cb s1.H bs) s.H⟩)(hok:T9 ρ hc (Yu cb s1.H bs) s p=true:=by kernel_rfl):ZI a (wG P fn hc ρ s dst K Q) (.panic p) s1:=by
 simp only[T9,CR,Z8] at hok;exact⟨fun r J=>⟨p,Yu cb s1.H bs,le_refl p,hok.1.1.1,Vh hok.1.1.2,hok.1.2,_,rfl,XM hok.2,G.h r J⟩⟩
theorem Us(hc:List (Nat×Blk))(args':List AV)(L:List (Nat×Nat))(C:List Conv)(cb:List (Nat×List Conv))(hf:P.funcs[f]?=some fn)(hb:fn.body=some c)(O:fn.ntmps=n)(J:Nat.ble args'.length n=true)(h:Q4 a P n none c ⟨Jc 0 args',hc⟩ (wG P fn hc (Vq L) (mk ops o s true) o.dst (fKr P N ops Q l) Q))(hw:ZH ops o (look s.T)=some true:=by kernel_rfl)(hcall:(Kg (look (Zm ops o s.T true)) o.op).map (fun p=>(p.1,ER C p.2))=some (f,VW (Vq L) args'):=by kernel_rfl)(hok:(Y1 P f&&Je N o.dst (Vq L) hc args')=true:=by kernel_rfl)(hsub:LP s.H (Vq L) cb hc=hc.map (fun p=>some (Kq (Vq L) p.2)):=by kernel_rfl):KR a P N ops Q false acc (o::l) s:=by
 obtain⟨⟨f0,args⟩,G,hp⟩:=Gn.1 hcall;simp only[XA] at hp;obtain⟨rfl,hp⟩:=hp;simp only[Z8] at hok;exact ZU hw G hok.1 (Zt L C cb hf hb O J hp hok.2 hsub h)
theorem RI(hc:List (Nat×Blk))(args':List AV)(L:List (Nat×Nat))(C:List Conv)(cb:List (Nat×List Conv))(hw:ZH ops o (look s.T)=some true)(hf:P.funcs[f]?=some fn)(hb:fn.body=some c)(O:fn.ntmps=n)(J:Nat.ble args'.length n=true)(hcall:(Kg (look (Zm ops o s.T true)) o.op).map (fun p=>(p.1,ER C p.2))=some (f,VW (Vq L) args'))(hok:(Y1 P f&&Je N o.dst (Vq L) hc args'&&J2 ops acc.length&&KC ops acc.reverse)=true)(hsub:LP s.H (Vq L) cb hc=hc.map (fun p=>some (Kq (Vq L) p.2)))(h:Q4 a P n none c ⟨Jc 0 args',hc⟩ (wG P fn hc (Vq L) (mk ops o s true) o.dst (fKq Q) Q)):KR a P N ops Q true acc [o] s:=by
 obtain⟨⟨f0,args⟩,G,hp⟩:=Gn.1 hcall;simp only[XA] at hp;obtain⟨rfl,hp⟩:=hp;simp only[Z8] at hok;exact pV hw G (by simp[hok]) (Zt L C cb hf hb O J hp hok.1.1.2 hsub h)
end
section
variable {P:Program}{o:Oper}{T:Nat→Option AV}{h:QO}
theorem aC{t:TypeId}{S nn:Nat}{l:List α}{k:IntKind}{n:Int}(Z:o.op=.indexAddr t x ix)(hn:Zp T ix=some (.p (.val (.int k n))))(Y:Zp T x=some (.vsl S tk nn))(hb:h tk=some (.vec ty S (List.map enc l)))(ht:P.underlying t=some (.slice e))(hi:(P.info? e).map (·.size)=some S)(O:nn=(List.map enc l).length)(v:α)(G:Q3 l n=some v):Jb P o T h=some (.vptr tk (List.map enc l).length n.toNat 0,none,[tk]):=by
 subst O;unfold Q3 at G;split at G
 ·cases G
 ·rename_i W;obtain⟨i,J,U⟩:=Gn.1 hi;have h0:0≤n:=by omega
  have h1:n.toNat<l.length:=(DC.1 G).1;simp[Jb,Z,gX,Y,W9,hn,ht,hb,J,U,h0,h1]
theorem QbA{f S:Nat}{tb:TypeId}{l:List α}{v v':α}{xv:AV}(Z:o.op=.store ty x y)(Y:Zp T x=some (.vptr tk (List.map enc l).length n f))(W:Zp T y=some xv)(hb:h tk=some (.vec tb S (List.map enc l)))(hv:l[n]?=some v)(hc:(match P.info? ty,cellsOf xv with
  |some i,some J=>match FP J with|some ps=>if J.length=i.size∧f+ps.length≤(enc v).length then some ((enc v).take f++ps++(enc v).drop (f+ps.length)) else none|none=>none
  |_,_=>none)=some (enc v')):Jb P o T h=some (.p (.val undef),some (tk,.vec tb S (List.map enc (l.set n v'))),[tk]):=by
 split at hc
 ·rename_i i J hi O;split at hc
  ·rename_i ps G;split at hc
   ·rename_i h1;simp only[Q0] at hc;have U:(List.map enc l)[n]?=some (enc v):=by simp[hv]
    simp only[Jb,Z,gX,Y,TG,hi,W,hb,O,G,U,if_true,h1,and_self,hc,List.map_set]
   ·cases hc
  ·cases hc
 ·cases hc
def sliceB(lo hi:Int)(len:Nat):Bool:=decide (0≤lo∧lo≤hi∧hi≤len)
def Da(T:Nat→Option AV)(d:Int):Option Operand→Option Int
|none=>some d
|some x=>match Zp T x with|some (.p (.val (.int _ n)))=>some n|_=>none
theorem G8{T:Nat→Option AV}{x:Option Operand}{n:Int}(h:Da T d x=some n)(h0:0≤n):Xr T d x=some n.toNat:=by
 cases x with
|none=>simp only[Da,Q0] at h;subst h;simp[Xr]
|some x =>
  simp only[Da] at h;split at h
  ·rename_i k m G;simp only[Q0] at h;subst h;simp[Xr,G,h0]
  ·cases h
theorem p8{t:TypeId}{S:Nat}{l:List α}{a b:Int}(ho:o.op=.slice t x lo hi none)(ht:P.underlying t=some (.slice e))(J:(P.info? e).map (·.size)=some S)(hx:Zp T x=some sv)(hs:elems sv=some (S,List.map enc l))(U:Da T 0 lo=some a)(G:Da T (List.map enc l).length hi=some b)(hc:sliceB a b l.length=true):Jb P o T h=some (.p (.sl S (List.map enc ((l.take b.toNat).drop a.toNat))),none,[]):=by
 obtain⟨i,O,W⟩:=Gn.1 J;simp only[sliceB,Bg] at hc;have h1:=G8 (d:=0) U hc.1;have h2:=G8 G zo;have h3:a.toNat≤b.toNat:=by omega
 have h4:b.toNat≤l.length:=by omega
 have Y:S=i.size∧a.toNat≤b.toNat∧b.toNat≤(List.map enc l).length:=⟨W.symm,h3,by simpa using h4⟩
 have Z:GQ P T t x lo hi none=some (.p (.sl S (((List.map enc l).take b.toNat).drop a.toNat)),none,[]):=by
  simp only[GQ,ht,hx,hs,O,h1,h2];rw[if_pos Y]
 simp only[Jb,ho,Z,R5,List.map_drop,List.map_take]
def wH(l c:Int)(by_:Nat):Bool:=decide (0≤l∧l≤c∧(by_:Int)*c≤281474976710656∧c≤140737488355328)
theorem aD{t:TypeId}{S by_:Nat}{z0:α}{k k':IntKind}{l c:Int}(ho:o.op=.makeSlice t x y)(hd:o.dst=some d)(ht:P.underlying t=some (.slice e))(hi:(P.info? e).bind (fun i=>i.zero.bind fun z=>(FP (z.cells.toList.map Ag)).map fun ps=>(i.size,i.bytes,z.cells.size,Rx z.cells.toList,ps))=some (S,by_,S,true,enc z0))(hS:Nat.ble 1 S=true)(hl:(enc z0).length=S)(hx:Zp T x=some (.p (.val (.int k l))))(hy:Zp T y=some (.p (.val (.int k' c))))(hb:h d=none)(hc:wH l c by_=true):Jb P o T h=some (.vsl S d (List.map enc (List.replicate l.toNat z0)).length,some (d,.vec e S (List.map enc (List.replicate l.toNat z0))),[d]):=by
 obtain⟨i,O,W⟩:=NS.1 hi;obtain⟨z,U,Y⟩:=NS.1 W;obtain⟨ps,Z,G⟩:=Gn.1 Y;simp only[XA] at G;obtain⟨rfl,rfl,h3,h4,rfl⟩:=G;have J:0<i.size:=Nat.le_of_ble_eq_true hS;simp only[wH,Bg] at hc;simp[Jb,ho,Ej,ht,hx,hy,hd,O,U,hb,Z,h3,h4,J,hl,hc]
end
def ui{E V:Type}(x:V→Ku×List (Nat×Blk))(y:E→Ku×List (Nat×Blk)):Except E V→Ku×List (Nat×Blk)|.ok v=>x v|.error e=>y e
section
variable {R V:Type}{N:Nat}{s s1:St}{Q:R→AX→St→Prop}
theorem QhF{k:V→Option R}{S:V→St}(v:V)(K:HZ)(s1:St)(hw:G6 K s=some s1)(G:s1=S v):ZI (k v) (kQ N k S Q) .normal s:=QfF v K (G▸hw)
theorem QfH{S:V→St}(v:V)(G:HZ)(s0:St)(h0:G6 G s=some s0)(hw:Weak N s0 s1)(K:HZ)(J:G6 K s1=some (S v)):ZI (some v) (eQ N S) .normal s:=QhB v ((XL h0).trans (hw.trans (XL J)))
end
theorem QbB(h:Ex P N ro c s (fun x s'=>∃G,Ie (look s'.T) (look G.H) G.T∧Cf (look s'.H) (look G.H) G.H∧Yh (look G.H) s.H=true∧(∀v,x=.panic v→Kr (look G.H) v=true)∧Q x G)):Ex P N ro c s Q:=by
 intro φ M0 D a w r;refine wpIn_mono (h φ M0 D a w r) ?_;rintro e a' w' ⟨φ',x,s',⟨G,h1,U,h3,hp,h4⟩,r',E',J⟩;obtain⟨k1,k2,W⟩:=M9 (hc:=s.H) r' E' U h3;refine⟨φ',x,G,h4,⟨?_,r'.siz,k1,fun t y ht=>?_⟩,k2,?_⟩
 ·obtain⟨h0,Z,g1,g2,g3⟩:=r'.dfs;refine⟨h0,Z,g1,g2,fun z O=>⟨(g3 z O).1,(g3 z O).2.1,fun b hb=>(g3 z O).2.2 b ?_⟩⟩;cases hq:look G.H b with
 |none=>exact absurd hq hb
 |some k'=>obtain⟨⟨k,e1,_⟩,_⟩:=Jt U b k' hq;rw[e1];simp
 ·obtain⟨z,g1,g2,g3⟩:=DX h1 t y ht;exact⟨(r'.tm t z g1).1,W _ _ g3 (JG.1 _ _ _ g2 (r'.tm t z g1).2)⟩
 ·cases x with
 |normal=>exact J
 |exit i=>exact J
 |ret=>exact J
 |panic v=>obtain⟨u,Y,h6⟩:=J;exact⟨u,Y,W _ _ (hp v rfl) h6⟩
section
variable {R V E:Type}{a a1 a2:Option R}{P:Program}{N:Nat}{ro:Option Nat}{ops:Array Oper}{o:Oper}{l:List Oper}{dr:Bool}{acc:List Yz}{s s' s1:St}{Q:R→AX→St→Prop}{K:R→St→Prop}{f:FuncId}{args args':List AV}{dst:Option Tmp}
def rgQ(N:Nat)(s:St)(Q:R→AX→St→Prop):R→AX→St→Prop:=fun r x s'=>∃G,Ie (look s'.T) (look G.H) G.T∧Cf (look s'.H) (look G.H) G.H∧Yh (look G.H) s.H=true∧(∀v,x=.panic v→Kr (look G.H) v=true)∧Q r x G
def fKg(G:Nat)(T:List (Nat×AV))(nf:R3)(N:Nat)(s:St)(Q:R→AX→St→Prop):R→St→Prop:=fun r=>eu G T nf (rgQ N s Q r)
theorem p9{O:Operand}{ps:Array Tmp}{assign:Code}(g:FuncId)(G:Nat)(l':List AV)(J:List AV)(hf:Zp (look s.T) O=some (.fn (.func g) l' J))(hok:(Y1 P g&&Nat.ble 1000 G&&(look s.H G).isNone)=true)(h:∀nf fn,nf=R3.mk N fn ps assign body→Ci a P N g (l'++[.yv G]++J) none ⟨s.T,(G,.lp s.T nf .ready none)::s.H⟩ (fKg G s.T nf N s Q) (rgQ N s Q)):Q4 a P N none (.rangeFunc O ps assign body) s Q:=by
 simp only[Z8,Option.isNone_iff_eq_none] at hok;refine⟨fun r U=>QbB (zL G (Nat.le_of_ble_eq_true hok.1.2) hf hok.1.1 hok.2 fun fn=>?_)⟩;exact(h _ fn rfl).h r U
theorem QbC{x:AX}{st:LoopState}{G:Nat}{T:List (Nat×AV)}(J:HZ)(O:St)(Y:∀v,x≠.panic v)(hs:(if okT (look (shr J ⟨s1.T,(G,.lp T nf .exhausted pd)::s1.H⟩).H) (shr J ⟨s1.T,(G,.lp T nf .exhausted pd)::s1.H⟩).T&&dU (look (shr J ⟨s1.T,(G,.lp T nf .exhausted pd)::s1.H⟩).H) (shr J ⟨s1.T,(G,.lp T nf .exhausted pd)::s1.H⟩).H&&Yh (look (shr J ⟨s1.T,(G,.lp T nf .exhausted pd)::s1.H⟩).H) s.H then some (shr J ⟨s1.T,(G,.lp T nf .exhausted pd)::s1.H⟩) else none)=some O)(h:ZI a Q x O)(r:R)(W:a=some r):rgQ N s Q r x ⟨s1.T,(G,.lp T nf .exhausted pd)::s1.H⟩:=by
 split at hs
 ·rename_i hok;simp only[Q0] at hs;subst hs;simp only[Z8] at hok;exact⟨_,Gu hok.1.1,Vh hok.1.2,hok.2,fun v U=>absurd U (Y v),h.h r W⟩
 ·cases hs
def rgS(G:HZ)(s s1:St):Option St:=if okT (look (shr G s1).H) (shr G s1).T&&dU (look (shr G s1).H) (shr G s1).H&&Yh (look (shr G s1).H) s.H then some (shr G s1) else none
theorem QhH{O:Nat}{T:List (Nat×AV)}(st:LoopState)(U:HZ)(G:St)(W:look s1.H O=some (.lp T nf st none))(J:st≠.busy)(hs:rgS U s ⟨s1.T,(O,.lp T nf .exhausted none)::s1.H⟩=some G)(h:ZI a Q .normal G):Tf a (fKg O T nf N s Q) s1 :=
 ⟨fun r Y=>⟨st,none,W,J,QbC (st:=st) U G (fun v e=>by cases e) hs h r Y⟩⟩
def rdR(ρ:Nat→Nat)(hc:List (Nat×Blk))(s:St)(dst:Option Tmp)(K:St→Prop)(Q:AX→St→Prop):Ku→QO→Prop:=fun x h'=>∃hc',h'=look hc'∧G5 ρ hc hc' s.H∧eZ K Q s dst ρ hc' x
def rnQ(ρ:Nat→Nat)(hc:List (Nat×Blk))(b:Nat)(T:List (Nat×AV))(nf:R3)(s:St)(dst:Option Tmp)(K:R→St→Prop)(Q:R→AX→St→Prop):R→AX→St→Prop:=fun r=>l9 hc b T nf (rdR ρ hc s dst (K r) (Q r))
def asQ(P:Program)(N l:Nat)(body:Code)(b:Nat)(T:List (Nat×AV))(nf:R3)(Q:R→AX→St→Prop):R→AX→St→Prop:=fun r x s1=>x=.normal∧∃G,look s1.H b=some (.lp T nf .ready G)∧Ex P N (some l) body ⟨s1.T,(b,.lp T nf .busy G)::s1.H⟩ (Q r)
theorem QhJ{l:Nat}{T:List (Nat×AV)}(J:HZ)(G:St)(pd:Option Code)(O:look s1.H b=some (.lp T nf .ready pd))(hs:G6 J ⟨s1.T,(b,.lp T nf .busy pd)::s1.H⟩=some G)(h:Q4 a P N (some l) body G Q):ZI a (asQ P N l body b T nf Q) .normal s1 :=
 ⟨fun r U=>⟨rfl,pd,O,FN (XL hs) (h.h r U)⟩⟩
theorem aF{W:Nat}{fn:FuncId}{ps:Array Tmp}{assign:Code}{Y:List Oper}(L:List (Nat×Nat))(hc:List (Nat×Blk))(b:Nat)(T:List (Nat×AV))(C:List Conv)(cb:List (Nat×List Conv))(args':List AV)(hw:ZH ops o (look s.T)=some true)(aa:nf=R3.mk W fn ps assign body)(hy:(yieldOf (look (Zm ops o s.T true)) o.op).map (fun p=>(p.1,ER C p.2))=some (Vq L b,VW (Vq L) args'))(hb:look hc b=some (.lp T nf .ready none))(J:(Nat.ble 1000 b&&Nat.beq ps.size args'.length&&ps.toList.all (fun p=>Nat.blt p W))=true)(hok:Je N o.dst (Vq L) hc args'=true)(hsub:LP s.H (Vq L) cb hc=hc.map (fun p=>some (Kq (Vq L) p.2)))(h:∀l,Q4 a P W (some l) assign ⟨psT ps.toList args' T,hc⟩ (asQ P W l body b T nf (rnQ (Vq L) hc b T nf (mk ops o s true) o.dst (fKr P N ops Q Y) Q))):KR a P N ops Q false acc (o::Y) s:=by
 obtain⟨⟨b0,args⟩,Z,hp⟩:=Gn.1 hy;simp only[XA] at hp;obtain⟨U,O⟩:=hp;have U:b0=Vq L b:=U;subst U;refine⟨fun r hr=>?_⟩;show Yg P N ops (Q r) (o::Y) s;simp only[Yg,hw,ZX,Z];show YEx P N (Vq L b) args o.dst (mk ops o s true) _ _;simp only[Z8] at J;simp only[Je,Z8] at hok;obtain⟨⟨⟨⟨g1,g2⟩,g3⟩,g4⟩,g5⟩:=hok
 have hY:lT P b args' (look hc) (rdR (Vq L) hc (mk ops o s true) o.dst (fKr P N ops Q Y r) (Q r)):=by
  have G:=aa;refine wo (nf:=nf) (Nat.le_of_ble_eq_true J.1.1) hb ?_ ?_ fun l=>?_
  ·subst G;exact Nat.eq_of_beq_eq_true J.1.2
  ·subst G;intro p hp;simpa [Nat.blt_eq] using X5.1 J.2 p hp
  ·have:=(h l).h r hr;subst G;exact this
 refine wm (s:=mk ops o s true) (Vq L) hY (by rw[←O];exact XK C args) g2 (fun c hc=>by simpa using X5.1 g3 c hc) (LM g4) (Uo hsub) (Un g5) (Z7 g1) ?_;rintro x h' ⟨hc',rfl,hd,hk⟩;refine⟨hc',KD (Vq L) hc' s.H,rfl,hd,fun _=>rfl,?_⟩;cases x with
|ret x=>exact hk
|panic x=>exact hk
def Qd6(hc hc':List (Nat×Blk))(b:Nat)(s:St):Bool:=dU (look hc') hc'&&Yh (look hc') hc
theorem Qd7{T:List (Nat×AV)}{x:AX}{O:Bool}(W:∀r,rnQ ρ hc b T nf s dst K Q r x s1=TW hc b T nf (rdR ρ hc s dst (K r) (Q r)) O st pd s1)(bs:List Nat)(cb:List (Nat×List Conv))(J:LoopState)(G:Option Code)(U:look (Yu cb s1.H bs) b=some (.lp T nf J G))(hok:(Qd6 hc (Yu cb s1.H bs) b s&&J5 ρ hc ((b,.lp T nf st pd)::Yu cb s1.H bs) s.H)=true)(Y:Tf a K (St.put ⟨s.T,KD ρ ((b,.lp T nf st pd)::Yu cb s1.H bs) s.H⟩ dst (WW ρ (.p (.val (.bool O)))))):ZI a (rnQ ρ hc b T nf s dst K Q) x s1:=by
 refine⟨fun r Z=>?_⟩;rw[W r];simp only[Qd6,Z8] at hok;exact⟨_,J,G,Vh hok.1.1,hok.1.2,U,_,rfl,XM hok.2,Y.h r Z⟩
theorem QhK{T:List (Nat×AV)}(bs:List Nat)(cb:List (Nat×List Conv))(J:LoopState)(G:Option Code)(O:look (Yu cb s1.H bs) b=some (.lp T nf J G))(hok:(Qd6 hc (Yu cb s1.H bs) b s&&J5 ρ hc ((b,.lp T nf .ready none)::Yu cb s1.H bs) s.H)=true)(U:Tf a K (St.put ⟨s.T,KD ρ ((b,.lp T nf .ready none)::Yu cb s1.H bs) s.H⟩ dst (WW ρ (.p (.val (.bool true)))))):ZI a (rnQ ρ hc b T nf s dst K Q) .normal s1:=Qd7 (fun _=>rfl) bs cb J G O hok U
end
def PL(k i:Nat):Nat:=if i=k then 0 else if i<k then i+1 else i
def uj(o:Oper):Bool:=match o.op,o.guard with|.move _,none=>true|_,_=>false
def bA(o:Oper):Bool:=uj o&&o.after.toList.all (fun e=>!Region.binds .any e)
def reO(k:Nat)(o:Oper):Oper:={ o with after:=⟨(if bA o then[] else[⟨0,.data⟩])++o.after.toList.map fun e=>⟨PL k e.on,e.ground⟩⟩,guard:=o.guard.map fun g=>(PL k g.1,g.2) }
def Bv(k:Nat)(l:List Oper):List Oper:=match l[k]? with
|some o=>{ o with after:=#[] }::(l.eraseIdx k).map (reO k)
|none=>l
def JQ(k:Nat)(ops:Array Oper):Array Oper:=⟨Bv k ops.toList⟩
def Sv(k:Nat)(ops:Array Oper):Bool:=match ops[k]? with
|some o=>uj o&&o.after.toList.all (fun e=>!Region.binds .any e)&&Region.noSelect ops&&Region.free .any ops (Array.replicate ops.size false) k
|none=>false
theorem wI{k:Nat}{l:List Oper}(h:l[k]?=some o):(Bv k l)[0]?=some { o with after:=#[] }:=by
 simp[Bv,h]
theorem bB{k:Nat}{l:List Oper}(h:l[k]?=some o)(i:Nat)(hi:i≠k):(Bv k l)[PL k i]?=(l[i]?).map (reO k):=by
 unfold Bv PL;simp only[h,if_neg hi];by_cases hlt:i<k
 ·simp only[if_pos hlt,List.getElem?_cons_succ,List.getElem?_map];rw[List.getElem?_eraseIdx,if_pos hlt]
 ·obtain⟨j,rfl⟩:∃j,i=j+1:=⟨i-1,by omega⟩;simp only[if_neg hlt,List.getElem?_cons_succ,List.getElem?_map];rw[List.getElem?_eraseIdx,if_neg zo]
theorem uk{k:Nat}{l:List Oper}(h:l[k]?=some o):(Bv k l).length=l.length:=by
 have G:k<l.length:=(DC.1 h).1;unfold Bv;simp only[h,JF,WB,List.length_eraseIdx,if_pos G];omega
theorem Bw{k:Nat}(h:ops[k]?=some o):(JQ k ops)[0]?=some { o with after:=#[] }:=by
 have:=wI (l:=ops.toList) (by simpa using h);simpa [JQ] using this
theorem Ir{k:Nat}(h:ops[k]?=some o)(i:Nat)(hi:i≠k):(JQ k ops)[PL k i]?=(ops[i]?).map (reO k):=by
 have:=bB (l:=ops.toList) (by simpa using h) i hi;simpa [JQ] using this
theorem ul{k:Nat}(h:ops[k]?=some o):(JQ k ops).size=ops.size:=by
 have:=uk (l:=ops.toList) (by simpa using h);simpa [JQ] using this
theorem aG{k:Nat}(G:k<n)(hi:i<n):PL k i<n:=by
 unfold PL;split
 ·omega
 ·split<;>omega
theorem aH{k:Nat}(hi:i≠k):PL k i≠0:=by
 unfold PL;rw[if_neg hi];split<;>omega
theorem QbD{k:Nat}(hi:i≠k)(G:j≠k)(h:PL k i=PL k j):i=j:=by
 unfold PL at h;rw[if_neg hi,if_neg G] at h;split at h<;>split at h<;>omega
theorem aI{k:Nat}(G:j≠0):∃i,i≠k∧PL k i=j:=by
 unfold PL;by_cases h:j≤k
 ·exact⟨j-1,by omega,by rw[if_neg zo,if_pos zo];omega⟩
 ·exact⟨j,by omega,by rw[if_neg zo,if_neg zo]⟩
section
variable {P:Program}{ops:Array Oper}{Q:Exit→Act→World→Prop}{k:Nat}{ok:Oper}
theorem bC(G:ops[k]?=some ok)(g:Nat):((JQ k ops)[PL k g]?).bind (·.dst)=(ops[g]?).bind (·.dst):=by
 by_cases J:g=k
 ·subst J;rw[show PL g g=0 from by simp[PL],Bw G,G];rfl
 ·rw[Ir G g J];cases ops[g]?<;>rfl
theorem bD(G:ops[k]?=some ok)(o:Oper)(tmps:Array Value):Region.wanted (reO k o) (yielded (JQ k ops) tmps)=Region.wanted o (yielded ops tmps):=by
 unfold Region.wanted reO;cases hg:o.guard with
|none=>simp
|some g =>
  obtain⟨g,b⟩:=g;simp only[Option.map_some];unfold yielded;rw[bC G g]
theorem QbE(G:ops[k]?=some ok)(hi:i≠k){K K':Act→World→Prop}(J:∀a w,K a w→K' a w)(h:wpOp P (JQ k ops) Q (PL k i) K a w):wpOp P ops Q i K' a w:=by
 refine wpOp_mono J ?_;unfold wpOp at h ⊢;rw[Ir G i hi] at h;cases ho:ops[i]? with
|none=>simpa [ho] using h
|some o =>
  simp only[ho,Option.map_some] at h ⊢;rw[bD G] at h;exact h
theorem Db(hk:ops[k]?=some ok){G:Array Bool}(hs:listed.size=ops.size)(aa:G.size=ops.size)(h0:G.getD 0 false=true)(h1:listed.getD k false=true)(hl:∀i,i≠k→G.getD (PL k i) false=listed.getD i false)(i:Nat)(hi:i≠k) :
  i∈Region.ready .any ops listed↔PL k i∈Region.ready .any (JQ k ops) G:=by
 have ac:k<ops.size:=(FL.1 hk).1;have Y:∀(l:Array Bool) (i:Nat),i<l.size→l.getD i true=l.getD i false:=fun l i hi=>by simp[hi]
 rw[mem_ready,mem_ready,Ir hk i hi];rcases Nat.lt_or_ge i ops.size with hlt|ad
 rotate_left
 ·have:ops[i]?=none:=by simp[ad]
  simp[this]
 have e1:listed.getD i true=G.getD (PL k i) true:=by
  rw[Y listed i zo,Y G _ (by rw[aa];exact aG ac hlt),hl i hi]
 rw[e1]
 have W:∀j,listed.getD j false=G.getD (PL k j) false:=by
  intro j;by_cases hj:j=k
  ·subst hj;rw[h1,show PL j j=0 from by simp[PL],h0]
  ·exact(hl j hj).symm
 refine and_congr_right fun _=>?_
 constructor
 ·rintro⟨o,Z,J⟩;refine⟨reO k o,by rw[Z];rfl,fun e O hb=>?_⟩;simp only[reO,List.mem_toArray,List.mem_append,List.mem_map] at O;rcases O with O|⟨e',ab,rfl⟩
  ·split at O
   ·cases O
   ·rw[List.mem_singleton] at O;subst O;exact h0
  ·rw[←W];exact J e' (by simpa using ab) hb
 ·rintro⟨o',U,J⟩;cases Z:ops[i]? with
 |none=>rw[Z] at U;cases U
 |some o =>
   rw[Z] at U;cases U;refine⟨o,rfl,fun e O hb=>?_⟩;rw[W];exact J ⟨PL k e.on,e.ground⟩ (by simp only[reO,List.mem_toArray,List.mem_append,List.mem_map];exact .inr ⟨e,by simpa using O,rfl⟩) hb
theorem um(hk:ops[k]?=some ok):∀(O:Nat) (listed G:Array Bool) (a:Act) (w:World),listed.size=ops.size→G.size=ops.size→G.getD 0 false=true→listed.getD k false=true →
  (∀i,i≠k→G.getD (PL k i) false=listed.getD i false)→wpAny P .any (JQ k ops) Q O G a w→wpAny P .any ops Q O listed a w:=by
 have ac:k<ops.size:=(FL.1 hk).1;have aa:∀(l:Array Bool) (i:Nat),i<l.size→l.getD i true=l.getD i false:=fun l i hi=>by simp[hi]
 have Z:∀(listed G:Array Bool),listed.size=ops.size→G.size=ops.size→G.getD 0 false=true→listed.getD k false=true →
   (∀i,i≠k→G.getD (PL k i) false=listed.getD i false)→(Region.ready .any ops listed=[]↔Region.ready .any (JQ k ops) G=[]):=by
  intro listed G hs J h0 Y hl;simp only[List.eq_nil_iff_forall_not_mem];constructor
  ·intro h j hj
   have ab:j≠0:=by
    intro e;subst e;have:=(mem_ready.1 hj).1;rw[aa G 0 zo,h0] at this;cases this
   obtain⟨i,U,rfl⟩:=aI (k:=k) ab;exact h i ((Db hk hs J h0 Y hl i U).2 hj)
  ·intro h i hi
   have U:i≠k:=by
    intro e;subst e;have:=(mem_ready.1 hi).1;rw[aa listed i zo,Y] at this;cases this
   exact h _ ((Db hk hs J h0 Y hl i U).1 hi)
 intro O
 induction O with
|zero =>
  intro listed G a w hs J h0 Y hl h;exact⟨(Z listed G hs J h0 Y hl).2 h.1,h.2⟩
|succ O ih =>
  intro listed G a w hs J h0 Y hl h;refine⟨fun hr=>h.1 ((Z listed G hs J h0 Y hl).1 hr),fun i hi=>?_⟩
  have U:i≠k:=by
   intro e;subst e;have:=(mem_ready.1 hi).1;rw[aa listed i zo,Y] at this;cases this
  have h2:=h.2 _ ((Db hk hs J h0 Y hl i U).1 hi);refine QbE hk U (fun a' w' h3=>ih _ _ a' w' (by simpa using hs) (by simpa using J) (getD_set_true h0) (getD_set_true Y) ?_ h3) h2;intro j hj;by_cases e:i=j
  ·subst e
   have W:i<ops.size:=by
    obtain⟨o,ho,_⟩:=(mem_ready.1 hi).2;exact(FL.1 ho).1
   have:=aG ac W;rw[←hs] at W;rw[←J] at this;simp[W,this]
  ·rw[getD_set_ne false e,getD_set_ne false (fun e2=>e (QbD U hj e2)),hl j hj]
theorem Xv{Q':Exit→Act→World→Prop}(hQ:∀e a w,Q e a w→Q' e a w):∀(G:Nat) (listed:Array Bool) (a:Act) (w:World),wpAny P .any ops Q G listed a w→wpAny P .any ops Q' G listed a w
|0,listed,a,w,h=>⟨h.1,hQ _ _ _ h.2⟩
|G+1,listed,a,w,h=>by
  refine⟨fun U=>hQ _ _ _ (h.1 U),fun i hi=>?_⟩;have J:=h.2 i hi;unfold wpOp at J ⊢;cases ho:ops[i]? with
 |none=>simp only[ho] at J ⊢;exact Xv hQ G _ a w J
 |some o =>
   simp only[ho] at J ⊢;split
   ·rename_i hw;simp only[hw,if_true] at J;rcases J with J|⟨W,O⟩
    ·exact .inl (Oper.wp_mono2 J (fun a w h=>Xv hQ G _ a w h) hQ)
    ·exact .inr ⟨W,_,_,hQ _ _ _ O.choose_spec.choose_spec⟩
   ·rename_i hw;simp only[hw] at J;exact Xv hQ G _ _ w J
end
def Agree(X:Tmp→Prop)(a b:Act):Prop:=a.defers=b.defers∧a.tmps.size=b.tmps.size∧∀t,¬X t→a.tmps[t]?=b.tmps[t]?
theorem uo(X:Tmp→Prop)(a:Act):Agree X a a:=⟨rfl,rfl,fun _ _=>rfl⟩
theorem Gv{X:Tmp→Prop}{b:Act}(h:Agree X a b)(d:Option Tmp)(v:Value):Agree X (a.put d v) (b.put d v):=by
 cases d with
|none=>exact h
|some d =>
  refine⟨h.1,by simpa [Act.put] using h.2.1,fun t G=>?_⟩;simp only[Act.put,Array.getElem?_setIfInBounds];rw[h.2.1,h.2.2 t G]
theorem uq{X:Tmp→Prop}{b:Act}(h:Agree X a b)(G:∀t,x=.tmp t→¬X t):a.eval x=b.eval x:=by
 cases x with
|tmp t =>
  have:=h.2.2 t (G t rfl);simp only[Act.eval];rw[Array.getD_eq_getD_getElem?,Array.getD_eq_getD_getElem?,this]
|_=>rfl
theorem XN{X:Tmp→Prop}{b:Act}(h:Agree X a b)(hs:∀cs b,o.op≠.select cs b)(J:∀t∈o.looksAt ops,¬X t):execOp a.eval o=execOp b.eval o :=
 execOp_congr o hs fun x O=>uq h fun t G=>J t (by
  subst G;exact List.mem_append_left _ (List.mem_filterMap.2 ⟨.tmp t,by simpa using O,rfl⟩))
theorem Iu{X:Tmp→Prop}{b:Act}{K:Act→World→Prop}{Q:Exit→Act→World→Prop}(h:Agree X a b)(hs:∀cs b,o.op≠.select cs b)(Z:∀t∈o.looksAt ops,¬X t)(hd:∀t,o.dst=some t→¬X t)(hp:∀c w,Q (.panic c) b w→Q' (.panic c) a w)(ho:∀a w,¬Q .outgrown a w)(J:o.wp P b w K Q):o.wp P a w (fun Y w'=>∃U,Agree X Y U∧(∀t,o.dst≠some t→U.tmps[t]?=b.tmps[t]?)∧K U w') Q':=by
 have G:∀(b:Act) (v:Value) (t:Tmp),o.dst≠some t→(b.put o.dst v).tmps[t]?=b.tmps[t]?:=by
  intro b v t W;cases hdst:o.dst with
 |none=>rfl
 |some d =>
   have:d≠t:=fun e=>W (by rw[hdst,e])
   simp[Act.put,Array.getElem?_setIfInBounds_ne this]
 unfold Oper.wp at *;rw[XN (ops:=ops) h hs Z];generalize (execOp b.eval o).run P w=r at *;cases r with
|ok n w' =>
  cases n<;>simp only[Oper.upon] at J ⊢
  case value u=>exact⟨_,Gv h _ u,G b u,J⟩
  case skip=>exact⟨_,Gv h _ _,G b _,J⟩
  case defer d =>
   refine⟨_,Gv (X:=X) (a:={ a with defers:=d::a.defers }) (b:={ b with defers:=d::b.defers }) ⟨by simp[h.1],h.2.1,h.2.2⟩ _ _,fun t W=>?_,J⟩;exact G { b with defers:=d::b.defers } _ t W
  case enter f args =>
   refine Calls.mono J fun e w'' O=>?_
   cases e with
  |returned u=>exact⟨_,Gv h _ u,G b u,O⟩
  |panicked c=>exact hp _ _ O
  |outgrown=>obtain⟨a0,w0,O⟩:=O;exact absurd O (ho _ _)
  case row row args=>exact Rows.mono J fun u w'' O=>⟨_,Gv h _ u,G b u,O⟩
|halt x w' =>
  cases x<;>simp only[Oper.upon] at J ⊢
  case panic u=>exact hp _ _ J
def Iw(P:Program)(o:Oper)(T:Nat→Option AV)(h:QO):Option AV :=
 match o.op with
|.move x=>Zp T x
|.load ty x=>(Ee P T h ty x).map (·.1)
|.fieldAddr s x f=>(Xd P T s x f).map (·.1)
|.nilCheck x=>(Uj T x).map (·.1)
|.extract x i=>(GJ T x i).map (·.1)
|.binOp op _ x y _=>match Zp T x,Zp T y with
 |some (.p (.val (.int k a))),some (.p (.val (.int k' b)))=>if Ru op then none else if k=k' then(Ao op k a b).map fun v=>.p (.val v) else none
 |_,_=>none
|_=>none
section
variable {P:Program}{N:Nat}{D:DB}{φ:Nat→Nat}{M0:ZM}{T:Nat→Option AV}{h:QO}{a:Act}{w:World}
theorem Iy(r:Zo φ M0 N D T h a w){x:AV}(O:Iw P o T h=some x):∃v,(execOp a.eval o).run P w=.ok (.value v) w∧Qe φ h w (MM φ h M0) x v:=by
 unfold Iw at O;split at O
 ·rename_i y J;exact⟨a.eval y,by simp[execOp,J],r.ev O⟩
 ·rename_i ty y J;obtain⟨u,hu,rfl⟩:=Gn.1 O;obtain⟨_,v,G,Y⟩:=Ai (P:=P) r hu;exact⟨v,by simp[execOp,J,G],Y⟩
 ·rename_i s y f J;obtain⟨u,hu,rfl⟩:=Gn.1 O;unfold Xd at hu;split at hu
  ·rename_i fields hs;split at hu
   ·rename_i fl hf;split at hu
    ·rename_i i hi;split at hu
     ·cases hu
     ·rename_i Z;split at hu
      ·rename_i b off U;simp only[Q0] at hu;subst hu;have G:=r.ev U;simp only[Qe] at G;refine⟨.pointer (some ⟨φ b,off+fl.offset,none⟩),?_,?_⟩
       ·simp[execOp,J,Instr.fieldAt,run_underlying hs,hf,G.1,Instr.sureAddr,fieldPlace,Zb hi,Z,Addr.add_lit]
       ·simp only[Qe];exact⟨trivial,G.2⟩
      ·rename_i cs U;split at hu
       ·rename_i aa;simp only[Q0] at hu;subst hu;have G:=r.ev U;simp only[Qe] at G;obtain⟨rr,oo,Y,h4⟩:=G;refine⟨.pointer (some ⟨rr,oo+fl.offset,none⟩),?_,?_⟩
        ·simp[execOp,J,Instr.fieldAt,run_underlying hs,hf,Y,Instr.sureAddr,fieldPlace,Zb hi,Z,Addr.add_lit]
        ·simp only[Qe];exact⟨rr,oo+fl.offset,rfl,Bj _ aa h4⟩
       ·cases hu
      ·cases hu
    ·cases hu
   ·cases hu
  ·cases hu
 ·rename_i y J;obtain⟨u,hu,rfl⟩:=Gn.1 O;unfold Uj at hu;split at hu
  ·rename_i b off U;simp only[Q0] at hu;subst hu;have G:=r.ev U;refine⟨a.eval y,?_,G⟩;simp only[Qe] at G;simp[execOp,J,G.1]
  ·rename_i cs U;simp only[Q0] at hu;subst hu;have G:=r.ev U;refine⟨a.eval y,?_,G⟩;simp only[Qe] at G;obtain⟨rr,oo,Y,_⟩:=G;simp[execOp,J,Y]
  ·rename_i f l m U;simp only[Q0] at hu;subst hu;have G:=r.ev U;refine⟨a.eval y,?_,G⟩;simp only[Qe] at G;obtain⟨l',m',Y,_⟩:=G;simp[execOp,J,Y]
  ·cases hu
 ·rename_i y i J;obtain⟨u,hu,rfl⟩:=Gn.1 O;unfold GJ at hu;split at hu
  ·rename_i vs U;split at hu
   ·rename_i v W;simp only[Q0] at hu;subst hu;have G:=r.ev U;simp only[Qe] at G;obtain⟨l,Y,h4⟩:=G;obtain⟨z,h5,h6⟩:=Ud h4 W;exact⟨z,by simp[execOp,J,Instr.extract,Y,h5],h6⟩
   ·cases hu
  ·cases hu
 ·rename_i op tx y z ty J;split at O
  ·rename_i k n k' m U hy;have h1:=r.ev U;have G:=r.ev hy;simp only[Qe,QM] at h1 G;split at O
   ·cases O
   rename_i hs;split at O
   ·rename_i hk;subst hk;obtain⟨v,W,rfl⟩:=Gn.1 O;refine⟨v,?_,by simp[Qe,QM]⟩;cases op<;>first|(simp[Ru] at hs;done)|(simp only[Ao] at W;first|(cases W;done)|(simp only[Q0] at W;subst W;simp[execOp,J,h1,G,eqGuard,binOp,Op.intArith,Op.intBits,Op.intCmp,vv,gW,Qa7,zu,QV,leI,Qj,bne];done)|(by_cases hz:m=0<;>simp only[hz,if_true,if_false] at W<;>first|(cases W;done)|(simp only[Q0] at W;subst W;simp[execOp,J,h1,G,eqGuard,binOp,Op.intDiv,hz])))
   ·cases O
  ·cases O
 ·cases O
end
def zR:AV→Bool|.p (.val _)=>true|.ptr _ _=>true|_=>false
theorem ut{x:AV}{v':Value}(O:zR x=true)(G:Qe φ h w M x v)(J:Qe φ h w M x v'):v=v':=by
 unfold zR at O;split at O
 ·simp only[Qe,QM] at G J;rw[G,J]
 ·simp only[Qe] at G J;rw[G.1,J.1]
 ·cases O
def aJ(h:QO)(x:AV):Prop:=zR x=true∨∃S es t ty,x=.tsl S es t∧h t=some (.arr ty S es.length)∧0<S
theorem qE{x:AV}{v':Value}(U:aJ h x)(W:Qe φ h w M x v)(O:Qe φ h w M x v'):v=v':=by
 rcases U with U|⟨S,es,t,ty,rfl,ht,hS⟩
 ·exact ut U W O
 ·simp only[Qe] at W O;obtain⟨_,BK,n1,a1,a2,a3⟩:=W;obtain⟨_,VG,n2,Z,b2,b3⟩:=O;rw[ht] at a1 Z;cases a1;cases Z;rcases a3 rfl with⟨_,Y,J⟩|⟨cap,c,Y,J,e3,_⟩<;>rcases b3 rfl with⟨_,f1,f2⟩|⟨G,c',f1,f2,f3,_⟩
  ·exact Y.trans f1.symm
  ·rw[J] at f2;cases f2
  ·rw[J] at f2;cases f2
  rw[J] at f2;cases f2;rw[e3] at f3;have:cap=G:=Nat.eq_of_mul_eq_mul_right hS f3;rw[Y,f1,this]
def LQ(P:Program)(N:Nat)(ops:Array Oper):List Nat→St→Option St
|[],s=>some s
|i::l,s=>match ops[i]? with
 |some o=>match Iw P o (look s.T) (look s.H),o.dst with
  |some x,some d=>if d<N then LQ P N ops l (s.put (some d) x) else none
  |_,_=>none
 |none=>none
def LU(ops:Array Oper):List Nat→Bool
|[]=>true
|i::l=>(match ops[i]? with
 |some o=>match o.dst with
  |some d=>!(o.looksAt ops).contains d&&l.all (fun j=>match (ops[j]?).bind (·.dst) with|some e=>!(o.looksAt ops).contains e&&e != d|none=>false)
  |none=>false
 |none=>false)&&LU ops l
def aK(ops:Array Oper)(H:List Nat)(t:Tmp):Prop:=∃i∈H,(ops[i]?).bind (·.dst)=some t
theorem Sz{P:Program}{N:Nat}{D:DB}{φ:Nat→Nat}{M0:ZM}{ops:Array Oper}(Z:Region.noSelect ops=true):∀(H:List Nat) (s s1:St) (a:Act) (w:World),LU ops H=true→LQ P N ops H s=some s1→Zo φ M0 N D (look s.T) (look s.H) a w →
  ∃b,Zo φ M0 N D (look s1.T) (look s1.H) b w∧look s1.H=look s.H∧Agree (aK ops H) a b∧∀i∈H,∃o d v,ops[i]?=some o∧o.dst=some d∧b.tmps[d]?=some v∧(execOp b.eval o).run P w=.ok (.value v) w
|[],s,s1,a,w,_,h,r=>by
  simp only[LQ,Q0] at h;subst h;exact⟨a,r,rfl,uo _ a,fun i hi=>by cases hi⟩
|i::H,s,s1,a,w,hp,h,r=>by
  simp only[LQ] at h;cases ho:ops[i]? with
 |none=>rw[ho] at h;cases h
 |some o =>
   simp only[ho] at h;split at h
   ·rename_i x d hx hd;split at h;rotate_left
    ·cases h
    rename_i ad;simp only[LU,ho,hd,Z8,Bool.not_eq_true'] at hp;obtain⟨⟨Y,G⟩,ah⟩:=hp;obtain⟨v,ac,ab⟩:=Iy r hx;have r1:=r.put (d:=some d) (fun t O=>by cases O;exact ad) ab;obtain⟨b,rb,hH,U,ae⟩:=Sz Z H (s.put (some d) x) s1 (a.put (some d) v) w ah h r1
    have aa:∀t∈o.looksAt ops,t≠d∧¬aK ops H t:=by
     intro t O;refine⟨fun e=>?_,?_⟩
     ·subst e;simp[O] at Y
     ·rintro⟨j,W,J⟩;have:=X5.1 G j W;rw[J] at this;simp[O] at this
    have af:¬aK ops H d:=by
     rintro⟨j,W,J⟩;have:=X5.1 G j W;rw[J] at this;simp at this
    have ai:d<a.tmps.size:=by rw[r.siz];exact ad
    refine⟨b,rb,by rw[hH];rfl,?_,?_⟩
    ·refine⟨by rw[←U.1];rfl,by rw[←U.2.1];simp[Act.put],fun t O=>?_⟩;rw[←U.2.2 t (fun hc=>O (by obtain⟨j,W,J⟩:=hc;exact⟨j,List.mem_cons_of_mem _ W,J⟩))];have:d≠t:=fun e=>O ⟨i,List.mem_cons_self,by rw[ho];exact hd.trans (by rw[e])⟩
     simp[Act.put,Array.getElem?_setIfInBounds_ne this]
    ·intro j W;rcases List.mem_cons.1 W with rfl|W
     ·refine⟨o,d,v,ho,hd,?_,?_⟩
      ·rw[←U.2.2 d af];simp[Act.put,ai]
      ·rw[←ac];congr 1;have h1:execOp (a.put (some d) v).eval o=execOp a.eval o:=execOp_put o (fun cs b=>Region.noSelect_spec Z j o cs b ho) a (some d) v (fun t O hc=>by cases O;exact(aa d hc).1 rfl);rw[←h1];exact(XN (ops:=ops) U (fun cs b=>Region.noSelect_spec Z j o cs b ho) (fun t O=>(aa t O).2)).symm
     ·exact ae j W
   ·cases h
def FX(P:Program)(ops:Array Oper)(i:Nat)(s:St):Prop :=
 match ops[i]? with
|some o=>match o.op,o.dst with
 |.move x,some d=>True
 |_,some d=>∃x,Iw P o (look s.T) (look s.H)=some x∧look s.T d=some x∧aJ (look s.H) x
 |_,none=>False
|none=>False
def WX(P:Program)(ops:Array Oper)(L:List Nat)(s:St):Prop:=∀i∈L,FX P ops i s
def Jf:Nat→Array Oper→Nat→Nat→Bool
|0,_,_,_=>false
|n+1,ops,j,i=>match ops[j]? with
 |some o=>o.after.toList.any fun e=>Region.binds .any e&&(e.on==i||Jf n ops e.on i)
 |none=>false
def XO(ops:Array Oper)(L:List Nat)(c:Nat):List Nat:=L.filter fun i=>!Jf ops.size ops c i&&!Jf ops.size ops i c
def jM(P:Program)(N:Nat)(ops:Array Oper)(Q:AX→St→Prop)(L:List Nat):List (Nat×List Nat)→St→Prop
|[],s=>Q .normal s
|(c,hs)::rest,s=>match ops[c]? with
 |some o=>XG P N o s (fun s'=>WX P ops (XO ops L c) s'∧∃G,LQ P N ops hs s'=some G∧jM P N ops Q L rest G) Q
 |none=>False
theorem Xw{ops:Array Oper}{listed:Array Bool}(J:∀(j:Nat) o,ops[j]?=some o→listed.getD j false=true→∀e∈o.after,Region.binds .any e=true→listed.getD e.on false=true):∀(n j i:Nat) (o:Oper),ops[j]?=some o→(∀e∈o.after,Region.binds .any e=true→listed.getD e.on false=true)→Jf n ops j i=true→listed.getD i false=true
|0,j,i,o,W,Z,h=>by cases h
|n+1,j,i,o,W,Z,h=>by
  simp only[Jf,W,List.any_eq_true,Z8,Bool.or_eq_true,beq_iff_eq] at h;obtain⟨e,he,hb,G⟩:=h;have Y:=Z e (by simpa using he) hb;rcases G with G|G
  ·rw[←G];exact Y
  ·cases ho2:ops[e.on]? with
  |none=>cases n<;>simp[Jf,ho2] at G
  |some o2=>exact Xw J n e.on i o2 ho2 (fun e2 O U=>J e.on o2 ho2 Y e2 O U) G
def chainOk(ops:Array Oper):List Nat→Bool|[]=>true|[_]=>true|c::c'::r=>(ops[c']?).any (waits · c)&&chainOk ops (c'::r)
def D7(ops:Array Oper)(L:List Nat):List Nat→List Nat→List (Nat×List Nat)→Bool|_,_,[]=>true|J,G,(c,hs)::r=>G.all (fun i=>L.contains i||Jf ops.size ops c i)&&hs.all (fun i=>Jf ops.size ops i c)&&J.all (fun i=>!Jf ops.size ops i c)&&D7 ops L (J++hs) hs r
def Iz(H:List Nat)(Ch:List (Nat×List Nat)):List Nat:=H++(Ch.map (·.2)).flatten
def wJ(H L:List Nat)(Ch:List (Nat×List Nat))(ops:Array Oper):Bool :=
 (List.range ops.size).all (fun i=>(Iz H Ch).contains i||(Ch.map (·.1)).contains i)&&Region.noSelect ops&&LU ops (Iz H Ch)&&chainOk ops (Ch.map (·.1))&&decide (Ch.map (·.1)).Nodup&&(Iz H Ch).all (fun i=>!(Ch.map (·.1)).contains i) &&
 D7 ops L H H Ch&&ops.toList.all (fun o=>o.guard.isNone)&&Gs 0 ops.toList &&
 (Iz H Ch).all (fun i=>match (ops[i]?).bind (·.dst) with
 |some d=>(List.range ops.size).all fun j=>i==j||(match ops[j]? with|some G=>G.dst != some d&&(waits G i||!(G.looksAt ops).contains d)|none=>true)
 |none=>false) &&
 L.all (fun i=>match ops[i]? with|some o=>(match o.op with|.move _=>true|_=>false)&&(Ch.map (·.1)).all (fun c=>match (ops[c]?).bind (·.dst) with|some e=>!(o.looksAt ops).contains e|none=>true)||!(match o.op with|.move _=>true|_=>false)|none=>false)
theorem G9(h:waits o i=true):∃e∈o.after,Region.binds .any e=true∧e.on=i:=by
 simp only[waits,List.any_eq_true,Z8,beq_iff_eq] at h;obtain⟨e,G,O,J⟩:=h;exact⟨e,by simpa using G,O,J⟩
theorem fK{b:Act}{X:Tmp→Prop}(h:Agree X a b)(O:∀t,¬X t):a=b:=by
 obtain⟨G,W,J⟩:=h;cases a with
|mk Y U =>
  cases b with
 |mk tb Z =>
   simp only at G J;subst G;congr 1;exact Array.ext_getElem? (fun i=>J i (O i))
def JR(ops:Array Oper)(H:List Nat)(listed:Array Bool)(t:Tmp):Prop:=∃i∈H,listed.getD i false=false∧(ops[i]?).bind (·.dst)=some t
theorem Dc{ops:Array Oper}:∀(G:List Nat) (c c':Nat) (l2:List Nat),chainOk ops (G++c::c'::l2)=true→(ops[c']?).any (waits · c)=true
|[],c,c',l2,h=>by
  simp only[List.nil_append,chainOk,Z8] at h;exact h.1
|[x],c,c',l2,h=>by
  simp only[List.cons_append,List.nil_append,chainOk,Z8] at h;exact h.2.1
|x::y::G,c,c',l2,h=>by
  simp only[List.cons_append,chainOk,Z8] at h;exact Dc (y::G) c c' l2 h.2
theorem IA{ops:Array Oper}:∀(O l2:List Nat),LU ops (O++l2)=true→(∀i∈O,∀j∈l2,∃o d,ops[i]?=some o∧o.dst=some d∧∀e,(ops[j]?).bind (·.dst)=some e→e∉o.looksAt ops∧e≠d)∧LU ops l2=true
|[],l2,h=>⟨(fun i hi=>by cases hi),h⟩
|x::O,l2,h=>by
  simp only[List.cons_append,LU,Z8] at h;obtain⟨g1,g2⟩:=IA O l2 h.2;refine⟨fun i hi j U=>?_,g2⟩;rcases List.mem_cons.1 hi with rfl|hi
  ·have G:=h.1;cases ho:ops[i]? with
  |none=>rw[ho] at G;cases G
  |some o =>
    rw[ho] at G;dsimp only at G;cases hd:o.dst with
   |none=>rw[hd] at G;cases G
   |some d =>
     rw[hd] at G;simp only[Z8] at G;refine⟨o,d,rfl,hd,fun e W=>?_⟩;have J:=X5.1 G.2 j (List.mem_append_right _ U);rw[W] at J;simp only[Z8,Bool.not_eq_true',bne_iff_ne] at J;refine⟨fun hc=>?_,J.2⟩;have:=J.1;simp[hc] at this
  ·exact g1 i hi j U
theorem IB(U:ops[j]?=some o)(O:o.dst=some d):∀(l:List Nat),LU ops l=true→j∈l→d∉o.looksAt ops:=by
 intro l
 induction l with
|nil=>intro _ h;cases h
|cons x l G =>
  intro hp J;simp only[LU,Z8] at hp;rcases List.mem_cons.1 J with rfl|J
  ·have:=hp.1;simp only[U,O,Z8,Bool.not_eq_true'] at this;intro hc;simp[hc] at this
  ·exact G hp.2 J
theorem Bz{ops:Array Oper}:∀(J l2:List Nat),LU ops (J++l2)=true→LU ops J=true
|[],_,_=>rfl
|x::J,l2,h=>by
  simp only[List.cons_append,LU,Z8] at h ⊢;refine⟨?_,Bz J l2 h.2⟩;have G:=h.1;cases ho:ops[x]? with
 |none=>rw[ho] at G;cases G
 |some o =>
   rw[ho] at G;dsimp only at G ⊢;cases hd:o.dst with
  |none=>rw[hd] at G;cases G
  |some d =>
    rw[hd] at G;simp only[Z8,List.all_append] at G ⊢;exact⟨G.1,G.2.1⟩
theorem EC{ops:Array Oper}{L:List Nat}:∀(O G:List Nat) (W:List (Nat×List Nat)),D7 ops L O G W=true→∀c hs,(c,hs)∈W→∀i∈hs,Jf ops.size ops i c=true
|_,_,[],_,c,hs,h,_,_=>by cases h
|O,G,(Y,J)::r,h,c,hs,U,i,hi=>by
  simp only[D7,Z8] at h;rcases List.mem_cons.1 U with e|U
  ·cases e;exact X5.1 h.1.1.2 i hi
  ·exact EC (O++J) J r h.2 c hs U i hi
def BA(ops:Array Oper):List Tmp:=ops.toList.filterMap (·.dst)
def ED(ops:Array Oper)(s:St):St:=⟨s.T.filter (fun p=>!(BA ops).contains p.1),s.H⟩
theorem Df(f:Nat→Bool):∀(T:List (Nat×AV)) (t:Nat) (x:AV),look (T.filter (fun p=>f p.1)) t=some x→look T t=some x∧f t=true
|[],t,x,h=>by cases h
|(k,v)::T,t,x,h=>by
  simp only[List.filter_cons] at h;by_cases G:f k=true
  ·simp only[G,if_true,look] at h;simp only[look];by_cases e:k=t
   ·subst e;simp only[if_true] at h ⊢;exact⟨h,G⟩
   ·simp only[e,if_false] at h ⊢;exact Df f T t x h
  ·simp only[G] at h;obtain⟨O,J⟩:=Df f T t x (by simpa using h);simp only[look];have:k≠t:=fun e=>G (e▸J)
   simp only[this,if_false];exact⟨O,J⟩
def qh{R:Type}(ops:Array Oper)(Q:R→AX→St→Prop):R→AX→St→Prop:=fun r x s=>match x with|.normal=>Q r .normal s|.panic v=>Q r (.panic v) (ED ops s)|_=>False
theorem qF{b:Act}{X:Tmp→Prop}(h:Agree X a b)(U:∀t,X t→t∈BA ops)(r:Zo φ M0 N D (look s.T) (look s.H) b w):Zo φ M0 N D (look (ED ops s).T) (look (ED ops s).H) a w:=by
 refine⟨?_,by rw[h.2.1];exact r.siz,r.hp,fun t x J=>?_⟩
 ·have:=r.dfs;unfold Marks at this ⊢;rw[h.1];exact this
 ·obtain⟨O,G⟩:=Df (fun t=>!(BA ops).contains t) s.T t x J;obtain⟨g1,g2⟩:=r.tm t x O;refine⟨g1,?_⟩
  have:a.tmps[t]?=b.tmps[t]?:=h.2.2 t (fun hc=>by
   have:=U t hc;simp[this] at G)
  rw[Array.getD_eq_getD_getElem?,this,←Array.getD_eq_getD_getElem?];exact g2
theorem QbF{Qh:AX→St→Prop}{H L:List Nat}{Ch:List (Nat×List Nat)}(hok:wJ H L Ch ops=true)(dc:∀s,Qh .normal s→Q .normal s)(dw:∀v s,Qh (.panic v) s→Q (.panic v) (ED ops s)) :
  ∀(ab:Nat) (done ch:List (Nat×List Nat)) (af U:List Nat) (listed:Array Bool) (a b:Act) (w:World) (s:St) (φ:Nat→Nat),Ch=done++ch→U=H++(done.map (·.2)).flatten→(∀i∈U,i∉L→i∉af→listed.getD i false=true)→(∀i∈af,i∈U)→D7 ops L U af ch=true→listed.size=ops.size→Sq listed ops.size≤ab →
   (∀(j:Nat) o,ops[j]?=some o→listed.getD j false=true→∀e∈o.after,Region.binds .any e=true→listed.getD e.on false=true) →
   (∀c∈done,listed.getD c.1 false=true)→(∀c∈ch,listed.getD c.1 false=false)→Agree (JR ops U listed) a b→Zo φ M0 N D (look s.T) (look s.H) b w→Q8 φ0 h0 w0 φ (look s.H) w →
   (∀i∈U,listed.getD i false=false→∃o d v,ops[i]?=some o∧o.dst=some d∧b.tmps[d]?=some v∧(execOp b.eval o).run P w=.ok (.value v) w) →
   jM P N ops Qh L ch s→wpAny P .any ops (Post N D Q φ0 M0 h0 w0) ab listed a w:=by
 simp only[wJ,Z8,Bg] at hok;obtain⟨⟨⟨⟨⟨⟨⟨⟨⟨⟨cn,b3⟩,ba⟩,ao⟩,cm⟩,cf⟩,c1⟩,df⟩,b4⟩,bi⟩,da⟩:=hok;have bd:∀(listed:Array Bool) (i:Nat),i<listed.size→listed.getD i true=listed.getD i false:=fun listed i hi=>by simp[hi]
 have ce:∀(X:Tmp→Prop) (a b:Act),Agree X a b→(∀t,X t→t∈BA ops)→∀c w,Post N D Qh φ0 M0 h0 w0 (.panic c) b w→Post N D Q φ0 M0 h0 w0 (.panic c) a w:=by
  rintro X a b Z hX c w' ⟨φ',x,s',g1,g2,g3,g4⟩;cases x with
 |normal=>cases g4
 |exit i=>cases g4
 |ret=>cases g4
 |panic v=>exact⟨φ',.panic v,ED ops s',dw _ _ g1,qF Z hX g2,g3,g4⟩
 have cl:∀a w,¬Post N D Qh φ0 M0 h0 w0 .outgrown a w:=fun a w h=>WE ⟨a,w,h⟩
 have di:∀(U:List Nat) (listed:Array Bool) (t:Tmp),JR ops U listed t→t∈BA ops:=by
  rintro U listed t ⟨i,_,_,hd⟩;cases W:ops[i]? with
 |none=>rw[W] at hd;cases hd
 |some o =>
   rw[W] at hd;exact List.mem_filterMap.2 ⟨o,by have:=Array.mem_of_getElem? W;simpa using this,hd⟩
 have dt:∀(j:Nat) o,ops[j]?=some o→o.guard=none:=by
  intro j o W;have:=X5.1 df o (by have:=Array.mem_of_getElem? W;simpa using this);simpa using this
 have bg:∀(listed:Array Bool),listed.size=ops.size→Region.ready .any ops listed=[]→∀i,i<ops.size→listed.getD i false=true:=by
  intro listed a7 hr i
  induction i using Nat.strongRecOn with
 |_ i ih =>
   intro hi;cases hq:listed.getD i false with
  |true=>rfl
  |false =>
    have:i∈Region.ready .any ops listed:=by
     rw[mem_ready];refine⟨by rw[bd listed i zo];exact hq,ops[i],Array.getElem?_eq_getElem hi,fun e he hb=>?_⟩;have G:=V5 b4 i ops[i] (by simp[hi]) e he hb;exact ih e.on zo zo
    rw[hr] at this;cases this
 have bj:∀(listed:Array Bool) (ch:List (Nat×List Nat)) (U:List Nat) (a b:Act) (w:World) (s:St) (φ:Nat→Nat),(∀i,i<ops.size→listed.getD i false=true)→(∀c∈ch,listed.getD c.1 false=false)→Agree (JR ops U listed) a b →
   Zo φ M0 N D (look s.T) (look s.H) b w→Q8 φ0 h0 w0 φ (look s.H) w→jM P N ops Qh L ch s→Post N D Q φ0 M0 h0 w0 .normal a w:=by
  intro listed ch U a b w s φ O ac Z r E hx
  have c3:a=b:=fK Z (by
   rintro t ⟨i,hi,Y,hd⟩;cases W:ops[i]? with
  |none=>rw[W] at hd;cases hd
  |some o=>rw[O i (FL.1 W).1] at Y;cases Y)
  subst c3;cases ch with
 |nil=>exact⟨φ,.normal,s,dc _ hx,r,E,rfl⟩
 |cons c ch =>
   exfalso;obtain⟨c,hs⟩:=c;simp only[jM] at hx;cases W:ops[c]? with
  |none=>rw[W] at hx;exact hx
  |some o =>
    have:=ac (c,hs) List.mem_cons_self;rw[O c (FL.1 W).1] at this;cases this
 intro ab
 induction ab with
|zero =>
  intro done ch af U listed a b w s φ aa au bx bq ai a7 hu al be ac Z r E J hx;have O:∀i,i<ops.size→listed.getD i false=true:=fun i hi=>by rw[←bd listed i zo];exact TS (n:=ops.size) zo i hi
  refine⟨List.eq_nil_iff_forall_not_mem.2 fun i hi=>?_,bj listed ch U a b w s φ O ac Z r E hx⟩;obtain⟨G,o,W,_⟩:=mem_ready.1 hi;have co:=(FL.1 W).1;rw[bd listed i zo,O i co] at G;cases G
|succ ab ih =>
  intro done ch af U listed a b w s φ aa au bx bq ai a7 hu al be ac Z r E J hx;refine⟨fun hr=>bj listed ch U a b w s φ (bg listed a7 hr) ac Z r E hx,fun j hj=>?_⟩;obtain⟨b8,o,W,O⟩:=mem_ready.1 hj;have aq:j<ops.size:=(FL.1 W).1;have an:listed.getD j false=false:=by rw[←bd listed j zo];exact b8
  have bp:∀cs b,o.op≠.select cs b:=fun cs b=>Region.noSelect_spec b3 j o cs b W
  have bc:∀tm,Region.wanted o (yielded ops tm)=true:=fun tm=>by simp[Region.wanted,dt j o W]
  have am:∀i∈U,i∈Iz H Ch:=by
   intro i hi;rw[au] at hi;unfold Iz;rw[aa,List.map_append,List.flatten_append,←List.append_assoc];exact List.mem_append_left _ hi
  have eL:∀k,(listed.setIfInBounds j true).getD k false=(listed.getD k false||decide (k=j)):=by
   intro k;by_cases bt:k=j
   ·subst bt;have:k<listed.size:=by omega
    simp[this]
   ·rw[getD_set_ne false (Ne.symm bt)];simp[bt]
  have cj:Sq (listed.setIfInBounds j true) ops.size≤ab:=by
   have:=MX b8 ops.size;rw[if_pos aq] at this;omega
  have bk:∀(k:Nat) ok,ops[k]?=some ok→(listed.setIfInBounds j true).getD k false=true→∀e∈ok.after,Region.binds .any e=true→(listed.setIfInBounds j true).getD e.on false=true:=by
   intro k ok hk Y e he hb;rw[eL] at Y ⊢;simp only[Bool.or_eq_true,Bg] at Y ⊢;rcases Y with Y|Y
   ·exact .inl (al k ok hk Y e he hb)
   ·subst Y;rw[W] at hk;cases hk;exact .inl (O e he hb)
  have bo:∀t∈o.looksAt ops,¬JR ops U listed t∨∃d,o.dst=some d∧t=d∧j∈U:=by
   intro t ht;by_cases hc:JR ops U listed t;rotate_left
   ·exact .inl hc
   obtain⟨i,hi,Y,hd⟩:=hc;have G:=X5.1 bi i (am i hi);rw[hd] at G;have h2:=X5.1 G j (by simp[aq]);simp only[W,Bool.or_eq_true,beq_iff_eq,Z8,Bool.not_eq_true',bne_iff_ne] at h2;rcases h2 with rfl|⟨_,h2|h2⟩
   ·rw[W] at hd;exact .inr ⟨t,hd,rfl,hi⟩
   ·obtain⟨e,he,hb,bu⟩:=G9 h2;have:=O e he hb;rw[bu,Y] at this;cases this
   ·simp[ht] at h2
  have a8:=X5.1 cn j (by simp[aq]);simp only[Bool.or_eq_true,List.contains_iff_mem] at a8;by_cases ah:j∈Iz H Ch
  ·
   have bf:j∉Ch.map (·.1):=by
    have:=X5.1 cf j ah;simpa using this
   have az:j∈U:=by
    unfold Iz at ah;rw[aa,List.map_append,List.flatten_append,←List.append_assoc] at ah;rcases List.mem_append.1 ah with G|G
    ·rw[au];exact G
    ·exfalso;obtain⟨hs,h2,h3⟩:=List.mem_flatten.1 G;obtain⟨⟨c,cd⟩,h4,h5⟩:=List.mem_map.1 h2;simp only at h5;subst h5;have hw:=EC U af ch ai c cd h4 j h3;have:=Xw al _ j c o W O hw;rw[ac (c,cd) h4] at this;cases this
   obtain⟨o',d,v,b7,hd,hv,cw⟩:=J j az an;rw[W] at b7;cases b7;have b0:d∉o.looksAt ops:=IB W hd (Iz H Ch) ba ah
   have bw:∀t∈o.looksAt ops,¬JR ops U listed t:=by
    intro t ht;rcases bo t ht with G|⟨d',G,rfl,_⟩
    ·exact G
    ·rw[hd] at G;cases G;exact absurd ht b0
   unfold wpOp;simp only[W,bc,if_true];refine .inl ?_;unfold Oper.wp;rw[XN (ops:=ops) Z bp bw,cw];simp only[Oper.upon];refine ih done ch af U (listed.setIfInBounds j true) (a.put o.dst v) b w s φ aa au (fun i hi G h2=>by rw[eL,bx i hi G h2];rfl) bq ai (by simpa using a7) cj bk (fun c hc=>by rw[eL,be c hc];rfl) ?_ ?_ r E ?_ hx
   ·intro c hc;rw[eL,ac c hc];have:c.1≠j:=fun e=>bf (by rw[aa,←e];exact List.mem_map.2 ⟨c,List.mem_append_right _ hc,rfl⟩)
    simp[this]
   ·refine⟨by rw[←Z.1,hd];rfl,by rw[←Z.2.1,hd];simp[Act.put],fun t ht=>?_⟩;rw[hd];by_cases br:d=t
    ·subst br
     have c4:d<a.tmps.size:=by
      rw[Z.2.1];exact(FL.1 hv).1
     rw[hv];simp[Act.put,c4]
    ·rw[←Z.2.2 t (fun hc=>ht (by
      obtain⟨i,hi,Y,ae⟩:=hc;refine⟨i,hi,?_,ae⟩;rw[eL,Y];have:i≠j:=fun e=>br (by rw[e,W] at ae;exact Option.some.inj (hd.symm.trans ae))
      simp[this]))]
     simp[Act.put,Array.getElem?_setIfInBounds_ne br]
   ·intro i hi Y;refine J i hi ?_;rw[eL] at Y;simp only[Bool.or_eq_false_iff] at Y;exact Y.1
  ·
   have bf:j∈Ch.map (·.1):=a8.resolve_left ah;have az:j∉U:=fun h=>ah (am j h)
   have b6:∃hs r,ch=(j,hs)::r:=by
    have bm:=bf;rw[aa,List.map_append] at bm
    have cy:j∈ch.map (·.1):=by
     rcases List.mem_append.1 bm with G|G
     ·obtain⟨c,hc,rfl⟩:=List.mem_map.1 G;rw[be c hc] at an;cases an
     ·exact G
    cases ch with
   |nil=>cases cy
   |cons c r =>
     obtain⟨c,hs⟩:=c;by_cases c0:j=c
     ·exact⟨hs,r,by rw[c0]⟩
     ·exfalso;have c9:j∈r.map (·.1):=(List.mem_cons.1 cy).resolve_left c0;obtain⟨r1,r2,bn⟩:=List.append_of_mem c9;obtain⟨q,x,cx⟩:∃q x,c::r1=q++[x]:=⟨(c::r1).dropLast,(c::r1).getLast zq,(List.dropLast_concat_getLast zq).symm⟩
      have dk:Ch.map (·.1)=(done.map (·.1)++q)++x::j::r2:=by
       rw[aa,List.map_append,WV,bn,show c::(r1++j::r2)=(c::r1)++j::r2 from rfl,cx];simp
      rw[dk] at ao;have G:=Dc _ _ _ _ ao;rw[W] at G;obtain⟨e,he,hb,bu⟩:=G9 (o:=o) (i:=x) G;have h2:=O e he hb
      have c6:x∈((c,hs)::r).map (·.1):=by
       rw[WV,bn,show c::(r1++j::r2)=(c::r1)++j::r2 from rfl,cx];simp
      obtain⟨y,hy,rfl⟩:=List.mem_map.1 c6;have h3:=ac y hy;rw[bu,h3] at h2;cases h2
   obtain⟨hs,rest,rfl⟩:=b6
   have b5:∀t∈o.looksAt ops,¬JR ops U listed t:=by
    intro t ht;rcases bo t ht with G|⟨d',_,_,G⟩
    ·exact G
    ·exact absurd G az
   have bl:∀t,o.dst=some t→¬JR ops U listed t:=by
    rintro t ht ⟨i,hi,Y,hd⟩;have G:=X5.1 bi i (am i hi);rw[hd] at G;have h2:=X5.1 G j (by simp[aq]);simp only[W,Bool.or_eq_true,beq_iff_eq,Z8,Bool.not_eq_true',bne_iff_ne] at h2;rcases h2 with rfl|⟨h2,_⟩
    ·exact az hi
    ·exact h2 ht
   simp only[jM,W] at hx;simp only[D7,Z8] at ai;unfold wpOp;simp only[W,bc,if_true];refine .inl ?_;have hw:=DV hx r;have dm:=Go.Abs.Oper.wp_mono2 (K':=fun a' w'=>∃φ' s',(WX P ops (XO ops L j) s'∧∃bb,LQ P N ops hs s'=some bb∧jM P N ops Qh L rest bb)∧Zo φ' M0 N D (look s'.T) (look s'.H) a' w'∧Q8 φ (look s.H) w φ' (look s'.H) w') (Q':=Post N D Qh φ0 M0 h0 w0) hw (fun _ _ h=>h) (fun e a' w' p=>p.trans E);refine Oper.wp_mono ?_ (Iu (ops:=ops) Z bp b5 bl (ce _ _ _ Z (di _ _)) cl dm);rintro a' w' ⟨b',av,cc,φ',s',⟨dh,bb,bz,c5⟩,r',E'⟩
   have ax:∀i∈U,i∉L→listed.getD i false=true:=by
    intro i hi ak;by_cases bh:i∈af
    ·have G:=X5.1 ai.1.1.1 i bh;simp only[Bool.or_eq_true,List.contains_iff_mem] at G;rcases G with G|G
     ·exact absurd G ak
     ·exact Xw al _ j i o W O G
    ·exact bx i hi ak bh
   have a6:Iz H Ch=U++(hs++(rest.map (·.2)).flatten):=by
    unfold Iz;rw[aa,au,List.map_append,List.flatten_append,WV,List.flatten_cons,List.append_assoc]
   have ar:=ba;rw[a6] at ar;obtain⟨dj,dp⟩:=IA U _ ar;have de:=Bz _ _ dp;obtain⟨b2,rb,db,aj,cg⟩:=Sz b3 hs s' bb b' w' de bz r'
   have ca:∀i∈hs,listed.getD i false=false∧i≠j:=by
    intro i hi;have hw:=X5.1 ai.1.1.2 i hi;refine⟨?_,fun e=>ah (by rw[a6,←e];exact List.mem_append_right _ (List.mem_append_left _ hi))⟩;cases hq:listed.getD i false with
   |false=>rfl
   |true =>
     exfalso;obtain⟨oi,_,_,ad,_⟩:=cg i hi;have:=Xw al _ i j oi ad (fun e he hb=>al i oi ad hq e he hb) hw;rw[an] at this;cases this
   have du:∀t,aK ops hs t→JR ops (U++hs) (listed.setIfInBounds j true) t:=by
    rintro t ⟨i,hi,hd⟩;refine⟨i,List.mem_append_right _ hi,?_,hd⟩;rw[eL,(ca i hi).1];simp[(ca i hi).2]
   have dl:∀t,JR ops U listed t→JR ops (U++hs) (listed.setIfInBounds j true) t:=by
    rintro t ⟨i,hi,Y,hd⟩;refine⟨i,List.mem_append_left _ hi,?_,hd⟩;rw[eL,Y];have:i≠j:=fun e=>az (e▸hi)
    simp[this]
   refine ih (done++[(j,hs)]) rest hs (U++hs) (listed.setIfInBounds j true) a' b2 w' bb φ' (by rw[aa];simp) (by rw[au,List.map_append,List.flatten_append];simp) ?_ (fun i hi=>List.mem_append_right _ hi) ai.2 (by simpa using a7) cj bk (fun c hc=>by
    rw[eL];rcases List.mem_append.1 hc with G|G
    ·rw[be c G];rfl
    ·rw[List.mem_singleton] at G;simp[G]) ?_ ⟨av.1.trans aj.1,av.2.1.trans aj.2.1,fun t ht=>(av.2.2 t (fun hc=>ht (dl t hc))).trans (aj.2.2 t (fun hc=>ht (du t hc)))⟩ rb (by rw[db];exact E.trans E') ?_ c5
   ·intro i hi ak bh;rcases List.mem_append.1 hi with hi|hi
    ·rw[eL,ax i hi ak];rfl
    ·exact absurd hi bh
   ·intro c hc;rw[eL,ac c (List.mem_cons_of_mem _ hc)]
    have:c.1≠j:=by
     intro e;rw[aa,List.map_append,WV] at cm;have h2:=(List.nodup_append.1 cm).2.1;exact(List.nodup_cons.1 h2).1 (List.mem_map.2 ⟨c,hc,e⟩)
    simp[this]
   ·intro i hi Y;rcases List.mem_append.1 hi with aw|dn
    rotate_left
    ·exact cg i dn
    rw[eL] at Y;simp only[Bool.or_eq_false_iff] at Y
    have ak:i∈L:=by
     apply Classical.byContradiction;intro hc;rw[ax i aw hc] at Y;cases Y.1
    obtain⟨oi,d,v,ad,ae,c7,cz⟩:=J i aw Y.1;have cq:b'.tmps[d]?=some v:=by rw[cc d (fun e=>bl d e ⟨i,aw,Y.1,by rw[ad];exact ae⟩)];exact c7
    have cr:∀t,t∈oi.looksAt ops∨t=d→¬aK ops hs t:=by
     rintro t ht ⟨k,hk,dq⟩;obtain⟨o2,d2,G,h2,h3⟩:=dj i aw k (List.mem_append_left _ hk);rw[ad] at G;cases G;rw[ae] at h2;cases h2;obtain⟨h4,h5⟩:=h3 t dq;rcases ht with ht|ht
     ·exact h4 ht
     ·exact h5 ht
    have b1:∀cs b,oi.op≠.select cs b:=fun cs b=>Region.noSelect_spec b3 i oi cs b ad
    refine⟨oi,d,v,ad,ae,by rw[←aj.2.2 d (cr d (.inr rfl))];exact cq,?_⟩;rw[←XN (ops:=ops) aj b1 (fun t ht=>cr t (.inl ht))]
    have c2:Jf ops.size ops j i=false:=by
     cases hq:Jf ops.size ops j i with
    |false=>rfl
    |true =>
      have:=Xw al _ j i o W O hq;rw[Y.1] at this;cases this
    have cp:Jf ops.size ops i j=false:=by
     have:=X5.1 ai.1.2 i aw;simpa using this
    have G:=dh i (List.mem_filter.2 ⟨ak,by rw[c2,cp];rfl⟩);unfold FX at G;simp only[ad] at G;split at G
    ·rename_i x d' ay bv
     have b9:b.eval x=v:=by
      simp[execOp,ay] at cz;exact cz
     have dv:b'.eval x=b.eval x:=by
      cases x with
     |tmp t =>
       have hne:o.dst≠some t:=by
        intro e;have h2:=X5.1 da i ak;simp only[ad,ay,Bool.true_and,Bool.not_true,Bool.or_false] at h2;have h3:=X5.1 h2 j bf;simp only[W,Zj,e,Bool.not_eq_true'] at h3;have:t∈oi.looksAt ops:=List.mem_append_left _ (List.mem_filterMap.2 ⟨.tmp t,by simp[ay,Op.operands],rfl⟩);simp[this] at h3
       simp only[Act.eval];rw[Array.getD_eq_getD_getElem?,Array.getD_eq_getD_getElem?,cc t hne]
     |_=>rfl
     simp[execOp,ay,dv,b9]
    ·rename_i d' bv ay;obtain⟨x,h2,h3,h4⟩:=G;obtain⟨v',h5,h6⟩:=Iy r' h2;rw[ae] at bv;cases bv;have h7:=(r'.tm d x h3).2;rw[Array.getD_eq_getD_getElem?,cq] at h7;have:=qE h4 h6 h7;rw[h5,this];rfl
    ·cases G
theorem Qd8{R:Type}{r0:R}{Q:R→AX→St→Prop}(H L:List Nat)(Ch:List (Nat×List Nat))(hm:P.follows .mixedOrders=true)(aa:UC ops=true)(hok:wJ H L Ch ops=true)(h1:LQ P N ops H s=some s1)(h:jM P N ops (qh ops Q r0) L Ch s1):Ex P N ro (.region id ops true) s (Q r0):=by
 intro φ M0 D a w r;refine wpIn_region_any hm (Bq aa WE _ _ _ _ ?_);have hd:Q8 φ (look s.H) w φ (look s.H) { w with drawn:=w.drawn+1 }:=LA rfl rfl rfl rfl;have r1:Zo φ M0 N D (look s.T) (look s.H) a { w with drawn:=w.drawn+1 }:=r.keep hd (Gp rfl) (DF (w:=w) rfl hd r.hp);have J:=hok;simp only[wJ,Z8,Bg] at J;obtain⟨⟨⟨⟨⟨⟨⟨⟨⟨⟨ai,ac⟩,O⟩,Z⟩,ah⟩,af⟩,G⟩,ak⟩,ad⟩,ae⟩,aj⟩:=J;obtain⟨b,rb,hH,W,hJ⟩:=Sz ac H s s1 a _ (Bz H _ O) h1 r1
 have U:∀(j:Nat),(Array.replicate ops.size false).getD j false=false:=by
  intro j;rcases Nat.lt_or_ge j ops.size with h|h
  ·simp[h]
  ·simp[h]
 have Y:∀n,Sq (Array.replicate ops.size false) n≤n:=by
  intro n
  induction n with
 |zero=>simp[Sq]
 |succ n ih=>simp only[Sq];split<;>omega
 have h2:=QbF (D:=D) (φ0:=φ) (h0:=look s.H) (w0:=w) (M0:=M0) hok (Q:=Q r0) (Qh:=qh ops Q r0) (fun _ h=>h) (fun _ _ h=>h) ops.size [] Ch H H (Array.replicate ops.size false) a b { w with drawn:=w.drawn+1 } s1 φ rfl zq (fun i hi _ hc=>absurd hi hc) (fun i hi=>hi) G zq (Y _) (fun j o _ hj=>by rw[U] at hj;cases hj) (fun c hc=>by cases hc) (fun c _=>U c.1)
  ⟨W.1,W.2.1,fun t ht=>W.2.2 t (fun hc=>ht (by obtain⟨i,hi,ab⟩:=hc;exact⟨i,hi,U i,ab⟩))⟩ rb (by rw[hH];exact hd) (fun i hi _=>hJ i hi) h
 refine Xv ?_ _ _ _ _ h2;exact fun e a' w' h=>h
structure OI{R:Type}(a:Option R)(P:Program)(N:Nat)(ops:Array Oper)(Q:R→AX→St→Prop)(L:List Nat)(Ch:List (Nat×List Nat))(s:St):Prop where
 intro ::
 h:∀r,a=some r→jM P N ops (qh ops Q r) L Ch s
def fKh{R:Type}(P:Program)(N:Nat)(ops:Array Oper)(Q:R→AX→St→Prop)(L:List Nat)(Ch:List (Nat×List Nat))(c:Nat)(hs:List Nat):R→St→Prop:=fun r s=>WX P ops (XO ops L c) s∧∃G,LQ P N ops hs s=some G∧jM P N ops (qh ops Q r) L Ch G
section
variable {R V E:Type}{a a1 a2:Option R}{P:Program}{N:Nat}{ro:Option Nat}{id:Nat}{ops:Array Oper}{o:Oper}{s s1 s':St}{Q:R→AX→St→Prop}{f:FuncId}{args args':List AV}{dst:Option Tmp}{L hs:List Nat}{Ch:List (Nat×List Nat)}{c i:Nat}
theorem Yv(H L:List Nat)(Ch:List (Nat×List Nat))(U:P.follows .mixedOrders=true)(G:UC ops=true)(h:OI a P N ops Q L Ch ((LQ P N ops H s).getD s))(hok:wJ H L Ch ops=true:=by kernel_rfl)(O:(LQ P N ops H s).isSome=true:=by kernel_rfl):Q4 a P N ro (.region id ops true) s Q:=by
 obtain⟨s1,e⟩:=Rb.1 O;rw[e] at h;exact⟨fun r J=>Qd8 H L Ch U G hok e (h.h r J)⟩
theorem Qf:WX P ops [] s:=fun i hi=>by cases hi
theorem Qr(J:FX P ops i s)(O:WX P ops L s):WX P ops (i::L) s:=fun j G=>by
 rcases List.mem_cons.1 G with rfl|G
 ·exact J
 ·exact O j G
theorem IC(x:AV)(h:(ops[i]?).bind (fun o=>o.dst.bind fun d=>(Iw P o (look s.T) (look s.H)).bind fun y=>(look s.T d).map fun z=>(y,z))=some (x,x))(Z:aJ (look s.H) x):FX P ops i s:=by
 unfold FX;cases ho:ops[i]? with
|none=>rw[ho] at h;cases h
|some o =>
  rw[ho,Zj] at h;cases hd:o.dst with
 |none=>rw[hd] at h;cases h
 |some d =>
   rw[hd,Zj] at h;obtain⟨y,Y,U⟩:=NS.1 h;obtain⟨z,W,J⟩:=Gn.1 U;simp only[XA] at J;obtain⟨rfl,rfl⟩:=J;dsimp only;rw[hd];split
   ·trivial
   ·rename_i G O;cases G;exact⟨_,Y,W,Z⟩
   ·rename_i G;cases G
theorem QE(x:AV)(G:zR x=true)(h:(ops[i]?).bind (fun o=>o.dst.bind fun d=>(Iw P o (look s.T) (look s.H)).bind fun y=>(look s.T d).map fun z=>(y,z))=some (x,x):=by kernel_rfl):FX P ops i s:=IC x h (.inl G)
theorem Jg{S t ty:Nat}{es:List (List PV)}(hS:Nat.ble 1 S=true)(h:(ops[i]?).bind (fun o=>o.dst.bind fun d=>(Iw P o (look s.T) (look s.H)).bind fun y=>(look s.T d).map fun z=>(y,z))=some (.tsl S es t,.tsl S es t):=by kernel_rfl)(G:look s.H t=some (.arr ty S es.length):=by kernel_rfl):FX P ops i s:=IC _ h (.inr ⟨S,es,t,ty,rfl,G,Nat.le_of_ble_eq_true hS⟩)
theorem V7(h:ZI a Q .normal s):OI a P N ops Q L [] s:=⟨fun r G=>h.h r G⟩
theorem kh(G:List Nat)(J:WX P ops G s)(h:OI a P N ops Q L Ch ((LQ P N ops hs s).getD s))(W:XO ops L c=G:=by kernel_rfl)(U:(LQ P N ops hs s).isSome=true:=by kernel_rfl):Tf a (fKh P N ops Q L Ch c hs) s:=by
 obtain⟨s1,e⟩:=Rb.1 U;rw[e] at h;exact⟨fun r O=>⟨W▸J,s1,e,h.h r O⟩⟩
def LV(P:Program)(N:Nat)(ops:Array Oper)(c:Nat)(s:St):Option St:=(ops[c]?).bind (fun o=>match o.op with|.pick ..=>none|.panic _=>none|.call ⟨.value _,_,_⟩=>none|_=>if KA N o.dst then(Jb P o (look s.T) (look s.H)).map (fun u=>JH s o.dst u) else none)
theorem Yn(Y:List Nat)(W:WX P ops Y ((LV P N ops c s).getD s))(h:OI a P N ops Q L Ch ((LV P N ops c s).getD s))(hL:XO ops L c=Y:=by kernel_rfl)(h0:(LV P N ops c s).isSome=true:=by kernel_rfl):OI a P N ops Q L ((c,[])::Ch) s:=by
 obtain⟨s',G⟩:=Rb.1 h0;rw[G] at W h;simp only[Option.getD_some] at W h;unfold LV at G;refine⟨fun r hr=>?_⟩;simp only[jM];cases ho:ops[c]? with
|none=>rw[ho] at G;cases G
|some o =>
  simp only[ho,Zj] at G ⊢;unfold XG;split at G
  ·cases G
  ·cases G
  ·cases G
  ·rename_i n1 Z n3;split at G;rotate_left
   ·cases G
   rename_i U;obtain⟨u,hu,rfl⟩:=Gn.1 G
   have key:AP N o s (fun s'=>WX P ops (XO ops L c) s'∧∃J,LQ P N ops [] s'=some J∧jM P N ops (qh ops Q r) L Ch J) (Jb P o (look s.T) (look s.H)):=by
    rw[hu];exact⟨U,hL▸W,_,rfl,h.h r hr⟩
   split
   ·rename_i O;exact absurd O (n1 _ _ _)
   ·rename_i O;exact absurd O (Z _)
   ·rename_i O;exact absurd O (n3 _ _ _)
   ·exact .inl key
theorem Kv(h:Ci a P N f args dst s (fKh P N ops Q L Ch c hs) (qh ops Q))(hf:(ops[c]?).bind (fun o=>(Kg (look s.T) o.op).map fun p=>(p.1,p.2,o.dst))=some (f,args,dst):=by kernel_rfl)(hb:Y1 P f=true:=by kernel_rfl):OI a P N ops Q L ((c,hs)::Ch) s:=by
 refine⟨fun r O=>?_⟩;simp only[jM];cases ho:ops[c]? with
|none=>rw[ho] at hf;cases hf
|some o =>
  simp only[ho,Zj] at hf ⊢;obtain⟨⟨f0,G⟩,U,J⟩:=Gn.1 hf;simp only[XA] at J;obtain⟨rfl,rfl,rfl⟩:=J;exact Xu U hb (h.h r O)
theorem wK{v:AV}(s':St)(e:ED ops s=s')(h:ZI a Q (.panic v) s'):ZI a (qh ops Q) (.panic v) s:=by
 subst e;exact⟨fun r G=>h.h r G⟩
theorem PM{b:Bool}{u:KL}(U:List Nat)(W:ops[c]?=some o)(hu:b=true→Jb P o (look s.T) (look s.H)=some u)(Y:b=true→WX P ops U (JH s o.dst u))(h:OI a P N ops Q L Ch (JH s o.dst u))(Z:XO ops L c=U:=by kernel_rfl)(hp:(plain o.op&&KA N o.dst)=true:=by kernel_rfl):OI (cond b a none) P N ops Q L ((c,[])::Ch) s:=by
 cases b with
|false=>exact⟨fun r O=>by cases O⟩
|true =>
  refine⟨fun r O=>?_⟩;simp only[Z8] at hp;simp only[jM,W];unfold XG
  have key:AP N o s (fun s'=>WX P ops (XO ops L c) s'∧∃G,LQ P N ops [] s'=some G∧jM P N ops (qh ops Q r) L Ch G) (Jb P o (look s.T) (look s.H)):=by
   rw[hu rfl];exact⟨hp.2,Z▸Y rfl,_,rfl,h.h r O⟩
  split
  ·rename_i J;rw[J] at hp;cases hp.1
  ·rename_i J;rw[J] at hp;cases hp.1
  ·rename_i J;rw[J] at hp;cases hp.1
  ·exact .inl key
theorem QfI{m:Option V}{k:V→Option R}{X:V→AV}{K:R→St→Prop}(C:List RoC)(hc:∀v,m=some v→Q9 P f args' (.ret (X v)))(G:zQ (look s.H) C args=some args')(hb:(KA N dst&&Y0 args')=true)(O:∀v,flat (X v)=true)(h:∀v,Tf (k v) K (St.put s dst (X v))):Ci (m.bind k) P N f args dst s K Q:=by
 refine⟨fun r W=>?_⟩;obtain⟨v,J,U⟩:=NS.1 W;simp only[Z8] at hb;exact zM (hc v J) (D6 G) hb.2 (Z7 hb.1) ⟨O v,(h v).h r U⟩
end
def FH{K V:Type}(eq:K→K→Bool)(k:K):List (K×V)→Option V|[]=>none|(k',v)::r=>bif eq k k' then some v else FH eq k r
def Ql{K V:Type}(eq:K→K→Bool)(k:K)(v:V):List (K×V)→List (K×V)|[]=>[(k,v)]|(k',v')::r=>bif eq k k' then(k,v)::r else(k',v')::Ql eq k v r
def Qx{K V:Type}(eq:K→K→Bool)(k:K)(z:V)(m:List (K×V)):V:=(FH eq k m).getD z
def Dh{K V:Type}(eq:K→K→Bool)(k:K)(m:List (K×V)):Bool:=(FH eq k m).isSome
def Jq{K V:Type}(ke:K→Value)(ve:V→PV)(m:List (K×V)):List (Value×PV):=m.map fun p=>(ke p.1,ve p.2)
section
variable {P:Program}{o:Oper}{T:Nat→Option AV}{h:QO}{K V:Type}{kt e t:TypeId}{ke:K→Value}{ve:V→PV}{eq:K→K→Bool}
theorem zT(Y:∀k,TJ P kt (ke k)=true)(W:∀a b,eqV P 4 kt (ke a) (ke b)=some (eq a b))(k:K):∀(m:List (K×V)) (i:Nat),
  (∃j,X7 P kt (ke k) i (Jq ke ve m)=some ((FH eq k m).map fun v=>(j,ve v))∧(FH eq k m≠none→∀v,Jq ke ve (Ql eq k v m)=(Jq ke ve m).set (j-i) (ke k,ve v)∧i≤j))∧(FH eq k m=none→∀v,Jq ke ve (Ql eq k v m)=Jq ke ve m++[(ke k,ve v)])
|[],i=>⟨⟨0,rfl,fun h=>absurd rfl h⟩,fun _ v=>rfl⟩
|(k',v')::m,i=>by
  obtain⟨⟨j,h1,Z⟩,h3⟩:=zT Y W k m (i+1);have G:X7 P kt (ke k) i (Jq ke ve ((k',v')::m))=match (if TJ P kt (ke k') then eqV P 4 kt (ke k) (ke k') else none) with|some true=>some (some (i,ve v'))|some false=>X7 P kt (ke k) (i+1) (Jq ke ve m)|none=>none:=rfl
  have J:FH eq k ((k',v')::m)=bif eq k k' then some v' else FH eq k m:=rfl
  have O:∀v,Ql eq k v ((k',v')::m)=bif eq k k' then(k,v)::m else(k',v')::Ql eq k v m:=fun _=>rfl
  rw[Y k',if_pos rfl,W] at G;cases hq:eq k k'
  ·rw[hq] at G J;simp only[hq,Kk] at G J O;rw[J];refine⟨⟨j,by rw[G,h1],fun U v=>?_⟩,fun U v=>?_⟩
   ·obtain⟨g1,g2⟩:=Z U v;refine⟨?_,by omega⟩;rw[O,show Jq ke ve ((k',v')::Ql eq k v m)=(ke k',ve v')::Jq ke ve (Ql eq k v m) from rfl,g1,show Jq ke ve ((k',v')::m)=(ke k',ve v')::Jq ke ve m from rfl,show j-i=(j-(i+1))+1 from by omega];rfl
   ·rw[O,show Jq ke ve ((k',v')::Ql eq k v m)=(ke k',ve v')::Jq ke ve (Ql eq k v m) from rfl,h3 U v];rfl
  ·rw[hq] at G J;simp only[hq,Kj] at G J O;rw[J];refine⟨⟨i,G,fun _ v=>⟨?_,Kz _⟩⟩,fun U=>by cases U⟩;rw[O,Nat.sub_self];rfl
theorem zU{rsv:Option Operand}(J:o.op=.makeMap t none)(G:o.dst=some d)(hb:h d=none):Jb P o T h=some (.mv d,some (d,.mp []),[d]):=by
 simp[Jb,J,TL,G,hb]
theorem ZA{m:List (K×V)}{k:K}{z0:V}(ho:o.op=.lookup t x ix ok)(Z:∀k,TJ P kt (ke k)=true)(he:∀a b,eqV P 4 kt (ke a) (ke b)=some (eq a b))(ht:P.underlying t=some (.map kt e):=by kernel_rfl)(hx:Zp T x=some (.mv b):=by kernel_rfl)(hi:(Zp T ix).bind Ph=some (ke k):=by kernel_rfl)(hb:h b=some (.mp (Jq ke ve m)):=by kernel_rfl)(aa:(P.underlying kt).isSome=true:=by kernel_rfl)(hz:((P.info? e).bind (·.zero)).map Ag=some (avP (ve z0)):=by kernel_rfl):Jb P o T h=some (TM ok (avP (ve (Qx eq k z0 m))) (Dh eq k m),none,[b]):=by
 obtain⟨kv,J,U⟩:=NS.1 hi;obtain⟨kd,O⟩:=Rb.1 aa;obtain⟨z,W,Y⟩:=Gn.1 hz;obtain⟨⟨j,G,h2⟩,h3⟩:=zT (P:=P) (kt:=kt) (ke:=ke) (ve:=ve) (eq:=eq) Z he k m 0;unfold Qx Dh;cases hg:FH eq k m with
|none =>
  rw[hg] at G;simp only[Option.map_none] at G;simp[Jb,R5,ho,JY,ht,hx,J,hb,U,O,Z,G,W,Y]
|some v =>
  rw[hg] at G;simp only[Option.map_some] at G;simp[Jb,R5,ho,JY,ht,hx,J,hb,U,O,Z,G]
theorem YX{m:List (K×V)}{k:K}{v:V}(ho:o.op=.mapUpdate t x ix y)(Z:∀k,TJ P kt (ke k)=true)(he:∀a b,eqV P 4 kt (ke a) (ke b)=some (eq a b))(ht:P.underlying t=some (.map kt e):=by kernel_rfl)(hx:Zp T x=some (.mv b):=by kernel_rfl)(hi:(Zp T ix).bind Ph=some (ke k):=by kernel_rfl)(hy:(Zp T y).bind pvO=some (ve v):=by kernel_rfl)(hb:h b=some (.mp (Jq ke ve m)):=by kernel_rfl)(aa:(P.underlying kt).isSome=true:=by kernel_rfl):Jb P o T h=some (.p (.val undef),some (b,.mp (Jq ke ve (Ql eq k v m))),[b]):=by
 obtain⟨kv,J,U⟩:=NS.1 hi;obtain⟨kd,O⟩:=Rb.1 aa;obtain⟨y0,W,Y⟩:=NS.1 hy;obtain⟨⟨j,G,h2⟩,h3⟩:=zT (P:=P) (kt:=kt) (ke:=ke) (ve:=ve) (eq:=eq) Z he k m 0;cases hg:FH eq k m with
|none =>
  rw[hg] at G;simp only[Option.map_none] at G;rw[h3 hg v];simp[Jb,R5,ho,Va,ht,hx,J,W,Y,hb,U,O,Z,G]
|some v0 =>
  rw[hg] at G;simp only[Option.map_some] at G;rw[(h2 (by rw[hg];simp) v).1];simp[Jb,R5,ho,Va,ht,hx,J,W,Y,hb,U,O,Z,G]
end
section
variable {R V E:Type}{a a1 a2:Option R}{P:Program}{N:Nat}{ro:Option Nat}{ops:Array Oper}{o:Oper}{l:List Oper}{s s' s0 s1:St}{Q:R→AX→St→Prop}{K:R→St→Prop}{f g:FuncId}{args args':List AV}{dst:Option Tmp}
def iR(hc:List (Nat×Blk))(ρ:Nat→Nat)(s:St)(dst:Option Tmp)(K:R→St→Prop)(Q:R→AX→St→Prop)(r:R):Ku→QO→Prop:=fun x h'=>∃hc',h'=look hc'∧G5 ρ hc hc' s.H∧eZ (K r) (Q r) s dst ρ hc' x
def dI(P:Program)(fn:Func)(hc:List (Nat×Blk))(N:Nat)(g:FuncId)(G:List (Nat×Nat))(ρ:Nat→Nat)(s:St)(dst:Option Tmp)(K:R→St→Prop)(Q:R→AX→St→Prop):R→AX→St→Prop :=fun r=>fG P fn hc N g (LH G) (iR hc ρ s dst K Q r)
def fM(T:List (Nat×AV)):List Tmp→List (Nat×Nat)→Bool
|[],[]=>true
|t::ts,p::L=>(match look T t with|some (.ptr b 0)=>b==p.1|_=>false)&&fM T ts L
|_,_=>false
theorem IE{T:List (Nat×AV)}:∀{ts:List Tmp} {L:List (Nat×Nat)},fM T ts L=true→ts.map (look T)=L.map fun p=>some (.ptr p.1 0)
|[],[],_=>rfl
|[],_::_,h=>by cases h
|_::_,[],h=>by cases h
|t::ts,p::L,h=>by
  simp only[fM,Z8] at h;simp only[WV,List.cons.injEq];refine⟨?_,IE h.2⟩;have G:=h.1;split at G
  ·rename_i b J;rw[J,eq_of_beq G]
  ·cases G
def QbG:List (Nat×Blk)→Bool
|[]=>true
|(_,k)::l=>(match k.ob with|none=>true|some .mp=>true|_=>false)&&QbG l
theorem wL{ρ:Nat→Nat}:∀{H:List (Nat×Blk)},QbG H=true→∀c k x,look H c=some k→k.ob=some x→(some x).map (xY ρ)=some x
|[],_,c,k,x,G,_=>by simp[look] at G
|(b,k0)::H,J,c,k,x,G,O=>by
  simp only[QbG,Z8] at J;simp only[look] at G;by_cases e:b=c
  ·simp only[e,if_true,Q0] at G;subst G;have U:=J.1;rw[O] at U;cases x with
  |mp=>rfl
  |lp=>cases U
  ·rw[if_neg e] at G;exact wL J.2 c k x G O
def aL(tbs:List Tmp)(G:List (Nat×Nat))(s:St):Bool:=fM s.T tbs G&&QdZ G s.H&&QbG s.H
theorem BB(L:List (Nat×Nat))(C:List Conv)(cb:List (Nat×List Conv))(F:LJ fn g)(J:List (Nat×Nat))(hf:P.funcs[f]?=some fn)(hn:fn.ntmps=n)(hl:Nat.ble args'.length n=true)(G:ER C args=VW (Vq L) args')(hok:Je N dst (Vq L) hc args'=true)(hsub:LP s.H (Vq L) cb hc=hc.map (fun p=>some (Kq (Vq L) p.2)))(Y:Y1 P g=true)(hm:P.follows .mixedOrders=true){ops:Array Oper}(W:F.r1=.region id ops false)(h1:(TY P n ops false ⟨Jc 0 args',hc⟩).isSome=true)(O:aL F.tbs J (EB P n ops false ⟨Jc 0 args',hc⟩)=true)(h:Q4 a P n none F.rest ⟨(F.tc,.fn (.func g) [] (LH J))::sgT J (EB P n ops false ⟨Jc 0 args',hc⟩).T,wy J (EB P n ops false ⟨Jc 0 args',hc⟩).H⟩ (dI P fn hc n g J (Vq L) s dst K Q)):Ci a P N f args dst s K Q:=by
 subst hn;refine⟨fun r hr=>?_⟩;obtain⟨s1,U⟩:=Rb.1 h1;have e:EB P fn.ntmps ops false ⟨Jc 0 args',hc⟩=s1:=by simp[EB,U]
 rw[e] at O h;simp only[aL,Z8] at O;simp only[Je,Z8] at hok;obtain⟨⟨⟨⟨k1,k2⟩,k3⟩,k4⟩,k5⟩:=hok
 have hA:YV P f args' (look hc) (iR hc (Vq L) s dst K Q r):=by
  refine zO F J hf (Nat.le_of_ble_eq_true hl) Y ?_;rw[W];exact PH hm U ⟨rfl,IE O.1.1,O.1.2,wL O.2,h.h r hr⟩
 refine Bt (Vq L) hA (G▸XK C args) k2 (fun c hc=>by simpa using X5.1 k3 c hc) (LM k4) (Uo hsub) (Un k5) (Z7 k1) ?_;rintro x h' ⟨hc',rfl,hd,Z⟩;refine⟨hc',KD (Vq L) hc' s.H,rfl,hd,fun _=>rfl,?_⟩;cases x with
|ret x=>exact Z
|panic x=>exact Z
def clQ(P:Program)(U:Func)(G:List (Nat×Blk))(O:Nat→Nat)(s:St)(J:R→AX→St→Prop):R→AX→St→Prop :=
 fun r=>QcV P U G (fun x h'=>∃hc',h'=look hc'∧G5 O G hc' s.H∧(match x with|.ret _=>J r .ret ⟨s.T,KD O hc' s.H⟩|.panic _=>False))
def QfJ:AX→AV|.panic v=>v|_=>xZ
def QhL:AX→Bool|.exit _=>true|_=>false
theorem JI{Z:List (Nat×Nat)}{x:AX}(Y:KN P g)(U:List (Nat×Nat))(J:List (Nat×Blk))(O:AV)(G:List AV)(cb:List (Nat×List Conv))(hx:QhL x=false)(h:Q4 a P Y.fn.ntmps none Y.rest ⟨(Y.d2,O)::(Y.d1,O)::Jc 0 G,J⟩ (clQ P Y.fn J (Vq U) s (wG P fn hc ρ s0 dst K Q)))(hl:Nat.ble G.length Y.fn.ntmps=true:=by kernel_rfl)(W:QfJ x::LH Z=VW (Vq U) (O::G):=by kernel_rfl)(hok:Je N none (Vq U) J (O::G)=true:=by kernel_rfl)(hsub:LP s.H (Vq U) cb J=J.map (fun p=>some (Kq (Vq U) p.2)):=by kernel_rfl):ZI a (dI P fn hc N g Z ρ s0 dst K Q) x s:=by
 refine⟨fun r hr=>?_⟩;simp only[Je,Z8] at hok;obtain⟨⟨⟨⟨k1,k2⟩,k3⟩,k4⟩,k5⟩:=hok
 have key:DEx P N g (QfJ x::LH Z) s (EP P fn hc (iR hc ρ s0 dst K Q r)):=by
  refine pQ (Vq U) (ww Y (Nat.le_of_ble_eq_true hl) (h.h r hr)) (by rw[W];exact vY _) k2 (fun c hc=>by simpa using X5.1 k3 c hc) (LM k4) (Uo hsub) (Un k5) ?_;rintro y h' ⟨hc',rfl,hd,hk⟩;refine⟨hc',KD (Vq U) hc' s.H,rfl,hd,fun _=>rfl,?_⟩;cases y with
 |ret y=>exact hk
 |panic y=>exact hk
 cases x with
|normal=>exact key
|ret=>exact key
|panic v=>exact key
|exit i=>cases hx
theorem aM{U:Func}{O:List (Nat×Blk)}{G:Nat→Nat}{J:R→AX→St→Prop}{x:AX}(W:x=.ret∨x=.normal)(bs:List Nat)(cb:List (Nat×List Conv))(h:TT P U (look s1.T) (look s1.H)=some (.tup []))(hok:T9 G O (Yu cb s1.H bs) s (.tup [])=true)(Y:ZI a J .ret ⟨s.T,KD G (Yu cb s1.H bs) s.H⟩):ZI a (clQ P U O G s J) x s1:=by
 simp only[T9,CR,Z8] at hok;refine⟨fun r Z=>?_⟩
 have:EP P U O (fun x h'=>∃hc',h'=look hc'∧G5 G O hc' s.H∧(match x with|.ret _=>J r .ret ⟨s.T,KD G hc' s.H⟩|.panic _=>False)) s1 :=
  ⟨_,_,Yu cb s1.H bs,h,le_refl _,hok.1.1.1,Vh hok.1.1.2,hok.1.2,_,rfl,XM hok.2,Y.h r Z⟩
 rcases W with rfl|rfl<;>exact this
theorem aN{U:Func}{O:List (Nat×Blk)}{G:Nat→Nat}{J:R→AX→St→Prop}(bs:List Nat)(cb:List (Nat×List Conv))(h:TT P U (look s1.T) (look s1.H)=some (.tup []))(hok:T9 G O (Yu cb s1.H bs) s (.tup [])=true)(W:ZI a J .ret ⟨s.T,KD G (Yu cb s1.H bs) s.H⟩):ZI a (clQ P U O G s J) .ret s1:=aM (.inl rfl) bs cb h hok W
theorem Nc{U:Func}{O:List (Nat×Blk)}{G:Nat→Nat}{J:R→AX→St→Prop}(bs:List Nat)(cb:List (Nat×List Conv))(W:ZI a J .ret ⟨s.T,KD G (Yu cb s1.H bs) s.H⟩)(h:TT P U (look s1.T) (look s1.H)=some (.tup []):=by kernel_rfl)(hok:T9 G O (Yu cb s1.H bs) s (.tup [])=true:=by kernel_rfl):ZI a (clQ P U O G s J) .normal s1:=aM (.inr rfl) bs cb h hok W
end
section
variable {R V:Type}{a a1 a2:Option R}{P:Program}{N:Nat}{ro:Option Nat}{c:Code}{s s' s1:St}{Q:R→AX→St→Prop}
def rdV(P:Program)(N:Nat)(ro:Option Nat)(c:Code):Nat→(AX→St→Prop)→AX→St→Prop|0,Q=>andThen (fun _=>False) Q|k+1,Q=>andThen (fun s'=>Ex P N ro c s' (rdV P N ro c k Q)) Q
def rdU(P:Program)(N:Nat)(ro:Option Nat)(c:Code)(k:Nat)(Q:R→AX→St→Prop):R→AX→St→Prop:=fun r=>rdV P N ro c k (Q r)
theorem bE{Q:AX→St→Prop}:∀(k:Nat) (s:St) (φ:Nat→Nat) (a:Act) (w:World),Ex P N ro c s (rdV P N ro c k Q)→Zo φ M0 N D (look s.T) (look s.H) a w→Q8 φ0 h0 w0 φ (look s.H) w →
  Code.roundsIn (wd ro) 0 P c (Post N D Q φ0 M0 h0 w0) (k+1) a w:=by
 intro k
 induction k with
|zero =>
  intro s φ a w h r E;rw[roundsIn_succ];refine wpIn_mono (h φ M0 D a w r) ?_;rintro e W w' ⟨φ',x,s',J,r',O,G⟩;cases x with
 |normal=>exact J.elim
 |ret=>simp only[XF] at G;subst G;exact⟨φ',.ret,s',J,r',E.trans O,rfl⟩
 |exit i=>simp only[XF] at G;subst G;exact⟨φ',.exit i,s',J,r',E.trans O,rfl⟩
 |panic p=>obtain⟨v,rfl,U⟩:=G;exact⟨φ',.panic p,s',J,r',E.trans O,v,rfl,U⟩
|succ k Y =>
  intro s φ a w h r E;rw[roundsIn_succ];refine wpIn_mono (h φ M0 D a w r) ?_;rintro e W w' ⟨φ',x,s',J,r',O,G⟩;cases x with
 |normal=>simp only[XF] at G;subst G;exact Y s' φ' W w' J r' (E.trans O)
 |ret=>simp only[XF] at G;subst G;exact⟨φ',.ret,s',J,r',E.trans O,rfl⟩
 |exit i=>simp only[XF] at G;subst G;exact⟨φ',.exit i,s',J,r',E.trans O,rfl⟩
 |panic p=>obtain⟨v,rfl,U⟩:=G;exact⟨φ',.panic p,s',J,r',E.trans O,v,rfl,U⟩
theorem uu:Q8 φ h w φ h w:=LA rfl rfl rfl rfl
theorem KH(k:Nat)(h:Q4 a P N ro c s (rdU P N ro c k Q)):Q4 a P N ro (.loop c) s Q :=
 ⟨fun r J φ M0 D a w G=>wpIn_loop_rounds (k+1) (bE k s φ a w (h.h r J) G uu)⟩
theorem BC(K:HZ)(s':St){k:Nat}(h:Q4 a P N ro c s' (rdU P N ro c k Q))(hw:G6 K s=some s':=by kernel_rfl):ZI a (rdU P N ro c (k+1) Q) .normal s:=⟨fun r G=>(sP (Q:=rdU P N ro c k Q) K s' hw h).h r G⟩
theorem Cj{k:Nat}(h:ZI a Q (.exit i) s):ZI a (rdU P N ro c k Q) (.exit i) s:=⟨fun r G=>by cases k<;>exact h.h r G⟩
theorem QfK{k:Nat}(h:ZI a Q (.panic p) s):ZI a (rdU P N ro c k Q) (.panic p) s:=⟨fun r G=>by cases k<;>exact h.h r G⟩
end
def bF(M:ZM)(k:Nat):ZM:=fun r o=>M r o∨r=k
theorem PN(φ:Nat→Nat)(h:QO)(w:World):YZ φ h w φ h w:=Gp rfl
theorem aO{J:ZM}(hs:∀r o,M0 r o→J r o)(r:Zo φ J N D T h a w):Zo φ M0 N D T h a w:=by
 have U:∀r o v,w.cell? ⟨r,o,none⟩=some v→¬MM φ h J r o→w.cell? ⟨r,o,none⟩=some v∧¬MM φ h M0 r o:=fun r o v hc G=>⟨hc,fun x=>G (x.imp id (hs r o))⟩
 exact⟨r.dfs,r.siz,⟨r.hp.inj,fun b k hb=>Z4 U (PN φ h w) rfl (r.hp.blk b k hb),fun b hb o G=>r.hp.fr b hb o (hs _ _ G),fun x o W=>r.hp.lt x o (hs _ _ W),r.hp.gm.sub fun x o G=>G.imp id (hs x o)⟩,
  fun t x O=>⟨(r.tm t x O).1,(QH U (PN φ h w)).1 _ _ (r.tm t x O).2⟩⟩
theorem bG{O:ZM}{e:Exit}{G:Act}(hs:∀r o,M0 r o→O r o)(p:Post N D Q φ O h w e G w'):Post N D Q φ M0 h w e G w':=by
 obtain⟨φ',x,s',Z,W,h3,J⟩:=p;refine⟨φ',x,s',Z,aO hs W,h3,?_⟩;cases x with
|panic v =>
  obtain⟨u,e1,U⟩:=J;exact⟨u,e1,(QH (fun r o v hc Y=>⟨hc,fun x=>Y (x.imp id (hs r o))⟩) (PN _ _ _)).1 _ _ U⟩
|_=>exact J
theorem qG{ob:Obj}(r:ZQ φ h w M0)(Z:Clear φ h w 1):Q8 φ h w φ h (w.alloc ob)∧YZ φ h w φ h (w.alloc ob):=by
 have G:∀x,x<w.heap.size→(w.alloc ob).heap[x]?=w.heap[x]?:=fun x U=>by show(w.heap.push ob)[x]?=_;rw[Array.getElem?_push,if_neg zo]
 have hs:(w.alloc ob).heap.size≤w.heap.size+1:=by show(w.heap.push ob).size≤_;simp
 have O:∀b k,h b=some k→(w.alloc ob).heap[φ b]?=w.heap[φ b]?:=fun b k hb=>Z.lt r hs G (by rw[hb];simp)
 refine⟨⟨rfl,rfl,rfl,by show _≤(w.heap.push ob).size;simp,fun x U _=>G x U,fun x o U _=>by simp[World.cell?,G x U],fun _ _ _ x=>x,fun _ _ _ _ x=>⟨⟨_,x⟩,rfl⟩,?_,?_,fun _ _ _ _ Y W=>⟨⟨_,Y,W⟩,rfl⟩⟩,?_,?_,?_,fun _ _ _ Y W=>⟨⟨_,Y,W⟩,rfl⟩⟩
 ·exact fun t ty S n _ hc=>⟨n,hc,Kz _,fun _=>Yy rfl (O _ _ hc)⟩
 ·exact fun t ty S n _ hc=>⟨n,hc,Kz _,fun _=>⟨rfl,fun c J=>⟨c,by rw[O _ _ hc];exact J,rfl⟩⟩⟩
 ·exact fun b ty cs hc=>⟨⟨ty,cs,hc⟩,rfl⟩
 ·exact fun t ty S n hc=>⟨n,hc,Kz _,fun _=>Yy rfl (O _ _ hc)⟩
 ·exact fun t ty S n hc=>⟨n,hc,Kz _,fun _=>⟨rfl,fun c J=>⟨c,by rw[O _ _ hc];exact J,rfl⟩⟩⟩
theorem bH{b:Act}{ob:Obj}{d:Tmp}(r:Zo φ M0 N D T h b w)(hT:T d=none)(Z:Clear φ h w 1):Zo φ (bF M0 w.heap.size) N D T h (b.put (some d) v) (w.alloc ob):=by
 obtain⟨E,X⟩:=qG (ob:=ob) r.hp Z
 have hk:∀x o u,w.cell? ⟨x,o,none⟩=some u→¬MM φ h M0 x o→(w.alloc ob).cell? ⟨x,o,none⟩=some u∧¬MM φ h (bF M0 w.heap.size) x o:=by
  intro x o u hc G;have O:=DD hc;obtain⟨h1,h2⟩:=E.keeps M0 x o u hc G;refine⟨h1,fun J=>?_⟩;rcases J with J|J|J
  ·exact G (.inl J)
  ·exact G (.inr J)
  ·omega
 have U:∀x,x<w.heap.size→(w.alloc ob).heap[x]?=w.heap[x]?:=fun x O=>by show(w.heap.push ob)[x]?=_;rw[Array.getElem?_push,if_neg zo]
 refine⟨r.dfs.keep E,by simp[Act.put,r.siz],⟨r.hp.inj,fun c k hb=>Z4 hk X (Z.lt r.hp (w':=w.alloc ob) (by show(w.heap.push ob).size≤_;simp) U (by rw[hb];simp)) (r.hp.blk c k hb),?_,?_,(r.hp.gm.evol E).w,fun g W o G=>G.elim (fun G=>r.hp.gm.m g W o (.inl G)) (fun G=>G.elim (fun G=>r.hp.gm.m g W o (.inr G)) (fun e=>by have:=zi r.hp.gm.w g W;omega))⟩,?_⟩
 ·intro c hc o G;rcases G with G|G
  ·exact r.hp.fr c hc o G
  ·rcases Z c hc with h1|h1<;>omega
 ·intro x o O;show x<(w.heap.push ob).size;rw[Array.size_push];rcases O with O|O
  ·have:=r.hp.lt x o O;omega
  ·omega
 ·intro t x Y;refine⟨(r.tm t x Y).1,?_⟩;have hne:¬d=t:=fun e=>by rw[e,Y] at hT;cases hT
  have:(b.put (some d) v).tmps.getD t undef=b.tmps.getD t undef:=by simp[Act.put,Array.getElem?_setIfInBounds_ne hne]
  rw[this];exact(QH hk X).1 _ _ (r.tm t x Y).2
theorem uw{b:Act}{k ty:Nat}{i:TypeInfo}{u:KL}(r:Zo φ (bF M0 k) N D (look s.T) (look s.H) b w)(E:Q8 φ0 h0 w0 φ (look s.H) w)(af:w0.heap.size≤k)(ae:∀x,¬M0 k x)(ad:o.op=.alloc ty)(hd:o.dst=some d)(hi:P.info? ty=some i)(hz:i.zero=some z)(hN:d<N)(hb:b.tmps[d]?=some (.pointer (some ⟨k,0,none⟩)))(hw:w.heap[k]?=some (.cells z.cells ty (0,0)))(hu:Jb P o (look s.T) (look s.H)=some u) :
  Zo (Qy φ d k) M0 N D (look (JH s o.dst u).T) (look (JH s o.dst u).H) b w∧Q8 φ0 h0 w0 (Qy φ d k) (look (JH s o.dst u).H) w:=by
 simp only[Jb,ad,hi,hz,Ou,hd] at hu;cases hcs:cellsOf (Ag z) with
|none=>rw[hcs] at hu;cases hu
|some cs =>
  rw[hcs] at hu;dsimp only at hu;cases hn:look s.H d with
 |some x=>rw[hn] at hu;cases hu
 |none =>
   rw[hn] at hu;dsimp only at hu;cases hu;have hT:∀t,look (JH s o.dst (.ptr d 0,some (d,.box ty cs),[d])).T t=if d=t then some (.ptr d 0) else look s.T t:=fun t=>by simp[JH,hd,look]
   have hH:look (JH s o.dst (.ptr d 0,some (d,.box ty cs),[d])).H=upd (look s.H) d (.box ty cs):=by funext c;simp[JH,look,upd]
   rw[hH];have hne:∀c q,look s.H c=some q→¬d=c:=fun c q hc e=>by rw[e] at hn;rw[hn] at hc;cases hc
   have Y:∀c,look s.H c≠none→φ c≠k:=fun c hc e=>r.hp.fr c hc 0 (.inr e)
   have aa:∀x y,MM (Qy φ d k) (upd (look s.H) d (.box ty cs)) M0 x y→MM φ (look s.H) (bF M0 k) x y:=by
    rintro x y (⟨c,q,G,J,O⟩|h)
    ·by_cases e:d=c
     ·simp only[Qy,e,if_true] at J;exact .inr (.inr J.symm)
     ·simp only[upd,Qy,e,if_false] at G J;exact .inl ⟨c,q,G,J,O⟩
    ·exact .inr (.inl h)
   have X:YZ φ (look s.H) w (Qy φ d k) (upd (look s.H) d (.box ty cs)) w:=by
    refine⟨fun c W cs' hc=>?_,fun t W S n hc=>?_,fun t W S n hc=>?_,fun c k' x hc ho=>?_⟩
    ·have:=hne c _ hc;exact⟨⟨W,cs',by simp[upd,this,hc]⟩,by simp[Qy,this]⟩
    ·have:=hne t _ hc;exact⟨n,by simp[upd,this,hc],Kz _,fun _=>Yy (by simp[Qy,this]) rfl⟩
    ·have:=hne t _ hc;exact⟨n,by simp[upd,this,hc],Kz _,fun _=>⟨by simp[Qy,this],fun c ab=>⟨c,ab,rfl⟩⟩⟩
    ·have:=hne c _ hc;exact⟨⟨k',by simp[upd,this,hc],ho⟩,by simp[Qy,this]⟩
   have Z:∀x y v,w.cell? ⟨x,y,none⟩=some v→¬MM φ (look s.H) (bF M0 k) x y→w.cell? ⟨x,y,none⟩=some v∧¬MM (Qy φ d k) (upd (look s.H) d (.box ty cs)) M0 x y:=fun x y v hc hm=>⟨hc,fun hh=>hm (aa x y hh)⟩
   refine⟨⟨?_,r.siz,⟨?_,?_,?_,fun x y hx=>r.hp.lt x y (.inl hx),r.hp.gm.sub aa⟩,?_⟩,?_⟩
   ·obtain⟨g0,ms,g1,g2,g3⟩:=r.dfs;refine⟨g0,ms,g1,g2,fun x hx=>?_⟩;obtain⟨g4,g5,g6⟩:=g3 x hx;refine⟨g4,g5,fun c hc e=>?_⟩;by_cases ec:d=c
    ·simp only[Qy,ec,if_true] at e;rw[←e,hw] at g5;cases g5
    ·simp only[upd,Qy,ec,if_false] at hc e;exact g6 c hc e
   ·intro c c' hc hc' e;by_cases e1:d=c<;>by_cases e2:d=c'
    ·exact e1.symm.trans e2
    ·simp only[Qy,e1,if_true] at e;have e3:¬c=c':=fun x=>e2 (e1.trans x)
     simp only[e3,if_false] at e;simp only[upd,e2,if_false] at hc';exact absurd e.symm (Y c' hc')
    ·simp only[Qy,e2,if_true] at e;have e3:¬c'=c:=fun x=>e1 (e2.trans x)
     simp only[e3,if_false] at e;simp only[upd,e1,if_false] at hc;exact absurd e (Y c hc)
    ·simp only[upd,Qy,e1,e2,if_false] at hc hc' e;exact r.hp.inj c c' hc hc' e
   ·intro c q hc;by_cases e:d=c
    ·have J:q=.box ty cs:=by simp only[upd,e,if_true,Q0] at hc;exact hc.symm
     have O:Qy φ d k c=k:=by simp[Qy,e]
     rw[J,O];exact⟨z.cells,hw,(QH Z X).2 _ _ (Vo hcs (WC z)).1⟩
    ·have G:look s.H c=some q:=by simpa [upd,e] using hc
     have O:Qy φ d k c=φ c:=by simp[Qy,e]
     rw[O];exact Z4 Z X rfl (r.hp.blk c q G)
   ·intro c hc y hm;by_cases e:d=c
    ·have O:Qy φ d k c=k:=by simp[Qy,e]
     rw[O] at hm;exact ae _ hm
    ·have O:Qy φ d k c=φ c:=by simp[Qy,e]
     rw[O] at hm;exact r.hp.fr c (by simpa [upd,e] using hc) y (.inl hm)
   ·intro t x U;rw[hT] at U;by_cases e:d=t
    ·simp only[e,if_true,Q0] at U;subst U;refine⟨e▸hN,?_⟩;subst e;rw[Array.getD_eq_getD_getElem?,hb];simp only[Qe,Option.getD_some];exact⟨by simp[Qy],ty,cs,by simp[upd]⟩
    ·simp only[e,if_false] at U;exact⟨(r.tm t x U).1,(QH Z X).1 _ _ (r.tm t x U).2⟩
   ·refine⟨E.os,E.tape,E.output,E.size,E.same,E.cell,?_,?_,?_,?_,?_⟩
    ·rintro x y hx ⟨c,q,G,J,O⟩;by_cases e:d=c
     ·simp only[Qy,e,if_true] at J;omega
     ·simp only[upd,Qy,e,if_false] at G J;exact E.mu x y hx ⟨c,q,G,J,O⟩
    ·intro c W cs' hc hb;obtain⟨⟨ac,G⟩,J⟩:=E.kb c W cs' hc hb;have:=hne c _ G;exact⟨⟨ac,by simp[upd,this,G]⟩,by simp[Qy,this,J]⟩
    ·intro t W S n U hb;obtain⟨n',G,J,O⟩:=E.kt t W S n U hb;have:=hne t _ G;exact⟨n',by simp[upd,this,G],J,fun e=>(by simpa [Qy,this] using O e)⟩
    ·intro t W S n U hb;obtain⟨n',G,J,O⟩:=E.kv t W S n U hb;have:=hne t _ G;exact⟨n',by simp[upd,this,G],J,fun e=>⟨by simp[Qy,this,(O e).1],(O e).2⟩⟩
    ·intro c k' x hc hb ho;obtain⟨⟨k2,G,J⟩,O⟩:=E.ko c k' x hc hb ho;have:=hne c _ G;exact⟨⟨k2,by simp[upd,this,G],J⟩,by simp[Qy,this,O]⟩
def jN(P:Program)(N:Nat)(ops:Array Oper)(Q:AX→St→Prop)(H:List Nat)(q d:Nat):List Nat→St→Prop
|[],s=>Q .normal s
|c::rest,s=>match ops[c]? with
 |some o=>if c=q then(∃u,KA N o.dst=true∧Jb P o (look s.T) (look s.H)=some u∧WX P ops (XO ops H c) (JH s o.dst u)∧jN P N ops Q H q d rest (JH s o.dst u))
   else XG P N o s (fun s'=>WX P ops (XO ops H c) s'∧(q∈rest→look s'.T d=none)∧jN P N ops Q H q d rest s') Q
 |none=>False
def PO(ops:Array Oper)(q:Nat):List Nat→Bool|c::c'::r=>(c != q||(ops[c']?).any (waits · q))&&PO ops q (c'::r)|_=>true
def QbH(ops:Array Oper)(H G:List Nat):Bool :=
 H.all (fun i=>match ops[i]? with|some o=>(match o.op with|.move _=>true|_=>false)&&G.all (fun c=>match (ops[c]?).bind (·.dst) with|some e=>!(o.looksAt ops).contains e|none=>true)||!(match o.op with|.move _=>true|_=>false)|none=>false)
def Nh(P:Program)(N:Nat)(H:List Nat)(q d:Nat)(G:List Nat)(ops:Array Oper):Bool :=
 (List.range ops.size).all (fun i=>H.contains i||G.contains i)&&Region.noSelect ops&&LU ops H&&chainOk ops (G.filter (· != q))&&decide G.Nodup&&H.all (fun i=>!G.contains i) &&
 H.all (fun i=>G.all fun c=>!Jf ops.size ops i c)&&ops.toList.all (fun o=>o.guard.isNone)&&Gs 0 ops.toList &&
 H.all (fun i=>match (ops[i]?).bind (·.dst) with
 |some d=>(List.range ops.size).all fun j=>i==j||(match ops[j]? with|some J=>J.dst != some d&&(waits J i||!(J.looksAt ops).contains d)|none=>true)
 |none=>false)&&QbH ops H G&&PO ops q G&&decide (d<N) &&
 G.all (fun c=>c==q||(match ops[c]? with|some o=>o.dst != some d|none=>false)) &&
 (match ops[q]? with
 |some o=>o.dst==some d&&(match o.op with|.alloc ty=>(match P.info? ty with|some i=>i.zero.isSome|none=>false)|_=>false)
 |none=>false)
theorem EE{ops:Array Oper}{q:Nat}:∀(G:List Nat) (c':Nat) (l2:List Nat),PO ops q (G++q::c'::l2)=true→(ops[c']?).any (waits · q)=true
|[],c',l2,h=>by
  simp only[List.nil_append,PO,Z8,bne_self_eq_false,Bool.false_or] at h;exact h.1
|[x],c',l2,h=>by
  simp only[List.cons_append,List.nil_append,PO,Z8,bne_self_eq_false,Bool.false_or] at h;exact h.2.1
|x::y::G,c',l2,h=>by
  simp only[List.cons_append,PO,Z8] at h;exact EE (y::G) c' l2 h.2
theorem bI{b Z:Act}{Y:Oper}(W:FX P ops i s)(aa:ops[i]?=some Y)(ab:Y.dst=some d)(r':Zo φ M0 N D (look s.T) (look s.H) Z w')(hv:Z.tmps[d]?=some v)(J:(execOp b.eval Y).run P w=.ok (.value v) w)(hm:∀x,Y.op=.move x→Z.eval x=b.eval x):(execOp Z.eval Y).run P w'=.ok (.value v) w':=by
 unfold FX at W;simp only[aa] at W;split at W
 ·rename_i x d' G O
  have U:b.eval x=v:=by
   simp[execOp,G] at J;exact J
  simp[execOp,G,hm x G,U]
 ·rename_i d' O G;obtain⟨x,h2,h3,h4⟩:=W;obtain⟨v',h5,h6⟩:=Iy r' h2;rw[ab] at O;cases O;have h7:=(r'.tm d x h3).2;rw[Array.getD_eq_getD_getElem?,hv] at h7;have:=qE h4 h6 h7;rw[h5,this];rfl
 ·cases W
theorem aP{Qh:AX→St→Prop}{H Cs:List Nat}{q:Nat}(hok:Nh P N H q d Cs ops=true)(dw:∀s,Qh .normal s→Q .normal s)(el:∀v s,Qh (.panic v) s→Q (.panic v) (ED ops s)) :
  ∀(af:Nat) (done ch:List Nat) (listed:Array Bool) (a b:Act) (w:World) (s:St) (φ:Nat→Nat) (M1:ZM),Cs=done++ch→listed.size=ops.size→Sq listed ops.size≤af →
   (∀(j:Nat) o,ops[j]?=some o→listed.getD j false=true→∀e∈o.after,Region.binds .any e=true→listed.getD e.on false=true) →
   (∀c∈done,listed.getD c false=true)→(∀c∈ch,c≠q→listed.getD c false=false)→Agree (JR ops H listed) a b→Zo φ M1 N D (look s.T) (look s.H) b w→Q8 φ0 h0 w0 φ (look s.H) w →
   (∀i∈H,listed.getD i false=false→∃o d v,ops[i]?=some o∧o.dst=some d∧b.tmps[d]?=some v∧(execOp b.eval o).run P w=.ok (.value v) w) →
   (q∈ch→look s.T d=none∧∀i∈H,listed.getD i false=false→FX P ops i s) →
   (((q∈ch→listed.getD q false=false)∧M1=M0)∨(q∈ch∧listed.getD q false=true∧ch.head?≠some q∧∃k o ty i z,M1=bF M0 k∧ops[q]?=some o∧o.op=.alloc ty∧o.dst=some d∧P.info? ty=some i∧i.zero=some z∧b.tmps[d]?=some (.pointer (some ⟨k,0,none⟩))∧w.heap[k]?=some (.cells z.cells ty (0,0))∧w0.heap.size≤k∧∀x,¬M0 k x)) →
   jN P N ops Qh H q d ch s→wpAny P .any ops (Post N D Q φ0 M0 h0 w0) af listed a w:=by
 simp only[Nh,Z8,Bg] at hok;obtain⟨⟨⟨⟨⟨⟨⟨⟨⟨⟨⟨⟨⟨⟨c6,ek⟩,cn⟩,br⟩,aw⟩,b2⟩,bt⟩,dy⟩,cq⟩,bx⟩,dv⟩,b0⟩,c1⟩,cr⟩,ab⟩:=hok;have bq:∀(listed:Array Bool) (i:Nat),i<listed.size→listed.getD i true=listed.getD i false:=fun listed i hi=>by simp[hi]
 have b1:∀(X:Tmp→Prop) (a b:Act),Agree X a b→(∀t,X t→t∈BA ops)→∀c w,Post N D Qh φ0 M0 h0 w0 (.panic c) b w→Post N D Q φ0 M0 h0 w0 (.panic c) a w:=by
  rintro X a b Z hX c w' ⟨φ',x,s',g1,g2,g3,g4⟩;cases x with
 |normal=>cases g4
 |exit i=>cases g4
 |ret=>cases g4
 |panic v=>exact⟨φ',.panic v,ED ops s',el _ _ g1,qF Z hX g2,g3,g4⟩
 have b4:∀a w,¬Post N D Qh φ0 M0 h0 w0 .outgrown a w:=fun a w h=>WE ⟨a,w,h⟩
 have c4:∀(Hv:List Nat) (listed:Array Bool) (t:Tmp),JR ops Hv listed t→t∈BA ops:=by
  rintro Hv listed t ⟨i,_,_,hd⟩;cases O:ops[i]? with
 |none=>rw[O] at hd;cases hd
 |some o =>
   rw[O] at hd;exact List.mem_filterMap.2 ⟨o,by have:=Array.mem_of_getElem? O;simpa using this,hd⟩
 have eg:∀(j:Nat) o,ops[j]?=some o→o.guard=none:=by
  intro j o O;have:=X5.1 dy o (by have:=Array.mem_of_getElem? O;simpa using this);simpa using this
 have bw:∀(listed:Array Bool),listed.size=ops.size→Region.ready .any ops listed=[]→∀i,i<ops.size→listed.getD i false=true:=by
  intro listed aj hr i
  induction i using Nat.strongRecOn with
 |_ i ih =>
   intro hi;cases hq:listed.getD i false with
  |true=>rfl
  |false =>
    have:i∈Region.ready .any ops listed:=by
     rw[mem_ready];refine⟨by rw[bq listed i zo];exact hq,ops[i],Array.getElem?_eq_getElem hi,fun e he hb=>?_⟩;have G:=V5 cq i ops[i] (by simp[hi]) e he hb;exact ih e.on zo zo
    rw[hr] at this;cases this
 have bz:∀(listed:Array Bool) (ch:List Nat) (a b:Act) (w:World) (s:St) (φ:Nat→Nat) (M1:ZM),(∀i,i<ops.size→listed.getD i false=true)→(∀c∈ch,c≠q→listed.getD c false=false)→Agree (JR ops H listed) a b →
   Zo φ M1 N D (look s.T) (look s.H) b w→Q8 φ0 h0 w0 φ (look s.H) w→(((q∈ch→listed.getD q false=false)∧M1=M0)∨(q∈ch∧ch.head?≠some q))→jN P N ops Qh H q d ch s→Post N D Q φ0 M0 h0 w0 .normal a w:=by
  intro listed ch a b w s φ M1 U ad Z r E hM Y
  have dq:a=b:=fK Z (by
   rintro t ⟨i,hi,W,hd⟩;cases O:ops[i]? with
  |none=>rw[O] at hd;cases hd
  |some o=>rw[U i (FL.1 O).1] at W;cases W)
  subst dq;cases ch with
 |nil =>
   rcases hM with⟨_,rfl⟩|⟨h,_⟩
   ·exact⟨φ,.normal,s,dw _ Y,r,E,rfl⟩
   ·cases h
 |cons c ch =>
   exfalso;simp only[jN] at Y;cases O:ops[c]? with
  |none=>rw[O] at Y;exact Y
  |some o =>
    have hc:=U c (FL.1 O).1;by_cases ac:c=q
    ·rcases hM with⟨h,_⟩|⟨_,h⟩
     ·rw[ac,h (by rw[ac];exact List.mem_cons_self)] at hc;cases hc
     ·exact h (by rw[ac];rfl)
    ·rw[ad c List.mem_cons_self ac] at hc;cases hc
 intro af
 induction af with
|zero =>
  intro done ch listed a b w s φ M1 aa aj hu cj bb ad Z r E J hT hM Y;have U:∀i,i<ops.size→listed.getD i false=true:=fun i hi=>by rw[←bq listed i zo];exact TS (n:=ops.size) zo i hi
  refine⟨List.eq_nil_iff_forall_not_mem.2 fun i hi=>?_,bz listed ch a b w s φ M1 U ad Z r E (hM.imp id fun h=>⟨h.1,h.2.2.1⟩) Y⟩;obtain⟨G,o,O,_⟩:=mem_ready.1 hi;have c7:=(FL.1 O).1;rw[bq listed i zo,U i c7] at G;cases G
|succ af ih =>
  intro done ch listed a b w s φ M1 aa aj hu cj bb ad Z r E J hT hM Y;refine⟨fun hr=>bz listed ch a b w s φ M1 (bw listed aj hr) ad Z r E (hM.imp id fun h=>⟨h.1,h.2.2.1⟩) Y,fun j hj=>?_⟩;obtain⟨c2,o,O,U⟩:=mem_ready.1 hj;have a8:j<ops.size:=(FL.1 O).1;have an:listed.getD j false=false:=by rw[←bq listed j zo];exact c2
  have bk:∀cs b,o.op≠.select cs b:=fun cs b=>Region.noSelect_spec ek j o cs b O
  have az:∀tm,Region.wanted o (yielded ops tm)=true:=fun tm=>by simp[Region.wanted,eg j o O]
  have eL:∀k,(listed.setIfInBounds j true).getD k false=(listed.getD k false||decide (k=j)):=by
   intro k;by_cases cc:k=j
   ·subst cc;have:k<listed.size:=by omega
    simp[this]
   ·rw[getD_set_ne false (Ne.symm cc)];simp[cc]
  have bc:Sq (listed.setIfInBounds j true) ops.size≤af:=by
   have:=MX c2 ops.size;rw[if_pos a8] at this;omega
  have ae:∀(k:Nat) ok,ops[k]?=some ok→(listed.setIfInBounds j true).getD k false=true→∀e∈ok.after,Region.binds .any e=true→(listed.setIfInBounds j true).getD e.on false=true:=by
   intro k ok hk W e he hb;rw[eL] at W ⊢;simp only[Bool.or_eq_true,Bg] at W ⊢;rcases W with W|W
   ·exact .inl (cj k ok hk W e he hb)
   ·subst W;rw[O] at hk;cases hk;exact .inl (U e he hb)
  have aq:∀i,(listed.setIfInBounds j true).getD i false=false→listed.getD i false=false∧i≠j:=by
   intro i W;rw[eL] at W;simp only[Bool.or_eq_false_iff,decide_eq_false_iff_not] at W;exact W
  have b3:∀t∈o.looksAt ops,¬JR ops H listed t∨∃d,o.dst=some d∧t=d∧j∈H:=by
   intro t ht;by_cases hc:JR ops H listed t;rotate_left
   ·exact .inl hc
   obtain⟨i,hi,W,hd⟩:=hc;have G:=X5.1 bx i hi;rw[hd] at G;have h2:=X5.1 G j (by simp[a8]);simp only[O,Bool.or_eq_true,beq_iff_eq,Z8,Bool.not_eq_true',bne_iff_ne] at h2;rcases h2 with rfl|⟨_,h2|h2⟩
   ·rw[O] at hd;exact .inr ⟨t,hd,rfl,hi⟩
   ·obtain⟨e,he,hb,bi⟩:=G9 h2;have:=U e he hb;rw[bi,W] at this;cases this
   ·simp[ht] at h2
  have bl:=X5.1 c6 j (by simp[a8]);simp only[Bool.or_eq_true,List.contains_iff_mem] at bl
  have ca:q∈ch→q∉H:=by
   intro hq ca;have:=X5.1 b2 q ca;rw[aa] at this;simp[hq] at this
  by_cases au:j∈H
  ·
   have ax:j∉Cs:=by
    have:=X5.1 b2 j au;simpa using this
   obtain⟨o',dd,v,c0,hd,hv,bm⟩:=J j au an;rw[O] at c0;cases c0;have co:dd∉o.looksAt ops:=IB O hd H cn au
   have cg:∀t∈o.looksAt ops,¬JR ops H listed t:=by
    intro t ht;rcases b3 t ht with G|⟨d',G,rfl,_⟩
    ·exact G
    ·rw[hd] at G;cases G;exact absurd ht co
   unfold wpOp;simp only[O,az,if_true];refine .inl ?_;unfold Oper.wp;rw[XN (ops:=ops) Z bk cg,bm];simp only[Oper.upon];have dm:q∈ch→q≠j:=fun h e=>ca h (e▸au)
   refine ih done ch (listed.setIfInBounds j true) (a.put o.dst v) b w s φ M1 aa (by simpa using aj) bc ae (fun c hc=>by rw[eL,bb c hc];rfl) ?_ ?_ r E (fun i hi W=>J i hi (aq i W).1) (fun h=>⟨(hT h).1,fun i hi W=>(hT h).2 i hi (aq i W).1⟩) ?_ Y
   ·intro c hc ac;rw[eL,ad c hc ac];have:c≠j:=fun e=>ax (by rw[aa,←e];exact List.mem_append_right _ hc)
    simp[this]
   ·refine⟨by rw[←Z.1,hd];rfl,by rw[←Z.2.1,hd];simp[Act.put],fun t ht=>?_⟩;rw[hd];by_cases b9:dd=t
    ·subst b9
     have cd:dd<a.tmps.size:=by
      rw[Z.2.1];exact(FL.1 hv).1
     rw[hv];simp[Act.put,cd]
    ·rw[←Z.2.2 t (fun hc=>ht (by
      obtain⟨i,hi,W,av⟩:=hc;refine⟨i,hi,?_,av⟩;rw[eL,W];have:i≠j:=fun e=>b9 (by rw[e,O] at av;exact Option.some.inj (hd.symm.trans av))
      simp[this]))]
     simp[Act.put,Array.getElem?_setIfInBounds_ne b9]
   ·rcases hM with⟨G,h2⟩|⟨G,h2,h3⟩
    ·exact .inl ⟨fun h=>by rw[eL,G h];simp[dm h],h2⟩
    ·exact .inr ⟨G,by rw[eL,h2];rfl,h3⟩
  ·
   have ax:j∈Cs:=bl.resolve_left au
   have am:j∈ch:=by
    rw[aa] at ax;rcases List.mem_append.1 ax with G|G
    ·rw[bb j G] at an;cases an
    ·exact G
   have bo:∀t∈o.looksAt ops,¬JR ops H listed t:=by
    intro t ht;rcases b3 t ht with G|⟨d',_,_,G⟩
    ·exact G
    ·exact absurd G au
   have bh:∀t,o.dst=some t→¬JR ops H listed t:=by
    rintro t ht ⟨i,hi,W,hd⟩;have G:=X5.1 bx i hi;rw[hd] at G;have h2:=X5.1 G j (by simp[a8]);simp only[O,Bool.or_eq_true,beq_iff_eq,Z8,Bool.not_eq_true',bne_iff_ne] at h2;rcases h2 with rfl|⟨h2,_⟩
    ·exact au hi
    ·exact h2 ht
   have hsub:∀x y,M0 x y→M1 x y:=by
    intro x y h;rcases hM with⟨_,rfl⟩|⟨_,_,_,k,_,_,_,_,rfl,_⟩
    ·exact h
    ·exact .inl h
   have ce:∀(b':Act) (w':World) (s':St) (φ':Nat→Nat) (M':ZM),(∀t,o.dst≠some t→b'.tmps[t]?=b.tmps[t]?)→Zo φ' M' N D (look s'.T) (look s'.H) b' w'→(∀i∈H,(listed.setIfInBounds j true).getD i false=false→FX P ops i s') →
     ∀i∈H,(listed.setIfInBounds j true).getD i false=false→∃o d v,ops[i]?=some o∧o.dst=some d∧b'.tmps[d]?=some v∧(execOp b'.eval o).run P w'=.ok (.value v) w':=by
    intro b' w' s' φ' M' ah r' be i hi W;have bp:=(aq i W).1;obtain⟨oi,di,v,bu,av,du,ej⟩:=J i hi bp;have dc:b'.tmps[di]?=some v:=by rw[ah di (fun e=>bh di e ⟨i,hi,bp,by rw[bu];exact av⟩)];exact du
    refine⟨oi,di,v,bu,av,dc,bI (be i hi W) bu av r' dc ej fun x ai=>?_⟩;cases x with
   |tmp t =>
     have hne:o.dst≠some t:=by
      intro e;have h2:=X5.1 dv i hi;simp only[bu,ai,Bool.true_and,Bool.not_true,Bool.or_false] at h2;have h3:=X5.1 h2 j ax;simp only[O,Zj,e,Bool.not_eq_true'] at h3;have:t∈oi.looksAt ops:=List.mem_append_left _ (List.mem_filterMap.2 ⟨.tmp t,by simp[ai,Op.operands],rfl⟩);simp[this] at h3
     simp only[Act.eval];rw[Array.getD_eq_getD_getElem?,Array.getD_eq_getD_getElem?,ah t hne]
   |_=>rfl
   have ay:∀(s':St),WX P ops (XO ops H j) s'→∀i∈H,(listed.setIfInBounds j true).getD i false=false→FX P ops i s':=by
    intro s' be i hi W;have bp:=(aq i W).1
    have dp:Jf ops.size ops j i=false:=by
     cases hq:Jf ops.size ops j i with
    |false=>rfl
    |true =>
      have:=Xw cj _ j i o O U hq;rw[bp] at this;cases this
    have da:Jf ops.size ops i j=false:=by
     have:=X5.1 (X5.1 bt i hi) j ax;simpa using this
    exact be i (List.mem_filter.2 ⟨hi,by rw[dp,da];rfl⟩)
   have ar:∀(a' b':Act),Agree (JR ops H listed) a' b'→Agree (JR ops H (listed.setIfInBounds j true)) a' b':=by
    intro a' b' h;refine⟨h.1,h.2.1,fun t ht=>h.2.2 t (fun hc=>ht ?_)⟩;obtain⟨i,hi,W,hd⟩:=hc;refine⟨i,hi,?_,hd⟩;rw[eL,W];have:i≠j:=fun e=>au (e▸hi)
    simp[this]
   by_cases bd:j=q
   ·
    subst bd;rw[O] at ab;simp only[Z8,beq_iff_eq] at ab;obtain⟨bf,ab⟩:=ab;split at ab;rotate_left
    ·cases ab
    rename_i ty ai;split at ab;rotate_left
    ·cases ab
    rename_i ti hi;obtain⟨z,hz⟩:=Rb.1 ab
    have eh:M1=M0:=by
     rcases hM with⟨_,h⟩|⟨_,h,_⟩
     ·exact h
     ·rw[h] at an;cases an
    subst eh;unfold wpOp;simp only[O,az,if_true];refine .inl ?_;cases ch with
   |nil=>cases am
   |cons c rest =>
     by_cases bn:c=j
     ·subst bn;simp only[jN,O,if_true] at Y;obtain⟨u,cw,hu,W,ba⟩:=Y
      have hex:XG P N o s (fun s'=>s'=JH s o.dst u) Qh:=by
       unfold XG;simp only[ai];rw[hu];exact .inl ⟨cw,rfl⟩
      have hw:=DV hex r;have cl:=Go.Abs.Oper.wp_mono2 (K':=fun a' w'=>∃φ' s',s'=JH s o.dst u∧Zo φ' M1 N D (look s'.T) (look s'.H) a' w'∧Q8 φ (look s.H) w φ' (look s'.H) w') (Q':=Post N D Qh φ0 M1 h0 w0) hw (fun _ _ h=>h) (fun e a' w' p=>p.trans E);refine Oper.wp_mono ?_ (Iu (ops:=ops) Z bk bo bh (b1 _ _ _ Z (c4 _ _)) b4 cl);rintro a' w' ⟨b',ao,ah,φ',s',rfl,r',E'⟩
      have bj:c∉rest:=by
       rw[aa] at aw;exact(List.nodup_cons.1 (List.nodup_append.1 aw).2.1).1
      refine ih (done++[c]) rest (listed.setIfInBounds c true) a' b' w' _ φ' M1 (by rw[aa];simp) (by simpa using aj) bc ae (fun x Y=>by
       rw[eL];rcases List.mem_append.1 Y with G|G
       ·rw[bb x G];rfl
       ·rw[List.mem_singleton] at G;simp[G]) ?_ (ar _ _ ao) r' (E.trans E') (ce b' w' _ φ' M1 ah r' (ay _ W)) (fun h=>absurd h bj) (.inl ⟨fun h=>absurd h bj,rfl⟩) ba
      intro x Y al;rw[eL,ad x (List.mem_cons_of_mem _ Y) al];simp[al]
     ·have bm:∀ev,(execOp ev o).run P w=.ok (.value (.pointer (some ⟨w.heap.size,0,none⟩))) (w.alloc (.cells z.cells ty)):=fun ev=>by
       simp[execOp,ai,Instr.alloc,zeroValue,typeInfo,hi,hz,newVar,newRow,newObj,Sem.run]
      unfold Oper.wp;rw[bm];simp only[Oper.upon];rw[bf];obtain⟨c9,dx⟩:=hT am;obtain⟨r,E1,_,de⟩:=r.lift 1;have E:=E.trans E1;have r2:=bH (ob:=.cells z.cells ty) (v:=.pointer (some ⟨w.heap.size,0,none⟩)) r c9 de
      have ah:∀t,o.dst≠some t→(b.put (some d) (.pointer (some ⟨w.heap.size,0,none⟩))).tmps[t]?=b.tmps[t]?:=by
       intro t ht;have:d≠t:=fun e=>ht (by rw[bf,e])
       simp[Act.put,Array.getElem?_setIfInBounds_ne this]
      have dj:∀i∈H,(listed.setIfInBounds j true).getD i false=false→FX P ops i s:=fun i hi W=>dx i hi (aq i W).1
      refine ih done (c::rest) (listed.setIfInBounds j true) _ _ _ s _ _ aa (by simpa using aj) bc ae (fun x Y=>by rw[eL,bb x Y];rfl) ?_ (ar _ _ (Gv Z (some d) _)) r2 (E.trans (qG r.hp de).1) (ce _ _ s _ _ ah r2 dj) (fun _=>⟨c9,dj⟩) (.inr ⟨am,by rw[eL];simp,fun h=>bn (Option.some.inj h),w.heap.size,o,ty,ti,z,rfl,O,ai,bf,hi,hz,?_,?_,E.size,fun x Y=>Nat.lt_irrefl _ (r.hp.lt _ _ Y)⟩) Y
      ·intro x Y al;rw[eL,ad x Y al];simp[al]
      ·have cd:d<b.tmps.size:=by rw[r.siz];exact c1
       simp[Act.put,cd]
      ·show(w.heap.push _)[w.heap.size]?=_;simp
   ·
    have bv:∃rest,ch=j::rest:=by
     cases ch with
    |nil=>cases am
    |cons c rest =>
      by_cases bn:j=c
      ·exact⟨rest,by rw[bn]⟩
      exfalso;have cf:j∈rest:=(List.mem_cons.1 am).resolve_left bn;obtain⟨r1,r2,a7⟩:=List.append_of_mem cf
      have cx:∀x,x∈c::rest→x≠q→(ops[j]?).any (waits · x)=true→False:=by
       intro x Y al hw;rw[O] at hw;obtain⟨e,he,hb,bi⟩:=G9 (o:=o) (i:=x) hw;have h2:=U e he hb;rw[bi,ad x Y al] at h2;cases h2
      by_cases ak:∀x∈c::r1,x=q
      ·
       have ac:c=q:=ak c List.mem_cons_self
       have ef:r1=[]:=by
        cases r1 with
       |nil=>rfl
       |cons y r1 =>
         exfalso;have hy:=ak y zq;have h3:=aw;rw[aa,a7] at h3;have h4:=(List.nodup_append.1 h3).2.1;rw[ac,hy] at h4;simp at h4
       subst ef;rcases hM with⟨G,_⟩|⟨_,_,h3,_⟩
       ·have h4:=G (by rw[ac];exact List.mem_cons_self);have h5:(ops[j]?).any (waits · q)=true:=EE done j r2 (by rw[aa,a7,ac] at b0;exact b0);rw[O] at h5;obtain⟨e,he,hb,bi⟩:=G9 (o:=o) (i:=q) h5;have h6:=U e he hb;rw[bi,h4] at h6;cases h6
       ·exact h3 (by rw[ac];rfl)
      ·simp only[Classical.not_forall] at ak;obtain⟨x0,dn,df⟩:=ak
       have ea:(c::r1).filter (· != q)≠[]:=by
        intro e;have:x0∈(c::r1).filter (· != q):=List.mem_filter.2 ⟨dn,by simpa using df⟩;rw[e] at this;cases this
       obtain⟨p,x,c5⟩:∃p x,(c::r1).filter (· != q)=p++[x]:=⟨_,_,(List.dropLast_concat_getLast ea).symm⟩;have dt:x∈(c::r1).filter (· != q):=by rw[c5];simp
       obtain⟨ec,cm⟩:=List.mem_filter.1 dt
       have dz:Cs.filter (· != q)=(done.filter (· != q)++p)++x::j::r2.filter (· != q):=by
        rw[aa,List.filter_append,a7,show c::(r1++j::r2)=(c::r1)++j::r2 from rfl,List.filter_append,c5];have:(j::r2).filter (· != q)=j::r2.filter (· != q):=by simp[bd]
        rw[this];simp
       have b5:=br;rw[dz] at b5;have G:=Dc _ _ _ _ b5;exact cx x (by rw[a7,show c::(r1++j::r2)=(c::r1)++j::r2 from rfl];exact List.mem_append_left _ ec) (by simpa using cm) G
    obtain⟨rest,rfl⟩:=bv;simp only[jN,O,if_neg bd] at Y;unfold wpOp;simp only[O,az,if_true];refine .inl ?_;have hw:=DV Y r;have cl:=Go.Abs.Oper.wp_mono2 (K':=fun a' w'=>∃φ' s',(WX P ops (XO ops H j) s'∧(q∈rest→look s'.T d=none)∧jN P N ops Qh H q d rest s')∧Zo φ' M1 N D (look s'.T) (look s'.H) a' w'∧Q8 φ (look s.H) w φ' (look s'.H) w') (Q':=Post N D Qh φ0 M0 h0 w0) hw (fun _ _ h=>h) (fun e a' w' p=>bG hsub (p.trans E));refine Oper.wp_mono ?_ (Iu (ops:=ops) Z bk bo bh (b1 _ _ _ Z (c4 _ _)) b4 cl);rintro a' w' ⟨b',ao,ah,φ',s',⟨be,ei,ba⟩,r',E'⟩;have cp:=ce b' w' s' φ' M1 ah r' (ay s' be)
    have cf:j∉rest:=by
     rw[aa] at aw;exact(List.nodup_cons.1 (List.nodup_append.1 aw).2.1).1
    have a6:∀c∈done++[j],(listed.setIfInBounds j true).getD c false=true:=fun x Y=>by
     rw[eL];rcases List.mem_append.1 Y with G|G
     ·rw[bb x G];rfl
     ·rw[List.mem_singleton] at G;simp[G]
    have bg:∀c∈rest,c≠q→(listed.setIfInBounds j true).getD c false=false:=by
     intro x Y al;rw[eL,ad x (List.mem_cons_of_mem _ Y) al];have:x≠j:=fun e=>cf (e▸Y)
     simp[this]
    have dh:q∈rest→look s'.T d=none∧∀i∈H,(listed.setIfInBounds j true).getD i false=false→FX P ops i s':=fun h=>⟨ei h,ay s' be⟩
    rcases hM with⟨G,rfl⟩|⟨G,h2,h3,k,oq,ty,ti,z,rfl,cz,ai,bf,hi,hz,dl,c3,db,dk⟩
    ·refine ih (done++[j]) rest (listed.setIfInBounds j true) a' b' w' s' φ' M1 (by rw[aa];simp) (by simpa using aj) bc ae a6 bg (ar _ _ ao) r' (E.trans E') cp dh (.inl ⟨fun h=>?_,rfl⟩) ba;rw[eL,G (List.mem_cons_of_mem _ h)];simp[Ne.symm bd]
    ·have ed:q∈rest:=(List.mem_cons.1 G).resolve_left (Ne.symm bd)
     have ee:o.dst≠some d:=by
      have:=X5.1 cr j ax;simp only[O,Bool.or_eq_true,beq_iff_eq,bne_iff_ne] at this;exact this.resolve_left bd
     have b7:b'.tmps[d]?=some (.pointer (some ⟨k,0,none⟩)):=by rw[ah d ee];exact dl
     have b6:w'.heap[k]?=some (.cells z.cells ty (0,0)):=by
      rw[E'.same k (FL.1 c3).1 (fun c hc e=>r.hp.fr c hc 0 (.inr e))];exact c3
     have cy:(listed.setIfInBounds j true).getD q false=true:=by rw[eL,h2];rfl
     by_cases b8:rest.head?=some q
     ·cases rest with
     |nil=>cases b8
     |cons c rest =>
       obtain rfl:c=q:=Option.some.inj b8;simp only[jN,cz,if_true] at ba;obtain⟨u,cw,hu,W,cm⟩:=ba;obtain⟨r2,E2⟩:=uw r' (E.trans E') db dk ai bf hi hz c1 b7 b6 hu
       have bj:c∉rest:=by
        rw[aa] at aw;exact(List.nodup_cons.1 (List.nodup_cons.1 (List.nodup_append.1 aw).2.1).2).1
       refine ih (done++[j,c]) rest (listed.setIfInBounds j true) a' b' w' _ _ M0 (by rw[aa];simp) (by simpa using aj) bc ae (fun x Y=>?_) (fun x Y=>bg x (List.mem_cons_of_mem _ Y)) (ar _ _ ao) r2 E2 cp (fun h=>absurd h bj) (.inl ⟨fun h=>absurd h bj,rfl⟩) cm;rcases List.mem_append.1 Y with h4|h4
       ·exact a6 x (List.mem_append_left _ h4)
       ·simp only[List.mem_cons,List.not_mem_nil,or_false] at h4;rcases h4 with h4|h4
        ·exact a6 x (by simp[h4])
        ·rw[h4];exact cy
     ·exact ih (done++[j]) rest (listed.setIfInBounds j true) a' b' w' s' φ' _ (by rw[aa];simp) (by simpa using aj) bc ae a6 bg (ar _ _ ao) r' (E.trans E') cp dh (.inr ⟨ed,cy,b8,k,oq,ty,ti,z,rfl,cz,ai,bf,hi,hz,b7,b6,db,dk⟩) ba
theorem QbI{R:Type}{r0:R}{Q:R→AX→St→Prop}(H:List Nat)(q d:Nat)(Cs:List Nat)(hm:P.follows .mixedOrders=true)(aa:UC ops=true)(hok:Nh P N H q d Cs ops=true)(h1:LQ P N ops H s=some s1)(hl:WX P ops H s1)(hT:look s1.T d=none)(h:jN P N ops (qh ops Q r0) H q d Cs s1):Ex P N ro (.region id ops true) s (Q r0):=by
 intro φ M0 D a w r;refine wpIn_region_any hm (Bq aa WE _ _ _ _ ?_);have hd:Q8 φ (look s.H) w φ (look s.H) { w with drawn:=w.drawn+1 }:=LA rfl rfl rfl rfl;have r1:Zo φ M0 N D (look s.T) (look s.H) a { w with drawn:=w.drawn+1 }:=r.keep hd (Gp rfl) (DF (w:=w) rfl hd r.hp);have J:=hok;simp only[Nh,Z8,Bg] at J;obtain⟨⟨⟨⟨⟨⟨⟨⟨⟨⟨⟨⟨⟨⟨aj,ac⟩,O⟩,Z⟩,ai⟩,ah⟩,Y⟩,ao⟩,ad⟩,af⟩,an⟩,ak⟩,am⟩,ae⟩,al⟩:=J;obtain⟨b,rb,hH,U,hJ⟩:=Sz ac H s s1 a _ O h1 r1
 have G:∀(j:Nat),(Array.replicate ops.size false).getD j false=false:=by
  intro j;rcases Nat.lt_or_ge j ops.size with h|h
  ·simp[h]
  ·simp[h]
 have W:∀n,Sq (Array.replicate ops.size false) n≤n:=by
  intro n
  induction n with
 |zero=>simp[Sq]
 |succ n ih=>simp only[Sq];split<;>omega
 have h2:=aP (D:=D) (φ0:=φ) (h0:=look s.H) (w0:=w) (M0:=M0) hok (Q:=Q r0) (Qh:=qh ops Q r0) (fun _ h=>h) (fun _ _ h=>h) ops.size [] Cs (Array.replicate ops.size false) a b { w with drawn:=w.drawn+1 } s1 φ M0 rfl zq (W _) (fun j o _ hj=>by rw[G] at hj;cases hj) (fun c hc=>by cases hc) (fun c _ _=>G c)
  ⟨U.1,U.2.1,fun t ht=>U.2.2 t (fun hc=>ht (by obtain⟨i,hi,ab⟩:=hc;exact⟨i,hi,G i,ab⟩))⟩ rb (by rw[hH];exact hd) (fun i hi _=>hJ i hi) (fun _=>⟨hT,fun i hi _=>hl i hi⟩) (.inl ⟨fun _=>G q,rfl⟩) h
 refine Xv ?_ _ _ _ _ h2;exact fun e a' w' h=>h
structure wM{R:Type}(a:Option R)(P:Program)(N:Nat)(ops:Array Oper)(Q:R→AX→St→Prop)(H:List Nat)(q d:Nat)(Ch:List Nat)(s:St):Prop where
 intro ::
 h:∀r,a=some r→jN P N ops (qh ops Q r) H q d Ch s
def fKf{R:Type}(P:Program)(N:Nat)(ops:Array Oper)(Q:R→AX→St→Prop)(H:List Nat)(q d:Nat)(Ch:List Nat)(c:Nat):R→St→Prop:=fun r s=>WX P ops (XO ops H c) s∧(q∈Ch→look s.T d=none)∧jN P N ops (qh ops Q r) H q d Ch s
theorem wN{Ch:List Nat}{q:Nat}(h:(!Ch.contains q||(look s.T d).isNone)=true):q∈Ch→look s.T d=none:=by
 intro G;cases e:look s.T d with
|none=>rfl
|some x=>simp[G,e] at h
section
variable {R V E:Type}{a a1 a2:Option R}{P:Program}{N:Nat}{ro:Option Nat}{id:Nat}{ops:Array Oper}{o:Oper}{s s1 s':St}{Q:R→AX→St→Prop}{f:FuncId}{args args':List AV}{dst:Option Tmp}{H Ch:List Nat}{c i q d:Nat}
theorem wO(H:List Nat)(q d:Nat)(Ch:List Nat)(Y:P.follows .mixedOrders=true)(O:UC ops=true)(hok:Nh P N H q d Ch ops=true)(W:(LQ P N ops H s).isSome=true)(J:WX P ops H ((LQ P N ops H s).getD s))(G:(look ((LQ P N ops H s).getD s).T d).isNone=true)(h:wM a P N ops Q H q d Ch ((LQ P N ops H s).getD s)):Q4 a P N ro (.region id ops true) s Q:=by
 obtain⟨s1,e⟩:=Rb.1 W;rw[e] at h J G;simp only[Option.getD_some] at h J G;exact⟨fun r U=>QbI H q d Ch Y O hok e J (by cases e:look s1.T d with|none=>rfl|some x=>rw[e] at G;cases G) (h.h r U)⟩
theorem QcX(h:ZI a Q .normal s):wM a P N ops Q H q d [] s:=⟨fun r G=>h.h r G⟩
theorem kf(G:List Nat)(U:XO ops H c=G)(W:WX P ops G s)(O:(!Ch.contains q||(look s.T d).isNone)=true)(h:wM a P N ops Q H q d Ch s):Tf a (fKf P N ops Q H q d Ch c) s :=
 ⟨fun r J=>⟨U▸W,wN O,h.h r J⟩⟩
theorem f_q(U:List Nat)(Y:XO ops H q=U)(h0:(LV P N ops q s).isSome=true)(J:WX P ops U ((LV P N ops q s).getD s))(h:wM a P N ops Q H q d Ch ((LV P N ops q s).getD s)):wM a P N ops Q H q d (q::Ch) s:=by
 obtain⟨s',G⟩:=Rb.1 h0;rw[G] at J h;simp only[Option.getD_some] at J h;unfold LV at G;refine⟨fun r W=>?_⟩;simp only[jN];cases ho:ops[q]? with
|none=>rw[ho] at G;cases G
|some o =>
  simp only[ho,Zj,if_true] at G ⊢;split at G
  ·cases G
  ·cases G
  ·cases G
  ·split at G;rotate_left
   ·cases G
   rename_i O;obtain⟨u,hu,rfl⟩:=Gn.1 G;exact⟨u,O,hu,Y▸J,h.h r W⟩
theorem QfL(Z:List Nat)(Y:Nat.beq c q=false)(hL:XO ops H c=Z)(h0:(LV P N ops c s).isSome=true)(W:WX P ops Z ((LV P N ops c s).getD s))(O:(!Ch.contains q||(look ((LV P N ops c s).getD s).T d).isNone)=true)(h:wM a P N ops Q H q d Ch ((LV P N ops c s).getD s)):wM a P N ops Q H q d (c::Ch) s:=by
 obtain⟨s',G⟩:=Rb.1 h0;rw[G] at W h O;simp only[Option.getD_some] at W h O;unfold LV at G;refine⟨fun r hr=>?_⟩;have hne:¬c=q:=fun e=>by subst e;simp at Y
 simp only[jN];cases ho:ops[c]? with
|none=>rw[ho] at G;cases G
|some o =>
  simp only[ho,Zj,if_neg hne] at G ⊢;unfold XG;split at G
  ·cases G
  ·cases G
  ·cases G
  ·rename_i n1 n2 n3;split at G;rotate_left
   ·cases G
   rename_i U;obtain⟨u,hu,rfl⟩:=Gn.1 G
   have key:AP N o s (fun s'=>WX P ops (XO ops H c) s'∧(q∈Ch→look s'.T d=none)∧jN P N ops (qh ops Q r) H q d Ch s') (Jb P o (look s.T) (look s.H)):=by
    rw[hu];exact⟨U,hL▸W,wN O,h.h r hr⟩
   split
   ·rename_i J;exact absurd J (n1 _ _ _)
   ·rename_i J;exact absurd J (n2 _)
   ·rename_i J;exact absurd J (n3 _ _ _)
   ·exact .inl key
theorem SA(hf:(ops[c]?).bind (fun o=>(Kg (look s.T) o.op).map fun p=>(p.1,p.2,o.dst))=some (f,args,dst))(hb:Y1 P f=true)(G:Nat.beq c q=false)(h:Ci a P N f args dst s (fKf P N ops Q H q d Ch c) (qh ops Q)):wM a P N ops Q H q d (c::Ch) s:=by
 refine⟨fun r U=>?_⟩;have hne:¬c=q:=fun e=>by subst e;simp at G
 simp only[jN];cases ho:ops[c]? with
|none=>rw[ho] at hf;cases hf
|some o =>
  simp only[ho,Zj,if_neg hne] at hf ⊢;obtain⟨⟨f0,J⟩,W,O⟩:=Gn.1 hf;simp only[XA] at O;obtain⟨rfl,rfl,rfl⟩:=O;exact Xu W hb (h.h r U)
end
def bJ(k:Nat)(x:AV):Blk→Blk|.box ty cs=>.box ty (cs.set k x)|q=>q
def XP(b k:Nat)(x:AV)(s:St):St:=⟨s.T,s.H.map fun p=>if p.1=b then(p.1,bJ k x p.2) else p⟩
theorem D8{b k:Nat}{x:AV}:∀(H:List (Nat×Blk)) (c:Nat),look (H.map fun p=>if p.1=b then(p.1,bJ k x p.2) else p) c=if b=c then(look H c).map (bJ k x) else look H c
|[],c=>by simp[look]
|(d,q)::H,c=>by
  rw[WV];by_cases J:d=b
  ·subst J;simp only[if_true,look];by_cases G:d=c
   ·simp[G]
   ·simp only[G,if_false];rw[D8 H c];simp[G]
  ·simp only[J,if_false,look];by_cases G:d=c
   ·subst G;simp[Ne.symm J]
   ·simp only[G,if_false];exact D8 H c
theorem Ni{k:Nat}{x:AV}{ty:Nat}{cs:List AV}(hb:look s.H b=some (.box ty cs)):look (XP b k x s).H=upd (look s.H) b (.box ty (cs.set k x)):=by
 funext c;show look (s.H.map _) c=_;rw[D8];by_cases e:b=c
 ·subst e;simp[upd,hb,bJ]
 ·simp[upd,e]
theorem Ut{φ:Nat→Nat}{h:QO}{w:World}{M:ZM}:∀{cs:List AV} {l:List Value} {k:Nat} {x:AV},Qg φ h w M cs l→cs[k]?=some x→∃u,l[k]?=some u∧Qe φ h w M x u
|[],l,k,x,_,h=>by simp at h
|c::cs,l,k,x,G,h=>by
  simp only[Qg] at G;obtain⟨y,ys,rfl,O,J⟩:=G;cases k with
 |zero=>simp at h;subst h;exact⟨y,rfl,O⟩
 |succ k=>simp at h;simpa using Ut J h
theorem Xi{φ:Nat→Nat}{h:QO}{w:World}{M:ZM}:∀{cs:List AV} {l:List Value} {k:Nat} {x:AV} {u:Value},Qg φ h w M cs l→l[k]?=some u→Qe φ h w M x u→Qg φ h w M (cs.set k x) l
|[],l,k,x,u,J,G,O=>by simpa using J
|c::cs,l,k,x,u,J,G,O=>by
  simp only[Qg] at J;obtain⟨y,ys,rfl,W,U⟩:=J;cases k with
 |zero=>simp at G;subst G;exact⟨_,ys,rfl,O,U⟩
 |succ k=>simp at G;exact⟨y,ys,rfl,W,Xi U G O⟩
section
variable {φ φ0:Nat→Nat}{h h0:QO}{w w0:World}{M0:ZM}{b ty:Nat}{cs cs':List AV}
theorem Di(hb:h b=some (.box ty cs)):YZ φ h w φ (upd h b (.box ty cs')) w:=by
 refine⟨fun c t q hc=>⟨?_,rfl⟩,fun t J S n hc=>⟨n,?_,Kz _,fun _=>Yy rfl rfl⟩,fun t J S n hc=>⟨n,?_,Kz _,fun _=>⟨rfl,fun c hc=>⟨c,hc,rfl⟩⟩⟩,fun c k x hc G=>⟨⟨k,?_,G⟩,rfl⟩⟩
 ·by_cases e:b=c
  ·subst e;exact⟨ty,cs',by simp[upd]⟩
  ·exact⟨t,q,by simp[upd,e,hc]⟩
 ·have:¬b=t:=fun e=>by subst e;rw[hb] at hc;cases hc
  simp[upd,this,hc]
 ·have:¬b=t:=fun e=>by subst e;rw[hb] at hc;cases hc
  simp[upd,this,hc]
 ·have:¬b=c:=fun e=>by subst e;rw[hb] at hc;cases hc;cases G
  simp[upd,this,hc]
theorem Nj(hb:h b=some (.box ty cs)):∀r o,R4 φ (upd h b (.box ty cs')) r o→R4 φ h r o:=by
 rintro r o ⟨c,k,J,G,O⟩;by_cases e:b=c
 ·subst e;exact⟨b,_,hb,G,trivial⟩
 ·simp only[upd,e,if_false] at J;exact⟨c,k,J,G,O⟩
theorem Dj(hb:h b=some (.box ty cs)):Q8 φ h w φ (upd h b (.box ty cs')) w:=by
 have X:=Di (φ:=φ) (w:=w) (cs':=cs') hb;refine⟨rfl,rfl,rfl,Kz _,fun _ _ _=>rfl,fun _ _ _ _=>rfl,fun r o _ O=>Nj hb r o O,fun c t q _ hc=>?_,fun t G S n _ hc=>X.t t G S n hc,fun t G S n _ hc=>X.v t G S n hc,fun c k x _ hc J=>X.o c k x hc J⟩;by_cases e:b=c
 ·subst e;rw[hb] at hc;cases hc;exact⟨⟨cs',by simp[upd]⟩,rfl⟩
 ·exact⟨⟨q,by simp[upd,e,hc]⟩,rfl⟩
theorem aQ(hb:h b=some (.box ty cs))(r:ZQ φ h w M0)(hc:∀c:Array Value,w.heap[φ b]?=some (.cells c ty (0,0))→Qg φ h w (MM φ h M0) cs' c.toList):ZQ φ (upd h b (.box ty cs')) w M0:=by
 have Y:∀x o v,w.cell? ⟨x,o,none⟩=some v→¬MM φ h M0 x o→w.cell? ⟨x,o,none⟩=some v∧¬MM φ (upd h b (.box ty cs')) M0 x o:=fun x o v O W=>⟨O,fun U=>W (U.imp (Nj hb x o) id)⟩
 have X:=Di (φ:=φ) (w:=w) (cs':=cs') hb
 have G:∀c,upd h b (.box ty cs') c≠none→h c≠none:=fun c hc=>by
  by_cases e:b=c
  ·subst e;rw[hb];simp
  ·simpa [upd,e] using hc
 refine⟨fun c d hc Z=>r.inj c d (G c hc) (G d Z),fun c k J=>?_,fun c hc=>r.fr c (G c hc),r.lt,r.gm.sub fun x o U=>U.imp (Nj hb x o) id⟩;by_cases e:b=c
 ·subst e;simp only[upd,if_true,Q0] at J;subst J;obtain⟨q,O,W⟩:=r.blk b _ hb;exact⟨q,O,(QH Y X).2 _ _ (hc q O)⟩
 ·simp only[upd,e,if_false] at J;exact Z4 Y X rfl (r.blk c k J)
end
theorem SB{ty:Nat}{cs cs':List AV}(r:Zo φ M0 N D T h a w)(hb:h b=some (.box ty cs))(hc:∀c:Array Value,w.heap[φ b]?=some (.cells c ty (0,0))→Qg φ h w (MM φ h M0) cs' c.toList) :
  Zo φ M0 N D T (upd h b (.box ty cs')) a w:=by
 have O:∀x o v,w.cell? ⟨x,o,none⟩=some v→¬MM φ h M0 x o→w.cell? ⟨x,o,none⟩=some v∧¬MM φ (upd h b (.box ty cs')) M0 x o:=fun x o v U J=>⟨U,fun W=>J (W.imp (Nj hb x o) id)⟩
 exact⟨r.dfs.keep (Dj hb),r.siz,aQ hb r.hp hc,fun t x G=>⟨(r.tm t x G).1,(QH O (Di hb)).1 _ _ (r.tm t x G).2⟩⟩
theorem BD{α:Type}{f:Nat→Bool}:∀{H:List (Nat×α)} {c:Nat},f c=true→look (H.filter fun p=>f p.1) c=look H c
|[],c,_=>rfl
|(d,q)::H,c,hf=>by
  by_cases e:d=c
  ·subst e;rw[List.filter_cons_of_pos (by simpa using hf)];simp[look]
  ·by_cases G:f d=true
   ·rw[List.filter_cons_of_pos (by simpa using G)];simp only[look,e,if_false];exact BD hf
   ·rw[List.filter_cons_of_neg (by simpa using G)];simp only[look,e,if_false];exact BD hf
def IG(t:Nat)(s G:St):Bool:=okT (look G.H) G.T&&dU (look G.H) G.H&&Yh (look G.H) (s.H.filter fun p=>p.1 != t)&&(look G.H t).isNone
def CS(φ:Nat→Nat)(w:World)(t S n:Nat)(M0:ZM):ZM:=fun r o=>M0 r o∨(r=φ t∧n*S≤o∧r<w.heap.size)
theorem wP{t ty S:Nat}{K:HZ}(r:Zo φ M0 N D (look s.T) (look s.H) a w)(ac:look s.H t=some (.arr ty S n))(hok:IG t s (shr K s)=true) :
  Zo φ (CS φ w t S n M0) N D (look (shr K s).T) (look (shr K s).H) a w∧(∀x v,Kr (look (shr K s).H) x=true→Qe φ (look s.H) w (MM φ (look s.H) M0) x v→Qe φ (look (shr K s).H) w (MM φ (look (shr K s).H) (CS φ w t S n M0)) x v)∧(∀b k',look (shr K s).H b=some k'→∃k,look s.H b=some k∧leB k k') ∧
  (∀r o,MM φ (look (shr K s).H) (CS φ w t S n M0) r o→MM φ (look s.H) M0 r o):=by
 simp only[IG,Z8] at hok;obtain⟨⟨⟨ai,aj⟩,hK⟩,ab⟩:=hok;have hT:Ie (look s.T) (look (shr K s).H) (shr K s).T:=Gu ai;have hH:Cf (look s.H) (look (shr K s).H) (shr K s).H:=Vh aj;generalize shr K s=s' at *;have af:look s'.H t=none:=by cases e:look s'.H t with|none=>rfl|some x=>rw[e] at ab;cases ab
 have hh:∀b k',look s'.H b=some k'→∃k,look s.H b=some k∧leB k k':=fun b k' hb=>(Jt hH b k' hb).1
 have aa:∀r o,R4 φ (look s'.H) r o→R4 φ (look s.H) r o:=by
  rintro x o ⟨b,k',U,G,O⟩;obtain⟨k,W,h5⟩:=hh b k' U;refine⟨b,k,W,G,?_⟩;cases k with
 |arr ty S n=>simp only[leB] at h5;subst h5;exact O
 |_=>trivial
 have hM:∀r o,MM φ (look s'.H) (CS φ w t S n M0) r o→MM φ (look s.H) M0 r o:=by
  rintro x o (h|h|⟨rfl,h,_⟩)
  ·exact .inl (aa x o h)
  ·exact .inr h
  ·exact .inl ⟨t,_,ac,rfl,h⟩
 have J:∀b,look s'.H b≠none→look s.H b≠none:=fun b hb=>by
  cases hq:look s'.H b with
 |none=>exact absurd hq hb
 |some k'=>obtain⟨k,U,_⟩:=hh b k' hq;rw[U];simp
 obtain⟨c1,c2⟩:=M7 (φ:=φ) (w:=w) hM hh
 have ad:∀b,look s'.H b≠none→φ b≠φ t:=by
  intro b hb e;have:=r.hp.inj b t (J b hb) (by rw[ac];simp) e;rw[this,af] at hb;exact hb rfl
 have ah:ZQ φ (look s'.H) w (CS φ w t S n M0):=by
  refine⟨fun b c hb hc=>r.hp.inj b c (J b hb) (J c hc),fun b k' hb=>?_,fun b hb o hm=>?_,fun x o Y=>?_,r.hp.gm.sub hM⟩
  ·obtain⟨⟨k,U,G⟩,O⟩:=Jt hH b k' hb;have W:=r.hp.blk b k U;cases k with
  |box ty cs =>
    simp only[leB] at G;obtain⟨cs',rfl,h5⟩:=G;obtain⟨c,h6,h7⟩:=W;exact⟨c,h6,c2 _ _ O (JG.2 _ _ _ h5 h7)⟩
  |arr ty S n=>simp only[leB] at G;subst G;exact W
  |vec ty S es =>
    simp only[leB] at G;subst G;obtain⟨c,cap,g1,g2,g3,g4,g5,g6,g7⟩:=W;exact⟨c,cap,g1,g2,g3,g4,g5,g6,c2 _ _ (M6 _ _) g7⟩
  |lp T nf st pd =>
    simp only[leB] at G;subst G;obtain⟨tmps,d,g1,g2,g3⟩:=W;exact⟨tmps,d,g1,g2,fun t x ht=>⟨(g3 t x ht).1,c1 _ _ (UY O ht) (g3 t x ht).2⟩⟩
  |mp es =>
    simp only[leB] at G;subst G;obtain⟨en,cl,g1,g2,g3⟩:=W;exact⟨en,cl,g1,g2,c2 _ _ (LG _ _) g3⟩
  |mf es =>
    simp only[leB] at G;subst G;obtain⟨en,cl,g1,g2,g3,g5⟩:=W;exact⟨en,cl,g1,g2,c2 _ _ (WR O) g3,g5⟩
  |mg en cl es =>
    simp only[leB] at G;subst G;obtain⟨g1,g2,g3,g5⟩:=W;exact⟨g1,g2,c2 _ _ (WR O) g3,g5⟩
  |it m cl sn =>
    simp only[leB] at G;subst G;obtain⟨g1,k0,g2,g3⟩:=W;obtain⟨km,Z⟩:=Rb.1 O;obtain⟨k1,g5,g6⟩:=hh m km Z;rw[g2] at g5;cases g5;exact⟨g1,km,Z,XJ g6 g3⟩
  ·rcases hm with hm|⟨hm,_⟩
   ·exact r.hp.fr b (J b hb) o hm
   ·exact ad b hb hm
  ·rcases Y with Y|⟨rfl,_,Y⟩
   ·exact r.hp.lt x o Y
   ·exact Y
 have ae:Marks φ D (look s'.H) a w:=by
  obtain⟨h0,ms,U,G,O⟩:=r.dfs;exact⟨h0,ms,U,G,fun x Y=>⟨(O x Y).1,(O x Y).2.1,fun b hb=>(O x Y).2.2 b (J b hb)⟩⟩
 refine⟨⟨ae,r.siz,ah,fun t x ht=>?_⟩,c1,hh,hM⟩;obtain⟨y,U,G,O⟩:=DX hT t x ht;exact⟨(r.tm t y U).1,c1 _ _ O (JG.1 _ _ _ G (r.tm t y U).2)⟩
def OJ(b k t:Nat)(x:AV)(q:Blk)(s:St):St:=⟨s.T,(t,q)::s.H.map fun p=>if p.1=b then(p.1,bJ k x p.2) else p⟩
def cellAt(b k:Nat)(s:St):Option AV:=(look s.H b).bind fun q=>match q with|.box _ cs=>cs[k]?|_=>none
def QcY(b k t:Nat)(x:AV)(q:Blk)(u:Value)(K:St→Prop):St→Prop:=fun s'=>cellAt b k s'=some (.p (.val u))∧look s'.H t=none∧K (OJ b k t x q s')
theorem U0{k:Nat}{x:AV}(h:cellAt b k s=some x):∃ty cs,look s.H b=some (.box ty cs)∧cs[k]?=some x:=by
 obtain⟨y,J,G⟩:=NS.1 h;split at G
 ·exact⟨_,_,J,G⟩
 ·cases G
theorem wQ{a':Act}{k t ty S:Nat}{es:List (List PV)}{u:Value}{K:HZ}(r:Zo φ M0 N D (look s.T) (look s.H) a w)(ac:look s.H t=some (.arr ty S n))(hok:IG t s (shr K s)=true)(hn:es.length=n)(a8:¬b=t)(ao:Qe φ (look s.H) w (MM φ (look s.H) M0) (.tsl S es t) u)(hc:cellAt b k s'=some (.p (.val u)))(a7:look s'.H t=none)(r':Zo φ' (CS φ w t S n M0) N D (look s'.T) (look s'.H) a' w')(E':Q8 φ (look (shr K s).H) w φ' (look s'.H) w') :
  ∃ad,Zo ad M0 N D (look (OJ b k t (.tsl S es t) (.arr ty S n) s').T) (look (OJ b k t (.tsl S es t) (.arr ty S n) s').H) a' w'∧Q8 φ (look s.H) w ad (look (OJ b k t (.tsl S es t) (.arr ty S n) s').H) w' ∧
   ∀x v,Qe φ' (look s'.H) w' (MM φ' (look s'.H) (CS φ w t S n M0)) x v→Qe ad (look (OJ b k t (.tsl S es t) (.arr ty S n) s').H) w' (MM ad (look (OJ b k t (.tsl S es t) (.arr ty S n) s').H) M0) x v:=by
 obtain⟨rd,_,hh,bb⟩:=wP r ac hok;simp only[IG,Z8] at hok;obtain⟨⟨⟨be,bf⟩,hK⟩,ax⟩:=hok;obtain⟨BK,cs,hb,bc⟩:=U0 hc
 have hH:look (OJ b k t (.tsl S es t) (.arr ty S n) s').H=upd (upd (look s'.H) b (.box BK (cs.set k (.tsl S es t)))) t (.arr ty S n):=by
  funext c;simp only[OJ,look];rw[D8];by_cases e:t=c
  ·simp[upd,e]
  ·by_cases W:b=c
   ·subst W;simp[upd,e,hb,bJ]
   ·simp[upd,e,W]
 rw[hH];show ∃ad,Zo ad M0 N D (look s'.T) _ a' w'∧_;obtain⟨tf,ar⟩:∃tf,tf=if φ t<w.heap.size then φ t else w'.heap.size+((s'.H.map (·.1)).map φ').foldr max 0+1:=⟨_,rfl⟩
 have U:φ t<w.heap.size→tf=φ t:=fun h=>by rw[ar,if_pos h]
 have af:¬φ t<w.heap.size→w'.heap.size≤tf:=fun h=>by rw[ar,if_neg h];omega
 have az:¬φ t<w.heap.size→n=0:=fun h=>by
  rcases r.hp.blk t _ ac with h0|⟨c,cap,Y,_⟩
  ·exact h0.1
  ·exact absurd (FL.1 Y).1 h
 have au:∀c,look s'.H c≠none→φ' c≠tf:=by
  intro c hc e;by_cases hlt:φ t<w.heap.size
  ·rw[U hlt] at e;exact r'.hp.fr c hc (n*S) (.inr ⟨e,Kz _,by rw[e];exact hlt⟩)
  ·have:=HY ((s'.H.map (·.1)).map φ') (φ' c) (List.mem_map_of_mem (YA.1 hc));rw[ar,if_neg hlt] at e;omega
 have aa:φ t<w.heap.size→w'.heap[φ t]?=w.heap[φ t]?:=fun hlt=>E'.same (φ t) hlt fun c hc e=>rd.hp.fr c hc (n*S) (.inr ⟨e,Kz _,by rw[e];exact hlt⟩)
 have aw:∀c,look (shr K s).H c≠none→look s.H c≠none:=fun c hb=>by
  cases hq:look (shr K s).H c with
 |none=>exact absurd hq hb
 |some k'=>obtain⟨k,Y,_⟩:=hh c k' hq;rw[Y];simp
 have ak:∀x o,R4 φ (look (shr K s).H) x o→R4 φ (look s.H) x o:=by
  rintro x o ⟨c,k',Y,Z,h3⟩;obtain⟨k,h4,h5⟩:=hh c k' Y;refine⟨c,k,h4,Z,?_⟩;cases k with
 |arr ty S n=>simp only[leB] at h5;subst h5;exact h3
 |_=>trivial
 let h0:QO:=upd (upd (look s'.H) b (.box BK (cs.set k (.tsl S es t)))) t (.arr ty S n)
 have am:h0 t=some (.arr ty S n):=by simp[h0,upd]
 have aq:h0 b=some (.box BK (cs.set k (.tsl S es t))):=by simp[h0,upd,Ne.symm a8]
 have ab:∀c,¬t=c→¬b=c→h0 c=look s'.H c:=fun c O W=>by simp[h0,upd,O,W]
 have G:∀c,¬t=c→Qy φ' t tf c=φ' c:=fun c e=>by simp[Qy,e]
 have J:Qy φ' t tf t=tf:=by simp[Qy]
 have ai:∀x o,R4 (Qy φ' t tf) h0 x o→R4 φ' (look s'.H) x o∨(x=tf∧n*S≤o):=by
  rintro x o ⟨c,q,Y,Z,h3⟩;by_cases O:t=c
  ·subst O;rw[am] at Y;cases Y;rw[J] at Z;exact .inr ⟨Z.symm,h3⟩
  ·rw[G c O] at Z;by_cases W:b=c
   ·subst W;exact .inl ⟨b,_,hb,Z,trivial⟩
   ·rw[ab c O W] at Y;exact .inl ⟨c,q,Y,Z,h3⟩
 have a6:∀x o,x<w'.heap.size→MM (Qy φ' t tf) h0 M0 x o→MM φ' (look s'.H) (CS φ w t S n M0) x o:=by
  rintro x o hx (h|h)
  ·rcases ai x o h with h|⟨Y,Z⟩
   ·exact .inl h
   ·by_cases hlt:φ t<w.heap.size
    ·rw[U hlt] at Y;exact .inr (.inr ⟨Y,Z,by rw[Y];exact hlt⟩)
    ·have:=af hlt;omega
  ·exact .inr (.inl h)
 have ae:∀c q,look s'.H c=some q→¬t=c:=fun c q hc e=>by subst e;rw[a7] at hc;cases hc
 have ah:∀c q,look s'.H c=some q→b=c→q=.box BK cs:=fun c q hc e=>by subst e;rw[hb] at hc;exact(Option.some.inj hc).symm
 have X:YZ φ' (look s'.H) w' (Qy φ' t tf) h0 w':=by
  refine⟨fun c t' cs' hc=>⟨?_,G c (ae c _ hc)⟩,fun c t' S n hc=>?_,fun c t' S n hc=>?_,fun c k' x hc ho=>?_⟩
  ·by_cases e:b=c
   ·subst e;exact⟨_,_,aq⟩
   ·exact⟨t',cs',by rw[ab c (ae c _ hc) e];exact hc⟩
  ·have e:¬b=c:=fun e=>by cases ah c _ hc e
   exact⟨n,by rw[ab c (ae c _ hc) e];exact hc,Kz _,fun _=>Yy (G c (ae c _ hc)) rfl⟩
  ·have e:¬b=c:=fun e=>by cases ah c _ hc e
   exact⟨n,by rw[ab c (ae c _ hc) e];exact hc,Kz _,fun _=>⟨G c (ae c _ hc),fun c ba=>⟨c,ba,rfl⟩⟩⟩
  ·have e:¬b=c:=fun e=>by rw[ah c _ hc e] at ho;cases ho
   exact⟨⟨k',by rw[ab c (ae c _ hc) e];exact hc,ho⟩,G c (ae c _ hc)⟩
 have aj:∀x o v,w'.cell? ⟨x,o,none⟩=some v→¬MM φ' (look s'.H) (CS φ w t S n M0) x o→w'.cell? ⟨x,o,none⟩=some v∧¬MM (Qy φ' t tf) h0 M0 x o:=fun x o v Y Z=>⟨Y,fun hm=>Z (a6 x o (DD Y) hm)⟩
 have ay:Qe (Qy φ' t tf) h0 w' (MM (Qy φ' t tf) h0 M0) (.tsl S es t) u:=by
  simp only[Qe] at ao ⊢;obtain⟨p1,VG,n2,p2,p3,p4⟩:=ao;rw[ac] at p2;cases p2;refine⟨(Z0 (w:=w) (w':=w') (M:=MM φ (look s.H) M0) (fun x o v g1 g2=>?_)).1 _ _ p1,ty,n,am,by omega,fun _=>?_⟩;rotate_left
  ·rcases p4 hn with⟨z1,z2,z3⟩|⟨cap,c2,q1,q2,q3,q4,q5⟩
   ·have hlt:¬φ t<w.heap.size:=fun h=>by have:=Af z3;omega
    exact .inl ⟨z1,z2,by rw[J];exact Z6 (af hlt)⟩
   ·have hlt:φ t<w.heap.size:=(FL.1 q2).1;exact .inr ⟨cap,c2,by rw[J,U hlt];exact q1,by rw[J,U hlt,aa hlt];exact q2,q3,q4,q5⟩
  obtain⟨g3,g4⟩:=E'.keeps (CS φ w t S n M0) x o v g1 (fun hm=>g2 (bb x o hm));exact aj x o v g3 g4
 refine⟨Qy φ' t tf,⟨?_,r'.siz,⟨?_,?_,?_,fun x o hx=>r'.hp.lt x o (.inl hx),r'.hp.gm.w,fun g hg o hm=>r'.hp.gm.m g hg o (a6 g o (zi r'.hp.gm.w g hg) hm)⟩,fun c x av=>⟨(r'.tm c x av).1,(QH aj X).1 _ _ (r'.tm c x av).2⟩⟩,?_,(QH aj X).1⟩
 ·obtain⟨g0,ms,g1,g2,g3⟩:=r'.dfs;refine⟨g0,ms,g1,g2,fun x hx=>?_⟩;obtain⟨g4,g5,g6⟩:=g3 x hx;refine⟨g4,g5,fun c hc e=>?_⟩;by_cases O:t=c
  ·subst O;rw[J] at e;by_cases hlt:φ t<w.heap.size
   ·rw[U hlt] at e;rcases r.hp.blk t _ ac with⟨_,q1⟩|⟨c2,cap,q1,_⟩
    ·rw[←e,aa hlt,q1] at g5;cases g5
    ·rw[←e,aa hlt,q1] at g5;cases g5
   ·have Y:=af hlt;have Z:=(FL.1 g5).1;omega
  ·rw[G c O] at e;refine g6 c ?_ e;by_cases W:b=c
   ·subst W;rw[hb];simp
   ·rw[←ab c O W];exact hc
 ·have an:∀c,h0 c≠none→¬t=c→look s'.H c≠none:=fun c hc O=>by
   by_cases W:b=c
   ·subst W;rw[hb];simp
   ·rw[←ab c O W];exact hc
  intro c d hc hd e;by_cases O:t=c<;>by_cases W:t=d
  ·exact O.symm.trans W
  ·subst O;rw[J,G d W] at e;exact absurd e.symm (au d (an d hd W))
  ·subst W;rw[J,G c O] at e;exact absurd e (au c (an c hc O))
  ·rw[G c O,G d W] at e;exact r'.hp.inj c d (an c hc O) (an d hd W) e
 ·intro c q hc;by_cases O:t=c
  ·subst O;have:q=.arr ty S n:=Option.some.inj (hc.symm.trans am);subst this;rw[J];by_cases hlt:φ t<w.heap.size
   ·rw[U hlt];rcases r.hp.blk t _ ac with⟨q0,q1⟩|⟨c2,cap,q1,q2⟩
    ·exact .inl ⟨q0,by rw[aa hlt];exact q1⟩
    ·exact .inr ⟨c2,cap,by rw[aa hlt];exact q1,q2⟩
   ·exact .inl ⟨az hlt,Z6 (af hlt)⟩
  ·rw[G c O];by_cases W:b=c
   ·subst W;have:q=.box BK (cs.set k (.tsl S es t)):=Option.some.inj (hc.symm.trans aq);subst this;obtain⟨c1,g1,g2⟩:=r'.hp.blk b _ hb;obtain⟨u',g3,g4⟩:=Ut g2 bc;simp only[Qe,QM] at g4;subst g4;exact⟨c1,g1,Xi ((QH aj X).2 _ _ g2) g3 ay⟩
   ·have hc':look s'.H c=some q:=by rw[←ab c O W];exact hc
    exact Z4 aj X rfl (r'.hp.blk c q hc')
 ·intro c hc o hm;by_cases O:t=c
  ·subst O;rw[J] at hm;by_cases hlt:φ t<w.heap.size
   ·rw[U hlt] at hm;exact r.hp.fr t (by rw[ac];simp) o hm
   ·have Y:=af hlt;have Z:=r'.hp.lt _ _ (.inl hm);omega
  ·rw[G c O] at hm;refine r'.hp.fr c ?_ o (.inl hm);by_cases W:b=c
   ·subst W;rw[hb];simp
   ·rw[←ab c O W];exact hc
 ·have al:∀c q,1000≤c→¬t=c→look s.H c=some q→∃q',look (shr K s).H c=some q'∧leB q q':=by
   intro c q hc O hq
   have hf:look (s.H.filter fun p=>p.1 != t) c=some q:=by
    rw[BD (f:=fun x=>x != t) (by simpa using fun e=>O e.symm)];exact hq
   obtain⟨q',Y⟩:=K3 hK c _ hc hf;obtain⟨q2,Z,h3⟩:=hh c q' Y;rw[hq] at Z;cases Z;exact⟨q',Y,h3⟩
  refine⟨E'.os,E'.tape,E'.output,E'.size,fun x hx ax=>E'.same x hx (fun c hc=>ax c (aw c hc)),fun x o hx hm=>E'.cell x o hx (fun h=>hm (ak x o h)),?_,?_,?_,?_,?_⟩
  ·intro x o hx hm;rcases ai x o hm with h|⟨Y,h⟩
   ·exact ak x o (E'.mu x o hx h)
   ·by_cases hlt:φ t<w.heap.size
    ·rw[U hlt] at Y;exact⟨t,_,ac,Y.symm,h⟩
    ·have:=af hlt;have:=E'.size;omega
  ·intro c t' q hc hq;have O:¬t=c:=fun e=>by subst e;rw[ac] at hq;cases hq
   obtain⟨q',Y,Z⟩:=al c _ hc O hq;simp only[leB] at Z;obtain⟨cs',rfl,_⟩:=Z;obtain⟨⟨bd,h3⟩,h4⟩:=E'.kb c t' cs' hc Y;refine⟨?_,by rw[G c O];exact h4⟩;by_cases W:b=c
   ·subst W;rw[hb] at h3;cases h3;exact⟨_,aq⟩
   ·exact⟨bd,(ab c O W).trans h3⟩
  ·intro c t' S' n' hc hq;by_cases O:t=c
   ·subst O;rw[ac] at hq;cases hq;refine⟨n,am,Kz _,fun _=>?_⟩;by_cases hlt:φ t<w.heap.size
    ·exact Yy (J.trans (U hlt)) (aa hlt)
    ·exact Bh (Z6 zo) (by rw[J];exact Z6 (af hlt))
   ·obtain⟨q',Y,Z⟩:=al c _ hc O hq;simp only[leB] at Z;subst Z;obtain⟨n2,h3,h4,h5⟩:=E'.kt c t' S' n' hc Y;have W:¬b=c:=fun e=>by cases ah c _ h3 e
    exact⟨n2,(ab c O W).trans h3,h4,fun e=>by rw[G c O];exact h5 e⟩
  ·intro c t' S' es' hc hq;have O:¬t=c:=fun e=>by subst e;rw[ac] at hq;cases hq
   obtain⟨q',Y,Z⟩:=al c _ hc O hq;simp only[leB] at Z;subst Z;obtain⟨n2,h3,h4,h5⟩:=E'.kv c t' S' es' hc Y;have W:¬b=c:=fun e=>by cases ah c _ h3 e
   exact⟨n2,(ab c O W).trans h3,h4,fun e=>⟨by rw[G c O];exact(h5 e).1,(h5 e).2⟩⟩
  ·intro c q x hc hq ho;have O:¬t=c:=fun e=>by subst e;rw[ac] at hq;cases hq;cases ho
   obtain⟨q',Y,Z⟩:=al c _ hc O hq;obtain⟨⟨q2,h3,h4⟩,h5⟩:=E'.ko c q' x hc Y (XJ Z ho);have W:¬b=c:=fun e=>by rw[ah c _ h3 e] at h4;cases h4
   exact⟨⟨q2,(ab c O W).trans h3,h4⟩,by rw[G c O];exact h5⟩
section
variable {R:Type}{a:Option R}{P:Program}{N:Nat}{f:FuncId}{args:List AV}{dst:Option Tmp}{s:St}{K:R→St→Prop}{Q:R→AX→St→Prop}
def QcZ{R:Type}(b k t:Nat)(x:AV)(q:Blk)(u:Value)(K:R→St→Prop):R→St→Prop:=fun r=>QcY b k t x q u (K r)
def Qc0{R:Type}(b k t:Nat)(x:AV)(q:Blk)(u:Value)(Q:R→AX→St→Prop):R→AX→St→Prop:=fun r e=>QcY b k t x q u (Q r e)
theorem WF(b k t ty S n:Nat)(es:List (List PV))(C:HZ)(hn:es.length=n)(hok:∀J O G,(IG t (XP b k (.p (.val (.slice J O G))) s) (shr C (XP b k (.p (.val (.slice J O G))) s))&&KF (look (shr C (XP b k (.p (.val (.slice J O G))) s)).H) args)=true)(h:∀J O G,Ci a P N f args dst (shr C (XP b k (.p (.val (.slice J O G))) s)) (QcZ b k t (.tsl S es t) (.arr ty S n) (.slice J O G) K) (Qc0 b k t (.tsl S es t) (.arr ty S n) (.slice J O G) Q))(hb:cellAt b k s=some (.tsl S es t):=by kernel_rfl)(aa:look s.H t=some (.arr ty S n):=by kernel_rfl):Ci a P N f args dst s K Q:=by
 refine⟨fun r hr=>?_⟩;intro φ M0 D G w vs r1 ha;obtain⟨kW,cs,hq,Lp⟩:=U0 hb;obtain⟨c,g1,g2⟩:=r1.hp.blk b _ hq;obtain⟨u,g3,g4⟩:=Ut g2 Lp
 have Z:∃J O G,u=.slice J O G:=by
  have g5:=g4;simp only[Qe] at g5;obtain⟨p1,VG,n2,p2,p3,p4⟩:=g5;rw[aa] at p2;cases p2;rcases p4 hn with⟨_,q1,_⟩|⟨cap,c2,q1,_⟩
  ·exact⟨_,_,_,q1⟩
  ·exact⟨_,_,_,q1⟩
 obtain⟨J,O,ai,Z⟩:=Z;have ad:¬b=t:=fun e=>by subst e;rw[hq] at aa;cases aa
 have hU:look (XP b k (.p (.val u)) s).H=upd (look s.H) b (.box kW (cs.set k (.p (.val u)))):=Ni hq;have hk:∀x o v,w.cell? ⟨x,o,none⟩=some v→¬MM φ (look s.H) M0 x o→w.cell? ⟨x,o,none⟩=some v∧¬MM φ (upd (look s.H) b (.box kW (cs.set k (.p (.val u))))) M0 x o:=fun x o v g1 g2=>⟨g1,fun hm=>g2 (hm.imp (Nj hq x o) id)⟩
 have r2:Zo φ M0 N D (look (XP b k (.p (.val u)) s).T) (look (XP b k (.p (.val u)) s).H) G w:=by
  rw[hU];refine SB r1 hq fun c2 af=>?_
  rw[g1] at af;cases af;exact Xi g2 g3 (by simp[Qe,QM])
 have ae:look (XP b k (.p (.val u)) s).H t=some (.arr ty S n):=by rw[hU];simp[upd,ad,aa]
 have ab:Qe φ (look (XP b k (.p (.val u)) s).H) w (MM φ (look (XP b k (.p (.val u)) s).H) M0) (.tsl S es t) u:=by
  rw[hU];exact(QH hk (Di hq)).1 _ _ g4
 have E1:Q8 φ (look s.H) w φ (look (XP b k (.p (.val u)) s).H) w:=by rw[hU];exact Dj hq
 have ak:Qg φ (look (XP b k (.p (.val u)) s).H) w (MM φ (look (XP b k (.p (.val u)) s).H) M0) args vs:=by
  rw[hU];exact(QH hk (Di hq)).2 _ _ ha
 have Y:=hok J O ai;rw[←Z] at Y;simp only[Z8] at Y;obtain⟨U,ah⟩:=Y;obtain⟨r3,c1,hh,am⟩:=wP r2 ae U;have aj:=(M7 (φ:=φ) (w:=w) am hh).2 _ _ ah ak;have hu:=h J O ai;rw[←Z] at hu;refine Calls.mono (hu.h r hr φ _ D G w vs r3 aj) fun e w' he=>?_
 cases e with
|returned v =>
  obtain⟨φ',s',⟨k1,k2,k3⟩,r',E'⟩:=he;obtain⟨W,r4,E4,_⟩:=wQ r2 ae U hn ad ab k1 k2 r' E';exact⟨W,_,k3,r4,E1.trans E4⟩
|panicked chain =>
  obtain⟨φ',x,s',⟨k1,k2,k3⟩,r',E',hx⟩:=he;obtain⟨W,r4,E4,hX⟩:=wQ r2 ae U hn ad ab k1 k2 r' E';refine⟨W,x,_,k3,r4,E1.trans E4,?_⟩;cases x with
 |panic v =>
   obtain⟨y,e1,e2⟩:=hx;exact⟨y,e1,hX _ _ e2⟩
 |_=>exact hx
|outgrown=>exact he
theorem Xj{k t:Nat}{x:AV}{q:Blk}{u:Value}(s0:St)(e:OJ b k t x q s'=s0)(h:Tf a K s0)(hb:cellAt b k s'=some (.p (.val u)):=by kernel_rfl)(G:look s'.H t=none:=by kernel_rfl):Tf a (QcZ b k t x q u K) s':=by
 subst e;exact⟨fun r J=>⟨hb,G,h.h r J⟩⟩
theorem Qd9{k t:Nat}{x:AV}{q:Blk}{u:Value}{ex:AX}(s0:St)(e:OJ b k t x q s'=s0)(hb:cellAt b k s'=some (.p (.val u)))(G:look s'.H t=none)(h:ZI a Q ex s0):ZI a (Qc0 b k t x q u Q) ex s':=by
 subst e;exact⟨fun r J=>⟨hb,G,h.h r J⟩⟩
end
section
variable {P:Program}{o:Oper}{T:Nat→Option AV}{h:QO}
theorem wR(l:List UInt8)(a b:Nat):(WN l).extract a b=WN ((l.take b).drop a):=by
 apply ByteArray.ext;simp[WN,ByteArray.data_extract,List.drop_take]
theorem aR(l:List UInt8):(WN l).size=l.length:=by simp[WN,ByteArray.size]
theorem Y3{P:Program}{s:Sem α}{a:α}(f:α→Sem β)(h:YL P s=some a):YL P (s >>= f)=YL P (f a):=by
 induction s with
|pure b=>simp only[YL,Q0] at h;subst h;rfl
|program k G=>exact G P h
|mark m k G=>exact G h
|_=>simp[YL] at h
theorem CU{t:TypeId}{d:TypeDesc}(h:P.underlying t=some d):YL P (underlying t)=some d:=by
 unfold underlying;rw[Y3 (a:=P) _ rfl,h];rfl
theorem Nk{k:IntKind}{i:Int}{y:Nat}{c:BoundsCode}(h0:0≤i)(G:i≤y):YL P (Instr.sliceBound (.int k i) y c)=some i.toNat:=by
 simp[Instr.sliceBound,asIntOf,h0,G];rfl
def dV(T:Nat→Option AV)(x:Option Operand):Option Value:=x.map fun y=>(known T y).getD undef
theorem II{d n:Int}(h:Da T d (some x)=some n):∃k,known T x=some (.int k n):=by
 simp only[Da] at h;split at h
 ·rename_i k m G;cases h;exact⟨k,by simp[known,G];rfl⟩
 ·cases h
theorem bK{a b:Int}(G:Da T 0 lo=some a)(J:Da T len hi=some b)(h0:0≤a)(Y:a≤b)(W:b≤len):YL P (Instr.sliceBounds false len len (dV T lo) (dV T hi) none)=some (a.toNat,b.toNat,len):=by
 have hb:(b.toNat:Int)=b:=by omega
 cases hi with
|none =>
  simp only[Da,Q0] at J;subst J;cases lo with
 |none =>
   simp only[Da,Q0] at G;subst G;simp[Instr.sliceBounds,dV];rfl
 |some x =>
   obtain⟨k,U⟩:=II G;simp only[Instr.sliceBounds,dV,Option.map_some,Option.map_none,U,Option.getD_some,pure_bind];rw[Y3 _ (Nk h0 Y)];rfl
|some y =>
  obtain⟨k',O⟩:=II J;cases lo with
 |none =>
   simp only[Da,Q0] at G;subst G;simp only[Instr.sliceBounds,dV,Option.map_some,Option.map_none,O,Option.getD_some,pure_bind];rw[Y3 _ (Nk zo W)];rfl
 |some x =>
   obtain⟨k,U⟩:=II G;simp only[Instr.sliceBounds,dV,Option.map_some,U,O,Option.getD_some,pure_bind];rw[Y3 _ (Nk zo W)];rw[Y3 _ (Nk h0 zo)];rfl
theorem BF{t:TypeId}{l:List UInt8}{a b:Int}(Y:o.op=.slice t x lo hi none)(Z:P.underlying t=some .string)(hx:Zp T x=some (.p (.val (.string (WN l)))))(W:Da T 0 lo=some a)(J:Da T l.length hi=some b)(hc:sliceB a b l.length=true):Jb P o T h=some (.p (.val (.string (WN ((l.take b.toNat).drop a.toNat)))),none,[]):=by
 simp only[sliceB,Bg] at hc;obtain⟨c1,c2,c3⟩:=hc;have h1:GQ P T t x lo hi none=none:=by simp[GQ,Z,hx]
 have G:known T x=some (.string (WN l)):=by simp[known,hx];rfl
 have O:(allKnown T o.op.operands.toList&&Xq o.op)=true:=by
  rw[Y]
  have e1:∀y,lo=some y→(known T y).isSome=true:=by
   rintro y rfl;obtain⟨k,G⟩:=II W;rw[G];rfl
  have e2:∀y,hi=some y→(known T y).isSome=true:=by
   rintro y rfl;obtain⟨k,G⟩:=II J;rw[G];rfl
  cases lo with
 |none =>
   cases hi with
  |none=>simp[Op.operands,allKnown,Xq,G]
  |some y=>simp[Op.operands,allKnown,Xq,G,e2 y rfl]
 |some x =>
   cases hi with
  |none=>simp[Op.operands,allKnown,Xq,G,e1 x rfl]
  |some y=>simp[Op.operands,allKnown,Xq,G,e1 x rfl,e2 y rfl]
 have U:YL P (execOp (fun x=>(known T x).getD undef) o)=some (.value (.string (WN ((l.take b.toNat).drop a.toNat)))):=by
  unfold execOp;rw[Y];dsimp only
  have:YL P (Instr.sliceAt t ((known T x).getD undef) (dV T lo) (dV T hi) none)=some (.string (WN ((l.take b.toNat).drop a.toNat))):=by
   rw[G];unfold Instr.sliceAt;rw[Y3 _ (CU Z)];show YL P (Instr.slice t (.string (WN l)) (dV T lo) (dV T hi) none)=_;unfold Instr.slice;rw[Y3 _ (CU Z)];have hB:=bK (P:=P) (T:=T) W J c1 c2 c3;rw[←aR l] at hB
   have:YL P (Instr.sliceBounds false (WN l).size (WN l).size (dV T lo) (dV T hi) none >>= fun x=>(pure (.string ((WN l).extract x.1 x.2.1)):Sem Value))=some (.string (WN ((l.take b.toNat).drop a.toNat))):=by
    rw[Y3 _ hB,wR];rfl
   exact this
  exact(Y3 _ this)
 simp only[Jb,Y,h1,R5];unfold Ht;rw[if_pos O,U];rfl
end
def QbJ:AV→Bool|.p (.val (.slice none 0 0))=>true|.vnil=>true|_=>false
theorem wS{x:AV}(G:QbJ x=true)(J:Qe φ h w M x v):v=.slice none 0 0:=by
 unfold QbJ at G;split at G
 ·simpa [Qe,QM] using J
 ·simpa [Qe] using J
 ·cases G
def pnC(S t:Nat):List (Nat×Nat)→St→St|[],s=>s|(b,k)::l,s=>pnC S t l (XP b k (.tsl S [] t) s)
def QbK(S t:Nat):List (Nat×Nat)→St→Bool
|[],_=>true
|(b,k)::l,s=>(match cellAt b k s with|some x=>QbJ x|none=>false)&&QbK S t l (XP b k (.tsl S [] t) s)
def pnS(ty S t:Nat)(ts:List Nat)(bs:List (Nat×Nat))(s:St):St:=pnC S t bs ⟨ts.map (fun x=>(x,AV.tsl S [] t))++s.T,(t,.arr ty S 0)::s.H⟩
def QfN(ty S t:Nat)(ts:List Nat)(bs:List (Nat×Nat))(s:St):Bool :=
 (look s.H t).isNone&&ts.all (fun x=>match look s.T x with|some v=>QbJ v|none=>false)&&QbK S t bs ⟨ts.map (fun x=>(x,AV.tsl S [] t))++s.T,(t,.arr ty S 0)::s.H⟩
def QbL(φ:Nat→Nat)(h:QO)(w:World)(ty S t:Nat):Prop:=w.heap[φ t]?=none∧h t=some (.arr ty S 0)
theorem aS{ty S t:Nat}(p:QbL φ h w ty S t):Qe φ h w M (.tsl S [] t) (.slice none 0 0):=by
 simp only[Qe,QM];exact⟨.inr ⟨trivial,none,0,rfl⟩,ty,0,p.2,Kz _,fun _=>.inl (by simp[p.1])⟩
theorem aU{N:Nat}{D:DB}{φ:Nat→Nat}{M0:ZM}{a:Act}{w:World}{ty S t:Nat}:∀(bs:List (Nat×Nat)) (s:St),QbK S t bs s=true→QbL φ (look s.H) w ty S t→Zo φ M0 N D (look s.T) (look s.H) a w →
  Zo φ M0 N D (look (pnC S t bs s).T) (look (pnC S t bs s).H) a w∧Q8 φ (look s.H) w φ (look (pnC S t bs s).H) w
|[],s,_,_,r=>⟨r,Q8.refl _ _ _⟩
|(b,k)::bs,s,h,p,r=>by
  simp only[QbK,Z8] at h;obtain⟨J,Y⟩:=h;cases hc:cellAt b k s with
 |none=>rw[hc] at J;cases J
 |some x =>
   rw[hc] at J;obtain⟨kW,cs,hb,U⟩:=U0 hc;have W:=Ni (k:=k) (x:=.tsl S [] t) hb;have O:¬b=t:=fun e=>by rw[e,p.2] at hb;cases hb
   have Z:QbL φ (look (XP b k (.tsl S [] t) s).H) w ty S t:=⟨p.1,by rw[W];simp[upd,O,p.2]⟩
   have r':Zo φ M0 N D (look (XP b k (.tsl S [] t) s).T) (look (XP b k (.tsl S [] t) s).H) a w:=by
    rw[W];refine SB r hb fun c G=>?_
    obtain⟨c0,g1,g2⟩:=r.hp.blk b _ hb;rw[g1] at G;cases G;obtain⟨u,g3,g4⟩:=Ut g2 U;rw[wS J g4] at g3;exact Xi g2 g3 (aS p)
   obtain⟨r2,E2⟩:=aU bs (XP b k (.tsl S [] t) s) Y Z r';have E1:Q8 φ (look s.H) w φ (look (XP b k (.tsl S [] t) s).H) w:=by rw[W];exact Dj hb
   exact⟨r2,E1.trans E2⟩
theorem wU{S t:Nat}{T:List (Nat×AV)}:∀(ts:List Nat) (x:Nat),look (ts.map (fun x=>(x,AV.tsl S [] t))++T) x=if x∈ts then some (.tsl S [] t) else look T x
|[],x=>by simp
|y::ts,x=>by
  simp only[WV,List.cons_append,look,List.mem_cons];by_cases e:y=x
  ·simp[e]
  ·have G:¬x=y:=fun h=>e h.symm
   simp only[e,G,if_false,false_or];exact wU ts x
theorem Kw(ty S t:Nat)(ts:List Nat)(bs:List (Nat×Nat))(hok:QfN ty S t ts bs s=true:=by kernel_rfl):Weak N s (pnS ty S t ts bs s):=by
 intro φ M0 D a w r;simp only[QfN,Z8] at hok;obtain⟨⟨h1,h2⟩,Z⟩:=hok;have hn:look s.H t=none:=by cases e:look s.H t with|none=>rfl|some x=>rw[e] at h1;cases h1
 obtain⟨f,hf⟩:∃f,f=w.heap.size+((s.H.map (·.1)).map φ).foldr max 0+1:=⟨_,rfl⟩
 have ac:∀c,look s.H c≠none→φ c≠f:=by
  intro c hc e;have:=HY ((s.H.map (·.1)).map φ) (φ c) (List.mem_map_of_mem (YA.1 hc));omega
 have aa:w.heap.size≤f:=by omega
 have hne:∀c q,look s.H c=some q→¬t=c:=fun c q hc e=>by rw[e] at hn;rw[hn] at hc;cases hc
 have G:Qy φ t f t=f:=by simp[Qy]
 have X:YZ φ (look s.H) w (Qy φ t f) (upd (look s.H) t (.arr ty S 0)) w:=by
  refine⟨fun c U cs' hc=>?_,fun c U S n hc=>?_,fun c U S n hc=>?_,fun c k' x hc ho=>?_⟩
  ·have:=hne c _ hc;exact⟨⟨U,cs',by simp[upd,this,hc]⟩,by simp[Qy,this]⟩
  ·have:=hne c _ hc;exact⟨n,by simp[upd,this,hc],Kz _,fun _=>Yy (by simp[Qy,this]) rfl⟩
  ·have:=hne c _ hc;exact⟨n,by simp[upd,this,hc],Kz _,fun _=>⟨by simp[Qy,this],fun c ad=>⟨c,ad,rfl⟩⟩⟩
  ·have:=hne c _ hc;exact⟨⟨k',by simp[upd,this,hc],ho⟩,by simp[Qy,this]⟩
 have ab:∀x o,x<w.heap.size→R4 (Qy φ t f) (upd (look s.H) t (.arr ty S 0)) x o→R4 φ (look s.H) x o:=by
  rintro x o O ⟨c,q,g1,g2,g3⟩;by_cases e:t=c
  ·simp only[Qy,e,if_true] at g2;omega
  ·simp only[upd,Qy,e,if_false] at g1 g2;exact⟨c,q,g1,g2,g3⟩
 have E:Q8 φ (look s.H) w (Qy φ t f) (upd (look s.H) t (.arr ty S 0)) w :=
  ⟨rfl,rfl,rfl,Kz _,fun _ _ _=>rfl,fun _ _ _ _=>rfl,fun x o O J=>ab x o O J,
   fun c U cs _ hc=>by have:=hne c _ hc;exact⟨⟨cs,by simp[upd,this,hc]⟩,by simp[Qy,this]⟩,fun c U S n _ hc=>X.t c U S n hc,fun c U S n _ hc=>X.v c U S n hc,fun c k x _ hc ho=>X.o c k x hc ho⟩
 have hp:ZQ (Qy φ t f) (upd (look s.H) t (.arr ty S 0)) w M0:=by
  refine⟨fun c d hc hd e=>?_,fun c q hc=>?_,fun c hc o J=>?_,r.hp.lt,r.hp.gm.evol E⟩
  ·by_cases Y:t=c<;>by_cases W:t=d
   ·exact Y.symm.trans W
   ·have e3:¬c=d:=fun x=>W (Y.trans x)
    simp only[Qy,Y,if_true,e3,if_false] at e;simp only[upd,W,if_false] at hd;exact absurd e.symm (ac d hd)
   ·have e3:¬d=c:=fun x=>Y (W.trans x)
    simp only[Qy,W,if_true,e3,if_false] at e;simp only[upd,Y,if_false] at hc;exact absurd e (ac c hc)
   ·simp only[Qy,Y,W,if_false] at e;simp only[upd,Y,W,if_false] at hc hd;exact r.hp.inj c d hc hd e
  ·by_cases e:t=c
   ·have:q=.arr ty S 0:=by simpa [upd,e] using hc.symm
    subst this;rw[←e,G];exact .inl ⟨rfl,Z6 aa⟩
   ·have hc':look s.H c=some q:=by simpa [upd,e] using hc
    have Z:Qy φ t f c=φ c:=by simp[Qy,e]
    rw[Z];exact Z4 (E.keeps M0) X rfl (r.hp.blk c q hc')
  ·by_cases e:t=c
   ·rw[←e,G] at J;have:=r.hp.lt _ _ J;omega
   ·have Z:Qy φ t f c=φ c:=by simp[Qy,e]
    rw[Z] at J;exact r.hp.fr c (by simpa [upd,e] using hc) o J
 have r1:=r.keep E X hp;have pa:QbL (Qy φ t f) (upd (look s.H) t (.arr ty S 0)) w ty S t:=⟨by rw[G];exact Z6 aa,by simp[upd]⟩
 let s1:St:=⟨ts.map (fun x=>(x,AV.tsl S [] t))++s.T,(t,.arr ty S 0)::s.H⟩
 have r2:Zo (Qy φ t f) M0 N D (look s1.T) (look s1.H) a w:=by
  refine⟨r1.dfs,r1.siz,r1.hp,fun x v O=>?_⟩;rw[wU] at O;by_cases J:x∈ts
  ·rw[if_pos J] at O;cases O;have h4:=X5.1 h2 x J;cases hl:look s.T x with
  |none=>rw[hl] at h4;cases h4
  |some y =>
    rw[hl] at h4;obtain⟨g1,g2⟩:=r1.tm x y hl;refine⟨g1,?_⟩;rw[wS h4 g2];exact aS pa
  ·rw[if_neg J] at O;exact r1.tm x v O
 obtain⟨r3,E3⟩:=aU (ty:=ty) bs s1 Z pa r2;exact⟨_,r3,E.trans E3⟩
section
variable {P:Program}{o:Oper}{T:Nat→Option AV}{h:QO}
def VY(lo hi G:Int)(len:Nat):Bool:=decide (0≤lo∧lo≤hi∧hi≤G∧G≤len)
theorem Uu{t:TypeId}{z:Operand}{S:Nat}{l:List α}{a b c:Int}(ho:o.op=.slice t x lo (some y) (some z))(ht:P.underlying t=some (.slice e))(J:(P.info? e).map (·.size)=some S)(hx:Zp T x=some sv)(hs:elems sv=some (S,List.map enc l))(Y:Da T 0 lo=some a)(G:Da T (List.map enc l).length (some y)=some b)(U:Da T (List.map enc l).length (some z)=some c)(hc:VY a b c l.length=true):Jb P o T h=some (.p (.sl S (List.map enc ((l.take b.toNat).drop a.toNat))),none,[]):=by
 obtain⟨i,O,Z⟩:=Gn.1 J;simp only[VY,Bg] at hc;have h1:=G8 (d:=0) Y hc.1;have h2:=G8 G zo;have W:=G8 U zo;have h3:a.toNat≤b.toNat:=by omega
 have h4:b.toNat≤l.length:=by omega
 have h5:S=i.size∧a.toNat≤b.toNat∧b.toNat≤(List.map enc l).length:=⟨Z.symm,h3,by simpa using h4⟩
 have h6:GQ P T t x lo (some y) (some z)=some (.p (.sl S (((List.map enc l).take b.toNat).drop a.toNat)),none,[]):=by
  simp only[GQ,ht,hx,hs,O,h1,h2,W];rw[if_pos h5,if_pos (by simp;omega)]
 simp only[Jb,ho,h6,R5,List.map_drop,List.map_take]
theorem Vr{w k:List UInt8}{f:Bool}{x:AV}{l:List (Bool×List UInt8×AV)}(h:(Qs w k&&f)=true):FQ w ((f,k,x)::l)=some x:=by simp only[FQ,h,if_true]
theorem Qq{w k:List UInt8}{f:Bool}{x:AV}{l:List (Bool×List UInt8×AV)}{q:Option AV}(h:(Qs w k&&f)=false)(G:FQ w l=q):FQ w ((f,k,x)::l)=q:=by simp only[FQ,h,Bool.false_eq_true,if_false];exact G
theorem fO{w:List UInt8}:FQ w []=none:=rfl
theorem Vs{t:TypeId}{w:List UInt8}{v:AV}(G:o.op=.lookup t x ix ok)(hf:FQ w es=some v)(J:P.underlying t=some (.map kt e):=by kernel_rfl)(O:P.underlying kt=some .string:=by kernel_rfl)(U:Zp T x=some (.mv b):=by kernel_rfl)(hi:Zp T ix=some (.p (.val (.string (WN w)))):=by kernel_rfl)(hb:h b=some (.mf es):=by kernel_rfl):
  Jb P o T h=some (TM ok v true,none,[b]):=by
 simp[Jb,R5,G,JY,Jr,J,O,U,hi,hb,Rt,hf]
theorem fP{t:TypeId}{w:List UInt8}(G:o.op=.lookup t x ix ok)(J:P.underlying t=some (.map kt e))(O:P.underlying kt=some .string)(W:Zp T x=some (.mv b))(hi:Zp T ix=some (.p (.val (.string (WN w)))))(hb:h b=some (.mf es))(U:(P.info? e).bind (·.zero)=some z)(hf:FQ w es=none) :
  Jb P o T h=some (TM ok (Ag z) false,none,[b]):=by
 simp[Jb,R5,G,JY,Jr,J,O,W,hi,hb,Rt,hf,U]
end
def aV(b:Nat)(k:Blk)(s:St):St:=⟨s.T,s.H.map fun p=>if p.1=b then(p.1,k) else p⟩
theorem D9{k:Blk}:∀(H:List (Nat×Blk)) (c:Nat),look H b=some k0→look (H.map fun p=>if p.1=b then(p.1,k) else p) c=upd (look H) b k c
|H,c,h0=>by
  have:∀(H:List (Nat×Blk)) (c:Nat),look (H.map fun p=>if p.1=b then(p.1,k) else p) c=if b=c then(look H c).map (fun _=>k) else look H c:=by
   intro H
   induction H with
  |nil=>intro c;simp[look]
  |cons p H J =>
    intro c;obtain⟨d,q⟩:=p;rw[WV];by_cases G:d=b
    ·subst G;simp only[if_true,look];by_cases e:d=c
     ·simp[e]
     ·simp only[e,if_false];rw[J];simp[e]
    ·simp only[G,if_false,look];by_cases e:d=c
     ·subst e;simp[Ne.symm G]
     ·simp only[e,if_false];exact J c
  rw[this];by_cases e:b=c
  ·subst e;simp[upd,h0]
  ·simp[upd,e]
theorem fQ(b:Nat)(es':List (Bool×List UInt8×AV))(hb:Qbh (look s.H b)=some es)(he:Lu es'=Lu es):Weak N s (aV b (.mf es') s):=by
 intro φ M0 D a w r;obtain⟨k0,G,J,en,clock,hw,W,O,U⟩:=lM hb r.hp;have hH:look (aV b (.mf es') s).H=upd (look s.H) b (.mf es'):=by funext c;exact D9 s.H c G
 rw[hH];show ∃φ',Zo φ' M0 N D (look s.T) _ a w∧_
 have Y:∀x o,R4 φ (upd (look s.H) b (.mf es')) x o→R4 φ (look s.H) x o:=by
  rintro x y ⟨d,q,g1,g2,g3⟩;by_cases e:b=d
  ·refine⟨b,_,G,by rw[e];exact g2,?_⟩;cases k0<;>first|trivial|cases J
  ·exact⟨d,q,by simpa [upd,e] using g1,g2,g3⟩
 have hne:∀c k,look s.H c=some k→k.ob=none→¬b=c:=fun c k hc hk e=>by rw[←e,G] at hc;cases hc;rw[hk] at J;cases J
 have X:YZ φ (look s.H) w φ (upd (look s.H) b (.mf es')) w:=by
  refine⟨fun c t q hc=>⟨⟨t,q,?_⟩,rfl⟩,fun c t S n hc=>⟨n,?_,Kz _,fun _=>Yy rfl rfl⟩,fun c t S n hc=>⟨n,?_,Kz _,fun _=>⟨rfl,fun c hc=>⟨c,hc,rfl⟩⟩⟩,fun c k x hc Z=>⟨?_,rfl⟩⟩
  ·simp[upd,hne c _ hc rfl,hc]
  ·simp[upd,hne c _ hc rfl,hc]
  ·simp[upd,hne c _ hc rfl,hc]
  ·by_cases e:b=c
   ·subst e;rw[G] at hc;cases hc;rw[J] at Z;exact⟨.mf es',by simp[upd],Z⟩
   ·exact⟨k,by simp[upd,e,hc],Z⟩
 have E:Q8 φ (look s.H) w φ (upd (look s.H) b (.mf es')) w :=
  ⟨rfl,rfl,rfl,Kz _,fun _ _ _=>rfl,fun _ _ _ _=>rfl,fun x o _ hm=>Y x o hm,
   fun c t cs _ hc=>⟨⟨cs,by simp[upd,hne c _ hc rfl,hc]⟩,rfl⟩,fun c t S n _ hc=>X.t c t S n hc,fun c t S n _ hc=>X.v c t S n hc,fun c k x _ hc Z=>X.o c k x hc Z⟩
 have g:∀d,upd (look s.H) b (.mf es') d≠none→look s.H d≠none:=fun d hd=>by
  by_cases e:b=d
  ·rw[←e,G];simp
  ·simpa [upd,e] using hd
 refine⟨φ,r.keep E X ⟨fun c d hc hd e=>r.hp.inj c d (g c hc) (g d hd) e,fun c q hc=>?_,fun c hc=>r.hp.fr c (g c hc),r.hp.lt,r.hp.gm.evol E⟩,E⟩;by_cases e:b=c
 ·subst e;have:q=.mf es':=by simpa [upd] using hc.symm
  subst this;exact⟨en,clock,hw,by rw[he];exact W,by rw[he];exact(QH (E.keeps M0) X).2 _ _ O,U⟩
 ·have hc':look s.H c=some q:=by simpa [upd,e] using hc
  exact Z4 (E.keeps M0) X rfl (r.hp.blk c q hc')
theorem QY(G:P.underlying kt=some .string)(a b:List UInt8):eqV P 4 kt (.string (WN a)) (.string (WN b))=some (Qs a b):=by
 have:=fe G (WN a) b;rw[Rt] at this;exact this
end Go.Abs
namespace Go.Abs
open Go Go.ChangeShapes Go.WideShapes
variable {b base d:Nat}{h:QO}{n off:Nat}{v:Value}
def Nl(P:Program)(total:Nat):Nat→List Field→Bool|off,[]=>off==total|off,f::r=>f.offset==off&&Nl P total (off+P.cellsOf f.type) r
def U1(P:Program):Nat→TypeId→Bool
|0,_=>false
|d+1,t=>match P.underlying t with
 |some .bool=>P.cellsOf t==1
 |some (.int _)=>P.cellsOf t==1
 |some .string=>P.cellsOf t==1
 |some (.slice e)=>P.cellsOf t==1&&Nat.blt 0 (P.cellsOf e)&&U1 P d e
 |some (.struct G)=>Nl P (P.cellsOf t) 0 G.toList&&G.toList.all (fun f=>U1 P d f.type)
 |some (.array n e)=>n*P.cellsOf e==P.cellsOf t&&U1 P d e
 |_=>false
def Qea(S:TypeId→List PV→Prop):List Field→List PV→Prop|[],cs=>cs=[]|f::r,cs=>∃a b,cs=a++b∧S f.type a∧Qea S r b
def ShN(S:List PV→Prop):Nat→List PV→Prop|0,cs=>cs=[]|n+1,cs=>∃a b,cs=a++b∧S a∧ShN S n b
def Sh(P:Program):Nat→TypeId→List PV→Prop
|0,_,_=>False
|d+1,t,cs=>match P.underlying t with
 |some .bool=>∃b,cs=[.val (.bool b)]
 |some (.int k)=>∃n,cs=[.val (.int k n)]∧(Lit.int k n).wf=true
 |some .string=>∃s:List UInt8,cs=[.val (.string (WN s))]∧s.length≤maxLen
 |some (.slice e)=>∃es,cs=[.sl (P.cellsOf e) es]∧es.length≤maxLen∧∀x∈es,Sh P d e x
 |some (.struct G)=>Qea (Sh P d) G.toList cs
 |some (.array n e)=>ShN (Sh P d e) n cs
 |_=>False
section
variable {H:Type}{enc:TypeId×Value→H}{P:Program}{w:World}{held:Bool}{φ:Nat→Nat}{M:ZM}
theorem IJ{a:Addr}{G:List Value}(h:w.cells? base a n=some G):G.length=n∧∀i,i<n→w.cell? (a.add i)=G[i]?:=by
 unfold World.cells? at h;split at h
 ·have J:=mapM_some_length h;refine⟨by simpa using J,fun i hi=>?_⟩;exact mapM_some_get h i i (by simp[hi])
 ·cases h
def Got(P:Program)(w:World)(φ:Nat→Nat)(M:ZM)(d:Nat)(t:TypeId)(G:List Value):Prop :=∃cs:List PV,Sh P d t cs∧Qg φ Fz w M (cs.map .p) G∧(∀v∈G,v.oneCell'=true)
theorem Nn{t:TypeId}{c:PV}(G:Sh P d t [c])(O:QM w M c v)(J:v.oneCell'=true):Got P w φ M d t [v] :=
 ⟨[c],G,by simp only[WV,List.map_nil,Qg,Qe];exact⟨v,[],rfl,O,rfl⟩,by simpa using J⟩
theorem qH{φ:Nat→Nat}{w:World}{M:ZM}{a b:List AV}{l m:List Value}(J:Qg φ h w M a l)(G:Qg φ h w M b m):Qg φ h w M (a++b) (l++m):=ZF J G
theorem add_zero(a:Addr):a.add 0=a:=rfl
theorem wV:(⟨b,off,none⟩:Addr).add n=⟨b,off+n,none⟩:=by
 unfold Addr.add;split
 ·rename_i h;subst h;rfl
 ·rfl
theorem cell?_spot{a:Addr}(h:w.cell? a=some v):a.spot=none:=by
 unfold World.cell? at h;split at h
 ·split at h
  ·cases h
  ·rename_i G;cases hs:a.spot with
  |none=>rfl
  |some s=>simp[hs] at G
 ·cases h
theorem qI{Q:Nat→List PV→Prop}:∀(n:Nat),(∀i,i<n→∃c,Q i c)→∃es:List (List PV),es.length=n∧∀i c,es[i]?=some c→Q i c
|0,_=>⟨[],rfl,by simp⟩
|n+1,h=>by
  obtain⟨es,G,J⟩:=qI n (fun i hi=>h i zo);obtain⟨c,hc⟩:=h n zo;refine⟨es++[c],by simp[G],fun i c' hi=>?_⟩;rcases Nat.lt_or_ge i n with hlt|O
  ·rw[List.getElem?_append_left zo] at hi;exact J i c' hi
  ·have:i<n+1:=by have:=(DC.1 hi).1;simp[G] at this;omega
   obtain rfl:i=n:=by omega
   rw[List.getElem?_append_right zo] at hi;simp[G] at hi;subst hi;exact hc
theorem wW{S r:Nat}:∀(es:List (List PV)) (o:Nat),(∀i e,es[i]?=some e→e.length=S∧VQ w M r (o+i*S) e)→VR w M S r o es
|[],o,_=>by simp[VR]
|e::es,o,h=>by
  simp only[VR];refine⟨by have:=h 0 e zq;simpa using this,wW es (o+S) fun i J G=>?_⟩;have:=h (i+1) J (by simpa using G)
  rwa [show o+(i+1)*S=o+S+i*S from by rw[Nat.add_mul];omega] at this
theorem aW(hM:∀r o,¬M r o):∀(d W:Nat) (t:TypeId) (G:List Value) (x:DataW H×List MemPlace),U1 P d t=true→DataW.trod enc P w 0 (fun _=>true) held W t G=some x→Got P w φ M d t G∧G.length=P.cellsOf t:=by
 intro d
 induction d with
|zero=>intro W t G x hp;cases hp
|succ d ih =>
  intro W t G x hp h
  have aj:∀(U:List Field) (off total:Nat) (G:List Value),G.length=total→Nl P total off U=true→U.all (fun f=>U1 P d f.type)=true →
    (∀f∈U,∃n y,DataW.trod enc P w 0 (fun _=>true) held n f.type ((G.drop f.offset).take (P.cellsOf f.type))=some y)→∃cs,Qea (Sh P d) U cs∧Qg φ Fz w M (cs.map .p) (G.drop off)∧(∀v∈G.drop off,v.oneCell'=true):=by
   intro U
   induction U with
  |nil =>
    intro off total G O ht _ _;simp only[Nl,beq_iff_eq] at ht;have:G.drop off=[]:=List.drop_eq_nil_of_le zo;exact⟨[],rfl,by rw[this];simp[Qg],by rw[this];simp⟩
  |cons f U aq =>
    intro off total G O ht ha hm;simp only[Nl,Z8,beq_iff_eq] at ht;simp only[List.all_cons,Z8] at ha;obtain⟨n,y,hy⟩:=hm f zq;rw[ht.1] at hy;obtain⟨⟨c1,g1,g2,g3⟩,_⟩:=ih n f.type _ y ha.1 hy;obtain⟨c2,k1,k2,k3⟩:=aq (off+P.cellsOf f.type) total G O ht.2 ha.2 (fun f hf=>hm f (by simp[hf]))
    have e:G.drop off=(G.drop off).take (P.cellsOf f.type)++G.drop (off+P.cellsOf f.type):=by
     rw[←List.drop_drop];exact(List.take_append_drop _ _).symm
    refine⟨c1++c2,⟨c1,c2,rfl,g1,k1⟩,?_,?_⟩
    ·rw[e,List.map_append];exact qH g2 k2
    ·rw[e];intro v Y;rcases List.mem_append.1 Y with Y|Y
     ·exact g3 v Y
     ·exact k3 v Y
  have al:∀(e:TypeId) (n k:Nat) (G:List Value),G.length=(k+n)*P.cellsOf e→U1 P d e=true →
    (∀i,k≤i→i<k+n→∃m y,DataW.trod enc P w 0 (fun _=>true) held m e ((G.drop (i*P.cellsOf e)).take (P.cellsOf e))=some y)→∃cs,ShN (Sh P d e) n cs∧Qg φ Fz w M (cs.map .p) (G.drop (k*P.cellsOf e))∧(∀v∈G.drop (k*P.cellsOf e),v.oneCell'=true):=by
   intro e n
   induction n with
  |zero =>
    intro k G O _ _;have:G.drop (k*P.cellsOf e)=[]:=List.drop_eq_nil_of_le (by simp at O;omega);exact⟨[],rfl,by rw[this];simp[Qg],by rw[this];simp⟩
  |succ n am =>
    intro k G O ae hm;obtain⟨m,y,hy⟩:=hm k zo zo;obtain⟨⟨c1,g1,g2,g3⟩,_⟩:=ih m e _ y ae hy;obtain⟨c2,k1,k2,k3⟩:=am (k+1) G (by rw[O];congr 1;omega) ae (fun i h1 h2=>hm i zo zo)
    have e':G.drop (k*P.cellsOf e)=(G.drop (k*P.cellsOf e)).take (P.cellsOf e)++G.drop ((k+1)*P.cellsOf e):=by
     rw[Nat.add_mul,Nat.one_mul,←List.drop_drop];exact(List.take_append_drop _ _).symm
    refine⟨c1++c2,⟨c1,c2,rfl,g1,k1⟩,?_,?_⟩
    ·rw[e',List.map_append];exact qH g2 k2
    ·rw[e'];intro v Y;rcases List.mem_append.1 Y with Y|Y
     ·exact g3 v Y
     ·exact k3 v Y
  unfold U1 at hp;cases hu:P.underlying t with
 |none=>rw[hu] at hp;cases hp
 |some td =>
   rw[hu] at hp;cases td with
  |bool =>
    obtain⟨b,rfl,_⟩:=DataW.trod_bool hu h;simp only[beq_iff_eq] at hp;exact⟨Nn (c:=.val (.bool b)) (by simp only[Sh,hu];exact⟨b,rfl⟩) (by simp[QM]) rfl,by simp[hp]⟩
  |int k =>
    obtain⟨n,rfl,_,hw⟩:=DataW.trod_int hu h;simp only[beq_iff_eq] at hp;exact⟨Nn (c:=.val (.int k n)) (by simp only[Sh,hu];exact⟨n,rfl,hw⟩) (by simp[QM]) rfl,by simp[hp]⟩
  |string =>
    obtain⟨b,rfl,_,hw⟩:=DataW.trod_string hu h;simp only[beq_iff_eq] at hp;refine⟨Nn (c:=.val (.string b)) ?_ (by simp[QM]) rfl,by simp[hp]⟩;simp only[Sh,hu];exact⟨b.data.toList,by simp[WN],by simpa using hw⟩
  |slice e =>
    simp only[Z8,beq_iff_eq,Nat.blt_eq] at hp;rcases DataW.trod_slice hu h with⟨rfl,_⟩|⟨a,len,cap,elems,rest,n,_,rfl,_,_,ar,aw,av,ac⟩
    ·refine⟨Nn (c:=.sl (P.cellsOf e) []) ?_ (by simp only[QM];exact .inr ⟨trivial,none,0,rfl⟩) rfl,by simp[hp.1.1]⟩;simp only[Sh,hu];exact⟨[],rfl,by simp,by simp⟩
    ·have ad:=ac.1
     have ah:∀i,i<len→∃(G:List Value) (cs:List PV),w.cells? 0 (a.add (i*P.cellsOf e)) (P.cellsOf e)=some G∧Sh P d e cs∧Qg φ Fz w M (cs.map .p) G∧(∀v∈G,v.oneCell'=true):=by
      intro i hi;have h1:elems[i]?=some elems[i]:=List.getElem?_eq_getElem zo;have h2:=ad i hi;rw[h1] at h2;obtain⟨G,J,h4⟩:=NS.1 h2;obtain⟨⟨cs,g1,g2,g3⟩,_⟩:=ih _ e G _ hp.2 h4;exact⟨G,cs,J,g1,g2,g3⟩
     obtain⟨es,af,hq⟩:=qI (Q:=fun i cs=>∃G,w.cells? 0 (a.add (i*P.cellsOf e)) (P.cellsOf e)=some G∧Sh P d e cs∧Qg φ Fz w M (cs.map .p) G∧(∀v∈G,v.oneCell'=true)) len (fun i hi=>by
      obtain⟨G,cs,h1,h2⟩:=ah i hi;exact⟨cs,G,h1,h2⟩)
     refine⟨Nn (c:=.sl (P.cellsOf e) es) ?_ ?_ rfl,by simp[hp.1.1]⟩
     ·simp only[Sh,hu];refine⟨es,rfl,by omega,fun x hx=>?_⟩;obtain⟨i,hi,rfl⟩:=List.getElem_of_mem hx;obtain⟨G,_,h2,_⟩:=hq i es[i] (List.getElem?_eq_getElem hi);exact h2
     ·simp only[QM];by_cases h0:len=0
      ·subst h0;exact .inr ⟨List.eq_nil_of_length_eq_zero af,some a,cap,rfl⟩
      ·have aa:a.spot=none:=by
        obtain⟨G,h1,_⟩:=hq 0 es[0] (List.getElem?_eq_getElem zo);obtain⟨g1,g2⟩:=IJ h1;have J:=g2 0 hp.1.2;simp only[Nat.zero_mul,add_zero] at J;rw[List.getElem?_eq_getElem zo] at J;exact cell?_spot J
       obtain⟨ab,ao,au⟩:=a;simp only at aa;subst aa;refine .inl ⟨ab,ao,cap,by rw[af],by omega,wW es ao fun i c hi=>?_⟩;obtain⟨G,h1,h2,J,h4⟩:=hq i c hi;obtain⟨g1,g2⟩:=IJ h1;have ai:=ZR J;refine⟨by simp at ai;omega,?_⟩;rw[Gq];intro j q hj;obtain⟨v,k1,k2⟩:=RG J j q hj;have an:j<P.cellsOf e:=by have:=(DC.1 k1).1;omega
       have k3:=g2 j an;rw[wV,wV,k1] at k3;exact⟨v,k3,hM _ _,h4 v (List.mem_of_getElem? k1),k2⟩
  |struct U =>
    simp only[Z8] at hp;obtain⟨xs,n,_,_,O,hx,Z⟩:=DataW.trod_struct hu h
    obtain⟨cs,g1,g2,g3⟩:=aj U.toList 0 (P.cellsOf t) G O hp.1 hp.2 (by
     intro f hf;obtain⟨i,hi,rfl⟩:=List.getElem_of_mem hf;have h1:U[i]?=some U.toList[i]:=by simp
     have h2:=Z i _ h1;have J:i<xs.length:=by rw[hx];simpa using hi
     exact⟨n,xs[i],by rw[h2];exact List.getElem?_eq_getElem J⟩)
    simp only[List.drop_zero] at g2 g3;exact⟨⟨cs,by simp only[Sh,hu];exact g1,g2,g3⟩,O⟩
  |array n e =>
    simp only[Z8,beq_iff_eq] at hp;obtain⟨xs,m,_,_,O,hx,Z⟩:=DataW.trod_array hu h
    obtain⟨cs,g1,g2,g3⟩:=al e n 0 G (by rw[O,Nat.zero_add,hp.1]) hp.2 (by
     intro i _ hi;have ak:i<n:=by omega
     have J:i<xs.length:=by omega
     exact⟨m,xs[i],by rw[Z i ak];exact List.getElem?_eq_getElem J⟩)
    simp only[Nat.zero_mul,List.drop_zero] at g2 g3;exact⟨⟨cs,by simp only[Sh,hu];exact g1,g2,g3⟩,O⟩
  |_=>cases hp
end
end Go.Abs
namespace Go.Abs
open Go Go.ChangeShapes Go.WideShapes Go.ChangeAt Go.RowKit
variable {base d:Nat}{f:FuncId}{fn:Func}{h':QO}{v:Value}{w':World}{φ':Nat→Nat}
def Qeb:List PV→AV|[c]=>.p c|cs=>ag cs
def aX(P:Program)(t:TypeId)(cs:List PV):AV :=
 match P.underlying t with
|some (.struct _)=>ag cs
|some (.array _ _)=>ag cs
|_=>Qeb cs
def IK(P:Program)(d:Nat):List TypeId→List AV→Prop|[],G=>G=[]|t::ts,G=>∃cs r,G=aX P t cs::r∧Sh P d t cs∧IK P d ts r
section
variable {H:Type}{enc:TypeId×Value→H}{P:Program}{w:World}{φ:Nat→Nat}{M:ZM}
theorem QbM(hM:∀r o,¬M r o){t:TypeId}{x:DataW H}{ps:List MemPlace}(hp:U1 P d t=true)(J:Value.okWide P w .any base t v)(h:DataW.Trod enc P w 0 (fun _=>true) true t v x ps):∃cs,Sh P d t cs∧Qe φ Fz w M (aX P t cs) v:=by
 obtain⟨O,h⟩:=h;obtain⟨⟨cs,h1,G,h3⟩,hl⟩:=aW (φ:=φ) hM d O t _ _ hp h;refine⟨cs,h1,?_⟩;cases d with
|zero=>cases hp
|succ d =>
  unfold Value.okWide at J;unfold aX;cases hu:P.underlying t with
 |none=>simp[U1,hu] at hp
 |some Z =>
   rw[hu] at J
   have one:(∀c,v≠.agg c)→P.cellsOf t=1→Qe φ Fz w M (Qeb cs) v:=by
    intro Y hc;have e:v.cells=#[v]:=by cases v<;>first|rfl|exact absurd rfl (Y _)
    rw[e] at G
    match cs,G with
   |[c],G =>
     simp only[WV,List.map_nil,Qg] at G;obtain⟨y,ys,U,W,e3⟩:=G;simp at U;obtain⟨rfl,rfl⟩:=U;exact W
   |[],G=>simp[Qg] at G
   |_::_::_,G =>
     simp only[WV,Qg] at G;obtain⟨y,ys,U,_,z,zs,W,_⟩:=G;subst W;simp at U
   have agg:(∃c,v=.agg c)→Qe φ Fz w M (ag cs) v:=by
    rintro⟨c,rfl⟩;exact⟨c.toList,by simp,G⟩
   cases Z with
  |bool =>
    simp only[U1,hu,beq_iff_eq] at hp;exact one (fun c hc=>by subst hc;simp[Cell.okWide,Cell.ok,hu] at J) hp
  |int k =>
    simp only[U1,hu,beq_iff_eq] at hp;exact one (fun c hc=>by subst hc;simp[Cell.okWide,Cell.ok,hu] at J) hp
  |string =>
    simp only[U1,hu,beq_iff_eq] at hp;exact one (fun c hc=>by subst hc;simp[Cell.okWide,Cell.ok,hu] at J) hp
  |slice e =>
    simp only[U1,hu,Z8,beq_iff_eq] at hp;exact one (fun c hc=>by subst hc;simp[Cell.okWide,Cell.ok,hu] at J) hp.1.1
  |struct fs =>
    obtain⟨c,rfl,_⟩:=J;exact agg ⟨c,rfl⟩
  |array n e =>
    obtain⟨c,rfl,_⟩:=J;exact agg ⟨c,rfl⟩
  |_=>simp[U1,hu] at hp
theorem wX(W:∀r o,¬M r o){d base:Nat}:∀{ts:List TypeId} {J:List Value} {ds:List (DataW H)} {ps:List MemPlace},ts.all (U1 P d)=true →
  (∀(j:Nat) t v,ts[j]?=some t→J[j]?=some v→Value.okWide P w .any base t v)→DataW.TrodAll enc P w 0 (fun _=>true) true ts J ds ps→∃G,IK P d ts G∧Qg φ Fz w M G J
|[],J,ds,ps,_,_,h=>by
  obtain⟨rfl,_,_⟩:=trodAll_nil h;exact⟨[],rfl,rfl⟩
|t::ts,J,ds,ps,hp,U,h=>by
  obtain⟨v,O,d',Z,p,q,rfl,rfl,rfl,h1,Y⟩:=trodAll_cons h;simp only[List.all_cons,Z8] at hp;obtain⟨cs,g1,g2⟩:=QbM (φ:=φ) W hp.1 (U 0 t v rfl rfl) h1;obtain⟨G,g3,g4⟩:=wX W hp.2 (fun j t v a b=>U (j+1) t v (by simpa using a) (by simpa using b)) Y;exact⟨_,⟨cs,G,rfl,g1,g3⟩,v,O,rfl,g2,g4⟩
structure Over(w w':World):Prop where
 os:w'.os=w.os
 output:w'.output=w.output
 same:∀r,r<w.heap.size→w'.heap[r]?=w.heap[r]?
theorem zV{φ:Nat→Nat}{w:World}(E:Q8 φ Fz w φ' h' w'):Over w w' :=
 ⟨E.os,E.output,fun r G=>E.same r G (fun b hb=>absurd rfl hb)⟩
theorem Over.kept{w:World}(o:Over w w')(G:MemPlace→Prop):w.keptBut w' G:=by
 refine⟨o.os,o.output,fun i hi=>?_⟩;rw[o.same i hi];cases h:w.heap[i]? with
|none=>rfl
|some x=>cases x<;>simp
theorem Over.at{w:World}(o:Over w w'){p:MemPlace}(h:p.block<w.heap.size):w.sameAt w' p:=by
 cases p with
|cell b off=>simp only[World.sameAt,World.cell?];rw[o.same b h]
|map b=>exact o.same b h
theorem Over.frozen{w:World}(o:Over w w'){a:Addr}(h:a.block<w.heap.size):w'.frozen? a=w.frozen? a:=by
 simp only[World.frozen?];rw[o.same _ h]
theorem RJ{w w':World}(O:laidOutB P=true){sp:Nat→Bool}(G:∀b,b<w.heap.size→sp b=true)(o:Over w w'):∀{ts:List TypeId} {J:List Value} {ds:List (DataW H)} {ps:List MemPlace},ts.all (fun t=>P.readableRec t&&Nat.blt t P.types.size)=true→(∀p∈ps,p.block<w.heap.size) →
  DataW.TrodAll enc P w 0 (fun _=>true) true ts J ds ps→DataW.TrodAll enc P w' 0 sp true ts J ds ps
|[],J,ds,ps,_,_,h=>by
  obtain⟨rfl,rfl,rfl⟩:=trodAll_nil h;exact rfl
|t::ts,J,ds,ps,hp,hb,h=>by
  obtain⟨v,Z,d',W,p,q,rfl,rfl,rfl,Y,U⟩:=trodAll_cons h;simp only[List.all_cons,Z8,Nat.blt_eq] at hp;refine⟨p,q,Go.WideElems.Trod_stays O hp.1.1 hp.1.2 Y (fun p hp=>o.at (hb p (by simp[hp]))) (fun p hp=>G _ (hb p (by simp[hp]))),RJ O G o (by simpa using hp.2) (fun p hp=>hb p (by simp[hp])) U,rfl⟩
theorem OM{s:ChangeSpec}{tb:TypeId}{apart fresh handsOn again:Bool}(hl:laidOutB P=true)(Y:fn.params.toList.all (U1 P d)=true)(O:fn.params.toList.all (fun t=>P.readableRec t&&Nat.blt t P.types.size)=true)(hres:fn.resultTypes=#[tb])(ac:P.underlying tb=some .bool)(G:s.vars=[])(Z:∀ds:List (DataW H),ds.length=fn.params.size→s.fn H ds={ results:=[.lit (.bool true)],args:=ds }){W:World}{args:Array Value}{ds gs:List (DataW H)}{before:List MemPlace}(ad:∀(j:Nat) t v,fn.params[j]?=some t→args[j]?=some v→Value.okWide P W .any base t v)(hW:DataW.Whole enc P fn.params.toList s.vars apart W args.toList ds gs before)(hcall:∀J,IK P d fn.params.toList J→Qg (fun x=>x) Fz W (MM (fun x=>x) Fz (fun _ _=>False)) J args.toList→Q9 P f J (.ret (.p (.val (.bool true)))))(hg:xx W:=by exact trivial) :
  Calls P f args W fun e W'=>∃v,e=.returned v∧s.post enc P fn apart fresh handsOn again W args v W':=by
 have ab:=hW;obtain⟨p,q,hA,hV,rfl,af,ae⟩:=hW;rw[G] at hV;obtain⟨rfl,rfl⟩:=trodVars_none hV
 have aa:ds.length=fn.params.size:=by
  have:∀{ts:List TypeId} {vs:List Value} {ds:List (DataW H)} {ps:List MemPlace},DataW.TrodAll enc P W 0 (fun _=>true) true ts vs ds ps→ds.length=ts.length:=by
   intro ts
   induction ts with
  |nil=>intro vs ds ps h;obtain⟨_,rfl,_⟩:=trodAll_nil h;rfl
  |cons t ts ih=>intro vs ds ps h;obtain⟨v,aj,d',ah,p,q,rfl,rfl,rfl,h1,h2⟩:=trodAll_cons h;simp[ih h2]
  simpa using this hA
 obtain⟨J,g1,g2⟩:=wX (φ:=fun x=>x) (M:=MM (fun x=>x) Fz (fun _ _=>False)) (base:=base) (fun r o h=>h.elim Wu id) Y
  (fun j t v a b=>ad j t v (by simpa using a) (by simpa using b)) hA
 have hc:=hcall J g1 g2 (fun x=>x) (fun _ _=>False) W args.toList (UW (fun _ _ h=>h.elim) hg (fun _ _ _ h=>h)) g2;simp only[Array.toArray_toList] at hc;refine hc.mono ?_;rintro e w' ⟨φ',r',h',⟨rfl,rfl⟩,ai,E,hv⟩;obtain⟨v,rfl,hv⟩:=hv;simp only[Qe,QM] at hv;subst hv;have o:=zV E;have hlt:∀x∈p,x.block<W.heap.size:=fun x hx=>ab.lt x (by simpa using hx)
 refine⟨_,rfl,?_⟩;have U:s.fn H (ds++[])={ results:=[.lit (.bool true)],args:=ds }:=by rw[List.append_nil];exact Z ds aa
 have hr:∀(b:Nat) (sp:Nat→Bool) (hd:Bool),DataW.TrodAll enc P w' b sp hd fn.resultTypes.toList ((Value.bool true).resultList fn.resultTypes.size) [.lit (.bool true)] []:=fun b sp hd=>by
  rw[hres];exact trodAll_cons_mk (shut_bool ac _) trodAll_mk0
 refine⟨ds,[],p++[],[],p,[],ab,by rw[U];exact hr _ _ _,by rw[U];exact RJ hl (fun b hb=>by simpa using hb) o O hlt hA,by rw[U,G];rfl,o.kept _,fun _=>?_⟩;refine⟨ok_one hres rfl (okWide_bool_mk ac _),[.lit (.bool true)]++ds,[],([]++p)++[],⟨[]++p,[],?_,?_,rfl,?_,?_⟩,?_⟩
 ·exact trodAll_append (RJ hl (fun b hb=>rfl) o O hlt hA) (hr _ _ _)
 ·rw[G];rfl
 ·intro b off hp;rw[o.frozen (by exact hlt (.cell b off) (by simpa using hp))];exact af b off (by simpa using hp)
 ·intro ha;simpa using ae ha
 ·intro x hx _;simpa using hx
theorem zW{s:ChangeSpec}{tb:TypeId}{apart fresh handsOn again:Bool}(hl:laidOutB P=true)(J:fn.params.toList.all (U1 P d)=true)(U:fn.params.toList.all (fun t=>P.readableRec t&&Nat.blt t P.types.size)=true)(hres:fn.resultTypes=#[tb])(aa:P.underlying tb=some .bool)(Y:s.vars=[])(O:∀ds:List (DataW H),ds.length=fn.params.size→s.fn H ds={ results:=[.lit (.bool true)],args:=ds })(hcall:∀G,IK P d fn.params.toList G→Q9 P f G (.ret (.p (.val (.bool true))))){W:World}{args:Array Value}{ds gs:List (DataW H)}{before:List MemPlace}(Z:∀(j:Nat) t v,fn.params[j]?=some t→args[j]?=some v→Value.okWide P W .any base t v)(hW:DataW.Whole enc P fn.params.toList s.vars apart W args.toList ds gs before)(hg:xx W:=by exact trivial) :
  Calls P f args W fun e W'=>∃v,e=.returned v∧s.post enc P fn apart fresh handsOn again W args v W' :=
 OM hl J U hres aa Y O Z hW (fun G h _=>hcall G h) hg
end
def QfO(l:List UInt8):Prop:=l.length≤maxLen
section
variable {P:Program}{d:Nat}{t:TypeId}{cs:List PV}
theorem Qec(hu:P.underlying t=some .string)(h:Sh P (d+1) t cs):∃s:List UInt8,cs=[.val (.string (WN s))]∧QfO s:=by
 simp only[Sh,hu] at h;exact h
theorem aY{c:PV}(hu:P.underlying t=some .string):aX P t [c]=.p c:=by simp only[aX,hu,Qeb]
end
end Go.Abs
namespace Go.Abs
open Go
variable {D:DB}{K:St→Prop}{M M0:ZM}{N:Nat}{P:Program}{Q:AX→St→Prop}{T:Nat→Option AV}{a:Act}{args:List AV}{b:Nat}{c:Code}{ck:Nat}{dst:Option Tmp}{e:TypeId}{en:Array MapEntry}{es:List (Bool×List UInt8×AV)}{es':List (List PV)}{f:FuncId}{h:QO}{i id:Nat}{ix:Operand}{k0:Blk}{kt:TypeId}{len:Nat}{o:Oper}{ops:Array Oper}{ro:Option Nat}{s s':St}{tk:Nat}{tx ty:TypeId}{v:Value}{w w':World}{x y:Operand}{z:Value}{φ:Nat→Nat}
section
variable {R:Type}{a:Option R}{P:Program}{N:Nat}{ops:Array Oper}{o:Oper}{l:List Oper}{acc:List Yz}{s:St}{Q:R→AX→St→Prop}
theorem IL(hw:ZH ops o (look s.T)=some true)(hp:(plain o.op&&KA N o.dst)=true)(U:∀c,o.op≠.defer c)(h:∀φ M0 D O w,Zo φ M0 N D (look (mk ops o s true).T) (look s.H) O w→∃x s',look s'.T=look (mk ops o s true).T∧KR a P N ops Q false ((none,[])::acc) l (St.put s' o.dst x)∧Yield P o φ M0 (look s.H) O w x (look s'.H)):KR a P N ops Q false acc (o::l) s:=by
 simp only[Z8] at hp;refine⟨fun r Y=>?_⟩;show Yg P N ops (Q r) (o::l) s;simp only[Yg,hw,ZX,CQ hp.1];show XG P N o _ _ _;unfold XG
 have key:fo P N o (mk ops o s true) (Yg P N ops (Q r) l):=by
  refine⟨U,hp.2,fun φ M0 D O w G=>?_⟩
  ·obtain⟨x,s',Z,W,h3⟩:=h φ M0 D O w G;exact⟨x,s',Z,W.h r Y,h3⟩
 have hp:=hp.1;split
 ·rename_i J;rw[J] at hp;cases hp
 ·rename_i J;rw[J] at hp;cases hp
 ·rename_i J;rw[J] at hp;cases hp
 ·exact .inr key
theorem H5:KR (none:Option R) P N ops Q false acc l s:=⟨fun r G=>by cases G⟩
end
def bL(a b:List UInt8):Bool:=decide (a.length+b.length≤9223372036854775807)
theorem Np{a b:List UInt8}(G:o.op=.binOp .add tx x y ty)(O:Zp T x=some (.p (.val (.string (WN a)))))(J:Zp T y=some (.p (.val (.string (WN b)))))(hc:bL a b=true) :
  Jb P o T h=some (.p (.val (.string (WN (a++b)))),none,[]):=by
 unfold bL at hc;have hc:=of_decide_eq_true hc;simp[Jb,R5,G,Ap,O,J,zy,Rt,hc]
section
variable {φ:Nat→Nat}{M0:ZM}{h:QO}{w:World}
theorem fT{k1:Blk}(J:h b=some k0)(G:k0.ob=some .mp)(W:k1.ob=some .mp)(r:ZQ φ h w M0)(Y:∀h' M',(∀x o v,w.cell? ⟨x,o,none⟩=some v→¬MM φ h M0 x o→w.cell? ⟨x,o,none⟩=some v∧¬M' x o)→YZ φ h w φ h' w→RelB φ h' w M' (φ b) k1) :
  ZQ φ (upd h b k1) w M0∧Q8 φ h w φ (upd h b k1) w∧YZ φ h w φ (upd h b k1) w:=by
 have O:∀x o,R4 φ (upd h b k1) x o→R4 φ h x o:=by
  rintro x y ⟨d,q,g1,g2,g3⟩;by_cases e:b=d
  ·refine⟨b,_,J,by rw[e];exact g2,?_⟩;cases k0<;>first|trivial|cases G
  ·exact⟨d,q,by simpa [upd,e] using g1,g2,g3⟩
 have hne:∀c k,h c=some k→k.ob=none→¬b=c:=fun c k hc hk e=>by rw[←e,J] at hc;cases hc;rw[hk] at G;cases G
 have X:YZ φ h w φ (upd h b k1) w:=by
  refine⟨fun c t q hc=>⟨⟨t,q,?_⟩,rfl⟩,fun c t S n hc=>⟨n,?_,Kz _,fun _=>Yy rfl rfl⟩,fun c t S n hc=>⟨n,?_,Kz _,fun _=>⟨rfl,fun c hc=>⟨c,hc,rfl⟩⟩⟩,fun c k x hc U=>⟨?_,rfl⟩⟩
  ·simp[upd,hne c _ hc rfl,hc]
  ·simp[upd,hne c _ hc rfl,hc]
  ·simp[upd,hne c _ hc rfl,hc]
  ·by_cases e:b=c
   ·subst e;rw[J] at hc;cases hc;rw[G] at U;cases U;exact⟨k1,by simp[upd],W⟩
   ·exact⟨k,by simp[upd,e,hc],U⟩
 have E:Q8 φ h w φ (upd h b k1) w :=
  ⟨rfl,rfl,rfl,Kz _,fun _ _ _=>rfl,fun _ _ _ _=>rfl,fun x o _ hm=>O x o hm,
   fun c t cs _ hc=>⟨⟨cs,by simp[upd,hne c _ hc rfl,hc]⟩,rfl⟩,fun c t S n _ hc=>X.t c t S n hc,fun c t S n _ hc=>X.v c t S n hc,fun c k x _ hc U=>X.o c k x hc U⟩
 have g:∀d,upd h b k1 d≠none→h d≠none:=fun d Z=>by
  by_cases e:b=d
  ·rw[←e,J];simp
  ·simpa [upd,e] using Z
 refine⟨⟨fun c d hc Z e=>r.inj c d (g c hc) (g d Z) e,fun c q hc=>?_,fun c hc=>r.fr c (g c hc),r.lt,r.gm.evol E⟩,E,X⟩;by_cases e:b=c
 ·subst e;have:q=k1:=by simpa [upd] using hc.symm
  subst this;exact Y _ _ (E.keeps M0) X
 ·have hc':h c=some q:=by simpa [upd,e] using hc
  exact Z4 (E.keeps M0) X rfl (r.blk c q hc')
end
def QZ(en:Array MapEntry)(i:Nat):Nat:=((en[i]?).map (·.born)).getD 0
theorem aZ:∀{l:List Nat},l.Pairwise (·<·)→l.Nodup:=fun h=>h.imp fun h=>Nat.ne_of_lt h
theorem ib(h:es.all (·.1)=true):Lu es=es:=List.filter_eq_self.2 fun e G=>X5.1 h e G
section
variable {R:Type}{a:Option R}{P:Program}{N:Nat}{ops:Array Oper}{o:Oper}{l:List Oper}{acc:List Yz}{s:St}{Q:R→AX→St→Prop}
theorem ic{t m:Nat}(hw:ZH ops o (look s.T)=some true)(ho:o.op=.range t x)(ht:P.underlying t=some (.map kt e))(hd:KA N o.dst=true)(hx:Zp (look (mk ops o s true).T) x=some (.mv m))(hm:look s.H m=some (.mf es))(hb:look s.H b=none)(hne:(m==b)=false)(h:∀en ck,Hl en ck→KR a P N ops Q false ((none,[])::acc) l (St.put ⟨(mk ops o s true).T,(b,.it m ck #[])::(m,.mg en ck es)::s.H⟩ o.dst (.iv b))):KR a P N ops Q false acc (o::l) s:=by
 refine IL hw (by rw[ho,hd];rfl) (fun c hc=>by rw[ho] at hc;cases hc) fun φ M0 D ac w r=>?_
 have J:¬m=b:=by simpa using hne
 obtain⟨r1,E1,X1,hC⟩:=r.lift 1;obtain⟨en,ck,U,hk,hv,Y⟩:=r1.hp.blk m _ hm;refine⟨.iv b,⟨(mk ops o s true).T,(b,.it m ck #[])::(m,.mg en ck es)::s.H⟩,rfl,h en ck Y,?_⟩;have O:=r1.ev hx;simp only[Qe] at O;generalize KZ φ w.heap.size 1=G at r1 E1 X1 hC U hv O;obtain⟨H2,E2,X2⟩:=fT (k1:=.mg en ck es) hm rfl rfl r1.hp fun h' M' ab X=>⟨U,hk,(QH ab X).2 _ _ hv,Y⟩
 have W:Clear G (upd (look s.H) m (.mg en ck es)) w 1:=fun c hc=>hC c (by
  by_cases e:m=c
  ·subst e;rw[hm];simp
  ·simpa [upd,e] using hc)
 have aa:upd (look s.H) m (.mg en ck es) b=none:=by simp[upd,J,hb]
 obtain⟨E3,X3⟩:=JM (w':=w.alloc (.mapIter (some (G m)) ck #[] ck)) (o:=.mapIter (some (G m)) ck #[] ck) (b:=b) (k:=.it m ck #[]) (M0:=M0) rfl rfl rfl rfl aa H2 W
 have Z:RelB (Qy G b w.heap.size) (upd (upd (look s.H) m (.mg en ck es)) b (.it m ck #[])) (w.alloc (.mapIter (some (G m)) ck #[] ck)) (MM (Qy G b w.heap.size) (upd (upd (look s.H) m (.mg en ck es)) b (.it m ck #[])) M0) w.heap.size (.it m ck #[]):=by
  refine⟨?_,.mg en ck es,by simp[upd,Ne.symm J],rfl⟩;have:Qy G b w.heap.size m=G m:=by simp[Qy,Ne.symm J]
  rw[this];show(w.heap.push _)[w.heap.size]?=_;simp
 refine⟨_,.pointer (some ⟨w.heap.size,0,none⟩),_,Qy G b w.heap.size,?_,.inl rfl,?_,JN rfl aa H2 W E3 X3 Z,E1.trans (E2.trans E3),YZ.trans (Kz _) X1 (YZ.trans (Kz _) X2 X3)⟩
 ·simp[execOp,ho,O.1,run_range_map w t kt e _ en ck ht U]
 ·simp only[Qe];exact⟨by simp[Qy],.it m ck #[],by simp[look],rfl⟩
theorem V9{m:Nat}{sn:Array Nat}{k:List UInt8}{v:AV}(i:Nat)(hB:Hl en ck)(Z:o.op=.entry x)(W:es.all (·.1)=true)(hi:es[i]?=some (true,k,v))(h:KR a P N ops Q false ((none,[])::acc) l (St.put (mk ops o s true) o.dst (.tup [.p (.val (Tc k)),v])))(hw:ZH ops o (look s.T)=some true:=by kernel_rfl)(hd:KA N o.dst=true:=by kernel_rfl)(hx:Zp (look (mk ops o s true).T) x=some (.iv b):=by kernel_rfl)(hb:look s.H b=some (.it m ck (sn.push (QZ en i))):=by kernel_rfl)(hm:look s.H m=some (.mg en ck es):=by kernel_rfl):KR a P N ops Q false acc (o::l) s:=by
 refine IL hw (by rw[Z,hd];rfl) (fun c hc=>by rw[Z] at hc;cases hc) fun φ M0 D ac w r=>⟨_,mk ops o s true,rfl,h,?_⟩
 obtain⟨h1,_⟩:=r.hp.blk b _ hb;obtain⟨h2,hk,hv,_⟩:=r.hp.blk m _ hm;rw[ib W] at hk hv;have hlt:i<es.length:=(DC.1 hi).1;have aa:en.toList.length=es.length:=by simpa using congrArg List.length hk
 have G:en.toList[i]?=some (en.toList[i]'zo):=List.getElem?_eq_getElem _;generalize en.toList[i]'zo=e at G;have U:en[i]?=some e:=by rw[←Array.getElem?_toList];exact G
 have Y:QZ en i=e.born:=by simp[QZ,U]
 rw[Y] at h1;have J:=r.ev hx;simp only[Qe] at J
 have O:e.key=Tc k:=by
  have:=congrArg (·[i]?) hk;simp only[List.getElem?_map,G,hi,Option.map_some,Q0] at this;exact this
 refine Qo r (v:=.tuple #[e.key,e.val]) ?_ ?_
 ·simp[execOp,Z,J.1,run_entry_at w _ _ _ _ en ck e h1 h2 (List.mem_of_getElem? G) (aZ hB.1)]
 ·simp only[Qe];refine⟨[e.key,e.val],by simp,_,_,rfl,?_,_,_,rfl,?_,rfl⟩
  ·simp[Qe,QM,O]
  ·exact TN (i:=i) hv (by rw[List.getElem?_map,hi];rfl) (by rw[List.getElem?_map,G];rfl)
end
def jO{R:Type}(F:Option R)(t:Option R→Option R):Prop:=(∀q,t q=q)∨(∀q,t q=none)∨(∀q,t q=F)
theorem Qed{R:Type}{F:Option R}:jO F (fun q=>q):=.inl fun _=>rfl
theorem QfP{R:Type}{F:Option R}:jO F (fun _=>F):=.inr (.inr fun _=>rfl)
theorem wY{R:Type}{F:Option R}:jO F (fun _=>none):=.inr (.inl fun _=>rfl)
theorem ig{R:Type}{F:Option R}{b:Bool}{x y:Option R→Option R}(G:jO F x)(J:jO F y):jO F (fun q=>cond b (x q) (y q)):=by cases b<;>assumption
theorem ik{R V:Type}{F:Option R}{m:Option V}{x:V→Option R→Option R}(G:∀v,jO F (x v)):jO F (fun q=>m.bind fun v=>x v q):=by
 cases m with
|none=>exact wY
|some v=>exact G v
def uy{R:Type}(F D:Option R)(ts:List (Option R→Option R)):Option R:=if ts.all (fun t=>(t F).isSome) then ts.foldr (fun t q=>t q) D else none
theorem qJ{R:Type}{F D:Option R}{r:R}:∀{ts:List (Option R→Option R)},(∀t∈ts,jO F t)→(∀t∈ts,(t F).isSome=true)→ts.foldr (fun t q=>t q) D=some r →
  (D=some r∧∀t∈ts,∀q,t q=q)∨F=some r
|[],_,_,h=>.inl ⟨h,fun _ U=>by cases U⟩
|t::ts,O,hS,h=>by
  rw[List.foldr_cons] at h;rcases O t zq with G|G|G
  ·rw[G] at h;rcases qJ (fun u hu=>O u (by simp[hu])) (fun u hu=>hS u (by simp[hu])) h with⟨J,W⟩|J
   ·refine .inl ⟨J,fun u hu=>?_⟩;rcases List.mem_cons.1 hu with rfl|hu
    ·exact G
    ·exact W u hu
   ·exact .inr J
  ·have:=hS t zq;rw[G] at this;cases this
  ·rw[G] at h;exact .inr h
theorem fU{R:Type}{D:Option R}:∀{ts:List (Option R→Option R)},(∀t∈ts,∀q,t q=q)→ts.foldr (fun t q=>t q) D=D
|[],_=>rfl
|t::ts,h=>by rw[List.foldr_cons,h t zq];exact fU fun u hu=>h u (by simp[hu])
theorem uz{R:Type}{F D:Option R}{r:R}{ts:List (Option R→Option R)}(U:∀t∈ts,jO F t)(h:uy F D ts=some r) :
  (∀t∈ts,(∀q,t q=q)∨∀q,t q=some r)∧((∀t∈ts,∀q,t q=q)→D=some r):=by
 unfold uy at h;split at h;rotate_left
 ·cases h
 rename_i hS;have hS:∀t∈ts,(t F).isSome=true:=X5.1 hS;have W:=qJ U hS h;constructor
 ·intro t J;rcases U t J with G|G|G
  ·exact .inl G
  ·have:=hS t J;rw[G] at this;cases this
  ·rcases W with⟨_,O⟩|O
   ·exact .inl (O t J)
   ·exact .inr fun q=>by rw[G,O]
 ·intro hid;rw[fU hid] at h;exact h
structure Nx{R:Type}(N:Nat)(q:Option R)(S:St)(Q Qn:R→AX→St→Prop):Prop where
 n:∀r s',q=some r→Weak N s' S→Qn r .normal s'
 x:∀r e s',e≠.normal→Q r e s'→Qn r e s'
section
variable {R:Type}{o:Option R}{P:Program}{N:Nat}{q:Option R}{S s:St}{Q Qn:R→AX→St→Prop}
theorem PP(J:Nx N q S Q Qn)(K:HZ)(h:G6 K s=some S:=by kernel_rfl):ZI q Qn .normal s:=⟨fun r G=>J.n r s G (XL h)⟩
theorem QhN(J:Nx N q S Q Qn)(h:ZI o Q (.exit i) s):ZI o Qn (.exit i) s:=⟨fun r G=>J.x r _ s (by intro h;cases h) (h.h r G)⟩
theorem IM{v:AV}(J:Nx N q S Q Qn)(h:ZI o Q (.panic v) s):ZI o Qn (.panic v) s:=⟨fun r G=>J.x r _ s (by intro h;cases h) (h.h r G)⟩
end
theorem bM(J:look s'.T=look s.T)(G:look s'.H=look s.H):Weak N s s':=fun φ M0 D a w r=>⟨φ,by rw[J,G];exact r,by rw[G];exact Q8.refl _ _ _⟩
def IP(en:Array MapEntry)(sn:Array Nat):Nat:=(leftOf en sn).size
theorem bN{sn:Array Nat}{e:MapEntry}(G:e∈(leftOf en sn).toList):IP en (sn.push e.born)<IP en sn:=by
 have J:∀sn:Array Nat,IP en sn=(en.toList.filter fun x=>!sn.contains x.born).length:=fun sn=>by
  unfold IP leftOf;rw[←Array.toList_filter,Array.length_toList]
 unfold leftOf at G;rw[Array.toList_filter] at G;rw[J,J]
 have O:(en.toList.filter fun x=>!(sn.push e.born).contains x.born)=(en.toList.filter fun x=>!sn.contains x.born).filter fun x=>!(x.born==e.born):=by
  rw[List.filter_filter];congr 1;funext x;simp only[Array.contains_push];cases sn.contains x.born<;>cases hq:(x.born==e.born)<;>simp_all
 rw[O];generalize (en.toList.filter fun x=>!sn.contains x.born)=L at G ⊢;exact List.length_filter_lt_length_iff_exists.2 ⟨e,G,by simp⟩
section
variable {R:Type}{P:Program}{N:Nat}{ro:Option Nat}{n:Nat}{ops:Array Oper}{o:Oper}{l:List Oper}{B:Code}{s0:St}{Q:R→AX→St→Prop}{x:Operand}
def Fa(b m ck:Nat)(sn:Array Nat)(s:St):St:=aV b (.it m ck sn) s
theorem bO{m:Nat}{F D:Option R}(ts:List (Option R→Option R))(hB:Hl en ck)(am:ops.toList=o::l)(ho:o.op=.next x false)(hw:ZH ops o (look s0.T)=some true)(hd:KA N o.dst=true)(hT:Zp (look (Zm ops o s0.T true)) x=some (.iv b))(af:look s0.H b=some (.it m ck #[]))(ar:look s0.H m=some (.mg en ck es))(O:(m==b)=false)(W:es.all (·.1)=true)(U:ts.length=es.length)(hC:∀t∈ts,jO F t)(Y:∀(sn:Array Nat) (Qn:R→AX→St→Prop),Nx N (none:Option R) s0 Q Qn→KR D P N ops (OH P N ro B Qn) false [(none,[])] l (St.put (mk ops o (Fa b m ck sn s0) true) o.dst (.tup [.p (.val (.bool false))])))(aj:∀(i:Nat) (t:Option R→Option R) (k:List UInt8) (v:AV),ts[i]?=some t→es[i]?=some (true,k,v)→∀(sn:Array Nat) (q:Option R) (Qn:R→AX→St→Prop),Nx N q (Fa b m ck (sn.push (QZ en i)) s0) Q Qn→KR (t q) P N ops (OH P N ro B Qn) false [(none,[])] l (St.put (mk ops o (Fa b m ck (sn.push (QZ en i)) s0) true) o.dst (.tup [.p (.val (.bool true)),.p (.val (Tc k)),v]))) :
  Q4 (uy F D ts) P N ro (.loop (.seq (.region n ops false) B)) s0 Q:=by
 refine⟨fun r hr=>?_⟩;obtain⟨c1,c2⟩:=uz hC hr;have O:¬m=b:=by simpa using O
 let good:Nat→Prop:=fun i=>∃t,ts[i]?=some t∧∀q,t q=q
 let ι:={ sn:Array Nat // ∀y∈sn.toList,∃i,good i∧y=QZ en i }
 have J:∀sn,look (Fa b m ck sn s0).H=upd (look s0.H) b (.it m ck sn):=fun sn=>by funext c;exact D9 s0.H c af
 refine eB (fun j:ι=>Fa b m ck j.1 s0) (fun j:ι=>IP en j.1) ⟨#[],fun y hy=>by simp at hy⟩ (bM rfl ?_) ?_
 ·rw[J];funext c;by_cases e:b=c
  ·subst e;simp[upd,af]
  ·simp[upd,e]
 rintro⟨sn,al⟩ K hK
 have key:Q4 (some r) P N ro (.seq (.region n ops false) B) (Fa b m ck sn s0) (fun r' e s'=>r'=r→andThen K (Q r) e s'):=by
  refine sS (sG ?_);rw[am];refine IL hw (by rw[ho,hd];rfl) (fun c hc=>by rw[ho] at hc;cases hc) fun φ M0 D' ac w rr=>?_
  have ab:look (Fa b m ck sn s0).H b=some (.it m ck sn):=by rw[J];simp[upd]
  have ah:look (Fa b m ck sn s0).H m=some (.mg en ck es):=by rw[J];simp[upd,Ne.symm O,ar]
  obtain⟨h1,hq⟩:=rr.hp.blk b _ ab;obtain⟨h2,hk,hv,_⟩:=rr.hp.blk m _ ah;rw[ib W] at hk hv;have ai:en.toList.length=es.length:=by simpa using congrArg List.length hk
  have Z:=rr.ev (x:=x) (v:=.iv b) hT;simp only[Qe] at Z;rcases run_next_at (P:=P) w o.type (φ b) (φ m) ck ck sn en ck h1 h2 hB.2 (Kz _) with⟨g1,g2⟩|⟨e,g1,w1,g2,g3⟩
  ·
   have hD:D=some r:=by
    refine c2 fun t ht=>?_
    obtain⟨i,hi⟩:=List.getElem?_of_mem ht;have hlt:i<en.toList.length:=by rw[ai,←U];exact(DC.1 hi).1
    have ad:(en.toList[i]).born∈sn.toList:=by
     have h5:en.toList[i]∈en.toList:=List.getElem_mem _;apply Classical.byContradiction;intro ax
     have:en.toList[i]∈(leftOf en sn).toList:=by
      simp only[leftOf,Array.toList_filter,List.mem_filter,Bool.not_eq_true'];refine⟨h5,?_⟩;rw[←Bool.not_eq_true,Array.contains_iff_mem];exact fun h=>ax (Array.mem_toList_iff.2 h)
     have h6:(leftOf en sn).toList=[]:=by
      rw[←List.length_eq_zero_iff,Array.length_toList];exact g1
     rw[h6] at this;cases this
    obtain⟨j,⟨t',aa,hid⟩,hj⟩:=al _ ad;have au:j<en.toList.length:=by rw[ai,←U];exact(DC.1 aa).1
    have ay:QZ en j=(en.toList[j]).born:=by
     have:en[j]?=some (en.toList[j]):=by rw[←Array.getElem?_toList];exact List.getElem?_eq_getElem _
     simp only[QZ,this,Option.map_some,Option.getD_some]
    rw[ay] at hj
    have a7:i=j:=by
     have hp:=List.pairwise_iff_getElem.1 hB.1;have h8:i<(en.toList.map (·.born)).length:=by simpa using hlt
     have h9:j<(en.toList.map (·.born)).length:=by simpa using au
     rcases Nat.lt_trichotomy i j with h|h|h
     ·have:=hp i j h8 h9 h;rw[List.getElem_map,List.getElem_map] at this;omega
     ·exact h
     ·have:=hp j i h9 h8 h;rw[List.getElem_map,List.getElem_map] at this;omega
    subst a7;rw[hi] at aa;cases aa;exact hid
   refine⟨.tup [.p (.val (.bool false))],mk ops o (Fa b m ck sn s0) true,rfl,?_,?_⟩
   ·have:=Y sn (fun r' e s'=>r'=r→andThen K (Q r) e s') ⟨fun _ _ h=>(by cases h),fun r' e s' hne h G=>(by
     subst G;cases e with
    |normal=>exact absurd rfl hne
    |_=>exact h)⟩
    exact⟨fun r' G=>by cases G;exact this.h r hD⟩
   ·refine Qo rr (v:=.tuple #[.bool false]) ?_ ?_
    ·simp[execOp,ho,Z.1,g2]
    ·simp only[Qe];exact⟨[.bool false],rfl,_,_,rfl,by simp[Qe,QM],rfl⟩
  ·obtain⟨i,hi⟩:=List.getElem?_of_mem ((by simpa [leftOf] using g1:e∈en.toList∧_).1);have hlt:i<en.toList.length:=(DC.1 hi).1;obtain⟨t,ht⟩:∃t,ts[i]?=some t:=⟨_,List.getElem?_eq_getElem zo⟩;obtain⟨⟨fl,k,v⟩,he⟩:∃q,es[i]?=some q:=⟨_,List.getElem?_eq_getElem zo⟩;have aw:fl=true:=X5.1 W _ (List.mem_of_getElem? he);subst aw;have ao:en[i]?=some e:=by rw[←Array.getElem?_toList];exact hi
   have ae:QZ en i=e.born:=by simp[QZ,ao]
   have an:e.key=Tc k:=by
    have:=congrArg (·[i]?) hk;simp only[List.getElem?_map,hi,he,Option.map_some,Q0] at this;exact this
   obtain⟨q,Cm,Lp⟩:∃q:Option R,t q=some r∧(q=none∨∀q,t q=q):=by
    rcases c1 t (List.mem_of_getElem? ht) with h|h
    ·exact⟨some r,h _,.inr h⟩
    ·exact⟨none,h _,.inl rfl⟩
   refine⟨.tup [.p (.val (.bool true)),.p (.val (Tc k)),v],mk ops o (Fa b m ck (sn.push (QZ en i)) s0) true,rfl,?_,?_⟩
   ·have:=aj i t k v ht he sn q (fun r' e s'=>r'=r→andThen K (Q r) e s') ⟨fun r' s' h3 h4 h5=>(by
      rcases Lp with rfl|hid
      ·cases h3
      ·refine hK s' ⟨⟨sn.push (QZ en i),fun y hy=>?_⟩,?_,h4⟩
       ·rw[Array.toList_push,List.mem_append,List.mem_singleton] at hy;rcases hy with hy|rfl
        ·exact al y hy
        ·exact⟨i,⟨t,ht,hid⟩,rfl⟩
       ·show IP en (sn.push (QZ en i))<IP en sn;rw[ae];exact bN g1),fun r' e s' hne h G=>(by
     subst G;cases e with
    |normal=>exact absurd rfl hne
    |_=>exact h)⟩
    exact⟨fun r' G=>by cases G;exact this.h r Cm⟩
   ·have E0:Q8 φ (look (Fa b m ck sn s0).H) w φ (look (Fa b m ck sn s0).H) w1:=by
     rcases g2 with rfl|rfl
     ·exact Q8.refl _ _ _
     ·exact LA rfl rfl rfl rfl
    have X0:YZ φ (look (Fa b m ck sn s0).H) w φ (look (Fa b m ck sn s0).H) w1:=by
     rcases g2 with rfl|rfl
     ·exact YZ.refl _ _ _
     ·exact Gp rfl
    have aq:ZQ φ (look (Fa b m ck sn s0).H) w1 M0:=by
     rcases g2 with rfl|rfl
     ·exact rr.hp
     ·exact DF (w:=w) (w':=w.drew) rfl E0 rr.hp
    have av:w1.heap[φ b]?=some (.mapIter (some (φ m)) ck sn ck):=by rcases g2 with rfl|rfl<;>exact h1
    obtain⟨E,X⟩:=MQ (k1:=.it m ck (sn.push e.born)) (ob:=.mapIter (some (φ m)) ck (sn.push e.born) ck) ab rfl rfl aq
    have az:look (mk ops o (Fa b m ck (sn.push (QZ en i)) s0) true).H=upd (look (Fa b m ck sn s0).H) b (.it m ck (sn.push e.born)):=by
     show look (Fa b m ck (sn.push (QZ en i)) s0).H=_;rw[J,J,ae];funext c;by_cases e:b=c
     ·subst e;simp[upd]
     ·simp[upd,e]
    rw[az]
    have ak:RelB φ (upd (look (Fa b m ck sn s0).H) b (.it m ck (sn.push e.born))) (w1.putObj (φ b) (.mapIter (some (φ m)) ck (sn.push e.born) ck)) (MM φ (upd (look (Fa b m ck sn s0).H) b (.it m ck (sn.push e.born))) M0) (φ b) (.it m ck (sn.push e.born)) :=
     ⟨World.putObj_heap_same (FL.1 av).1,.mg en ck es,by simp[upd,Ne.symm O,ah],rfl⟩
    have a6:=(QH (E.keeps M0) X).2 _ _ ((QH (E0.keeps M0) X0).2 _ _ hv);refine⟨_,.tuple #[.bool true,e.key,e.val],w1.putObj (φ b) (.mapIter (some (φ m)) ck (sn.push e.born) ck),φ,?_,.inl rfl,?_,Sm ab rfl rfl aq ak,E0.trans E,YZ.trans E0.size X0 X⟩
    ·simp[execOp,ho,Z.1,g3];rfl
    ·simp only[Qe];refine⟨[.bool true,e.key,e.val],rfl,_,_,rfl,by simp[Qe,QM],_,_,rfl,by simp[Qe,QM,an],_,_,rfl,?_,rfl⟩;exact TN (i:=i) a6 (by rw[List.getElem?_map,he];rfl) (by rw[List.getElem?_map,hi];rfl)
 exact Sl (key.h r rfl) fun e s' h=>h rfl
def BG{R:Type}(f:Nat→(Option R→Option R)→List UInt8→AV→Prop):Nat→List (Option R→Option R)→List (Bool×List UInt8×AV)→Prop|i,t::ts,e::es=>f i t e.2.1 e.2.2∧BG f (i+1) ts es|_,_,_=>True
theorem QbN{R:Type}{f:Nat→(Option R→Option R)→List UInt8→AV→Prop}:BG f i [] es:=by unfold BG;trivial
theorem We{R:Type}{f:Nat→(Option R→Option R)→List UInt8→AV→Prop}{t:Option R→Option R}{ts:List (Option R→Option R)}{e:Bool×List UInt8×AV}(h:f i t e.2.1 e.2.2)(hs:BG f (i+1) ts es):BG f i (t::ts) (e::es):=⟨h,hs⟩
theorem fV{R:Type}{f:Nat→(Option R→Option R)→List UInt8→AV→Prop}:∀{ts:List (Option R→Option R)} {es:List (Bool×List UInt8×AV)} {j i:Nat} {t:Option R→Option R} {e:Bool×List UInt8×AV},BG f j ts es→ts[i]?=some t→es[i]?=some e→f (j+i) t e.2.1 e.2.2
|[],_,_,_,_,_,_,h,_=>by simp at h
|_::_,[],_,_,_,_,_,_,h=>by simp at h
|t0::ts,O::es,j,0,t,e,h,J,G=>by
  simp only[List.getElem?_cons_zero,Q0] at J G;subst J G;exact h.1
|t0::ts,O::es,j,i+1,t,e,h,J,G=>by
  have:=fV h.2 (by simpa using J) (by simpa using G) (i:=i)
  rwa [show j+1+i=j+(i+1) by omega] at this
theorem il{R:Type}{F:Option R}:∀t∈([]:List (Option R→Option R)),jO F t:=fun _ h=>by cases h
theorem bP{R:Type}{F:Option R}{t:Option R→Option R}{ts:List (Option R→Option R)}(h:jO F t)(hs:∀u∈ts,jO F u):∀u∈t::ts,jO F u:=fun u hu=>by
 rcases List.mem_cons.1 hu with rfl|hu
 ·exact h
 ·exact hs u hu
theorem uA{m:Nat}{F D:Option R}(ts:List (Option R→Option R))(hB:Hl en ck)(J:ops.toList=o::l)(ho:o.op=.next x false)(hw:ZH ops o (look s0.T)=some true)(hd:KA N o.dst=true)(hT:Zp (look (Zm ops o s0.T true)) x=some (.iv b))(aa:look s0.H b=some (.it m ck #[]))(Z:look s0.H m=some (.mg en ck es))(Y:(m==b)=false)(O:es.all (·.1)=true)(W:ts.length=es.length)(hC:∀t∈ts,jO F t)(G:∀(sn:Array Nat) (Qn:R→AX→St→Prop),Nx N (none:Option R) s0 Q Qn→KR D P N ops (OH P N ro B Qn) false [(none,[])] l (St.put (mk ops o (Fa b m ck sn s0) true) o.dst (.tup [.p (.val (.bool false))])))(U:BG (fun i t k v=>∀(sn:Array Nat) (q:Option R) (Qn:R→AX→St→Prop),Nx N q (Fa b m ck (sn.push (QZ en i)) s0) Q Qn→KR (t q) P N ops (OH P N ro B Qn) false [(none,[])] l (St.put (mk ops o (Fa b m ck (sn.push (QZ en i)) s0) true) o.dst (.tup [.p (.val (.bool true)),.p (.val (Tc k)),v]))) 0 ts es) :
  Q4 (uy F D ts) P N ro (.loop (.seq (.region n ops false) B)) s0 Q :=
 bO ts hB J ho hw hd hT aa Z Y O W hC G fun i t k v h1 h2=>by
  have:=fV U h1 h2
  rwa [Nat.zero_add] at this
end
section
variable {R:Type}{a:Option R}{P:Program}{N:Nat}{ops:Array Oper}{o:Oper}{l:List Oper}{acc:List Yz}{s:St}{Q:R→AX→St→Prop}
def Qee(P:Program)(T:Nat→Option AV)(h:QO)(t:TypeId)(x ix y:Operand):KL:=(Js P T h t x ix y).getD (.p (.val undef),none,[])
theorem IQ{t:TypeId}(hw:ZH ops o (look s.T)=some true)(G:o.op=.insert t x ix y)(Y:KA N o.dst=true)(hu:(Js P (look (mk ops o s true).T) (look s.H) t x ix y).isSome=true)(h:KR a P N ops Q false ((none,[])::acc) l (JH (mk ops o s true) o.dst (Qee P (look (mk ops o s true).T) (look s.H) t x ix y))):KR a P N ops Q false acc (o::l) s:=by
 refine IL hw (by rw[G,Y];rfl) (fun c hc=>by rw[G] at hc;cases hc) fun φ M0 D Z w r=>?_
 obtain⟨u,hu⟩:=Rb.1 hu;have e:Qee P (look (mk ops o s true).T) (look s.H) t x ix y=u:=by unfold Qee;rw[hu];rfl
 rw[e] at h;have W:=Et (o:={ o with op:=.mapUpdate t x ix y }) r rfl hu;obtain⟨v,q,m⟩:=u;cases q with
|none=>exact⟨v,mk ops o s true,rfl,(show JH (mk ops o s true) o.dst (v,none,m)=St.put (mk ops o s true) o.dst v by cases o.dst<;>rfl)▸h,by
   obtain⟨J,v',w',φ',U,O⟩:=W;exact⟨J,v',w',φ',by rw[←U];simp[execOp,G],O⟩⟩
|some q =>
  obtain⟨b,k⟩:=q
  exact⟨v,⟨(mk ops o s true).T,(b,k)::s.H⟩,rfl,(show JH (mk ops o s true) o.dst (v,some (b,k),m)=St.put ⟨(mk ops o s true).T,(b,k)::s.H⟩ o.dst v by cases o.dst<;>rfl)▸h,by
   obtain⟨J,v',w',φ',U,O⟩:=W;refine⟨J,v',w',φ',by rw[←U];simp[execOp,G],?_⟩;show _∧_;rw[show look ((b,k)::s.H)=ap (look s.H) (some (b,k)) from tZ _ _ _];exact O⟩
end
section
variable {P:Program}{ops:Array Oper}{Q:Exit→Act→World→Prop}{k:Nat}{ok:Oper}
theorem bQ(h:Sv k ops=true)(hq:¬LetsOut Q)(hp:∀c a w v,Q (.panic c) (a.put ((ops[k]?).bind (·.dst)) v) w→Q (.panic c) a w)(hh:wpAny P .any (JQ k ops) Q (JQ k ops).size (Array.replicate (JQ k ops).size false) a w) :
  wpAny P .any ops Q ops.size (Array.replicate ops.size false) a w:=by
 unfold Sv at h;cases hk:ops[k]? with
|none=>rw[hk] at h;cases h
|some ok =>
  rw[hk] at h;simp only[Z8] at h;obtain⟨⟨⟨O,ae⟩,ad⟩,W⟩:=h;have ai:k<ops.size:=(FL.1 hk).1;rw[ul hk] at hh;obtain⟨n,Z⟩:∃n,ops.size=n+1:=⟨ops.size-1,by omega⟩
  have U:∃x,ok.op=.move x∧ok.guard=none:=by
   unfold uj at O;split at O
   ·exact⟨_,by assumption,by assumption⟩
   ·cases O
  obtain⟨x,ab,Y⟩:=U
  have J:∀w,(execOp a.eval ok).run P w=.ok (.value (a.eval x)) w:=by
   intro w;simp[execOp,ab]
  have hy:Yields P ops ok (a.eval x) a:=.inl ⟨by simp[Region.wanted,Y],J⟩
  have ah:(0:Nat)∈Region.ready .any (JQ k ops) (Array.replicate (n+1) false):=by
   rw[mem_ready];exact⟨by simp,_,Bw hk,fun e he=>by simp at he⟩
  have ac:k∈Region.ready .any ops (Array.replicate (n+1) false):=by
   rw[mem_ready];refine⟨by simp[show k<n+1 by omega],ok,hk,fun e he hb=>?_⟩;have:=X5.1 ae e (by simpa using he);rw[hb] at this;cases this
  rw[Z] at hh ⊢;have G:=hh.2 0 ah;unfold wpOp at G;rw[Bw hk] at G;simp only[Region.wanted,Y,if_true] at G
  have h3:wpAny P .any (JQ k ops) Q n ((Array.replicate (n+1) false).setIfInBounds 0 true) (a.put ok.dst (a.eval x)) w:=by
   rcases G with G|⟨_,G⟩
   ·unfold Oper.wp at G;rw[show ∀g,execOp a.eval { dst:=ok.dst,op:=ok.op,type:=ok.type,pos:=ok.pos,after:=#[],guard:=g }=execOp a.eval ok from fun _=>rfl,J w] at G;exact G
   ·exact absurd G hq
  have h4:wpAny P .any ops Q n ((Array.replicate (n+1) false).setIfInBounds k true) (a.put ok.dst (a.eval x)) w:=by
   refine um hk n _ _ _ w (by simp[Z]) (by simp[Z]) zq ?_ ?_ h3
   ·have:k<n+1:=by omega
    simp[this]
   ·intro i hi;rw[getD_set_ne false (aH hi).symm,getD_set_ne false (Ne.symm hi)];simp[Array.getElem?_replicate];split<;>split<;>rfl
  exact wpAny_first hk (Region.noSelect_spec ad) (fun c a w h=>hp c a w _ (by rw[hk];exact h)) n _ a w (fun j oj hj hne aa af=>Region.free_spec hk (by rw[Z] at W;exact W) j oj hj hne aa af) ac hy h4
end
def FY(d:Option Tmp)(s:St):St:=⟨s.T.filter fun p=>some p.1 != d,s.H⟩
theorem LW{d:Option Tmp}{t:Nat}{x:AV}:∀{T:List (Nat×AV)},look (T.filter fun p=>some p.1 != d) t=some x→look T t=some x∧d≠some t
|[],h=>by cases h
|(c,y)::T,h=>by
  by_cases e:some c=d
  ·have hf:((c,y)::T).filter (fun p=>some p.1 != d)=T.filter fun p=>some p.1 != d:=by simp[e]
   rw[hf] at h;have J:=LW h;refine⟨?_,J.2⟩;have G:c≠t:=fun O=>J.2 (by rw[←e,O])
   simp[look,G,J.1]
  ·have hf:((c,y)::T).filter (fun p=>some p.1 != d)=(c,y)::T.filter fun p=>some p.1 != d:=by simp[e]
   rw[hf] at h;simp only[look] at h ⊢;by_cases G:c=t
   ·subst G;simp only[if_true] at h ⊢;exact⟨h,fun O=>e O.symm⟩
   ·simp only[G,if_false] at h ⊢;exact LW h
def qd{R:Type}(d:Option Tmp)(Q:R→AX→St→Prop):R→AX→St→Prop:=fun r x s=>match x with|.normal=>Q r .normal s|.panic v=>Q r (.panic v) (FY d s)|_=>False
theorem iq{d:Option Tmp}(r:Zo φ M0 N D (look s.T) (look s.H) (a.put d v) w):Zo φ M0 N D (look (FY d s).T) (look (FY d s).H) a w:=by
 cases d with
|none =>
  refine⟨r.dfs,r.siz,r.hp,fun t x G=>r.tm t x (LW G).1⟩
|some d =>
  refine⟨r.dfs,by have:=r.siz;simpa [Act.put] using this,r.hp,fun t x G=>?_⟩;obtain⟨U,O⟩:=LW G;have J:=r.tm t x U;have:d≠t:=fun e=>O (by rw[e])
  have e:(a.put (some d) v).tmps.getD t undef=a.tmps.getD t undef:=by simp[Act.put,Array.getElem?_setIfInBounds_ne this]
  rw[e] at J;exact J
theorem bR{d:Option Tmp}(r:Zo φ M0 N D (look s.T) (look s.H) a w):Zo φ M0 N D (look (FY d s).T) (look (FY d s).H) a w :=
 ⟨r.dfs,r.siz,r.hp,fun t x G=>r.tm t x (LW G).1⟩
theorem drop_drop(d:Option Tmp)(s:St):FY d (FY d s)=FY d s:=by simp[FY,List.filter_filter]
theorem iw{R:Type}{G:R}{Q:R→AX→St→Prop}(k:Nat)(Y:P.follows .mixedOrders=true)(J:UC ops=true)(hf:Sv k ops=true)(h:KT P N (JQ k ops) (qd ((ops[k]?).bind (·.dst)) Q G) (JQ k ops).toList [] s):Ex P N ro (.region id ops true) s (Q G):=by
 intro φ M0 D a w r;refine wpIn_region_any Y (Bq J WE _ _ _ _ ?_);have W:=A9 h r
 have U:=bQ hf WE (fun c O w' v hc=>by
  obtain⟨φ',x,s',g1,g2,g3,g4⟩:=hc;cases x with
 |normal=>cases g4
 |exit i=>cases g4
 |ret=>cases g4
 |panic u =>
   refine⟨φ',.panic u,FY ((ops[k]?).bind (·.dst)) s',?_,iq g2,g3,g4⟩;show Q G (.panic u) (FY _ (FY _ s'));rw[drop_drop];exact g1) W
 refine Xv ?_ _ _ _ _ U;rintro e O w' ⟨φ',x,s',g1,g2,g3,g4⟩;cases x with
|normal=>exact⟨φ',.normal,s',g1,g2,g3,g4⟩
|exit i=>exact g1.elim
|ret=>exact g1.elim
|panic v=>exact⟨φ',.panic v,FY ((ops[k]?).bind (·.dst)) s',g1,bR g2,g3,g4⟩
section
variable {R:Type}{a:Option R}{P:Program}{N:Nat}{ro:Option Nat}{id:Nat}{ops:Array Oper}{s s':St}{Q:R→AX→St→Prop}{d:Option Tmp}{v:AV}
theorem iy(k:Nat)(O:P.follows .mixedOrders=true)(J:UC ops=true)(hf:Sv k ops=true)(h:KR a P N (JQ k ops) (qd ((ops[k]?).bind (·.dst)) Q) true [] (JQ k ops).toList s):Q4 a P N ro (.region id ops true) s Q:=⟨fun r G=>iw k O J hf (h.h r G)⟩
theorem QhO(h:ZI a Q .normal s):ZI a (qd d Q) .normal s:=⟨fun r G=>h.h r G⟩
theorem QhP(e:FY d s=s')(h:ZI a Q (.panic v) s'):ZI a (qd d Q) (.panic v) s:=by
 subst e;exact⟨fun r G=>h.h r G⟩
end
abbrev FV:=Fn×Array Value×Array Value
def fv(x:FV):Value:=.func x.1 x.2.1 x.2.2
def isFn:Option AV→Bool|some (.fn _ _ _)=>true|_=>false
theorem wZ{o:Option AV}(J:isFn o=true):∃x,o=some x∧∀v,Qe φ h w M x v→∃u:FV,v=fv u:=by
 match o,J with
|some (.fn f a b),_ =>
  refine⟨_,rfl,fun v G=>?_⟩;simp only[Qe] at G;obtain⟨l,m,rfl,_⟩:=G;exact⟨(f,l.toArray,m.toArray),rfl⟩
theorem Nq{R:Type}{a:Option R}{Q:R→AX→St→Prop}(b k:Nat)(hb:isFn (cellAt b k s)=true)(h:∀u:FV,Q4 a P N ro c (XP b k (.p (.val (fv u))) s) Q):Q4 a P N ro c s Q:=by
 refine⟨fun r Z=>?_⟩;intro φ M0 D U w r1;obtain⟨y,Y,O⟩:=wZ (φ:=φ) (h:=look s.H) (w:=w) (M:=MM φ (look s.H) M0) hb;obtain⟨kW,cs,J,Lp⟩:=U0 Y;obtain⟨c1,g1,g2⟩:=r1.hp.blk b _ J;obtain⟨u,g3,g4⟩:=Ut g2 Lp;obtain⟨u,rfl⟩:=O u g4;have W:look (XP b k (.p (.val (fv u))) s).H=upd (look s.H) b (.box kW (cs.set k (.p (.val (fv u))))):=Ni J
 have r2:Zo φ M0 N D (look (XP b k (.p (.val (fv u))) s).T) (look (XP b k (.p (.val (fv u))) s).H) U w:=by
  rw[W];refine SB r1 J fun c2 G=>?_
  rw[g1] at G;cases G;exact Xi g2 g3 (by simp[Qe,QM])
 have E1:Q8 φ (look s.H) w φ (look (XP b k (.p (.val (fv u))) s).H) w:=by rw[W];exact Dj J
 exact wpIn_mono ((h u).h r Z φ M0 D U w r2) fun _ _ _ p=>p.trans E1
theorem IR{R:Type}{a:Option R}{K:R→St→Prop}{Q:R→AX→St→Prop}{cs:List AV}(k:Nat)(hk:isFn (cs[k]?)=true)(h:∀u:FV,Ci a P N f (.agg (cs.set k (.p (.val (fv u))))::args) dst s K Q):Ci a P N f (.agg cs::args) dst s K Q:=by
 refine⟨fun r hr=>?_⟩;intro φ M0 D Y w vs r1 U;simp only[Qg] at U;obtain⟨y,ys,rfl,O,J⟩:=U;simp only[Qe] at O;obtain⟨l,rfl,W⟩:=O;obtain⟨x,Z,G⟩:=wZ (φ:=φ) (h:=look s.H) (w:=w) (M:=MM φ (look s.H) M0) hk;obtain⟨u,g1,g2⟩:=Ut W Z;obtain⟨u,rfl⟩:=G u g2;refine(h u).h r hr φ M0 D Y w _ r1 ?_;simp only[Qg];refine⟨_,ys,rfl,?_,J⟩;simp only[Qe];exact⟨l,rfl,by have:=Xi (k:=k) (x:=.p (.val (fv u))) (u:=fv u) W g1 (by simp[Qe,QM]);exact this⟩
theorem J6(m:Nat)(es:List (Bool×List UInt8×AV))(G:look s.H m=some (.mg en ck es):=by kernel_rfl):Weak N s (aV m (.mf es) s):=by
 intro φ M0 D a w r;have U:look (aV m (.mf es) s).H=upd (look s.H) m (.mf es):=by funext c;exact D9 s.H c G
 obtain⟨Z,W,h3,Y⟩:=r.hp.blk m _ G;obtain⟨O,E2,X2⟩:=fT (k1:=.mf es) G rfl rfl r.hp fun h' M' J X=>⟨en,ck,Z,W,(QH J X).2 _ _ h3,Y⟩
 rw[U];exact⟨φ,r.keep E2 X2 O,E2⟩
def kOf(s:St):HZ:=⟨s.T.map (·.1),s.H.map (·.1),[],[]⟩
section
variable {R V:Type}{o:Option R}{P:Program}{N:Nat}{ro:Option Nat}{c y:Code}{s:St}{Q:R→AX→St→Prop}{ops:Array Oper}{draw:Bool}{id:Nat}
theorem Qi(G:P.follows .mixedOrders=true)(s':St)(h:Q4 o P N ro y s' Q)(J:(TY P N ops draw s).bind (G6 (kOf s'))=some s':=by kernel_rfl):Q4 o P N ro (.seq (.region id ops draw) y) s Q:=sR G _ s' J h
theorem Qk(s':St)(h:Q4 o P N ro y s' Q)(hw:G6 (kOf s') s=some s':=by kernel_rfl):ZI o (OH P N ro y Q) .normal s:=sN _ s' hw h
theorem PQ(s':St)(h:Q4 o P N ro c s' Q)(hw:G6 (kOf s') s=some s':=by kernel_rfl):Q4 o P N ro c s Q:=sP _ s' hw h
theorem Q6{S:V→St}(v:V)(hw:G6 (kOf (S v)) s=some (S v):=by kernel_rfl):ZI (some v) (eQ N S) .normal s:=eT v _ hw
theorem YJ{k:V→Option R}{S:V→St}(v:V)(hw:G6 (kOf (S v)) s=some (S v):=by kernel_rfl):ZI (k v) (kQ N k S Q) .normal s:=QfF v _ hw
theorem H6(h:G6 (kOf s') s=some s':=by kernel_rfl):Weak N s s':=XL h
end
def c8b(c:UInt8):List PV:=[.val (.int .u8 c.toNat)]
section
variable {P:Program}{N:Nat}{D:DB}{o:Oper}{φ:Nat→Nat}{M0:ZM}{T:Nat→Option AV}{h:QO}{a:Act}{w:World}
theorem WO(b:List UInt8):(WN b).size=b.length:=by simp[WN,ByteArray.size]
theorem Dk{t u:TypeId}{s:Operand}(J:o.op=.call ⟨.builtin .append,#[s,x],#[t,u]⟩)(G:(Builtin.append_ #[t,u] o.type #[a.eval s,a.eval x]).run P w=.ok v w') :
  (execOp a.eval o).run P w=.ok (.value v) w':=by
 simp[execOp,J,resolve,invoke,builtin,G]
theorem IU:∀b:List UInt8,(b.map c8b).flatten=b.map fun c=>PV.val (.int .u8 c.toNat)
|[]=>rfl
|c::b=>by
  simp only[WV,List.flatten_cons,IU b];rfl
set_option maxHeartbeats 1000000 in
theorem bS(r:Zo φ M0 N D T h a w){t u:TypeId}{i:TypeInfo}{s:Operand}{es:List (List PV)}{b:List UInt8}(ho:o.op=.call ⟨.builtin .append,#[s,x],#[t,u]⟩)(ht:P.underlying t=some (.slice ty))(hu:P.underlying u=some .string)(hi:P.info? ty=some i)(ah:i.size=1)(aw:i.bytes=1)(hz:i.zero=some z)(az:z.cells.size=i.size∧0<i.size)(hs:Zp T s=some (.tsl i.size es tk))(hx:Zp T x=some (.p (.val (.string (WN b)))))(Y:h tk=some (.arr ty i.size es.length))(ba:es.length+es'.length≤140737488355328)(ai:es'=b.map c8b)(bc:b≠[]) :
  Yield P o φ M0 h a w (.tsl i.size (es++es') tk) (upd h tk (.arr ty i.size (es.length+es'.length))):=by
 have al:es'.length=b.length:=by rw[ai];simp
 have a7:(es.length+es'.length)*i.bytes≤140737488355328:=by rw[aw];omega
 obtain⟨l,hl⟩:∃l:List Value,l=b.map fun c=>Value.int .u8 c.toNat:=⟨_,rfl⟩
 have h3:∀e∈es',e.length=i.size:=by
  intro e he;rw[ai] at he;obtain⟨c,_,rfl⟩:=List.mem_map.1 he;rw[ah];rfl
 have h5:l.length=es'.length*i.size:=by rw[al,ah,hl];simp
 have h7:∀v∈l,v.oneCell'=true:=by
  intro v hv;rw[hl] at hv;obtain⟨c,_,rfl⟩:=List.mem_map.1 hv;rfl
 have bh:0<es'.length:=by rw[al];exact List.length_pos_iff.2 bc
 refine Yield.of_lift r 1 fun φ r E0 X0 hC=>?_
 have h8:∀(j:Nat) (c:PV) (v:Value),es'.flatten[j]?=some c→l[j]?=some v→QM w (MM φ h M0) c v:=by
  intro j c v O hv;have hf:es'.flatten=b.map fun c=>PV.val (.int .u8 c.toNat):=by rw[ai,IU]
  rw[hf,List.getElem?_map] at O;rw[hl,List.getElem?_map] at hv;cases hb:b[j]? with
 |none=>rw[hb] at O;cases O
 |some q =>
   rw[hb] at O hv;simp only[Option.map_some,Q0] at O hv;subst O;subst hv;simp[QM]
 have au:a.eval x=.string (WN b):=by
  have:=r.ev hx;simpa [Qe,QM] using this
 have ay:=r.ev hs;simp only[Qe] at ay;obtain⟨a8,VG,n2,ar,bf,an⟩:=ay;rw[Y] at ar;cases ar;rcases an rfl with⟨bd,af,_⟩|⟨J,c0,af,av,ad,bb,ae⟩
 ·have a6:es=[]:=List.length_eq_zero_iff.1 bd;subst a6;simp only[List.length_nil,Nat.zero_add] at a7 ba Y ⊢
  have ab:(Builtin.append_ #[t,u] o.type #[.slice none 0 0,.string (WN b)]).run P w=.ok (.slice (some ⟨w.heap.size,0,none⟩) es'.length (grownCap w es'.length 0 ty)) (w.drew.alloc (.cells (l.toArray++Builtin.zeroCells z.cells (grownCap w es'.length 0 ty-es'.length)) ty)):=by
   have:=run_append_nil_string (P:=P) w t u o.type ty i z ht hu hi hz (WN b) (by rw[WO];omega) (by rw[WO];omega) (by rw[WO,aw];omega);rw[WO] at this;rw[al];refine this.trans ?_;rw[hl];simp[WN]
  have ac:=grownCap_ge w es'.length 0 ty;have am:grownCap w es'.length 0 ty≤maxLen:=grownCap_le_maxLen w es'.length 0 ty (by unfold maxLen;omega);generalize grownCap w es'.length 0 ty=gc at *
  let C:Array Value:=l.toArray++Builtin.zeroCells z.cells (gc-es'.length)
  let w':World:=w.drew.alloc (.cells C ty)
  obtain⟨E,X⟩:=Hz (w:=w) (w':=w') (ob:=.cells C ty) (φ:=φ) (h:=h) (M0:=M0) (n':=es'.length) Y zo rfl rfl rfl rfl r.hp hC
  have Z:C.size=gc*i.size:=by
   simp only[C,Array.size_append,List.size_toArray,size_zeroCells,az.1,h5];rw[←Nat.add_mul];congr 1;omega
  have G:w'.heap[w.heap.size]?=some (.cells C ty (0,0)):=by show(w.heap.push _)[w.heap.size]?=_;simp
  have U:Qy φ tk w.heap.size tk=w.heap.size:=by simp[Qy]
  have hH:ZQ (Qy φ tk w.heap.size) (upd h tk (.arr ty i.size es'.length)) w' M0 :=
   LC Y r.hp E X (fun b hb=>by simp[Qy,Ne.symm hb]) (.inr ⟨U,hC⟩) (fun d hd _=>hC.lt r.hp (w':=w') (by show(w.heap.push _).size≤_;simp) (fun x hx=>by show(w.heap.push _)[x]?=_;rw[Array.getElem?_push,if_neg zo]) hd) (by rw[U];exact G) Z ac am
  refine⟨_,.slice (some ⟨w.heap.size,0,none⟩) es'.length gc,w',Qy φ tk w.heap.size,Dk ho (by rw[af,au];exact ab),.inl rfl,?_,hH,E,X⟩
  have W:∀x,x<es'.length*i.size→¬MM (Qy φ tk w.heap.size) (upd h tk (.arr ty i.size es'.length)) M0 w.heap.size x:=fun x hx =>
   LD (φ:=φ) (h:=h) r.hp hC (d:=tk) (ty:=ty) (S:=i.size) (n:=es'.length) (by simp[upd]) U (fun b k hb hk=>⟨by simpa [upd,Ne.symm hb] using hk,by simp[Qy,Ne.symm hb]⟩) hx
  simp only[Qe,QM,List.nil_append];refine⟨.inl ⟨w.heap.size,0,gc,rfl,ac,?_⟩,ty,es'.length,by simp[upd],Kz _,fun _=>.inr ⟨gc,C,by rw[U],by rw[U];exact G,Z,ac,am⟩⟩;rw[KM];refine⟨h3,JO (l:=l) (by rw[h5,ZG h3]) ?_ ?_ h7 ?_⟩
  ·intro j v O;rw[Ke G];have hlt:j<l.length:=(DC.1 O).1;simp only[Nat.zero_add,C];rw[Array.getElem?_append_left (by simpa using hlt)];simpa using O
  ·intro j O;simp only[Nat.zero_add];exact W j (by rw[←h5];exact O)
  ·intro j c v O hv;exact(Z0 (E.keeps M0)).1 _ _ (h8 j c v O hv)
 have ak:VR w (MM φ h M0) i.size (φ tk) 0 es:=by
  by_cases aq:es=[]
  ·subst aq;simp[VR]
  ·obtain⟨r2,o2,bg,l2,g1,_,_,g4,_⟩:=Xe a8 aq;rw[af] at g1;simp only[Value.slice.injEq,Q0,Addr.mk.injEq] at g1;obtain⟨⟨rfl,rfl,_⟩,_⟩:=g1;exact g4
 have aj:∀e∈es,e.length=i.size:=((KM es 0).1 ak).1;by_cases aa:es.length+es'.length≤J
 ·have bi:es.length*i.size+l.length≤c0.size:=by rw[h5,ad,←Nat.add_mul];exact Nat.mul_le_mul_right _ aa
  have ab:(Builtin.append_ #[t,u] o.type #[.slice (some ⟨φ tk,0,none⟩) es.length J,.string (WN b)]).run P w=.ok (.slice (some ⟨φ tk,0,none⟩) (es.length+es'.length) J) (w.setRow (φ tk) (c0.toList.take (es.length*i.size)++l++c0.toList.drop (es.length*i.size+l.length)).toArray):=by
   have:=Lib.run_append_room_string (P:=P) w t u o.type ty i ht hu hi ah (φ tk) es.length J c0 av (WN b) (by rw[WO];omega) (by rw[WO,ad,ah];omega);rw[WO] at this;rw[h5,al,ah,Nat.mul_one,Nat.mul_one,hl];refine this.trans ?_;simp[Lib.strCells,WN]
  let C:Array Value:=(c0.toList.take (es.length*i.size)++l++c0.toList.drop (es.length*i.size+l.length)).toArray
  have ax:(c0.toList.take (es.length*i.size)).length=es.length*i.size:=by simp;omega
  have Z:C.size=c0.size:=by simp[C];omega
  obtain⟨E,X⟩:=Eg (φ:=φ) (h:=h) (w:=w) (M0:=M0) (n':=es.length+es'.length) (c':=C) Y av zo Z (fun x hx=>by
   simp only[C,List.getElem?_toArray];rw[List.append_assoc,List.getElem?_append_left (by rw[ax];exact hx),List.getElem?_take,if_pos hx];simp) r.hp
  have G:(w.setRow (φ tk) C).heap[φ tk]?=some (.cells C ty (0,0)):=setRow_heap w _ c0 C ty _ av
  have hH:ZQ φ (upd h tk (.arr ty i.size (es.length+es'.length))) (w.setRow (φ tk) C) M0 :=
   LC Y r.hp E X (fun _ _=>rfl) (.inl rfl) (fun d hd be=>setRow_other w _ _ C (fun e=>be (r.hp.inj d tk hd (by rw[Y];simp) e))) G (by rw[Z,ad]) aa ae
  refine⟨_,.slice (some ⟨φ tk,0,none⟩) (es.length+es'.length) J,_,φ,Dk ho (by rw[af,au];exact ab),.inl rfl,?_,hH,E,X⟩
  have W:∀x,x<(es.length+es'.length)*i.size→¬MM φ (upd h tk (.arr ty i.size (es.length+es'.length))) M0 (φ tk) x:=by
   rintro x hx (⟨b,k,q1,q2,q3⟩|q1)
   ·by_cases e:tk=b
    ·subst e;have:k=.arr ty i.size (es.length+es'.length):=by simpa [upd] using q1.symm
     subst this;simp only at q3;omega
    ·have q4:h b=some k:=by simpa [upd,e] using q1
     exact e (r.hp.inj b tk (by rw[q4];simp) (by rw[Y];simp) q2).symm
   ·exact r.hp.fr tk (by rw[Y];simp) x q1
  simp only[Qe,QM];refine⟨.inl ⟨φ tk,0,J,by simp,by simpa using aa,?_⟩,ty,es.length+es'.length,by simp[upd],by simp,fun _=>.inr ⟨J,C,rfl,G,by rw[Z,ad],aa,ae⟩⟩;rw[Vn];refine⟨(Z0 (E.keeps M0)).2.1 _ _ _ _ ak,?_⟩;rw[KM];refine⟨h3,JO (l:=l) (by rw[h5,ZG h3]) ?_ ?_ h7 ?_⟩
  ·intro j v O;rw[Ke G];have hlt:j<l.length:=(DC.1 O).1;simp only[Nat.zero_add,C,List.getElem?_toArray];rw[List.append_assoc,List.getElem?_append_right (by rw[ax];omega),ax,List.getElem?_append_left zo];rw[show es.length*i.size+j-es.length*i.size=j from by omega];exact O
  ·intro j O;simp only[Nat.zero_add];refine W _ ?_;rw[h5] at O;rw[Nat.add_mul];omega
  ·intro j c v O hv;exact(Z0 (E.keeps M0)).1 _ _ (h8 j c v O hv)
 ·obtain⟨ol,g1,g2,g3,g4⟩:=GL _ _ ((KM es 0).1 ak).2;have ao:ol.length=es.length*i.size:=by rw[g1,ZG aj]
  have ab:(Builtin.append_ #[t,u] o.type #[.slice (some ⟨φ tk,0,none⟩) es.length J,.string (WN b)]).run P w=.ok (.slice (some ⟨w.heap.size,0,none⟩) (es.length+es'.length) (grownCap w (es.length+es'.length) J ty)) (w.drew.alloc (.cells (ol.toArray++l.toArray++Builtin.zeroCells z.cells (grownCap w (es.length+es'.length) J ty-(es.length+es'.length))) ty)):=by
   have:=Lib.run_append_grow_string (P:=P) w t u o.type ty i z ht hu hi hz ⟨φ tk,0,none⟩ es.length J ol ao (fun j v O=>by rw[Addr.add_lit];exact g2 j v O) (WN b) (by rw[WO];omega) (by rw[WO];omega) (growslice_fits (by rw[WO];omega) (by rw[WO,aw];omega));rw[WO] at this;rw[al];refine this.trans ?_;rw[hl];simp[Lib.strCells,WN]
  have ac:=grownCap_ge w (es.length+es'.length) J ty;have am:grownCap w (es.length+es'.length) J ty≤maxLen:=grownCap_le_maxLen w _ J ty (by unfold maxLen;omega);generalize grownCap w (es.length+es'.length) J ty=gc at *
  let C:Array Value:=ol.toArray++l.toArray++Builtin.zeroCells z.cells (gc-(es.length+es'.length))
  let w':World:=w.drew.alloc (.cells C ty)
  obtain⟨E,X⟩:=Hz (w:=w) (w':=w') (ob:=.cells C ty) (φ:=φ) (h:=h) (M0:=M0) (n':=es.length+es'.length) Y zo rfl rfl rfl rfl r.hp hC
  have Z:C.size=gc*i.size:=by
   simp only[C,Array.size_append,List.size_toArray,size_zeroCells,az.1,h5,ao];rw[←Nat.add_mul,←Nat.add_mul];congr 1;omega
  have G:w'.heap[w.heap.size]?=some (.cells C ty (0,0)):=by show(w.heap.push _)[w.heap.size]?=_;simp
  have U:Qy φ tk w.heap.size tk=w.heap.size:=by simp[Qy]
  have hH:ZQ (Qy φ tk w.heap.size) (upd h tk (.arr ty i.size (es.length+es'.length))) w' M0 :=
   LC Y r.hp E X (fun b hb=>by simp[Qy,Ne.symm hb]) (.inr ⟨U,hC⟩) (fun d hd _=>hC.lt r.hp (w':=w') (by show(w.heap.push _).size≤_;simp) (fun x hx=>by show(w.heap.push _)[x]?=_;rw[Array.getElem?_push,if_neg zo]) hd) (by rw[U];exact G) Z ac am
  refine⟨_,.slice (some ⟨w.heap.size,0,none⟩) (es.length+es'.length) gc,w',Qy φ tk w.heap.size,Dk ho (by rw[af,au];exact ab),.inl rfl,?_,hH,E,X⟩
  have W:∀x,x<(es.length+es'.length)*i.size→¬MM (Qy φ tk w.heap.size) (upd h tk (.arr ty i.size (es.length+es'.length))) M0 w.heap.size x:=fun x hx =>
   LD (φ:=φ) (h:=h) r.hp hC (d:=tk) (ty:=ty) (S:=i.size) (n:=es.length+es'.length) (by simp[upd]) U (fun b k hb hk=>⟨by simpa [upd,Ne.symm hb] using hk,by simp[Qy,Ne.symm hb]⟩) hx
  simp only[Qe,QM];refine⟨.inl ⟨w.heap.size,0,gc,by simp,by simpa using ac,?_⟩,ty,es.length+es'.length,by simp[upd],by simp,fun _=>.inr ⟨gc,C,by rw[U],by rw[U];exact G,Z,ac,am⟩⟩;rw[Vn];constructor
  ·rw[KM];refine⟨aj,JO (l:=ol) g1 ?_ ?_ g3 ?_⟩
   ·intro j v O;rw[Ke G];have hlt:j<ol.length:=(DC.1 O).1;simp only[Nat.zero_add,C];rw[Array.append_assoc,Array.getElem?_append_left (by simpa using hlt)];simpa using O
   ·intro j O;simp only[Nat.zero_add];refine W _ ?_;rw[ao] at O;rw[Nat.add_mul];omega
   ·intro j c v O hv;exact(Z0 (E.keeps M0)).1 _ _ (g4 j c v O hv)
  ·rw[KM];refine⟨h3,JO (l:=l) (by rw[h5,ZG h3]) ?_ ?_ h7 ?_⟩
   ·intro j v O;rw[Ke G];have hlt:j<l.length:=(DC.1 O).1;simp only[Nat.zero_add,C];rw[Array.append_assoc,Array.getElem?_append_right (by simp;omega),Array.getElem?_append_left (by simp;omega)];simp only[List.size_toArray,ao,List.getElem?_toArray];rw[show es.length*i.size+j-es.length*i.size=j from by omega];exact O
   ·intro j O;simp only[Nat.zero_add];refine W _ ?_;rw[h5] at O;rw[Nat.add_mul];omega
   ·intro j c v O hv;exact(Z0 (E.keeps M0)).1 _ _ (h8 j c v O hv)
end
section
variable {R:Type}{a:Option R}{P:Program}{N:Nat}{ops:Array Oper}{o:Oper}{l:List Oper}{acc:List Yz}{s:St}{Q:R→AX→St→Prop}
theorem H7{t u:TypeId}{bs b:List UInt8}(Y:o.op=.call ⟨.builtin .append,#[x,y],#[t,u]⟩)(ht:P.underlying t=some (.slice ty))(hu:P.underlying u=some .string)(hc:(QI (List.length (bs++b)) 1&&!List.isEmpty b)=true)(h:KR a P N ops Q false ((none,[])::acc) l (St.put ⟨(mk ops o s true).T,s.H.map fun p=>if p.1=tk then(p.1,.arr ty 1 (List.map c8b (bs++b)).length) else p⟩ o.dst (.tsl 1 (List.map c8b (bs++b)) tk)))(hw:ZH ops o (look s.T)=some true:=by kernel_rfl)(hd:KA N o.dst=true:=by kernel_rfl)(hi:(P.info? ty).map (fun i=>(i.size,i.bytes,i.zero))=some (1,1,some (.int .u8 0)):=by kernel_rfl)(hx:Zp (look (mk ops o s true).T) x=some (.tsl 1 (List.map c8b bs) tk):=by kernel_rfl)(hy:Zp (look (mk ops o s true).T) y=some (.p (.val (.string (WN b)))):=by kernel_rfl)(hb:look s.H tk=some (.arr ty 1 (List.map c8b bs).length):=by kernel_rfl):KR a P N ops Q false acc (o::l) s:=by
 refine IL hw (by rw[Y,hd];rfl) (fun c hc=>by rw[Y] at hc;cases hc) fun φ M0 D ac w r=>⟨_,⟨(mk ops o s true).T,s.H.map fun p=>if p.1=tk then(p.1,.arr ty 1 (List.map c8b (bs++b)).length) else p⟩,rfl,h,?_⟩
 obtain⟨i,U,J⟩:=Gn.1 hi;simp only[XA] at J;obtain⟨O,e2,e3⟩:=J;simp only[Z8,Bool.not_eq_true'] at hc;have G:=hc.1;simp only[QI,X4,Bg] at G
 have W:b≠[]:=by
  intro e;rw[e] at hc;exact absurd hc.2 zq
 have Z:look (s.H.map fun p=>if p.1=tk then(p.1,.arr ty 1 (List.map c8b (bs++b)).length) else p)=upd (look s.H) tk (.arr ty 1 (List.map c8b (bs++b)).length):=by
  funext c;exact D9 s.H c hb
 show Yield P o φ M0 (look s.H) ac w _ (look (s.H.map fun p=>if p.1=tk then(p.1,.arr ty 1 (List.map c8b (bs++b)).length) else p));rw[Z];have key:=bS (es:=List.map c8b bs) (es':=b.map c8b) (tk:=tk) (b:=b) (i:=i) (z:=.int .u8 0) r Y ht hu U O e2 e3 (by rw[O];exact⟨rfl,by omega⟩) (by rw[O];exact hx) hy (by rw[O];exact hb) (by simp only[WB];omega) rfl W;rw[O] at key;have hl:(List.map c8b (bs++b)).length=(List.map c8b bs).length+(List.map c8b b).length:=by simp
 rw[hl,List.map_append];exact key
theorem uB{Y:Act}{t:TypeId}{g:Nat}{k:IntKind}{n:Int}{G:List (List UInt8)}{x:List UInt8}(r:Zo φ M0 N D T h Y w)(ho:o.op=.indexAddr t (.global g) ix)(ht:P.underlying t=some (.array len e))(hi:(P.info? e).map (·.size)=some 1)(hn:Zp T ix=some (.p (.val (.int k n))))(hg:gfix.contains g=true)(af:G.length=len)(U:∀w,xx w→∀(j:Nat) (y:List UInt8),G[j]?=some y→w.cell? ⟨g,j,none⟩=some (.string (WN y)))(W:Q3 G n=some x):Yield P o φ M0 h Y w (.eptr [.val (.string (WN x))]) h:=by
 have ab:Y.eval ix=.int k n:=by
  have:=r.ev hn;simpa [Qe,QM] using this
 have J:0≤n∧n<(len:Int)∧G[n.toNat]?=some x:=by
  unfold Q3 at W;split at W
  ·cases W
  ·rename_i ae;have:=(DC.1 W).1;exact⟨by omega,by omega,W⟩
 obtain⟨j,rfl⟩:=Int.eq_ofNat_of_zero_le J.1;have O:=U w r.hp.gm.w j x (by simpa using J.2.2);obtain⟨inf,Z,aa⟩:=Gn.1 hi;refine Qo r (v:=.pointer (some ⟨g,j,none⟩)) ?_ ?_
 ·have hlt:(j:Int)<(len:Int):=J.2.1;have ad:Y.eval (.global g)=.pointer (some ⟨g,0,none⟩):=rfl;simp[execOp,ho,Instr.indexAt,ab,asIntOf,run_underlying ht,ad,Instr.sureAddr,Zb Z,aa,Addr.add_lit];intro hh;omega
 ·simp only[Qe,VQ,QM];exact⟨g,j,rfl,⟨_,O,r.hp.gm.m g (by simpa using hg) j,rfl,rfl⟩,trivial⟩
theorem Qef{L:List Nat}{c:Nat}{Ch:List (Nat×List Nat)}{k0:List UInt8→Option R}{t:TypeId}{g:Nat}{k:IntKind}{n:Int}{J:List (List UInt8)}(L':List Nat)(hc:ops[c]?=some o)(O:o.op=.indexAddr t (.global g) ix)(hd:KA N o.dst=true)(ht:P.underlying t=some (.array len e))(hi:(P.info? e).map (·.size)=some 1)(hn:Zp (look s.T) ix=some (.p (.val (.int k n))))(hg:gfix.contains g=true)(G:(J.length==len&&XO ops L c==L')=true)(U:∀w,xx w→∀(j:Nat) (y:List UInt8),J[j]?=some y→w.cell? ⟨g,j,none⟩=some (.string (WN y)))(hl:∀x,Q3 J n=some x→WX P ops L' (St.put s o.dst (.eptr [.val (.string (WN x))])))(h:∀x,OI (k0 x) P N ops Q L Ch (St.put s o.dst (.eptr [.val (.string (WN x))]))):OI ((Q3 J n).bind k0) P N ops Q L ((c,[])::Ch) s:=by
 simp only[Z8,beq_iff_eq] at G;obtain⟨G,hL⟩:=G;cases hx:Q3 J n with
|none=>exact⟨fun r Z=>by cases Z⟩
|some x =>
  refine⟨fun r Z=>?_⟩;simp only[jM,hc];unfold XG
  have key:fo P N o s (fun s'=>WX P ops (XO ops L c) s'∧∃W,LQ P N ops [] s'=some W∧jM P N ops (qh ops Q r) L Ch W):=by
   refine⟨fun c hc=>(by rw[O] at hc;cases hc),hd,fun φ M0 D ac w r1=>⟨_,s,rfl,⟨hL▸hl x hx,_,rfl,(h x).h r Z⟩,uB r1 O ht hi hn hg G U hx⟩⟩
  split
  ·rename_i Y;rw[Y] at O;cases O
  ·rename_i Y;rw[Y] at O;cases O
  ·rename_i Y;rw[Y] at O;cases O
  ·exact .inr key
theorem UE{dr:Bool}(h:KR ((some ()).bind fun _=>a) P N ops Q dr acc l s):KR a P N ops Q dr acc l s:=h
end
theorem iA(b k:Nat)(hb:cellAt b k s=some (.p (.val (.pointer none)))):Weak N s (XP b k (.sfp b) s):=by
 intro φ M0 D a w r;obtain⟨ty,cs,G,Lp⟩:=U0 hb;have J:look (XP b k (.sfp b) s).H=upd (look s.H) b (.box ty (cs.set k (.sfp b))):=Ni G;refine⟨φ,?_,?_⟩
 ·show Zo φ M0 N D (look s.T) (look (XP b k (.sfp b) s).H) a w;rw[J];refine SB r G fun c hc=>?_
  obtain⟨c',g1,g2⟩:=r.hp.blk b _ G;rw[hc] at g1;cases g1;obtain⟨u,g3,g4⟩:=Ut g2 Lp;refine Xi g2 g3 ?_;simp only[Qe];exact⟨.inl (by simpa [Qe,QM] using g4),ty,cs,G⟩
 ·rw[J];exact Dj G
def Nr(g:Nat)(w w':World):Prop :=w'.os=w.os∧w'.tape=w.tape∧w'.output=w.output∧w.heap.size≤w'.heap.size∧w'.heap.size≤w.heap.size+1∧(∀x,x<w.heap.size→x≠g→w'.heap[x]?=w.heap[x]?)∧(∀x o,x<w.heap.size→w'.cell? ⟨x,o,none⟩=w.cell? ⟨x,o,none⟩)
structure Qeg(P:Program)(f:FuncId)(ty te:TypeId):Prop where
 nil:∀(b g:Nat) (p:Value) (w:World),w.heap[b]?=some (.cells #[p,.slice none 0 0] ty (0,0))→Calls P f #[.pointer (some ⟨b,0,none⟩)] w fun e w'=>e=.returned (.string ⟨#[]⟩)∧Nr g w w'
 full:∀(b g cap:Nat) (p:Value) (cur:Array Value) (l:List UInt8) (w:World),l≠[]→w.heap[b]?=some (.cells #[p,.slice (some ⟨g,0,none⟩) l.length cap] ty (0,0))→w.heap[g]?=some (.cells cur te (0,0))→l.length≤cap→cap≤maxLen→cur.size=cap →
  (∀(j:Nat) (x:UInt8),l[j]?=some x→w.cell? ⟨g,j,none⟩=some (.int .u8 x.toNat))→Calls P f #[.pointer (some ⟨b,0,none⟩)] w fun e w'=>e=.returned (.string ⟨l.toArray⟩)∧Nr g w w'
 noroom:∀(b g:Nat) (p:Value) (cur:Array Value) (w:World),w.heap[b]?=some (.cells #[p,.slice (some ⟨g,0,none⟩) 0 0] ty (0,0))→w.heap[g]?=some (.cells cur te (0,0))→Calls P f #[.pointer (some ⟨b,0,none⟩)] w fun e w'=>e=.returned (.string ⟨#[]⟩)∧Nr g w w'
 room:∀(b g cap:Nat) (p:Value) (w:World),cap≠0→w.heap[b]?=some (.cells #[p,.slice (some ⟨g,0,none⟩) 0 cap] ty (0,0))→Calls P f #[.pointer (some ⟨b,0,none⟩)] w fun e w'=>e=.returned (.string ⟨#[]⟩)∧Nr g w w'
theorem upd_same{k:Blk}(hb:h b=some k):upd h b k=h:=by
 funext c;simp only[upd];split
 ·rename_i e;rw[←e,hb]
 ·rfl
theorem uC(hU:∀(b:Nat) (w:World),w.cell? ⟨b,0,none⟩=some (.pointer (some ⟨b,0,none⟩))→Calls P f #[.pointer (some ⟨b,0,none⟩)] w fun e w'=>e=.returned (.tuple #[])∧w'=w)(hF:∀(b:Nat) (w:World),w.cell? ⟨b,0,none⟩=some (.pointer none)→w.shape? b=some (ty,2)→w.frozen? ⟨b,0,none⟩=false→Calls P f #[.pointer (some ⟨b,0,none⟩)] w fun e w'=>e=.returned (.tuple #[])∧w'=w.setCell ⟨b,0,none⟩ (.pointer (some ⟨b,0,none⟩)))(G:Option Addr)(J hc:Nat) :
  YV P f [.ptr 1000 0] (look [(1000,.box ty [.sfp 1000,.p (.val (.slice G J hc))])]) fun r h'=>r=.ret (.tup [])∧h'=look [(1000,.box ty [.sfp 1000,.p (.val (.slice G J hc))])]:=by
 intro φ M0 w vs r Z;simp only[Qg] at Z;obtain⟨y,ys,rfl,hy,rfl⟩:=Z;simp only[Qe] at hy;obtain⟨rfl,_⟩:=hy;have hb:look [(1000,Blk.box ty [.sfp 1000,.p (.val (.slice G J hc))])] 1000=some (.box ty [.sfp 1000,.p (.val (.slice G J hc))]):=rfl;obtain⟨c,hw,O⟩:=r.blk 1000 _ hb;have Y:=O;simp only[Qg] at O;obtain⟨v0,l0,e0,h0,W,l1,e1,h1,rfl⟩:=O;subst e1
 have ec:c=#[v0,W]:=by
  apply Array.ext';exact e0
 subst ec;simp only[Qe] at h0;rcases h0.1 with rfl|rfl
 ·refine(hF (φ 1000) w (by simp[World.cell?,hw]) (by simp[World.shape?,hw]) (by simp[World.frozen?,hw])).mono ?_;rintro e w' ⟨rfl,rfl⟩;rw[setCell_eq_setRow w (φ 1000) 0 _ ty (0,0) _ hw]
  have U:Qg φ (look [(1000,Blk.box ty [.sfp 1000,.p (.val (.slice G J hc))])]) w (MM φ (look [(1000,Blk.box ty [.sfp 1000,.p (.val (.slice G J hc))])]) M0) [.sfp 1000,.p (.val (.slice G J hc))] ((#[.pointer none,W]:Array Value).setIfInBounds 0 (.pointer (some ⟨φ 1000,0,none⟩))).toList:=by
   simp only[Qg,Qe];exact⟨.pointer (some ⟨φ 1000,0,none⟩),[W],by simp,⟨.inr rfl,h0.2⟩,W,[],rfl,h1,rfl⟩
  obtain⟨E,X⟩:=Ah (cs':=[.sfp 1000,.p (.val (.slice G J hc))]) (c':=(#[.pointer none,W]:Array Value).setIfInBounds 0 (.pointer (some ⟨φ 1000,0,none⟩))) hb hw r;have R:=y8 hb hw r U;rw[upd_same hb] at E R;exact⟨φ,_,_,⟨rfl,rfl⟩,R,E,_,rfl,by simp[Qe,Qg]⟩
 ·refine(hU (φ 1000) w (by simp[World.cell?,hw])).mono ?_;rintro e w' ⟨rfl,rfl⟩;exact⟨φ,_,_,⟨rfl,rfl⟩,r,Q8.refl _ _ _,_,rfl,by simp[Qe,Qg]⟩
theorem uD{te:TypeId}{t:Nat}{l:List UInt8}(C:Qeg P f ty te)(K0:HZ)(hb:look s.H b=some (.box ty [.sfp b,.tsl 1 (List.map c8b l) t]))(ht:look s.H t=some (.arr te 1 (List.map c8b l).length))(hs:G6 K0 s=some s')(aw:look s'.H t=none)(hsub:∀c,look s'.H c≠none→look s.H c≠none)(hd:∀x,dst=some x→x<N)(hk:K (s'.put dst (.p (.val (.string (WN l)))))):F5 P N f [.ptr b 0] dst s K Q:=by
 intro φ M0 D a w vs r ha;simp only[Qg] at ha;obtain⟨y,ys,rfl,hy,rfl⟩:=ha;simp only[Qe] at hy;obtain⟨rfl,_⟩:=hy;obtain⟨r1,E1⟩:=Qbv hs r;obtain⟨r2,E2,X2,hC⟩:=r1.lift 1
 have fin:∀w',Nr (φ t) w w'→∃φ' G,K G∧Zo φ' M0 N D (look G.T) (look G.H) (a.put dst (.string (WN l))) w'∧Q8 φ (look s.H) w φ' (look G.H) w':=by
  rintro w' ⟨h1,h2,h3,h4,h5,h6,h7⟩;generalize aq:KZ φ w.heap.size 1=U at r2 E2 X2 hC
  have hne:∀c,look s'.H c≠none→φ c≠φ t:=fun c hc e=>by
   have:=r.hp.inj c t (hsub c hc) (by rw[ht];simp) e;rw[this] at hc;exact hc aw
  have hh:∀c k,look s'.H c=some k→w'.heap[U c]?=w.heap[U c]?:=by
   intro c k hc;rcases hC c (by rw[hc];simp) with hlt|ax
   ·have an:U c=φ c:=by
     rw[←aq] at hlt ⊢;unfold KZ at hlt ⊢;split
     ·rfl
     ·rename_i h;rw[if_neg h] at hlt;omega
    rw[an] at hlt ⊢;exact h6 _ hlt (hne c (by rw[hc];simp))
   ·rw[Z6 zo,Z6 zo]
  have ae:∀x o v,w.cell? ⟨x,o,none⟩=some v→¬MM U (look s'.H) M0 x o→w'.cell? ⟨x,o,none⟩=some v∧¬MM U (look s'.H) M0 x o:=fun x o v g1 g2=>⟨by rw[h7 x o (DD g1)];exact g1,g2⟩
  have X:YZ U (look s'.H) w U (look s'.H) w':=⟨fun _ _ _ x=>⟨⟨_,_,x⟩,rfl⟩,fun c ty S n x=>⟨_,x,Kz _,fun _=>Yy rfl (by rw[hh _ _ x])⟩,
   fun c ty S n x=>⟨_,x,Kz _,fun _=>⟨rfl,fun q hq=>⟨q,by rw[hh _ _ x];exact hq,rfl⟩⟩⟩,fun _ _ _ g1 g2=>⟨⟨_,g1,g2⟩,rfl⟩⟩
  have E3:=E1.trans E2;have av:w.heap.size≤w.heap.size:=Kz _
  have E:Q8 φ (look s.H) w U (look s'.H) w':=by
   refine⟨h1,h2,h3,h4,fun x hx ar=>?_,fun x o hx _=>h7 x o hx,E3.mu,E3.kb,fun c ty S n hc aa=>?_,fun c ty S es hc aa=>?_,E3.ko⟩
   ·exact h6 x hx (fun e=>ar t (by rw[ht];simp) e.symm)
   ·obtain⟨n',g1,g2,g3⟩:=E3.kt c ty S n hc aa;exact⟨n',g1,g2,fun e=>(g3 e).trans av (Yy rfl (hh _ _ g1))⟩
   ·obtain⟨es',g1,g2,g3⟩:=E3.kv c ty S es hc aa;refine⟨es',g1,g2,fun e=>?_⟩;obtain⟨g4,g5⟩:=g3 e;refine⟨g4,fun q hq=>?_⟩;obtain⟨q',g6,g7⟩:=g5 q hq;refine⟨q',?_,g7⟩;have:=hh _ _ g1;rw[g4] at this;rw[this];exact g6
  have R:ZQ U (look s'.H) w' M0:=⟨r2.hp.inj,fun c k hc=>Z4 ae X (hh c k hc) (r2.hp.blk c k hc),r2.hp.fr,fun x o hx=>Nat.lt_of_lt_of_le (r2.hp.lt x o hx) h4,r.hp.gm.evol E⟩;have rr:Zo U M0 N D (look s'.T) (look s'.H) a w':=⟨r.dfs.keep E,r.siz,R,fun q x hq=>⟨(r2.tm q x hq).1,(QH ae X).1 _ _ (r2.tm q x hq).2⟩⟩;refine⟨U,s'.put dst (.p (.val (.string (WN l)))),hk,rr.put hd (by simp[Qe,QM]),?_⟩;cases dst<;>exact E
 have J:∀(e:Ending) (w':World),(e=.returned (.string (WN l))∧Nr (φ t) w w')→(match e with
 |.returned v=>∃φ' G,K G∧Zo φ' M0 N D (look G.T) (look G.H) (a.put dst v) w'∧Q8 φ (look s.H) w φ' (look G.H) w'
 |.panicked chain=>Post N D Q φ M0 (look s.H) w (.panic chain) a w'
 |.outgrown=>False):=by
  rintro e w' ⟨rfl,am⟩;exact fin w' am
 obtain⟨c,hw,ai⟩:=r.hp.blk b _ hb;simp only[Qg] at ai;obtain⟨v0,l0,e0,h0,v1,l1,e1,h1,rfl⟩:=ai;subst e1
 have ec:c=#[v0,v1]:=by
  apply Array.ext';exact e0
 subst ec;simp only[Qe] at h1;obtain⟨ad,VG,n2,af,ay,W⟩:=h1;rw[ht] at af;cases af;rcases W rfl with⟨au,rfl,al⟩|⟨cap,c0,rfl,ah,ao,Z,aj⟩
 ·have O:l=[]:=List.eq_nil_of_length_eq_zero (by simpa using au);subst O;exact(C.nil (φ b) (φ t) v0 w hw).mono J
 ·rw[WB] at hw Z;by_cases O:l=[]
  ·subst O;by_cases ac:cap=0
   ·subst ac;exact(C.noroom (φ b) (φ t) v0 c0 w hw ah).mono J
   ·exact(C.room (φ b) (φ t) cap v0 w ac hw).mono J
  ·refine(C.full (φ b) (φ t) cap v0 c0 l w O hw ah Z aj (by rw[ao,Nat.mul_one]) ?_).mono J;intro j x hx;simp only[QM] at ad;rcases ad with⟨rr,oo,cp,g1,g2,g3⟩|⟨g1,_⟩
   ·simp only[Value.slice.injEq,Q0,Addr.mk.injEq] at g1;obtain⟨⟨rfl,rfl,_⟩,_⟩:=g1;obtain⟨ol,k1,k2,k3,k4⟩:=GL _ _ ((KM _ 0).1 g3).2;rw[IU] at k1 k4;have hj:j<l.length:=(DC.1 hx).1
    have ak:∃v,ol[j]?=some v:=by
     have:j<ol.length:=by rw[k1];simpa using hj
     exact⟨_,List.getElem?_eq_getElem this⟩
    obtain⟨v,hv⟩:=ak;have ab:=k2 j v hv;have Y:=k4 j (.val (.int .u8 x.toNat)) v (by rw[List.getElem?_map,hx];rfl) hv;simp only[QM] at Y;subst Y;simpa [Addr.add_lit] using ab
   ·exact absurd (by simpa using g1) O
section
variable {R:Type}{a:Option R}{P:Program}{N:Nat}{ops:Array Oper}{o:Oper}{l:List Oper}{acc:List Yz}{s s':St}{Q:R→AX→St→Prop}
theorem QbO{J:TypeId}{t:Nat}{bs:List UInt8}(C:Qeg P f ty J)(O:HZ)(hw:ZH ops o (look s.T)=some true)(hcall:Kg (look (Zm ops o s.T true)) o.op=some (f,[.ptr b 0]))(hok:(Y1 P f&&KA N o.dst)=true)(hb:look s.H b=some (.box ty [.sfp b,.tsl 1 (List.map c8b bs) t]))(W:look s.H t=some (.arr J 1 (List.map c8b bs).length))(hs:G6 O (mk ops o s true)=some s')(G:(look s'.H t).isNone=true)(hsub:(s'.H.all fun p=>(look s.H p.1).isSome)=true)(h:KR a P N ops Q false ((none,[])::acc) l (St.put s' o.dst (.p (.val (.string (WN bs)))))):KR a P N ops Q false acc (o::l) s:=by
 simp only[Z8] at hok;refine⟨fun r Z=>?_⟩;show Yg P N ops (Q r) (o::l) s;simp only[Yg,hw,ZX,Jd hcall];refine Xu hcall hok.1 (uD C O hb W hs (by simpa using G) (fun c hc=>?_) (Z7 hok.2) (h.h r Z));obtain⟨k,Y⟩:=EM.1 hc;have hm:c∈s'.H.map (·.1):=YA.1 (by rw[Y];simp);obtain⟨p,hp,rfl⟩:=List.mem_map.1 hm;have:=X5.1 hsub p hp;obtain⟨q,U⟩:=Rb.1 this;show look s.H p.1≠none;rw[U];simp
end
end Go.Abs
namespace Go.Proofs
open Go Go.RowKit
set_option maxHeartbeats 1000000 in
set_option maxRecDepth 100000 in
theorem bT(b:Nat)(w:World)(h0:w.cell? ⟨b,0,none⟩=some (.pointer (some ⟨b,0,none⟩))) :
  Calls Tryz.prog 131 #[.pointer (some ⟨b,0,none⟩)] w fun e w'=>e=.returned (.tuple #[])∧w'=w:=by
 obtain⟨j,J,G⟩:∃j,Tryz.prog.info? 95=some j∧j.size=2:=Gn.1 (show(Tryz.prog.info? 95).map (·.size)=some 2 by kernel_rfl)
 go_enter Tryz.func131,Tryz.ntmps131
 go_wp2
 rw[Lib.run_neq_ptr_same w _ Tryz.underlying92 J]
 go_wp2
 go_end0
 exact⟨rfl,rfl⟩
set_option maxHeartbeats 1000000 in
set_option maxRecDepth 100000 in
theorem uE(b:Nat)(w:World)(h0:w.cell? ⟨b,0,none⟩=some (.pointer none))(G:w.shape? b=some (97,2))(U:w.frozen? ⟨b,0,none⟩=false) :
  Calls Tryz.prog 131 #[.pointer (some ⟨b,0,none⟩)] w fun e w'=>e=.returned (.tuple #[])∧w'=w.setCell ⟨b,0,none⟩ (.pointer (some ⟨b,0,none⟩)):=by
 obtain⟨j,O,J⟩:∃j,Tryz.prog.info? 95=some j∧j.size=2:=Gn.1 (show(Tryz.prog.info? 95).map (·.size)=some 2 by kernel_rfl)
 go_enter Tryz.func131,Tryz.ntmps131
 go_wp2
 rw[Lib.run_to_unsafe w ⟨b,0,none⟩ Tryz.underlying92 Tryz.underlying274 O (by rw[J];decide) G (Nat.zero_lt_succ 1)];simp only[Result.andThen];rw[Oper.upon_value]
 go_wp2
 rw[run_callFunc_extern Tryz.func194 (by kernel_rfl) (by kernel_rfl) (by kernel_rfl) (e:=Extern.AbiNoEscape.same) (by kernel_rfl)];rw[Lib.run_noEscape];simp only[Result.andThen];rw[Oper.upon_value]
 go_wp2
 rw[Lib.run_from_unsafe w ⟨b,0,none⟩ Tryz.underlying274 Tryz.underlying92 O G (by kernel_rfl)];simp only[Result.andThen];rw[Oper.upon_value]
 go_wp2
 go_end0
 exact⟨rfl,rfl⟩
end Go.Proofs
namespace Go.Proofs
open Go Go.RowKit Go.Abs
variable {n:Nat}
theorem PR(g:Nat)(w:World):Nr g w w:=⟨rfl,rfl,rfl,Kz _,Nat.le_succ _,fun _ _ _=>rfl,fun _ _ _=>rfl⟩
theorem bU{g:Nat}{w w':World}(o:Obj)(hw:w'=w.drew.alloc o∨w'=(w.alloc o).drew∨w'=w.alloc o):Nr g w w':=by
 have key:Nr g w (w.alloc o):=by
  have G:∀x,x<w.heap.size→(w.alloc o).heap[x]?=w.heap[x]?:=fun x J=>by show(w.heap.push o)[x]?=_;rw[Array.getElem?_push,if_neg zo]
  exact⟨rfl,rfl,rfl,by show _≤(w.heap.push o).size;simp,by show(w.heap.push o).size≤_;simp,fun x J _=>G x J,fun x y J=>by simp[World.cell?,G x J]⟩
 rcases hw with rfl|rfl|rfl
 ·exact key
 ·exact key
 ·exact key
theorem w9{g:Nat}{w:World}:Nr g w (w.freeze ⟨g,0,none⟩ n):=by
 unfold World.freeze;split
 ·exact PR g w
 ·refine⟨rfl,rfl,rfl,by simp,by simp,fun x G hne=>?_,fun x o G=>?_⟩
  ·simp only[Array.getElem?_modify];rw[if_neg (fun e=>hne e.symm)]
  ·simp only[World.cell?,Array.getElem?_modify];by_cases e:g=x
   ·subst e;simp only[if_true];cases hc:w.heap[g]? with
   |none=>rfl
   |some ob=>cases ob<;>rfl
   ·rw[if_neg e]
set_option maxHeartbeats 2000000 in
set_option maxRecDepth 100000 in
theorem QbP(b g:Nat)(p:Value)(w:World)(G:w.heap[b]?=some (.cells #[p,.slice none 0 0] 97 (0,0))) :
  Calls Tryz.prog 32 #[.pointer (some ⟨b,0,none⟩)] w fun e w'=>e=.returned (.string ⟨#[]⟩)∧Nr g w w':=by
 have J:∀(W:World) (q:Option Addr),(Builtin.unsafeString_ #[163,3] 9 #[.pointer q,.int .i64 0]).run Tryz.prog W=.ok (.string .empty) W:=fun W q=>Lib.run_unsafeString_none W _ _ _ q
 have U:w.drew.cell? ⟨b,1,none⟩=some (.slice none 0 0):=by
  have:w.drew.heap[b]?=some (.cells #[p,.slice none 0 0] 97 (0,0)):=G;rw[Lib.cell_of_heap this];rfl
 have O:(Builtin.unsafeSliceData_ #[93] 163 #[.slice none 0 0]).run Tryz.prog w.drew=.ok (.pointer none) w.drew:=rfl;have mixed:Tryz.prog.follows .mixedOrders=true:=by kernel_rfl
 go_enter Tryz.func32,Tryz.ntmps32
 go_wp2
 go_region_o
 all_goals (go_wp2;go_ret;exact⟨rfl,PR g w⟩)
end Go.Proofs
