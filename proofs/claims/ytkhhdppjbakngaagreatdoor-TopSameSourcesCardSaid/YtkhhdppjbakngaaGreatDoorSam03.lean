/-
  A part of the proof of a statement of the seat YtkhhdppjbakngaaGreatDoor.
-/
import Derived.Test.YtkhhdppjbakngaaGreatDoorSam02
set_option linter.unusedVariables false
namespace Go.Abs
open Go
variable {D:DB}{H:List (Nat×Blk)}{M M0:ZK}{N:Nat}{P:Program}{Q:AX→St→Prop}{Q':Exit→Act→World→Prop}{T:Nat→Option AV}{a:Act}{b:Nat}{body c:Code}{d:Nat}{e:TypeId}{α:Type}{enc:α→List PV}{es:List (Bool×List UInt8×AV)}{fn:Func}{h h0:QN}{hc hc':List (Nat×Blk)}{hi:Option Operand}{i id:Nat}{ix:Operand}{j:Nat}{k0:Blk}{kt:TypeId}{len:Nat}{listed:Array Bool}{lo:Option Operand}{n:Nat}{nf:TJ}{o:Oper}{ok:Bool}{ops:Array Oper}{p:AV}{pd:Option Code}{ro:Option Nat}{s s' s1:St}{st:LoopState}{sv:AV}{tk:Nat}{tx ty:TypeId}{v:Value}{w w' w0:World}{x y:Operand}{z:Value}{β:Type}{ρ φ φ' φ0:Nat→Nat}
section
variable {P:Program}{o:Oper}{T:Nat→Option AV}{h:QN}
def dX(P:Program):Nat→TypeId→Value→Value→Option Bool
|0,_,_,_=>none
|d+1,t,x,y =>
  match P.underlying t with
 |some .bool=>match x,y with|.bool a,.bool b=>some (a==b)|_,_=>none
 |some (.int _)=>match x,y with|.int k a,.int k' b=>if k=k' then some (Ql a b) else none|_,_=>none
 |some .string=>match x,y with|.string a,.string b=>some (Qs (Xf a) (Xf b))|_,_=>none
 |some (.struct fields)=>match x,y with
  |.agg xs,.agg ys=>if P.stoodInHeld t then none else fields.toList.foldr (fun f r=>if f.name="_" then r else
     match Dr P f.type xs.toList f.offset,Dr P f.type ys.toList f.offset with
    |some a,some b=>match dX P d f.type a b,r with|some p,some q=>some (p&&q)|_,_=>none
    |_,_=>none) (some true)
  |_,_=>none
 |_=>none
theorem nQ(P:Program):∀(d:Nat) (t:TypeId) (x y:Value),dX P d t x y=eqV P d t x y
 |0,t,x,y=>by simp[dX,eqV]
 |d+1,t,x,y=>by
    have hf:∀(xs ys:List Value) (G:List Field),G.foldr (fun f r=>if f.name="_" then r else
          match Dr P f.type xs f.offset,Dr P f.type ys f.offset with
         |some a,some b=>match dX P d f.type a b,r with|some p,some q=>some (p&&q)|_,_=>none
         |_,_=>none) (some true)=eqV.eqFs P d xs ys G:=by
      intro xs ys G
      induction G with
     |nil=>simp[eqV.eqFs]
     |cons f G Z =>
        simp only[List.foldr_cons,eqV.eqFs,Z];split
        · rfl
        · split
          · rename_i a b O J;simp only[O,J,nQ P d f.type a b];cases eqV P d f.type a b<;>cases eqV.eqFs P d xs ys G<;>rfl
          · rename_i O
            split
            · rename_i J Y;exact absurd Y (by intro U;exact O _ _ J U)
            · rfl
    unfold dX eqV;cases hu:P.underlying t with
   |none=>rfl
   |some W =>
      cases W with
     |bool=>cases x<;>cases y<;>rfl
     |int k=>cases x<;>cases y<;>rfl
     |string=>cases x<;>cases y<;>rfl
     |struct fields =>
        cases x<;>cases y<;>try rfl
        rename_i xs ys;simp only;split
        · rfl
        · exact hf _ _ _
     |_=>rfl
theorem Bi{xs ys:List AV}{vx vy:List Value}{b:Bool}(O:o.op=.binOp .neq tx x y ty)(Y:Zo T x=some (.agg xs):=by kernel_rfl)(W:Zo T y=some (.agg ys):=by kernel_rfl)(U:P.eqGuardType P.depth tx=false:=by kernel_rfl)(J:Mh xs=some vx:=by kernel_rfl)(G:Mh ys=some vy:=by kernel_rfl)(hb:dX P 4 tx (.agg vx.toArray) (.agg vy.toArray)=some b:=by kernel_rfl):Jy P o T h=some (.p (.val (.bool (!Ni b))),none,[]):=by
 rw[nQ] at hb;simp[Jy,O,Ib,Y,W,TL,aEq,uS,U,J,G,hb]
end
def WO{V:Type}(X:V→Kw×List (Nat×Blk))(v:V):Kw→QN→Prop:=fun r h'=>r=(X v).1∧h'=look (X v).2
def hQ{V:Type}(P:Program)(fn:Func)(hc:List (Nat×Blk))(X:V→Kw×List (Nat×Blk)):V→AX→St→Prop:=fun v=>nJ P fn hc (WO X v)
section
variable {R V E:Type}{a a1 a2:Option R}{P:Program}{N:Nat}{ro:Option Nat}{ops:Array Oper}{o:Oper}{l:List Oper}{dr:Bool}{acc:List YA}{s s':St}{Q:R→AX→St→Prop}{K:R→St→Prop}{f:FuncId}{args args':List AV}{dst:Option Tmp}
theorem KQ{X:R→Kw×List (Nat×Blk)}(hc:List (Nat×Blk))(hf:P.funcs[f]?=some fn)(hb:fn.body=some c)(G:fn.ntmps=n)(J:Nat.ble args.length n=true)(h:Q3 a P n none c ⟨Jz 0 args,hc⟩ (hQ P fn hc X))(r:R)(O:a=some r) :
  Y0 P f args (look hc) (WO X r):=by
 subst G;exact Sq hf hb (Nat.le_of_ble_eq_true J) (h.h r O)
def BQ(hc hc':List (Nat×Blk))(y:AV):Bool:=Kv (look hc') y&&tY (look hc') hc'&&Ym (look hc') hc
theorem aR{X:V→Kw×List (Nat×Blk)}{v:V}(C:Conv)(bs:List Nat)(cb:List (Nat×List Conv))(h:(DF P fn (look s.T) (look s.H)).map (cv C)=some (WN (X v).1))(O:(X v).1=.ret (WN (X v).1))(W:Yu cb s.H bs=(X v).2)(hok:BQ hc (X v).2 (WN (X v).1)=true):SL P fn hc (WO X v) s:=by
 obtain⟨x,U,J⟩:=GU.1 h;simp only[BQ,ZG] at hok;refine⟨x,WN (X v).1,(X v).2,U,J▸jb C x,hok.1.1,?_,hok.2,O.symm,rfl⟩;have G:=hok.1.2;rw[←W] at G ⊢;exact Vw G
theorem KY{X:V→Kw×List (Nat×Blk)}{v:V}(C:Conv)(bs:List Nat)(cb:List (Nat×List Conv))(h:(DF P fn (look s.T) (look s.H)).map (cv C)=some (WN (X v).1):=by kernel_rfl)(G:(X v).1=.ret (WN (X v).1):=by kernel_rfl)(J:Yu cb s.H bs=(X v).2:=by kernel_rfl)(hok:BQ hc (X v).2 (WN (X v).1)=true:=by kernel_rfl):ZC (some v) (hQ P fn hc X) .ret s:=⟨fun r O=>by cases O;exact aR C bs cb h G J hok⟩
theorem dY{X:V→Kw×List (Nat×Blk)}{v:V}(C:Conv)(bs:List Nat)(cb:List (Nat×List Conv))(h:(DF P fn (look s.T) (look s.H)).map (cv C)=some (WN (X v).1):=by kernel_rfl)(G:(X v).1=.ret (WN (X v).1):=by kernel_rfl)(J:Yu cb s.H bs=(X v).2:=by kernel_rfl)(hok:BQ hc (X v).2 (WN (X v).1)=true:=by kernel_rfl):ZC (some v) (hQ P fn hc X) .normal s:=⟨fun r O=>by cases O;exact aR C bs cb h G J hok⟩
theorem KS{X:V→Kw×List (Nat×Blk)}{v:V}(bs:List Nat)(cb:List (Nat×List Conv))(J:(X v).1=.panic p:=by kernel_rfl)(O:Yu cb s.H bs=(X v).2:=by kernel_rfl)(hok:BQ hc (X v).2 p=true:=by kernel_rfl):ZC (some v) (hQ P fn hc X) (.panic p) s:=by
 refine⟨fun r U=>?_⟩;cases U;simp only[BQ,ZG] at hok;refine⟨p,(X v).2,le_refl p,hok.1.1,?_,hok.2,J.symm,rfl⟩;have G:=hok.1.2;rw[←O] at G ⊢;exact Vw G
def VG(L:List (Nat×Nat))(c:Nat):Nat:=(look L c).getD c
def aS(ρ:Nat→Nat):List Nat→Bool|[]=>true|c::l=>l.all (fun d=>ρ c != ρ d||c==d)&&aS ρ l
theorem UO{ρ:Nat→Nat}:∀{l:List Nat},aS ρ l=true→∀c∈l,∀d∈l,ρ c=ρ d→c=d
|[],_,c,hc,_,_,_=>by cases hc
|x::l,h,c,hc,d,O,J=>by
  simp only[aS,ZG,Xb] at h;rcases List.mem_cons.1 hc with rfl|hc'<;>rcases List.mem_cons.1 O with rfl|G
  ·rfl
  ·have:=h.1 d G;simp[J] at this;exact this
  ·have:=h.1 c hc';simp[J] at this;exact this.symm
  ·exact UO h.2 c hc' d G J
def XB(ρ:Nat→Nat)(hc hc' H:List (Nat×Blk)):Bool :=(hc.map (·.1)).all (fun c=>(hc'.map (·.1)).contains c)&&(hc'.map (·.1)).all (fun c=>(hc.map (·.1)).contains c||(look H (ρ c)).isNone)&&aS ρ (hc'.map (·.1))
theorem Ug(h:XB ρ hc hc' H=true):FH ρ hc hc' H:=by
 simp only[XB,ZG] at h;refine⟨fun c hc=>?_,fun c hc=>?_,UO h.2⟩
 ·have:=Xb.1 h.1.1 c hc;simpa using this
 ·have:=Xb.1 h.1.2 c hc;simp only[Bool.or_eq_true,Option.isNone_iff_eq_none] at this;rcases this with G|G
  ·exact .inl (by simpa using G)
  ·exact .inr G
theorem RA{h:QN}:∀{l:List (Nat×Blk)},tY h l=true→∀c k,look l c=some k→okRefB h k=true
|[],_,c,k,G=>by simp[look] at G
|(b,x)::l,J,c,k,G=>by
  simp only[tY,ZG] at J;simp only[look] at G;by_cases e:b=c
  ·simp only[e,if_true,QW] at G;subst G;exact J.1
  ·simp only[e,if_false] at G;exact RA J.2 c k G
def RB(H:List (Nat×Blk))(ρ:Nat→Nat)(cb:List (Nat×List Conv))(hc:List (Nat×Blk)):List (Option Blk):=hc.map fun p=>(look H (ρ p.1)).map (cvB ((look cb p.1).getD []))
theorem UQ{H:List (Nat×Blk)}{ρ:Nat→Nat}{cb:List (Nat×List Conv)}:∀{hc:List (Nat×Blk)},RB H ρ cb hc=hc.map (fun p=>some (Ku ρ p.2))→∀c k,look hc c=some k→∃k0,look H (ρ c)=some k0∧leB k0 (Ku ρ k)
|[],_,c,k,G=>by simp[look] at G
|(b,x)::l,J,c,k,G=>by
  simp only[RB,Yy,List.cons.injEq] at J;simp only[look] at G;by_cases e:b=c
  ·simp only[e,if_true,QW] at G;subst G e;obtain⟨k0,O,U⟩:=GU.1 J.1;exact⟨k0,O,U▸aN _ _⟩
  ·simp only[e,if_false] at G;exact UQ (hc:=l) J.2 c k G
def JB(N:Nat)(dst:Option Tmp)(ρ:Nat→Nat)(hc:List (Nat×Blk))(args':List AV):Bool :=KD N dst&&KG (look hc) args'&&(hc.map (·.1)).all (fun c=>decide (1000≤c))&&tY (look hc) hc&&aS ρ (hc.map (·.1))
def aU(K:St→Prop)(Q:AX→St→Prop)(s:St)(dst:Option Tmp)(ρ:Nat→Nat)(hc':List (Nat×Blk)):Kw→Prop|.ret x=>K (St.put ⟨s.T,KF ρ hc' s.H⟩ dst (Jr ρ x))|.panic x=>Q (.panic (Jr ρ x)) ⟨s.T,KF ρ hc' s.H⟩
theorem Ei{P:Program}{N:Nat}{s:St}{K:St→Prop}{Q:AX→St→Prop}{x:Kw}(L:List (Nat×Nat))(C:List Conv)(cb:List (Nat×List Conv))(hcall:Y0 P f args' (look hc) (fun r h'=>r=x∧h'=look hc'))(G:SS C args=Wn (VG L) args')(hok:JB N dst (VG L) hc args'=true)(hsub:RB s.H (VG L) cb hc=hc.map (fun p=>some (Ku (VG L) p.2)))(J:XB (VG L) hc hc' s.H=true)(O:aU K Q s dst (VG L) hc' x):LV P N f args dst s K Q:=by
 simp only[JB,ZG] at hok;obtain⟨⟨⟨⟨Z,U⟩,h3⟩,W⟩,Y⟩:=hok;refine MF (VG L) hcall (G▸Ue C args) U (fun c hc=>by simpa using Xb.1 h3 c hc) (RA W) (UQ hsub) (UO Y) (Z7 Z) ?_;rintro r h' ⟨rfl,rfl⟩;refine⟨hc',KF (VG L) hc' s.H,rfl,Ug J,fun _=>rfl,?_⟩;cases r with
|ret x=>exact O
|panic x=>exact O
theorem YO{m:Option V}{k:V→Option R}{X:V→Kw×List (Nat×Blk)}(L:List (Nat×Nat))(C:List Conv)(cb:List (Nat×List Conv))(hcall:∀v,m=some v→Y0 P f args' (look hc) (WO X v))(G:SS C args=Wn (VG L) args')(hok:JB N dst (VG L) hc args'=true)(hsub:RB s.H (VG L) cb hc=hc.map (fun p=>some (Ku (VG L) p.2)))(J:∀v,XB (VG L) hc (X v).2 s.H=true)(O:∀v,(X v).1=.ret (WN (X v).1))(h:∀v,TW (k v) K (St.put ⟨s.T,KF (VG L) (X v).2 s.H⟩ dst (Jr (VG L) (WN (X v).1)))):BA (m.bind k) P N f args dst s K Q:=by
 refine⟨fun r W=>?_⟩;obtain⟨v,Z,Y⟩:=PS.1 W;have U:=O v;refine Ei L C cb (hcall v Z) G hok hsub (J v) ?_;rw[U];exact(h v).h r Y
theorem jf{m:Option (Except E V)}{k:V→Option R}{ke:E→Option R}{X:Except E V→Kw×List (Nat×Blk)}(L:List (Nat×Nat))(C:List Conv)(cb:List (Nat×List Conv))(hcall:∀v,m=some v→Y0 P f args' (look hc) (WO X v))(G:SS C args=Wn (VG L) args')(hok:JB N dst (VG L) hc args'=true)(hsub:RB s.H (VG L) cb hc=hc.map (fun p=>some (Ku (VG L) p.2)))(J:∀v,XB (VG L) hc (X (.ok v)).2 s.H=true)(O:∀v,XB (VG L) hc (X (.error v)).2 s.H=true)(Y:∀v,(X (.ok v)).1=.ret (WN (X (.ok v)).1))(hY:∀v,(X (.error v)).1=.panic (WN (X (.error v)).1))(h:∀v,TW (k v) K (St.put ⟨s.T,KF (VG L) (X (.ok v)).2 s.H⟩ dst (Jr (VG L) (WN (X (.ok v)).1))))(he:∀e,ZC (ke e) Q (.panic (Jr (VG L) (WN (X (.error e)).1))) ⟨s.T,KF (VG L) (X (.error e)).2 s.H⟩):BA (m.bind (Ll k ke)) P N f args dst s K Q:=by
 refine⟨fun r Z=>?_⟩;obtain⟨v,W,U⟩:=PS.1 Z;cases v with
|ok v =>
  refine Ei L C cb (hcall _ W) G hok hsub (J v) ?_;rw[Y v];exact(h v).h r U
|error e =>
  refine Ei L C cb (hcall _ W) G hok hsub (O e) ?_;rw[hY e];exact(he e).h r U
theorem U6{m:Option V}{k:V→Option R}{X:V→Kw×List (Nat×Blk)}(L:List (Nat×Nat))(C:List Conv)(cb:List (Nat×List Conv))(hcall:∀v,m=some v→Y0 P f args' (look hc) (WO X v))(J:∀v,XB (VG L) hc (X v).2 s.H=true)(O:∀v,(X v).1=.ret (WN (X v).1))(h:∀v,KU (k v) P N ops Q false ((none,[])::acc) l (St.put ⟨(mk ops o s true).T,KF (VG L) (X v).2 s.H⟩ o.dst (Jr (VG L) (WN (X v).1))))(hw:ZB ops o (look s.T)=some true:=by kernel_rfl)(hf:(Ki (look (Zm ops o s.T true)) o.op).map (fun p=>(p.1,SS C p.2))=some (f,Wn (VG L) args'):=by kernel_rfl)(hok:(Y6 P f&&JB N o.dst (VG L) hc args')=true:=by kernel_rfl)(hsub:RB s.H (VG L) cb hc=hc.map (fun p=>some (Ku (VG L) p.2)):=by kernel_rfl):KU (m.bind k) P N ops Q false acc (o::l) s:=by
 obtain⟨⟨f0,args⟩,G,hp⟩:=GU.1 hf;simp only[Xu] at hp;obtain⟨rfl,hp⟩:=hp;simp only[ZG] at hok;exact ZT hw G hok.1 (YO L C cb hcall hp hok.2 hsub J O (fun v=>kr (h v)))
theorem FJ{m:Option (Except E V)}{k:V→Option R}{ke:E→Option R}{X:Except E V→Kw×List (Nat×Blk)}(L:List (Nat×Nat))(C:List Conv)(cb:List (Nat×List Conv))(hcall:∀v,m=some v→Y0 P f args' (look hc) (WO X v))(J:∀v,XB (VG L) hc (X (.ok v)).2 s.H=true)(O:∀v,XB (VG L) hc (X (.error v)).2 s.H=true)(U:∀v,(X (.ok v)).1=.ret (WN (X (.ok v)).1))(Y:∀v,(X (.error v)).1=.panic (WN (X (.error v)).1))(h:∀v,KU (k v) P N ops Q false ((none,[])::acc) l (St.put ⟨(mk ops o s true).T,KF (VG L) (X (.ok v)).2 s.H⟩ o.dst (Jr (VG L) (WN (X (.ok v)).1))))(W:∀e,ZC (ke e) Q (.panic (Jr (VG L) (WN (X (.error e)).1))) ⟨(mk ops o s true).T,KF (VG L) (X (.error e)).2 s.H⟩)(hw:ZB ops o (look s.T)=some true:=by kernel_rfl)(hf:(Ki (look (Zm ops o s.T true)) o.op).map (fun p=>(p.1,SS C p.2))=some (f,Wn (VG L) args'):=by kernel_rfl)(hok:(Y6 P f&&JB N o.dst (VG L) hc args')=true:=by kernel_rfl)(hsub:RB s.H (VG L) cb hc=hc.map (fun p=>some (Ku (VG L) p.2)):=by kernel_rfl):KU (m.bind (Ll k ke)) P N ops Q false acc (o::l) s:=by
 obtain⟨⟨f0,args⟩,G,hp⟩:=GU.1 hf;simp only[Xu] at hp;obtain⟨rfl,hp⟩:=hp;simp only[ZG] at hok;exact ZT hw G hok.1 (jf L C cb hcall hp hok.2 hsub J O U Y (fun v=>kr (h v)) W)
def dZ:List AV→Option (List PV)|[]=>some []|.p x::l=>(dZ l).map (x::·)|_=>none
theorem zu:∀{l:List AV} {ps:List PV},dZ l=some ps→l=ps.map .p
|[],ps,h=>by simp[dZ] at h;subst h;rfl
|x::l,ps,h=>by
  cases x with
 |p x =>
   simp only[dZ] at h;obtain⟨J,G,rfl⟩:=GU.1 h;simp[zu G]
 |_=>simp[dZ] at h
def roV(H:QN)(cs:List Conv):AV→Option AV
|.ptr b off=>match H b with
 |some (.box _ l)=>match dZ (SS cs l) with
  |some ps=>if UH (ps.map .p) then some (.eptr (ps.drop off)) else none
  |none=>none
 |_=>none
|_=>none
inductive RoC where
|cv (c:Conv)
|ro (cs:List Conv)
def roA(H:QN):RoC→AV→Option AV|.cv c,x=>some (cv c x)|.ro cs,x=>roV H cs x
def yf(H:QN):List RoC→List AV→Option (List AV)
|[],[]=>some []
|c::cs,x::xs=>match roA H c x,yf H cs xs with|some y,some ys=>some (y::ys)|_,_=>none
|_,_=>none
theorem aV{H:QN}{c:RoC}{x y:AV}(h:roA H c x=some y):leR H x y:=by
 cases c with
|cv c=>simp only[roA,QW] at h;subst h;exact .inl (jb c x)
|ro cs =>
  simp only[roA,roV] at h;split at h
  ·rename_i b off;split at h
   ·rename_i ty l hb;split at h
    ·rename_i ps G;split at h
     ·rename_i J;simp only[QW] at h;subst h;exact Qca hb (zu G▸Ue cs l) J rfl
     ·cases h
    ·cases h
   ·cases h
  ·cases h
theorem Bj{H:QN}:∀{cs:List RoC} {xs ys:List AV},yf H cs xs=some ys→gq H xs ys
|[],[],ys,h=>by simp[yf] at h;subst h;simp[gq]
|[],_::_,ys,h=>by simp[yf] at h
|_::_,[],ys,h=>by simp[yf] at h
|c::cs,x::xs,ys,h=>by
  simp only[yf] at h;split at h
  ·rename_i y G O J;simp only[QW] at h;subst h;exact⟨y,G,rfl,aV O,Bj J⟩
  ·cases h
theorem Hw{m:Option V}{k:V→Option R}{X:V→AV}(C:List RoC)(hc:∀v,m=some v→Za P f args' (.ret (X v)))(Z:∀v,flat (X v)=true)(h:∀v,KU (k v) P N ops Q false ((none,[])::acc) l (St.put (mk ops o s true) o.dst (X v)))(hw:ZB ops o (look s.T)=some true:=by kernel_rfl)(hf:(Ki (look (Zm ops o s.T true)) o.op).bind (fun p=>(yf (look s.H) C p.2).map fun a=>(p.1,a))=some (f,args'):=by kernel_rfl)(hb:(Y6 P f&&KD N o.dst&&Y5 args')=true:=by kernel_rfl):KU (m.bind k) P N ops Q false acc (o::l) s:=by
 refine⟨fun r O=>?_⟩;obtain⟨v,Y,U⟩:=PS.1 O;obtain⟨⟨f0,args⟩,hcall,hp⟩:=PS.1 hf;obtain⟨W,J,G⟩:=GU.1 hp;simp only[Xu] at G;obtain⟨rfl,rfl⟩:=G;simp only[ZG] at hb;show Yl P N ops (Q r) (o::l) s;simp only[Yl,hw,ZY,JA hcall];exact XW hcall hb.1.1 (kY (hc v Y) (Bj J) hb.2 (Z7 hb.1.2) ⟨Z v,(h v).h r U⟩)
theorem Ej{m:Option (Except E V)}{k:V→Option R}{ke:E→Option R}{X:V→AV}{Y:E→AV}(C:List RoC)(hc:∀v,m=some v→Za P f args' (gu X Y v))(hx:∀v,flat (X v)=true)(hy:∀v,flat (Y v)=true)(h:∀v,KU (k v) P N ops Q false ((none,[])::acc) l (St.put (mk ops o s true) o.dst (X v)))(W:∀e,ZC (ke e) Q (.panic (Y e)) (mk ops o s true))(hw:ZB ops o (look s.T)=some true:=by kernel_rfl)(hf:(Ki (look (Zm ops o s.T true)) o.op).bind (fun p=>(yf (look s.H) C p.2).map fun a=>(p.1,a))=some (f,args'):=by kernel_rfl)(hb:(Y6 P f&&KD N o.dst&&Y5 args')=true:=by kernel_rfl):KU (m.bind (Ll k ke)) P N ops Q false acc (o::l) s:=by
 refine⟨fun r U=>?_⟩;obtain⟨v,hv,O⟩:=PS.1 U;obtain⟨⟨f0,args⟩,hcall,hp⟩:=PS.1 hf;obtain⟨Z,J,G⟩:=GU.1 hp;simp only[Xu] at G;obtain⟨rfl,rfl⟩:=G;simp only[ZG] at hb;show Yl P N ops (Q r) (o::l) s;simp only[Yl,hw,ZY,JA hcall];refine XW hcall hb.1.1 (kY (hc v hv) (Bj J) hb.2 (Z7 hb.1.2) ?_);cases v with
|ok v=>exact⟨hx v,(h v).h r O⟩
|error e=>exact⟨hy e,(W e).h r O⟩
end
def QJ(n bytes:Nat):Bool:=decide (n*bytes≤140737488355328∧n≤140737488355328)
section
variable {P:Program}{o:Oper}{T:Nat→Option AV}{h:QN}
theorem KM{t:TypeId}{s:Operand}{S by_:Nat}{l l2:List α}{xv:AV}(Z:o.op=.call ⟨.builtin .append,#[s,x],#[t,t]⟩)(ht:P.underlying t=some (.slice e))(hi:(P.info? e).bind (fun i=>i.zero.map fun z=>(i.size,i.bytes,z.cells.size))=some (S,by_,S))(hS:Nat.ble 1 S=true)(hs:Zo T s=some (.tsl S (List.map enc l) tk))(hx:Zo T x=some xv)(he:Mo S xv=some (List.map enc l2))(hn:l2.isEmpty=false)(hb:h tk=some (.arr e S (List.map enc l).length))(hc:QJ (l++l2).length by_=true):Jy P o T h=some (.tsl S (List.map enc (l++l2)) tk,some (tk,.arr e S (List.map enc (l++l2)).length),[tk]):=by
 obtain⟨i,U,J⟩:=PS.1 hi;obtain⟨z,W,G⟩:=GU.1 J;simp only[Xu] at G;obtain⟨rfl,rfl,hz⟩:=G;have Y:¬l2=[]:=by intro e;subst e;cases hn
 have O:0<i.size:=Nat.le_of_ble_eq_true hS;simp only[QJ,Fh,Vv] at hc;simp[Jy,Z,nk,hs,hx,LA,ht,U,W,he,hz,O,isNil,hb,Y,hc]
theorem JC{t:TypeId}{s:Operand}{S by_:Nat}{l l2:List α}{xv:AV}(Z:o.op=.call ⟨.builtin .append,#[s,x],#[t,t]⟩)(ht:P.underlying t=some (.slice e))(hi:(P.info? e).bind (fun i=>i.zero.map fun z=>(i.size,i.bytes,z.cells.size))=some (S,by_,S))(hS:Nat.ble 1 S=true)(hs:Zo T s=some (.tsl S (List.map enc l) tk))(hx:Zo T x=some xv)(he:Mo S xv=some (List.map enc l2))(hb:h tk=some (.arr e S (List.map enc l).length))(hc:QJ (l++l2).length by_=true):Jy P o T h=some (.tsl S (List.map enc (l++l2)) tk,some (tk,.arr e S (List.map enc (l++l2)).length),[tk]):=by
 obtain⟨i,J,Y⟩:=PS.1 hi;obtain⟨z,O,W⟩:=GU.1 Y;simp only[Xu] at W;obtain⟨rfl,rfl,hz⟩:=W;have G:0<i.size:=Nat.le_of_ble_eq_true hS;simp only[QJ,Fh,Vv] at hc;by_cases U:l2=[]
 ·subst U;simp[Jy,Z,nk,hs,hx,LA,ht,J,O,he,hz,G,isNil,hb]
 simp[Jy,Z,nk,hs,hx,LA,ht,J,O,he,hz,G,isNil,hb,U,hc]
end
inductive OL(α:Type) where
|nil
|own (l:List α)
def OL.toL{α:Type}:OL α→List α|.nil=>[]|.own l=>l
@[simp] theorem OL.toL_nil{α:Type}:(OL.nil:OL α).toL=[]:=rfl
@[simp] theorem OL.toL_own{α:Type}(l:List α):(OL.own l).toL=l:=rfl
section
variable {R V E:Type}{a a1 a2:Option R}{P:Program}{N:Nat}{ro:Option Nat}{ops:Array Oper}{o:Oper}{l:List Oper}{dr:Bool}{acc:List YA}{s s' s1:St}{Q:R→AX→St→Prop}{K:R→St→Prop}{f:FuncId}{args args':List AV}{dst:Option Tmp}
theorem Qch{m:Option V}{k:V→Option R}{u:V→KN}(hw:ZB ops o (look s.T)=some true)(hp:(plain o.op&&KD N o.dst)=true)(hu:∀v,m=some v→Jy P o (look (Zm ops o s.T true)) (look s.H)=some (u v))(h:∀v,m=some v→KU (k v) P N ops Q dr (IV (u v)::acc) l (nxt ops o s (u v))):KU (m.bind k) P N ops Q dr acc (o::l) s:=by
 simp only[ZG] at hp;refine⟨fun r O=>?_⟩;obtain⟨v,G,J⟩:=PS.1 O;exact Bh hw hp.1 (hu v G) hp.2 (Rz dr acc _▸(h v G).h r J)
theorem Qci{l:List α}{i:Int}{v:α}(h:QV l i=some v):l[i.toNat]?=some v:=by
 unfold QV at h;split at h
 ·cases h
 ·exact h
def jg(P:Program)(fn:Func)(hc:List (Nat×Blk))(ρ:Nat→Nat)(s:St)(dst:Option Tmp)(K:R→St→Prop)(Q:R→AX→St→Prop):R→AX→St→Prop :=fun r=>nJ P fn hc (fun x h'=>∃hc',h'=look hc'∧FH ρ hc hc' s.H∧aU (K r) (Q r) s dst ρ hc' x)
theorem Zp(L:List (Nat×Nat))(C:List Conv)(cb:List (Nat×List Conv))(hf:P.funcs[f]?=some fn)(hb:fn.body=some c)(Y:fn.ntmps=n)(Z:Nat.ble args'.length n=true)(G:SS C args=Wn (VG L) args')(hok:JB N dst (VG L) hc args'=true)(hsub:RB s.H (VG L) cb hc=hc.map (fun p=>some (Ku (VG L) p.2)))(h:Q3 a P n none c ⟨Jz 0 args',hc⟩ (jg P fn hc (VG L) s dst K Q)):BA a P N f args dst s K Q:=by
 subst Y;refine⟨fun r hr=>?_⟩;simp only[JB,ZG] at hok;obtain⟨⟨⟨⟨h1,O⟩,h3⟩,U⟩,W⟩:=hok;refine MF (VG L) (Sq hf hb (Nat.le_of_ble_eq_true Z) (h.h r hr)) (G▸Ue C args) O (fun c hc=>by simpa using Xb.1 h3 c hc) (RA U) (UQ hsub) (UO W) (Z7 h1) ?_;rintro x h' ⟨hc',rfl,hd,J⟩;refine⟨hc',KF (VG L) hc' s.H,rfl,hd,fun _=>rfl,?_⟩;cases x with
|ret x=>exact J
|panic x=>exact J
def DR(ρ:Nat→Nat)(hc hc':List (Nat×Blk))(s:St)(y:AV):Bool:=BQ hc hc' y&&XB ρ hc hc' s.H
theorem aW{x:AX}(U:x=.ret∨x=.normal)(C:Conv)(bs:List Nat)(cb:List (Nat×List Conv))(y:AV)(h:(DF P fn (look s1.T) (look s1.H)).map (cv C)=some y)(hok:DR ρ hc (Yu cb s1.H bs) s y=true)(J:TW a K (St.put ⟨s.T,KF ρ (Yu cb s1.H bs) s.H⟩ dst (Jr ρ y))):ZC a (jg P fn hc ρ s dst K Q) x s1:=by
 obtain⟨z,O,G⟩:=GU.1 h;simp only[DR,BQ,ZG] at hok;refine⟨fun r W=>?_⟩
 have:SL P fn hc (fun x h'=>∃hc',h'=look hc'∧FH ρ hc hc' s.H∧aU (K r) (Q r) s dst ρ hc' x) s1 :=
  ⟨z,y,Yu cb s1.H bs,O,G▸jb C z,hok.1.1.1,Vw hok.1.1.2,hok.1.2,_,rfl,Ug hok.2,J.h r W⟩
 rcases U with rfl|rfl<;>exact this
theorem QI(C:Conv)(bs:List Nat)(cb:List (Nat×List Conv))(y:AV)(G:TW a K (St.put ⟨s.T,KF ρ (Yu cb s1.H bs) s.H⟩ dst (Jr ρ y)))(h:(DF P fn (look s1.T) (look s1.H)).map (cv C)=some y:=by kernel_rfl)(hok:DR ρ hc (Yu cb s1.H bs) s y=true:=by kernel_rfl):ZC a (jg P fn hc ρ s dst K Q) .ret s1:=aW (.inl rfl) C bs cb y h hok G
theorem JY(C:Conv)(bs:List Nat)(cb:List (Nat×List Conv))(y:AV)(G:TW a K (St.put ⟨s.T,KF ρ (Yu cb s1.H bs) s.H⟩ dst (Jr ρ y)))(h:(DF P fn (look s1.T) (look s1.H)).map (cv C)=some y:=by kernel_rfl)(hok:DR ρ hc (Yu cb s1.H bs) s y=true:=by kernel_rfl):ZC a (jg P fn hc ρ s dst K Q) .normal s1:=aW (.inr rfl) C bs cb y h hok G
theorem UR(bs:List Nat)(cb:List (Nat×List Conv))(G:ZC a Q (.panic (Jr ρ p)) ⟨s.T,KF ρ (Yu cb s1.H bs) s.H⟩)(hok:DR ρ hc (Yu cb s1.H bs) s p=true:=by kernel_rfl):ZC a (jg P fn hc ρ s dst K Q) (.panic p) s1:=by
 simp only[DR,BQ,ZG] at hok;exact⟨fun r J=>⟨p,Yu cb s1.H bs,le_refl p,hok.1.1.1,Vw hok.1.1.2,hok.1.2,_,rfl,Ug hok.2,G.h r J⟩⟩
theorem UT(hc:List (Nat×Blk))(args':List AV)(L:List (Nat×Nat))(C:List Conv)(cb:List (Nat×List Conv))(hf:P.funcs[f]?=some fn)(hb:fn.body=some c)(J:fn.ntmps=n)(O:Nat.ble args'.length n=true)(h:Q3 a P n none c ⟨Jz 0 args',hc⟩ (jg P fn hc (VG L) (mk ops o s true) o.dst (fKr P N ops Q l) Q))(hw:ZB ops o (look s.T)=some true:=by kernel_rfl)(hcall:(Ki (look (Zm ops o s.T true)) o.op).map (fun p=>(p.1,SS C p.2))=some (f,Wn (VG L) args'):=by kernel_rfl)(hok:(Y6 P f&&JB N o.dst (VG L) hc args')=true:=by kernel_rfl)(hsub:RB s.H (VG L) cb hc=hc.map (fun p=>some (Ku (VG L) p.2)):=by kernel_rfl):KU a P N ops Q false acc (o::l) s:=by
 obtain⟨⟨f0,args⟩,G,hp⟩:=GU.1 hcall;simp only[Xu] at hp;obtain⟨rfl,hp⟩:=hp;simp only[ZG] at hok;exact ZT hw G hok.1 (Zp L C cb hf hb J O hp hok.2 hsub h)
theorem Tp(hc:List (Nat×Blk))(args':List AV)(L:List (Nat×Nat))(C:List Conv)(cb:List (Nat×List Conv))(hw:ZB ops o (look s.T)=some true)(hf:P.funcs[f]?=some fn)(hb:fn.body=some c)(J:fn.ntmps=n)(O:Nat.ble args'.length n=true)(hcall:(Ki (look (Zm ops o s.T true)) o.op).map (fun p=>(p.1,SS C p.2))=some (f,Wn (VG L) args'))(hok:(Y6 P f&&JB N o.dst (VG L) hc args'&&Xy ops acc.length&&KE ops acc.reverse)=true)(hsub:RB s.H (VG L) cb hc=hc.map (fun p=>some (Ku (VG L) p.2)))(h:Q3 a P n none c ⟨Jz 0 args',hc⟩ (jg P fn hc (VG L) (mk ops o s true) o.dst (fKq Q) Q)):KU a P N ops Q true acc [o] s:=by
 obtain⟨⟨f0,args⟩,G,hp⟩:=GU.1 hcall;simp only[Xu] at hp;obtain⟨rfl,hp⟩:=hp;simp only[ZG] at hok;exact dW hw G (by simp[hok]) (Zp L C cb hf hb J O hp hok.1.1.2 hsub h)
end
section
variable {P:Program}{o:Oper}{T:Nat→Option AV}{h:QN}
theorem aX{t:TypeId}{S nn:Nat}{l:List α}{k:IntKind}{n:Int}(Y:o.op=.indexAddr t x ix)(Z:Zo T ix=some (.p (.val (.int k n))))(hx:Zo T x=some (.vsl S tk nn))(hb:h tk=some (.vec ty S (List.map enc l)))(ht:P.underlying t=some (.slice e))(hi:(P.info? e).map (·.size)=some S)(O:nn=(List.map enc l).length)(v:α)(G:QV l n=some v):Jy P o T h=some (.vptr tk (List.map enc l).length n.toNat 0,none,[tk]):=by
 subst O;unfold QV at G;split at G
 ·cases G
 ·rename_i W;obtain⟨i,U,J⟩:=GU.1 hi;have h0:0≤n:=by omega
  have h1:n.toNat<l.length:=(CS.1 G).1;simp[Jy,Y,nk,hx,Jv,Z,ht,hb,U,J,h0,h1]
theorem Qcj{f S:Nat}{tb:TypeId}{l:List α}{v v':α}{xv:AV}(W:o.op=.store ty x y)(hx:Zo T x=some (.vptr tk (List.map enc l).length n f))(hy:Zo T y=some xv)(hb:h tk=some (.vec tb S (List.map enc l)))(Z:l[n]?=some v)(hc:(match P.info? ty,cellsOf xv with
  |some i,some J=>match LB J with|some ps=>if J.length=i.size∧f+ps.length≤(enc v).length then some ((enc v).take f++ps++(enc v).drop (f+ps.length)) else none|none=>none
  |_,_=>none)=some (enc v')):Jy P o T h=some (.p (.val undef),some (tk,.vec tb S (List.map enc (l.set n v'))),[tk]):=by
 split at hc
 ·rename_i i J hi O;split at hc
  ·rename_i ps U;split at hc
   ·rename_i Y;simp only[QW] at hc;have G:(List.map enc l)[n]?=some (enc v):=by simp[Z]
    simp only[Jy,W,nk,hx,Dp,hi,hy,hb,O,U,G,if_true,Y,and_self,hc,List.map_set]
   ·cases hc
  ·cases hc
 ·cases hc
def sliceB(lo hi:Int)(len:Nat):Bool:=decide (0≤lo∧lo≤hi∧hi≤len)
def DT(T:Nat→Option AV)(d:Int):Option Operand→Option Int
|none=>some d
|some x=>match Zo T x with|some (.p (.val (.int _ n)))=>some n|_=>none
theorem FK{T:Nat→Option AV}{x:Option Operand}{n:Int}(h:DT T d x=some n)(h0:0≤n):XU T d x=some n.toNat:=by
 cases x with
|none=>simp only[DT,QW] at h;subst h;simp[XU]
|some x =>
  simp only[DT] at h;split at h
  ·rename_i k m G;simp only[QW] at h;subst h;simp[XU,G,h0]
  ·cases h
theorem d9{t:TypeId}{S:Nat}{l:List α}{a b:Int}(Z:o.op=.slice t x lo hi none)(ht:P.underlying t=some (.slice e))(O:(P.info? e).map (·.size)=some S)(hx:Zo T x=some sv)(hs:elems sv=some (S,List.map enc l))(W:DT T 0 lo=some a)(J:DT T (List.map enc l).length hi=some b)(hc:sliceB a b l.length=true):Jy P o T h=some (.p (.sl S (List.map enc ((l.take b.toNat).drop a.toNat))),none,[]):=by
 obtain⟨i,G,U⟩:=GU.1 O;simp only[sliceB,Fh] at hc;have h1:=FK (d:=0) W hc.1;have Y:=FK J zo;have h3:a.toNat≤b.toNat:=by omega
 have h4:b.toNat≤l.length:=by omega
 have h5:S=i.size∧a.toNat≤b.toNat∧b.toNat≤(List.map enc l).length:=⟨U.symm,h3,by simpa using h4⟩
 have h6:Fx P T t x lo hi none=some (.p (.sl S (((List.map enc l).take b.toNat).drop a.toNat)),none,[]):=by
  simp only[Fx,ht,hx,hs,G,h1,Y];rw[if_pos h5]
 simp only[Jy,Z,h6,TL,List.map_drop,List.map_take]
def jh(l c:Int)(by_:Nat):Bool:=decide (0≤l∧l≤c∧(by_:Int)*c≤281474976710656∧c≤140737488355328)
theorem aY{t:TypeId}{S by_:Nat}{z0:α}{k k':IntKind}{l c:Int}(ho:o.op=.makeSlice t x y)(hd:o.dst=some d)(ht:P.underlying t=some (.slice e))(hi:(P.info? e).bind (fun i=>i.zero.bind fun z=>(LB (z.cells.toList.map AP)).map fun ps=>(i.size,i.bytes,z.cells.size,R9 z.cells.toList,ps))=some (S,by_,S,true,enc z0))(hS:Nat.ble 1 S=true)(hl:(enc z0).length=S)(hx:Zo T x=some (.p (.val (.int k l))))(hy:Zo T y=some (.p (.val (.int k' c))))(hb:h d=none)(hc:jh l c by_=true):Jy P o T h=some (.vsl S d (List.map enc (List.replicate l.toNat z0)).length,some (d,.vec e S (List.map enc (List.replicate l.toNat z0))),[d]):=by
 obtain⟨i,W,J⟩:=PS.1 hi;obtain⟨z,Y,Z⟩:=PS.1 J;obtain⟨ps,O,G⟩:=GU.1 Z;simp only[Xu] at G;obtain⟨rfl,rfl,h3,h4,rfl⟩:=G;have U:0<i.size:=Nat.le_of_ble_eq_true hS;simp only[jh,Fh] at hc;simp[Jy,ho,EY,ht,hx,hy,hd,W,Y,hb,O,h3,h4,U,hl,hc]
end
def gy{E V:Type}(x:V→Kw×List (Nat×Blk))(y:E→Kw×List (Nat×Blk)):Except E V→Kw×List (Nat×Blk)|.ok v=>x v|.error e=>y e
section
variable {R V:Type}{N:Nat}{s s1:St}{Q:R→AX→St→Prop}
theorem QjC{k:V→Option R}{S:V→St}(v:V)(K:GA)(s1:St)(hw:FI K s=some s1)(G:s1=S v):ZC (k v) (kQ N k S Q) .normal s:=Qhu v K (G▸hw)
theorem Qhw{S:V→St}(v:V)(G:GA)(s0:St)(h0:FI G s=some s0)(hw:Weak N s0 s1)(K:GA)(J:FI K s1=some (S v)):ZC (some v) (aO N S) .normal s:=Qjy v ((Uf h0).trans (hw.trans (Uf J)))
end
theorem Qck(h:Ex P N ro c s (fun x s'=>∃G,IK (look s'.T) (look G.H) G.T∧Bz (look s'.H) (look G.H) G.H∧Ym (look G.H) s.H=true∧(∀v,x=.panic v→Kv (look G.H) v=true)∧Q x G)):Ex P N ro c s Q:=by
 intro φ M0 D a w r;refine wpIn_mono (h φ M0 D a w r) ?_;rintro e a' w' ⟨φ',x,s',⟨G,h1,U,h3,hp,Y⟩,r',E',J⟩;obtain⟨k1,k2,W⟩:=NE (hc:=s.H) r' E' U h3;refine⟨φ',x,G,Y,⟨?_,r'.siz,k1,fun t y ht=>?_⟩,k2,?_⟩
 ·obtain⟨h0,ms,g1,g2,g3⟩:=r'.dfs;refine⟨h0,ms,g1,g2,fun z O=>⟨(g3 z O).1,(g3 z O).2.1,fun b hb=>(g3 z O).2.2 b ?_⟩⟩;cases hq:look G.H b with
 |none=>exact absurd hq hb
 |some k'=>obtain⟨⟨k,e1,_⟩,_⟩:=JX U b k' hq;rw[e1];simp
 ·obtain⟨z,g1,g2,g3⟩:=Bf h1 t y ht;exact⟨(r'.tm t z g1).1,W _ _ g3 (Xc.1 _ _ _ g2 (r'.tm t z g1).2)⟩
 ·cases x with
 |normal=>exact J
 |exit i=>exact J
 |ret=>exact J
 |panic v=>obtain⟨u,Z,h6⟩:=J;exact⟨u,Z,W _ _ (hp v rfl) h6⟩
section
variable {R V E:Type}{a a1 a2:Option R}{P:Program}{N:Nat}{ro:Option Nat}{ops:Array Oper}{o:Oper}{l:List Oper}{dr:Bool}{acc:List YA}{s s' s1:St}{Q:R→AX→St→Prop}{K:R→St→Prop}{f:FuncId}{args args':List AV}{dst:Option Tmp}
def rgQ(N:Nat)(s:St)(Q:R→AX→St→Prop):R→AX→St→Prop:=fun r x s'=>∃G,IK (look s'.T) (look G.H) G.T∧Bz (look s'.H) (look G.H) G.H∧Ym (look G.H) s.H=true∧(∀v,x=.panic v→Kv (look G.H) v=true)∧Q r x G
def fKg(G:Nat)(T:List (Nat×AV))(nf:TJ)(N:Nat)(s:St)(Q:R→AX→St→Prop):R→St→Prop:=fun r=>aG G T nf (rgQ N s Q r)
theorem cu{J:Operand}{ps:Array Tmp}{assign:Code}(g:FuncId)(G:Nat)(l':List AV)(O:List AV)(hf:Zo (look s.T) J=some (.fn (.func g) l' O))(hok:(Y6 P g&&Nat.ble 1000 G&&(look s.H G).isNone)=true)(h:∀nf fn,nf=TJ.mk N fn ps assign body→BA a P N g (l'++[.yv G]++O) none ⟨s.T,(G,.lp s.T nf .ready none)::s.H⟩ (fKg G s.T nf N s Q) (rgQ N s Q)):Q3 a P N none (.rangeFunc J ps assign body) s Q:=by
 simp only[ZG,Option.isNone_iff_eq_none] at hok;refine⟨fun r U=>Qck (kX G (Nat.le_of_ble_eq_true hok.1.2) hf hok.1.1 hok.2 fun fn=>?_)⟩;exact(h _ fn rfl).h r U
theorem Qcl{x:AX}{st:LoopState}{G:Nat}{T:List (Nat×AV)}(J:GA)(O:St)(W:∀v,x≠.panic v)(hs:(if okT (look (shr J ⟨s1.T,(G,.lp T nf .exhausted pd)::s1.H⟩).H) (shr J ⟨s1.T,(G,.lp T nf .exhausted pd)::s1.H⟩).T&&tY (look (shr J ⟨s1.T,(G,.lp T nf .exhausted pd)::s1.H⟩).H) (shr J ⟨s1.T,(G,.lp T nf .exhausted pd)::s1.H⟩).H&&Ym (look (shr J ⟨s1.T,(G,.lp T nf .exhausted pd)::s1.H⟩).H) s.H then some (shr J ⟨s1.T,(G,.lp T nf .exhausted pd)::s1.H⟩) else none)=some O)(h:ZC a Q x O)(r:R)(Y:a=some r):rgQ N s Q r x ⟨s1.T,(G,.lp T nf .exhausted pd)::s1.H⟩:=by
 split at hs
 ·rename_i hok;simp only[QW] at hs;subst hs;simp only[ZG] at hok;exact⟨_,G6 hok.1.1,Vw hok.1.2,hok.2,fun v U=>absurd U (W v),h.h r Y⟩
 ·cases hs
def rgS(G:GA)(s s1:St):Option St:=if okT (look (shr G s1).H) (shr G s1).T&&tY (look (shr G s1).H) (shr G s1).H&&Ym (look (shr G s1).H) s.H then some (shr G s1) else none
theorem QjE{O:Nat}{T:List (Nat×AV)}(st:LoopState)(U:GA)(G:St)(W:look s1.H O=some (.lp T nf st none))(J:st≠.busy)(hs:rgS U s ⟨s1.T,(O,.lp T nf .exhausted none)::s1.H⟩=some G)(h:ZC a Q .normal G):TW a (fKg O T nf N s Q) s1 :=
 ⟨fun r Y=>⟨st,none,W,J,Qcl (st:=st) U G (fun v e=>by cases e) hs h r Y⟩⟩
def rdR(ρ:Nat→Nat)(hc:List (Nat×Blk))(s:St)(dst:Option Tmp)(K:St→Prop)(Q:AX→St→Prop):Kw→QN→Prop:=fun x h'=>∃hc',h'=look hc'∧FH ρ hc hc' s.H∧aU K Q s dst ρ hc' x
def rnQ(ρ:Nat→Nat)(hc:List (Nat×Blk))(b:Nat)(T:List (Nat×AV))(nf:TJ)(s:St)(dst:Option Tmp)(K:R→St→Prop)(Q:R→AX→St→Prop):R→AX→St→Prop:=fun r=>aF hc b T nf (rdR ρ hc s dst (K r) (Q r))
def asQ(P:Program)(N l:Nat)(body:Code)(b:Nat)(T:List (Nat×AV))(nf:TJ)(Q:R→AX→St→Prop):R→AX→St→Prop:=fun r x s1=>x=.normal∧∃G,look s1.H b=some (.lp T nf .ready G)∧Ex P N (some l) body ⟨s1.T,(b,.lp T nf .busy G)::s1.H⟩ (Q r)
theorem QjG{l:Nat}{T:List (Nat×AV)}(J:GA)(G:St)(pd:Option Code)(O:look s1.H b=some (.lp T nf .ready pd))(hs:FI J ⟨s1.T,(b,.lp T nf .busy pd)::s1.H⟩=some G)(h:Q3 a P N (some l) body G Q):ZC a (asQ P N l body b T nf Q) .normal s1 :=
 ⟨fun r U=>⟨rfl,pd,O,Lu (Uf hs) (h.h r U)⟩⟩
theorem aZ{Y:Nat}{fn:FuncId}{ps:Array Tmp}{assign:Code}{W:List Oper}(L:List (Nat×Nat))(hc:List (Nat×Blk))(b:Nat)(T:List (Nat×AV))(C:List Conv)(cb:List (Nat×List Conv))(args':List AV)(hw:ZB ops o (look s.T)=some true)(Z:nf=TJ.mk Y fn ps assign body)(hy:(yieldOf (look (Zm ops o s.T true)) o.op).map (fun p=>(p.1,SS C p.2))=some (VG L b,Wn (VG L) args'))(hb:look hc b=some (.lp T nf .ready none))(J:(Nat.ble 1000 b&&Nat.beq ps.size args'.length&&ps.toList.all (fun p=>Nat.blt p Y))=true)(hok:JB N o.dst (VG L) hc args'=true)(hsub:RB s.H (VG L) cb hc=hc.map (fun p=>some (Ku (VG L) p.2)))(h:∀l,Q3 a P Y (some l) assign ⟨psT ps.toList args' T,hc⟩ (asQ P Y l body b T nf (rnQ (VG L) hc b T nf (mk ops o s true) o.dst (fKr P N ops Q W) Q))):KU a P N ops Q false acc (o::W) s:=by
 obtain⟨⟨b0,args⟩,aa,hp⟩:=GU.1 hy;simp only[Xu] at hp;obtain⟨O,U⟩:=hp;have O:b0=VG L b:=O;subst O;refine⟨fun r hr=>?_⟩;show Yl P N ops (Q r) (o::W) s;simp only[Yl,hw,ZY,aa];show YEx P N (VG L b) args o.dst (mk ops o s true) _ _;simp only[ZG] at J;simp only[JB,ZG] at hok;obtain⟨⟨⟨⟨g1,g2⟩,g3⟩,g4⟩,g5⟩:=hok
 have hY:eU P b args' (look hc) (rdR (VG L) hc (mk ops o s true) o.dst (fKr P N ops Q W r) (Q r)):=by
  have G:=Z;refine wY (nf:=nf) (Nat.le_of_ble_eq_true J.1.1) hb ?_ ?_ fun l=>?_
  ·subst G;exact Nat.eq_of_beq_eq_true J.1.2
  ·subst G;intro p hp;simpa [Nat.blt_eq] using Xb.1 J.2 p hp
  ·have:=(h l).h r hr;subst G;exact this
 refine wX (s:=mk ops o s true) (VG L) hY (by rw[←U];exact Ue C args) g2 (fun c hc=>by simpa using Xb.1 g3 c hc) (RA g4) (UQ hsub) (UO g5) (Z7 g1) ?_;rintro x h' ⟨hc',rfl,hd,hk⟩;refine⟨hc',KF (VG L) hc' s.H,rfl,hd,fun _=>rfl,?_⟩;cases x with
|ret x=>exact hk
|panic x=>exact hk
def Qfx(hc hc':List (Nat×Blk))(b:Nat)(s:St):Bool:=tY (look hc') hc'&&Ym (look hc') hc
theorem Qfy{T:List (Nat×AV)}{x:AX}{G:Bool}(Y:∀r,rnQ ρ hc b T nf s dst K Q r x s1=DK hc b T nf (rdR ρ hc s dst (K r) (Q r)) G st pd s1)(bs:List Nat)(cb:List (Nat×List Conv))(O:LoopState)(J:Option Code)(W:look (Yu cb s1.H bs) b=some (.lp T nf O J))(hok:(Qfx hc (Yu cb s1.H bs) b s&&XB ρ hc ((b,.lp T nf st pd)::Yu cb s1.H bs) s.H)=true)(U:TW a K (St.put ⟨s.T,KF ρ ((b,.lp T nf st pd)::Yu cb s1.H bs) s.H⟩ dst (Jr ρ (.p (.val (.bool G)))))):ZC a (rnQ ρ hc b T nf s dst K Q) x s1:=by
 refine⟨fun r Z=>?_⟩;rw[Y r];simp only[Qfx,ZG] at hok;exact⟨_,O,J,Vw hok.1.1,hok.1.2,W,_,rfl,Ug hok.2,U.h r Z⟩
theorem QjH{T:List (Nat×AV)}(bs:List Nat)(cb:List (Nat×List Conv))(G:LoopState)(J:Option Code)(U:look (Yu cb s1.H bs) b=some (.lp T nf G J))(hok:(Qfx hc (Yu cb s1.H bs) b s&&XB ρ hc ((b,.lp T nf .ready none)::Yu cb s1.H bs) s.H)=true)(O:TW a K (St.put ⟨s.T,KF ρ ((b,.lp T nf .ready none)::Yu cb s1.H bs) s.H⟩ dst (Jr ρ (.p (.val (.bool true)))))):ZC a (rnQ ρ hc b T nf s dst K Q) .normal s1:=Qfy (fun _=>rfl) bs cb G J U hok O
end
def Em(k i:Nat):Nat:=if i=k then 0 else if i<k then i+1 else i
def gz(o:Oper):Bool:=match o.op,o.guard with|.move _,none=>true|_,_=>false
def cB(o:Oper):Bool:=gz o&&o.after.toList.all (fun e=>!Region.binds .any e)
def reO(k:Nat)(o:Oper):Oper:={ o with after:=⟨(if cB o then[] else[⟨0,.data⟩])++o.after.toList.map fun e=>⟨Em k e.on,e.ground⟩⟩,guard:=o.guard.map fun g=>(Em k g.1,g.2) }
def MG(k:Nat)(l:List Oper):List Oper:=match l[k]? with
|some o=>{ o with after:=#[] }::(l.eraseIdx k).map (reO k)
|none=>l
def Xk(k:Nat)(ops:Array Oper):Array Oper:=⟨MG k ops.toList⟩
def Ap(k:Nat)(ops:Array Oper):Bool:=match ops[k]? with
|some o=>gz o&&o.after.toList.all (fun e=>!Region.binds .any e)&&Region.noSelect ops&&Region.free .any ops (Array.replicate ops.size false) k
|none=>false
theorem ji{k:Nat}{l:List Oper}(h:l[k]?=some o):(MG k l)[0]?=some { o with after:=#[] }:=by
 simp[MG,h]
theorem cK{k:Nat}{l:List Oper}(h:l[k]?=some o)(i:Nat)(hi:i≠k):(MG k l)[Em k i]?=(l[i]?).map (reO k):=by
 unfold MG Em;simp only[h,if_neg hi];by_cases hlt:i<k
 ·simp only[if_pos hlt,List.getElem?_cons_succ,List.getElem?_map];rw[List.getElem?_eraseIdx,if_pos hlt]
 ·obtain⟨j,rfl⟩:∃j,i=j+1:=⟨i-1,by omega⟩;simp only[if_neg hlt,List.getElem?_cons_succ,List.getElem?_map];rw[List.getElem?_eraseIdx,if_neg zo]
theorem gB{k:Nat}{l:List Oper}(h:l[k]?=some o):(MG k l).length=l.length:=by
 have G:k<l.length:=(CS.1 h).1;unfold MG;simp only[h,Vr,Jd,List.length_eraseIdx,if_pos G];omega
theorem MH{k:Nat}(h:ops[k]?=some o):(Xk k ops)[0]?=some { o with after:=#[] }:=by
 have:=ji (l:=ops.toList) (by simpa using h);simpa [Xk] using this
theorem IY{k:Nat}(h:ops[k]?=some o)(i:Nat)(hi:i≠k):(Xk k ops)[Em k i]?=(ops[i]?).map (reO k):=by
 have:=cK (l:=ops.toList) (by simpa using h) i hi;simpa [Xk] using this
theorem gD{k:Nat}(h:ops[k]?=some o):(Xk k ops).size=ops.size:=by
 have:=gB (l:=ops.toList) (by simpa using h);simpa [Xk] using this
theorem ib{k:Nat}(G:k<n)(hi:i<n):Em k i<n:=by
 unfold Em;split
 ·omega
 ·split<;>omega
theorem ic{k:Nat}(hi:i≠k):Em k i≠0:=by
 unfold Em;rw[if_neg hi];split<;>omega
theorem Qcm{k:Nat}(hi:i≠k)(G:j≠k)(h:Em k i=Em k j):i=j:=by
 unfold Em at h;rw[if_neg hi,if_neg G] at h;split at h<;>split at h<;>omega
theorem ig{k:Nat}(G:j≠0):∃i,i≠k∧Em k i=j:=by
 unfold Em;by_cases h:j≤k
 ·exact⟨j-1,by omega,by rw[if_neg zo,if_pos zo];omega⟩
 ·exact⟨j,by omega,by rw[if_neg zo,if_neg zo]⟩
section
variable {P:Program}{ops:Array Oper}{Q:Exit→Act→World→Prop}{k:Nat}{ok:Oper}
theorem cO(G:ops[k]?=some ok)(g:Nat):((Xk k ops)[Em k g]?).bind (·.dst)=(ops[g]?).bind (·.dst):=by
 by_cases J:g=k
 ·subst J;rw[show Em g g=0 from by simp[Em],MH G,G];rfl
 ·rw[IY G g J];cases ops[g]?<;>rfl
theorem cZ(G:ops[k]?=some ok)(o:Oper)(tmps:Array Value):Region.wanted (reO k o) (yielded (Xk k ops) tmps)=Region.wanted o (yielded ops tmps):=by
 unfold Region.wanted reO;cases hg:o.guard with
|none=>simp
|some g =>
  obtain⟨g,b⟩:=g;simp only[Option.map_some];unfold yielded;rw[cO G g]
theorem Qcn(G:ops[k]?=some ok)(hi:i≠k){K K':Act→World→Prop}(J:∀a w,K a w→K' a w)(h:wpOp P (Xk k ops) Q (Em k i) K a w):wpOp P ops Q i K' a w:=by
 refine wpOp_mono J ?_;unfold wpOp at h ⊢;rw[IY G i hi] at h;cases ho:ops[i]? with
|none=>simpa [ho] using h
|some o =>
  simp only[ho,Option.map_some] at h ⊢;rw[cZ G] at h;exact h
theorem DU(hk:ops[k]?=some ok){G:Array Bool}(hs:listed.size=ops.size)(ac:G.size=ops.size)(h0:G.getD 0 false=true)(h1:listed.getD k false=true)(hl:∀i,i≠k→G.getD (Em k i) false=listed.getD i false)(i:Nat)(hi:i≠k) :
  i∈Region.ready .any ops listed↔Em k i∈Region.ready .any (Xk k ops) G:=by
 have ad:k<ops.size:=(Ls.1 hk).1;have Y:∀(l:Array Bool) (i:Nat),i<l.size→l.getD i true=l.getD i false:=fun l i hi=>by simp[hi]
 rw[mem_ready,mem_ready,IY hk i hi];rcases Nat.lt_or_ge i ops.size with hlt|ab
 rotate_left
 ·have:ops[i]?=none:=by simp[ab]
  simp[this]
 have e1:listed.getD i true=G.getD (Em k i) true:=by
  rw[Y listed i zo,Y G _ (by rw[ac];exact ib ad hlt),hl i hi]
 rw[e1]
 have W:∀j,listed.getD j false=G.getD (Em k j) false:=by
  intro j;by_cases hj:j=k
  ·subst hj;rw[h1,show Em j j=0 from by simp[Em],h0]
  ·exact(hl j hj).symm
 refine and_congr_right fun _=>?_
 constructor
 ·rintro⟨o,Z,J⟩;refine⟨reO k o,by rw[Z];rfl,fun e U hb=>?_⟩;simp only[reO,List.mem_toArray,List.mem_append,List.mem_map] at U;rcases U with U|⟨e',aa,rfl⟩
  ·split at U
   ·cases U
   ·rw[List.mem_singleton] at U;subst U;exact h0
  ·rw[←W];exact J e' (by simpa using aa) hb
 ·rintro⟨o',O,J⟩;cases Z:ops[i]? with
 |none=>rw[Z] at O;cases O
 |some o =>
   rw[Z] at O;cases O;refine⟨o,rfl,fun e U hb=>?_⟩;rw[W];exact J ⟨Em k e.on,e.ground⟩ (by simp only[reO,List.mem_toArray,List.mem_append,List.mem_map];exact .inr ⟨e,by simpa using U,rfl⟩) hb
theorem gF(hk:ops[k]?=some ok):∀(O:Nat) (listed G:Array Bool) (a:Act) (w:World),listed.size=ops.size→G.size=ops.size→G.getD 0 false=true→listed.getD k false=true →
  (∀i,i≠k→G.getD (Em k i) false=listed.getD i false)→wpAny P .any (Xk k ops) Q O G a w→wpAny P .any ops Q O listed a w:=by
 have ad:k<ops.size:=(Ls.1 hk).1;have ab:∀(l:Array Bool) (i:Nat),i<l.size→l.getD i true=l.getD i false:=fun l i hi=>by simp[hi]
 have aa:∀(listed G:Array Bool),listed.size=ops.size→G.size=ops.size→G.getD 0 false=true→listed.getD k false=true →
   (∀i,i≠k→G.getD (Em k i) false=listed.getD i false)→(Region.ready .any ops listed=[]↔Region.ready .any (Xk k ops) G=[]):=by
  intro listed G hs J h0 Y Z;simp only[List.eq_nil_iff_forall_not_mem];constructor
  ·intro h j hj
   have ac:j≠0:=by
    intro e;subst e;have:=(mem_ready.1 hj).1;rw[ab G 0 zo,h0] at this;cases this
   obtain⟨i,U,rfl⟩:=ig (k:=k) ac;exact h i ((DU hk hs J h0 Y Z i U).2 hj)
  ·intro h i hi
   have U:i≠k:=by
    intro e;subst e;have:=(mem_ready.1 hi).1;rw[ab listed i zo,Y] at this;cases this
   exact h _ ((DU hk hs J h0 Y Z i U).1 hi)
 intro O
 induction O with
|zero =>
  intro listed G a w hs J h0 Y Z h;exact⟨(aa listed G hs J h0 Y Z).2 h.1,h.2⟩
|succ O ih =>
  intro listed G a w hs J h0 Y Z h;refine⟨fun hr=>h.1 ((aa listed G hs J h0 Y Z).1 hr),fun i hi=>?_⟩
  have U:i≠k:=by
   intro e;subst e;have:=(mem_ready.1 hi).1;rw[ab listed i zo,Y] at this;cases this
  have h2:=h.2 _ ((DU hk hs J h0 Y Z i U).1 hi);refine Qcn hk U (fun a' w' h3=>ih _ _ a' w' (by simpa using hs) (by simpa using J) (getD_set_true h0) (getD_set_true Y) ?_ h3) h2;intro j hj;by_cases e:i=j
  ·subst e
   have W:i<ops.size:=by
    obtain⟨o,ho,_⟩:=(mem_ready.1 hi).2;exact(Ls.1 ho).1
   have:=ib ad W;rw[←hs] at W;rw[←J] at this;simp[W,this]
  ·rw[getD_set_ne false e,getD_set_ne false (fun e2=>e (Qcm U hj e2)),Z j hj]
theorem XX{Q':Exit→Act→World→Prop}(hQ:∀e a w,Q e a w→Q' e a w):∀(G:Nat) (listed:Array Bool) (a:Act) (w:World),wpAny P .any ops Q G listed a w→wpAny P .any ops Q' G listed a w
|0,listed,a,w,h=>⟨h.1,hQ _ _ _ h.2⟩
|G+1,listed,a,w,h=>by
  refine⟨fun U=>hQ _ _ _ (h.1 U),fun i hi=>?_⟩;have J:=h.2 i hi;unfold wpOp at J ⊢;cases ho:ops[i]? with
 |none=>simp only[ho] at J ⊢;exact XX hQ G _ a w J
 |some o =>
   simp only[ho] at J ⊢;split
   ·rename_i hw;simp only[hw,if_true] at J;rcases J with J|⟨W,O⟩
    ·exact .inl (Oper.wp_mono2 J (fun a w h=>XX hQ G _ a w h) hQ)
    ·exact .inr ⟨W,_,_,hQ _ _ _ O.choose_spec.choose_spec⟩
   ·rename_i hw;simp only[hw] at J;exact XX hQ G _ _ w J
end
def Agree(X:Tmp→Prop)(a b:Act):Prop:=a.defers=b.defers∧a.tmps.size=b.tmps.size∧∀t,¬X t→a.tmps[t]?=b.tmps[t]?
theorem gG(X:Tmp→Prop)(a:Act):Agree X a a:=⟨rfl,rfl,fun _ _=>rfl⟩
theorem G7{X:Tmp→Prop}{b:Act}(h:Agree X a b)(d:Option Tmp)(v:Value):Agree X (a.put d v) (b.put d v):=by
 cases d with
|none=>exact h
|some d =>
  refine⟨h.1,by simpa [Act.put] using h.2.1,fun t G=>?_⟩;simp only[Act.put,Array.getElem?_setIfInBounds];rw[h.2.1,h.2.2 t G]
theorem gH{X:Tmp→Prop}{b:Act}(h:Agree X a b)(G:∀t,x=.tmp t→¬X t):a.eval x=b.eval x:=by
 cases x with
|tmp t =>
  have:=h.2.2 t (G t rfl);simp only[Act.eval];rw[Array.getD_eq_getD_getElem?,Array.getD_eq_getD_getElem?,this]
|_=>rfl
theorem Uh{X:Tmp→Prop}{b:Act}(h:Agree X a b)(hs:∀cs b,o.op≠.select cs b)(J:∀t∈o.looksAt ops,¬X t):execOp a.eval o=execOp b.eval o :=
 execOp_congr o hs fun x O=>gH h fun t G=>J t (by
  subst G;exact List.mem_append_left _ (List.mem_filterMap.2 ⟨.tmp t,by simpa using O,rfl⟩))
theorem IZ{X:Tmp→Prop}{b:Act}{K:Act→World→Prop}{Q:Exit→Act→World→Prop}(h:Agree X a b)(hs:∀cs b,o.op≠.select cs b)(Z:∀t∈o.looksAt ops,¬X t)(hd:∀t,o.dst=some t→¬X t)(hp:∀c w,Q (.panic c) b w→Q' (.panic c) a w)(Y:∀a w,¬Q .outgrown a w)(J:o.wp P b w K Q):o.wp P a w (fun a' w'=>∃W,Agree X a' W∧(∀t,o.dst≠some t→W.tmps[t]?=b.tmps[t]?)∧K W w') Q':=by
 have G:∀(b:Act) (v:Value) (t:Tmp),o.dst≠some t→(b.put o.dst v).tmps[t]?=b.tmps[t]?:=by
  intro b v t U;cases hdst:o.dst with
 |none=>rfl
 |some d =>
   have:d≠t:=fun e=>U (by rw[hdst,e])
   simp[Act.put,Array.getElem?_setIfInBounds_ne this]
 unfold Oper.wp at *;rw[Uh (ops:=ops) h hs Z];generalize (execOp b.eval o).run P w=r at *;cases r with
|ok n w' =>
  cases n<;>simp only[Oper.upon] at J ⊢
  case value u=>exact⟨_,G7 h _ u,G b u,J⟩
  case skip=>exact⟨_,G7 h _ _,G b _,J⟩
  case defer d =>
   refine⟨_,G7 (X:=X) (a:={ a with defers:=d::a.defers }) (b:={ b with defers:=d::b.defers }) ⟨by simp[h.1],h.2.1,h.2.2⟩ _ _,fun t U=>?_,J⟩;exact G { b with defers:=d::b.defers } _ t U
  case enter f args =>
   refine Calls.mono J fun e w'' O=>?_
   cases e with
  |returned u=>exact⟨_,G7 h _ u,G b u,O⟩
  |panicked c=>exact hp _ _ O
  |outgrown=>obtain⟨a0,w0,O⟩:=O;exact absurd O (Y _ _)
  case row row args=>exact Rows.mono J fun u w'' O=>⟨_,G7 h _ u,G b u,O⟩
|halt x w' =>
  cases x<;>simp only[Oper.upon] at J ⊢
  case panic u=>exact hp _ _ J
def I1(P:Program)(o:Oper)(T:Nat→Option AV)(h:QN):Option AV :=
 match o.op with
|.move x=>Zo T x
|.load ty x=>(ES P T h ty x).map (·.1)
|.fieldAddr s x f=>(XE P T s x f).map (·.1)
|.nilCheck x=>(UK T x).map (·.1)
|.extract x i=>(Fu T x i).map (·.1)
|.binOp op _ x y _=>match Zo T x,Zo T y with
 |some (.p (.val (.int k a))),some (.p (.val (.int k' b)))=>if R7 op then none else if k=k' then(Ia op k a b).map fun v=>.p (.val v) else none
 |_,_=>none
|_=>none
section
variable {P:Program}{N:Nat}{D:DB}{φ:Nat→Nat}{M0:ZK}{T:Nat→Option AV}{h:QN}{a:Act}{w:World}
theorem I4(r:Zn φ M0 N D T h a w){x:AV}(O:I1 P o T h=some x):∃v,(execOp a.eval o).run P w=.ok (.value v) w∧Qe φ h w (MM φ h M0) x v:=by
 unfold I1 at O;split at O
 ·rename_i y J;exact⟨a.eval y,by simp[execOp,J],r.ev O⟩
 ·rename_i ty y J;obtain⟨u,hu,rfl⟩:=GU.1 O;obtain⟨_,v,G,Y⟩:=AU (P:=P) r hu;exact⟨v,by simp[execOp,J,G],Y⟩
 ·rename_i s y f J;obtain⟨u,hu,rfl⟩:=GU.1 O;unfold XE at hu;split at hu
  ·rename_i fields hs;split at hu
   ·rename_i fl hf;split at hu
    ·rename_i i hi;split at hu
     ·cases hu
     ·rename_i Z;split at hu
      ·rename_i b off U;simp only[QW] at hu;subst hu;have G:=r.ev U;simp only[Qe] at G;refine⟨.pointer (some ⟨φ b,off+fl.offset,none⟩),?_,?_⟩
       ·simp[execOp,J,Instr.fieldAt,run_underlying hs,hf,G.1,Instr.sureAddr,fieldPlace,Q9 hi,Z,Addr.add_lit]
       ·simp only[Qe];exact⟨trivial,G.2⟩
      ·rename_i cs U;split at hu
       ·rename_i aa;simp only[QW] at hu;subst hu;have G:=r.ev U;simp only[Qe] at G;obtain⟨rr,oo,Y,h4⟩:=G;refine⟨.pointer (some ⟨rr,oo+fl.offset,none⟩),?_,?_⟩
        ·simp[execOp,J,Instr.fieldAt,run_underlying hs,hf,Y,Instr.sureAddr,fieldPlace,Q9 hi,Z,Addr.add_lit]
        ·simp only[Qe];exact⟨rr,oo+fl.offset,rfl,Mj _ aa h4⟩
       ·cases hu
      ·cases hu
    ·cases hu
   ·cases hu
  ·cases hu
 ·rename_i y J;obtain⟨u,hu,rfl⟩:=GU.1 O;unfold UK at hu;split at hu
  ·rename_i b off U;simp only[QW] at hu;subst hu;have G:=r.ev U;refine⟨a.eval y,?_,G⟩;simp only[Qe] at G;simp[execOp,J,G.1]
  ·rename_i cs U;simp only[QW] at hu;subst hu;have G:=r.ev U;refine⟨a.eval y,?_,G⟩;simp only[Qe] at G;obtain⟨rr,oo,Y,_⟩:=G;simp[execOp,J,Y]
  ·rename_i f l m U;simp only[QW] at hu;subst hu;have G:=r.ev U;refine⟨a.eval y,?_,G⟩;simp only[Qe] at G;obtain⟨l',m',Y,_⟩:=G;simp[execOp,J,Y]
  ·cases hu
 ·rename_i y i J;obtain⟨u,hu,rfl⟩:=GU.1 O;unfold Fu at hu;split at hu
  ·rename_i vs U;split at hu
   ·rename_i v W;simp only[QW] at hu;subst hu;have G:=r.ev U;simp only[Qe] at G;obtain⟨l,Y,h4⟩:=G;obtain⟨z,h5,h6⟩:=UE h4 W;exact⟨z,by simp[execOp,J,Instr.extract,Y,h5],h6⟩
   ·cases hu
  ·cases hu
 ·rename_i op tx y z ty J;split at O
  ·rename_i k n k' m U hy;have h1:=r.ev U;have G:=r.ev hy;simp only[Qe,QM] at h1 G;split at O
   ·cases O
   rename_i hs;split at O
   ·rename_i hk;subst hk;obtain⟨v,W,rfl⟩:=GU.1 O;refine⟨v,?_,by simp[Qe,QM]⟩;cases op<;>first|(simp[R7] at hs;done)|(simp only[Ia] at W;first|(cases W;done)|(simp only[QW] at W;subst W;simp[execOp,J,h1,G,eqGuard,binOp,Op.intArith,Op.intBits,Op.intCmp,wo,ni,QbQ,kG,QR,leI,Ql,bne];done)|(by_cases hz:m=0<;>simp only[hz,if_true,if_false] at W<;>first|(cases W;done)|(simp only[QW] at W;subst W;simp[execOp,J,h1,G,eqGuard,binOp,Op.intDiv,hz])))
   ·cases O
  ·cases O
 ·cases O
end
def yg:AV→Bool|.p (.val _)=>true|.ptr _ _=>true|_=>false
theorem gI{x:AV}{v':Value}(O:yg x=true)(J:Qe φ h w M x v)(G:Qe φ h w M x v'):v=v':=by
 unfold yg at O;split at O
 ·simp only[Qe,QM] at J G;rw[J,G]
 ·simp only[Qe] at J G;rw[J.1,G.1]
 ·cases O
def ik(h:QN)(x:AV):Prop:=yg x=true∨∃S es t ty,x=.tsl S es t∧h t=some (.arr ty S es.length)∧0<S
theorem zw{x:AV}{v':Value}(Y:ik h x)(W:Qe φ h w M x v)(O:Qe φ h w M x v'):v=v':=by
 rcases Y with Y|⟨S,es,t,ty,rfl,ht,hS⟩
 ·exact gI Y W O
 ·simp only[Qe] at W O;obtain⟨_,MV,n1,a1,a2,a3⟩:=W;obtain⟨_,V4,n2,Z,b2,b3⟩:=O;rw[ht] at a1 Z;cases a1;cases Z;rcases a3 rfl with⟨_,U,J⟩|⟨cap,c,U,J,e3,_⟩<;>rcases b3 rfl with⟨_,f1,f2⟩|⟨G,c',f1,f2,f3,_⟩
  ·exact U.trans f1.symm
  ·rw[J] at f2;cases f2
  ·rw[J] at f2;cases f2
  rw[J] at f2;cases f2;rw[e3] at f3;have:cap=G:=Nat.eq_of_mul_eq_mul_right hS f3;rw[U,f1,this]
def RD(P:Program)(N:Nat)(ops:Array Oper):List Nat→St→Option St
|[],s=>some s
|i::l,s=>match ops[i]? with
 |some o=>match I1 P o (look s.T) (look s.H),o.dst with
  |some x,some d=>if d<N then RD P N ops l (s.put (some d) x) else none
  |_,_=>none
 |none=>none
def RF(ops:Array Oper):List Nat→Bool
|[]=>true
|i::l=>(match ops[i]? with
 |some o=>match o.dst with
  |some d=>!(o.looksAt ops).contains d&&l.all (fun j=>match (ops[j]?).bind (·.dst) with|some e=>!(o.looksAt ops).contains e&&e != d|none=>false)
  |none=>false
 |none=>false)&&RF ops l
def il(ops:Array Oper)(H:List Nat)(t:Tmp):Prop:=∃i∈H,(ops[i]?).bind (·.dst)=some t
theorem Aq{P:Program}{N:Nat}{D:DB}{φ:Nat→Nat}{M0:ZK}{ops:Array Oper}(Z:Region.noSelect ops=true):∀(H:List Nat) (s s1:St) (a:Act) (w:World),RF ops H=true→RD P N ops H s=some s1→Zn φ M0 N D (look s.T) (look s.H) a w →
  ∃b,Zn φ M0 N D (look s1.T) (look s1.H) b w∧look s1.H=look s.H∧Agree (il ops H) a b∧∀i∈H,∃o d v,ops[i]?=some o∧o.dst=some d∧b.tmps[d]?=some v∧(execOp b.eval o).run P w=.ok (.value v) w
|[],s,s1,a,w,_,h,r=>by
  simp only[RD,QW] at h;subst h;exact⟨a,r,rfl,gG _ a,fun i hi=>by cases hi⟩
|i::H,s,s1,a,w,hp,h,r=>by
  simp only[RD] at h;cases ho:ops[i]? with
 |none=>rw[ho] at h;cases h
 |some o =>
   simp only[ho] at h;split at h
   ·rename_i x d hx hd;split at h;rotate_left
    ·cases h
    rename_i ab;simp only[RF,ho,hd,ZG,Bool.not_eq_true'] at hp;obtain⟨⟨Y,G⟩,af⟩:=hp;obtain⟨v,aa,ad⟩:=I4 r hx;have r1:=r.put (d:=some d) (fun t U=>by cases U;exact ab) ad;obtain⟨b,rb,hH,J,ac⟩:=Aq Z H (s.put (some d) x) s1 (a.put (some d) v) w af h r1
    have ae:∀t∈o.looksAt ops,t≠d∧¬il ops H t:=by
     intro t U;refine⟨fun e=>?_,?_⟩
     ·subst e;simp[U] at Y
     ·rintro⟨j,W,O⟩;have:=Xb.1 G j W;rw[O] at this;simp[U] at this
    have ai:¬il ops H d:=by
     rintro⟨j,W,O⟩;have:=Xb.1 G j W;rw[O] at this;simp at this
    have ah:d<a.tmps.size:=by rw[r.siz];exact ab
    refine⟨b,rb,by rw[hH];rfl,?_,?_⟩
    ·refine⟨by rw[←J.1];rfl,by rw[←J.2.1];simp[Act.put],fun t U=>?_⟩;rw[←J.2.2 t (fun hc=>U (by obtain⟨j,W,O⟩:=hc;exact⟨j,List.mem_cons_of_mem _ W,O⟩))];have:d≠t:=fun e=>U ⟨i,List.mem_cons_self,by rw[ho];exact hd.trans (by rw[e])⟩
     simp[Act.put,Array.getElem?_setIfInBounds_ne this]
    ·intro j W;rcases List.mem_cons.1 W with rfl|W
     ·refine⟨o,d,v,ho,hd,?_,?_⟩
      ·rw[←J.2.2 d ai];simp[Act.put,ah]
      ·rw[←aa];congr 1;have h1:execOp (a.put (some d) v).eval o=execOp a.eval o:=execOp_put o (fun cs b=>Region.noSelect_spec Z j o cs b ho) a (some d) v (fun t U hc=>by cases U;exact(ae d hc).1 rfl);rw[←h1];exact(Uh (ops:=ops) J (fun cs b=>Region.noSelect_spec Z j o cs b ho) (fun t U=>(ae t U).2)).symm
     ·exact ac j W
   ·cases h
def LJ(P:Program)(ops:Array Oper)(i:Nat)(s:St):Prop :=
 match ops[i]? with
|some o=>match o.op,o.dst with
 |.move x,some d=>True
 |_,some d=>∃x,I1 P o (look s.T) (look s.H)=some x∧look s.T d=some x∧ik (look s.H) x
 |_,none=>False
|none=>False
def Js(P:Program)(ops:Array Oper)(L:List Nat)(s:St):Prop:=∀i∈L,LJ P ops i s
def JD:Nat→Array Oper→Nat→Nat→Bool
|0,_,_,_=>false
|n+1,ops,j,i=>match ops[j]? with
 |some o=>o.after.toList.any fun e=>Region.binds .any e&&(e.on==i||JD n ops e.on i)
 |none=>false
def Ui(ops:Array Oper)(L:List Nat)(c:Nat):List Nat:=L.filter fun i=>!JD ops.size ops c i&&!JD ops.size ops i c
def uw(P:Program)(N:Nat)(ops:Array Oper)(Q:AX→St→Prop)(L:List Nat):List (Nat×List Nat)→St→Prop
|[],s=>Q .normal s
|(c,hs)::rest,s=>match ops[c]? with
 |some o=>Ua P N o s (fun s'=>Js P ops (Ui ops L c) s'∧∃G,RD P N ops hs s'=some G∧uw P N ops Q L rest G) Q
 |none=>False
theorem XY{ops:Array Oper}{listed:Array Bool}(J:∀(j:Nat) o,ops[j]?=some o→listed.getD j false=true→∀e∈o.after,Region.binds .any e=true→listed.getD e.on false=true):∀(n j i:Nat) (o:Oper),ops[j]?=some o→(∀e∈o.after,Region.binds .any e=true→listed.getD e.on false=true)→JD n ops j i=true→listed.getD i false=true
|0,j,i,o,W,Z,h=>by cases h
|n+1,j,i,o,W,Z,h=>by
  simp only[JD,W,List.any_eq_true,ZG,Bool.or_eq_true,beq_iff_eq] at h;obtain⟨e,he,hb,G⟩:=h;have Y:=Z e (by simpa using he) hb;rcases G with G|G
  ·rw[←G];exact Y
  ·cases ho2:ops[e.on]? with
  |none=>cases n<;>simp[JD,ho2] at G
  |some o2=>exact XY J n e.on i o2 ho2 (fun e2 O U=>J e.on o2 ho2 Y e2 O U) G
def chainOk(ops:Array Oper):List Nat→Bool|[]=>true|[_]=>true|c::c'::r=>(ops[c']?).any (waits · c)&&chainOk ops (c'::r)
def Bl(ops:Array Oper)(L:List Nat):List Nat→List Nat→List (Nat×List Nat)→Bool|_,_,[]=>true|J,G,(c,hs)::r=>G.all (fun i=>L.contains i||JD ops.size ops c i)&&hs.all (fun i=>JD ops.size ops i c)&&J.all (fun i=>!JD ops.size ops i c)&&Bl ops L (J++hs) hs r
def I5(H:List Nat)(Ch:List (Nat×List Nat)):List Nat:=H++(Ch.map (·.2)).flatten
def jk(H L:List Nat)(Ch:List (Nat×List Nat))(ops:Array Oper):Bool :=
 (List.range ops.size).all (fun i=>(I5 H Ch).contains i||(Ch.map (·.1)).contains i)&&Region.noSelect ops&&RF ops (I5 H Ch)&&chainOk ops (Ch.map (·.1))&&decide (Ch.map (·.1)).Nodup&&(I5 H Ch).all (fun i=>!(Ch.map (·.1)).contains i) &&
 Bl ops L H H Ch&&ops.toList.all (fun o=>o.guard.isNone)&&GZ 0 ops.toList &&
 (I5 H Ch).all (fun i=>match (ops[i]?).bind (·.dst) with
 |some d=>(List.range ops.size).all fun j=>i==j||(match ops[j]? with|some G=>G.dst != some d&&(waits G i||!(G.looksAt ops).contains d)|none=>true)
 |none=>false) &&
 L.all (fun i=>match ops[i]? with|some o=>(match o.op with|.move _=>true|_=>false)&&(Ch.map (·.1)).all (fun c=>match (ops[c]?).bind (·.dst) with|some e=>!(o.looksAt ops).contains e|none=>true)||!(match o.op with|.move _=>true|_=>false)|none=>false)
theorem FL(h:waits o i=true):∃e∈o.after,Region.binds .any e=true∧e.on=i:=by
 simp only[waits,List.any_eq_true,ZG,beq_iff_eq] at h;obtain⟨e,J,G,O⟩:=h;exact⟨e,by simpa using J,G,O⟩
theorem nR{b:Act}{X:Tmp→Prop}(h:Agree X a b)(O:∀t,¬X t):a=b:=by
 obtain⟨G,U,J⟩:=h;cases a with
|mk Y W =>
  cases b with
 |mk tb Z =>
   simp only at G J;subst G;congr 1;exact Array.ext_getElem? (fun i=>J i (O i))
def Xl(ops:Array Oper)(H:List Nat)(listed:Array Bool)(t:Tmp):Prop:=∃i∈H,listed.getD i false=false∧(ops[i]?).bind (·.dst)=some t
theorem DV{ops:Array Oper}:∀(G:List Nat) (c c':Nat) (l2:List Nat),chainOk ops (G++c::c'::l2)=true→(ops[c']?).any (waits · c)=true
|[],c,c',l2,h=>by
  simp only[List.nil_append,chainOk,ZG] at h;exact h.1
|[x],c,c',l2,h=>by
  simp only[List.cons_append,List.nil_append,chainOk,ZG] at h;exact h.2.1
|x::y::G,c,c',l2,h=>by
  simp only[List.cons_append,chainOk,ZG] at h;exact DV (y::G) c c' l2 h.2
theorem I6{ops:Array Oper}:∀(O l2:List Nat),RF ops (O++l2)=true→(∀i∈O,∀j∈l2,∃o d,ops[i]?=some o∧o.dst=some d∧∀e,(ops[j]?).bind (·.dst)=some e→e∉o.looksAt ops∧e≠d)∧RF ops l2=true
|[],l2,h=>⟨(fun i hi=>by cases hi),h⟩
|x::O,l2,h=>by
  simp only[List.cons_append,RF,ZG] at h;obtain⟨g1,g2⟩:=I6 O l2 h.2;refine⟨fun i hi j U=>?_,g2⟩;rcases List.mem_cons.1 hi with rfl|hi
  ·have G:=h.1;cases ho:ops[i]? with
  |none=>rw[ho] at G;cases G
  |some o =>
    rw[ho] at G;dsimp only at G;cases hd:o.dst with
   |none=>rw[hd] at G;cases G
   |some d =>
     rw[hd] at G;simp only[ZG] at G;refine⟨o,d,rfl,hd,fun e W=>?_⟩;have J:=Xb.1 G.2 j (List.mem_append_right _ U);rw[W] at J;simp only[ZG,Bool.not_eq_true',bne_iff_ne] at J;refine⟨fun hc=>?_,J.2⟩;have:=J.1;simp[hc] at this
  ·exact g1 i hi j U
theorem I7(O:ops[j]?=some o)(U:o.dst=some d):∀(l:List Nat),RF ops l=true→j∈l→d∉o.looksAt ops:=by
 intro l
 induction l with
|nil=>intro _ h;cases h
|cons x l J =>
  intro hp G;simp only[RF,ZG] at hp;rcases List.mem_cons.1 G with rfl|G
  ·have:=hp.1;simp only[O,U,ZG,Bool.not_eq_true'] at this;intro hc;simp[hc] at this
  ·exact J hp.2 G
theorem MI{ops:Array Oper}:∀(J l2:List Nat),RF ops (J++l2)=true→RF ops J=true
|[],_,_=>rfl
|x::J,l2,h=>by
  simp only[List.cons_append,RF,ZG] at h ⊢;refine⟨?_,MI J l2 h.2⟩;have G:=h.1;cases ho:ops[x]? with
 |none=>rw[ho] at G;cases G
 |some o =>
   rw[ho] at G;dsimp only at G ⊢;cases hd:o.dst with
  |none=>rw[hd] at G;cases G
  |some d =>
    rw[hd] at G;simp only[ZG,List.all_append] at G ⊢;exact⟨G.1,G.2.1⟩
theorem Su{ops:Array Oper}{L:List Nat}:∀(U G:List Nat) (W:List (Nat×List Nat)),Bl ops L U G W=true→∀c hs,(c,hs)∈W→∀i∈hs,JD ops.size ops i c=true
|_,_,[],_,c,hs,h,_,_=>by cases h
|U,G,(Y,J)::r,h,c,hs,O,i,hi=>by
  simp only[Bl,ZG] at h;rcases List.mem_cons.1 O with e|O
  ·cases e;exact Xb.1 h.1.1.2 i hi
  ·exact Su (U++J) J r h.2 c hs O i hi
def MJ(ops:Array Oper):List Tmp:=ops.toList.filterMap (·.dst)
def Sv(ops:Array Oper)(s:St):St:=⟨s.T.filter (fun p=>!(MJ ops).contains p.1),s.H⟩
theorem DW(f:Nat→Bool):∀(T:List (Nat×AV)) (t:Nat) (x:AV),look (T.filter (fun p=>f p.1)) t=some x→look T t=some x∧f t=true
|[],t,x,h=>by cases h
|(k,v)::T,t,x,h=>by
  simp only[List.filter_cons] at h;by_cases G:f k=true
  ·simp only[G,if_true,look] at h;simp only[look];by_cases e:k=t
   ·subst e;simp only[if_true] at h ⊢;exact⟨h,G⟩
   ·simp only[e,if_false] at h ⊢;exact DW f T t x h
  ·simp only[G] at h;obtain⟨O,J⟩:=DW f T t x (by simpa using h);simp only[look];have:k≠t:=fun e=>G (e▸J)
   simp only[this,if_false];exact⟨O,J⟩
def qh{R:Type}(ops:Array Oper)(Q:R→AX→St→Prop):R→AX→St→Prop:=fun r x s=>match x with|.normal=>Q r .normal s|.panic v=>Q r (.panic v) (Sv ops s)|_=>False
theorem zx{b:Act}{X:Tmp→Prop}(h:Agree X a b)(J:∀t,X t→t∈MJ ops)(r:Zn φ M0 N D (look s.T) (look s.H) b w):Zn φ M0 N D (look (Sv ops s).T) (look (Sv ops s).H) a w:=by
 refine⟨?_,by rw[h.2.1];exact r.siz,r.hp,fun t x U=>?_⟩
 ·have:=r.dfs;unfold Marks at this ⊢;rw[h.1];exact this
 ·obtain⟨O,G⟩:=DW (fun t=>!(MJ ops).contains t) s.T t x U;obtain⟨g1,g2⟩:=r.tm t x O;refine⟨g1,?_⟩
  have:a.tmps[t]?=b.tmps[t]?:=h.2.2 t (fun hc=>by
   have:=J t hc;simp[this] at G)
  rw[Array.getD_eq_getD_getElem?,this,←Array.getD_eq_getD_getElem?];exact g2
theorem Qco{Qh:AX→St→Prop}{H L:List Nat}{Ch:List (Nat×List Nat)}(hok:jk H L Ch ops=true)(dl:∀s,Qh .normal s→Q .normal s)(de:∀v s,Qh (.panic v) s→Q (.panic v) (Sv ops s)) :
  ∀(ab:Nat) (done ch:List (Nat×List Nat)) (af U:List Nat) (listed:Array Bool) (a b:Act) (w:World) (s:St) (φ:Nat→Nat),Ch=done++ch→U=H++(done.map (·.2)).flatten→(∀i∈U,i∉L→i∉af→listed.getD i false=true)→(∀i∈af,i∈U)→Bl ops L U af ch=true→listed.size=ops.size→Al listed ops.size≤ab →
   (∀(j:Nat) o,ops[j]?=some o→listed.getD j false=true→∀e∈o.after,Region.binds .any e=true→listed.getD e.on false=true) →
   (∀c∈done,listed.getD c.1 false=true)→(∀c∈ch,listed.getD c.1 false=false)→Agree (Xl ops U listed) a b→Zn φ M0 N D (look s.T) (look s.H) b w→Q8 φ0 h0 w0 φ (look s.H) w →
   (∀i∈U,listed.getD i false=false→∃o d v,ops[i]?=some o∧o.dst=some d∧b.tmps[d]?=some v∧(execOp b.eval o).run P w=.ok (.value v) w) →
   uw P N ops Qh L ch s→wpAny P .any ops (Post N D Q φ0 M0 h0 w0) ab listed a w:=by
 simp only[jk,ZG,Fh] at hok;obtain⟨⟨⟨⟨⟨⟨⟨⟨⟨⟨b9,bu⟩,av⟩,ar⟩,cr⟩,ce⟩,c1⟩,dc⟩,bw⟩,bq⟩,c5⟩:=hok;have bf:∀(listed:Array Bool) (i:Nat),i<listed.size→listed.getD i true=listed.getD i false:=fun listed i hi=>by simp[hi]
 have cf:∀(X:Tmp→Prop) (a b:Act),Agree X a b→(∀t,X t→t∈MJ ops)→∀c w,Post N D Qh φ0 M0 h0 w0 (.panic c) b w→Post N D Q φ0 M0 h0 w0 (.panic c) a w:=by
  rintro X a b Y hX c w' ⟨φ',x,s',g1,g2,g3,g4⟩;cases x with
 |normal=>cases g4
 |exit i=>cases g4
 |ret=>cases g4
 |panic v=>exact⟨φ',.panic v,Sv ops s',de _ _ g1,zx Y hX g2,g3,g4⟩
 have b8:∀a w,¬Post N D Qh φ0 M0 h0 w0 .outgrown a w:=fun a w h=>WT ⟨a,w,h⟩
 have da:∀(U:List Nat) (listed:Array Bool) (t:Tmp),Xl ops U listed t→t∈MJ ops:=by
  rintro U listed t ⟨i,_,_,hd⟩;cases W:ops[i]? with
 |none=>rw[W] at hd;cases hd
 |some o =>
   rw[W] at hd;exact List.mem_filterMap.2 ⟨o,by have:=Array.mem_of_getElem? W;simpa using this,hd⟩
 have dn:∀(j:Nat) o,ops[j]?=some o→o.guard=none:=by
  intro j o W;have:=Xb.1 dc o (by have:=Array.mem_of_getElem? W;simpa using this);simpa using this
 have bh:∀(listed:Array Bool),listed.size=ops.size→Region.ready .any ops listed=[]→∀i,i<ops.size→listed.getD i false=true:=by
  intro listed ba hr i
  induction i using Nat.strongRecOn with
 |_ i ih =>
   intro hi;cases hq:listed.getD i false with
  |true=>rfl
  |false =>
    have:i∈Region.ready .any ops listed:=by
     rw[mem_ready];refine⟨by rw[bf listed i zo];exact hq,ops[i],Array.getElem?_eq_getElem hi,fun e he hb=>?_⟩;have G:=Wu bw i ops[i] (by simp[hi]) e he hb;exact ih e.on zo zo
    rw[hr] at this;cases this
 have bp:∀(listed:Array Bool) (ch:List (Nat×List Nat)) (U:List Nat) (a b:Act) (w:World) (s:St) (φ:Nat→Nat),(∀i,i<ops.size→listed.getD i false=true)→(∀c∈ch,listed.getD c.1 false=false)→Agree (Xl ops U listed) a b →
   Zn φ M0 N D (look s.T) (look s.H) b w→Q8 φ0 h0 w0 φ (look s.H) w→uw P N ops Qh L ch s→Post N D Q φ0 M0 h0 w0 .normal a w:=by
  intro listed ch U a b w s φ O ac Y r E hx
  have dp:a=b:=nR Y (by
   rintro t ⟨i,hi,Z,hd⟩;cases W:ops[i]? with
  |none=>rw[W] at hd;cases hd
  |some o=>rw[O i (Ls.1 W).1] at Z;cases Z)
  subst dp;cases ch with
 |nil=>exact⟨φ,.normal,s,dl _ hx,r,E,rfl⟩
 |cons c ch =>
   exfalso;obtain⟨c,hs⟩:=c;simp only[uw] at hx;cases W:ops[c]? with
  |none=>rw[W] at hx;exact hx
  |some o =>
    have:=ac (c,hs) List.mem_cons_self;rw[O c (Ls.1 W).1] at this;cases this
 intro ab
 induction ab with
|zero =>
  intro done ch af U listed a b w s φ aa au b5 bn aj ba hu al bd ac Y r E J hx;have O:∀i,i<ops.size→listed.getD i false=true:=fun i hi=>by rw[←bf listed i zo];exact DD (n:=ops.size) zo i hi
  refine⟨List.eq_nil_iff_forall_not_mem.2 fun i hi=>?_,bp listed ch U a b w s φ O ac Y r E hx⟩;obtain⟨G,o,W,_⟩:=mem_ready.1 hi;have cw:=(Ls.1 W).1;rw[bf listed i zo,O i cw] at G;cases G
|succ ab ih =>
  intro done ch af U listed a b w s φ aa au b5 bn aj ba hu al bd ac Y r E J hx;refine⟨fun hr=>bp listed ch U a b w s φ (bh listed ba hr) ac Y r E hx,fun j hj=>?_⟩;obtain⟨ca,o,W,O⟩:=mem_ready.1 hj;have aq:j<ops.size:=(Ls.1 W).1;have an:listed.getD j false=false:=by rw[←bf listed j zo];exact ca
  have bj:∀cs b,o.op≠.select cs b:=fun cs b=>Region.noSelect_spec bu j o cs b W
  have a6:∀tm,Region.wanted o (yielded ops tm)=true:=fun tm=>by simp[Region.wanted,dn j o W]
  have am:∀i∈U,i∈I5 H Ch:=by
   intro i hi;rw[au] at hi;unfold I5;rw[aa,List.map_append,List.flatten_append,←List.append_assoc];exact List.mem_append_left _ hi
  have eL:∀k,(listed.setIfInBounds j true).getD k false=(listed.getD k false||decide (k=j)):=by
   intro k;by_cases b1:k=j
   ·subst b1;have:k<listed.size:=by omega
    simp[this]
   ·rw[getD_set_ne false (Ne.symm b1)];simp[b1]
  have cd:Al (listed.setIfInBounds j true) ops.size≤ab:=by
   have:=Nv ca ops.size;rw[if_pos aq] at this;omega
  have bl:∀(k:Nat) ok,ops[k]?=some ok→(listed.setIfInBounds j true).getD k false=true→∀e∈ok.after,Region.binds .any e=true→(listed.setIfInBounds j true).getD e.on false=true:=by
   intro k ok hk Z e he hb;rw[eL] at Z ⊢;simp only[Bool.or_eq_true,Fh] at Z ⊢;rcases Z with Z|Z
   ·exact .inl (al k ok hk Z e he hb)
   ·subst Z;rw[W] at hk;cases hk;exact .inl (O e he hb)
  have bo:∀t∈o.looksAt ops,¬Xl ops U listed t∨∃d,o.dst=some d∧t=d∧j∈U:=by
   intro t ht;by_cases hc:Xl ops U listed t;rotate_left
   ·exact .inl hc
   obtain⟨i,hi,Z,hd⟩:=hc;have G:=Xb.1 bq i (am i hi);rw[hd] at G;have h2:=Xb.1 G j (by simp[aq]);simp only[W,Bool.or_eq_true,beq_iff_eq,ZG,Bool.not_eq_true',bne_iff_ne] at h2;rcases h2 with rfl|⟨_,h2|h2⟩
   ·rw[W] at hd;exact .inr ⟨t,hd,rfl,hi⟩
   ·obtain⟨e,he,hb,bt⟩:=FL h2;have:=O e he hb;rw[bt,Z] at this;cases this
   ·simp[ht] at h2
  have bb:=Xb.1 b9 j (by simp[aq]);simp only[Bool.or_eq_true,List.contains_iff_mem] at bb;by_cases ah:j∈I5 H Ch
  ·
   have be:j∉Ch.map (·.1):=by
    have:=Xb.1 ce j ah;simpa using this
   have ay:j∈U:=by
    unfold I5 at ah;rw[aa,List.map_append,List.flatten_append,←List.append_assoc] at ah;rcases List.mem_append.1 ah with G|G
    ·rw[au];exact G
    ·exfalso;obtain⟨hs,h2,h3⟩:=List.mem_flatten.1 G;obtain⟨⟨c,cm⟩,h4,h5⟩:=List.mem_map.1 h2;simp only at h5;subst h5;have hw:=Su U af ch aj c cm h4 j h3;have:=XY al _ j c o W O hw;rw[ac (c,cm) h4] at this;cases this
   obtain⟨o',d,v,cc,hd,hv,cn⟩:=J j ay an;rw[W] at cc;cases cc;have bv:d∉o.looksAt ops:=I7 W hd (I5 H Ch) av ah
   have b4:∀t∈o.looksAt ops,¬Xl ops U listed t:=by
    intro t ht;rcases bo t ht with G|⟨d',G,rfl,_⟩
    ·exact G
    ·rw[hd] at G;cases G;exact absurd ht bv
   unfold wpOp;simp only[W,a6,if_true];refine .inl ?_;unfold Oper.wp;rw[Uh (ops:=ops) Y bj b4,cn];simp only[Oper.upon];refine ih done ch af U (listed.setIfInBounds j true) (a.put o.dst v) b w s φ aa au (fun i hi G h2=>by rw[eL,b5 i hi G h2];rfl) bn aj (by simpa using ba) cd bl (fun c hc=>by rw[eL,bd c hc];rfl) ?_ ?_ r E ?_ hx
   ·intro c hc;rw[eL,ac c hc];have:c.1≠j:=fun e=>be (by rw[aa,←e];exact List.mem_map.2 ⟨c,List.mem_append_right _ hc,rfl⟩)
    simp[this]
   ·refine⟨by rw[←Y.1,hd];rfl,by rw[←Y.2.1,hd];simp[Act.put],fun t ht=>?_⟩;rw[hd];by_cases b0:d=t
    ·subst b0
     have dq:d<a.tmps.size:=by
      rw[Y.2.1];exact(Ls.1 hv).1
     rw[hv];simp[Act.put,dq]
    ·rw[←Y.2.2 t (fun hc=>ht (by
      obtain⟨i,hi,Z,ai⟩:=hc;refine⟨i,hi,?_,ai⟩;rw[eL,Z];have:i≠j:=fun e=>b0 (by rw[e,W] at ai;exact Option.some.inj (hd.symm.trans ai))
      simp[this]))]
     simp[Act.put,Array.getElem?_setIfInBounds_ne b0]
   ·intro i hi Z;refine J i hi ?_;rw[eL] at Z;simp only[Bool.or_eq_false_iff] at Z;exact Z.1
  ·
   have be:j∈Ch.map (·.1):=bb.resolve_left ah;have ay:j∉U:=fun h=>ah (am j h)
   have cp:∃hs r,ch=(j,hs)::r:=by
    have bm:=be;rw[aa,List.map_append] at bm
    have cl:j∈ch.map (·.1):=by
     rcases List.mem_append.1 bm with G|G
     ·obtain⟨c,hc,rfl⟩:=List.mem_map.1 G;rw[bd c hc] at an;cases an
     ·exact G
    cases ch with
   |nil=>cases cl
   |cons c r =>
     obtain⟨c,hs⟩:=c;by_cases cy:j=c
     ·exact⟨hs,r,by rw[cy]⟩
     ·exfalso;have dk:j∈r.map (·.1):=(List.mem_cons.1 cl).resolve_left cy;obtain⟨r1,r2,bi⟩:=List.append_of_mem dk;obtain⟨q,x,cj⟩:∃q x,c::r1=q++[x]:=⟨(c::r1).dropLast,(c::r1).getLast zq,(List.dropLast_concat_getLast zq).symm⟩
      have c6:Ch.map (·.1)=(done.map (·.1)++q)++x::j::r2:=by
       rw[aa,List.map_append,Yy,bi,show c::(r1++j::r2)=(c::r1)++j::r2 from rfl,cj];simp
      rw[c6] at ar;have G:=DV _ _ _ _ ar;rw[W] at G;obtain⟨e,he,hb,bt⟩:=FL (o:=o) (i:=x) G;have h2:=O e he hb
      have df:x∈((c,hs)::r).map (·.1):=by
       rw[Yy,bi,show c::(r1++j::r2)=(c::r1)++j::r2 from rfl,cj];simp
      obtain⟨y,hy,rfl⟩:=List.mem_map.1 df;have h3:=ac y hy;rw[bt,h3] at h2;cases h2
   obtain⟨hs,rest,rfl⟩:=cp
   have b3:∀t∈o.looksAt ops,¬Xl ops U listed t:=by
    intro t ht;rcases bo t ht with G|⟨d',_,_,G⟩
    ·exact G
    ·exact absurd G ay
   have bk:∀t,o.dst=some t→¬Xl ops U listed t:=by
    rintro t ht ⟨i,hi,Z,hd⟩;have G:=Xb.1 bq i (am i hi);rw[hd] at G;have h2:=Xb.1 G j (by simp[aq]);simp only[W,Bool.or_eq_true,beq_iff_eq,ZG,Bool.not_eq_true',bne_iff_ne] at h2;rcases h2 with rfl|⟨h2,_⟩
    ·exact ay hi
    ·exact h2 ht
   simp only[uw,W] at hx;simp only[Bl,ZG] at aj;unfold wpOp;simp only[W,a6,if_true];refine .inl ?_;have hw:=Bd hx r;have db:=Go.Abs.Oper.wp_mono2 (K':=fun a' w'=>∃φ' s',(Js P ops (Ui ops L j) s'∧∃ax,RD P N ops hs s'=some ax∧uw P N ops Qh L rest ax)∧Zn φ' M0 N D (look s'.T) (look s'.H) a' w'∧Q8 φ (look s.H) w φ' (look s'.H) w') (Q':=Post N D Qh φ0 M0 h0 w0) hw (fun _ _ h=>h) (fun e a' w' p=>p.trans E);refine Oper.wp_mono ?_ (IZ (ops:=ops) Y bj b3 bk (cf _ _ _ Y (da _ _)) b8 db);rintro a' w' ⟨b',aw,b7,φ',s',⟨c2,ax,bz,di⟩,r',E'⟩
   have a7:∀i∈U,i∉L→listed.getD i false=true:=by
    intro i hi ak;by_cases bg:i∈af
    ·have G:=Xb.1 aj.1.1.1 i bg;simp only[Bool.or_eq_true,List.contains_iff_mem] at G;rcases G with G|G
     ·exact absurd G ak
     ·exact XY al _ j i o W O G
    ·exact b5 i hi ak bg
   have bc:I5 H Ch=U++(hs++(rest.map (·.2)).flatten):=by
    unfold I5;rw[aa,au,List.map_append,List.flatten_append,Yy,List.flatten_cons,List.append_assoc]
   have ao:=av;rw[bc] at ao;obtain⟨c7,dh⟩:=I6 U _ ao;have c9:=MI _ _ dh;obtain⟨b2,rb,dm,ae,cg⟩:=Aq bu hs s' ax b' w' c9 bz r'
   have cz:∀i∈hs,listed.getD i false=false∧i≠j:=by
    intro i hi;have hw:=Xb.1 aj.1.1.2 i hi;refine⟨?_,fun e=>ah (by rw[bc,←e];exact List.mem_append_right _ (List.mem_append_left _ hi))⟩;cases hq:listed.getD i false with
   |false=>rfl
   |true =>
     exfalso;obtain⟨oi,_,_,ad,_⟩:=cg i hi;have:=XY al _ i j oi ad (fun e he hb=>al i oi ad hq e he hb) hw;rw[an] at this;cases this
   have c3:∀t,il ops hs t→Xl ops (U++hs) (listed.setIfInBounds j true) t:=by
    rintro t ⟨i,hi,hd⟩;refine⟨i,List.mem_append_right _ hi,?_,hd⟩;rw[eL,(cz i hi).1];simp[(cz i hi).2]
   have c4:∀t,Xl ops U listed t→Xl ops (U++hs) (listed.setIfInBounds j true) t:=by
    rintro t ⟨i,hi,Z,hd⟩;refine⟨i,List.mem_append_left _ hi,?_,hd⟩;rw[eL,Z];have:i≠j:=fun e=>ay (e▸hi)
    simp[this]
   refine ih (done++[(j,hs)]) rest hs (U++hs) (listed.setIfInBounds j true) a' b2 w' ax φ' (by rw[aa];simp) (by rw[au,List.map_append,List.flatten_append];simp) ?_ (fun i hi=>List.mem_append_right _ hi) aj.2 (by simpa using ba) cd bl (fun c hc=>by
    rw[eL];rcases List.mem_append.1 hc with G|G
    ·rw[bd c G];rfl
    ·rw[List.mem_singleton] at G;simp[G]) ?_ ⟨aw.1.trans ae.1,aw.2.1.trans ae.2.1,fun t ht=>(aw.2.2 t (fun hc=>ht (c4 t hc))).trans (ae.2.2 t (fun hc=>ht (c3 t hc)))⟩ rb (by rw[dm];exact E.trans E') ?_ di
   ·intro i hi ak bg;rcases List.mem_append.1 hi with hi|hi
    ·rw[eL,a7 i hi ak];rfl
    ·exact absurd hi bg
   ·intro c hc;rw[eL,ac c (List.mem_cons_of_mem _ hc)]
    have:c.1≠j:=by
     intro e;rw[aa,List.map_append,Yy] at cr;have h2:=(List.nodup_append.1 cr).2.1;exact(List.nodup_cons.1 h2).1 (List.mem_map.2 ⟨c,hc,e⟩)
    simp[this]
   ·intro i hi Z;rcases List.mem_append.1 hi with az|dt
    rotate_left
    ·exact cg i dt
    rw[eL] at Z;simp only[Bool.or_eq_false_iff] at Z
    have ak:i∈L:=by
     apply Classical.byContradiction;intro hc;rw[a7 i az hc] at Z;cases Z.1
    obtain⟨oi,d,v,ad,ai,dj,co⟩:=J i az Z.1;have c0:b'.tmps[d]?=some v:=by rw[b7 d (fun e=>bk d e ⟨i,az,Z.1,by rw[ad];exact ai⟩)];exact dj
    have cx:∀t,t∈oi.looksAt ops∨t=d→¬il ops hs t:=by
     rintro t ht ⟨k,hk,du⟩;obtain⟨o2,d2,G,h2,h3⟩:=c7 i az k (List.mem_append_left _ hk);rw[ad] at G;cases G;rw[ai] at h2;cases h2;obtain⟨h4,h5⟩:=h3 t du;rcases ht with ht|ht
     ·exact h4 ht
     ·exact h5 ht
    have bx:∀cs b,oi.op≠.select cs b:=fun cs b=>Region.noSelect_spec bu i oi cs b ad
    refine⟨oi,d,v,ad,ai,by rw[←ae.2.2 d (cx d (.inr rfl))];exact c0,?_⟩;rw[←Uh (ops:=ops) ae bx (fun t ht=>cx t (.inl ht))]
    have dv:JD ops.size ops j i=false:=by
     cases hq:JD ops.size ops j i with
    |false=>rfl
    |true =>
      have:=XY al _ j i o W O hq;rw[Z.1] at this;cases this
    have b6:JD ops.size ops i j=false:=by
     have:=Xb.1 aj.1.2 i az;simpa using this
    have G:=c2 i (List.mem_filter.2 ⟨ak,by rw[dv,b6];rfl⟩);unfold LJ at G;simp only[ad] at G;split at G
    ·rename_i x d' a8 br
     have cq:b.eval x=v:=by
      simp[execOp,a8] at co;exact co
     have dw:b'.eval x=b.eval x:=by
      cases x with
     |tmp t =>
       have hne:o.dst≠some t:=by
        intro e;have h2:=Xb.1 c5 i ak;simp only[ad,a8,Bool.true_and,Bool.not_true,Bool.or_false] at h2;have h3:=Xb.1 h2 j be;simp only[W,Zf,e,Bool.not_eq_true'] at h3;have:t∈oi.looksAt ops:=List.mem_append_left _ (List.mem_filterMap.2 ⟨.tmp t,by simp[a8,Op.operands],rfl⟩);simp[this] at h3
       simp only[Act.eval];rw[Array.getD_eq_getD_getElem?,Array.getD_eq_getD_getElem?,b7 t hne]
     |_=>rfl
     simp[execOp,a8,dw,cq]
    ·rename_i d' br a8;obtain⟨x,h2,h3,h4⟩:=G;obtain⟨v',h5,h6⟩:=I4 r' h2;rw[ai] at br;cases br;have h7:=(r'.tm d x h3).2;rw[Array.getD_eq_getD_getElem?,c0] at h7;have:=zw h4 h6 h7;rw[h5,this];rfl
    ·cases G
theorem Qfz{R:Type}{Z:R}{Q:R→AX→St→Prop}(H L:List Nat)(Ch:List (Nat×List Nat))(hm:P.follows .mixedOrders=true)(ad:U5 ops=true)(hok:jk H L Ch ops=true)(h1:RD P N ops H s=some s1)(h:uw P N ops (qh ops Q Z) L Ch s1):Ex P N ro (.region id ops true) s (Q Z):=by
 intro φ M0 D a w r;refine wpIn_region_any hm (MC ad WT _ _ _ _ ?_);have hd:Q8 φ (look s.H) w φ (look s.H) { w with drawn:=w.drawn+1 }:=Rn rfl rfl rfl rfl;have r1:Zn φ M0 N D (look s.T) (look s.H) a { w with drawn:=w.drawn+1 }:=r.keep hd (GX rfl) (CV (w:=w) rfl hd r.hp);have J:=hok;simp only[jk,ZG,Fh] at J;obtain⟨⟨⟨⟨⟨⟨⟨⟨⟨⟨af,ae⟩,W⟩,aa⟩,ah⟩,ai⟩,G⟩,ak⟩,ab⟩,aj⟩,al⟩:=J;obtain⟨b,rb,hH,O,hJ⟩:=Aq ae H s s1 a _ (MI H _ W) h1 r1
 have U:∀(j:Nat),(Array.replicate ops.size false).getD j false=false:=by
  intro j;rcases Nat.lt_or_ge j ops.size with h|h
  ·simp[h]
  ·simp[h]
 have Y:∀n,Al (Array.replicate ops.size false) n≤n:=by
  intro n
  induction n with
 |zero=>simp[Al]
 |succ n ih=>simp only[Al];split<;>omega
 have h2:=Qco (D:=D) (φ0:=φ) (h0:=look s.H) (w0:=w) (M0:=M0) hok (Q:=Q Z) (Qh:=qh ops Q Z) (fun _ h=>h) (fun _ _ h=>h) ops.size [] Ch H H (Array.replicate ops.size false) a b { w with drawn:=w.drawn+1 } s1 φ rfl zq (fun i hi _ hc=>absurd hi hc) (fun i hi=>hi) G zq (Y _) (fun j o _ hj=>by rw[U] at hj;cases hj) (fun c hc=>by cases hc) (fun c _=>U c.1)
  ⟨O.1,O.2.1,fun t ht=>O.2.2 t (fun hc=>ht (by obtain⟨i,hi,ac⟩:=hc;exact⟨i,hi,U i,ac⟩))⟩ rb (by rw[hH];exact hd) (fun i hi _=>hJ i hi) h
 refine XX ?_ _ _ _ _ h2;exact fun e a' w' h=>h
structure qG{R:Type}(a:Option R)(P:Program)(N:Nat)(ops:Array Oper)(Q:R→AX→St→Prop)(L:List Nat)(Ch:List (Nat×List Nat))(s:St):Prop where
 intro ::
 h:∀r,a=some r→uw P N ops (qh ops Q r) L Ch s
def fKh{R:Type}(P:Program)(N:Nat)(ops:Array Oper)(Q:R→AX→St→Prop)(L:List Nat)(Ch:List (Nat×List Nat))(c:Nat)(hs:List Nat):R→St→Prop:=fun r s=>Js P ops (Ui ops L c) s∧∃G,RD P N ops hs s=some G∧uw P N ops (qh ops Q r) L Ch G
section
variable {R V E:Type}{a a1 a2:Option R}{P:Program}{N:Nat}{ro:Option Nat}{id:Nat}{ops:Array Oper}{o:Oper}{s s1 s':St}{Q:R→AX→St→Prop}{f:FuncId}{args args':List AV}{dst:Option Tmp}{L hs:List Nat}{Ch:List (Nat×List Nat)}{c i:Nat}
theorem Yw(H L:List Nat)(Ch:List (Nat×List Nat))(J:P.follows .mixedOrders=true)(G:U5 ops=true)(h:qG a P N ops Q L Ch ((RD P N ops H s).getD s))(hok:jk H L Ch ops=true:=by kernel_rfl)(O:(RD P N ops H s).isSome=true:=by kernel_rfl):Q3 a P N ro (.region id ops true) s Q:=by
 obtain⟨s1,e⟩:=RY.1 O;rw[e] at h;exact⟨fun r U=>Qfz H L Ch J G hok e (h.h r U)⟩
theorem Qg:Js P ops [] s:=fun i hi=>by cases hi
theorem Qr(O:LJ P ops i s)(J:Js P ops L s):Js P ops (i::L) s:=fun j G=>by
 rcases List.mem_cons.1 G with rfl|G
 ·exact O
 ·exact J j G
theorem I8(x:AV)(h:(ops[i]?).bind (fun o=>o.dst.bind fun d=>(I1 P o (look s.T) (look s.H)).bind fun y=>(look s.T d).map fun z=>(y,z))=some (x,x))(U:ik (look s.H) x):LJ P ops i s:=by
 unfold LJ;cases ho:ops[i]? with
|none=>rw[ho] at h;cases h
|some o =>
  rw[ho,Zf] at h;cases hd:o.dst with
 |none=>rw[hd] at h;cases h
 |some d =>
   rw[hd,Zf] at h;obtain⟨y,W,O⟩:=PS.1 h;obtain⟨z,Z,J⟩:=GU.1 O;simp only[Xu] at J;obtain⟨rfl,rfl⟩:=J;dsimp only;rw[hd];split
   ·trivial
   ·rename_i G Y;cases G;exact⟨_,W,Z,U⟩
   ·rename_i G;cases G
theorem QE(x:AV)(G:yg x=true)(h:(ops[i]?).bind (fun o=>o.dst.bind fun d=>(I1 P o (look s.T) (look s.H)).bind fun y=>(look s.T d).map fun z=>(y,z))=some (x,x):=by kernel_rfl):LJ P ops i s:=I8 x h (.inl G)
theorem JE{S t ty:Nat}{es:List (List PV)}(hS:Nat.ble 1 S=true)(h:(ops[i]?).bind (fun o=>o.dst.bind fun d=>(I1 P o (look s.T) (look s.H)).bind fun y=>(look s.T d).map fun z=>(y,z))=some (.tsl S es t,.tsl S es t):=by kernel_rfl)(G:look s.H t=some (.arr ty S es.length):=by kernel_rfl):LJ P ops i s:=I8 _ h (.inr ⟨S,es,t,ty,rfl,G,Nat.le_of_ble_eq_true hS⟩)
theorem Wv(h:ZC a Q .normal s):qG a P N ops Q L [] s:=⟨fun r G=>h.h r G⟩
theorem kh(G:List Nat)(O:Js P ops G s)(h:qG a P N ops Q L Ch ((RD P N ops hs s).getD s))(J:Ui ops L c=G:=by kernel_rfl)(U:(RD P N ops hs s).isSome=true:=by kernel_rfl):TW a (fKh P N ops Q L Ch c hs) s:=by
 obtain⟨s1,e⟩:=RY.1 U;rw[e] at h;exact⟨fun r W=>⟨J▸O,s1,e,h.h r W⟩⟩
def RG(P:Program)(N:Nat)(ops:Array Oper)(c:Nat)(s:St):Option St:=(ops[c]?).bind (fun o=>match o.op with|.pick ..=>none|.panic _=>none|.call ⟨.value _,_,_⟩=>none|_=>if KD N o.dst then(Jy P o (look s.T) (look s.H)).map (fun u=>Xd s o.dst u) else none)
theorem Yp(Y:List Nat)(U:Js P ops Y ((RG P N ops c s).getD s))(h:qG a P N ops Q L Ch ((RG P N ops c s).getD s))(Z:Ui ops L c=Y:=by kernel_rfl)(h0:(RG P N ops c s).isSome=true:=by kernel_rfl):qG a P N ops Q L ((c,[])::Ch) s:=by
 obtain⟨s',G⟩:=RY.1 h0;rw[G] at U h;simp only[Option.getD_some] at U h;unfold RG at G;refine⟨fun r hr=>?_⟩;simp only[uw];cases ho:ops[c]? with
|none=>rw[ho] at G;cases G
|some o =>
  simp only[ho,Zf] at G ⊢;unfold Ua;split at G
  ·cases G
  ·cases G
  ·cases G
  ·rename_i n1 n2 n3;split at G;rotate_left
   ·cases G
   rename_i W;obtain⟨u,hu,rfl⟩:=GU.1 G
   have key:Iu N o s (fun s'=>Js P ops (Ui ops L c) s'∧∃J,RD P N ops [] s'=some J∧uw P N ops (qh ops Q r) L Ch J) (Jy P o (look s.T) (look s.H)):=by
    rw[hu];exact⟨W,Z▸U,_,rfl,h.h r hr⟩
   split
   ·rename_i O;exact absurd O (n1 _ _ _)
   ·rename_i O;exact absurd O (n2 _)
   ·rename_i O;exact absurd O (n3 _ _ _)
   ·exact .inl key
theorem Kz(h:BA a P N f args dst s (fKh P N ops Q L Ch c hs) (qh ops Q))(hf:(ops[c]?).bind (fun o=>(Ki (look s.T) o.op).map fun p=>(p.1,p.2,o.dst))=some (f,args,dst):=by kernel_rfl)(hb:Y6 P f=true:=by kernel_rfl):qG a P N ops Q L ((c,hs)::Ch) s:=by
 refine⟨fun r U=>?_⟩;simp only[uw];cases ho:ops[c]? with
|none=>rw[ho] at hf;cases hf
|some o =>
  simp only[ho,Zf] at hf ⊢;obtain⟨⟨f0,G⟩,O,J⟩:=GU.1 hf;simp only[Xu] at J;obtain⟨rfl,rfl,rfl⟩:=J;exact XW O hb (h.h r U)
theorem jl{v:AV}(s':St)(e:Sv ops s=s')(h:ZC a Q (.panic v) s'):ZC a (qh ops Q) (.panic v) s:=by
 subst e;exact⟨fun r G=>h.h r G⟩
theorem En{b:Bool}{u:KN}(U:List Nat)(W:ops[c]?=some o)(hu:b=true→Jy P o (look s.T) (look s.H)=some u)(Z:b=true→Js P ops U (Xd s o.dst u))(h:qG a P N ops Q L Ch (Xd s o.dst u))(Y:Ui ops L c=U:=by kernel_rfl)(hp:(plain o.op&&KD N o.dst)=true:=by kernel_rfl):qG (cond b a none) P N ops Q L ((c,[])::Ch) s:=by
 cases b with
|false=>exact⟨fun r O=>by cases O⟩
|true =>
  refine⟨fun r O=>?_⟩;simp only[ZG] at hp;simp only[uw,W];unfold Ua
  have key:Iu N o s (fun s'=>Js P ops (Ui ops L c) s'∧∃G,RD P N ops [] s'=some G∧uw P N ops (qh ops Q r) L Ch G) (Jy P o (look s.T) (look s.H)):=by
   rw[hu rfl];exact⟨hp.2,Y▸Z rfl,_,rfl,h.h r O⟩
  split
  ·rename_i J;rw[J] at hp;cases hp.1
  ·rename_i J;rw[J] at hp;cases hp.1
  ·rename_i J;rw[J] at hp;cases hp.1
  ·exact .inl key
theorem Qhx{m:Option V}{k:V→Option R}{X:V→AV}{K:R→St→Prop}(C:List RoC)(hc:∀v,m=some v→Za P f args' (.ret (X v)))(J:yf (look s.H) C args=some args')(hb:(KD N dst&&Y5 args')=true)(U:∀v,flat (X v)=true)(h:∀v,TW (k v) K (St.put s dst (X v))):BA (m.bind k) P N f args dst s K Q:=by
 refine⟨fun r W=>?_⟩;obtain⟨v,O,G⟩:=PS.1 W;simp only[ZG] at hb;exact kY (hc v O) (Bj J) hb.2 (Z7 hb.1) ⟨U v,(h v).h r G⟩
end
def TY{K V:Type}(eq:K→K→Bool)(k:K):List (K×V)→Option V|[]=>none|(k',v)::r=>bif eq k k' then some v else TY eq k r
def Qo{K V:Type}(eq:K→K→Bool)(k:K)(v:V):List (K×V)→List (K×V)|[]=>[(k,v)]|(k',v')::r=>bif eq k k' then(k,v)::r else(k',v')::Qo eq k v r
def QA{K V:Type}(eq:K→K→Bool)(k:K)(z:V)(m:List (K×V)):V:=(TY eq k m).getD z
def DX{K V:Type}(eq:K→K→Bool)(k:K)(m:List (K×V)):Bool:=(TY eq k m).isSome
def JU{K V:Type}(ke:K→Value)(ve:V→PV)(m:List (K×V)):List (Value×PV):=m.map fun p=>(ke p.1,ve p.2)
section
variable {P:Program}{o:Oper}{T:Nat→Option AV}{h:QN}{K V:Type}{kt e t:TypeId}{ke:K→Value}{ve:V→PV}{eq:K→K→Bool}
theorem yj(W:∀k,Dt P kt (ke k)=true)(Y:∀a b,eqV P 4 kt (ke a) (ke b)=some (eq a b))(k:K):∀(m:List (K×V)) (i:Nat),
  (∃j,UA P kt (ke k) i (JU ke ve m)=some ((TY eq k m).map fun v=>(j,ve v))∧(TY eq k m≠none→∀v,JU ke ve (Qo eq k v m)=(JU ke ve m).set (j-i) (ke k,ve v)∧i≤j))∧(TY eq k m=none→∀v,JU ke ve (Qo eq k v m)=JU ke ve m++[(ke k,ve v)])
|[],i=>⟨⟨0,rfl,fun h=>absurd rfl h⟩,fun _ v=>rfl⟩
|(k',v')::m,i=>by
  obtain⟨⟨j,h1,Z⟩,h3⟩:=yj W Y k m (i+1);have G:UA P kt (ke k) i (JU ke ve ((k',v')::m))=match (if Dt P kt (ke k') then eqV P 4 kt (ke k) (ke k') else none) with|some true=>some (some (i,ve v'))|some false=>UA P kt (ke k) (i+1) (JU ke ve m)|none=>none:=rfl
  have J:TY eq k ((k',v')::m)=bif eq k k' then some v' else TY eq k m:=rfl
  have U:∀v,Qo eq k v ((k',v')::m)=bif eq k k' then(k,v)::m else(k',v')::Qo eq k v m:=fun _=>rfl
  rw[W k',if_pos rfl,Y] at G;cases hq:eq k k'
  ·rw[hq] at G J;simp only[hq,Km] at G J U;rw[J];refine⟨⟨j,by rw[G,h1],fun O v=>?_⟩,fun O v=>?_⟩
   ·obtain⟨g1,g2⟩:=Z O v;refine⟨?_,by omega⟩;rw[U,show JU ke ve ((k',v')::Qo eq k v m)=(ke k',ve v')::JU ke ve (Qo eq k v m) from rfl,g1,show JU ke ve ((k',v')::m)=(ke k',ve v')::JU ke ve m from rfl,show j-i=(j-(i+1))+1 from by omega];rfl
   ·rw[U,show JU ke ve ((k',v')::Qo eq k v m)=(ke k',ve v')::JU ke ve (Qo eq k v m) from rfl,h3 O v];rfl
  ·rw[hq] at G J;simp only[hq,Kb] at G J U;rw[J];refine⟨⟨i,G,fun _ v=>⟨?_,Kt _⟩⟩,fun O=>by cases O⟩;rw[U,Nat.sub_self];rfl
theorem yl{rsv:Option Operand}(G:o.op=.makeMap t none)(J:o.dst=some d)(hb:h d=none):Jy P o T h=some (.mv d,some (d,.mp []),[d]):=by
 simp[Jy,G,Dv,J,hb]
theorem Zx{m:List (K×V)}{k:K}{z0:V}(ho:o.op=.lookup t x ix ok)(Y:∀k,Dt P kt (ke k)=true)(he:∀a b,eqV P 4 kt (ke a) (ke b)=some (eq a b))(ht:P.underlying t=some (.map kt e):=by kernel_rfl)(hx:Zo T x=some (.mv b):=by kernel_rfl)(hi:(Zo T ix).bind PW=some (ke k):=by kernel_rfl)(hb:h b=some (.mp (JU ke ve m)):=by kernel_rfl)(Z:(P.underlying kt).isSome=true:=by kernel_rfl)(hz:((P.info? e).bind (·.zero)).map AP=some (avP (ve z0)):=by kernel_rfl):Jy P o T h=some (Dw ok (avP (ve (QA eq k z0 m))) (DX eq k m),none,[b]):=by
 obtain⟨kv,U,J⟩:=PS.1 hi;obtain⟨kd,O⟩:=RY.1 Z;obtain⟨z,W,aa⟩:=GU.1 hz;obtain⟨⟨j,G,h2⟩,h3⟩:=yj (P:=P) (kt:=kt) (ke:=ke) (ve:=ve) (eq:=eq) Y he k m 0;unfold QA DX;cases hg:TY eq k m with
|none =>
  rw[hg] at G;simp only[Option.map_none] at G;simp[Jy,TL,ho,Xw,ht,hx,U,hb,J,O,Y,G,W,aa]
|some v =>
  rw[hg] at G;simp only[Option.map_some] at G;simp[Jy,TL,ho,Xw,ht,hx,U,hb,J,O,Y,G]
theorem Y2{m:List (K×V)}{k:K}{v:V}(ho:o.op=.mapUpdate t x ix y)(Z:∀k,Dt P kt (ke k)=true)(he:∀a b,eqV P 4 kt (ke a) (ke b)=some (eq a b))(ht:P.underlying t=some (.map kt e):=by kernel_rfl)(hx:Zo T x=some (.mv b):=by kernel_rfl)(hi:(Zo T ix).bind PW=some (ke k):=by kernel_rfl)(hy:(Zo T y).bind pvO=some (ve v):=by kernel_rfl)(hb:h b=some (.mp (JU ke ve m)):=by kernel_rfl)(aa:(P.underlying kt).isSome=true:=by kernel_rfl):Jy P o T h=some (.p (.val undef),some (b,.mp (JU ke ve (Qo eq k v m))),[b]):=by
 obtain⟨kv,W,J⟩:=PS.1 hi;obtain⟨kd,O⟩:=RY.1 aa;obtain⟨y0,U,Y⟩:=PS.1 hy;obtain⟨⟨j,G,h2⟩,h3⟩:=yj (P:=P) (kt:=kt) (ke:=ke) (ve:=ve) (eq:=eq) Z he k m 0;cases hg:TY eq k m with
|none =>
  rw[hg] at G;simp only[Option.map_none] at G;rw[h3 hg v];simp[Jy,TL,ho,Vl,ht,hx,W,U,Y,hb,J,O,Z,G]
|some v0 =>
  rw[hg] at G;simp only[Option.map_some] at G;rw[(h2 (by rw[hg];simp) v).1];simp[Jy,TL,ho,Vl,ht,hx,W,U,Y,hb,J,O,Z,G]
end
section
variable {R V E:Type}{a a1 a2:Option R}{P:Program}{N:Nat}{ro:Option Nat}{ops:Array Oper}{o:Oper}{l:List Oper}{s s' s0 s1:St}{Q:R→AX→St→Prop}{K:R→St→Prop}{f g:FuncId}{args args':List AV}{dst:Option Tmp}
def iR(hc:List (Nat×Blk))(ρ:Nat→Nat)(s:St)(dst:Option Tmp)(K:R→St→Prop)(Q:R→AX→St→Prop)(r:R):Kw→QN→Prop:=fun x h'=>∃hc',h'=look hc'∧FH ρ hc hc' s.H∧aU (K r) (Q r) s dst ρ hc' x
def dI(P:Program)(fn:Func)(hc:List (Nat×Blk))(N:Nat)(g:FuncId)(G:List (Nat×Nat))(ρ:Nat→Nat)(s:St)(dst:Option Tmp)(K:R→St→Prop)(Q:R→AX→St→Prop):R→AX→St→Prop :=fun r=>nN P fn hc N g (Rx G) (iR hc ρ s dst K Q r)
def nS(T:List (Nat×AV)):List Tmp→List (Nat×Nat)→Bool
|[],[]=>true
|t::ts,p::L=>(match look T t with|some (.ptr b 0)=>b==p.1|_=>false)&&nS T ts L
|_,_=>false
theorem I9{T:List (Nat×AV)}:∀{ts:List Tmp} {L:List (Nat×Nat)},nS T ts L=true→ts.map (look T)=L.map fun p=>some (.ptr p.1 0)
|[],[],_=>rfl
|[],_::_,h=>by cases h
|_::_,[],h=>by cases h
|t::ts,p::L,h=>by
  simp only[nS,ZG] at h;simp only[Yy,List.cons.injEq];refine⟨?_,I9 h.2⟩;have G:=h.1;split at G
  ·rename_i b J;rw[J,eq_of_beq G]
  ·cases G
def Qcp:List (Nat×Blk)→Bool
|[]=>true
|(_,k)::l=>(match k.ob with|none=>true|some .mp=>true|_=>false)&&Qcp l
theorem jm{ρ:Nat→Nat}:∀{H:List (Nat×Blk)},Qcp H=true→∀c k x,look H c=some k→k.ob=some x→(some x).map (uY ρ)=some x
|[],_,c,k,x,G,_=>by simp[look] at G
|(b,k0)::H,J,c,k,x,G,U=>by
  simp only[Qcp,ZG] at J;simp only[look] at G;by_cases e:b=c
  ·simp only[e,if_true,QW] at G;subst G;have O:=J.1;rw[U] at O;cases x with
  |mp=>rfl
  |lp=>cases O
  ·rw[if_neg e] at G;exact jm J.2 c k x G U
def iq(tbs:List Tmp)(G:List (Nat×Nat))(s:St):Bool:=nS s.T tbs G&&Qfq G s.H&&Qcp s.H
theorem MK(L:List (Nat×Nat))(C:List Conv)(cb:List (Nat×List Conv))(F:Ry fn g)(J:List (Nat×Nat))(hf:P.funcs[f]?=some fn)(hn:fn.ntmps=n)(hl:Nat.ble args'.length n=true)(G:SS C args=Wn (VG L) args')(hok:JB N dst (VG L) hc args'=true)(hsub:RB s.H (VG L) cb hc=hc.map (fun p=>some (Ku (VG L) p.2)))(Y:Y6 P g=true)(hm:P.follows .mixedOrders=true){ops:Array Oper}(W:F.r1=.region id ops false)(h1:(DL P n ops false ⟨Jz 0 args',hc⟩).isSome=true)(O:iq F.tbs J (Sr P n ops false ⟨Jz 0 args',hc⟩)=true)(h:Q3 a P n none F.rest ⟨(F.tc,.fn (.func g) [] (Rx J))::sgT J (Sr P n ops false ⟨Jz 0 args',hc⟩).T,w9 J (Sr P n ops false ⟨Jz 0 args',hc⟩).H⟩ (dI P fn hc n g J (VG L) s dst K Q)):BA a P N f args dst s K Q:=by
 subst hn;refine⟨fun r hr=>?_⟩;obtain⟨s1,U⟩:=RY.1 h1;have e:Sr P fn.ntmps ops false ⟨Jz 0 args',hc⟩=s1:=by simp[Sr,U]
 rw[e] at O h;simp only[iq,ZG] at O;simp only[JB,ZG] at hok;obtain⟨⟨⟨⟨k1,k2⟩,k3⟩,k4⟩,k5⟩:=hok
 have hA:Y0 P f args' (look hc) (iR hc (VG L) s dst K Q r):=by
  refine yc F J hf (Nat.le_of_ble_eq_true hl) Y ?_;rw[W];exact Eh hm U ⟨rfl,I9 O.1.1,O.1.2,jm O.2,h.h r hr⟩
 refine MF (VG L) hA (G▸Ue C args) k2 (fun c hc=>by simpa using Xb.1 k3 c hc) (RA k4) (UQ hsub) (UO k5) (Z7 k1) ?_;rintro x h' ⟨hc',rfl,hd,Z⟩;refine⟨hc',KF (VG L) hc' s.H,rfl,hd,fun _=>rfl,?_⟩;cases x with
|ret x=>exact Z
|panic x=>exact Z
def clQ(P:Program)(U:Func)(G:List (Nat×Blk))(O:Nat→Nat)(s:St)(J:R→AX→St→Prop):R→AX→St→Prop :=
 fun r=>Qeq P U G (fun x h'=>∃hc',h'=look hc'∧FH O G hc' s.H∧(match x with|.ret _=>J r .ret ⟨s.T,KF O hc' s.H⟩|.panic _=>False))
def Qhy:AX→AV|.panic v=>v|_=>uZ
def QjI:AX→Bool|.exit _=>true|_=>false
theorem Xe{Z:List (Nat×Nat)}{x:AX}(Y:KP P g)(U:List (Nat×Nat))(J:List (Nat×Blk))(O:AV)(G:List AV)(cb:List (Nat×List Conv))(hx:QjI x=false)(h:Q3 a P Y.fn.ntmps none Y.rest ⟨(Y.d2,O)::(Y.d1,O)::Jz 0 G,J⟩ (clQ P Y.fn J (VG U) s (jg P fn hc ρ s0 dst K Q)))(hl:Nat.ble G.length Y.fn.ntmps=true:=by kernel_rfl)(W:Qhy x::Rx Z=Wn (VG U) (O::G):=by kernel_rfl)(hok:JB N none (VG U) J (O::G)=true:=by kernel_rfl)(hsub:RB s.H (VG U) cb J=J.map (fun p=>some (Ku (VG U) p.2)):=by kernel_rfl):ZC a (dI P fn hc N g Z ρ s0 dst K Q) x s:=by
 refine⟨fun r hr=>?_⟩;simp only[JB,ZG] at hok;obtain⟨⟨⟨⟨k1,k2⟩,k3⟩,k4⟩,k5⟩:=hok
 have key:DEx P N g (Qhy x::Rx Z) s (SL P fn hc (iR hc ρ s0 dst K Q r)):=by
  refine dS (VG U) (wZ Y (Nat.le_of_ble_eq_true hl) (h.h r hr)) (by rw[W];exact wU _) k2 (fun c hc=>by simpa using Xb.1 k3 c hc) (RA k4) (UQ hsub) (UO k5) ?_;rintro y h' ⟨hc',rfl,hd,hk⟩;refine⟨hc',KF (VG U) hc' s.H,rfl,hd,fun _=>rfl,?_⟩;cases y with
 |ret y=>exact hk
 |panic y=>exact hk
 cases x with
|normal=>exact key
|ret=>exact key
|panic v=>exact key
|exit i=>cases hx
theorem iw{U:Func}{O:List (Nat×Blk)}{G:Nat→Nat}{J:R→AX→St→Prop}{x:AX}(Y:x=.ret∨x=.normal)(bs:List Nat)(cb:List (Nat×List Conv))(h:DF P U (look s1.T) (look s1.H)=some (.tup []))(hok:DR G O (Yu cb s1.H bs) s (.tup [])=true)(W:ZC a J .ret ⟨s.T,KF G (Yu cb s1.H bs) s.H⟩):ZC a (clQ P U O G s J) x s1:=by
 simp only[DR,BQ,ZG] at hok;refine⟨fun r Z=>?_⟩
 have:SL P U O (fun x h'=>∃hc',h'=look hc'∧FH G O hc' s.H∧(match x with|.ret _=>J r .ret ⟨s.T,KF G hc' s.H⟩|.panic _=>False)) s1 :=
  ⟨_,_,Yu cb s1.H bs,h,le_refl _,hok.1.1.1,Vw hok.1.1.2,hok.1.2,_,rfl,Ug hok.2,W.h r Z⟩
 rcases Y with rfl|rfl<;>exact this
theorem iy{U:Func}{O:List (Nat×Blk)}{G:Nat→Nat}{J:R→AX→St→Prop}(bs:List Nat)(cb:List (Nat×List Conv))(h:DF P U (look s1.T) (look s1.H)=some (.tup []))(hok:DR G O (Yu cb s1.H bs) s (.tup [])=true)(W:ZC a J .ret ⟨s.T,KF G (Yu cb s1.H bs) s.H⟩):ZC a (clQ P U O G s J) .ret s1:=iw (.inl rfl) bs cb h hok W
theorem NH{U:Func}{O:List (Nat×Blk)}{G:Nat→Nat}{J:R→AX→St→Prop}(bs:List Nat)(cb:List (Nat×List Conv))(W:ZC a J .ret ⟨s.T,KF G (Yu cb s1.H bs) s.H⟩)(h:DF P U (look s1.T) (look s1.H)=some (.tup []):=by kernel_rfl)(hok:DR G O (Yu cb s1.H bs) s (.tup [])=true:=by kernel_rfl):ZC a (clQ P U O G s J) .normal s1:=iw (.inr rfl) bs cb h hok W
end
section
variable {R V:Type}{a a1 a2:Option R}{P:Program}{N:Nat}{ro:Option Nat}{c:Code}{s s' s1:St}{Q:R→AX→St→Prop}
def rdV(P:Program)(N:Nat)(ro:Option Nat)(c:Code):Nat→(AX→St→Prop)→AX→St→Prop|0,Q=>andThen (fun _=>False) Q|k+1,Q=>andThen (fun s'=>Ex P N ro c s' (rdV P N ro c k Q)) Q
def rdU(P:Program)(N:Nat)(ro:Option Nat)(c:Code)(k:Nat)(Q:R→AX→St→Prop):R→AX→St→Prop:=fun r=>rdV P N ro c k (Q r)
theorem rf{Q:AX→St→Prop}:∀(k:Nat) (s:St) (φ:Nat→Nat) (a:Act) (w:World),Ex P N ro c s (rdV P N ro c k Q)→Zn φ M0 N D (look s.T) (look s.H) a w→Q8 φ0 h0 w0 φ (look s.H) w →
  Code.roundsIn (wd ro) 0 P c (Post N D Q φ0 M0 h0 w0) (k+1) a w:=by
 intro k
 induction k with
|zero =>
  intro s φ a w h r E;rw[roundsIn_succ];refine wpIn_mono (h φ M0 D a w r) ?_;rintro e a' w' ⟨φ',x,s',J,r',O,G⟩;cases x with
 |normal=>exact J.elim
 |ret=>simp only[X9] at G;subst G;exact⟨φ',.ret,s',J,r',E.trans O,rfl⟩
 |exit i=>simp only[X9] at G;subst G;exact⟨φ',.exit i,s',J,r',E.trans O,rfl⟩
 |panic p=>obtain⟨v,rfl,U⟩:=G;exact⟨φ',.panic p,s',J,r',E.trans O,v,rfl,U⟩
|succ k W =>
  intro s φ a w h r E;rw[roundsIn_succ];refine wpIn_mono (h φ M0 D a w r) ?_;rintro e a' w' ⟨φ',x,s',J,r',O,G⟩;cases x with
 |normal=>simp only[X9] at G;subst G;exact W s' φ' a' w' J r' (E.trans O)
 |ret=>simp only[X9] at G;subst G;exact⟨φ',.ret,s',J,r',E.trans O,rfl⟩
 |exit i=>simp only[X9] at G;subst G;exact⟨φ',.exit i,s',J,r',E.trans O,rfl⟩
 |panic p=>obtain⟨v,rfl,U⟩:=G;exact⟨φ',.panic p,s',J,r',E.trans O,v,rfl,U⟩
theorem gJ:Q8 φ h w φ h w:=Rn rfl rfl rfl rfl
theorem KI(k:Nat)(h:Q3 a P N ro c s (rdU P N ro c k Q)):Q3 a P N ro (.loop c) s Q :=
 ⟨fun r J φ M0 D a w G=>wpIn_loop_rounds (k+1) (rf k s φ a w (h.h r J) G gJ)⟩
theorem ML(K:GA)(s':St){k:Nat}(h:Q3 a P N ro c s' (rdU P N ro c k Q))(hw:FI K s=some s':=by kernel_rfl):ZC a (rdU P N ro c (k+1) Q) .normal s:=⟨fun r G=>(sP (Q:=rdU P N ro c k Q) K s' hw h).h r G⟩
theorem BB{k:Nat}(h:ZC a Q (.exit i) s):ZC a (rdU P N ro c k Q) (.exit i) s:=⟨fun r G=>by cases k<;>exact h.h r G⟩
theorem Qhz{k:Nat}(h:ZC a Q (.panic p) s):ZC a (rdU P N ro c k Q) (.panic p) s:=⟨fun r G=>by cases k<;>exact h.h r G⟩
end
def rq(M:ZK)(k:Nat):ZK:=fun r o=>M r o∨r=k
theorem Eo(φ:Nat→Nat)(h:QN)(w:World):Y4 φ h w φ h w:=GX rfl
theorem iA{J:ZK}(hs:∀r o,M0 r o→J r o)(r:Zn φ J N D T h a w):Zn φ M0 N D T h a w:=by
 have O:∀r o v,w.cell? ⟨r,o,none⟩=some v→¬MM φ h J r o→w.cell? ⟨r,o,none⟩=some v∧¬MM φ h M0 r o:=fun r o v hc G=>⟨hc,fun x=>G (x.imp id (hs r o))⟩
 exact⟨r.dfs,r.siz,⟨r.hp.inj,fun b k hb=>Z5 O (Eo φ h w) rfl (r.hp.blk b k hb),fun b hb o G=>r.hp.fr b hb o (hs _ _ G),fun x o W=>r.hp.lt x o (hs _ _ W),r.hp.gm.sub fun x o G=>G.imp id (hs x o)⟩,
  fun t x U=>⟨(r.tm t x U).1,(QH O (Eo φ h w)).1 _ _ (r.tm t x U).2⟩⟩
theorem ru{J:ZK}{e:Exit}{a':Act}(hs:∀r o,M0 r o→J r o)(p:Post N D Q φ J h w e a' w'):Post N D Q φ M0 h w e a' w':=by
 obtain⟨φ',x,s',Y,O,Z,G⟩:=p;refine⟨φ',x,s',Y,iA hs O,Z,?_⟩;cases x with
|panic v =>
  obtain⟨u,W,U⟩:=G;exact⟨u,W,(QH (fun r o v hc hm=>⟨hc,fun x=>hm (x.imp id (hs r o))⟩) (Eo _ _ _)).1 _ _ U⟩
|_=>exact G
theorem zy{ob:Obj}(r:ZN φ h w M0)(Z:Clear φ h w 1):Q8 φ h w φ h (w.alloc ob)∧Y4 φ h w φ h (w.alloc ob):=by
 have G:∀x,x<w.heap.size→(w.alloc ob).heap[x]?=w.heap[x]?:=fun x U=>by show(w.heap.push ob)[x]?=_;rw[Array.getElem?_push,if_neg zo]
 have hs:(w.alloc ob).heap.size≤w.heap.size+1:=by show(w.heap.push ob).size≤_;simp
 have O:∀b k,h b=some k→(w.alloc ob).heap[φ b]?=w.heap[φ b]?:=fun b k hb=>Z.lt r hs G (by rw[hb];simp)
 refine⟨⟨rfl,rfl,rfl,by show _≤(w.heap.push ob).size;simp,fun x U _=>G x U,fun x o U _=>by simp[World.cell?,G x U],fun _ _ _ x=>x,fun _ _ _ _ x=>⟨⟨_,x⟩,rfl⟩,?_,?_,fun _ _ _ _ Y W=>⟨⟨_,Y,W⟩,rfl⟩⟩,?_,?_,?_,fun _ _ _ Y W=>⟨⟨_,Y,W⟩,rfl⟩⟩
 ·exact fun t ty S n _ hc=>⟨n,hc,Kt _,fun _=>Yz rfl (O _ _ hc)⟩
 ·exact fun t ty S n _ hc=>⟨n,hc,Kt _,fun _=>⟨rfl,fun c J=>⟨c,by rw[O _ _ hc];exact J,rfl⟩⟩⟩
 ·exact fun b ty cs hc=>⟨⟨ty,cs,hc⟩,rfl⟩
 ·exact fun t ty S n hc=>⟨n,hc,Kt _,fun _=>Yz rfl (O _ _ hc)⟩
 ·exact fun t ty S n hc=>⟨n,hc,Kt _,fun _=>⟨rfl,fun c J=>⟨c,by rw[O _ _ hc];exact J,rfl⟩⟩⟩
theorem ry{b:Act}{ob:Obj}{d:Tmp}(r:Zn φ M0 N D T h b w)(hT:T d=none)(W:Clear φ h w 1):Zn φ (rq M0 w.heap.size) N D T h (b.put (some d) v) (w.alloc ob):=by
 obtain⟨E,X⟩:=zy (ob:=ob) r.hp W
 have hk:∀x o u,w.cell? ⟨x,o,none⟩=some u→¬MM φ h M0 x o→(w.alloc ob).cell? ⟨x,o,none⟩=some u∧¬MM φ h (rq M0 w.heap.size) x o:=by
  intro x o u hc G;have O:=CU hc;obtain⟨Y,h2⟩:=E.keeps M0 x o u hc G;refine⟨Y,fun J=>?_⟩;rcases J with J|J|J
  ·exact G (.inl J)
  ·exact G (.inr J)
  ·omega
 have U:∀x,x<w.heap.size→(w.alloc ob).heap[x]?=w.heap[x]?:=fun x O=>by show(w.heap.push ob)[x]?=_;rw[Array.getElem?_push,if_neg zo]
 refine⟨r.dfs.keep E,by simp[Act.put,r.siz],⟨r.hp.inj,fun c k hb=>Z5 hk X (W.lt r.hp (w':=w.alloc ob) (by show(w.heap.push ob).size≤_;simp) U (by rw[hb];simp)) (r.hp.blk c k hb),?_,?_,(r.hp.gm.evol E).w,fun g hg o G=>G.elim (fun G=>r.hp.gm.m g hg o (.inl G)) (fun G=>G.elim (fun G=>r.hp.gm.m g hg o (.inr G)) (fun e=>by have:=kw r.hp.gm.w g hg;omega))⟩,?_⟩
 ·intro c hc o G;rcases G with G|G
  ·exact r.hp.fr c hc o G
  ·rcases W c hc with Y|Y<;>omega
 ·intro x o O;show x<(w.heap.push ob).size;rw[Array.size_push];rcases O with O|O
  ·have:=r.hp.lt x o O;omega
  ·omega
 ·intro t x Z;refine⟨(r.tm t x Z).1,?_⟩;have hne:¬d=t:=fun e=>by rw[e,Z] at hT;cases hT
  have:(b.put (some d) v).tmps.getD t undef=b.tmps.getD t undef:=by simp[Act.put,Array.getElem?_setIfInBounds_ne hne]
  rw[this];exact(QH hk X).1 _ _ (r.tm t x Z).2
theorem gK{b:Act}{k ty:Nat}{i:TypeInfo}{u:KN}(r:Zn φ (rq M0 k) N D (look s.T) (look s.H) b w)(E:Q8 φ0 h0 w0 φ (look s.H) w)(af:w0.heap.size≤k)(ad:∀x,¬M0 k x)(ae:o.op=.alloc ty)(hd:o.dst=some d)(hi:P.info? ty=some i)(hz:i.zero=some z)(hN:d<N)(hb:b.tmps[d]?=some (.pointer (some ⟨k,0,none⟩)))(hw:w.heap[k]?=some (.cells z.cells ty (0,0)))(hu:Jy P o (look s.T) (look s.H)=some u) :
  Zn (Qx φ d k) M0 N D (look (Xd s o.dst u).T) (look (Xd s o.dst u).H) b w∧Q8 φ0 h0 w0 (Qx φ d k) (look (Xd s o.dst u).H) w:=by
 simp only[Jy,ae,hi,hz,qp,hd] at hu;cases hcs:cellsOf (AP z) with
|none=>rw[hcs] at hu;cases hu
|some cs =>
  rw[hcs] at hu;dsimp only at hu;cases hn:look s.H d with
 |some x=>rw[hn] at hu;cases hu
 |none =>
   rw[hn] at hu;dsimp only at hu;cases hu;have hT:∀t,look (Xd s o.dst (.ptr d 0,some (d,.box ty cs),[d])).T t=if d=t then some (.ptr d 0) else look s.T t:=fun t=>by simp[Xd,hd,look]
   have hH:look (Xd s o.dst (.ptr d 0,some (d,.box ty cs),[d])).H=upd (look s.H) d (.box ty cs):=by funext c;simp[Xd,look,upd]
   rw[hH];have hne:∀c q,look s.H c=some q→¬d=c:=fun c q hc e=>by rw[e] at hn;rw[hn] at hc;cases hc
   have Y:∀c,look s.H c≠none→φ c≠k:=fun c hc e=>r.hp.fr c hc 0 (.inr e)
   have aa:∀x y,MM (Qx φ d k) (upd (look s.H) d (.box ty cs)) M0 x y→MM φ (look s.H) (rq M0 k) x y:=by
    rintro x y (⟨c,q,G,J,O⟩|h)
    ·by_cases e:d=c
     ·simp only[Qx,e,if_true] at J;exact .inr (.inr J.symm)
     ·simp only[upd,Qx,e,if_false] at G J;exact .inl ⟨c,q,G,J,O⟩
    ·exact .inr (.inl h)
   have X:Y4 φ (look s.H) w (Qx φ d k) (upd (look s.H) d (.box ty cs)) w:=by
    refine⟨fun c W cs' hc=>?_,fun t W S n hc=>?_,fun t W S n hc=>?_,fun c k' x hc ho=>?_⟩
    ·have:=hne c _ hc;exact⟨⟨W,cs',by simp[upd,this,hc]⟩,by simp[Qx,this]⟩
    ·have:=hne t _ hc;exact⟨n,by simp[upd,this,hc],Kt _,fun _=>Yz (by simp[Qx,this]) rfl⟩
    ·have:=hne t _ hc;exact⟨n,by simp[upd,this,hc],Kt _,fun _=>⟨by simp[Qx,this],fun c ac=>⟨c,ac,rfl⟩⟩⟩
    ·have:=hne c _ hc;exact⟨⟨k',by simp[upd,this,hc],ho⟩,by simp[Qx,this]⟩
   have Z:∀x y v,w.cell? ⟨x,y,none⟩=some v→¬MM φ (look s.H) (rq M0 k) x y→w.cell? ⟨x,y,none⟩=some v∧¬MM (Qx φ d k) (upd (look s.H) d (.box ty cs)) M0 x y:=fun x y v hc hm=>⟨hc,fun hh=>hm (aa x y hh)⟩
   refine⟨⟨?_,r.siz,⟨?_,?_,?_,fun x y hx=>r.hp.lt x y (.inl hx),r.hp.gm.sub aa⟩,?_⟩,?_⟩
   ·obtain⟨g0,ms,g1,g2,g3⟩:=r.dfs;refine⟨g0,ms,g1,g2,fun x hx=>?_⟩;obtain⟨g4,g5,g6⟩:=g3 x hx;refine⟨g4,g5,fun c hc e=>?_⟩;by_cases ec:d=c
    ·simp only[Qx,ec,if_true] at e;rw[←e,hw] at g5;cases g5
    ·simp only[upd,Qx,ec,if_false] at hc e;exact g6 c hc e
   ·intro c c' hc hc' e;by_cases e1:d=c<;>by_cases e2:d=c'
    ·exact e1.symm.trans e2
    ·simp only[Qx,e1,if_true] at e;have e3:¬c=c':=fun x=>e2 (e1.trans x)
     simp only[e3,if_false] at e;simp only[upd,e2,if_false] at hc';exact absurd e.symm (Y c' hc')
    ·simp only[Qx,e2,if_true] at e;have e3:¬c'=c:=fun x=>e1 (e2.trans x)
     simp only[e3,if_false] at e;simp only[upd,e1,if_false] at hc;exact absurd e (Y c hc)
    ·simp only[upd,Qx,e1,e2,if_false] at hc hc' e;exact r.hp.inj c c' hc hc' e
   ·intro c q hc;by_cases e:d=c
    ·have J:q=.box ty cs:=by simp only[upd,e,if_true,QW] at hc;exact hc.symm
     have O:Qx φ d k c=k:=by simp[Qx,e]
     rw[J,O];exact⟨z.cells,hw,(QH Z X).2 _ _ (VE hcs (WS z)).1⟩
    ·have G:look s.H c=some q:=by simpa [upd,e] using hc
     have O:Qx φ d k c=φ c:=by simp[Qx,e]
     rw[O];exact Z5 Z X rfl (r.hp.blk c q G)
   ·intro c hc y hm;by_cases e:d=c
    ·have O:Qx φ d k c=k:=by simp[Qx,e]
     rw[O] at hm;exact ad _ hm
    ·have O:Qx φ d k c=φ c:=by simp[Qx,e]
     rw[O] at hm;exact r.hp.fr c (by simpa [upd,e] using hc) y (.inl hm)
   ·intro t x U;rw[hT] at U;by_cases e:d=t
    ·simp only[e,if_true,QW] at U;subst U;refine⟨e▸hN,?_⟩;subst e;rw[Array.getD_eq_getD_getElem?,hb];simp only[Qe,Option.getD_some];exact⟨by simp[Qx],ty,cs,by simp[upd]⟩
    ·simp only[e,if_false] at U;exact⟨(r.tm t x U).1,(QH Z X).1 _ _ (r.tm t x U).2⟩
   ·refine⟨E.os,E.tape,E.output,E.size,E.same,E.cell,?_,?_,?_,?_,?_⟩
    ·rintro x y hx ⟨c,q,G,J,O⟩;by_cases e:d=c
     ·simp only[Qx,e,if_true] at J;omega
     ·simp only[upd,Qx,e,if_false] at G J;exact E.mu x y hx ⟨c,q,G,J,O⟩
    ·intro c W cs' hc hb;obtain⟨⟨ab,G⟩,J⟩:=E.kb c W cs' hc hb;have:=hne c _ G;exact⟨⟨ab,by simp[upd,this,G]⟩,by simp[Qx,this,J]⟩
    ·intro t W S n U hb;obtain⟨n',G,J,O⟩:=E.kt t W S n U hb;have:=hne t _ G;exact⟨n',by simp[upd,this,G],J,fun e=>(by simpa [Qx,this] using O e)⟩
    ·intro t W S n U hb;obtain⟨n',G,J,O⟩:=E.kv t W S n U hb;have:=hne t _ G;exact⟨n',by simp[upd,this,G],J,fun e=>⟨by simp[Qx,this,(O e).1],(O e).2⟩⟩
    ·intro c k' x hc hb ho;obtain⟨⟨k2,G,J⟩,O⟩:=E.ko c k' x hc hb ho;have:=hne c _ G;exact⟨⟨k2,by simp[upd,this,G],J⟩,by simp[Qx,this,O]⟩
def uy(P:Program)(N:Nat)(ops:Array Oper)(Q:AX→St→Prop)(H:List Nat)(q d:Nat):List Nat→St→Prop
|[],s=>Q .normal s
|c::rest,s=>match ops[c]? with
 |some o=>if c=q then(∃u,KD N o.dst=true∧Jy P o (look s.T) (look s.H)=some u∧Js P ops (Ui ops H c) (Xd s o.dst u)∧uy P N ops Q H q d rest (Xd s o.dst u))
   else Ua P N o s (fun s'=>Js P ops (Ui ops H c) s'∧(q∈rest→look s'.T d=none)∧uy P N ops Q H q d rest s') Q
 |none=>False
def Ep(ops:Array Oper)(q:Nat):List Nat→Bool|c::c'::r=>(c != q||(ops[c']?).any (waits · q))&&Ep ops q (c'::r)|_=>true
def Qcq(ops:Array Oper)(H G:List Nat):Bool :=
 H.all (fun i=>match ops[i]? with|some o=>(match o.op with|.move _=>true|_=>false)&&G.all (fun c=>match (ops[c]?).bind (·.dst) with|some e=>!(o.looksAt ops).contains e|none=>true)||!(match o.op with|.move _=>true|_=>false)|none=>false)
def NI(P:Program)(N:Nat)(H:List Nat)(q d:Nat)(G:List Nat)(ops:Array Oper):Bool :=
 (List.range ops.size).all (fun i=>H.contains i||G.contains i)&&Region.noSelect ops&&RF ops H&&chainOk ops (G.filter (· != q))&&decide G.Nodup&&H.all (fun i=>!G.contains i) &&
 H.all (fun i=>G.all fun c=>!JD ops.size ops i c)&&ops.toList.all (fun o=>o.guard.isNone)&&GZ 0 ops.toList &&
 H.all (fun i=>match (ops[i]?).bind (·.dst) with
 |some d=>(List.range ops.size).all fun j=>i==j||(match ops[j]? with|some J=>J.dst != some d&&(waits J i||!(J.looksAt ops).contains d)|none=>true)
 |none=>false)&&Qcq ops H G&&Ep ops q G&&decide (d<N) &&
 G.all (fun c=>c==q||(match ops[c]? with|some o=>o.dst != some d|none=>false)) &&
 (match ops[q]? with
 |some o=>o.dst==some d&&(match o.op with|.alloc ty=>(match P.info? ty with|some i=>i.zero.isSome|none=>false)|_=>false)
 |none=>false)
theorem Sz{ops:Array Oper}{q:Nat}:∀(G:List Nat) (c':Nat) (l2:List Nat),Ep ops q (G++q::c'::l2)=true→(ops[c']?).any (waits · q)=true
|[],c',l2,h=>by
  simp only[List.nil_append,Ep,ZG,bne_self_eq_false,Bool.false_or] at h;exact h.1
|[x],c',l2,h=>by
  simp only[List.cons_append,List.nil_append,Ep,ZG,bne_self_eq_false,Bool.false_or] at h;exact h.2.1
|x::y::G,c',l2,h=>by
  simp only[List.cons_append,Ep,ZG] at h;exact Sz (y::G) c' l2 h.2
theorem rz{b Z:Act}{Y:Oper}(U:LJ P ops i s)(aa:ops[i]?=some Y)(ab:Y.dst=some d)(r':Zn φ M0 N D (look s.T) (look s.H) Z w')(hv:Z.tmps[d]?=some v)(J:(execOp b.eval Y).run P w=.ok (.value v) w)(hm:∀x,Y.op=.move x→Z.eval x=b.eval x):(execOp Z.eval Y).run P w'=.ok (.value v) w':=by
 unfold LJ at U;simp only[aa] at U;split at U
 ·rename_i x d' G O
  have W:b.eval x=v:=by
   simp[execOp,G] at J;exact J
  simp[execOp,G,hm x G,W]
 ·rename_i d' O G;obtain⟨x,h2,h3,h4⟩:=U;obtain⟨v',h5,h6⟩:=I4 r' h2;rw[ab] at O;cases O;have h7:=(r'.tm d x h3).2;rw[Array.getD_eq_getD_getElem?,hv] at h7;have:=zw h4 h6 h7;rw[h5,this];rfl
 ·cases U
theorem iB{Qh:AX→St→Prop}{H Cs:List Nat}{q:Nat}(hok:NI P N H q d Cs ops=true)(dx:∀s,Qh .normal s→Q .normal s)(dt:∀v s,Qh (.panic v) s→Q (.panic v) (Sv ops s)) :
  ∀(ae:Nat) (done ch:List Nat) (listed:Array Bool) (a b:Act) (w:World) (s:St) (φ:Nat→Nat) (M1:ZK),Cs=done++ch→listed.size=ops.size→Al listed ops.size≤ae →
   (∀(j:Nat) o,ops[j]?=some o→listed.getD j false=true→∀e∈o.after,Region.binds .any e=true→listed.getD e.on false=true) →
   (∀c∈done,listed.getD c false=true)→(∀c∈ch,c≠q→listed.getD c false=false)→Agree (Xl ops H listed) a b→Zn φ M1 N D (look s.T) (look s.H) b w→Q8 φ0 h0 w0 φ (look s.H) w →
   (∀i∈H,listed.getD i false=false→∃o d v,ops[i]?=some o∧o.dst=some d∧b.tmps[d]?=some v∧(execOp b.eval o).run P w=.ok (.value v) w) →
   (q∈ch→look s.T d=none∧∀i∈H,listed.getD i false=false→LJ P ops i s) →
   (((q∈ch→listed.getD q false=false)∧M1=M0)∨(q∈ch∧listed.getD q false=true∧ch.head?≠some q∧∃k o ty i z,M1=rq M0 k∧ops[q]?=some o∧o.op=.alloc ty∧o.dst=some d∧P.info? ty=some i∧i.zero=some z∧b.tmps[d]?=some (.pointer (some ⟨k,0,none⟩))∧w.heap[k]?=some (.cells z.cells ty (0,0))∧w0.heap.size≤k∧∀x,¬M0 k x)) →
   uy P N ops Qh H q d ch s→wpAny P .any ops (Post N D Q φ0 M0 h0 w0) ae listed a w:=by
 simp only[NI,ZG,Fh] at hok;obtain⟨⟨⟨⟨⟨⟨⟨⟨⟨⟨⟨⟨⟨⟨c0,dz⟩,ca⟩,bu⟩,ax⟩,bz⟩,bw⟩,dq⟩,cl⟩,b7⟩,dl⟩,b1⟩,c9⟩,cd⟩,ab⟩:=hok;have bq:∀(listed:Array Bool) (i:Nat),i<listed.size→listed.getD i true=listed.getD i false:=fun listed i hi=>by simp[hi]
 have b0:∀(X:Tmp→Prop) (a b:Act),Agree X a b→(∀t,X t→t∈MJ ops)→∀c w,Post N D Qh φ0 M0 h0 w0 (.panic c) b w→Post N D Q φ0 M0 h0 w0 (.panic c) a w:=by
  rintro X a b U hX c w' ⟨φ',x,s',g1,g2,g3,g4⟩;cases x with
 |normal=>cases g4
 |exit i=>cases g4
 |ret=>cases g4
 |panic v=>exact⟨φ',.panic v,Sv ops s',dt _ _ g1,zx U hX g2,g3,g4⟩
 have bx:∀a w,¬Post N D Qh φ0 M0 h0 w0 .outgrown a w:=fun a w h=>WT ⟨a,w,h⟩
 have cy:∀(Hv:List Nat) (listed:Array Bool) (t:Tmp),Xl ops Hv listed t→t∈MJ ops:=by
  rintro Hv listed t ⟨i,_,_,hd⟩;cases O:ops[i]? with
 |none=>rw[O] at hd;cases hd
 |some o =>
   rw[O] at hd;exact List.mem_filterMap.2 ⟨o,by have:=Array.mem_of_getElem? O;simpa using this,hd⟩
 have ee:∀(j:Nat) o,ops[j]?=some o→o.guard=none:=by
  intro j o O;have:=Xb.1 dq o (by have:=Array.mem_of_getElem? O;simpa using this);simpa using this
 have bv:∀(listed:Array Bool),listed.size=ops.size→Region.ready .any ops listed=[]→∀i,i<ops.size→listed.getD i false=true:=by
  intro listed al hr i
  induction i using Nat.strongRecOn with
 |_ i ih =>
   intro hi;cases hq:listed.getD i false with
  |true=>rfl
  |false =>
    have:i∈Region.ready .any ops listed:=by
     rw[mem_ready];refine⟨by rw[bq listed i zo];exact hq,ops[i],Array.getElem?_eq_getElem hi,fun e he hb=>?_⟩;have G:=Wu cl i ops[i] (by simp[hi]) e he hb;exact ih e.on zo zo
    rw[hr] at this;cases this
 have b4:∀(listed:Array Bool) (ch:List Nat) (a b:Act) (w:World) (s:St) (φ:Nat→Nat) (M1:ZK),(∀i,i<ops.size→listed.getD i false=true)→(∀c∈ch,c≠q→listed.getD c false=false)→Agree (Xl ops H listed) a b →
   Zn φ M1 N D (look s.T) (look s.H) b w→Q8 φ0 h0 w0 φ (look s.H) w→(((q∈ch→listed.getD q false=false)∧M1=M0)∨(q∈ch∧ch.head?≠some q))→uy P N ops Qh H q d ch s→Post N D Q φ0 M0 h0 w0 .normal a w:=by
  intro listed ch a b w s φ M1 W ad U r E hM Y
  have ef:a=b:=nR U (by
   rintro t ⟨i,hi,Z,hd⟩;cases O:ops[i]? with
  |none=>rw[O] at hd;cases hd
  |some o=>rw[W i (Ls.1 O).1] at Z;cases Z)
  subst ef;cases ch with
 |nil =>
   rcases hM with⟨_,rfl⟩|⟨h,_⟩
   ·exact⟨φ,.normal,s,dx _ Y,r,E,rfl⟩
   ·cases h
 |cons c ch =>
   exfalso;simp only[uy] at Y;cases O:ops[c]? with
  |none=>rw[O] at Y;exact Y
  |some o =>
    have hc:=W c (Ls.1 O).1;by_cases ac:c=q
    ·rcases hM with⟨h,_⟩|⟨_,h⟩
     ·rw[ac,h (by rw[ac];exact List.mem_cons_self)] at hc;cases hc
     ·exact h (by rw[ac];rfl)
    ·rw[ad c List.mem_cons_self ac] at hc;cases hc
 intro ae
 induction ae with
|zero =>
  intro done ch listed a b w s φ M1 aa al hu cf bb ad U r E J hT hM Y;have W:∀i,i<ops.size→listed.getD i false=true:=fun i hi=>by rw[←bq listed i zo];exact DD (n:=ops.size) zo i hi
  refine⟨List.eq_nil_iff_forall_not_mem.2 fun i hi=>?_,b4 listed ch a b w s φ M1 W ad U r E (hM.imp id fun h=>⟨h.1,h.2.2.1⟩) Y⟩;obtain⟨G,o,O,_⟩:=mem_ready.1 hi;have db:=(Ls.1 O).1;rw[bq listed i zo,W i db] at G;cases G
|succ ae ih =>
  intro done ch listed a b w s φ M1 aa al hu cf bb ad U r E J hT hM Y;refine⟨fun hr=>b4 listed ch a b w s φ M1 (bv listed al hr) ad U r E (hM.imp id fun h=>⟨h.1,h.2.2.1⟩) Y,fun j hj=>?_⟩;obtain⟨c1,o,O,W⟩:=mem_ready.1 hj;have a8:j<ops.size:=(Ls.1 O).1;have ao:listed.getD j false=false:=by rw[←bq listed j zo];exact c1
  have bj:∀cs b,o.op≠.select cs b:=fun cs b=>Region.noSelect_spec dz j o cs b O
  have ay:∀tm,Region.wanted o (yielded ops tm)=true:=fun tm=>by simp[Region.wanted,ee j o O]
  have eL:∀k,(listed.setIfInBounds j true).getD k false=(listed.getD k false||decide (k=j)):=by
   intro k;by_cases cp:k=j
   ·subst cp;have:k<listed.size:=by omega
    simp[this]
   ·rw[getD_set_ne false (Ne.symm cp)];simp[cp]
  have bd:Al (listed.setIfInBounds j true) ops.size≤ae:=by
   have:=Nv c1 ops.size;rw[if_pos a8] at this;omega
  have af:∀(k:Nat) ok,ops[k]?=some ok→(listed.setIfInBounds j true).getD k false=true→∀e∈ok.after,Region.binds .any e=true→(listed.setIfInBounds j true).getD e.on false=true:=by
   intro k ok hk Z e he hb;rw[eL] at Z ⊢;simp only[Bool.or_eq_true,Fh] at Z ⊢;rcases Z with Z|Z
   ·exact .inl (cf k ok hk Z e he hb)
   ·subst Z;rw[O] at hk;cases hk;exact .inl (W e he hb)
  have au:∀i,(listed.setIfInBounds j true).getD i false=false→listed.getD i false=false∧i≠j:=by
   intro i Z;rw[eL] at Z;simp only[Bool.or_eq_false_iff,decide_eq_false_iff_not] at Z;exact Z
  have b3:∀t∈o.looksAt ops,¬Xl ops H listed t∨∃d,o.dst=some d∧t=d∧j∈H:=by
   intro t ht;by_cases hc:Xl ops H listed t;rotate_left
   ·exact .inl hc
   obtain⟨i,hi,Z,hd⟩:=hc;have G:=Xb.1 b7 i hi;rw[hd] at G;have h2:=Xb.1 G j (by simp[a8]);simp only[O,Bool.or_eq_true,beq_iff_eq,ZG,Bool.not_eq_true',bne_iff_ne] at h2;rcases h2 with rfl|⟨_,h2|h2⟩
   ·rw[O] at hd;exact .inr ⟨t,hd,rfl,hi⟩
   ·obtain⟨e,he,hb,bi⟩:=FL h2;have:=W e he hb;rw[bi,Z] at this;cases this
   ·simp[ht] at h2
  have bn:=Xb.1 c0 j (by simp[a8]);simp only[Bool.or_eq_true,List.contains_iff_mem] at bn
  have cc:q∈ch→q∉H:=by
   intro hq cc;have:=Xb.1 bz q cc;rw[aa] at this;simp[hq] at this
  by_cases aq:j∈H
  ·
   have av:j∉Cs:=by
    have:=Xb.1 bz j aq;simpa using this
   obtain⟨o',dd,v,c2,hd,hv,bl⟩:=J j aq ao;rw[O] at c2;cases c2;have cj:dd∉o.looksAt ops:=I7 O hd H ca aq
   have cq:∀t∈o.looksAt ops,¬Xl ops H listed t:=by
    intro t ht;rcases b3 t ht with G|⟨d',G,rfl,_⟩
    ·exact G
    ·rw[hd] at G;cases G;exact absurd ht cj
   unfold wpOp;simp only[O,ay,if_true];refine .inl ?_;unfold Oper.wp;rw[Uh (ops:=ops) U bj cq,bl];simp only[Oper.upon];have ec:q∈ch→q≠j:=fun h e=>cc h (e▸aq)
   refine ih done ch (listed.setIfInBounds j true) (a.put o.dst v) b w s φ M1 aa (by simpa using al) bd af (fun c hc=>by rw[eL,bb c hc];rfl) ?_ ?_ r E (fun i hi Z=>J i hi (au i Z).1) (fun h=>⟨(hT h).1,fun i hi Z=>(hT h).2 i hi (au i Z).1⟩) ?_ Y
   ·intro c hc ac;rw[eL,ad c hc ac];have:c≠j:=fun e=>av (by rw[aa,←e];exact List.mem_append_right _ hc)
    simp[this]
   ·refine⟨by rw[←U.1,hd];rfl,by rw[←U.2.1,hd];simp[Act.put],fun t ht=>?_⟩;rw[hd];by_cases co:dd=t
    ·subst co
     have cn:dd<a.tmps.size:=by
      rw[U.2.1];exact(Ls.1 hv).1
     rw[hv];simp[Act.put,cn]
    ·rw[←U.2.2 t (fun hc=>ht (by
      obtain⟨i,hi,Z,aw⟩:=hc;refine⟨i,hi,?_,aw⟩;rw[eL,Z];have:i≠j:=fun e=>co (by rw[e,O] at aw;exact Option.some.inj (hd.symm.trans aw))
      simp[this]))]
     simp[Act.put,Array.getElem?_setIfInBounds_ne co]
   ·rcases hM with⟨G,h2⟩|⟨G,h2,h3⟩
    ·exact .inl ⟨fun h=>by rw[eL,G h];simp[ec h],h2⟩
    ·exact .inr ⟨G,by rw[eL,h2];rfl,h3⟩
  ·
   have av:j∈Cs:=bn.resolve_left aq
   have ar:j∈ch:=by
    rw[aa] at av;rcases List.mem_append.1 av with G|G
    ·rw[bb j G] at ao;cases ao
    ·exact G
   have bm:∀t∈o.looksAt ops,¬Xl ops H listed t:=by
    intro t ht;rcases b3 t ht with G|⟨d',_,_,G⟩
    ·exact G
    ·exact absurd G aq
   have bk:∀t,o.dst=some t→¬Xl ops H listed t:=by
    rintro t ht ⟨i,hi,Z,hd⟩;have G:=Xb.1 b7 i hi;rw[hd] at G;have h2:=Xb.1 G j (by simp[a8]);simp only[O,Bool.or_eq_true,beq_iff_eq,ZG,Bool.not_eq_true',bne_iff_ne] at h2;rcases h2 with rfl|⟨h2,_⟩
    ·exact aq hi
    ·exact h2 ht
   have hsub:∀x y,M0 x y→M1 x y:=by
    intro x y h;rcases hM with⟨_,rfl⟩|⟨_,_,_,k,_,_,_,_,rfl,_⟩
    ·exact h
    ·exact .inl h
   have cg:∀(b':Act) (w':World) (s':St) (φ':Nat→Nat) (M':ZK),(∀t,o.dst≠some t→b'.tmps[t]?=b.tmps[t]?)→Zn φ' M' N D (look s'.T) (look s'.H) b' w'→(∀i∈H,(listed.setIfInBounds j true).getD i false=false→LJ P ops i s') →
     ∀i∈H,(listed.setIfInBounds j true).getD i false=false→∃o d v,ops[i]?=some o∧o.dst=some d∧b'.tmps[d]?=some v∧(execOp b'.eval o).run P w'=.ok (.value v) w':=by
    intro b' w' s' φ' M' ah r' ba i hi Z;have br:=(au i Z).1;obtain⟨oi,di,v,bt,aw,dw,eh⟩:=J i hi br;have dh:b'.tmps[di]?=some v:=by rw[ah di (fun e=>bk di e ⟨i,hi,br,by rw[bt];exact aw⟩)];exact dw
    refine⟨oi,di,v,bt,aw,dh,rz (ba i hi Z) bt aw r' dh eh fun x ak=>?_⟩;cases x with
   |tmp t =>
     have hne:o.dst≠some t:=by
      intro e;have h2:=Xb.1 dl i hi;simp only[bt,ak,Bool.true_and,Bool.not_true,Bool.or_false] at h2;have h3:=Xb.1 h2 j av;simp only[O,Zf,e,Bool.not_eq_true'] at h3;have:t∈oi.looksAt ops:=List.mem_append_left _ (List.mem_filterMap.2 ⟨.tmp t,by simp[ak,Op.operands],rfl⟩);simp[this] at h3
     simp only[Act.eval];rw[Array.getD_eq_getD_getElem?,Array.getD_eq_getD_getElem?,ah t hne]
   |_=>rfl
   have az:∀(s':St),Js P ops (Ui ops H j) s'→∀i∈H,(listed.setIfInBounds j true).getD i false=false→LJ P ops i s':=by
    intro s' ba i hi Z;have br:=(au i Z).1
    have em:JD ops.size ops j i=false:=by
     cases hq:JD ops.size ops j i with
    |false=>rfl
    |true =>
      have:=XY cf _ j i o O W hq;rw[br] at this;cases this
    have cw:JD ops.size ops i j=false:=by
     have:=Xb.1 (Xb.1 bw i hi) j av;simpa using this
    exact ba i (List.mem_filter.2 ⟨hi,by rw[em,cw];rfl⟩)
   have am:∀(a' b':Act),Agree (Xl ops H listed) a' b'→Agree (Xl ops H (listed.setIfInBounds j true)) a' b':=by
    intro a' b' h;refine⟨h.1,h.2.1,fun t ht=>h.2.2 t (fun hc=>ht ?_)⟩;obtain⟨i,hi,Z,hd⟩:=hc;refine⟨i,hi,?_,hd⟩;rw[eL,Z];have:i≠j:=fun e=>aq (e▸hi)
    simp[this]
   by_cases bf:j=q
   ·
    subst bf;rw[O] at ab;simp only[ZG,beq_iff_eq] at ab;obtain⟨bc,ab⟩:=ab;split at ab;rotate_left
    ·cases ab
    rename_i ty ak;split at ab;rotate_left
    ·cases ab
    rename_i ti hi;obtain⟨z,hz⟩:=RY.1 ab
    have ek:M1=M0:=by
     rcases hM with⟨_,h⟩|⟨_,h,_⟩
     ·exact h
     ·rw[h] at ao;cases ao
    subst ek;unfold wpOp;simp only[O,ay,if_true];refine .inl ?_;cases ch with
   |nil=>cases ar
   |cons c rest =>
     by_cases bh:c=j
     ·subst bh;simp only[uy,O,if_true] at Y;obtain⟨u,dj,hu,Z,be⟩:=Y
      have hex:Ua P N o s (fun s'=>s'=Xd s o.dst u) Qh:=by
       unfold Ua;simp only[ak];rw[hu];exact .inl ⟨dj,rfl⟩
      have hw:=Bd hex r;have b9:=Go.Abs.Oper.wp_mono2 (K':=fun a' w'=>∃φ' s',s'=Xd s o.dst u∧Zn φ' M1 N D (look s'.T) (look s'.H) a' w'∧Q8 φ (look s.H) w φ' (look s'.H) w') (Q':=Post N D Qh φ0 M1 h0 w0) hw (fun _ _ h=>h) (fun e a' w' p=>p.trans E);refine Oper.wp_mono ?_ (IZ (ops:=ops) U bj bm bk (b0 _ _ _ U (cy _ _)) bx b9);rintro a' w' ⟨b',an,ah,φ',s',rfl,r',E'⟩
      have bo:c∉rest:=by
       rw[aa] at ax;exact(List.nodup_cons.1 (List.nodup_append.1 ax).2.1).1
      refine ih (done++[c]) rest (listed.setIfInBounds c true) a' b' w' _ φ' M1 (by rw[aa];simp) (by simpa using al) bd af (fun x Y=>by
       rw[eL];rcases List.mem_append.1 Y with G|G
       ·rw[bb x G];rfl
       ·rw[List.mem_singleton] at G;simp[G]) ?_ (am _ _ an) r' (E.trans E') (cg b' w' _ φ' M1 ah r' (az _ Z)) (fun h=>absurd h bo) (.inl ⟨fun h=>absurd h bo,rfl⟩) be
      intro x Y ai;rw[eL,ad x (List.mem_cons_of_mem _ Y) ai];simp[ai]
     ·have bl:∀ev,(execOp ev o).run P w=.ok (.value (.pointer (some ⟨w.heap.size,0,none⟩))) (w.alloc (.cells z.cells ty)):=fun ev=>by
       simp[execOp,ak,Instr.alloc,zeroValue,typeInfo,hi,hz,newVar,newRow,newObj,Sem.run]
      unfold Oper.wp;rw[bl];simp only[Oper.upon];rw[bc];obtain⟨dc,dm⟩:=hT ar;obtain⟨r,E1,_,dk⟩:=r.lift 1;have E:=E.trans E1;have r2:=ry (ob:=.cells z.cells ty) (v:=.pointer (some ⟨w.heap.size,0,none⟩)) r dc dk
      have ah:∀t,o.dst≠some t→(b.put (some d) (.pointer (some ⟨w.heap.size,0,none⟩))).tmps[t]?=b.tmps[t]?:=by
       intro t ht;have:d≠t:=fun e=>ht (by rw[bc,e])
       simp[Act.put,Array.getElem?_setIfInBounds_ne this]
      have c7:∀i∈H,(listed.setIfInBounds j true).getD i false=false→LJ P ops i s:=fun i hi Z=>dm i hi (au i Z).1
      refine ih done (c::rest) (listed.setIfInBounds j true) _ _ _ s _ _ aa (by simpa using al) bd af (fun x Y=>by rw[eL,bb x Y];rfl) ?_ (am _ _ (G7 U (some d) _)) r2 (E.trans (zy r.hp dk).1) (cg _ _ s _ _ ah r2 c7) (fun _=>⟨dc,c7⟩) (.inr ⟨ar,by rw[eL];simp,fun h=>bh (Option.some.inj h),w.heap.size,o,ty,ti,z,rfl,O,ak,bc,hi,hz,?_,?_,E.size,fun x Y=>Nat.lt_irrefl _ (r.hp.lt _ _ Y)⟩) Y
      ·intro x Y ai;rw[eL,ad x Y ai];simp[ai]
      ·have cn:d<b.tmps.size:=by rw[r.siz];exact c9
       simp[Act.put,cn]
      ·show(w.heap.push _)[w.heap.size]?=_;simp
   ·
    have bp:∃rest,ch=j::rest:=by
     cases ch with
    |nil=>cases ar
    |cons c rest =>
      by_cases bh:j=c
      ·exact⟨rest,by rw[bh]⟩
      exfalso;have ce:j∈rest:=(List.mem_cons.1 ar).resolve_left bh;obtain⟨r1,r2,a6⟩:=List.append_of_mem ce
      have cz:∀x,x∈c::rest→x≠q→(ops[j]?).any (waits · x)=true→False:=by
       intro x Y ai hw;rw[O] at hw;obtain⟨e,he,hb,bi⟩:=FL (o:=o) (i:=x) hw;have h2:=W e he hb;rw[bi,ad x Y ai] at h2;cases h2
      by_cases aj:∀x∈c::r1,x=q
      ·
       have ac:c=q:=aj c List.mem_cons_self
       have dp:r1=[]:=by
        cases r1 with
       |nil=>rfl
       |cons y r1 =>
         exfalso;have hy:=aj y zq;have h3:=ax;rw[aa,a6] at h3;have h4:=(List.nodup_append.1 h3).2.1;rw[ac,hy] at h4;simp at h4
       subst dp;rcases hM with⟨G,_⟩|⟨_,_,h3,_⟩
       ·have h4:=G (by rw[ac];exact List.mem_cons_self);have h5:(ops[j]?).any (waits · q)=true:=Sz done j r2 (by rw[aa,a6,ac] at b1;exact b1);rw[O] at h5;obtain⟨e,he,hb,bi⟩:=FL (o:=o) (i:=q) h5;have h6:=W e he hb;rw[bi,h4] at h6;cases h6
       ·exact h3 (by rw[ac];rfl)
      ·simp only[Classical.not_forall] at aj;obtain⟨x0,eg,cx⟩:=aj
       have dy:(c::r1).filter (· != q)≠[]:=by
        intro e;have:x0∈(c::r1).filter (· != q):=List.mem_filter.2 ⟨eg,by simpa using cx⟩;rw[e] at this;cases this
       obtain⟨p,x,c5⟩:∃p x,(c::r1).filter (· != q)=p++[x]:=⟨_,_,(List.dropLast_concat_getLast dy).symm⟩;have du:x∈(c::r1).filter (· != q):=by rw[c5];simp
       obtain⟨ei,cm⟩:=List.mem_filter.1 du
       have dn:Cs.filter (· != q)=(done.filter (· != q)++p)++x::j::r2.filter (· != q):=by
        rw[aa,List.filter_append,a6,show c::(r1++j::r2)=(c::r1)++j::r2 from rfl,List.filter_append,c5];have:(j::r2).filter (· != q)=j::r2.filter (· != q):=by simp[bf]
        rw[this];simp
       have b2:=bu;rw[dn] at b2;have G:=DV _ _ _ _ b2;exact cz x (by rw[a6,show c::(r1++j::r2)=(c::r1)++j::r2 from rfl];exact List.mem_append_left _ ei) (by simpa using cm) G
    obtain⟨rest,rfl⟩:=bp;simp only[uy,O,if_neg bf] at Y;unfold wpOp;simp only[O,ay,if_true];refine .inl ?_;have hw:=Bd Y r;have b9:=Go.Abs.Oper.wp_mono2 (K':=fun a' w'=>∃φ' s',(Js P ops (Ui ops H j) s'∧(q∈rest→look s'.T d=none)∧uy P N ops Qh H q d rest s')∧Zn φ' M1 N D (look s'.T) (look s'.H) a' w'∧Q8 φ (look s.H) w φ' (look s'.H) w') (Q':=Post N D Qh φ0 M0 h0 w0) hw (fun _ _ h=>h) (fun e a' w' p=>ru hsub (p.trans E));refine Oper.wp_mono ?_ (IZ (ops:=ops) U bj bm bk (b0 _ _ _ U (cy _ _)) bx b9);rintro a' w' ⟨b',an,ah,φ',s',⟨ba,dv,be⟩,r',E'⟩;have cr:=cg b' w' s' φ' M1 ah r' (az s' ba)
    have ce:j∉rest:=by
     rw[aa] at ax;exact(List.nodup_cons.1 (List.nodup_append.1 ax).2.1).1
    have a7:∀c∈done++[j],(listed.setIfInBounds j true).getD c false=true:=fun x Y=>by
     rw[eL];rcases List.mem_append.1 Y with G|G
     ·rw[bb x G];rfl
     ·rw[List.mem_singleton] at G;simp[G]
    have bg:∀c∈rest,c≠q→(listed.setIfInBounds j true).getD c false=false:=by
     intro x Y ai;rw[eL,ad x (List.mem_cons_of_mem _ Y) ai];have:x≠j:=fun e=>ce (e▸Y)
     simp[this]
    have c6:q∈rest→look s'.T d=none∧∀i∈H,(listed.setIfInBounds j true).getD i false=false→LJ P ops i s':=fun h=>⟨dv h,az s' ba⟩
    rcases hM with⟨G,rfl⟩|⟨G,h2,h3,k,oq,ty,ti,z,rfl,df,ak,bc,hi,hz,el,c4,c3,da⟩
    ·refine ih (done++[j]) rest (listed.setIfInBounds j true) a' b' w' s' φ' M1 (by rw[aa];simp) (by simpa using al) bd af a7 bg (am _ _ an) r' (E.trans E') cr c6 (.inl ⟨fun h=>?_,rfl⟩) be;rw[eL,G (List.mem_cons_of_mem _ h)];simp[Ne.symm bf]
    ·have ej:q∈rest:=(List.mem_cons.1 G).resolve_left (Ne.symm bf)
     have ed:o.dst≠some d:=by
      have:=Xb.1 cd j av;simp only[O,Bool.or_eq_true,beq_iff_eq,bne_iff_ne] at this;exact this.resolve_left bf
     have b5:b'.tmps[d]?=some (.pointer (some ⟨k,0,none⟩)):=by rw[ah d ed];exact el
     have b6:w'.heap[k]?=some (.cells z.cells ty (0,0)):=by
      rw[E'.same k (Ls.1 c4).1 (fun c hc e=>r.hp.fr c hc 0 (.inr e))];exact c4
     have de:(listed.setIfInBounds j true).getD q false=true:=by rw[eL,h2];rfl
     by_cases b8:rest.head?=some q
     ·cases rest with
     |nil=>cases b8
     |cons c rest =>
       obtain rfl:c=q:=Option.some.inj b8;simp only[uy,df,if_true] at be;obtain⟨u,dj,hu,Z,cm⟩:=be;obtain⟨r2,E2⟩:=gK r' (E.trans E') c3 da ak bc hi hz c9 b5 b6 hu
       have bo:c∉rest:=by
        rw[aa] at ax;exact(List.nodup_cons.1 (List.nodup_cons.1 (List.nodup_append.1 ax).2.1).2).1
       refine ih (done++[j,c]) rest (listed.setIfInBounds j true) a' b' w' _ _ M0 (by rw[aa];simp) (by simpa using al) bd af (fun x Y=>?_) (fun x Y=>bg x (List.mem_cons_of_mem _ Y)) (am _ _ an) r2 E2 cr (fun h=>absurd h bo) (.inl ⟨fun h=>absurd h bo,rfl⟩) cm;rcases List.mem_append.1 Y with h4|h4
       ·exact a7 x (List.mem_append_left _ h4)
       ·simp only[List.mem_cons,List.not_mem_nil,or_false] at h4;rcases h4 with h4|h4
        ·exact a7 x (by simp[h4])
        ·rw[h4];exact de
     ·exact ih (done++[j]) rest (listed.setIfInBounds j true) a' b' w' s' φ' _ (by rw[aa];simp) (by simpa using al) bd af a7 bg (am _ _ an) r' (E.trans E') cr c6 (.inr ⟨ej,de,b8,k,oq,ty,ti,z,rfl,df,ak,bc,hi,hz,b5,b6,c3,da⟩) be
theorem Qcr{R:Type}{Y:R}{Q:R→AX→St→Prop}(H:List Nat)(q d:Nat)(Cs:List Nat)(hm:P.follows .mixedOrders=true)(ae:U5 ops=true)(hok:NI P N H q d Cs ops=true)(h1:RD P N ops H s=some s1)(hl:Js P ops H s1)(hT:look s1.T d=none)(h:uy P N ops (qh ops Q Y) H q d Cs s1):Ex P N ro (.region id ops true) s (Q Y):=by
 intro φ M0 D a w r;refine wpIn_region_any hm (MC ae WT _ _ _ _ ?_);have hd:Q8 φ (look s.H) w φ (look s.H) { w with drawn:=w.drawn+1 }:=Rn rfl rfl rfl rfl;have r1:Zn φ M0 N D (look s.T) (look s.H) a { w with drawn:=w.drawn+1 }:=r.keep hd (GX rfl) (CV (w:=w) rfl hd r.hp);have J:=hok;simp only[NI,ZG,Fh] at J;obtain⟨⟨⟨⟨⟨⟨⟨⟨⟨⟨⟨⟨⟨⟨ah,af⟩,U⟩,Z⟩,ai⟩,aj⟩,aa⟩,an⟩,ab⟩,am⟩,ao⟩,al⟩,aq⟩,ac⟩,ak⟩:=J;obtain⟨b,rb,hH,O,hJ⟩:=Aq af H s s1 a _ U h1 r1
 have G:∀(j:Nat),(Array.replicate ops.size false).getD j false=false:=by
  intro j;rcases Nat.lt_or_ge j ops.size with h|h
  ·simp[h]
  ·simp[h]
 have W:∀n,Al (Array.replicate ops.size false) n≤n:=by
  intro n
  induction n with
 |zero=>simp[Al]
 |succ n ih=>simp only[Al];split<;>omega
 have h2:=iB (D:=D) (φ0:=φ) (h0:=look s.H) (w0:=w) (M0:=M0) hok (Q:=Q Y) (Qh:=qh ops Q Y) (fun _ h=>h) (fun _ _ h=>h) ops.size [] Cs (Array.replicate ops.size false) a b { w with drawn:=w.drawn+1 } s1 φ M0 rfl zq (W _) (fun j o _ hj=>by rw[G] at hj;cases hj) (fun c hc=>by cases hc) (fun c _ _=>G c)
  ⟨O.1,O.2.1,fun t ht=>O.2.2 t (fun hc=>ht (by obtain⟨i,hi,ad⟩:=hc;exact⟨i,hi,G i,ad⟩))⟩ rb (by rw[hH];exact hd) (fun i hi _=>hJ i hi) (fun _=>⟨hT,fun i hi _=>hl i hi⟩) (.inl ⟨fun _=>G q,rfl⟩) h
 refine XX ?_ _ _ _ _ h2;exact fun e a' w' h=>h
structure jo{R:Type}(a:Option R)(P:Program)(N:Nat)(ops:Array Oper)(Q:R→AX→St→Prop)(H:List Nat)(q d:Nat)(Ch:List Nat)(s:St):Prop where
 intro ::
 h:∀r,a=some r→uy P N ops (qh ops Q r) H q d Ch s
def fKf{R:Type}(P:Program)(N:Nat)(ops:Array Oper)(Q:R→AX→St→Prop)(H:List Nat)(q d:Nat)(Ch:List Nat)(c:Nat):R→St→Prop:=fun r s=>Js P ops (Ui ops H c) s∧(q∈Ch→look s.T d=none)∧uy P N ops (qh ops Q r) H q d Ch s
theorem jq{Ch:List Nat}{q:Nat}(h:(!Ch.contains q||(look s.T d).isNone)=true):q∈Ch→look s.T d=none:=by
 intro G;cases e:look s.T d with
|none=>rfl
|some x=>simp[G,e] at h
section
variable {R V E:Type}{a a1 a2:Option R}{P:Program}{N:Nat}{ro:Option Nat}{id:Nat}{ops:Array Oper}{o:Oper}{s s1 s':St}{Q:R→AX→St→Prop}{f:FuncId}{args args':List AV}{dst:Option Tmp}{H Ch:List Nat}{c i q d:Nat}
theorem jr(H:List Nat)(q d:Nat)(Ch:List Nat)(Y:P.follows .mixedOrders=true)(W:U5 ops=true)(hok:NI P N H q d Ch ops=true)(O:(RD P N ops H s).isSome=true)(J:Js P ops H ((RD P N ops H s).getD s))(G:(look ((RD P N ops H s).getD s).T d).isNone=true)(h:jo a P N ops Q H q d Ch ((RD P N ops H s).getD s)):Q3 a P N ro (.region id ops true) s Q:=by
 obtain⟨s1,e⟩:=RY.1 O;rw[e] at h J G;simp only[Option.getD_some] at h J G;exact⟨fun r U=>Qcr H q d Ch Y W hok e J (by cases e:look s1.T d with|none=>rfl|some x=>rw[e] at G;cases G) (h.h r U)⟩
theorem Qes(h:ZC a Q .normal s):jo a P N ops Q H q d [] s:=⟨fun r G=>h.h r G⟩
theorem kf(G:List Nat)(W:Ui ops H c=G)(J:Js P ops G s)(O:(!Ch.contains q||(look s.T d).isNone)=true)(h:jo a P N ops Q H q d Ch s):TW a (fKf P N ops Q H q d Ch c) s :=
 ⟨fun r U=>⟨W▸J,jq O,h.h r U⟩⟩
theorem f_q(U:List Nat)(W:Ui ops H q=U)(h0:(RG P N ops q s).isSome=true)(J:Js P ops U ((RG P N ops q s).getD s))(h:jo a P N ops Q H q d Ch ((RG P N ops q s).getD s)):jo a P N ops Q H q d (q::Ch) s:=by
 obtain⟨s',G⟩:=RY.1 h0;rw[G] at J h;simp only[Option.getD_some] at J h;unfold RG at G;refine⟨fun r Y=>?_⟩;simp only[uy];cases ho:ops[q]? with
|none=>rw[ho] at G;cases G
|some o =>
  simp only[ho,Zf,if_true] at G ⊢;split at G
  ·cases G
  ·cases G
  ·cases G
  ·split at G;rotate_left
   ·cases G
   rename_i O;obtain⟨u,hu,rfl⟩:=GU.1 G;exact⟨u,O,hu,W▸J,h.h r Y⟩
theorem QhA(Z:List Nat)(O:Nat.beq c q=false)(hL:Ui ops H c=Z)(h0:(RG P N ops c s).isSome=true)(U:Js P ops Z ((RG P N ops c s).getD s))(W:(!Ch.contains q||(look ((RG P N ops c s).getD s).T d).isNone)=true)(h:jo a P N ops Q H q d Ch ((RG P N ops c s).getD s)):jo a P N ops Q H q d (c::Ch) s:=by
 obtain⟨s',G⟩:=RY.1 h0;rw[G] at U h W;simp only[Option.getD_some] at U h W;unfold RG at G;refine⟨fun r hr=>?_⟩;have hne:¬c=q:=fun e=>by subst e;simp at O
 simp only[uy];cases ho:ops[c]? with
|none=>rw[ho] at G;cases G
|some o =>
  simp only[ho,Zf,if_neg hne] at G ⊢;unfold Ua;split at G
  ·cases G
  ·cases G
  ·cases G
  ·rename_i n1 n2 n3;split at G;rotate_left
   ·cases G
   rename_i Y;obtain⟨u,hu,rfl⟩:=GU.1 G
   have key:Iu N o s (fun s'=>Js P ops (Ui ops H c) s'∧(q∈Ch→look s'.T d=none)∧uy P N ops (qh ops Q r) H q d Ch s') (Jy P o (look s.T) (look s.H)):=by
    rw[hu];exact⟨Y,hL▸U,jq W,h.h r hr⟩
   split
   ·rename_i J;exact absurd J (n1 _ _ _)
   ·rename_i J;exact absurd J (n2 _)
   ·rename_i J;exact absurd J (n3 _ _ _)
   ·exact .inl key
theorem Ar(hf:(ops[c]?).bind (fun o=>(Ki (look s.T) o.op).map fun p=>(p.1,p.2,o.dst))=some (f,args,dst))(hb:Y6 P f=true)(G:Nat.beq c q=false)(h:BA a P N f args dst s (fKf P N ops Q H q d Ch c) (qh ops Q)):jo a P N ops Q H q d (c::Ch) s:=by
 refine⟨fun r W=>?_⟩;have hne:¬c=q:=fun e=>by subst e;simp at G
 simp only[uy];cases ho:ops[c]? with
|none=>rw[ho] at hf;cases hf
|some o =>
  simp only[ho,Zf,if_neg hne] at hf ⊢;obtain⟨⟨f0,J⟩,U,O⟩:=GU.1 hf;simp only[Xu] at O;obtain⟨rfl,rfl,rfl⟩:=O;exact XW U hb (h.h r W)
end
def rA(k:Nat)(x:AV):Blk→Blk|.box ty cs=>.box ty (cs.set k x)|q=>q
def Uj(b k:Nat)(x:AV)(s:St):St:=⟨s.T,s.H.map fun p=>if p.1=b then(p.1,rA k x p.2) else p⟩
theorem Bn{b k:Nat}{x:AV}:∀(H:List (Nat×Blk)) (c:Nat),look (H.map fun p=>if p.1=b then(p.1,rA k x p.2) else p) c=if b=c then(look H c).map (rA k x) else look H c
|[],c=>by simp[look]
|(d,q)::H,c=>by
  rw[Yy];by_cases J:d=b
  ·subst J;simp only[if_true,look];by_cases G:d=c
   ·simp[G]
   ·simp only[G,if_false];rw[Bn H c];simp[G]
  ·simp only[J,if_false,look];by_cases G:d=c
   ·subst G;simp[Ne.symm J]
   ·simp only[G,if_false];exact Bn H c
theorem NJ{k:Nat}{x:AV}{ty:Nat}{cs:List AV}(hb:look s.H b=some (.box ty cs)):look (Uj b k x s).H=upd (look s.H) b (.box ty (cs.set k x)):=by
 funext c;show look (s.H.map _) c=_;rw[Bn];by_cases e:b=c
 ·subst e;simp[upd,hb,rA]
 ·simp[upd,e]
theorem UU{φ:Nat→Nat}{h:QN}{w:World}{M:ZK}:∀{cs:List AV} {l:List Value} {k:Nat} {x:AV},Qi φ h w M cs l→cs[k]?=some x→∃u,l[k]?=some u∧Qe φ h w M x u
|[],l,k,x,_,h=>by simp at h
|c::cs,l,k,x,G,h=>by
  simp only[Qi] at G;obtain⟨y,ys,rfl,O,J⟩:=G;cases k with
 |zero=>simp at h;subst h;exact⟨y,rfl,O⟩
 |succ k=>simp at h;simpa using UU J h
theorem XJ{φ:Nat→Nat}{h:QN}{w:World}{M:ZK}:∀{cs:List AV} {l:List Value} {k:Nat} {x:AV} {u:Value},Qi φ h w M cs l→l[k]?=some u→Qe φ h w M x u→Qi φ h w M (cs.set k x) l
|[],l,k,x,u,J,G,O=>by simpa using J
|c::cs,l,k,x,u,J,G,O=>by
  simp only[Qi] at J;obtain⟨y,ys,rfl,W,U⟩:=J;cases k with
 |zero=>simp at G;subst G;exact⟨_,ys,rfl,O,U⟩
 |succ k=>simp at G;exact⟨y,ys,rfl,W,XJ U G O⟩
section
variable {φ φ0:Nat→Nat}{h h0:QN}{w w0:World}{M0:ZK}{b ty:Nat}{cs cs':List AV}
theorem DY(hb:h b=some (.box ty cs)):Y4 φ h w φ (upd h b (.box ty cs')) w:=by
 refine⟨fun c t q hc=>⟨?_,rfl⟩,fun t J S n hc=>⟨n,?_,Kt _,fun _=>Yz rfl rfl⟩,fun t J S n hc=>⟨n,?_,Kt _,fun _=>⟨rfl,fun c hc=>⟨c,hc,rfl⟩⟩⟩,fun c k x hc G=>⟨⟨k,?_,G⟩,rfl⟩⟩
 ·by_cases e:b=c
  ·subst e;exact⟨ty,cs',by simp[upd]⟩
  ·exact⟨t,q,by simp[upd,e,hc]⟩
 ·have:¬b=t:=fun e=>by subst e;rw[hb] at hc;cases hc
  simp[upd,this,hc]
 ·have:¬b=t:=fun e=>by subst e;rw[hb] at hc;cases hc
  simp[upd,this,hc]
 ·have:¬b=c:=fun e=>by subst e;rw[hb] at hc;cases hc;cases G
  simp[upd,this,hc]
theorem NK(hb:h b=some (.box ty cs)):∀r o,TK φ (upd h b (.box ty cs')) r o→TK φ h r o:=by
 rintro r o ⟨c,k,J,G,O⟩;by_cases e:b=c
 ·subst e;exact⟨b,_,hb,G,trivial⟩
 ·simp only[upd,e,if_false] at J;exact⟨c,k,J,G,O⟩
theorem DZ(hb:h b=some (.box ty cs)):Q8 φ h w φ (upd h b (.box ty cs')) w:=by
 have X:=DY (φ:=φ) (w:=w) (cs':=cs') hb;refine⟨rfl,rfl,rfl,Kt _,fun _ _ _=>rfl,fun _ _ _ _=>rfl,fun r o _ O=>NK hb r o O,fun c t q _ hc=>?_,fun t G S n _ hc=>X.t t G S n hc,fun t G S n _ hc=>X.v t G S n hc,fun c k x _ hc J=>X.o c k x hc J⟩;by_cases e:b=c
 ·subst e;rw[hb] at hc;cases hc;exact⟨⟨cs',by simp[upd]⟩,rfl⟩
 ·exact⟨⟨q,by simp[upd,e,hc]⟩,rfl⟩
theorem iC(hb:h b=some (.box ty cs))(r:ZN φ h w M0)(hc:∀c:Array Value,w.heap[φ b]?=some (.cells c ty (0,0))→Qi φ h w (MM φ h M0) cs' c.toList):ZN φ (upd h b (.box ty cs')) w M0:=by
 have Y:∀x o v,w.cell? ⟨x,o,none⟩=some v→¬MM φ h M0 x o→w.cell? ⟨x,o,none⟩=some v∧¬MM φ (upd h b (.box ty cs')) M0 x o:=fun x o v O W=>⟨O,fun U=>W (U.imp (NK hb x o) id)⟩
 have X:=DY (φ:=φ) (w:=w) (cs':=cs') hb
 have G:∀c,upd h b (.box ty cs') c≠none→h c≠none:=fun c hc=>by
  by_cases e:b=c
  ·subst e;rw[hb];simp
  ·simpa [upd,e] using hc
 refine⟨fun c d hc Z=>r.inj c d (G c hc) (G d Z),fun c k J=>?_,fun c hc=>r.fr c (G c hc),r.lt,r.gm.sub fun x o U=>U.imp (NK hb x o) id⟩;by_cases e:b=c
 ·subst e;simp only[upd,if_true,QW] at J;subst J;obtain⟨q,O,W⟩:=r.blk b _ hb;exact⟨q,O,(QH Y X).2 _ _ (hc q O)⟩
 ·simp only[upd,e,if_false] at J;exact Z5 Y X rfl (r.blk c k J)
end
theorem Au{ty:Nat}{cs cs':List AV}(r:Zn φ M0 N D T h a w)(hb:h b=some (.box ty cs))(hc:∀c:Array Value,w.heap[φ b]?=some (.cells c ty (0,0))→Qi φ h w (MM φ h M0) cs' c.toList) :
  Zn φ M0 N D T (upd h b (.box ty cs')) a w:=by
 have O:∀x o v,w.cell? ⟨x,o,none⟩=some v→¬MM φ h M0 x o→w.cell? ⟨x,o,none⟩=some v∧¬MM φ (upd h b (.box ty cs')) M0 x o:=fun x o v W J=>⟨W,fun U=>J (U.imp (NK hb x o) id)⟩
 exact⟨r.dfs.keep (DZ hb),r.siz,iC hb r.hp hc,fun t x G=>⟨(r.tm t x G).1,(QH O (DY hb)).1 _ _ (r.tm t x G).2⟩⟩
theorem MN{α:Type}{f:Nat→Bool}:∀{H:List (Nat×α)} {c:Nat},f c=true→look (H.filter fun p=>f p.1) c=look H c
|[],c,_=>rfl
|(d,q)::H,c,hf=>by
  by_cases e:d=c
  ·subst e;rw[List.filter_cons_of_pos (by simpa using hf)];simp[look]
  ·by_cases G:f d=true
   ·rw[List.filter_cons_of_pos (by simpa using G)];simp only[look,e,if_false];exact MN hf
   ·rw[List.filter_cons_of_neg (by simpa using G)];simp only[look,e,if_false];exact MN hf
def Oa(t:Nat)(s G:St):Bool:=okT (look G.H) G.T&&tY (look G.H) G.H&&Ym (look G.H) (s.H.filter fun p=>p.1 != t)&&(look G.H t).isNone
def BR(φ:Nat→Nat)(w:World)(t S n:Nat)(M0:ZK):ZK:=fun r o=>M0 r o∨(r=φ t∧n*S≤o∧r<w.heap.size)
theorem jv{t ty S:Nat}{K:GA}(r:Zn φ M0 N D (look s.T) (look s.H) a w)(ac:look s.H t=some (.arr ty S n))(hok:Oa t s (shr K s)=true) :
  Zn φ (BR φ w t S n M0) N D (look (shr K s).T) (look (shr K s).H) a w∧(∀x v,Kv (look (shr K s).H) x=true→Qe φ (look s.H) w (MM φ (look s.H) M0) x v→Qe φ (look (shr K s).H) w (MM φ (look (shr K s).H) (BR φ w t S n M0)) x v)∧(∀b k',look (shr K s).H b=some k'→∃k,look s.H b=some k∧leB k k') ∧
  (∀r o,MM φ (look (shr K s).H) (BR φ w t S n M0) r o→MM φ (look s.H) M0 r o):=by
 simp only[Oa,ZG] at hok;obtain⟨⟨⟨af,ai⟩,hK⟩,ab⟩:=hok;have hT:IK (look s.T) (look (shr K s).H) (shr K s).T:=G6 af;have hH:Bz (look s.H) (look (shr K s).H) (shr K s).H:=Vw ai;generalize shr K s=s' at *;have aj:look s'.H t=none:=by cases e:look s'.H t with|none=>rfl|some x=>rw[e] at ab;cases ab
 have hh:∀b k',look s'.H b=some k'→∃k,look s.H b=some k∧leB k k':=fun b k' hb=>(JX hH b k' hb).1
 have ae:∀r o,TK φ (look s'.H) r o→TK φ (look s.H) r o:=by
  rintro x o ⟨b,k',W,G,O⟩;obtain⟨k,U,h5⟩:=hh b k' W;refine⟨b,k,U,G,?_⟩;cases k with
 |arr ty S n=>simp only[leB] at h5;subst h5;exact O
 |_=>trivial
 have hM:∀r o,MM φ (look s'.H) (BR φ w t S n M0) r o→MM φ (look s.H) M0 r o:=by
  rintro x o (h|h|⟨rfl,h,_⟩)
  ·exact .inl (ae x o h)
  ·exact .inr h
  ·exact .inl ⟨t,_,ac,rfl,h⟩
 have J:∀b,look s'.H b≠none→look s.H b≠none:=fun b hb=>by
  cases hq:look s'.H b with
 |none=>exact absurd hq hb
 |some k'=>obtain⟨k,W,_⟩:=hh b k' hq;rw[W];simp
 obtain⟨c1,c2⟩:=NC (φ:=φ) (w:=w) hM hh
 have aa:∀b,look s'.H b≠none→φ b≠φ t:=by
  intro b hb e;have:=r.hp.inj b t (J b hb) (by rw[ac];simp) e;rw[this,aj] at hb;exact hb rfl
 have ah:ZN φ (look s'.H) w (BR φ w t S n M0):=by
  refine⟨fun b c hb hc=>r.hp.inj b c (J b hb) (J c hc),fun b k' hb=>?_,fun b hb o hm=>?_,fun x o Y=>?_,r.hp.gm.sub hM⟩
  ·obtain⟨⟨k,W,G⟩,O⟩:=JX hH b k' hb;have U:=r.hp.blk b k W;cases k with
  |box ty cs =>
    simp only[leB] at G;obtain⟨cs',rfl,h5⟩:=G;obtain⟨c,h6,h7⟩:=U;exact⟨c,h6,c2 _ _ O (Xc.2 _ _ _ h5 h7)⟩
  |arr ty S n=>simp only[leB] at G;subst G;exact U
  |vec ty S es =>
    simp only[leB] at G;subst G;obtain⟨c,cap,g1,g2,g3,g4,g5,g6,g7⟩:=U;exact⟨c,cap,g1,g2,g3,g4,g5,g6,c2 _ _ (NB _ _) g7⟩
  |lp T nf st pd =>
    simp only[leB] at G;subst G;obtain⟨tmps,d,g1,g2,g3⟩:=U;exact⟨tmps,d,g1,g2,fun t x ht=>⟨(g3 t x ht).1,c1 _ _ (Hu O ht) (g3 t x ht).2⟩⟩
  |mp es =>
    simp only[leB] at G;subst G;obtain⟨en,cl,g1,g2,g3⟩:=U;exact⟨en,cl,g1,g2,c2 _ _ (Rw _ _) g3⟩
  |mf es =>
    simp only[leB] at G;subst G;obtain⟨en,cl,g1,g2,g3,g5⟩:=U;exact⟨en,cl,g1,g2,c2 _ _ (Jj O) g3,g5⟩
  |mg en cl es =>
    simp only[leB] at G;subst G;obtain⟨g1,g2,g3,g5⟩:=U;exact⟨g1,g2,c2 _ _ (Jj O) g3,g5⟩
  |it m cl sn =>
    simp only[leB] at G;subst G;obtain⟨g1,k0,g2,g3⟩:=U;obtain⟨km,Z⟩:=RY.1 O;obtain⟨k1,g5,g6⟩:=hh m km Z;rw[g2] at g5;cases g5;exact⟨g1,km,Z,Ud g6 g3⟩
  ·rcases hm with hm|⟨hm,_⟩
   ·exact r.hp.fr b (J b hb) o hm
   ·exact aa b hb hm
  ·rcases Y with Y|⟨rfl,_,Y⟩
   ·exact r.hp.lt x o Y
   ·exact Y
 have ad:Marks φ D (look s'.H) a w:=by
  obtain⟨h0,ms,W,G,O⟩:=r.dfs;exact⟨h0,ms,W,G,fun x Y=>⟨(O x Y).1,(O x Y).2.1,fun b hb=>(O x Y).2.2 b (J b hb)⟩⟩
 refine⟨⟨ad,r.siz,ah,fun t x ht=>?_⟩,c1,hh,hM⟩;obtain⟨y,W,G,O⟩:=Bf hT t x ht;exact⟨(r.tm t y W).1,c1 _ _ O (Xc.1 _ _ _ G (r.tm t y W).2)⟩
def qH(b k t:Nat)(x:AV)(q:Blk)(s:St):St:=⟨s.T,(t,q)::s.H.map fun p=>if p.1=b then(p.1,rA k x p.2) else p⟩
def cellAt(b k:Nat)(s:St):Option AV:=(look s.H b).bind fun q=>match q with|.box _ cs=>cs[k]?|_=>none
def Qet(b k t:Nat)(x:AV)(q:Blk)(u:Value)(K:St→Prop):St→Prop:=fun s'=>cellAt b k s'=some (.p (.val u))∧look s'.H t=none∧K (qH b k t x q s')
theorem Hy{k:Nat}{x:AV}(h:cellAt b k s=some x):∃ty cs,look s.H b=some (.box ty cs)∧cs[k]?=some x:=by
 obtain⟨y,J,G⟩:=PS.1 h;split at G
 ·exact⟨_,_,J,G⟩
 ·cases G
theorem jw{a':Act}{k t ty S:Nat}{es:List (List PV)}{u:Value}{K:GA}(r:Zn φ M0 N D (look s.T) (look s.H) a w)(ac:look s.H t=some (.arr ty S n))(hok:Oa t s (shr K s)=true)(hn:es.length=n)(a7:¬b=t)(ao:Qe φ (look s.H) w (MM φ (look s.H) M0) (.tsl S es t) u)(hc:cellAt b k s'=some (.p (.val u)))(bd:look s'.H t=none)(r':Zn φ' (BR φ w t S n M0) N D (look s'.T) (look s'.H) a' w')(E':Q8 φ (look (shr K s).H) w φ' (look s'.H) w') :
  ∃ad,Zn ad M0 N D (look (qH b k t (.tsl S es t) (.arr ty S n) s').T) (look (qH b k t (.tsl S es t) (.arr ty S n) s').H) a' w'∧Q8 φ (look s.H) w ad (look (qH b k t (.tsl S es t) (.arr ty S n) s').H) w' ∧
   ∀x v,Qe φ' (look s'.H) w' (MM φ' (look s'.H) (BR φ w t S n M0)) x v→Qe ad (look (qH b k t (.tsl S es t) (.arr ty S n) s').H) w' (MM ad (look (qH b k t (.tsl S es t) (.arr ty S n) s').H) M0) x v:=by
 obtain⟨rd,_,hh,bb⟩:=jv r ac hok;simp only[Oa,ZG] at hok;obtain⟨⟨⟨be,bf⟩,hK⟩,ax⟩:=hok;obtain⟨MV,cs,hb,a8⟩:=Hy hc
 have hH:look (qH b k t (.tsl S es t) (.arr ty S n) s').H=upd (upd (look s'.H) b (.box MV (cs.set k (.tsl S es t)))) t (.arr ty S n):=by
  funext c;simp only[qH,look];rw[Bn];by_cases e:t=c
  ·simp[upd,e]
  ·by_cases W:b=c
   ·subst W;simp[upd,e,hb,rA]
   ·simp[upd,e,W]
 rw[hH];show ∃ad,Zn ad M0 N D (look s'.T) _ a' w'∧_;obtain⟨tf,aq⟩:∃tf,tf=if φ t<w.heap.size then φ t else w'.heap.size+((s'.H.map (·.1)).map φ').foldr max 0+1:=⟨_,rfl⟩
 have U:φ t<w.heap.size→tf=φ t:=fun h=>by rw[aq,if_pos h]
 have af:¬φ t<w.heap.size→w'.heap.size≤tf:=fun h=>by rw[aq,if_neg h];omega
 have aw:¬φ t<w.heap.size→n=0:=fun h=>by
  rcases r.hp.blk t _ ac with h0|⟨c,cap,Y,_⟩
  ·exact h0.1
  ·exact absurd (Ls.1 Y).1 h
 have av:∀c,look s'.H c≠none→φ' c≠tf:=by
  intro c hc e;by_cases hlt:φ t<w.heap.size
  ·rw[U hlt] at e;exact r'.hp.fr c hc (n*S) (.inr ⟨e,Kt _,by rw[e];exact hlt⟩)
  ·have:=Gz ((s'.H.map (·.1)).map φ') (φ' c) (List.mem_map_of_mem (YB.1 hc));rw[aq,if_neg hlt] at e;omega
 have aa:φ t<w.heap.size→w'.heap[φ t]?=w.heap[φ t]?:=fun hlt=>E'.same (φ t) hlt fun c hc e=>rd.hp.fr c hc (n*S) (.inr ⟨e,Kt _,by rw[e];exact hlt⟩)
 have a6:∀c,look (shr K s).H c≠none→look s.H c≠none:=fun c hb=>by
  cases hq:look (shr K s).H c with
 |none=>exact absurd hq hb
 |some k'=>obtain⟨k,Y,_⟩:=hh c k' hq;rw[Y];simp
 have ak:∀x o,TK φ (look (shr K s).H) x o→TK φ (look s.H) x o:=by
  rintro x o ⟨c,k',Y,Z,h3⟩;obtain⟨k,h4,h5⟩:=hh c k' Y;refine⟨c,k,h4,Z,?_⟩;cases k with
 |arr ty S n=>simp only[leB] at h5;subst h5;exact h3
 |_=>trivial
 let h0:QN:=upd (upd (look s'.H) b (.box MV (cs.set k (.tsl S es t)))) t (.arr ty S n)
 have an:h0 t=some (.arr ty S n):=by simp[h0,upd]
 have ar:h0 b=some (.box MV (cs.set k (.tsl S es t))):=by simp[h0,upd,Ne.symm a7]
 have ab:∀c,¬t=c→¬b=c→h0 c=look s'.H c:=fun c O W=>by simp[h0,upd,O,W]
 have G:∀c,¬t=c→Qx φ' t tf c=φ' c:=fun c e=>by simp[Qx,e]
 have J:Qx φ' t tf t=tf:=by simp[Qx]
 have ai:∀x o,TK (Qx φ' t tf) h0 x o→TK φ' (look s'.H) x o∨(x=tf∧n*S≤o):=by
  rintro x o ⟨c,q,Y,Z,h3⟩;by_cases O:t=c
  ·subst O;rw[an] at Y;cases Y;rw[J] at Z;exact .inr ⟨Z.symm,h3⟩
  ·rw[G c O] at Z;by_cases W:b=c
   ·subst W;exact .inl ⟨b,_,hb,Z,trivial⟩
   ·rw[ab c O W] at Y;exact .inl ⟨c,q,Y,Z,h3⟩
 have az:∀x o,x<w'.heap.size→MM (Qx φ' t tf) h0 M0 x o→MM φ' (look s'.H) (BR φ w t S n M0) x o:=by
  rintro x o hx (h|h)
  ·rcases ai x o h with h|⟨Y,Z⟩
   ·exact .inl h
   ·by_cases hlt:φ t<w.heap.size
    ·rw[U hlt] at Y;exact .inr (.inr ⟨Y,Z,by rw[Y];exact hlt⟩)
    ·have:=af hlt;omega
  ·exact .inr (.inl h)
 have ae:∀c q,look s'.H c=some q→¬t=c:=fun c q hc e=>by subst e;rw[bd] at hc;cases hc
 have ah:∀c q,look s'.H c=some q→b=c→q=.box MV cs:=fun c q hc e=>by subst e;rw[hb] at hc;exact(Option.some.inj hc).symm
 have X:Y4 φ' (look s'.H) w' (Qx φ' t tf) h0 w':=by
  refine⟨fun c t' cs' hc=>⟨?_,G c (ae c _ hc)⟩,fun c t' S n hc=>?_,fun c t' S n hc=>?_,fun c k' x hc ho=>?_⟩
  ·by_cases e:b=c
   ·subst e;exact⟨_,_,ar⟩
   ·exact⟨t',cs',by rw[ab c (ae c _ hc) e];exact hc⟩
  ·have e:¬b=c:=fun e=>by cases ah c _ hc e
   exact⟨n,by rw[ab c (ae c _ hc) e];exact hc,Kt _,fun _=>Yz (G c (ae c _ hc)) rfl⟩
  ·have e:¬b=c:=fun e=>by cases ah c _ hc e
   exact⟨n,by rw[ab c (ae c _ hc) e];exact hc,Kt _,fun _=>⟨G c (ae c _ hc),fun c bc=>⟨c,bc,rfl⟩⟩⟩
  ·have e:¬b=c:=fun e=>by rw[ah c _ hc e] at ho;cases ho
   exact⟨⟨k',by rw[ab c (ae c _ hc) e];exact hc,ho⟩,G c (ae c _ hc)⟩
 have aj:∀x o v,w'.cell? ⟨x,o,none⟩=some v→¬MM φ' (look s'.H) (BR φ w t S n M0) x o→w'.cell? ⟨x,o,none⟩=some v∧¬MM (Qx φ' t tf) h0 M0 x o:=fun x o v Y Z=>⟨Y,fun hm=>Z (az x o (CU Y) hm)⟩
 have au:Qe (Qx φ' t tf) h0 w' (MM (Qx φ' t tf) h0 M0) (.tsl S es t) u:=by
  simp only[Qe] at ao ⊢;obtain⟨p1,V4,n2,p2,p3,p4⟩:=ao;rw[ac] at p2;cases p2;refine⟨(Z4 (w:=w) (w':=w') (M:=MM φ (look s.H) M0) (fun x o v g1 g2=>?_)).1 _ _ p1,ty,n,an,by omega,fun _=>?_⟩;rotate_left
  ·rcases p4 hn with⟨z1,z2,z3⟩|⟨cap,c2,q1,q2,q3,q4,q5⟩
   ·have hlt:¬φ t<w.heap.size:=fun h=>by have:=AO z3;omega
    exact .inl ⟨z1,z2,by rw[J];exact Z6 (af hlt)⟩
   ·have hlt:φ t<w.heap.size:=(Ls.1 q2).1;exact .inr ⟨cap,c2,by rw[J,U hlt];exact q1,by rw[J,U hlt,aa hlt];exact q2,q3,q4,q5⟩
  obtain⟨g3,g4⟩:=E'.keeps (BR φ w t S n M0) x o v g1 (fun hm=>g2 (bb x o hm));exact aj x o v g3 g4
 refine⟨Qx φ' t tf,⟨?_,r'.siz,⟨?_,?_,?_,fun x o hx=>r'.hp.lt x o (.inl hx),r'.hp.gm.w,fun g hg o hm=>r'.hp.gm.m g hg o (az g o (kw r'.hp.gm.w g hg) hm)⟩,fun c x ay=>⟨(r'.tm c x ay).1,(QH aj X).1 _ _ (r'.tm c x ay).2⟩⟩,?_,(QH aj X).1⟩
 ·obtain⟨g0,ms,g1,g2,g3⟩:=r'.dfs;refine⟨g0,ms,g1,g2,fun x hx=>?_⟩;obtain⟨g4,g5,g6⟩:=g3 x hx;refine⟨g4,g5,fun c hc e=>?_⟩;by_cases O:t=c
  ·subst O;rw[J] at e;by_cases hlt:φ t<w.heap.size
   ·rw[U hlt] at e;rcases r.hp.blk t _ ac with⟨_,q1⟩|⟨c2,cap,q1,_⟩
    ·rw[←e,aa hlt,q1] at g5;cases g5
    ·rw[←e,aa hlt,q1] at g5;cases g5
   ·have Y:=af hlt;have Z:=(Ls.1 g5).1;omega
  ·rw[G c O] at e;refine g6 c ?_ e;by_cases W:b=c
   ·subst W;rw[hb];simp
   ·rw[←ab c O W];exact hc
 ·have al:∀c,h0 c≠none→¬t=c→look s'.H c≠none:=fun c hc O=>by
   by_cases W:b=c
   ·subst W;rw[hb];simp
   ·rw[←ab c O W];exact hc
  intro c d hc hd e;by_cases O:t=c<;>by_cases W:t=d
  ·exact O.symm.trans W
  ·subst O;rw[J,G d W] at e;exact absurd e.symm (av d (al d hd W))
  ·subst W;rw[J,G c O] at e;exact absurd e (av c (al c hc O))
  ·rw[G c O,G d W] at e;exact r'.hp.inj c d (al c hc O) (al d hd W) e
 ·intro c q hc;by_cases O:t=c
  ·subst O;have:q=.arr ty S n:=Option.some.inj (hc.symm.trans an);subst this;rw[J];by_cases hlt:φ t<w.heap.size
   ·rw[U hlt];rcases r.hp.blk t _ ac with⟨q0,q1⟩|⟨c2,cap,q1,q2⟩
    ·exact .inl ⟨q0,by rw[aa hlt];exact q1⟩
    ·exact .inr ⟨c2,cap,by rw[aa hlt];exact q1,q2⟩
   ·exact .inl ⟨aw hlt,Z6 (af hlt)⟩
  ·rw[G c O];by_cases W:b=c
   ·subst W;have:q=.box MV (cs.set k (.tsl S es t)):=Option.some.inj (hc.symm.trans ar);subst this;obtain⟨c1,g1,g2⟩:=r'.hp.blk b _ hb;obtain⟨u',g3,g4⟩:=UU g2 a8;simp only[Qe,QM] at g4;subst g4;exact⟨c1,g1,XJ ((QH aj X).2 _ _ g2) g3 au⟩
   ·have hc':look s'.H c=some q:=by rw[←ab c O W];exact hc
    exact Z5 aj X rfl (r'.hp.blk c q hc')
 ·intro c hc o hm;by_cases O:t=c
  ·subst O;rw[J] at hm;by_cases hlt:φ t<w.heap.size
   ·rw[U hlt] at hm;exact r.hp.fr t (by rw[ac];simp) o hm
   ·have Y:=af hlt;have Z:=r'.hp.lt _ _ (.inl hm);omega
  ·rw[G c O] at hm;refine r'.hp.fr c ?_ o (.inl hm);by_cases W:b=c
   ·subst W;rw[hb];simp
   ·rw[←ab c O W];exact hc
 ·have am:∀c q,1000≤c→¬t=c→look s.H c=some q→∃q',look (shr K s).H c=some q'∧leB q q':=by
   intro c q hc O hq
   have hf:look (s.H.filter fun p=>p.1 != t) c=some q:=by
    rw[MN (f:=fun x=>x != t) (by simpa using fun e=>O e.symm)];exact hq
   obtain⟨q',Y⟩:=K7 hK c _ hc hf;obtain⟨q2,Z,h3⟩:=hh c q' Y;rw[hq] at Z;cases Z;exact⟨q',Y,h3⟩
  refine⟨E'.os,E'.tape,E'.output,E'.size,fun x hx ax=>E'.same x hx (fun c hc=>ax c (a6 c hc)),fun x o hx hm=>E'.cell x o hx (fun h=>hm (ak x o h)),?_,?_,?_,?_,?_⟩
  ·intro x o hx hm;rcases ai x o hm with h|⟨Y,h⟩
   ·exact ak x o (E'.mu x o hx h)
   ·by_cases hlt:φ t<w.heap.size
    ·rw[U hlt] at Y;exact⟨t,_,ac,Y.symm,h⟩
    ·have:=af hlt;have:=E'.size;omega
  ·intro c t' q hc hq;have O:¬t=c:=fun e=>by subst e;rw[ac] at hq;cases hq
   obtain⟨q',Y,Z⟩:=am c _ hc O hq;simp only[leB] at Z;obtain⟨cs',rfl,_⟩:=Z;obtain⟨⟨ba,h3⟩,h4⟩:=E'.kb c t' cs' hc Y;refine⟨?_,by rw[G c O];exact h4⟩;by_cases W:b=c
   ·subst W;rw[hb] at h3;cases h3;exact⟨_,ar⟩
   ·exact⟨ba,(ab c O W).trans h3⟩
  ·intro c t' S' n' hc hq;by_cases O:t=c
   ·subst O;rw[ac] at hq;cases hq;refine⟨n,an,Kt _,fun _=>?_⟩;by_cases hlt:φ t<w.heap.size
    ·exact Yz (J.trans (U hlt)) (aa hlt)
    ·exact Me (Z6 zo) (by rw[J];exact Z6 (af hlt))
   ·obtain⟨q',Y,Z⟩:=am c _ hc O hq;simp only[leB] at Z;subst Z;obtain⟨n2,h3,h4,h5⟩:=E'.kt c t' S' n' hc Y;have W:¬b=c:=fun e=>by cases ah c _ h3 e
    exact⟨n2,(ab c O W).trans h3,h4,fun e=>by rw[G c O];exact h5 e⟩
  ·intro c t' S' es' hc hq;have O:¬t=c:=fun e=>by subst e;rw[ac] at hq;cases hq
   obtain⟨q',Y,Z⟩:=am c _ hc O hq;simp only[leB] at Z;subst Z;obtain⟨n2,h3,h4,h5⟩:=E'.kv c t' S' es' hc Y;have W:¬b=c:=fun e=>by cases ah c _ h3 e
   exact⟨n2,(ab c O W).trans h3,h4,fun e=>⟨by rw[G c O];exact(h5 e).1,(h5 e).2⟩⟩
  ·intro c q x hc hq ho;have O:¬t=c:=fun e=>by subst e;rw[ac] at hq;cases hq;cases ho
   obtain⟨q',Y,Z⟩:=am c _ hc O hq;obtain⟨⟨q2,h3,h4⟩,h5⟩:=E'.ko c q' x hc Y (Ud Z ho);have W:¬b=c:=fun e=>by rw[ah c _ h3 e] at h4;cases h4
   exact⟨⟨q2,(ab c O W).trans h3,h4⟩,by rw[G c O];exact h5⟩
section
variable {R:Type}{a:Option R}{P:Program}{N:Nat}{f:FuncId}{args:List AV}{dst:Option Tmp}{s:St}{K:R→St→Prop}{Q:R→AX→St→Prop}
def Qeu{R:Type}(b k t:Nat)(x:AV)(q:Blk)(u:Value)(K:R→St→Prop):R→St→Prop:=fun r=>Qet b k t x q u (K r)
def Qev{R:Type}(b k t:Nat)(x:AV)(q:Blk)(u:Value)(Q:R→AX→St→Prop):R→AX→St→Prop:=fun r e=>Qet b k t x q u (Q r e)
theorem WV(b k t ty S n:Nat)(es:List (List PV))(C:GA)(hn:es.length=n)(hok:∀O G J,(Oa t (Uj b k (.p (.val (.slice O G J))) s) (shr C (Uj b k (.p (.val (.slice O G J))) s))&&KG (look (shr C (Uj b k (.p (.val (.slice O G J))) s)).H) args)=true)(h:∀O G J,BA a P N f args dst (shr C (Uj b k (.p (.val (.slice O G J))) s)) (Qeu b k t (.tsl S es t) (.arr ty S n) (.slice O G J) K) (Qev b k t (.tsl S es t) (.arr ty S n) (.slice O G J) Q))(hb:cellAt b k s=some (.tsl S es t):=by kernel_rfl)(aa:look s.H t=some (.arr ty S n):=by kernel_rfl):BA a P N f args dst s K Q:=by
 refine⟨fun r hr=>?_⟩;intro φ M0 D J w vs r1 ha;obtain⟨vP,cs,hq,Rl⟩:=Hy hb;obtain⟨c,g1,g2⟩:=r1.hp.blk b _ hq;obtain⟨u,g3,g4⟩:=UU g2 Rl
 have Z:∃O G J,u=.slice O G J:=by
  have g5:=g4;simp only[Qe] at g5;obtain⟨p1,V4,n2,p2,p3,p4⟩:=g5;rw[aa] at p2;cases p2;rcases p4 hn with⟨_,q1,_⟩|⟨cap,c2,q1,_⟩
  ·exact⟨_,_,_,q1⟩
  ·exact⟨_,_,_,q1⟩
 obtain⟨O,G,ai,Z⟩:=Z;have ad:¬b=t:=fun e=>by subst e;rw[hq] at aa;cases aa
 have hU:look (Uj b k (.p (.val u)) s).H=upd (look s.H) b (.box vP (cs.set k (.p (.val u)))):=NJ hq;have hk:∀x o v,w.cell? ⟨x,o,none⟩=some v→¬MM φ (look s.H) M0 x o→w.cell? ⟨x,o,none⟩=some v∧¬MM φ (upd (look s.H) b (.box vP (cs.set k (.p (.val u))))) M0 x o:=fun x o v g1 g2=>⟨g1,fun hm=>g2 (hm.imp (NK hq x o) id)⟩
 have r2:Zn φ M0 N D (look (Uj b k (.p (.val u)) s).T) (look (Uj b k (.p (.val u)) s).H) J w:=by
  rw[hU];refine Au r1 hq fun c2 ah=>?_
  rw[g1] at ah;cases ah;exact XJ g2 g3 (by simp[Qe,QM])
 have ae:look (Uj b k (.p (.val u)) s).H t=some (.arr ty S n):=by rw[hU];simp[upd,ad,aa]
 have ab:Qe φ (look (Uj b k (.p (.val u)) s).H) w (MM φ (look (Uj b k (.p (.val u)) s).H) M0) (.tsl S es t) u:=by
  rw[hU];exact(QH hk (DY hq)).1 _ _ g4
 have E1:Q8 φ (look s.H) w φ (look (Uj b k (.p (.val u)) s).H) w:=by rw[hU];exact DZ hq
 have ak:Qi φ (look (Uj b k (.p (.val u)) s).H) w (MM φ (look (Uj b k (.p (.val u)) s).H) M0) args vs:=by
  rw[hU];exact(QH hk (DY hq)).2 _ _ ha
 have Y:=hok O G ai;rw[←Z] at Y;simp only[ZG] at Y;obtain⟨W,af⟩:=Y;obtain⟨r3,c1,hh,am⟩:=jv r2 ae W;have aj:=(NC (φ:=φ) (w:=w) am hh).2 _ _ af ak;have hu:=h O G ai;rw[←Z] at hu;refine Calls.mono (hu.h r hr φ _ D J w vs r3 aj) fun e w' he=>?_
 cases e with
|returned v =>
  obtain⟨φ',s',⟨k1,k2,k3⟩,r',E'⟩:=he;obtain⟨U,r4,E4,_⟩:=jw r2 ae W hn ad ab k1 k2 r' E';exact⟨U,_,k3,r4,E1.trans E4⟩
|panicked chain =>
  obtain⟨φ',x,s',⟨k1,k2,k3⟩,r',E',hx⟩:=he;obtain⟨U,r4,E4,hX⟩:=jw r2 ae W hn ad ab k1 k2 r' E';refine⟨U,x,_,k3,r4,E1.trans E4,?_⟩;cases x with
 |panic v =>
   obtain⟨y,e1,e2⟩:=hx;exact⟨y,e1,hX _ _ e2⟩
 |_=>exact hx
|outgrown=>exact he
theorem XK{k t:Nat}{x:AV}{q:Blk}{u:Value}(s0:St)(e:qH b k t x q s'=s0)(h:TW a K s0)(hb:cellAt b k s'=some (.p (.val u)):=by kernel_rfl)(G:look s'.H t=none:=by kernel_rfl):TW a (Qeu b k t x q u K) s':=by
 subst e;exact⟨fun r J=>⟨hb,G,h.h r J⟩⟩
theorem QfA{k t:Nat}{x:AV}{q:Blk}{u:Value}{ex:AX}(s0:St)(e:qH b k t x q s'=s0)(hb:cellAt b k s'=some (.p (.val u)))(G:look s'.H t=none)(h:ZC a Q ex s0):ZC a (Qev b k t x q u Q) ex s':=by
 subst e;exact⟨fun r J=>⟨hb,G,h.h r J⟩⟩
end
section
variable {P:Program}{o:Oper}{T:Nat→Option AV}{h:QN}
theorem jy(l:List UInt8)(a b:Nat):(Je l).extract a b=Je ((l.take b).drop a):=by
 apply ByteArray.ext;simp[Je,ByteArray.data_extract,List.drop_take]
theorem iD(l:List UInt8):(Je l).size=l.length:=by simp[Je,ByteArray.size]
theorem Y7{P:Program}{s:Sem α}{a:α}(f:α→Sem β)(h:YN P s=some a):YN P (s >>= f)=YN P (f a):=by
 induction s with
|pure b=>simp only[YN,QW] at h;subst h;rfl
|program k G=>exact G P h
|mark m k G=>exact G h
|_=>simp[YN] at h
theorem BU{t:TypeId}{d:TypeDesc}(h:P.underlying t=some d):YN P (underlying t)=some d:=by
 unfold underlying;rw[Y7 (a:=P) _ rfl,h];rfl
theorem NL{k:IntKind}{i:Int}{y:Nat}{c:BoundsCode}(h0:0≤i)(G:i≤y):YN P (Instr.sliceBound (.int k i) y c)=some i.toNat:=by
 simp[Instr.sliceBound,asIntOf,h0,G];rfl
def tZ(T:Nat→Option AV)(x:Option Operand):Option Value:=x.map fun y=>(known T y).getD undef
theorem Ob{d n:Int}(h:DT T d (some x)=some n):∃k,known T x=some (.int k n):=by
 simp only[DT] at h;split at h
 ·rename_i k m G;cases h;exact⟨k,by simp[known,G];rfl⟩
 ·cases h
theorem rC{a b:Int}(G:DT T 0 lo=some a)(J:DT T len hi=some b)(h0:0≤a)(Y:a≤b)(W:b≤len):YN P (Instr.sliceBounds false len len (tZ T lo) (tZ T hi) none)=some (a.toNat,b.toNat,len):=by
 have hb:(b.toNat:Int)=b:=by omega
 cases hi with
|none =>
  simp only[DT,QW] at J;subst J;cases lo with
 |none =>
   simp only[DT,QW] at G;subst G;simp[Instr.sliceBounds,tZ];rfl
 |some x =>
   obtain⟨k,U⟩:=Ob G;simp only[Instr.sliceBounds,tZ,Option.map_some,Option.map_none,U,Option.getD_some,pure_bind];rw[Y7 _ (NL h0 Y)];rfl
|some y =>
  obtain⟨k',O⟩:=Ob J;cases lo with
 |none =>
   simp only[DT,QW] at G;subst G;simp only[Instr.sliceBounds,tZ,Option.map_some,Option.map_none,O,Option.getD_some,pure_bind];rw[Y7 _ (NL zo W)];rfl
 |some x =>
   obtain⟨k,U⟩:=Ob G;simp only[Instr.sliceBounds,tZ,Option.map_some,U,O,Option.getD_some,pure_bind];rw[Y7 _ (NL zo W)];rw[Y7 _ (NL h0 zo)];rfl
theorem MO{t:TypeId}{l:List UInt8}{a b:Int}(Y:o.op=.slice t x lo hi none)(Z:P.underlying t=some .string)(hx:Zo T x=some (.p (.val (.string (Je l)))))(U:DT T 0 lo=some a)(O:DT T l.length hi=some b)(hc:sliceB a b l.length=true):Jy P o T h=some (.p (.val (.string (Je ((l.take b.toNat).drop a.toNat)))),none,[]):=by
 simp only[sliceB,Fh] at hc;obtain⟨c1,c2,c3⟩:=hc;have h1:Fx P T t x lo hi none=none:=by simp[Fx,Z,hx]
 have G:known T x=some (.string (Je l)):=by simp[known,hx];rfl
 have J:(allKnown T o.op.operands.toList&&XT o.op)=true:=by
  rw[Y]
  have e1:∀y,lo=some y→(known T y).isSome=true:=by
   rintro y rfl;obtain⟨k,G⟩:=Ob U;rw[G];rfl
  have e2:∀y,hi=some y→(known T y).isSome=true:=by
   rintro y rfl;obtain⟨k,G⟩:=Ob O;rw[G];rfl
  cases lo with
 |none =>
   cases hi with
  |none=>simp[Op.operands,allKnown,XT,G]
  |some y=>simp[Op.operands,allKnown,XT,G,e2 y rfl]
 |some x =>
   cases hi with
  |none=>simp[Op.operands,allKnown,XT,G,e1 x rfl]
  |some y=>simp[Op.operands,allKnown,XT,G,e1 x rfl,e2 y rfl]
 have W:YN P (execOp (fun x=>(known T x).getD undef) o)=some (.value (.string (Je ((l.take b.toNat).drop a.toNat)))):=by
  unfold execOp;rw[Y];dsimp only
  have:YN P (Instr.sliceAt t ((known T x).getD undef) (tZ T lo) (tZ T hi) none)=some (.string (Je ((l.take b.toNat).drop a.toNat))):=by
   rw[G];unfold Instr.sliceAt;rw[Y7 _ (BU Z)];show YN P (Instr.slice t (.string (Je l)) (tZ T lo) (tZ T hi) none)=_;unfold Instr.slice;rw[Y7 _ (BU Z)];have hB:=rC (P:=P) (T:=T) U O c1 c2 c3;rw[←iD l] at hB
   have:YN P (Instr.sliceBounds false (Je l).size (Je l).size (tZ T lo) (tZ T hi) none >>= fun x=>(pure (.string ((Je l).extract x.1 x.2.1)):Sem Value))=some (.string (Je ((l.take b.toNat).drop a.toNat))):=by
    rw[Y7 _ hB,jy];rfl
   exact this
  exact(Y7 _ this)
 simp only[Jy,Y,h1,TL];unfold Gs;rw[if_pos J,W];rfl
end
def Qcs:AV→Bool|.p (.val (.slice none 0 0))=>true|.vnil=>true|_=>false
theorem jA{x:AV}(G:Qcs x=true)(J:Qe φ h w M x v):v=.slice none 0 0:=by
 unfold Qcs at G;split at G
 ·simpa [Qe,QM] using J
 ·simpa [Qe] using J
 ·cases G
def pnC(S t:Nat):List (Nat×Nat)→St→St|[],s=>s|(b,k)::l,s=>pnC S t l (Uj b k (.tsl S [] t) s)
def Qct(S t:Nat):List (Nat×Nat)→St→Bool
|[],_=>true
|(b,k)::l,s=>(match cellAt b k s with|some x=>Qcs x|none=>false)&&Qct S t l (Uj b k (.tsl S [] t) s)
def pnS(ty S t:Nat)(ts:List Nat)(bs:List (Nat×Nat))(s:St):St:=pnC S t bs ⟨ts.map (fun x=>(x,AV.tsl S [] t))++s.T,(t,.arr ty S 0)::s.H⟩
def QhC(ty S t:Nat)(ts:List Nat)(bs:List (Nat×Nat))(s:St):Bool :=
 (look s.H t).isNone&&ts.all (fun x=>match look s.T x with|some v=>Qcs v|none=>false)&&Qct S t bs ⟨ts.map (fun x=>(x,AV.tsl S [] t))++s.T,(t,.arr ty S 0)::s.H⟩
def Qcu(φ:Nat→Nat)(h:QN)(w:World)(ty S t:Nat):Prop:=w.heap[φ t]?=none∧h t=some (.arr ty S 0)
theorem iE{ty S t:Nat}(p:Qcu φ h w ty S t):Qe φ h w M (.tsl S [] t) (.slice none 0 0):=by
 simp only[Qe,QM];exact⟨.inr ⟨trivial,none,0,rfl⟩,ty,0,p.2,Kt _,fun _=>.inl (by simp[p.1])⟩
theorem iF{N:Nat}{D:DB}{φ:Nat→Nat}{M0:ZK}{a:Act}{w:World}{ty S t:Nat}:∀(bs:List (Nat×Nat)) (s:St),Qct S t bs s=true→Qcu φ (look s.H) w ty S t→Zn φ M0 N D (look s.T) (look s.H) a w →
  Zn φ M0 N D (look (pnC S t bs s).T) (look (pnC S t bs s).H) a w∧Q8 φ (look s.H) w φ (look (pnC S t bs s).H) w
|[],s,_,_,r=>⟨r,Q8.refl _ _ _⟩
|(b,k)::bs,s,h,p,r=>by
  simp only[Qct,ZG] at h;obtain⟨J,Y⟩:=h;cases hc:cellAt b k s with
 |none=>rw[hc] at J;cases J
 |some x =>
   rw[hc] at J;obtain⟨vP,cs,hb,O⟩:=Hy hc;have U:=NJ (k:=k) (x:=.tsl S [] t) hb;have W:¬b=t:=fun e=>by rw[e,p.2] at hb;cases hb
   have p':Qcu φ (look (Uj b k (.tsl S [] t) s).H) w ty S t:=⟨p.1,by rw[U];simp[upd,W,p.2]⟩
   have r':Zn φ M0 N D (look (Uj b k (.tsl S [] t) s).T) (look (Uj b k (.tsl S [] t) s).H) a w:=by
    rw[U];refine Au r hb fun c G=>?_
    obtain⟨c0,g1,g2⟩:=r.hp.blk b _ hb;rw[g1] at G;cases G;obtain⟨u,g3,g4⟩:=UU g2 O;rw[jA J g4] at g3;exact XJ g2 g3 (iE p)
   obtain⟨Z,E2⟩:=iF bs (Uj b k (.tsl S [] t) s) Y p' r';have E1:Q8 φ (look s.H) w φ (look (Uj b k (.tsl S [] t) s).H) w:=by rw[U];exact DZ hb
   exact⟨Z,E1.trans E2⟩
theorem jB{S t:Nat}{T:List (Nat×AV)}:∀(ts:List Nat) (x:Nat),look (ts.map (fun x=>(x,AV.tsl S [] t))++T) x=if x∈ts then some (.tsl S [] t) else look T x
|[],x=>by simp
|y::ts,x=>by
  simp only[Yy,List.cons_append,look,List.mem_cons];by_cases e:y=x
  ·simp[e]
  ·have G:¬x=y:=fun h=>e h.symm
   simp only[e,G,if_false,false_or];exact jB ts x
theorem K4(ty S t:Nat)(ts:List Nat)(bs:List (Nat×Nat))(hok:QhC ty S t ts bs s=true:=by kernel_rfl):Weak N s (pnS ty S t ts bs s):=by
 intro φ M0 D a w r;simp only[QhC,ZG] at hok;obtain⟨⟨h1,h2⟩,h3⟩:=hok;have hn:look s.H t=none:=by cases e:look s.H t with|none=>rfl|some x=>rw[e] at h1;cases h1
 obtain⟨f,hf⟩:∃f,f=w.heap.size+((s.H.map (·.1)).map φ).foldr max 0+1:=⟨_,rfl⟩
 have ab:∀c,look s.H c≠none→φ c≠f:=by
  intro c hc e;have:=Gz ((s.H.map (·.1)).map φ) (φ c) (List.mem_map_of_mem (YB.1 hc));omega
 have aa:w.heap.size≤f:=by omega
 have hne:∀c q,look s.H c=some q→¬t=c:=fun c q hc e=>by rw[e] at hn;rw[hn] at hc;cases hc
 have G:Qx φ t f t=f:=by simp[Qx]
 have X:Y4 φ (look s.H) w (Qx φ t f) (upd (look s.H) t (.arr ty S 0)) w:=by
  refine⟨fun c O cs' hc=>?_,fun c O S n hc=>?_,fun c O S n hc=>?_,fun c k' x hc ho=>?_⟩
  ·have:=hne c _ hc;exact⟨⟨O,cs',by simp[upd,this,hc]⟩,by simp[Qx,this]⟩
  ·have:=hne c _ hc;exact⟨n,by simp[upd,this,hc],Kt _,fun _=>Yz (by simp[Qx,this]) rfl⟩
  ·have:=hne c _ hc;exact⟨n,by simp[upd,this,hc],Kt _,fun _=>⟨by simp[Qx,this],fun c ac=>⟨c,ac,rfl⟩⟩⟩
  ·have:=hne c _ hc;exact⟨⟨k',by simp[upd,this,hc],ho⟩,by simp[Qx,this]⟩
 have Z:∀x o,x<w.heap.size→TK (Qx φ t f) (upd (look s.H) t (.arr ty S 0)) x o→TK φ (look s.H) x o:=by
  rintro x o U ⟨c,q,g1,g2,g3⟩;by_cases e:t=c
  ·simp only[Qx,e,if_true] at g2;omega
  ·simp only[upd,Qx,e,if_false] at g1 g2;exact⟨c,q,g1,g2,g3⟩
 have E:Q8 φ (look s.H) w (Qx φ t f) (upd (look s.H) t (.arr ty S 0)) w :=
  ⟨rfl,rfl,rfl,Kt _,fun _ _ _=>rfl,fun _ _ _ _=>rfl,fun x o U J=>Z x o U J,
   fun c O cs _ hc=>by have:=hne c _ hc;exact⟨⟨cs,by simp[upd,this,hc]⟩,by simp[Qx,this]⟩,fun c O S n _ hc=>X.t c O S n hc,fun c O S n _ hc=>X.v c O S n hc,fun c k x _ hc ho=>X.o c k x hc ho⟩
 have hp:ZN (Qx φ t f) (upd (look s.H) t (.arr ty S 0)) w M0:=by
  refine⟨fun c d hc hd e=>?_,fun c q hc=>?_,fun c hc o J=>?_,r.hp.lt,r.hp.gm.evol E⟩
  ·by_cases Y:t=c<;>by_cases W:t=d
   ·exact Y.symm.trans W
   ·have e3:¬c=d:=fun x=>W (Y.trans x)
    simp only[Qx,Y,if_true,e3,if_false] at e;simp only[upd,W,if_false] at hd;exact absurd e.symm (ab d hd)
   ·have e3:¬d=c:=fun x=>Y (W.trans x)
    simp only[Qx,W,if_true,e3,if_false] at e;simp only[upd,Y,if_false] at hc;exact absurd e (ab c hc)
   ·simp only[Qx,Y,W,if_false] at e;simp only[upd,Y,W,if_false] at hc hd;exact r.hp.inj c d hc hd e
  ·by_cases e:t=c
   ·have:q=.arr ty S 0:=by simpa [upd,e] using hc.symm
    subst this;rw[←e,G];exact .inl ⟨rfl,Z6 aa⟩
   ·have hc':look s.H c=some q:=by simpa [upd,e] using hc
    have h3:Qx φ t f c=φ c:=by simp[Qx,e]
    rw[h3];exact Z5 (E.keeps M0) X rfl (r.hp.blk c q hc')
  ·by_cases e:t=c
   ·rw[←e,G] at J;have:=r.hp.lt _ _ J;omega
   ·have h3:Qx φ t f c=φ c:=by simp[Qx,e]
    rw[h3] at J;exact r.hp.fr c (by simpa [upd,e] using hc) o J
 have r1:=r.keep E X hp;have pa:Qcu (Qx φ t f) (upd (look s.H) t (.arr ty S 0)) w ty S t:=⟨by rw[G];exact Z6 aa,by simp[upd]⟩
 let s1:St:=⟨ts.map (fun x=>(x,AV.tsl S [] t))++s.T,(t,.arr ty S 0)::s.H⟩
 have r2:Zn (Qx φ t f) M0 N D (look s1.T) (look s1.H) a w:=by
  refine⟨r1.dfs,r1.siz,r1.hp,fun x v U=>?_⟩;rw[jB] at U;by_cases J:x∈ts
  ·rw[if_pos J] at U;cases U;have h4:=Xb.1 h2 x J;cases hl:look s.T x with
  |none=>rw[hl] at h4;cases h4
  |some y =>
    rw[hl] at h4;obtain⟨g1,g2⟩:=r1.tm x y hl;refine⟨g1,?_⟩;rw[jA h4 g2];exact iE pa
  ·rw[if_neg J] at U;exact r1.tm x v U
 obtain⟨r3,E3⟩:=iF (ty:=ty) bs s1 h3 pa r2;exact⟨_,r3,E.trans E3⟩
section
variable {P:Program}{o:Oper}{T:Nat→Option AV}{h:QN}
def Wq(lo hi G:Int)(len:Nat):Bool:=decide (0≤lo∧lo≤hi∧hi≤G∧G≤len)
theorem UV{t:TypeId}{z:Operand}{S:Nat}{l:List α}{a b c:Int}(ho:o.op=.slice t x lo (some y) (some z))(ht:P.underlying t=some (.slice e))(U:(P.info? e).map (·.size)=some S)(hx:Zo T x=some sv)(hs:elems sv=some (S,List.map enc l))(Z:DT T 0 lo=some a)(O:DT T (List.map enc l).length (some y)=some b)(J:DT T (List.map enc l).length (some z)=some c)(hc:Wq a b c l.length=true):Jy P o T h=some (.p (.sl S (List.map enc ((l.take b.toNat).drop a.toNat))),none,[]):=by
 obtain⟨i,G,W⟩:=GU.1 U;simp only[Wq,Fh] at hc;have h1:=FK (d:=0) Z hc.1;have h2:=FK O zo;have Y:=FK J zo;have h3:a.toNat≤b.toNat:=by omega
 have h4:b.toNat≤l.length:=by omega
 have h5:S=i.size∧a.toNat≤b.toNat∧b.toNat≤(List.map enc l).length:=⟨W.symm,h3,by simpa using h4⟩
 have h6:Fx P T t x lo (some y) (some z)=some (.p (.sl S (((List.map enc l).take b.toNat).drop a.toNat)),none,[]):=by
  simp only[Fx,ht,hx,hs,G,h1,h2,Y];rw[if_pos h5,if_pos (by simp;omega)]
 simp only[Jy,ho,h6,TL,List.map_drop,List.map_take]
theorem VH{w k:List UInt8}{f:Bool}{x:AV}{l:List (Bool×List UInt8×AV)}(h:(Qs w k&&f)=true):LC w ((f,k,x)::l)=some x:=by simp only[LC,h,if_true]
theorem Qq{w k:List UInt8}{f:Bool}{x:AV}{l:List (Bool×List UInt8×AV)}{q:Option AV}(h:(Qs w k&&f)=false)(G:LC w l=q):LC w ((f,k,x)::l)=q:=by simp only[LC,h,Bool.false_eq_true,if_false];exact G
theorem nT{w:List UInt8}:LC w []=none:=rfl
theorem VJ{t:TypeId}{w:List UInt8}{v:AV}(G:o.op=.lookup t x ix ok)(hf:LC w es=some v)(O:P.underlying t=some (.map kt e):=by kernel_rfl)(J:P.underlying kt=some .string:=by kernel_rfl)(U:Zo T x=some (.mv b):=by kernel_rfl)(hi:Zo T ix=some (.p (.val (.string (Je w)))):=by kernel_rfl)(hb:h b=some (.mf es):=by kernel_rfl):
  Jy P o T h=some (Dw ok v true,none,[b]):=by
 simp[Jy,TL,G,Xw,JV,O,J,U,hi,hb,R6,hf]
theorem nU{t:TypeId}{w:List UInt8}(G:o.op=.lookup t x ix ok)(O:P.underlying t=some (.map kt e))(J:P.underlying kt=some .string)(U:Zo T x=some (.mv b))(hi:Zo T ix=some (.p (.val (.string (Je w)))))(hb:h b=some (.mf es))(W:(P.info? e).bind (·.zero)=some z)(hf:LC w es=none) :
  Jy P o T h=some (Dw ok (AP z) false,none,[b]):=by
 simp[Jy,TL,G,Xw,JV,O,J,U,hi,hb,R6,hf,W]
end
def iG(b:Nat)(k:Blk)(s:St):St:=⟨s.T,s.H.map fun p=>if p.1=b then(p.1,k) else p⟩
theorem Bo{k:Blk}:∀(H:List (Nat×Blk)) (c:Nat),look H b=some k0→look (H.map fun p=>if p.1=b then(p.1,k) else p) c=upd (look H) b k c
|H,c,h0=>by
  have:∀(H:List (Nat×Blk)) (c:Nat),look (H.map fun p=>if p.1=b then(p.1,k) else p) c=if b=c then(look H c).map (fun _=>k) else look H c:=by
   intro H
   induction H with
  |nil=>intro c;simp[look]
  |cons p H J =>
    intro c;obtain⟨d,q⟩:=p;rw[Yy];by_cases G:d=b
    ·subst G;simp only[if_true,look];by_cases e:d=c
     ·simp[e]
     ·simp only[e,if_false];rw[J];simp[e]
    ·simp only[G,if_false,look];by_cases e:d=c
     ·subst e;simp[Ne.symm G]
     ·simp only[e,if_false];exact J c
  rw[this];by_cases e:b=c
  ·subst e;simp[upd,h0]
  ·simp[upd,e]
theorem nV(b:Nat)(es':List (Bool×List UInt8×AV))(hb:Qb0 (look s.H b)=some es)(he:Rm es'=Rm es):Weak N s (iG b (.mf es') s):=by
 intro φ M0 D a w r;obtain⟨k0,G,J,en,clock,hw,U,W,O⟩:=eO hb r.hp;have hH:look (iG b (.mf es') s).H=upd (look s.H) b (.mf es'):=by funext c;exact Bo s.H c G
 rw[hH];show ∃φ',Zn φ' M0 N D (look s.T) _ a w∧_
 have Y:∀x o,TK φ (upd (look s.H) b (.mf es')) x o→TK φ (look s.H) x o:=by
  rintro x y ⟨d,q,g1,g2,g3⟩;by_cases e:b=d
  ·refine⟨b,_,G,by rw[e];exact g2,?_⟩;cases k0<;>first|trivial|cases J
  ·exact⟨d,q,by simpa [upd,e] using g1,g2,g3⟩
 have hne:∀c k,look s.H c=some k→k.ob=none→¬b=c:=fun c k hc hk e=>by rw[←e,G] at hc;cases hc;rw[hk] at J;cases J
 have X:Y4 φ (look s.H) w φ (upd (look s.H) b (.mf es')) w:=by
  refine⟨fun c t q hc=>⟨⟨t,q,?_⟩,rfl⟩,fun c t S n hc=>⟨n,?_,Kt _,fun _=>Yz rfl rfl⟩,fun c t S n hc=>⟨n,?_,Kt _,fun _=>⟨rfl,fun c hc=>⟨c,hc,rfl⟩⟩⟩,fun c k x hc Z=>⟨?_,rfl⟩⟩
  ·simp[upd,hne c _ hc rfl,hc]
  ·simp[upd,hne c _ hc rfl,hc]
  ·simp[upd,hne c _ hc rfl,hc]
  ·by_cases e:b=c
   ·subst e;rw[G] at hc;cases hc;rw[J] at Z;exact⟨.mf es',by simp[upd],Z⟩
   ·exact⟨k,by simp[upd,e,hc],Z⟩
 have E:Q8 φ (look s.H) w φ (upd (look s.H) b (.mf es')) w :=
  ⟨rfl,rfl,rfl,Kt _,fun _ _ _=>rfl,fun _ _ _ _=>rfl,fun x o _ hm=>Y x o hm,
   fun c t cs _ hc=>⟨⟨cs,by simp[upd,hne c _ hc rfl,hc]⟩,rfl⟩,fun c t S n _ hc=>X.t c t S n hc,fun c t S n _ hc=>X.v c t S n hc,fun c k x _ hc Z=>X.o c k x hc Z⟩
 have g:∀d,upd (look s.H) b (.mf es') d≠none→look s.H d≠none:=fun d hd=>by
  by_cases e:b=d
  ·rw[←e,G];simp
  ·simpa [upd,e] using hd
 refine⟨φ,r.keep E X ⟨fun c d hc hd e=>r.hp.inj c d (g c hc) (g d hd) e,fun c q hc=>?_,fun c hc=>r.hp.fr c (g c hc),r.hp.lt,r.hp.gm.evol E⟩,E⟩;by_cases e:b=c
 ·subst e;have:q=.mf es':=by simpa [upd] using hc.symm
  subst this;exact⟨en,clock,hw,by rw[he];exact U,by rw[he];exact(QH (E.keeps M0) X).2 _ _ W,O⟩
 ·have hc':look s.H c=some q:=by simpa [upd,e] using hc
  exact Z5 (E.keeps M0) X rfl (r.hp.blk c q hc')
theorem QX(G:P.underlying kt=some .string)(a b:List UInt8):eqV P 4 kt (.string (Je a)) (.string (Je b))=some (Qs a b):=by
 have:=nA G (Je a) b;rw[R6] at this;exact this
end Go.Abs
namespace Go.Abs
open Go Go.ChangeShapes Go.WideShapes
variable {b base d:Nat}{h:QN}{n off:Nat}{v:Value}
def NM(P:Program)(total:Nat):Nat→List Field→Bool|off,[]=>off==total|off,f::r=>f.offset==off&&NM P total (off+P.cellsOf f.type) r
def Hz(P:Program):Nat→TypeId→Bool
|0,_=>false
|d+1,t=>match P.underlying t with
 |some .bool=>P.cellsOf t==1
 |some (.int _)=>P.cellsOf t==1
 |some .string=>P.cellsOf t==1
 |some (.slice e)=>P.cellsOf t==1&&Nat.blt 0 (P.cellsOf e)&&Hz P d e
 |some (.struct G)=>NM P (P.cellsOf t) 0 G.toList&&G.toList.all (fun f=>Hz P d f.type)
 |some (.array n e)=>n*P.cellsOf e==P.cellsOf t&&Hz P d e
 |_=>false
def QfB(S:TypeId→List PV→Prop):List Field→List PV→Prop|[],cs=>cs=[]|f::r,cs=>∃a b,cs=a++b∧S f.type a∧QfB S r b
def ShN(S:List PV→Prop):Nat→List PV→Prop|0,cs=>cs=[]|n+1,cs=>∃a b,cs=a++b∧S a∧ShN S n b
def Sh(P:Program):Nat→TypeId→List PV→Prop
|0,_,_=>False
|d+1,t,cs=>match P.underlying t with
 |some .bool=>∃b,cs=[.val (.bool b)]
 |some (.int k)=>∃n,cs=[.val (.int k n)]∧(Lit.int k n).wf=true
 |some .string=>∃s:List UInt8,cs=[.val (.string (Je s))]∧s.length≤maxLen
 |some (.slice e)=>∃es,cs=[.sl (P.cellsOf e) es]∧es.length≤maxLen∧∀x∈es,Sh P d e x
 |some (.struct G)=>QfB (Sh P d) G.toList cs
 |some (.array n e)=>ShN (Sh P d e) n cs
 |_=>False
section
variable {H:Type}{enc:TypeId×Value→H}{P:Program}{w:World}{held:Bool}{φ:Nat→Nat}{M:ZK}
theorem Oc{a:Addr}{G:List Value}(h:w.cells? base a n=some G):G.length=n∧∀i,i<n→w.cell? (a.add i)=G[i]?:=by
 unfold World.cells? at h;split at h
 ·have J:=mapM_some_length h;refine⟨by simpa using J,fun i hi=>?_⟩;exact mapM_some_get h i i (by simp[hi])
 ·cases h
def Got(P:Program)(w:World)(φ:Nat→Nat)(M:ZK)(d:Nat)(t:TypeId)(G:List Value):Prop :=∃cs:List PV,Sh P d t cs∧Qi φ Lj w M (cs.map .p) G∧(∀v∈G,v.oneCell'=true)
theorem NN{t:TypeId}{c:PV}(J:Sh P d t [c])(G:QM w M c v)(O:v.oneCell'=true):Got P w φ M d t [v] :=
 ⟨[c],J,by simp only[Yy,List.map_nil,Qi,Qe];exact⟨v,[],rfl,G,rfl⟩,by simpa using O⟩
theorem zz{φ:Nat→Nat}{w:World}{M:ZK}{a b:List AV}{l m:List Value}(J:Qi φ h w M a l)(G:Qi φ h w M b m):Qi φ h w M (a++b) (l++m):=Zz J G
theorem add_zero(a:Addr):a.add 0=a:=rfl
theorem jC:(⟨b,off,none⟩:Addr).add n=⟨b,off+n,none⟩:=by
 unfold Addr.add;split
 ·rename_i h;subst h;rfl
 ·rfl
theorem cell?_spot{a:Addr}(h:w.cell? a=some v):a.spot=none:=by
 unfold World.cell? at h;split at h
 ·split at h
  ·cases h
  ·rename_i G;cases hs:a.spot with
  |none=>rfl
  |some s=>simp[hs] at G
 ·cases h
theorem zA{Q:Nat→List PV→Prop}:∀(n:Nat),(∀i,i<n→∃c,Q i c)→∃es:List (List PV),es.length=n∧∀i c,es[i]?=some c→Q i c
|0,_=>⟨[],rfl,by simp⟩
|n+1,h=>by
  obtain⟨es,G,J⟩:=zA n (fun i hi=>h i zo);obtain⟨c,hc⟩:=h n zo;refine⟨es++[c],by simp[G],fun i c' hi=>?_⟩;rcases Nat.lt_or_ge i n with hlt|O
  ·rw[List.getElem?_append_left zo] at hi;exact J i c' hi
  ·have:i<n+1:=by have:=(CS.1 hi).1;simp[G] at this;omega
   obtain rfl:i=n:=by omega
   rw[List.getElem?_append_right zo] at hi;simp[G] at hi;subst hi;exact hc
theorem jD{S r:Nat}:∀(es:List (List PV)) (o:Nat),(∀i e,es[i]?=some e→e.length=S∧Wj w M r (o+i*S) e)→Wl w M S r o es
|[],o,_=>by simp[Wl]
|e::es,o,h=>by
  simp only[Wl];refine⟨by have:=h 0 e zq;simpa using this,jD es (o+S) fun i J G=>?_⟩;have:=h (i+1) J (by simpa using G)
  rwa [show o+(i+1)*S=o+S+i*S from by rw[Nat.add_mul];omega] at this
theorem iH(hM:∀r o,¬M r o):∀(d W:Nat) (t:TypeId) (G:List Value) (x:DataW H×List MemPlace),Hz P d t=true→DataW.trod enc P w 0 (fun _=>true) held W t G=some x→Got P w φ M d t G∧G.length=P.cellsOf t:=by
 intro d
 induction d with
|zero=>intro W t G x hp;cases hp
|succ d ih =>
  intro W t G x hp h
  have an:∀(U:List Field) (off total:Nat) (G:List Value),G.length=total→NM P total off U=true→U.all (fun f=>Hz P d f.type)=true →
    (∀f∈U,∃n y,DataW.trod enc P w 0 (fun _=>true) held n f.type ((G.drop f.offset).take (P.cellsOf f.type))=some y)→∃cs,QfB (Sh P d) U cs∧Qi φ Lj w M (cs.map .p) (G.drop off)∧(∀v∈G.drop off,v.oneCell'=true):=by
   intro U
   induction U with
  |nil =>
    intro off total G J ht _ _;simp only[NM,beq_iff_eq] at ht;have:G.drop off=[]:=List.drop_eq_nil_of_le zo;exact⟨[],rfl,by rw[this];simp[Qi],by rw[this];simp⟩
  |cons f U ai =>
    intro off total G J ht ha hm;simp only[NM,ZG,beq_iff_eq] at ht;simp only[List.all_cons,ZG] at ha;obtain⟨n,y,hy⟩:=hm f zq;rw[ht.1] at hy;obtain⟨⟨c1,g1,g2,g3⟩,_⟩:=ih n f.type _ y ha.1 hy;obtain⟨c2,k1,k2,k3⟩:=ai (off+P.cellsOf f.type) total G J ht.2 ha.2 (fun f hf=>hm f (by simp[hf]))
    have e:G.drop off=(G.drop off).take (P.cellsOf f.type)++G.drop (off+P.cellsOf f.type):=by
     rw[←List.drop_drop];exact(List.take_append_drop _ _).symm
    refine⟨c1++c2,⟨c1,c2,rfl,g1,k1⟩,?_,?_⟩
    ·rw[e,List.map_append];exact zz g2 k2
    ·rw[e];intro v hv;rcases List.mem_append.1 hv with hv|hv
     ·exact g3 v hv
     ·exact k3 v hv
  have aj:∀(e:TypeId) (n k:Nat) (G:List Value),G.length=(k+n)*P.cellsOf e→Hz P d e=true →
    (∀i,k≤i→i<k+n→∃m y,DataW.trod enc P w 0 (fun _=>true) held m e ((G.drop (i*P.cellsOf e)).take (P.cellsOf e))=some y)→∃cs,ShN (Sh P d e) n cs∧Qi φ Lj w M (cs.map .p) (G.drop (k*P.cellsOf e))∧(∀v∈G.drop (k*P.cellsOf e),v.oneCell'=true):=by
   intro e n
   induction n with
  |zero =>
    intro k G J _ _;have:G.drop (k*P.cellsOf e)=[]:=List.drop_eq_nil_of_le (by simp at J;omega);exact⟨[],rfl,by rw[this];simp[Qi],by rw[this];simp⟩
  |succ n am =>
    intro k G J ae hm;obtain⟨m,y,hy⟩:=hm k zo zo;obtain⟨⟨c1,g1,g2,g3⟩,_⟩:=ih m e _ y ae hy;obtain⟨c2,k1,k2,k3⟩:=am (k+1) G (by rw[J];congr 1;omega) ae (fun i h1 h2=>hm i zo zo)
    have e':G.drop (k*P.cellsOf e)=(G.drop (k*P.cellsOf e)).take (P.cellsOf e)++G.drop ((k+1)*P.cellsOf e):=by
     rw[Nat.add_mul,Nat.one_mul,←List.drop_drop];exact(List.take_append_drop _ _).symm
    refine⟨c1++c2,⟨c1,c2,rfl,g1,k1⟩,?_,?_⟩
    ·rw[e',List.map_append];exact zz g2 k2
    ·rw[e'];intro v hv;rcases List.mem_append.1 hv with hv|hv
     ·exact g3 v hv
     ·exact k3 v hv
  unfold Hz at hp;cases hu:P.underlying t with
 |none=>rw[hu] at hp;cases hp
 |some td =>
   rw[hu] at hp;cases td with
  |bool =>
    obtain⟨b,rfl,_⟩:=DataW.trod_bool hu h;simp only[beq_iff_eq] at hp;exact⟨NN (c:=.val (.bool b)) (by simp only[Sh,hu];exact⟨b,rfl⟩) (by simp[QM]) rfl,by simp[hp]⟩
  |int k =>
    obtain⟨n,rfl,_,hw⟩:=DataW.trod_int hu h;simp only[beq_iff_eq] at hp;exact⟨NN (c:=.val (.int k n)) (by simp only[Sh,hu];exact⟨n,rfl,hw⟩) (by simp[QM]) rfl,by simp[hp]⟩
  |string =>
    obtain⟨b,rfl,_,hw⟩:=DataW.trod_string hu h;simp only[beq_iff_eq] at hp;refine⟨NN (c:=.val (.string b)) ?_ (by simp[QM]) rfl,by simp[hp]⟩;simp only[Sh,hu];exact⟨b.data.toList,by simp[Je],by simpa using hw⟩
  |slice e =>
    simp only[ZG,beq_iff_eq,Nat.blt_eq] at hp;rcases DataW.trod_slice hu h with⟨rfl,_⟩|⟨a,len,cap,elems,rest,n,_,rfl,_,_,aq,au,av,aa⟩
    ·refine⟨NN (c:=.sl (P.cellsOf e) []) ?_ (by simp only[QM];exact .inr ⟨trivial,none,0,rfl⟩) rfl,by simp[hp.1.1]⟩;simp only[Sh,hu];exact⟨[],rfl,by simp,by simp⟩
    ·have ad:=aa.1
     have ah:∀i,i<len→∃(G:List Value) (cs:List PV),w.cells? 0 (a.add (i*P.cellsOf e)) (P.cellsOf e)=some G∧Sh P d e cs∧Qi φ Lj w M (cs.map .p) G∧(∀v∈G,v.oneCell'=true):=by
      intro i hi;have h1:elems[i]?=some elems[i]:=List.getElem?_eq_getElem zo;have h2:=ad i hi;rw[h1] at h2;obtain⟨G,O,h4⟩:=PS.1 h2;obtain⟨⟨cs,g1,g2,g3⟩,_⟩:=ih _ e G _ hp.2 h4;exact⟨G,cs,O,g1,g2,g3⟩
     obtain⟨es,ac,hq⟩:=zA (Q:=fun i cs=>∃G,w.cells? 0 (a.add (i*P.cellsOf e)) (P.cellsOf e)=some G∧Sh P d e cs∧Qi φ Lj w M (cs.map .p) G∧(∀v∈G,v.oneCell'=true)) len (fun i hi=>by
      obtain⟨G,cs,h1,h2⟩:=ah i hi;exact⟨cs,G,h1,h2⟩)
     refine⟨NN (c:=.sl (P.cellsOf e) es) ?_ ?_ rfl,by simp[hp.1.1]⟩
     ·simp only[Sh,hu];refine⟨es,rfl,by omega,fun x hx=>?_⟩;obtain⟨i,hi,rfl⟩:=List.getElem_of_mem hx;obtain⟨G,_,h2,_⟩:=hq i es[i] (List.getElem?_eq_getElem hi);exact h2
     ·simp only[QM];by_cases h0:len=0
      ·subst h0;exact .inr ⟨List.eq_nil_of_length_eq_zero ac,some a,cap,rfl⟩
      ·have Z:a.spot=none:=by
        obtain⟨G,h1,_⟩:=hq 0 es[0] (List.getElem?_eq_getElem zo);obtain⟨g1,g2⟩:=Oc h1;have O:=g2 0 hp.1.2;simp only[Nat.zero_mul,add_zero] at O;rw[List.getElem?_eq_getElem zo] at O;exact cell?_spot O
       obtain⟨ab,ao,ar⟩:=a;simp only at Z;subst Z;refine .inl ⟨ab,ao,cap,by rw[ac],by omega,jD es ao fun i c hi=>?_⟩;obtain⟨G,h1,h2,O,h4⟩:=hq i c hi;obtain⟨g1,g2⟩:=Oc h1;have af:=ZO O;refine⟨by simp at af;omega,?_⟩;rw[GY];intro j q hj;obtain⟨v,k1,k2⟩:=Tm O j q hj;have al:j<P.cellsOf e:=by have:=(CS.1 k1).1;omega
       have k3:=g2 j al;rw[jC,jC,k1] at k3;exact⟨v,k3,hM _ _,h4 v (List.mem_of_getElem? k1),k2⟩
  |struct U =>
    simp only[ZG] at hp;obtain⟨xs,n,_,_,J,hx,Y⟩:=DataW.trod_struct hu h
    obtain⟨cs,g1,g2,g3⟩:=an U.toList 0 (P.cellsOf t) G J hp.1 hp.2 (by
     intro f hf;obtain⟨i,hi,rfl⟩:=List.getElem_of_mem hf;have h1:U[i]?=some U.toList[i]:=by simp
     have h2:=Y i _ h1;have O:i<xs.length:=by rw[hx];simpa using hi
     exact⟨n,xs[i],by rw[h2];exact List.getElem?_eq_getElem O⟩)
    simp only[List.drop_zero] at g2 g3;exact⟨⟨cs,by simp only[Sh,hu];exact g1,g2,g3⟩,J⟩
  |array n e =>
    simp only[ZG,beq_iff_eq] at hp;obtain⟨xs,m,_,_,J,hx,Y⟩:=DataW.trod_array hu h
    obtain⟨cs,g1,g2,g3⟩:=aj e n 0 G (by rw[J,Nat.zero_add,hp.1]) hp.2 (by
     intro i _ hi;have ak:i<n:=by omega
     have O:i<xs.length:=by omega
     exact⟨m,xs[i],by rw[Y i ak];exact List.getElem?_eq_getElem O⟩)
    simp only[Nat.zero_mul,List.drop_zero] at g2 g3;exact⟨⟨cs,by simp only[Sh,hu];exact g1,g2,g3⟩,J⟩
  |_=>cases hp
end
end Go.Abs
namespace Go.Abs
open Go Go.ChangeShapes Go.WideShapes Go.ChangeAt Go.RowKit
variable {base d:Nat}{f:FuncId}{fn:Func}{h':QN}{v:Value}{w':World}{φ':Nat→Nat}
def QfC:List PV→AV|[c]=>.p c|cs=>ag cs
def iI(P:Program)(t:TypeId)(cs:List PV):AV :=
 match P.underlying t with
|some (.struct _)=>ag cs
|some (.array _ _)=>ag cs
|_=>QfC cs
def Od(P:Program)(d:Nat):List TypeId→List AV→Prop|[],G=>G=[]|t::ts,G=>∃cs r,G=iI P t cs::r∧Sh P d t cs∧Od P d ts r
section
variable {H:Type}{enc:TypeId×Value→H}{P:Program}{w:World}{φ:Nat→Nat}{M:ZK}
theorem Qcv(Y:∀r o,¬M r o){t:TypeId}{x:DataW H}{ps:List MemPlace}(hp:Hz P d t=true)(J:Value.okWide P w .any base t v)(h:DataW.Trod enc P w 0 (fun _=>true) true t v x ps):∃cs,Sh P d t cs∧Qe φ Lj w M (iI P t cs) v:=by
 obtain⟨O,h⟩:=h;obtain⟨⟨cs,h1,G,h3⟩,hl⟩:=iH (φ:=φ) Y d O t _ _ hp h;refine⟨cs,h1,?_⟩;cases d with
|zero=>cases hp
|succ d =>
  unfold Value.okWide at J;unfold iI;cases hu:P.underlying t with
 |none=>simp[Hz,hu] at hp
 |some td =>
   rw[hu] at J
   have one:(∀c,v≠.agg c)→P.cellsOf t=1→Qe φ Lj w M (QfC cs) v:=by
    intro Z hc;have e:v.cells=#[v]:=by cases v<;>first|rfl|exact absurd rfl (Z _)
    rw[e] at G
    match cs,G with
   |[c],G =>
     simp only[Yy,List.map_nil,Qi] at G;obtain⟨y,ys,U,W,e3⟩:=G;simp at U;obtain⟨rfl,rfl⟩:=U;exact W
   |[],G=>simp[Qi] at G
   |_::_::_,G =>
     simp only[Yy,Qi] at G;obtain⟨y,ys,U,_,z,zs,W,_⟩:=G;subst W;simp at U
   have agg:(∃c,v=.agg c)→Qe φ Lj w M (ag cs) v:=by
    rintro⟨c,rfl⟩;exact⟨c.toList,by simp,G⟩
   cases td with
  |bool =>
    simp only[Hz,hu,beq_iff_eq] at hp;exact one (fun c hc=>by subst hc;simp[Cell.okWide,Cell.ok,hu] at J) hp
  |int k =>
    simp only[Hz,hu,beq_iff_eq] at hp;exact one (fun c hc=>by subst hc;simp[Cell.okWide,Cell.ok,hu] at J) hp
  |string =>
    simp only[Hz,hu,beq_iff_eq] at hp;exact one (fun c hc=>by subst hc;simp[Cell.okWide,Cell.ok,hu] at J) hp
  |slice e =>
    simp only[Hz,hu,ZG,beq_iff_eq] at hp;exact one (fun c hc=>by subst hc;simp[Cell.okWide,Cell.ok,hu] at J) hp.1.1
  |struct fs =>
    obtain⟨c,rfl,_⟩:=J;exact agg ⟨c,rfl⟩
  |array n e =>
    obtain⟨c,rfl,_⟩:=J;exact agg ⟨c,rfl⟩
  |_=>simp[Hz,hu] at hp
theorem jE(U:∀r o,¬M r o){d base:Nat}:∀{ts:List TypeId} {J:List Value} {ds:List (DataW H)} {ps:List MemPlace},ts.all (Hz P d)=true →
  (∀(j:Nat) t v,ts[j]?=some t→J[j]?=some v→Value.okWide P w .any base t v)→DataW.TrodAll enc P w 0 (fun _=>true) true ts J ds ps→∃G,Od P d ts G∧Qi φ Lj w M G J
|[],J,ds,ps,_,_,h=>by
  obtain⟨rfl,_,_⟩:=trodAll_nil h;exact⟨[],rfl,rfl⟩
|t::ts,J,ds,ps,hp,W,h=>by
  obtain⟨v,O,d',aa,p,q,rfl,rfl,rfl,Z,Y⟩:=trodAll_cons h;simp only[List.all_cons,ZG] at hp;obtain⟨cs,g1,g2⟩:=Qcv (φ:=φ) U hp.1 (W 0 t v rfl rfl) Z;obtain⟨G,g3,g4⟩:=jE U hp.2 (fun j t v a b=>W (j+1) t v (by simpa using a) (by simpa using b)) Y;exact⟨_,⟨cs,G,rfl,g1,g3⟩,v,O,rfl,g2,g4⟩
structure Over(w w':World):Prop where
 os:w'.os=w.os
 output:w'.output=w.output
 same:∀r,r<w.heap.size→w'.heap[r]?=w.heap[r]?
theorem ym{φ:Nat→Nat}{w:World}(E:Q8 φ Lj w φ' h' w'):Over w w' :=
 ⟨E.os,E.output,fun r G=>E.same r G (fun b hb=>absurd rfl hb)⟩
theorem Over.kept{w:World}(o:Over w w')(G:MemPlace→Prop):w.keptBut w' G:=by
 refine⟨o.os,o.output,fun i hi=>?_⟩;rw[o.same i hi];cases h:w.heap[i]? with
|none=>rfl
|some x=>cases x<;>simp
theorem Over.at{w:World}(o:Over w w'){p:MemPlace}(h:p.block<w.heap.size):w.sameAt w' p:=by
 cases p with
|cell b off=>simp only[World.sameAt,World.cell?];rw[o.same b h]
|map b=>exact o.same b h
theorem Over.frozen{w:World}(o:Over w w'){a:Addr}(h:a.block<w.heap.size):w'.frozen? a=w.frozen? a:=by
 simp only[World.frozen?];rw[o.same _ h]
theorem Tq{w w':World}(O:laidOutB P=true){sp:Nat→Bool}(G:∀b,b<w.heap.size→sp b=true)(o:Over w w'):∀{ts:List TypeId} {J:List Value} {ds:List (DataW H)} {ps:List MemPlace},ts.all (fun t=>P.readableRec t&&Nat.blt t P.types.size)=true→(∀p∈ps,p.block<w.heap.size) →
  DataW.TrodAll enc P w 0 (fun _=>true) true ts J ds ps→DataW.TrodAll enc P w' 0 sp true ts J ds ps
|[],J,ds,ps,_,_,h=>by
  obtain⟨rfl,rfl,rfl⟩:=trodAll_nil h;exact rfl
|t::ts,J,ds,ps,hp,hb,h=>by
  obtain⟨v,Z,d',Y,p,q,rfl,rfl,rfl,W,U⟩:=trodAll_cons h;simp only[List.all_cons,ZG,Nat.blt_eq] at hp;refine⟨p,q,Go.WideElems.Trod_stays O hp.1.1 hp.1.2 W (fun p hp=>o.at (hb p (by simp[hp]))) (fun p hp=>G _ (hb p (by simp[hp]))),Tq O G o (by simpa using hp.2) (fun p hp=>hb p (by simp[hp])) U,rfl⟩
theorem qI{s:ChangeSpec}{tb:TypeId}{apart fresh handsOn again:Bool}(hl:laidOutB P=true)(Y:fn.params.toList.all (Hz P d)=true)(J:fn.params.toList.all (fun t=>P.readableRec t&&Nat.blt t P.types.size)=true)(hres:fn.resultTypes=#[tb])(ac:P.underlying tb=some .bool)(G:s.vars=[])(Z:∀ds:List (DataW H),ds.length=fn.params.size→s.fn H ds={ results:=[.lit (.bool true)],args:=ds }){W:World}{args:Array Value}{ds gs:List (DataW H)}{before:List MemPlace}(ab:∀(j:Nat) t v,fn.params[j]?=some t→args[j]?=some v→Value.okWide P W .any base t v)(hW:DataW.Whole enc P fn.params.toList s.vars apart W args.toList ds gs before)(hcall:∀O,Od P d fn.params.toList O→Qi (fun x=>x) Lj W (MM (fun x=>x) Lj (fun _ _=>False)) O args.toList→Za P f O (.ret (.p (.val (.bool true)))))(hg:uG W:=by exact trivial) :
  Calls P f args W fun e W'=>∃v,e=.returned v∧s.post enc P fn apart fresh handsOn again W args v W':=by
 have aa:=hW;obtain⟨p,q,hA,hV,rfl,af,ae⟩:=hW;rw[G] at hV;obtain⟨rfl,rfl⟩:=trodVars_none hV
 have ad:ds.length=fn.params.size:=by
  have:∀{ts:List TypeId} {vs:List Value} {ds:List (DataW H)} {ps:List MemPlace},DataW.TrodAll enc P W 0 (fun _=>true) true ts vs ds ps→ds.length=ts.length:=by
   intro ts
   induction ts with
  |nil=>intro vs ds ps h;obtain⟨_,rfl,_⟩:=trodAll_nil h;rfl
  |cons t ts ih=>intro vs ds ps h;obtain⟨v,aj,d',ai,p,q,rfl,rfl,rfl,h1,h2⟩:=trodAll_cons h;simp[ih h2]
  simpa using this hA
 obtain⟨O,g1,g2⟩:=jE (φ:=fun x=>x) (M:=MM (fun x=>x) Lj (fun _ _=>False)) (base:=base) (fun r o h=>h.elim WM id) Y
  (fun j t v a b=>ab j t v (by simpa using a) (by simpa using b)) hA
 have hc:=hcall O g1 g2 (fun x=>x) (fun _ _=>False) W args.toList (Hr (fun _ _ h=>h.elim) hg (fun _ _ _ h=>h)) g2;simp only[Array.toArray_toList] at hc;refine hc.mono ?_;rintro e w' ⟨φ',r',h',⟨rfl,rfl⟩,ah,E,hv⟩;obtain⟨v,rfl,hv⟩:=hv;simp only[Qe,QM] at hv;subst hv;have o:=ym E;have hlt:∀x∈p,x.block<W.heap.size:=fun x hx=>aa.lt x (by simpa using hx)
 refine⟨_,rfl,?_⟩;have U:s.fn H (ds++[])={ results:=[.lit (.bool true)],args:=ds }:=by rw[List.append_nil];exact Z ds ad
 have hr:∀(b:Nat) (sp:Nat→Bool) (hd:Bool),DataW.TrodAll enc P w' b sp hd fn.resultTypes.toList ((Value.bool true).resultList fn.resultTypes.size) [.lit (.bool true)] []:=fun b sp hd=>by
  rw[hres];exact trodAll_cons_mk (shut_bool ac _) trodAll_mk0
 refine⟨ds,[],p++[],[],p,[],aa,by rw[U];exact hr _ _ _,by rw[U];exact Tq hl (fun b hb=>by simpa using hb) o J hlt hA,by rw[U,G];rfl,o.kept _,fun _=>?_⟩;refine⟨ok_one hres rfl (okWide_bool_mk ac _),[.lit (.bool true)]++ds,[],([]++p)++[],⟨[]++p,[],?_,?_,rfl,?_,?_⟩,?_⟩
 ·exact trodAll_append (Tq hl (fun b hb=>rfl) o J hlt hA) (hr _ _ _)
 ·rw[G];rfl
 ·intro b off hp;rw[o.frozen (by exact hlt (.cell b off) (by simpa using hp))];exact af b off (by simpa using hp)
 ·intro ha;simpa using ae ha
 ·intro x hx _;simpa using hx
theorem yn{s:ChangeSpec}{tb:TypeId}{apart fresh handsOn again:Bool}(hl:laidOutB P=true)(J:fn.params.toList.all (Hz P d)=true)(U:fn.params.toList.all (fun t=>P.readableRec t&&Nat.blt t P.types.size)=true)(hres:fn.resultTypes=#[tb])(aa:P.underlying tb=some .bool)(O:s.vars=[])(Y:∀ds:List (DataW H),ds.length=fn.params.size→s.fn H ds={ results:=[.lit (.bool true)],args:=ds })(hcall:∀G,Od P d fn.params.toList G→Za P f G (.ret (.p (.val (.bool true))))){W:World}{args:Array Value}{ds gs:List (DataW H)}{before:List MemPlace}(Z:∀(j:Nat) t v,fn.params[j]?=some t→args[j]?=some v→Value.okWide P W .any base t v)(hW:DataW.Whole enc P fn.params.toList s.vars apart W args.toList ds gs before)(hg:uG W:=by exact trivial) :
  Calls P f args W fun e W'=>∃v,e=.returned v∧s.post enc P fn apart fresh handsOn again W args v W' :=
 qI hl J U hres aa O Y Z hW (fun G h _=>hcall G h) hg
end
def QhD(l:List UInt8):Prop:=l.length≤maxLen
section
variable {P:Program}{d:Nat}{t:TypeId}{cs:List PV}
theorem QfD(hu:P.underlying t=some .string)(h:Sh P (d+1) t cs):∃s:List UInt8,cs=[.val (.string (Je s))]∧QhD s:=by
 simp only[Sh,hu] at h;exact h
theorem iJ{c:PV}(hu:P.underlying t=some .string):iI P t [c]=.p c:=by simp only[iI,hu,QfC]
end
end Go.Abs
namespace Go.Abs
open Go
variable {D:DB}{K:St→Prop}{M M0:ZK}{N:Nat}{P:Program}{Q:AX→St→Prop}{T:Nat→Option AV}{a:Act}{args:List AV}{b:Nat}{c:Code}{ck:Nat}{dst:Option Tmp}{e:TypeId}{en:Array MapEntry}{es:List (Bool×List UInt8×AV)}{es':List (List PV)}{f:FuncId}{h:QN}{i id:Nat}{ix:Operand}{k0:Blk}{kt:TypeId}{len:Nat}{o:Oper}{ops:Array Oper}{ro:Option Nat}{s s':St}{tk:Nat}{tx ty:TypeId}{v:Value}{w w':World}{x y:Operand}{z:Value}{φ:Nat→Nat}
section
variable {R:Type}{a:Option R}{P:Program}{N:Nat}{ops:Array Oper}{o:Oper}{l:List Oper}{acc:List YA}{s:St}{Q:R→AX→St→Prop}
theorem Oe(hw:ZB ops o (look s.T)=some true)(hp:(plain o.op&&KD N o.dst)=true)(U:∀c,o.op≠.defer c)(h:∀φ M0 D O w,Zn φ M0 N D (look (mk ops o s true).T) (look s.H) O w→∃x s',look s'.T=look (mk ops o s true).T∧KU a P N ops Q false ((none,[])::acc) l (St.put s' o.dst x)∧Yield P o φ M0 (look s.H) O w x (look s'.H)):KU a P N ops Q false acc (o::l) s:=by
 simp only[ZG] at hp;refine⟨fun r Z=>?_⟩;show Yl P N ops (Q r) (o::l) s;simp only[Yl,hw,ZY,BP hp.1];show Ua P N o _ _ _;unfold Ua
 have key:nC P N o (mk ops o s true) (Yl P N ops (Q r) l):=by
  refine⟨U,hp.2,fun φ M0 D O w J=>?_⟩
  ·obtain⟨x,s',Y,W,h3⟩:=h φ M0 D O w J;exact⟨x,s',Y,W.h r Z,h3⟩
 have hp:=hp.1;split
 ·rename_i G;rw[G] at hp;cases hp
 ·rename_i G;rw[G] at hp;cases hp
 ·rename_i G;rw[G] at hp;cases hp
 ·exact .inr key
theorem GD:KU (none:Option R) P N ops Q false acc l s:=⟨fun r G=>by cases G⟩
end
def SV(a b:List UInt8):Bool:=decide (a.length+b.length≤9223372036854775807)
theorem NP{a b:List UInt8}(G:o.op=.binOp .add tx x y ty)(O:Zo T x=some (.p (.val (.string (Je a)))))(J:Zo T y=some (.p (.val (.string (Je b)))))(hc:SV a b=true) :
  Jy P o T h=some (.p (.val (.string (Je (a++b)))),none,[]):=by
 unfold SV at hc;have hc:=of_decide_eq_true hc;simp[Jy,TL,G,Ib,O,J,kJ,R6,hc]
section
variable {φ:Nat→Nat}{M0:ZK}{h:QN}{w:World}
theorem nW{k1:Blk}(G:h b=some k0)(J:k0.ob=some .mp)(W:k1.ob=some .mp)(r:ZN φ h w M0)(U:∀h' M',(∀x o v,w.cell? ⟨x,o,none⟩=some v→¬MM φ h M0 x o→w.cell? ⟨x,o,none⟩=some v∧¬M' x o)→Y4 φ h w φ h' w→RelB φ h' w M' (φ b) k1) :
  ZN φ (upd h b k1) w M0∧Q8 φ h w φ (upd h b k1) w∧Y4 φ h w φ (upd h b k1) w:=by
 have Y:∀x o,TK φ (upd h b k1) x o→TK φ h x o:=by
  rintro x y ⟨d,q,g1,g2,g3⟩;by_cases e:b=d
  ·refine⟨b,_,G,by rw[e];exact g2,?_⟩;cases k0<;>first|trivial|cases J
  ·exact⟨d,q,by simpa [upd,e] using g1,g2,g3⟩
 have hne:∀c k,h c=some k→k.ob=none→¬b=c:=fun c k hc hk e=>by rw[←e,G] at hc;cases hc;rw[hk] at J;cases J
 have X:Y4 φ h w φ (upd h b k1) w:=by
  refine⟨fun c t q hc=>⟨⟨t,q,?_⟩,rfl⟩,fun c t S n hc=>⟨n,?_,Kt _,fun _=>Yz rfl rfl⟩,fun c t S n hc=>⟨n,?_,Kt _,fun _=>⟨rfl,fun c hc=>⟨c,hc,rfl⟩⟩⟩,fun c k x hc O=>⟨?_,rfl⟩⟩
  ·simp[upd,hne c _ hc rfl,hc]
  ·simp[upd,hne c _ hc rfl,hc]
  ·simp[upd,hne c _ hc rfl,hc]
  ·by_cases e:b=c
   ·subst e;rw[G] at hc;cases hc;rw[J] at O;cases O;exact⟨k1,by simp[upd],W⟩
   ·exact⟨k,by simp[upd,e,hc],O⟩
 have E:Q8 φ h w φ (upd h b k1) w :=
  ⟨rfl,rfl,rfl,Kt _,fun _ _ _=>rfl,fun _ _ _ _=>rfl,fun x o _ hm=>Y x o hm,
   fun c t cs _ hc=>⟨⟨cs,by simp[upd,hne c _ hc rfl,hc]⟩,rfl⟩,fun c t S n _ hc=>X.t c t S n hc,fun c t S n _ hc=>X.v c t S n hc,fun c k x _ hc O=>X.o c k x hc O⟩
 have g:∀d,upd h b k1 d≠none→h d≠none:=fun d Z=>by
  by_cases e:b=d
  ·rw[←e,G];simp
  ·simpa [upd,e] using Z
 refine⟨⟨fun c d hc Z e=>r.inj c d (g c hc) (g d Z) e,fun c q hc=>?_,fun c hc=>r.fr c (g c hc),r.lt,r.gm.evol E⟩,E,X⟩;by_cases e:b=c
 ·subst e;have:q=k1:=by simpa [upd] using hc.symm
  subst this;exact U _ _ (E.keeps M0) X
 ·have hc':h c=some q:=by simpa [upd,e] using hc
  exact Z5 (E.keeps M0) X rfl (r.blk c q hc')
end
def QY(en:Array MapEntry)(i:Nat):Nat:=((en[i]?).map (·.born)).getD 0
theorem iK:∀{l:List Nat},l.Pairwise (·<·)→l.Nodup:=fun h=>h.imp fun h=>Nat.ne_of_lt h
theorem iL(h:es.all (·.1)=true):Rm es=es:=List.filter_eq_self.2 fun e G=>Xb.1 h e G
section
variable {R:Type}{a:Option R}{P:Program}{N:Nat}{ops:Array Oper}{o:Oper}{l:List Oper}{acc:List YA}{s:St}{Q:R→AX→St→Prop}
theorem iM{t m:Nat}(hw:ZB ops o (look s.T)=some true)(ho:o.op=.range t x)(ht:P.underlying t=some (.map kt e))(hd:KD N o.dst=true)(hx:Zo (look (mk ops o s true).T) x=some (.mv m))(hm:look s.H m=some (.mf es))(hb:look s.H b=none)(hne:(m==b)=false)(h:∀en ck,Gi en ck→KU a P N ops Q false ((none,[])::acc) l (St.put ⟨(mk ops o s true).T,(b,.it m ck #[])::(m,.mg en ck es)::s.H⟩ o.dst (.iv b))):KU a P N ops Q false acc (o::l) s:=by
 refine Oe hw (by rw[ho,hd];rfl) (fun c hc=>by rw[ho] at hc;cases hc) fun φ M0 D ac w r=>?_
 have J:¬m=b:=by simpa using hne
 obtain⟨r1,E1,X1,hC⟩:=r.lift 1;obtain⟨en,ck,U,hk,hv,W⟩:=r1.hp.blk m _ hm;refine⟨.iv b,⟨(mk ops o s true).T,(b,.it m ck #[])::(m,.mg en ck es)::s.H⟩,rfl,h en ck W,?_⟩;have O:=r1.ev hx;simp only[Qe] at O;generalize K5 φ w.heap.size 1=G at r1 E1 X1 hC U hv O;obtain⟨H2,E2,X2⟩:=nW (k1:=.mg en ck es) hm rfl rfl r1.hp fun h' M' ab X=>⟨U,hk,(QH ab X).2 _ _ hv,W⟩
 have Y:Clear G (upd (look s.H) m (.mg en ck es)) w 1:=fun c hc=>hC c (by
  by_cases e:m=c
  ·subst e;rw[hm];simp
  ·simpa [upd,e] using hc)
 have Z:upd (look s.H) m (.mg en ck es) b=none:=by simp[upd,J,hb]
 obtain⟨E3,X3⟩:=Xg (w':=w.alloc (.mapIter (some (G m)) ck #[] ck)) (o:=.mapIter (some (G m)) ck #[] ck) (b:=b) (k:=.it m ck #[]) (M0:=M0) rfl rfl rfl rfl Z H2 Y
 have aa:RelB (Qx G b w.heap.size) (upd (upd (look s.H) m (.mg en ck es)) b (.it m ck #[])) (w.alloc (.mapIter (some (G m)) ck #[] ck)) (MM (Qx G b w.heap.size) (upd (upd (look s.H) m (.mg en ck es)) b (.it m ck #[])) M0) w.heap.size (.it m ck #[]):=by
  refine⟨?_,.mg en ck es,by simp[upd,Ne.symm J],rfl⟩;have:Qx G b w.heap.size m=G m:=by simp[Qx,Ne.symm J]
  rw[this];show(w.heap.push _)[w.heap.size]?=_;simp
 refine⟨_,.pointer (some ⟨w.heap.size,0,none⟩),_,Qx G b w.heap.size,?_,.inl rfl,?_,Xh rfl Z H2 Y E3 X3 aa,E1.trans (E2.trans E3),Y4.trans (Kt _) X1 (Y4.trans (Kt _) X2 X3)⟩
 ·simp[execOp,ho,O.1,run_range_map w t kt e _ en ck ht U]
 ·simp only[Qe];exact⟨by simp[Qx],.it m ck #[],by simp[look],rfl⟩
theorem Ww{m:Nat}{sn:Array Nat}{k:List UInt8}{v:AV}(i:Nat)(hB:Gi en ck)(ho:o.op=.entry x)(U:es.all (·.1)=true)(hi:es[i]?=some (true,k,v))(h:KU a P N ops Q false ((none,[])::acc) l (St.put (mk ops o s true) o.dst (.tup [.p (.val (TU k)),v])))(hw:ZB ops o (look s.T)=some true:=by kernel_rfl)(hd:KD N o.dst=true:=by kernel_rfl)(hx:Zo (look (mk ops o s true).T) x=some (.iv b):=by kernel_rfl)(hb:look s.H b=some (.it m ck (sn.push (QY en i))):=by kernel_rfl)(hm:look s.H m=some (.mg en ck es):=by kernel_rfl):KU a P N ops Q false acc (o::l) s:=by
 refine Oe hw (by rw[ho,hd];rfl) (fun c hc=>by rw[ho] at hc;cases hc) fun φ M0 D ac w r=>⟨_,mk ops o s true,rfl,h,?_⟩
 obtain⟨h1,_⟩:=r.hp.blk b _ hb;obtain⟨h2,Z,hv,_⟩:=r.hp.blk m _ hm;rw[iL U] at Z hv;have hlt:i<es.length:=(CS.1 hi).1;have aa:en.toList.length=es.length:=by simpa using congrArg List.length Z
 have G:en.toList[i]?=some (en.toList[i]'zo):=List.getElem?_eq_getElem _;generalize en.toList[i]'zo=e at G;have O:en[i]?=some e:=by rw[←Array.getElem?_toList];exact G
 have Y:QY en i=e.born:=by simp[QY,O]
 rw[Y] at h1;have W:=r.ev hx;simp only[Qe] at W
 have J:e.key=TU k:=by
  have:=congrArg (·[i]?) Z;simp only[List.getElem?_map,G,hi,Option.map_some,QW] at this;exact this
 refine Qp r (v:=.tuple #[e.key,e.val]) ?_ ?_
 ·simp[execOp,ho,W.1,run_entry_at w _ _ _ _ en ck e h1 h2 (List.mem_of_getElem? G) (iK hB.1)]
 ·simp only[Qe];refine⟨[e.key,e.val],by simp,_,_,rfl,?_,_,_,rfl,?_,rfl⟩
  ·simp[Qe,QM,J]
  ·exact Dx (i:=i) hv (by rw[List.getElem?_map,hi];rfl) (by rw[List.getElem?_map,G];rfl)
end
def uz{R:Type}(F:Option R)(t:Option R→Option R):Prop:=(∀q,t q=q)∨(∀q,t q=none)∨(∀q,t q=F)
theorem QfE{R:Type}{F:Option R}:uz F (fun q=>q):=.inl fun _=>rfl
theorem QhE{R:Type}{F:Option R}:uz F (fun _=>F):=.inr (.inr fun _=>rfl)
theorem jF{R:Type}{F:Option R}:uz F (fun _=>none):=.inr (.inl fun _=>rfl)
theorem iN{R:Type}{F:Option R}{b:Bool}{x y:Option R→Option R}(G:uz F x)(J:uz F y):uz F (fun q=>cond b (x q) (y q)):=by cases b<;>assumption
theorem iO{R V:Type}{F:Option R}{m:Option V}{x:V→Option R→Option R}(G:∀v,uz F (x v)):uz F (fun q=>m.bind fun v=>x v q):=by
 cases m with
|none=>exact jF
|some v=>exact G v
def gL{R:Type}(F D:Option R)(ts:List (Option R→Option R)):Option R:=if ts.all (fun t=>(t F).isSome) then ts.foldr (fun t q=>t q) D else none
theorem zB{R:Type}{F D:Option R}{r:R}:∀{ts:List (Option R→Option R)},(∀t∈ts,uz F t)→(∀t∈ts,(t F).isSome=true)→ts.foldr (fun t q=>t q) D=some r →
  (D=some r∧∀t∈ts,∀q,t q=q)∨F=some r
|[],_,_,h=>.inl ⟨h,fun _ U=>by cases U⟩
|t::ts,O,hS,h=>by
  rw[List.foldr_cons] at h;rcases O t zq with G|G|G
  ·rw[G] at h;rcases zB (fun u hu=>O u (by simp[hu])) (fun u hu=>hS u (by simp[hu])) h with⟨J,W⟩|J
   ·refine .inl ⟨J,fun u hu=>?_⟩;rcases List.mem_cons.1 hu with rfl|hu
    ·exact G
    ·exact W u hu
   ·exact .inr J
  ·have:=hS t zq;rw[G] at this;cases this
  ·rw[G] at h;exact .inr h
theorem nX{R:Type}{D:Option R}:∀{ts:List (Option R→Option R)},(∀t∈ts,∀q,t q=q)→ts.foldr (fun t q=>t q) D=D
|[],_=>rfl
|t::ts,h=>by rw[List.foldr_cons,h t zq];exact nX fun u hu=>h u (by simp[hu])
theorem gP{R:Type}{F D:Option R}{r:R}{ts:List (Option R→Option R)}(U:∀t∈ts,uz F t)(h:gL F D ts=some r) :
  (∀t∈ts,(∀q,t q=q)∨∀q,t q=some r)∧((∀t∈ts,∀q,t q=q)→D=some r):=by
 unfold gL at h;split at h;rotate_left
 ·cases h
 rename_i hS;have hS:∀t∈ts,(t F).isSome=true:=Xb.1 hS;have W:=zB U hS h;constructor
 ·intro t J;rcases U t J with G|G|G
  ·exact .inl G
  ·have:=hS t J;rw[G] at this;cases this
  ·rcases W with⟨_,O⟩|O
   ·exact .inl (O t J)
   ·exact .inr fun q=>by rw[G,O]
 ·intro hid;rw[nX hid] at h;exact h
structure Nx{R:Type}(N:Nat)(q:Option R)(S:St)(Q Qn:R→AX→St→Prop):Prop where
 n:∀r s',q=some r→Weak N s' S→Qn r .normal s'
 x:∀r e s',e≠.normal→Q r e s'→Qn r e s'
section
variable {R:Type}{o:Option R}{P:Program}{N:Nat}{q:Option R}{S s:St}{Q Qn:R→AX→St→Prop}
theorem Es(G:Nx N q S Q Qn)(K:GA)(h:FI K s=some S:=by kernel_rfl):ZC q Qn .normal s:=⟨fun r J=>G.n r s J (Uf h)⟩
theorem QjK(G:Nx N q S Q Qn)(h:ZC o Q (.exit i) s):ZC o Qn (.exit i) s:=⟨fun r J=>G.x r _ s (by intro h;cases h) (h.h r J)⟩
theorem Og{v:AV}(G:Nx N q S Q Qn)(h:ZC o Q (.panic v) s):ZC o Qn (.panic v) s:=⟨fun r J=>G.x r _ s (by intro h;cases h) (h.h r J)⟩
end
theorem rD(J:look s'.T=look s.T)(G:look s'.H=look s.H):Weak N s s':=fun φ M0 D a w r=>⟨φ,by rw[J,G];exact r,by rw[G];exact Q8.refl _ _ _⟩
def Oh(en:Array MapEntry)(sn:Array Nat):Nat:=(leftOf en sn).size
theorem rE{sn:Array Nat}{e:MapEntry}(G:e∈(leftOf en sn).toList):Oh en (sn.push e.born)<Oh en sn:=by
 have J:∀sn:Array Nat,Oh en sn=(en.toList.filter fun x=>!sn.contains x.born).length:=fun sn=>by
  unfold Oh leftOf;rw[←Array.toList_filter,Array.length_toList]
 unfold leftOf at G;rw[Array.toList_filter] at G;rw[J,J]
 have O:(en.toList.filter fun x=>!(sn.push e.born).contains x.born)=(en.toList.filter fun x=>!sn.contains x.born).filter fun x=>!(x.born==e.born):=by
  rw[List.filter_filter];congr 1;funext x;simp only[Array.contains_push];cases sn.contains x.born<;>cases hq:(x.born==e.born)<;>simp_all
 rw[O];generalize (en.toList.filter fun x=>!sn.contains x.born)=L at G ⊢;exact List.length_filter_lt_length_iff_exists.2 ⟨e,G,by simp⟩
section
variable {R:Type}{P:Program}{N:Nat}{ro:Option Nat}{n:Nat}{ops:Array Oper}{o:Oper}{l:List Oper}{B:Code}{s0:St}{Q:R→AX→St→Prop}{x:Operand}
def FM(b m ck:Nat)(sn:Array Nat)(s:St):St:=iG b (.it m ck sn) s
theorem rF{m:Nat}{F D:Option R}(ts:List (Option R→Option R))(hB:Gi en ck)(ak:ops.toList=o::l)(ho:o.op=.next x false)(hw:ZB ops o (look s0.T)=some true)(hd:KD N o.dst=true)(hT:Zo (look (Zm ops o s0.T true)) x=some (.iv b))(ao:look s0.H b=some (.it m ck #[]))(az:look s0.H m=some (.mg en ck es))(O:(m==b)=false)(U:es.all (·.1)=true)(W:ts.length=es.length)(hC:∀t∈ts,uz F t)(Y:∀(sn:Array Nat) (Qn:R→AX→St→Prop),Nx N (none:Option R) s0 Q Qn→KU D P N ops (qF P N ro B Qn) false [(none,[])] l (St.put (mk ops o (FM b m ck sn s0) true) o.dst (.tup [.p (.val (.bool false))])))(an:∀(i:Nat) (t:Option R→Option R) (k:List UInt8) (v:AV),ts[i]?=some t→es[i]?=some (true,k,v)→∀(sn:Array Nat) (q:Option R) (Qn:R→AX→St→Prop),Nx N q (FM b m ck (sn.push (QY en i)) s0) Q Qn→KU (t q) P N ops (qF P N ro B Qn) false [(none,[])] l (St.put (mk ops o (FM b m ck (sn.push (QY en i)) s0) true) o.dst (.tup [.p (.val (.bool true)),.p (.val (TU k)),v]))) :
  Q3 (gL F D ts) P N ro (.loop (.seq (.region n ops false) B)) s0 Q:=by
 refine⟨fun r hr=>?_⟩;obtain⟨c1,c2⟩:=gP hC hr;have O:¬m=b:=by simpa using O
 let good:Nat→Prop:=fun i=>∃t,ts[i]?=some t∧∀q,t q=q
 let ι:={ sn:Array Nat // ∀y∈sn.toList,∃i,good i∧y=QY en i }
 have J:∀sn,look (FM b m ck sn s0).H=upd (look s0.H) b (.it m ck sn):=fun sn=>by funext c;exact Bo s0.H c ao
 refine aH (fun j:ι=>FM b m ck j.1 s0) (fun j:ι=>Oh en j.1) ⟨#[],fun y hy=>by simp at hy⟩ (rD rfl ?_) ?_
 ·rw[J];funext c;by_cases e:b=c
  ·subst e;simp[upd,ao]
  ·simp[upd,e]
 rintro⟨sn,af⟩ K hK
 have key:Q3 (some r) P N ro (.seq (.region n ops false) B) (FM b m ck sn s0) (fun r' e s'=>r'=r→andThen K (Q r) e s'):=by
  refine sS (sG ?_);rw[ak];refine Oe hw (by rw[ho,hd];rfl) (fun c hc=>by rw[ho] at hc;cases hc) fun φ M0 D' ac w rr=>?_
  have aa:look (FM b m ck sn s0).H b=some (.it m ck sn):=by rw[J];simp[upd]
  have ah:look (FM b m ck sn s0).H m=some (.mg en ck es):=by rw[J];simp[upd,Ne.symm O,az]
  obtain⟨h1,hq⟩:=rr.hp.blk b _ aa;obtain⟨h2,hk,hv,_⟩:=rr.hp.blk m _ ah;rw[iL U] at hk hv;have aq:en.toList.length=es.length:=by simpa using congrArg List.length hk
  have Z:=rr.ev (x:=x) (v:=.iv b) hT;simp only[Qe] at Z;rcases run_next_at (P:=P) w o.type (φ b) (φ m) ck ck sn en ck h1 h2 hB.2 (Kt _) with⟨g1,g2⟩|⟨e,g1,w1,g2,g3⟩
  ·
   have hD:D=some r:=by
    refine c2 fun t ht=>?_
    obtain⟨i,hi⟩:=List.getElem?_of_mem ht;have hlt:i<en.toList.length:=by rw[aq,←W];exact(CS.1 hi).1
    have aj:(en.toList[i]).born∈sn.toList:=by
     have h5:en.toList[i]∈en.toList:=List.getElem_mem _;apply Classical.byContradiction;intro aw
     have:en.toList[i]∈(leftOf en sn).toList:=by
      simp only[leftOf,Array.toList_filter,List.mem_filter,Bool.not_eq_true'];refine⟨h5,?_⟩;rw[←Bool.not_eq_true,Array.contains_iff_mem];exact fun h=>aw (Array.mem_toList_iff.2 h)
     have h6:(leftOf en sn).toList=[]:=by
      rw[←List.length_eq_zero_iff,Array.length_toList];exact g1
     rw[h6] at this;cases this
    obtain⟨j,⟨t',ab,hid⟩,hj⟩:=af _ aj;have av:j<en.toList.length:=by rw[aq,←W];exact(CS.1 ab).1
    have au:QY en j=(en.toList[j]).born:=by
     have:en[j]?=some (en.toList[j]):=by rw[←Array.getElem?_toList];exact List.getElem?_eq_getElem _
     simp only[QY,this,Option.map_some,Option.getD_some]
    rw[au] at hj
    have ax:i=j:=by
     have hp:=List.pairwise_iff_getElem.1 hB.1;have h8:i<(en.toList.map (·.born)).length:=by simpa using hlt
     have h9:j<(en.toList.map (·.born)).length:=by simpa using av
     rcases Nat.lt_trichotomy i j with h|h|h
     ·have:=hp i j h8 h9 h;rw[List.getElem_map,List.getElem_map] at this;omega
     ·exact h
     ·have:=hp j i h9 h8 h;rw[List.getElem_map,List.getElem_map] at this;omega
    subst ax;rw[hi] at ab;cases ab;exact hid
   refine⟨.tup [.p (.val (.bool false))],mk ops o (FM b m ck sn s0) true,rfl,?_,?_⟩
   ·have:=Y sn (fun r' e s'=>r'=r→andThen K (Q r) e s') ⟨fun _ _ h=>(by cases h),fun r' e s' hne h G=>(by
     subst G;cases e with
    |normal=>exact absurd rfl hne
    |_=>exact h)⟩
    exact⟨fun r' G=>by cases G;exact this.h r hD⟩
   ·refine Qp rr (v:=.tuple #[.bool false]) ?_ ?_
    ·simp[execOp,ho,Z.1,g2]
    ·simp only[Qe];exact⟨[.bool false],rfl,_,_,rfl,by simp[Qe,QM],rfl⟩
  ·obtain⟨i,hi⟩:=List.getElem?_of_mem ((by simpa [leftOf] using g1:e∈en.toList∧_).1);have hlt:i<en.toList.length:=(CS.1 hi).1;obtain⟨t,ht⟩:∃t,ts[i]?=some t:=⟨_,List.getElem?_eq_getElem zo⟩;obtain⟨⟨fl,k,v⟩,he⟩:∃q,es[i]?=some q:=⟨_,List.getElem?_eq_getElem zo⟩;have ay:fl=true:=Xb.1 U _ (List.mem_of_getElem? he);subst ay;have am:en[i]?=some e:=by rw[←Array.getElem?_toList];exact hi
   have ae:QY en i=e.born:=by simp[QY,am]
   have al:e.key=TU k:=by
    have:=congrArg (·[i]?) hk;simp only[List.getElem?_map,hi,he,Option.map_some,QW] at this;exact this
   obtain⟨q,BC,Rl⟩:∃q:Option R,t q=some r∧(q=none∨∀q,t q=q):=by
    rcases c1 t (List.mem_of_getElem? ht) with h|h
    ·exact⟨some r,h _,.inr h⟩
    ·exact⟨none,h _,.inl rfl⟩
   refine⟨.tup [.p (.val (.bool true)),.p (.val (TU k)),v],mk ops o (FM b m ck (sn.push (QY en i)) s0) true,rfl,?_,?_⟩
   ·have:=an i t k v ht he sn q (fun r' e s'=>r'=r→andThen K (Q r) e s') ⟨fun r' s' h3 h4 h5=>(by
      rcases Rl with rfl|hid
      ·cases h3
      ·refine hK s' ⟨⟨sn.push (QY en i),fun y hy=>?_⟩,?_,h4⟩
       ·rw[Array.toList_push,List.mem_append,List.mem_singleton] at hy;rcases hy with hy|rfl
        ·exact af y hy
        ·exact⟨i,⟨t,ht,hid⟩,rfl⟩
       ·show Oh en (sn.push (QY en i))<Oh en sn;rw[ae];exact rE g1),fun r' e s' hne h G=>(by
     subst G;cases e with
    |normal=>exact absurd rfl hne
    |_=>exact h)⟩
    exact⟨fun r' G=>by cases G;exact this.h r BC⟩
   ·have E0:Q8 φ (look (FM b m ck sn s0).H) w φ (look (FM b m ck sn s0).H) w1:=by
     rcases g2 with rfl|rfl
     ·exact Q8.refl _ _ _
     ·exact Rn rfl rfl rfl rfl
    have X0:Y4 φ (look (FM b m ck sn s0).H) w φ (look (FM b m ck sn s0).H) w1:=by
     rcases g2 with rfl|rfl
     ·exact Y4.refl _ _ _
     ·exact GX rfl
    have ad:ZN φ (look (FM b m ck sn s0).H) w1 M0:=by
     rcases g2 with rfl|rfl
     ·exact rr.hp
     ·exact CV (w:=w) (w':=w.drew) rfl E0 rr.hp
    have a6:w1.heap[φ b]?=some (.mapIter (some (φ m)) ck sn ck):=by rcases g2 with rfl|rfl<;>exact h1
    obtain⟨E,X⟩:=Np (k1:=.it m ck (sn.push e.born)) (ob:=.mapIter (some (φ m)) ck (sn.push e.born) ck) aa rfl rfl ad
    have a7:look (mk ops o (FM b m ck (sn.push (QY en i)) s0) true).H=upd (look (FM b m ck sn s0).H) b (.it m ck (sn.push e.born)):=by
     show look (FM b m ck (sn.push (QY en i)) s0).H=_;rw[J,J,ae];funext c;by_cases e:b=c
     ·subst e;simp[upd]
     ·simp[upd,e]
    rw[a7]
    have ai:RelB φ (upd (look (FM b m ck sn s0).H) b (.it m ck (sn.push e.born))) (w1.putObj (φ b) (.mapIter (some (φ m)) ck (sn.push e.born) ck)) (MM φ (upd (look (FM b m ck sn s0).H) b (.it m ck (sn.push e.born))) M0) (φ b) (.it m ck (sn.push e.born)) :=
     ⟨World.putObj_heap_same (Ls.1 a6).1,.mg en ck es,by simp[upd,Ne.symm O,ah],rfl⟩
    have ar:=(QH (E.keeps M0) X).2 _ _ ((QH (E0.keeps M0) X0).2 _ _ hv);refine⟨_,.tuple #[.bool true,e.key,e.val],w1.putObj (φ b) (.mapIter (some (φ m)) ck (sn.push e.born) ck),φ,?_,.inl rfl,?_,Aj aa rfl rfl ad ai,E0.trans E,Y4.trans E0.size X0 X⟩
    ·simp[execOp,ho,Z.1,g3];rfl
    ·simp only[Qe];refine⟨[.bool true,e.key,e.val],rfl,_,_,rfl,by simp[Qe,QM],_,_,rfl,by simp[Qe,QM,al],_,_,rfl,?_,rfl⟩;exact Dx (i:=i) ar (by rw[List.getElem?_map,he];rfl) (by rw[List.getElem?_map,hi];rfl)
 exact Ai (key.h r rfl) fun e s' h=>h rfl
def MP{R:Type}(f:Nat→(Option R→Option R)→List UInt8→AV→Prop):Nat→List (Option R→Option R)→List (Bool×List UInt8×AV)→Prop|i,t::ts,e::es=>f i t e.2.1 e.2.2∧MP f (i+1) ts es|_,_,_=>True
theorem Qcw{R:Type}{f:Nat→(Option R→Option R)→List UInt8→AV→Prop}:MP f i [] es:=by unfold MP;trivial
theorem Wx{R:Type}{f:Nat→(Option R→Option R)→List UInt8→AV→Prop}{t:Option R→Option R}{ts:List (Option R→Option R)}{e:Bool×List UInt8×AV}(h:f i t e.2.1 e.2.2)(hs:MP f (i+1) ts es):MP f i (t::ts) (e::es):=⟨h,hs⟩
theorem nY{R:Type}{f:Nat→(Option R→Option R)→List UInt8→AV→Prop}:∀{ts:List (Option R→Option R)} {es:List (Bool×List UInt8×AV)} {j i:Nat} {t:Option R→Option R} {e:Bool×List UInt8×AV},MP f j ts es→ts[i]?=some t→es[i]?=some e→f (j+i) t e.2.1 e.2.2
|[],_,_,_,_,_,_,h,_=>by simp at h
|_::_,[],_,_,_,_,_,_,h=>by simp at h
|t0::ts,O::es,j,0,t,e,h,J,G=>by
  simp only[List.getElem?_cons_zero,QW] at J G;subst J G;exact h.1
|t0::ts,O::es,j,i+1,t,e,h,J,G=>by
  have:=nY h.2 (by simpa using J) (by simpa using G) (i:=i)
  rwa [show j+1+i=j+(i+1) by omega] at this
theorem iP{R:Type}{F:Option R}:∀t∈([]:List (Option R→Option R)),uz F t:=fun _ h=>by cases h
theorem rG{R:Type}{F:Option R}{t:Option R→Option R}{ts:List (Option R→Option R)}(h:uz F t)(hs:∀u∈ts,uz F u):∀u∈t::ts,uz F u:=fun u hu=>by
 rcases List.mem_cons.1 hu with rfl|hu
 ·exact h
 ·exact hs u hu
theorem gQ{m:Nat}{F D:Option R}(ts:List (Option R→Option R))(hB:Gi en ck)(W:ops.toList=o::l)(ho:o.op=.next x false)(hw:ZB ops o (look s0.T)=some true)(hd:KD N o.dst=true)(hT:Zo (look (Zm ops o s0.T true)) x=some (.iv b))(aa:look s0.H b=some (.it m ck #[]))(Y:look s0.H m=some (.mg en ck es))(Z:(m==b)=false)(J:es.all (·.1)=true)(O:ts.length=es.length)(hC:∀t∈ts,uz F t)(G:∀(sn:Array Nat) (Qn:R→AX→St→Prop),Nx N (none:Option R) s0 Q Qn→KU D P N ops (qF P N ro B Qn) false [(none,[])] l (St.put (mk ops o (FM b m ck sn s0) true) o.dst (.tup [.p (.val (.bool false))])))(U:MP (fun i t k v=>∀(sn:Array Nat) (q:Option R) (Qn:R→AX→St→Prop),Nx N q (FM b m ck (sn.push (QY en i)) s0) Q Qn→KU (t q) P N ops (qF P N ro B Qn) false [(none,[])] l (St.put (mk ops o (FM b m ck (sn.push (QY en i)) s0) true) o.dst (.tup [.p (.val (.bool true)),.p (.val (TU k)),v]))) 0 ts es) :
  Q3 (gL F D ts) P N ro (.loop (.seq (.region n ops false) B)) s0 Q :=
 rF ts hB W ho hw hd hT aa Y Z J O hC G fun i t k v h1 h2=>by
  have:=nY U h1 h2
  rwa [Nat.zero_add] at this
end
section
variable {R:Type}{a:Option R}{P:Program}{N:Nat}{ops:Array Oper}{o:Oper}{l:List Oper}{acc:List YA}{s:St}{Q:R→AX→St→Prop}
def QfF(P:Program)(T:Nat→Option AV)(h:QN)(t:TypeId)(x ix y:Operand):KN:=(JW P T h t x ix y).getD (.p (.val undef),none,[])
theorem Oi{t:TypeId}(hw:ZB ops o (look s.T)=some true)(G:o.op=.insert t x ix y)(Y:KD N o.dst=true)(hu:(JW P (look (mk ops o s true).T) (look s.H) t x ix y).isSome=true)(h:KU a P N ops Q false ((none,[])::acc) l (Xd (mk ops o s true) o.dst (QfF P (look (mk ops o s true).T) (look s.H) t x ix y))):KU a P N ops Q false acc (o::l) s:=by
 refine Oe hw (by rw[G,Y];rfl) (fun c hc=>by rw[G] at hc;cases hc) fun φ M0 D Z w r=>?_
 obtain⟨u,hu⟩:=RY.1 hu;have e:QfF P (look (mk ops o s true).T) (look s.H) t x ix y=u:=by unfold QfF;rw[hu];rfl
 rw[e] at h;have W:=Si (o:={ o with op:=.mapUpdate t x ix y }) r rfl hu;obtain⟨v,q,m⟩:=u;cases q with
|none=>exact⟨v,mk ops o s true,rfl,(show Xd (mk ops o s true) o.dst (v,none,m)=St.put (mk ops o s true) o.dst v by cases o.dst<;>rfl)▸h,by
   obtain⟨J,v',w',φ',U,O⟩:=W;exact⟨J,v',w',φ',by rw[←U];simp[execOp,G],O⟩⟩
|some q =>
  obtain⟨b,k⟩:=q
  exact⟨v,⟨(mk ops o s true).T,(b,k)::s.H⟩,rfl,(show Xd (mk ops o s true) o.dst (v,some (b,k),m)=St.put ⟨(mk ops o s true).T,(b,k)::s.H⟩ o.dst v by cases o.dst<;>rfl)▸h,by
   obtain⟨J,v',w',φ',U,O⟩:=W;refine⟨J,v',w',φ',by rw[←U];simp[execOp,G],?_⟩;show _∧_;rw[show look ((b,k)::s.H)=ap (look s.H) (some (b,k)) from lN _ _ _];exact O⟩
end
section
variable {P:Program}{ops:Array Oper}{Q:Exit→Act→World→Prop}{k:Nat}{ok:Oper}
theorem rH(h:Ap k ops=true)(hq:¬LetsOut Q)(hp:∀c a w v,Q (.panic c) (a.put ((ops[k]?).bind (·.dst)) v) w→Q (.panic c) a w)(hh:wpAny P .any (Xk k ops) Q (Xk k ops).size (Array.replicate (Xk k ops).size false) a w) :
  wpAny P .any ops Q ops.size (Array.replicate ops.size false) a w:=by
 unfold Ap at h;cases hk:ops[k]? with
|none=>rw[hk] at h;cases h
|some ok =>
  rw[hk] at h;simp only[ZG] at h;obtain⟨⟨⟨O,ad⟩,ae⟩,W⟩:=h;have ai:k<ops.size:=(Ls.1 hk).1;rw[gD hk] at hh;obtain⟨n,Z⟩:∃n,ops.size=n+1:=⟨ops.size-1,by omega⟩
  have Y:∃x,ok.op=.move x∧ok.guard=none:=by
   unfold gz at O;split at O
   ·exact⟨_,by assumption,by assumption⟩
   ·cases O
  obtain⟨x,ah,U⟩:=Y
  have J:∀w,(execOp a.eval ok).run P w=.ok (.value (a.eval x)) w:=by
   intro w;simp[execOp,ah]
  have hy:Yields P ops ok (a.eval x) a:=.inl ⟨by simp[Region.wanted,U],J⟩
  have af:(0:Nat)∈Region.ready .any (Xk k ops) (Array.replicate (n+1) false):=by
   rw[mem_ready];exact⟨by simp,_,MH hk,fun e he=>by simp at he⟩
  have ab:k∈Region.ready .any ops (Array.replicate (n+1) false):=by
   rw[mem_ready];refine⟨by simp[show k<n+1 by omega],ok,hk,fun e he hb=>?_⟩;have:=Xb.1 ad e (by simpa using he);rw[hb] at this;cases this
  rw[Z] at hh ⊢;have G:=hh.2 0 af;unfold wpOp at G;rw[MH hk] at G;simp only[Region.wanted,U,if_true] at G
  have h3:wpAny P .any (Xk k ops) Q n ((Array.replicate (n+1) false).setIfInBounds 0 true) (a.put ok.dst (a.eval x)) w:=by
   rcases G with G|⟨_,G⟩
   ·unfold Oper.wp at G;rw[show ∀g,execOp a.eval { dst:=ok.dst,op:=ok.op,type:=ok.type,pos:=ok.pos,after:=#[],guard:=g }=execOp a.eval ok from fun _=>rfl,J w] at G;exact G
   ·exact absurd G hq
  have h4:wpAny P .any ops Q n ((Array.replicate (n+1) false).setIfInBounds k true) (a.put ok.dst (a.eval x)) w:=by
   refine gF hk n _ _ _ w (by simp[Z]) (by simp[Z]) zq ?_ ?_ h3
   ·have:k<n+1:=by omega
    simp[this]
   ·intro i hi;rw[getD_set_ne false (ic hi).symm,getD_set_ne false (Ne.symm hi)];simp[Array.getElem?_replicate];split<;>split<;>rfl
  exact wpAny_first hk (Region.noSelect_spec ae) (fun c a w h=>hp c a w _ (by rw[hk];exact h)) n _ a w (fun j oj hj hne aa ac=>Region.free_spec hk (by rw[Z] at W;exact W) j oj hj hne aa ac) ab hy h4
end
def LK(d:Option Tmp)(s:St):St:=⟨s.T.filter fun p=>some p.1 != d,s.H⟩
theorem RH{d:Option Tmp}{t:Nat}{x:AV}:∀{T:List (Nat×AV)},look (T.filter fun p=>some p.1 != d) t=some x→look T t=some x∧d≠some t
|[],h=>by cases h
|(c,y)::T,h=>by
  by_cases e:some c=d
  ·have hf:((c,y)::T).filter (fun p=>some p.1 != d)=T.filter fun p=>some p.1 != d:=by simp[e]
   rw[hf] at h;have O:=RH h;refine⟨?_,O.2⟩;have G:c≠t:=fun J=>O.2 (by rw[←e,J])
   simp[look,G,O.1]
  ·have hf:((c,y)::T).filter (fun p=>some p.1 != d)=(c,y)::T.filter fun p=>some p.1 != d:=by simp[e]
   rw[hf] at h;simp only[look] at h ⊢;by_cases G:c=t
   ·subst G;simp only[if_true] at h ⊢;exact⟨h,fun J=>e J.symm⟩
   ·simp only[G,if_false] at h ⊢;exact RH h
def qd{R:Type}(d:Option Tmp)(Q:R→AX→St→Prop):R→AX→St→Prop:=fun r x s=>match x with|.normal=>Q r .normal s|.panic v=>Q r (.panic v) (LK d s)|_=>False
theorem iQ{d:Option Tmp}(r:Zn φ M0 N D (look s.T) (look s.H) (a.put d v) w):Zn φ M0 N D (look (LK d s).T) (look (LK d s).H) a w:=by
 cases d with
|none =>
  refine⟨r.dfs,r.siz,r.hp,fun t x G=>r.tm t x (RH G).1⟩
|some d =>
  refine⟨r.dfs,by have:=r.siz;simpa [Act.put] using this,r.hp,fun t x G=>?_⟩;obtain⟨U,O⟩:=RH G;have J:=r.tm t x U;have:d≠t:=fun e=>O (by rw[e])
  have e:(a.put (some d) v).tmps.getD t undef=a.tmps.getD t undef:=by simp[Act.put,Array.getElem?_setIfInBounds_ne this]
  rw[e] at J;exact J
theorem rJ{d:Option Tmp}(r:Zn φ M0 N D (look s.T) (look s.H) a w):Zn φ M0 N D (look (LK d s).T) (look (LK d s).H) a w :=
 ⟨r.dfs,r.siz,r.hp,fun t x G=>r.tm t x (RH G).1⟩
theorem drop_drop(d:Option Tmp)(s:St):LK d (LK d s)=LK d s:=by simp[LK,List.filter_filter]
theorem iU{R:Type}{G:R}{Q:R→AX→St→Prop}(k:Nat)(W:P.follows .mixedOrders=true)(J:U5 ops=true)(hf:Ap k ops=true)(h:KX P N (Xk k ops) (qd ((ops[k]?).bind (·.dst)) Q G) (Xk k ops).toList [] s):Ex P N ro (.region id ops true) s (Q G):=by
 intro φ M0 D a w r;refine wpIn_region_any W (MC J WT _ _ _ _ ?_);have U:=IE h r
 have O:=rH hf WT (fun c a' w' v hc=>by
  obtain⟨φ',x,s',g1,g2,g3,g4⟩:=hc;cases x with
 |normal=>cases g4
 |exit i=>cases g4
 |ret=>cases g4
 |panic u =>
   refine⟨φ',.panic u,LK ((ops[k]?).bind (·.dst)) s',?_,iQ g2,g3,g4⟩;show Q G (.panic u) (LK _ (LK _ s'));rw[drop_drop];exact g1) U
 refine XX ?_ _ _ _ _ O;rintro e a' w' ⟨φ',x,s',g1,g2,g3,g4⟩;cases x with
|normal=>exact⟨φ',.normal,s',g1,g2,g3,g4⟩
|exit i=>exact g1.elim
|ret=>exact g1.elim
|panic v=>exact⟨φ',.panic v,LK ((ops[k]?).bind (·.dst)) s',g1,rJ g2,g3,g4⟩
section
variable {R:Type}{a:Option R}{P:Program}{N:Nat}{ro:Option Nat}{id:Nat}{ops:Array Oper}{s s':St}{Q:R→AX→St→Prop}{d:Option Tmp}{v:AV}
theorem iV(k:Nat)(O:P.follows .mixedOrders=true)(G:U5 ops=true)(hf:Ap k ops=true)(h:KU a P N (Xk k ops) (qd ((ops[k]?).bind (·.dst)) Q) true [] (Xk k ops).toList s):Q3 a P N ro (.region id ops true) s Q:=⟨fun r J=>iU k O G hf (h.h r J)⟩
theorem QjL(h:ZC a Q .normal s):ZC a (qd d Q) .normal s:=⟨fun r G=>h.h r G⟩
theorem QjM(e:LK d s=s')(h:ZC a Q (.panic v) s'):ZC a (qd d Q) (.panic v) s:=by
 subst e;exact⟨fun r G=>h.h r G⟩
end
abbrev FV:=Fn×Array Value×Array Value
def fv(x:FV):Value:=.func x.1 x.2.1 x.2.2
def isFn:Option AV→Bool|some (.fn _ _ _)=>true|_=>false
theorem jG{o:Option AV}(J:isFn o=true):∃x,o=some x∧∀v,Qe φ h w M x v→∃u:FV,v=fv u:=by
 match o,J with
|some (.fn f a b),_ =>
  refine⟨_,rfl,fun v G=>?_⟩;simp only[Qe] at G;obtain⟨l,m,rfl,_⟩:=G;exact⟨(f,l.toArray,m.toArray),rfl⟩
theorem NQ{R:Type}{a:Option R}{Q:R→AX→St→Prop}(b k:Nat)(hb:isFn (cellAt b k s)=true)(h:∀u:FV,Q3 a P N ro c (Uj b k (.p (.val (fv u))) s) Q):Q3 a P N ro c s Q:=by
 refine⟨fun r Z=>?_⟩;intro φ M0 D U w r1;obtain⟨y,hy,O⟩:=jG (φ:=φ) (h:=look s.H) (w:=w) (M:=MM φ (look s.H) M0) hb;obtain⟨vP,cs,J,Rl⟩:=Hy hy;obtain⟨c1,g1,g2⟩:=r1.hp.blk b _ J;obtain⟨u,g3,g4⟩:=UU g2 Rl;obtain⟨u,rfl⟩:=O u g4;have W:look (Uj b k (.p (.val (fv u))) s).H=upd (look s.H) b (.box vP (cs.set k (.p (.val (fv u))))):=NJ J
 have Y:Zn φ M0 N D (look (Uj b k (.p (.val (fv u))) s).T) (look (Uj b k (.p (.val (fv u))) s).H) U w:=by
  rw[W];refine Au r1 J fun c2 G=>?_
  rw[g1] at G;cases G;exact XJ g2 g3 (by simp[Qe,QM])
 have E1:Q8 φ (look s.H) w φ (look (Uj b k (.p (.val (fv u))) s).H) w:=by rw[W];exact DZ J
 exact wpIn_mono ((h u).h r Z φ M0 D U w Y) fun _ _ _ p=>p.trans E1
theorem Oj{R:Type}{a:Option R}{K:R→St→Prop}{Q:R→AX→St→Prop}{cs:List AV}(k:Nat)(Z:isFn (cs[k]?)=true)(h:∀u:FV,BA a P N f (.agg (cs.set k (.p (.val (fv u))))::args) dst s K Q):BA a P N f (.agg cs::args) dst s K Q:=by
 refine⟨fun r Y=>?_⟩;intro φ M0 D ac w vs r1 O;simp only[Qi] at O;obtain⟨y,ys,rfl,W,J⟩:=O;simp only[Qe] at W;obtain⟨l,rfl,U⟩:=W;obtain⟨x,hx,G⟩:=jG (φ:=φ) (h:=look s.H) (w:=w) (M:=MM φ (look s.H) M0) Z;obtain⟨u,g1,g2⟩:=UU U hx;obtain⟨u,rfl⟩:=G u g2;refine(h u).h r Y φ M0 D ac w _ r1 ?_;simp only[Qi];refine⟨_,ys,rfl,?_,J⟩;simp only[Qe];exact⟨l,rfl,by have:=XJ (k:=k) (x:=.p (.val (fv u))) (u:=fv u) U g1 (by simp[Qe,QM]);exact this⟩
theorem XC(m:Nat)(es:List (Bool×List UInt8×AV))(G:look s.H m=some (.mg en ck es):=by kernel_rfl):Weak N s (iG m (.mf es) s):=by
 intro φ M0 D a w r;have Z:look (iG m (.mf es) s).H=upd (look s.H) m (.mf es):=by funext c;exact Bo s.H c G
 obtain⟨Y,O,h3,W⟩:=r.hp.blk m _ G;obtain⟨H2,E2,U⟩:=nW (k1:=.mf es) G rfl rfl r.hp fun h' M' J X=>⟨en,ck,Y,O,(QH J X).2 _ _ h3,W⟩
 rw[Z];exact⟨φ,r.keep E2 U H2,E2⟩
def kOf(s:St):GA:=⟨s.T.map (·.1),s.H.map (·.1),[],[]⟩
section
variable {R V:Type}{o:Option R}{P:Program}{N:Nat}{ro:Option Nat}{c y:Code}{s:St}{Q:R→AX→St→Prop}{ops:Array Oper}{draw:Bool}{id:Nat}
theorem Qj(J:P.follows .mixedOrders=true)(s':St)(h:Q3 o P N ro y s' Q)(G:(DL P N ops draw s).bind (FI (kOf s'))=some s':=by kernel_rfl):Q3 o P N ro (.seq (.region id ops draw) y) s Q:=sR J _ s' G h
theorem Qk(s':St)(h:Q3 o P N ro y s' Q)(hw:FI (kOf s') s=some s':=by kernel_rfl):ZC o (qF P N ro y Q) .normal s:=sN _ s' hw h
theorem SX(s':St)(h:Q3 o P N ro c s' Q)(hw:FI (kOf s') s=some s':=by kernel_rfl):Q3 o P N ro c s Q:=sP _ s' hw h
theorem Q6{S:V→St}(v:V)(hw:FI (kOf (S v)) s=some (S v):=by kernel_rfl):ZC (some v) (aO N S) .normal s:=aP v _ hw
theorem YZ{k:V→Option R}{S:V→St}(v:V)(hw:FI (kOf (S v)) s=some (S v):=by kernel_rfl):ZC (k v) (kQ N k S Q) .normal s:=Qhu v _ hw
theorem FN(h:FI (kOf s') s=some s':=by kernel_rfl):Weak N s s':=Uf h
end
def c8b(c:UInt8):List PV:=[.val (.int .u8 c.toNat)]
section
variable {P:Program}{N:Nat}{D:DB}{o:Oper}{φ:Nat→Nat}{M0:ZK}{T:Nat→Option AV}{h:QN}{a:Act}{w:World}
theorem Jf(b:List UInt8):(Je b).size=b.length:=by simp[Je,ByteArray.size]
theorem D5{t u:TypeId}{s:Operand}(G:o.op=.call ⟨.builtin .append,#[s,x],#[t,u]⟩)(J:(Builtin.append_ #[t,u] o.type #[a.eval s,a.eval x]).run P w=.ok v w') :
  (execOp a.eval o).run P w=.ok (.value v) w':=by
 simp[execOp,G,resolve,invoke,builtin,J]
theorem Ol:∀b:List UInt8,(b.map c8b).flatten=b.map fun c=>PV.val (.int .u8 c.toNat)
|[]=>rfl
|c::b=>by
  simp only[Yy,List.flatten_cons,Ol b];rfl
set_option maxHeartbeats 1000000 in
theorem rM(r:Zn φ M0 N D T h a w){t u:TypeId}{i:TypeInfo}{s:Operand}{es:List (List PV)}{b:List UInt8}(ho:o.op=.call ⟨.builtin .append,#[s,x],#[t,u]⟩)(ht:P.underlying t=some (.slice ty))(hu:P.underlying u=some .string)(hi:P.info? ty=some i)(ae:i.size=1)(av:i.bytes=1)(hz:i.zero=some z)(az:z.cells.size=i.size∧0<i.size)(hs:Zo T s=some (.tsl i.size es tk))(hx:Zo T x=some (.p (.val (.string (Je b)))))(Y:h tk=some (.arr ty i.size es.length))(a7:es.length+es'.length≤140737488355328)(am:es'=b.map c8b)(bb:b≠[]) :
  Yield P o φ M0 h a w (.tsl i.size (es++es') tk) (upd h tk (.arr ty i.size (es.length+es'.length))):=by
 have aj:es'.length=b.length:=by rw[am];simp
 have bc:(es.length+es'.length)*i.bytes≤140737488355328:=by rw[av];omega
 obtain⟨l,hl⟩:∃l:List Value,l=b.map fun c=>Value.int .u8 c.toNat:=⟨_,rfl⟩
 have h3:∀e∈es',e.length=i.size:=by
  intro e he;rw[am] at he;obtain⟨c,_,rfl⟩:=List.mem_map.1 he;rw[ae];rfl
 have h5:l.length=es'.length*i.size:=by rw[aj,ae,hl];simp
 have h7:∀v∈l,v.oneCell'=true:=by
  intro v hv;rw[hl] at hv;obtain⟨c,_,rfl⟩:=List.mem_map.1 hv;rfl
 have bf:0<es'.length:=by rw[aj];exact List.length_pos_iff.2 bb
 refine Yield.of_lift r 1 fun φ r E0 X0 hC=>?_
 have h8:∀(j:Nat) (c:PV) (v:Value),es'.flatten[j]?=some c→l[j]?=some v→QM w (MM φ h M0) c v:=by
  intro j c v O hv;have hf:es'.flatten=b.map fun c=>PV.val (.int .u8 c.toNat):=by rw[am,Ol]
  rw[hf,List.getElem?_map] at O;rw[hl,List.getElem?_map] at hv;cases hb:b[j]? with
 |none=>rw[hb] at O;cases O
 |some q =>
   rw[hb] at O hv;simp only[Option.map_some,QW] at O hv;subst O;subst hv;simp[QM]
 have ax:a.eval x=.string (Je b):=by
  have:=r.ev hx;simpa [Qe,QM] using this
 have a6:=r.ev hs;simp only[Qe] at a6;obtain⟨a8,V4,n2,aq,bh,ao⟩:=a6;rw[Y] at aq;cases aq;rcases ao rfl with⟨bd,ah,_⟩|⟨J,c0,ah,aw,ad,be,af⟩
 ·have ay:es=[]:=List.length_eq_zero_iff.1 bd;subst ay;simp only[List.length_nil,Nat.zero_add] at bc a7 Y ⊢
  have ab:(Builtin.append_ #[t,u] o.type #[.slice none 0 0,.string (Je b)]).run P w=.ok (.slice (some ⟨w.heap.size,0,none⟩) es'.length (grownCap w es'.length 0 ty)) (w.drew.alloc (.cells (l.toArray++Builtin.zeroCells z.cells (grownCap w es'.length 0 ty-es'.length)) ty)):=by
   have:=run_append_nil_string (P:=P) w t u o.type ty i z ht hu hi hz (Je b) (by rw[Jf];omega) (by rw[Jf];omega) (by rw[Jf,av];omega);rw[Jf] at this;rw[aj];refine this.trans ?_;rw[hl];simp[Je]
  have ac:=grownCap_ge w es'.length 0 ty;have al:grownCap w es'.length 0 ty≤maxLen:=grownCap_le_maxLen w es'.length 0 ty (by unfold maxLen;omega);generalize grownCap w es'.length 0 ty=gc at *
  let C:Array Value:=l.toArray++Builtin.zeroCells z.cells (gc-es'.length)
  let w':World:=w.drew.alloc (.cells C ty)
  obtain⟨E,X⟩:=Gx (w:=w) (w':=w') (ob:=.cells C ty) (φ:=φ) (h:=h) (M0:=M0) (n':=es'.length) Y zo rfl rfl rfl rfl r.hp hC
  have aa:C.size=gc*i.size:=by
   simp only[C,Array.size_append,List.size_toArray,size_zeroCells,az.1,h5];rw[←Nat.add_mul];congr 1;omega
  have G:w'.heap[w.heap.size]?=some (.cells C ty (0,0)):=by show(w.heap.push _)[w.heap.size]?=_;simp
  have U:Qx φ tk w.heap.size tk=w.heap.size:=by simp[Qx]
  have hH:ZN (Qx φ tk w.heap.size) (upd h tk (.arr ty i.size es'.length)) w' M0 :=
   Rq Y r.hp E X (fun b hb=>by simp[Qx,Ne.symm hb]) (.inr ⟨U,hC⟩) (fun d hd _=>hC.lt r.hp (w':=w') (by show(w.heap.push _).size≤_;simp) (fun x hx=>by show(w.heap.push _)[x]?=_;rw[Array.getElem?_push,if_neg zo]) hd) (by rw[U];exact G) aa ac al
  refine⟨_,.slice (some ⟨w.heap.size,0,none⟩) es'.length gc,w',Qx φ tk w.heap.size,D5 ho (by rw[ah,ax];exact ab),.inl rfl,?_,hH,E,X⟩
  have W:∀x,x<es'.length*i.size→¬MM (Qx φ tk w.heap.size) (upd h tk (.arr ty i.size es'.length)) M0 w.heap.size x:=fun x hx =>
   Rt (φ:=φ) (h:=h) r.hp hC (d:=tk) (ty:=ty) (S:=i.size) (n:=es'.length) (by simp[upd]) U (fun b k hb hk=>⟨by simpa [upd,Ne.symm hb] using hk,by simp[Qx,Ne.symm hb]⟩) hx
  simp only[Qe,QM,List.nil_append];refine⟨.inl ⟨w.heap.size,0,gc,rfl,ac,?_⟩,ty,es'.length,by simp[upd],Kt _,fun _=>.inr ⟨gc,C,by rw[U],by rw[U];exact G,aa,ac,al⟩⟩;rw[KO];refine⟨h3,Xi (l:=l) (by rw[h5,ZA h3]) ?_ ?_ h7 ?_⟩
  ·intro j v O;rw[Kh G];have hlt:j<l.length:=(CS.1 O).1;simp only[Nat.zero_add,C];rw[Array.getElem?_append_left (by simpa using hlt)];simpa using O
  ·intro j O;simp only[Nat.zero_add];exact W j (by rw[←h5];exact O)
  ·intro j c v O hv;exact(Z4 (E.keeps M0)).1 _ _ (h8 j c v O hv)
 have ak:Wl w (MM φ h M0) i.size (φ tk) 0 es:=by
  by_cases ar:es=[]
  ·subst ar;simp[Wl]
  ·obtain⟨r2,o2,bi,l2,g1,_,_,g4,_⟩:=XF a8 ar;rw[ah] at g1;simp only[Value.slice.injEq,QW,Addr.mk.injEq] at g1;obtain⟨⟨rfl,rfl,_⟩,_⟩:=g1;exact g4
 have ai:∀e∈es,e.length=i.size:=((KO es 0).1 ak).1;by_cases Z:es.length+es'.length≤J
 ·have bg:es.length*i.size+l.length≤c0.size:=by rw[h5,ad,←Nat.add_mul];exact Nat.mul_le_mul_right _ Z
  have ab:(Builtin.append_ #[t,u] o.type #[.slice (some ⟨φ tk,0,none⟩) es.length J,.string (Je b)]).run P w=.ok (.slice (some ⟨φ tk,0,none⟩) (es.length+es'.length) J) (w.setRow (φ tk) (c0.toList.take (es.length*i.size)++l++c0.toList.drop (es.length*i.size+l.length)).toArray):=by
   have:=Lib.run_append_room_string (P:=P) w t u o.type ty i ht hu hi ae (φ tk) es.length J c0 aw (Je b) (by rw[Jf];omega) (by rw[Jf,ad,ae];omega);rw[Jf] at this;rw[h5,aj,ae,Nat.mul_one,Nat.mul_one,hl];refine this.trans ?_;simp[Lib.strCells,Je]
  let C:Array Value:=(c0.toList.take (es.length*i.size)++l++c0.toList.drop (es.length*i.size+l.length)).toArray
  have au:(c0.toList.take (es.length*i.size)).length=es.length*i.size:=by simp;omega
  have aa:C.size=c0.size:=by simp[C];omega
  obtain⟨E,X⟩:=EU (φ:=φ) (h:=h) (w:=w) (M0:=M0) (n':=es.length+es'.length) (c':=C) Y aw zo aa (fun x hx=>by
   simp only[C,List.getElem?_toArray];rw[List.append_assoc,List.getElem?_append_left (by rw[au];exact hx),List.getElem?_take,if_pos hx];simp) r.hp
  have G:(w.setRow (φ tk) C).heap[φ tk]?=some (.cells C ty (0,0)):=setRow_heap w _ c0 C ty _ aw
  have hH:ZN φ (upd h tk (.arr ty i.size (es.length+es'.length))) (w.setRow (φ tk) C) M0 :=
   Rq Y r.hp E X (fun _ _=>rfl) (.inl rfl) (fun d hd ba=>setRow_other w _ _ C (fun e=>ba (r.hp.inj d tk hd (by rw[Y];simp) e))) G (by rw[aa,ad]) Z af
  refine⟨_,.slice (some ⟨φ tk,0,none⟩) (es.length+es'.length) J,_,φ,D5 ho (by rw[ah,ax];exact ab),.inl rfl,?_,hH,E,X⟩
  have W:∀x,x<(es.length+es'.length)*i.size→¬MM φ (upd h tk (.arr ty i.size (es.length+es'.length))) M0 (φ tk) x:=by
   rintro x hx (⟨b,k,q1,q2,q3⟩|q1)
   ·by_cases e:tk=b
    ·subst e;have:k=.arr ty i.size (es.length+es'.length):=by simpa [upd] using q1.symm
     subst this;simp only at q3;omega
    ·have q4:h b=some k:=by simpa [upd,e] using q1
     exact e (r.hp.inj b tk (by rw[q4];simp) (by rw[Y];simp) q2).symm
   ·exact r.hp.fr tk (by rw[Y];simp) x q1
  simp only[Qe,QM];refine⟨.inl ⟨φ tk,0,J,by simp,by simpa using Z,?_⟩,ty,es.length+es'.length,by simp[upd],by simp,fun _=>.inr ⟨J,C,rfl,G,by rw[aa,ad],Z,af⟩⟩;rw[VD];refine⟨(Z4 (E.keeps M0)).2.1 _ _ _ _ ak,?_⟩;rw[KO];refine⟨h3,Xi (l:=l) (by rw[h5,ZA h3]) ?_ ?_ h7 ?_⟩
  ·intro j v O;rw[Kh G];have hlt:j<l.length:=(CS.1 O).1;simp only[Nat.zero_add,C,List.getElem?_toArray];rw[List.append_assoc,List.getElem?_append_right (by rw[au];omega),au,List.getElem?_append_left zo];rw[show es.length*i.size+j-es.length*i.size=j from by omega];exact O
  ·intro j O;simp only[Nat.zero_add];refine W _ ?_;rw[h5] at O;rw[Nat.add_mul];omega
  ·intro j c v O hv;exact(Z4 (E.keeps M0)).1 _ _ (h8 j c v O hv)
 ·obtain⟨ol,g1,g2,g3,g4⟩:=Fw _ _ ((KO es 0).1 ak).2;have an:ol.length=es.length*i.size:=by rw[g1,ZA ai]
  have ab:(Builtin.append_ #[t,u] o.type #[.slice (some ⟨φ tk,0,none⟩) es.length J,.string (Je b)]).run P w=.ok (.slice (some ⟨w.heap.size,0,none⟩) (es.length+es'.length) (grownCap w (es.length+es'.length) J ty)) (w.drew.alloc (.cells (ol.toArray++l.toArray++Builtin.zeroCells z.cells (grownCap w (es.length+es'.length) J ty-(es.length+es'.length))) ty)):=by
   have:=Lib.run_append_grow_string (P:=P) w t u o.type ty i z ht hu hi hz ⟨φ tk,0,none⟩ es.length J ol an (fun j v O=>by rw[Addr.add_lit];exact g2 j v O) (Je b) (by rw[Jf];omega) (by rw[Jf];omega) (growslice_fits (by rw[Jf];omega) (by rw[Jf,av];omega));rw[Jf] at this;rw[aj];refine this.trans ?_;rw[hl];simp[Lib.strCells,Je]
  have ac:=grownCap_ge w (es.length+es'.length) J ty;have al:grownCap w (es.length+es'.length) J ty≤maxLen:=grownCap_le_maxLen w _ J ty (by unfold maxLen;omega);generalize grownCap w (es.length+es'.length) J ty=gc at *
  let C:Array Value:=ol.toArray++l.toArray++Builtin.zeroCells z.cells (gc-(es.length+es'.length))
  let w':World:=w.drew.alloc (.cells C ty)
  obtain⟨E,X⟩:=Gx (w:=w) (w':=w') (ob:=.cells C ty) (φ:=φ) (h:=h) (M0:=M0) (n':=es.length+es'.length) Y zo rfl rfl rfl rfl r.hp hC
  have aa:C.size=gc*i.size:=by
   simp only[C,Array.size_append,List.size_toArray,size_zeroCells,az.1,h5,an];rw[←Nat.add_mul,←Nat.add_mul];congr 1;omega
  have G:w'.heap[w.heap.size]?=some (.cells C ty (0,0)):=by show(w.heap.push _)[w.heap.size]?=_;simp
  have U:Qx φ tk w.heap.size tk=w.heap.size:=by simp[Qx]
  have hH:ZN (Qx φ tk w.heap.size) (upd h tk (.arr ty i.size (es.length+es'.length))) w' M0 :=
   Rq Y r.hp E X (fun b hb=>by simp[Qx,Ne.symm hb]) (.inr ⟨U,hC⟩) (fun d hd _=>hC.lt r.hp (w':=w') (by show(w.heap.push _).size≤_;simp) (fun x hx=>by show(w.heap.push _)[x]?=_;rw[Array.getElem?_push,if_neg zo]) hd) (by rw[U];exact G) aa ac al
  refine⟨_,.slice (some ⟨w.heap.size,0,none⟩) (es.length+es'.length) gc,w',Qx φ tk w.heap.size,D5 ho (by rw[ah,ax];exact ab),.inl rfl,?_,hH,E,X⟩
  have W:∀x,x<(es.length+es'.length)*i.size→¬MM (Qx φ tk w.heap.size) (upd h tk (.arr ty i.size (es.length+es'.length))) M0 w.heap.size x:=fun x hx =>
   Rt (φ:=φ) (h:=h) r.hp hC (d:=tk) (ty:=ty) (S:=i.size) (n:=es.length+es'.length) (by simp[upd]) U (fun b k hb hk=>⟨by simpa [upd,Ne.symm hb] using hk,by simp[Qx,Ne.symm hb]⟩) hx
  simp only[Qe,QM];refine⟨.inl ⟨w.heap.size,0,gc,by simp,by simpa using ac,?_⟩,ty,es.length+es'.length,by simp[upd],by simp,fun _=>.inr ⟨gc,C,by rw[U],by rw[U];exact G,aa,ac,al⟩⟩;rw[VD];constructor
  ·rw[KO];refine⟨ai,Xi (l:=ol) g1 ?_ ?_ g3 ?_⟩
   ·intro j v O;rw[Kh G];have hlt:j<ol.length:=(CS.1 O).1;simp only[Nat.zero_add,C];rw[Array.append_assoc,Array.getElem?_append_left (by simpa using hlt)];simpa using O
   ·intro j O;simp only[Nat.zero_add];refine W _ ?_;rw[an] at O;rw[Nat.add_mul];omega
   ·intro j c v O hv;exact(Z4 (E.keeps M0)).1 _ _ (g4 j c v O hv)
  ·rw[KO];refine⟨h3,Xi (l:=l) (by rw[h5,ZA h3]) ?_ ?_ h7 ?_⟩
   ·intro j v O;rw[Kh G];have hlt:j<l.length:=(CS.1 O).1;simp only[Nat.zero_add,C];rw[Array.append_assoc,Array.getElem?_append_right (by simp;omega),Array.getElem?_append_left (by simp;omega)];simp only[List.size_toArray,an,List.getElem?_toArray];rw[show es.length*i.size+j-es.length*i.size=j from by omega];exact O
   ·intro j O;simp only[Nat.zero_add];refine W _ ?_;rw[h5] at O;rw[Nat.add_mul];omega
   ·intro j c v O hv;exact(Z4 (E.keeps M0)).1 _ _ (h8 j c v O hv)
end
section
variable {R:Type}{a:Option R}{P:Program}{N:Nat}{ops:Array Oper}{o:Oper}{l:List Oper}{acc:List YA}{s:St}{Q:R→AX→St→Prop}
theorem GG{t u:TypeId}{bs b:List UInt8}(U:o.op=.call ⟨.builtin .append,#[x,y],#[t,u]⟩)(ht:P.underlying t=some (.slice ty))(hu:P.underlying u=some .string)(hc:(QJ (List.length (bs++b)) 1&&!List.isEmpty b)=true)(h:KU a P N ops Q false ((none,[])::acc) l (St.put ⟨(mk ops o s true).T,s.H.map fun p=>if p.1=tk then(p.1,.arr ty 1 (List.map c8b (bs++b)).length) else p⟩ o.dst (.tsl 1 (List.map c8b (bs++b)) tk)))(hw:ZB ops o (look s.T)=some true:=by kernel_rfl)(hd:KD N o.dst=true:=by kernel_rfl)(hi:(P.info? ty).map (fun i=>(i.size,i.bytes,i.zero))=some (1,1,some (.int .u8 0)):=by kernel_rfl)(hx:Zo (look (mk ops o s true).T) x=some (.tsl 1 (List.map c8b bs) tk):=by kernel_rfl)(hy:Zo (look (mk ops o s true).T) y=some (.p (.val (.string (Je b)))):=by kernel_rfl)(hb:look s.H tk=some (.arr ty 1 (List.map c8b bs).length):=by kernel_rfl):KU a P N ops Q false acc (o::l) s:=by
 refine Oe hw (by rw[U,hd];rfl) (fun c hc=>by rw[U] at hc;cases hc) fun φ M0 D ac w r=>⟨_,⟨(mk ops o s true).T,s.H.map fun p=>if p.1=tk then(p.1,.arr ty 1 (List.map c8b (bs++b)).length) else p⟩,rfl,h,?_⟩
 obtain⟨i,Y,J⟩:=GU.1 hi;simp only[Xu] at J;obtain⟨O,Z,e3⟩:=J;simp only[ZG,Bool.not_eq_true'] at hc;have G:=hc.1;simp only[QJ,Vv,Fh] at G
 have W:b≠[]:=by
  intro e;rw[e] at hc;exact absurd hc.2 zq
 have hH:look (s.H.map fun p=>if p.1=tk then(p.1,.arr ty 1 (List.map c8b (bs++b)).length) else p)=upd (look s.H) tk (.arr ty 1 (List.map c8b (bs++b)).length):=by
  funext c;exact Bo s.H c hb
 show Yield P o φ M0 (look s.H) ac w _ (look (s.H.map fun p=>if p.1=tk then(p.1,.arr ty 1 (List.map c8b (bs++b)).length) else p));rw[hH];have key:=rM (es:=List.map c8b bs) (es':=b.map c8b) (tk:=tk) (b:=b) (i:=i) (z:=.int .u8 0) r U ht hu Y O Z e3 (by rw[O];exact⟨rfl,by omega⟩) (by rw[O];exact hx) hy (by rw[O];exact hb) (by simp only[Jd];omega) rfl W;rw[O] at key;have hl:(List.map c8b (bs++b)).length=(List.map c8b bs).length+(List.map c8b b).length:=by simp
 rw[hl,List.map_append];exact key
theorem gU{Y:Act}{t:TypeId}{g:Nat}{k:IntKind}{n:Int}{G:List (List UInt8)}{x:List UInt8}(r:Zn φ M0 N D T h Y w)(ho:o.op=.indexAddr t (.global g) ix)(ht:P.underlying t=some (.array len e))(hi:(P.info? e).map (·.size)=some 1)(hn:Zo T ix=some (.p (.val (.int k n))))(hg:gfix.contains g=true)(af:G.length=len)(U:∀w,uG w→∀(j:Nat) (y:List UInt8),G[j]?=some y→w.cell? ⟨g,j,none⟩=some (.string (Je y)))(W:QV G n=some x):Yield P o φ M0 h Y w (.eptr [.val (.string (Je x))]) h:=by
 have aa:Y.eval ix=.int k n:=by
  have:=r.ev hn;simpa [Qe,QM] using this
 have J:0≤n∧n<(len:Int)∧G[n.toNat]?=some x:=by
  unfold QV at W;split at W
  ·cases W
  ·rename_i ae;have:=(CS.1 W).1;exact⟨by omega,by omega,W⟩
 obtain⟨j,rfl⟩:=Int.eq_ofNat_of_zero_le J.1;have O:=U w r.hp.gm.w j x (by simpa using J.2.2);obtain⟨inf,ab,Z⟩:=GU.1 hi;refine Qp r (v:=.pointer (some ⟨g,j,none⟩)) ?_ ?_
 ·have hlt:(j:Int)<(len:Int):=J.2.1;have ad:Y.eval (.global g)=.pointer (some ⟨g,0,none⟩):=rfl;simp[execOp,ho,Instr.indexAt,aa,asIntOf,run_underlying ht,ad,Instr.sureAddr,Q9 ab,Z,Addr.add_lit];intro hh;omega
 ·simp only[Qe,Wj,QM];exact⟨g,j,rfl,⟨_,O,r.hp.gm.m g (by simpa using hg) j,rfl,rfl⟩,trivial⟩
theorem QfG{L:List Nat}{c:Nat}{Ch:List (Nat×List Nat)}{k0:List UInt8→Option R}{t:TypeId}{g:Nat}{k:IntKind}{n:Int}{J:List (List UInt8)}(L':List Nat)(hc:ops[c]?=some o)(O:o.op=.indexAddr t (.global g) ix)(hd:KD N o.dst=true)(ht:P.underlying t=some (.array len e))(hi:(P.info? e).map (·.size)=some 1)(hn:Zo (look s.T) ix=some (.p (.val (.int k n))))(hg:gfix.contains g=true)(G:(J.length==len&&Ui ops L c==L')=true)(Y:∀w,uG w→∀(j:Nat) (y:List UInt8),J[j]?=some y→w.cell? ⟨g,j,none⟩=some (.string (Je y)))(hl:∀x,QV J n=some x→Js P ops L' (St.put s o.dst (.eptr [.val (.string (Je x))])))(h:∀x,qG (k0 x) P N ops Q L Ch (St.put s o.dst (.eptr [.val (.string (Je x))]))):qG ((QV J n).bind k0) P N ops Q L ((c,[])::Ch) s:=by
 simp only[ZG,beq_iff_eq] at G;obtain⟨G,hL⟩:=G;cases hx:QV J n with
|none=>exact⟨fun r Z=>by cases Z⟩
|some x =>
  refine⟨fun r Z=>?_⟩;simp only[uw,hc];unfold Ua
  have key:nC P N o s (fun s'=>Js P ops (Ui ops L c) s'∧∃U,RD P N ops [] s'=some U∧uw P N ops (qh ops Q r) L Ch U):=by
   refine⟨fun c hc=>(by rw[O] at hc;cases hc),hd,fun φ M0 D ac w r1=>⟨_,s,rfl,⟨hL▸hl x hx,_,rfl,(h x).h r Z⟩,gU r1 O ht hi hn hg G Y hx⟩⟩
  split
  ·rename_i W;rw[W] at O;cases O
  ·rename_i W;rw[W] at O;cases O
  ·rename_i W;rw[W] at O;cases O
  ·exact .inr key
theorem U7{dr:Bool}(h:KU ((some ()).bind fun _=>a) P N ops Q dr acc l s):KU a P N ops Q dr acc l s:=h
end
theorem iW(b k:Nat)(hb:cellAt b k s=some (.p (.val (.pointer none)))):Weak N s (Uj b k (.sfp b) s):=by
 intro φ M0 D a w r;obtain⟨ty,cs,G,Rl⟩:=Hy hb;have J:look (Uj b k (.sfp b) s).H=upd (look s.H) b (.box ty (cs.set k (.sfp b))):=NJ G;refine⟨φ,?_,?_⟩
 ·show Zn φ M0 N D (look s.T) (look (Uj b k (.sfp b) s).H) a w;rw[J];refine Au r G fun c hc=>?_
  obtain⟨c',g1,g2⟩:=r.hp.blk b _ G;rw[hc] at g1;cases g1;obtain⟨u,g3,g4⟩:=UU g2 Rl;refine XJ g2 g3 ?_;simp only[Qe];exact⟨.inl (by simpa [Qe,QM] using g4),ty,cs,G⟩
 ·rw[J];exact DZ G
def NR(g:Nat)(w w':World):Prop :=w'.os=w.os∧w'.tape=w.tape∧w'.output=w.output∧w.heap.size≤w'.heap.size∧w'.heap.size≤w.heap.size+1∧(∀x,x<w.heap.size→x≠g→w'.heap[x]?=w.heap[x]?)∧(∀x o,x<w.heap.size→w'.cell? ⟨x,o,none⟩=w.cell? ⟨x,o,none⟩)
structure QfH(P:Program)(f:FuncId)(ty te:TypeId):Prop where
 nil:∀(b g:Nat) (p:Value) (w:World),w.heap[b]?=some (.cells #[p,.slice none 0 0] ty (0,0))→Calls P f #[.pointer (some ⟨b,0,none⟩)] w fun e w'=>e=.returned (.string ⟨#[]⟩)∧NR g w w'
 full:∀(b g cap:Nat) (p:Value) (cur:Array Value) (l:List UInt8) (w:World),l≠[]→w.heap[b]?=some (.cells #[p,.slice (some ⟨g,0,none⟩) l.length cap] ty (0,0))→w.heap[g]?=some (.cells cur te (0,0))→l.length≤cap→cap≤maxLen→cur.size=cap →
  (∀(j:Nat) (x:UInt8),l[j]?=some x→w.cell? ⟨g,j,none⟩=some (.int .u8 x.toNat))→Calls P f #[.pointer (some ⟨b,0,none⟩)] w fun e w'=>e=.returned (.string ⟨l.toArray⟩)∧NR g w w'
 noroom:∀(b g:Nat) (p:Value) (cur:Array Value) (w:World),w.heap[b]?=some (.cells #[p,.slice (some ⟨g,0,none⟩) 0 0] ty (0,0))→w.heap[g]?=some (.cells cur te (0,0))→Calls P f #[.pointer (some ⟨b,0,none⟩)] w fun e w'=>e=.returned (.string ⟨#[]⟩)∧NR g w w'
 room:∀(b g cap:Nat) (p:Value) (w:World),cap≠0→w.heap[b]?=some (.cells #[p,.slice (some ⟨g,0,none⟩) 0 cap] ty (0,0))→Calls P f #[.pointer (some ⟨b,0,none⟩)] w fun e w'=>e=.returned (.string ⟨#[]⟩)∧NR g w w'
theorem upd_same{k:Blk}(hb:h b=some k):upd h b k=h:=by
 funext c;simp only[upd];split
 ·rename_i e;rw[←e,hb]
 ·rfl
theorem gV(hU:∀(b:Nat) (w:World),w.cell? ⟨b,0,none⟩=some (.pointer (some ⟨b,0,none⟩))→Calls P f #[.pointer (some ⟨b,0,none⟩)] w fun e w'=>e=.returned (.tuple #[])∧w'=w)(hF:∀(b:Nat) (w:World),w.cell? ⟨b,0,none⟩=some (.pointer none)→w.shape? b=some (ty,2)→w.frozen? ⟨b,0,none⟩=false→Calls P f #[.pointer (some ⟨b,0,none⟩)] w fun e w'=>e=.returned (.tuple #[])∧w'=w.setCell ⟨b,0,none⟩ (.pointer (some ⟨b,0,none⟩)))(G:Option Addr)(J hc:Nat) :
  Y0 P f [.ptr 1000 0] (look [(1000,.box ty [.sfp 1000,.p (.val (.slice G J hc))])]) fun r h'=>r=.ret (.tup [])∧h'=look [(1000,.box ty [.sfp 1000,.p (.val (.slice G J hc))])]:=by
 intro φ M0 w vs r ha;simp only[Qi] at ha;obtain⟨y,ys,rfl,Z,rfl⟩:=ha;simp only[Qe] at Z;obtain⟨rfl,_⟩:=Z;have hb:look [(1000,Blk.box ty [.sfp 1000,.p (.val (.slice G J hc))])] 1000=some (.box ty [.sfp 1000,.p (.val (.slice G J hc))]):=rfl;obtain⟨c,hw,O⟩:=r.blk 1000 _ hb;have Y:=O;simp only[Qi] at O;obtain⟨v0,l0,e0,h0,U,l1,e1,h1,rfl⟩:=O;subst e1
 have ec:c=#[v0,U]:=by
  apply Array.ext';exact e0
 subst ec;simp only[Qe] at h0;rcases h0.1 with rfl|rfl
 ·refine(hF (φ 1000) w (by simp[World.cell?,hw]) (by simp[World.shape?,hw]) (by simp[World.frozen?,hw])).mono ?_;rintro e w' ⟨rfl,rfl⟩;rw[setCell_eq_setRow w (φ 1000) 0 _ ty (0,0) _ hw]
  have W:Qi φ (look [(1000,Blk.box ty [.sfp 1000,.p (.val (.slice G J hc))])]) w (MM φ (look [(1000,Blk.box ty [.sfp 1000,.p (.val (.slice G J hc))])]) M0) [.sfp 1000,.p (.val (.slice G J hc))] ((#[.pointer none,U]:Array Value).setIfInBounds 0 (.pointer (some ⟨φ 1000,0,none⟩))).toList:=by
   simp only[Qi,Qe];exact⟨.pointer (some ⟨φ 1000,0,none⟩),[U],by simp,⟨.inr rfl,h0.2⟩,U,[],rfl,h1,rfl⟩
  obtain⟨E,X⟩:=AR (cs':=[.sfp 1000,.p (.val (.slice G J hc))]) (c':=(#[.pointer none,U]:Array Value).setIfInBounds 0 (.pointer (some ⟨φ 1000,0,none⟩))) hb hw r;have R:=vX hb hw r W;rw[upd_same hb] at E R;exact⟨φ,_,_,⟨rfl,rfl⟩,R,E,_,rfl,by simp[Qe,Qi]⟩
 ·refine(hU (φ 1000) w (by simp[World.cell?,hw])).mono ?_;rintro e w' ⟨rfl,rfl⟩;exact⟨φ,_,_,⟨rfl,rfl⟩,r,Q8.refl _ _ _,_,rfl,by simp[Qe,Qi]⟩
theorem gW{te:TypeId}{t:Nat}{l:List UInt8}(C:QfH P f ty te)(K0:GA)(hb:look s.H b=some (.box ty [.sfp b,.tsl 1 (List.map c8b l) t]))(ht:look s.H t=some (.arr te 1 (List.map c8b l).length))(hs:FI K0 s=some s')(aw:look s'.H t=none)(hsub:∀c,look s'.H c≠none→look s.H c≠none)(hd:∀x,dst=some x→x<N)(hk:K (s'.put dst (.p (.val (.string (Je l)))))):LV P N f [.ptr b 0] dst s K Q:=by
 intro φ M0 D a w vs r ha;simp only[Qi] at ha;obtain⟨y,ys,rfl,hy,rfl⟩:=ha;simp only[Qe] at hy;obtain⟨rfl,_⟩:=hy;obtain⟨r1,E1⟩:=Qce hs r;obtain⟨r2,E2,X2,hC⟩:=r1.lift 1
 have fin:∀w',NR (φ t) w w'→∃φ' G,K G∧Zn φ' M0 N D (look G.T) (look G.H) (a.put dst (.string (Je l))) w'∧Q8 φ (look s.H) w φ' (look G.H) w':=by
  rintro w' ⟨h1,h2,h3,h4,h5,h6,h7⟩;generalize an:K5 φ w.heap.size 1=O at r2 E2 X2 hC
  have hne:∀c,look s'.H c≠none→φ c≠φ t:=fun c hc e=>by
   have:=r.hp.inj c t (hsub c hc) (by rw[ht];simp) e;rw[this] at hc;exact hc aw
  have hh:∀c k,look s'.H c=some k→w'.heap[O c]?=w.heap[O c]?:=by
   intro c k hc;rcases hC c (by rw[hc];simp) with hlt|ay
   ·have ar:O c=φ c:=by
     rw[←an] at hlt ⊢;unfold K5 at hlt ⊢;split
     ·rfl
     ·rename_i h;rw[if_neg h] at hlt;omega
    rw[ar] at hlt ⊢;exact h6 _ hlt (hne c (by rw[hc];simp))
   ·rw[Z6 zo,Z6 zo]
  have ai:∀x o v,w.cell? ⟨x,o,none⟩=some v→¬MM O (look s'.H) M0 x o→w'.cell? ⟨x,o,none⟩=some v∧¬MM O (look s'.H) M0 x o:=fun x o v g1 g2=>⟨by rw[h7 x o (CU g1)];exact g1,g2⟩
  have X:Y4 O (look s'.H) w O (look s'.H) w':=⟨fun _ _ _ x=>⟨⟨_,_,x⟩,rfl⟩,fun c ty S n x=>⟨_,x,Kt _,fun _=>Yz rfl (by rw[hh _ _ x])⟩,
   fun c ty S n x=>⟨_,x,Kt _,fun _=>⟨rfl,fun q hq=>⟨q,by rw[hh _ _ x];exact hq,rfl⟩⟩⟩,fun _ _ _ g1 g2=>⟨⟨_,g1,g2⟩,rfl⟩⟩
  have E3:=E1.trans E2;have ax:w.heap.size≤w.heap.size:=Kt _
  have E:Q8 φ (look s.H) w O (look s'.H) w':=by
   refine⟨h1,h2,h3,h4,fun x Y ao=>?_,fun x o Y _=>h7 x o Y,E3.mu,E3.kb,fun c ty S n hc ac=>?_,fun c ty S es hc ac=>?_,E3.ko⟩
   ·exact h6 x Y (fun e=>ao t (by rw[ht];simp) e.symm)
   ·obtain⟨n',g1,g2,g3⟩:=E3.kt c ty S n hc ac;exact⟨n',g1,g2,fun e=>(g3 e).trans ax (Yz rfl (hh _ _ g1))⟩
   ·obtain⟨es',g1,g2,g3⟩:=E3.kv c ty S es hc ac;refine⟨es',g1,g2,fun e=>?_⟩;obtain⟨g4,g5⟩:=g3 e;refine⟨g4,fun q hq=>?_⟩;obtain⟨q',g6,g7⟩:=g5 q hq;refine⟨q',?_,g7⟩;have:=hh _ _ g1;rw[g4] at this;rw[this];exact g6
  have R:ZN O (look s'.H) w' M0:=⟨r2.hp.inj,fun c k hc=>Z5 ai X (hh c k hc) (r2.hp.blk c k hc),r2.hp.fr,fun x o Y=>Nat.lt_of_lt_of_le (r2.hp.lt x o Y) h4,r.hp.gm.evol E⟩;have rr:Zn O M0 N D (look s'.T) (look s'.H) a w':=⟨r.dfs.keep E,r.siz,R,fun q x hq=>⟨(r2.tm q x hq).1,(QH ai X).1 _ _ (r2.tm q x hq).2⟩⟩;refine⟨O,s'.put dst (.p (.val (.string (Je l)))),hk,rr.put hd (by simp[Qe,QM]),?_⟩;cases dst<;>exact E
 have J:∀(e:Ending) (w':World),(e=.returned (.string (Je l))∧NR (φ t) w w')→(match e with
 |.returned v=>∃φ' G,K G∧Zn φ' M0 N D (look G.T) (look G.H) (a.put dst v) w'∧Q8 φ (look s.H) w φ' (look G.H) w'
 |.panicked chain=>Post N D Q φ M0 (look s.H) w (.panic chain) a w'
 |.outgrown=>False):=by
  rintro e w' ⟨rfl,am⟩;exact fin w' am
 obtain⟨c,hw,aj⟩:=r.hp.blk b _ hb;simp only[Qi] at aj;obtain⟨v0,l0,e0,h0,v1,l1,e1,h1,rfl⟩:=aj;subst e1
 have ec:c=#[v0,v1]:=by
  apply Array.ext';exact e0
 subst ec;simp only[Qe] at h1;obtain⟨ah,V4,n2,ad,az,W⟩:=h1;rw[ht] at ad;cases ad;rcases W rfl with⟨av,rfl,aq⟩|⟨cap,c0,rfl,ak,au,Z,af⟩
 ·have U:l=[]:=List.eq_nil_of_length_eq_zero (by simpa using av);subst U;exact(C.nil (φ b) (φ t) v0 w hw).mono J
 ·rw[Jd] at hw Z;by_cases U:l=[]
  ·subst U;by_cases ae:cap=0
   ·subst ae;exact(C.noroom (φ b) (φ t) v0 c0 w hw ak).mono J
   ·exact(C.room (φ b) (φ t) cap v0 w ae hw).mono J
  ·refine(C.full (φ b) (φ t) cap v0 c0 l w U hw ak Z af (by rw[au,Nat.mul_one]) ?_).mono J;intro j x Y;simp only[QM] at ah;rcases ah with⟨rr,oo,cp,g1,g2,g3⟩|⟨g1,_⟩
   ·simp only[Value.slice.injEq,QW,Addr.mk.injEq] at g1;obtain⟨⟨rfl,rfl,_⟩,_⟩:=g1;obtain⟨ol,k1,k2,k3,k4⟩:=Fw _ _ ((KO _ 0).1 g3).2;rw[Ol] at k1 k4;have hj:j<l.length:=(CS.1 Y).1
    have al:∃v,ol[j]?=some v:=by
     have:j<ol.length:=by rw[k1];simpa using hj
     exact⟨_,List.getElem?_eq_getElem this⟩
    obtain⟨v,hv⟩:=al;have ab:=k2 j v hv;have aa:=k4 j (.val (.int .u8 x.toNat)) v (by rw[List.getElem?_map,Y];rfl) hv;simp only[QM] at aa;subst aa;simpa [Addr.add_lit] using ab
   ·exact absurd (by simpa using g1) U
section
variable {R:Type}{a:Option R}{P:Program}{N:Nat}{ops:Array Oper}{o:Oper}{l:List Oper}{acc:List YA}{s s':St}{Q:R→AX→St→Prop}
theorem Qcx{O:TypeId}{t:Nat}{bs:List UInt8}(C:QfH P f ty O)(J:GA)(hw:ZB ops o (look s.T)=some true)(hcall:Ki (look (Zm ops o s.T true)) o.op=some (f,[.ptr b 0]))(hok:(Y6 P f&&KD N o.dst)=true)(hb:look s.H b=some (.box ty [.sfp b,.tsl 1 (List.map c8b bs) t]))(Z:look s.H t=some (.arr O 1 (List.map c8b bs).length))(hs:FI J (mk ops o s true)=some s')(G:(look s'.H t).isNone=true)(hsub:(s'.H.all fun p=>(look s.H p.1).isSome)=true)(h:KU a P N ops Q false ((none,[])::acc) l (St.put s' o.dst (.p (.val (.string (Je bs)))))):KU a P N ops Q false acc (o::l) s:=by
 simp only[ZG] at hok;refine⟨fun r W=>?_⟩;show Yl P N ops (Q r) (o::l) s;simp only[Yl,hw,ZY,JA hcall];refine XW hcall hok.1 (gW C J hb Z hs (by simpa using G) (fun c hc=>?_) (Z7 hok.2) (h.h r W));obtain⟨k,Y⟩:=SH.1 hc;have hm:c∈s'.H.map (·.1):=YB.1 (by rw[Y];simp);obtain⟨p,hp,rfl⟩:=List.mem_map.1 hm;have:=Xb.1 hsub p hp;obtain⟨q,U⟩:=RY.1 this;show look s.H p.1≠none;rw[U];simp
end
end Go.Abs
namespace Go.Proofs
open Go Go.RowKit
set_option maxHeartbeats 1000000 in
set_option maxRecDepth 100000 in
theorem rO(b:Nat)(w:World)(h0:w.cell? ⟨b,0,none⟩=some (.pointer (some ⟨b,0,none⟩))) :
  Calls Tryz.prog 131 #[.pointer (some ⟨b,0,none⟩)] w fun e w'=>e=.returned (.tuple #[])∧w'=w:=by
 obtain⟨j,G,J⟩:∃j,Tryz.prog.info? 95=some j∧j.size=2:=GU.1 (show(Tryz.prog.info? 95).map (·.size)=some 2 by kernel_rfl)
 go_enter Tryz.func131,Tryz.ntmps131
 go_wp2
 rw[Lib.run_neq_ptr_same w _ Tryz.underlying92 G]
 go_wp2
 go_end0
 exact⟨rfl,rfl⟩
set_option maxHeartbeats 1000000 in
set_option maxRecDepth 100000 in
theorem gX(b:Nat)(w:World)(h0:w.cell? ⟨b,0,none⟩=some (.pointer none))(G:w.shape? b=some (97,2))(U:w.frozen? ⟨b,0,none⟩=false) :
  Calls Tryz.prog 131 #[.pointer (some ⟨b,0,none⟩)] w fun e w'=>e=.returned (.tuple #[])∧w'=w.setCell ⟨b,0,none⟩ (.pointer (some ⟨b,0,none⟩)):=by
 obtain⟨j,O,J⟩:∃j,Tryz.prog.info? 95=some j∧j.size=2:=GU.1 (show(Tryz.prog.info? 95).map (·.size)=some 2 by kernel_rfl)
 go_enter Tryz.func131,Tryz.ntmps131
 go_wp2
 rw[Lib.run_to_unsafe w ⟨b,0,none⟩ Tryz.underlying92 Tryz.underlying274 O (by rw[J];decide) G (Nat.zero_lt_succ 1)];simp only[Result.andThen];rw[Oper.upon_value]
 go_wp2
 rw[run_callFunc_extern Tryz.func194 (by kernel_rfl) (by kernel_rfl) (by kernel_rfl) (e:=Extern.AbiNoEscape.same) (by kernel_rfl)];rw[Lib.run_noEscape];simp only[Result.andThen];rw[Oper.upon_value]
 go_wp2
 rw[Lib.run_from_unsafe w ⟨b,0,none⟩ Tryz.underlying274 Tryz.underlying92 O G (by kernel_rfl)];simp only[Result.andThen];rw[Oper.upon_value]
 go_wp2
 go_end0
 exact⟨rfl,rfl⟩
end Go.Proofs
namespace Go.Proofs
open Go Go.RowKit Go.Abs
variable {n:Nat}
theorem Et(g:Nat)(w:World):NR g w w:=⟨rfl,rfl,rfl,Kt _,Nat.le_succ _,fun _ _ _=>rfl,fun _ _ _=>rfl⟩
theorem rP{g:Nat}{w w':World}(o:Obj)(hw:w'=w.drew.alloc o∨w'=(w.alloc o).drew∨w'=w.alloc o):NR g w w':=by
 have key:NR g w (w.alloc o):=by
  have G:∀x,x<w.heap.size→(w.alloc o).heap[x]?=w.heap[x]?:=fun x J=>by show(w.heap.push o)[x]?=_;rw[Array.getElem?_push,if_neg zo]
  exact⟨rfl,rfl,rfl,by show _≤(w.heap.push o).size;simp,by show(w.heap.push o).size≤_;simp,fun x J _=>G x J,fun x y J=>by simp[World.cell?,G x J]⟩
 rcases hw with rfl|rfl|rfl
 ·exact key
 ·exact key
 ·exact key
theorem jH{g:Nat}{w:World}:NR g w (w.freeze ⟨g,0,none⟩ n):=by
 unfold World.freeze;split
 ·exact Et g w
 ·refine⟨rfl,rfl,rfl,by simp,by simp,fun x G hne=>?_,fun x o G=>?_⟩
  ·simp only[Array.getElem?_modify];rw[if_neg (fun e=>hne e.symm)]
  ·simp only[World.cell?,Array.getElem?_modify];by_cases e:g=x
   ·subst e;simp only[if_true];cases hc:w.heap[g]? with
   |none=>rfl
   |some ob=>cases ob<;>rfl
   ·rw[if_neg e]
set_option maxHeartbeats 2000000 in
set_option maxRecDepth 100000 in
theorem Qcy(b g:Nat)(p:Value)(w:World)(G:w.heap[b]?=some (.cells #[p,.slice none 0 0] 97 (0,0))) :
  Calls Tryz.prog 32 #[.pointer (some ⟨b,0,none⟩)] w fun e w'=>e=.returned (.string ⟨#[]⟩)∧NR g w w':=by
 have J:∀(W:World) (q:Option Addr),(Builtin.unsafeString_ #[163,3] 9 #[.pointer q,.int .i64 0]).run Tryz.prog W=.ok (.string .empty) W:=fun W q=>Lib.run_unsafeString_none W _ _ _ q
 have U:w.drew.cell? ⟨b,1,none⟩=some (.slice none 0 0):=by
  have:w.drew.heap[b]?=some (.cells #[p,.slice none 0 0] 97 (0,0)):=G;rw[Lib.cell_of_heap this];rfl
 have O:(Builtin.unsafeSliceData_ #[93] 163 #[.slice none 0 0]).run Tryz.prog w.drew=.ok (.pointer none) w.drew:=rfl;have mixed:Tryz.prog.follows .mixedOrders=true:=by kernel_rfl
 go_enter Tryz.func32,Tryz.ntmps32
 go_wp2
 go_region_o
 all_goals (go_wp2;go_ret;exact⟨rfl,Et g w⟩)
end Go.Proofs
