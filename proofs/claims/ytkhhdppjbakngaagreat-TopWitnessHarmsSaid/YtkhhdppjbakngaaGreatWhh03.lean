/-
  A part of the proof of a statement of the seat YtkhhdppjbakngaaGreat.
-/
import Derived.Test.YtkhhdppjbakngaaGreatWhh02
set_option linter.unusedVariables false
namespace Go.Abs
open Go
variable {D:DB}{H:List (Nat×Blk)}{M M0:ZQ}{N:Nat}{P:Program}{Q:AX→St→Prop}{Q':Exit→Act→World→Prop}{T:Nat→Option AV}{a:Act}{b:Nat}{body:Code}{by_:Nat}{c:Code}{d:Nat}{e:TypeId}{α:Type}{enc:α→List PV}{es:List (Bool×List UInt8×AV)}{fn:Func}{h h0:QY}{hc hc':List (Nat×Blk)}{hi:Option Operand}{i id:Nat}{ix:Operand}{j:Nat}{k0:Blk}{kt:TypeId}{l:List α}{len:Nat}{listed:Array Bool}{lo:Option Operand}{n:Nat}{nf:Dj}{nn:Nat}{o:Oper}{ok:Bool}{ops:Array Oper}{p:AV}{pd:Option Code}{ro:Option Nat}{s s' s1:St}{st:LoopState}{tb:TypeId}{tk:Nat}{tx ty:TypeId}{v:Value}{w w' w0:World}{x:Operand}{xv:AV}{y:Operand}{β:Type}{ρ φ φ' φ0:Nat→Nat}
section
variable {R V:Type}{a a1 a2:Option R}{P:Program}{N:Nat}{ro:Option Nat}{ops:Array Oper}{o:Oper}{l:List Oper}{dr:Bool}{acc:List Vf}{s s':St}{Q:R→AX→St→Prop}{y:Code}{id:Nat}{draw:Bool}
theorem sR(O:P.follows .mixedOrders=true)(K:Ro)(s':St)(Y:(Cn P N ops draw s).bind (Dv K)=some s')(h:QU a P N ro y s' Q):QU a P N ro (.seq (.region id ops draw) y) s Q:=by
 obtain⟨s1,U,G⟩:=Nw.1 Y;refine⟨fun r J=>?_⟩;exact kz (EI O U (LJ (F5 G) (h.h r J)))
theorem dZ(J:P.follows .mixedOrders=true)(O:Cn P N ops draw s=some s1)(h:ZL a Q .normal s1):QU a P N ro (.region id ops draw) s Q:=⟨fun r G=>EI J O (h.h r G)⟩
def SY(P:Program)(N:Nat)(ops:Array Oper)(draw:Bool)(s:St):St:=(Cn P N ops draw s).getD s
theorem sL(J:P.follows .mixedOrders=true)(h:ZL a Q .normal (SY P N ops draw s))(O:(Cn P N ops draw s).isSome=true:=by kernel_rfl):QU a P N ro (.region id ops draw) s Q:=by
 obtain⟨s1,G⟩:=RU.1 O;refine dZ J G ?_;have e:SY P N ops draw s=s1:=by simp[SY,G]
 rw[←e];exact h
theorem sG(h:Yu a P N ops Q false [] ops.toList s):QU a P N ro (.region id ops false) s Q:=⟨fun r G=>zh (h.h r G)⟩
theorem Y3(O:P.follows .mixedOrders=true)(J:Gj ops=true)(h:Yu a P N ops Q true [] ops.toList s):QU a P N ro (.region id ops true) s Q:=⟨fun r G=>u6 O J (h.h r G)⟩
theorem xR(k:Nat)(h:Yu a P N ops Q dr (runF P N ops k l s acc) (l.drop k) (QbJ P N ops k l s))(Z:Qds P N ops k l s=true:=by kernel_rfl):Yu a P N ops Q dr acc l s:=by
 refine⟨fun r U=>?_⟩;obtain⟨⟨s1,f⟩,J⟩:=RU.1 Z;have G:=h.h r U;have e1:QbJ P N ops k l s=s1:=by simp[QbJ,J]
 rw[e1] at G;have O:=Og (P:=P) (N:=N) (ops:=ops) k l s acc;rw[J] at O;have Y:runF P N ops k l s acc=f++acc:=by simp[runF,O]
 rw[Y] at G;cases dr with
|false=>exact Ia (d:=none) J (.inl rfl) G
|true=>exact Ia (d:=some acc) O (.inr rfl) G
theorem xE(h:ZL a Q .normal s):Yu a P N ops Q false acc [] s:=⟨fun r G=>h.h r G⟩
theorem YO(h:ZL a Q .normal s)(hc:KO ops acc.reverse=true:=by kernel_rfl):Yu a P N ops Q true acc [] s:=⟨fun r G=>⟨hc,h.h r G⟩⟩
theorem xS(b:Bool)(G:b=true→Yu a1 P N ops Q dr acc l s)(J:b=false→Yu a2 P N ops Q dr acc l s):Yu (cond b a1 a2) P N ops Q dr acc l s:=by
 cases b
 ·exact J rfl
 ·exact G rfl
def aH(P:Program)(ops:Array Oper)(o:Oper)(s:St):Kt:=(V6 P o (look (ZH ops o s.T true)) (look s.H)).getD (.p (.val undef),none,[])
theorem xO(hw:ZV ops o (look s.T)=some true)(h:Yu a P N ops Q dr (Od (aH P ops o s)::acc) l (nxt ops o s (aH P ops o s)))(hp:(plain o.op&&(V6 P o (look (ZH ops o s.T true)) (look s.H)).isSome&&K5 N o.dst)=true:=by kernel_rfl):Yu a P N ops Q dr acc (o::l) s:=by
 simp only[KL] at hp;obtain⟨u,hu⟩:=RU.1 hp.1.2;have e:aH P ops o s=u:=by simp[aH,hu]
 rw[e] at h;exact⟨fun r G=>Bz hw hp.1.1 hu hp.2 (R7 dr acc _▸h.h r G)⟩
theorem xN(hw:ZV ops o (look s.T)=some false)(h:Yu a P N ops Q dr ((none,[])::acc) l (St.put (mk ops o s false) o.dst (.p (.val undef))))(J:K5 N o.dst=true:=by kernel_rfl):Yu a P N ops Q dr acc (o::l) s :=
 ⟨fun r G=>wP hw J (R7 dr acc _▸h.h r G)⟩
theorem Qu{b:Bool}(J:b=true)(G:ZV ops o (look s.T)=some (b==true):=by kernel_rfl):ZV ops o (look s.T)=some true:=by rw[G,J];rfl
theorem Qy{b:Bool}(J:b=false)(G:ZV ops o (look s.T)=some (b==false):=by kernel_rfl):ZV ops o (look s.T)=some true:=by rw[G,J];rfl
theorem Qv{b:Bool}(J:b=false)(G:ZV ops o (look s.T)=some (b==true):=by kernel_rfl):ZV ops o (look s.T)=some false:=by rw[G,J];rfl
theorem Qz{b:Bool}(J:b=true)(G:ZV ops o (look s.T)=some (b==false):=by kernel_rfl):ZV ops o (look s.T)=some false:=by rw[G,J];rfl
theorem xF{c:Bool}{u:Kt}(hu:c=true→V6 P o (look (ZH ops o s.T true)) (look s.H)=some u)(h:Yu a P N ops Q dr (Od u::acc) l (nxt ops o s u))(hw:ZV ops o (look s.T)=some true:=by kernel_rfl)(hp:(plain o.op&&K5 N o.dst)=true:=by kernel_rfl):Yu (cond c a none) P N ops Q dr acc (o::l) s:=by
 simp only[KL] at hp;refine⟨fun r G=>?_⟩;cases c with
|false=>cases G
|true=>exact Bz hw hp.1 (hu rfl) hp.2 (R7 dr acc _▸h.h r G)
theorem xG{m:Option V}{k:V→Option R}{u:V→Kt}(hu:∀v,m=some v→V6 P o (look (ZH ops o s.T true)) (look s.H)=some (u v))(h:∀v,Yu (k v) P N ops Q dr (Od (u v)::acc) l (nxt ops o s (u v)))(hw:ZV ops o (look s.T)=some true:=by kernel_rfl)(hp:(plain o.op&&K5 N o.dst)=true:=by kernel_rfl):Yu (m.bind k) P N ops Q dr acc (o::l) s:=by
 simp only[KL] at hp;refine⟨fun r G=>?_⟩;obtain⟨v,O,J⟩:=Nw.1 G;exact Bz hw hp.1 (hu v O) hp.2 (R7 dr acc _▸(h v).h r J)
theorem Q7{u:Kt}(hu:V6 P o (look (ZH ops o s.T true)) (look s.H)=some u)(h:Yu a P N ops Q dr (Od u::acc) l (nxt ops o s u))(hw:ZV ops o (look s.T)=some true:=by kernel_rfl)(hp:(plain o.op&&K5 N o.dst)=true:=by kernel_rfl):Yu a P N ops Q dr acc (o::l) s:=by
 simp only[KL] at hp;exact⟨fun r G=>Bz hw hp.1 hu hp.2 (R7 dr acc _▸h.h r G)⟩
end
structure R8{R:Type}(a:Option R)(K:R→St→Prop)(s:St):Prop where
 intro ::
 h:∀r,a=some r→K r s
structure BM{R:Type}(a:Option R)(P:Program)(N:Nat)(f:FuncId)(args:List AV)(dst:Option Tmp)(s:St)(K:R→St→Prop)(Q:R→AX→St→Prop):Prop where
 intro ::
 h:∀r,a=some r→TF P N f args dst s (K r) (Q r)
def fKr{R:Type}(P:Program)(N:Nat)(ops:Array Oper)(Q:R→AX→St→Prop)(l:List Oper):R→St→Prop:=fun r s=>XR P N ops (Q r) none l s
def fKq{R:Type}(Q:R→AX→St→Prop):R→St→Prop:=fun r s=>Q r .normal s
section
variable {R V E:Type}{a a1 a2:Option R}{P:Program}{N:Nat}{ro:Option Nat}{ops:Array Oper}{o:Oper}{l:List Oper}{dr:Bool}{acc:List Vf}{s s':St}{Q:R→AX→St→Prop}{K:R→St→Prop}{f:FuncId}{args args':List AV}{dst:Option Tmp}
theorem kr(h:Yu a P N ops Q false acc l s):R8 a (fKr P N ops Q l) s:=⟨fun r G=>h.h r G⟩
theorem Vg(h:Yu a P N ops Q false [] l s):R8 a (fKr P N ops Q l) s:=⟨fun r G=>h.h r G⟩
theorem kqn(h:ZL a Q .normal s):R8 a (fKq Q) s:=⟨fun r G=>h.h r G⟩
def CB:Op→Bool|.call ⟨.value _,_,_⟩=>true|_=>false
theorem Rq{op:Op}{p:FuncId×List AV}(h:KC T op=some p):CB op=true:=by
 unfold KC at h;split at h
 ·rfl
 ·rfl
 ·cases h
theorem UN{op:Op}{p:FuncId×List AV}(h:KC T op=some p):yieldOf T op=none:=by
 unfold yieldOf;split
 ·rename_i t G ts;split
  ·rename_i b hb;simp[KC,hb] at h
  ·rfl
 ·rfl
theorem Hw{P:Program}{N:Nat}{o:Oper}{s:St}{K:St→Prop}{Q:AX→St→Prop}{f:FuncId}{args:List AV}(hf:KC (look s.T) o.op=some (f,args))(hb:We P f=true)(h:TF P N f args o.dst s K Q):U7 P N o s K Q:=by
 unfold U7;split
 ·rename_i G;rw[G] at hf;simp[KC] at hf
 ·rename_i G;rw[G] at hf;simp[KC] at hf
 ·rename_i g O ts G;rw[G] at hf;rw[hf];exact⟨hb,h⟩
 ·rename_i Y U J;have:=Rq hf;unfold CB at this;split at this
  ·rename_i G;exact absurd G (J _ _ _)
  ·cases this
theorem Y4(hw:ZV ops o (look s.T)=some true)(hf:KC (look (ZH ops o s.T true)) o.op=some (f,args))(hb:We P f=true)(h:BM a P N f args o.dst (mk ops o s true) (fKr P N ops Q l) Q):Yu a P N ops Q false acc (o::l) s:=by
 refine⟨fun r G=>?_⟩;show Y2 P N ops (Q r) (o::l) s;simp only[Y2,hw,Km,UN hf];exact Hw hf hb (h.h r G)
theorem nP(hw:ZV ops o (look s.T)=some true)(hf:KC (look (ZH ops o s.T true)) o.op=some (f,args))(hb:(We P f&&Uf ops acc.length&&KO ops acc.reverse)=true)(h:BM a P N f args o.dst (mk ops o s true) (fKq Q) Q):Yu a P N ops Q true acc [o] s:=by
 refine⟨fun r J=>?_⟩;simp only[KL] at hb;show Yb P N ops (Q r) [o] acc s;simp only[Yb,hw,Km];split
 ·rename_i G;rw[G] at hf;simp[KC] at hf
 ·rename_i g O ts G;exact .inr (.inl ⟨rfl,hb.1.2,hb.2,Hw hf hb.1.1 (h.h r J)⟩)
 ·rename_i G;rw[G] at hf;simp[KC] at hf
 ·rename_i Z U Y;have:=Rq hf;unfold CB at this;split at this
  ·rename_i G;exact absurd G (U _ _ _)
  ·cases this
theorem UO(hi:CB o.op=true)(h:Yu a P N ops Q false [] (o::l) s)(hw:ZV ops o (look s.T)=some true:=by kernel_rfl)(hb:(Uf ops acc.length&&KO ops acc.reverse&&LW ops acc.length&&wz ops s (o::l))=true:=by kernel_rfl):Yu a P N ops Q true acc (o::l) s:=by
 refine⟨fun r O=>?_⟩;simp only[KL] at hb;have J:Y2 P N ops (Q r) (o::l) s:=h.h r O;show Yb P N ops (Q r) (o::l) acc s;simp only[Yb,hw,Km];split
 ·rename_i G;rw[G] at hi;simp[CB] at hi
 ·exact .inr (.inr (.inl ⟨hb.1.1.1,hb.1.1.2,hb.1.2,hb.2,J⟩))
 ·rename_i G;rw[G] at hi;simp[CB] at hi
 ·rename_i J U Y;unfold CB at hi;split at hi
  ·rename_i G;exact absurd G (U _ _ _)
  ·cases hi
theorem xC{m:Option V}{k:V→Option R}{X:V→AV}(C:List Conv)(hc:∀v,m=some v→QV P f args' (.ret (X v)))(Y:∀v,YN (X v)=true)(h:∀v,Yu (k v) P N ops Q dr ((none,[])::acc) l (St.put (mk ops o s true) o.dst (X v)))(hw:ZV ops o (look s.T)=some true:=by kernel_rfl)(hf:(KC (look (ZH ops o s.T true)) o.op).map (fun p=>(p.1,A8 C p.2))=some (f,args'):=by kernel_rfl)(hb:(We P f&&K5 N o.dst&&VG args')=true:=by kernel_rfl):Yu (m.bind k) P N ops Q dr acc (o::l) s:=by
 refine⟨fun r Z=>?_⟩;obtain⟨v,U,O⟩:=Nw.1 Z;obtain⟨⟨f0,args⟩,G,hp⟩:=LC.1 hf;simp only[DC] at hp;obtain⟨rfl,rfl⟩:=hp;simp only[KL] at hb;cases dr with
|false =>
  show Y2 P N ops (Q r) (o::l) s;simp only[Y2,hw,Km,UN G];exact Hw G hb.1.1 (EB (hc v U) (UM C args) hb.2 (Y v) (Kn hb.1.2) ((h v).h r O))
|true =>
  show Yb P N ops (Q r) (o::l) acc s;simp only[Yb,hw,Km];split
  ·rename_i J;rw[J] at G;simp[KC] at G
  ·rename_i g aa ts J;rw[J] at G;exact aC (hc v U) G hb.1.1 hb.1.2 (UM C args) hb.2 (Y v) ((h v).h r O)
  ·rename_i J;rw[J] at G;simp[KC] at G
  ·rename_i h1 h2 h3;have:=Rq G;unfold CB at this;split at this
   ·rename_i J;exact absurd J (h2 _ _ _)
   ·cases this
def xP(X:V→AV)(Y:E→AV):Except E V→KN|.ok v=>.ret (X v)|.error e=>.panic (Y e)
theorem BA{m:Option V}{k:V→Option R}{X:V→AV}(C:List Conv)(hc:∀v,m=some v→QV P f args' (.ret (X v)))(Y:∀v,YN (X v)=true)(h:∀v,R8 (k v) K (s.put dst (X v)))(O:A8 C args=args':=by kernel_rfl)(hb:(K5 N dst&&VG args')=true:=by kernel_rfl):BM (m.bind k) P N f args dst s K Q:=by
 refine⟨fun r G=>?_⟩;obtain⟨v,U,J⟩:=Nw.1 G;simp only[KL] at hb;subst O;exact EB (hc v U) (UM C args) hb.2 (Y v) (Kn hb.1) ((h v).h r J)
theorem QbK{m:Option (Except E V)}{k:Except E V→Option R}{X:V→AV}{Y:E→AV}(C:List Conv)(hc:∀v,m=some v→QV P f args' (xP X Y v))(Z:A8 C args=args')(hb:(K5 N dst&&VG args')=true)(hx:∀v,YN (X v)=true)(hy:∀e,YN (Y e)=true)(h:∀v,R8 (k (.ok v)) K (s.put dst (X v)))(U:∀e,ZL (k (.error e)) Q (.panic (Y e)) s):BM (m.bind k) P N f args dst s K Q:=by
 refine⟨fun r O=>?_⟩;obtain⟨v,hv,G⟩:=Nw.1 O;simp only[KL] at hb;subst Z;have J:=hc v hv;cases v with
|ok v=>exact EB J (UM C args) hb.2 (hx v) (Kn hb.1) ((h v).h r G)
|error e=>exact Aj J (UM C args) hb.2 (hy e) ((U e).h r G)
def Em{E V R:Type}(k:V→Option R)(e:E→Option R):Except E V→Option R|.ok v=>k v|.error x=>e x
theorem Rt{m:Option (Except E V)}{k:V→Option R}{ke:E→Option R}{X:V→AV}{Y:E→AV}(C:List Conv)(hc:∀v,m=some v→QV P f args' (xP X Y v))(U:∀v,YN (X v)=true)(O:∀e,YN (Y e)=true)(h:∀v,Yu (k v) P N ops Q false ((none,[])::acc) l (St.put (mk ops o s true) o.dst (X v)))(J:∀e,ZL (ke e) Q (.panic (Y e)) (mk ops o s true))(hw:ZV ops o (look s.T)=some true:=by kernel_rfl)(hf:(KC (look (ZH ops o s.T true)) o.op).map (fun p=>(p.1,A8 C p.2))=some (f,args'):=by kernel_rfl)(hb:(We P f&&K5 N o.dst&&VG args')=true:=by kernel_rfl):Yu (m.bind (Em k ke)) P N ops Q false acc (o::l) s:=by
 obtain⟨⟨f0,args⟩,G,hp⟩:=LC.1 hf;simp only[DC] at hp;obtain⟨rfl,hp⟩:=hp;simp only[KL] at hb;exact Y4 hw G hb.1.1 (QbK C hc hp (by simp[hb]) U O (fun v=>kr (h v)) J)
theorem Hy(t:TypeId)(v:AV)(G:o.op=.panic x)(h:ZL a Q (.panic (.ifc t v)) (mk ops o s true))(hw:ZV ops o (look s.T)=some true:=by kernel_rfl)(U:Zo (look (ZH ops o s.T true)) x=some (.ifc t v):=by kernel_rfl):Yu a P N ops Q false acc (o::l) s:=by
 refine⟨fun r J=>?_⟩;show Y2 P N ops (Q r) (o::l) s;have O:yieldOf (look (ZH ops o s.T true)) o.op=none:=by simp[yieldOf,G]
 simp only[Y2,hw,Km,O];show U7 P N o _ _ _;unfold U7;simp only[G,U];exact h.h r J
def QbL(P:Program)(fn:Func)(X:R→KN):R→AX→St→Prop:=fun r=>dO P fn (·=X r)
def Jp:KN→AV|.ret y=>y|.panic y=>y
theorem qR{X:V→KN}{v:V}(C:Conv)(h:(Cf P fn (look s.T) (look s.H)).map (cv C)=some (Jp (X v)):=by kernel_rfl)(U:X v=.ret (Jp (X v)):=by kernel_rfl)(J:YN (Jp (X v))=true:=by kernel_rfl):ZL (some v) (QbL P fn X) .ret s:=by
 refine⟨fun r G=>?_⟩;cases G;obtain⟨x,Y,O⟩:=LC.1 h;exact⟨x,Jp (X v),Y,O▸wN C x,J,U.symm⟩
theorem wQ{X:V→KN}{v:V}(G:X v=.panic p:=by kernel_rfl)(O:YN p=true:=by kernel_rfl):ZL (some v) (QbL P fn X) (.panic p) s:=by
 refine⟨fun r J=>?_⟩;cases J;exact⟨O,G.symm⟩
theorem Qp{X:R→KN}(hf:P.funcs[f]?=some fn)(hb:fn.body=some c)(O:fn.ntmps=n)(J:Nat.ble args.length n=true)(h:QU a P n none c ⟨Xg 0 args,[]⟩ (QbL P fn X))(r:R)(G:a=some r):QV P f args (X r):=by
 subst O;exact wE hf hb (Nat.le_of_ble_eq_true J) (h.h r G)
end
def Za{α:Type}(l:List α)(i:Int):Option α:=if i<0 then none else l[i.toNat]?
section
variable {P:Program}{o:Oper}{T:Nat→Option AV}{h:QY}
theorem gF{k:IntKind}{a b:Int}(J:o.op=.binOp .quo tx x y ty)(O:Zo T x=some (.p (.val (.int k a))))(G:Zo T y=some (.p (.val (.int k b))))(hc:(!Qq b 0)=true) :
  V6 P o T h=some (.p (.val (.int k (k.wrap (a.tdiv b)))),none,[]):=by
 have hb:¬b=0:=by simpa [Qq] using hc
 simp[V6,J,Et,O,G,Fu,MJ,hb,FX]
theorem aI{k:IntKind}{a b:Int}(J:o.op=.binOp .rem tx x y ty)(O:Zo T x=some (.p (.val (.int k a))))(G:Zo T y=some (.p (.val (.int k b))))(hc:(!Qq b 0)=true) :
  V6 P o T h=some (.p (.val (.int k (a.tmod b))),none,[]):=by
 have hb:¬b=0:=by simpa [Qq] using hc
 simp[V6,J,Et,O,G,Fu,MJ,hb,FX]
theorem yf{k k':IntKind}{a b:Int}(J:o.op=.binOp .shl tx x y ty)(O:Zo T x=some (.p (.val (.int k a))))(G:Zo T y=some (.p (.val (.int k' b))))(hc:(!QD b 0)=true) :
  V6 P o T h=some (.p (.val (.int k (WZ k a b))),none,[]):=by
 have hb:¬b<0:=by simpa [QD] using hc
 simp[V6,J,Et,O,G,Fu,NF,hb,FX]
abbrev wi(x:Int):Int:=IntKind.i64.wrap x
abbrev wu(x:Int):Int:=IntKind.u64.wrap x
abbrev w8(x:Int):Int:=IntKind.u8.wrap x
abbrev Qd{α:Type}(l:List α):Int:=(l.length:Int)
abbrev V8(x:UInt8):Int:=(x.toNat:Int)
def d9(a b:Int):Int:=if b>a then b else a
def K9(a b:Int):Int:=if b<a then b else a
theorem QG{t:TypeId}{S:Nat}{k:IntKind}{n:Int}{sv:AV}(Z:o.op=.indexAddr t x ix)(hn:Zo T ix=some (.p (.val (.int k n))))(hx:Zo T x=some sv)(hs:elems sv=some (S,List.map enc l))(ht:P.underlying t=some (.slice e))(hi:(P.info? e).map (·.size)=some S)(v:α)(G:Za l n=some v):V6 P o T h=some (.eptr (enc v),none,[]):=by
 unfold Za at G;split at G
 ·cases G
 ·rename_i Y;obtain⟨i,J,U⟩:=LC.1 hi
  have O:qo (some sv)=false:=by
   cases sv with
  |p x=>rfl
  |tsl S es t=>rfl
  |_=>cases hs
  have h0:0≤n:=by omega
  simp[V6,Z,FX,hx,O,Js,hn,ht,hs,J,U,h0,G]
def Vx(x:List PV):List PV:=x
theorem gG(l:List (List PV)):List.map Vx l=l:=List.map_id l
theorem Ww{t:TypeId}{S:Nat}{dec:List PV→Option α}{l:List (List PV)}{k:IntKind}{n:Int}{sv:AV}(G:∀r v,dec r=some v→enc v=r)(J:o.op=.indexAddr t x ix)(O:Zo T ix=some (.p (.val (.int k n))))(hx:Zo T x=some sv)(hs:elems sv=some (S,List.map Vx l))(U:P.underlying t=some (.slice e))(hi:(P.info? e).map (·.size)=some S)(v:α)(Y:(Za l n).bind dec=some v):V6 P o T h=some (.eptr (enc v),none,[]):=by
 obtain⟨r,Z,h2⟩:=Nw.1 Y;rw[G r v h2];exact QG J O hx hs U hi r Z
theorem Xh{t:TypeId}{l:List UInt8}{k:IntKind}{n:Int}(U:o.op=.index t x ix)(Y:Zo T ix=some (.p (.val (.int k n))))(O:Zo T x=some (.p (.val (.string (DF l)))))(Z:P.underlying t=some .string)(v:UInt8)(G:Za l n=some v):V6 P o T h=some (.p (.val (.int .u8 v.toNat)),none,[]):=by
 unfold Za at G;split at G
 ·cases G
 ·rename_i J;have h0:0≤n:=by omega
  simp[V6,U,FX,Eo,Bl,O,Y,Z,h0,Bi,G]
def yg(P:Program):Nat→TypeId→Value→Value→Option Bool
|0,_,_,_=>none
|d+1,t,x,y =>
  match P.underlying t with
 |some .bool=>match x,y with|.bool a,.bool b=>some (a==b)|_,_=>none
 |some (.int _)=>match x,y with|.int k a,.int k' b=>if k=k' then some (Qq a b) else none|_,_=>none
 |some .string=>match x,y with|.string a,.string b=>some (Zb (XV a) (XV b))|_,_=>none
 |some (.struct fields)=>match x,y with
  |.agg xs,.agg ys=>if P.stoodInHeld t then none else fields.toList.foldr (fun f r=>if f.name="_" then r else
     match Gt P f.type xs.toList f.offset,Gt P f.type ys.toList f.offset with
    |some a,some b=>match yg P d f.type a b,r with|some p,some q=>some (p&&q)|_,_=>none
    |_,_=>none) (some true)
  |_,_=>none
 |some (.array len e)=>match x,y with
  |.agg xs,.agg ys=>if(P.info? e).isNone then none else(List.range len).foldr (fun i r =>
     match Gt P e xs.toList (i*P.cellsOf e),Gt P e ys.toList (i*P.cellsOf e) with
    |some a,some b=>match yg P d e a b,r with|some p,some q=>some (p&&q)|_,_=>none
    |_,_=>none) (some true)
  |_,_=>none
 |_=>none
theorem BB(P:Program):∀(d:Nat) (t:TypeId) (x y:Value),yg P d t x y=eqV P d t x y
 |0,t,x,y=>by simp[yg,eqV]
 |d+1,t,x,y=>by
    have hf:∀(xs ys:List Value) (O:List Field),O.foldr (fun f r=>if f.name="_" then r else
          match Gt P f.type xs f.offset,Gt P f.type ys f.offset with
         |some a,some b=>match yg P d f.type a b,r with|some p,some q=>some (p&&q)|_,_=>none
         |_,_=>none) (some true)=eqV.eqFs P d xs ys O:=by
      intro xs ys O
      induction O with
     |nil=>simp[eqV.eqFs]
     |cons f O Y =>
        simp only[List.foldr_cons,eqV.eqFs,Y];split
        · rfl
        · split
          · rename_i a b G J;simp only[G,J,BB P d f.type a b];cases eqV P d f.type a b<;>cases eqV.eqFs P d xs ys O<;>rfl
          · rename_i G
            split
            · rename_i J Z;exact absurd Z (by intro h4;exact G _ _ J h4)
            · rfl
    have ha:∀(e:TypeId) (xs ys:List Value) (U:List Nat),U.foldr (fun i r =>
          match Gt P e xs (i*P.cellsOf e),Gt P e ys (i*P.cellsOf e) with
         |some a,some b=>match yg P d e a b,r with|some p,some q=>some (p&&q)|_,_=>none
         |_,_=>none) (some true)=eqV.eqAs P d e (P.cellsOf e) xs ys U:=by
      intro e xs ys U
      induction U with
     |nil=>simp[eqV.eqAs]
     |cons i U Y =>
        simp only[List.foldr_cons,eqV.eqAs,Y];split
        · rename_i a b G J;simp only[G,J,BB P d e a b];cases eqV P d e a b<;>cases eqV.eqAs P d e (P.cellsOf e) xs ys U<;>rfl
        · rename_i G
          split
          · rename_i J Z;exact absurd Z (by intro h4;exact G _ _ J h4)
          · rfl
    unfold yg eqV;cases hu:P.underlying t with
   |none=>rfl
   |some td =>
      cases td with
     |bool=>cases x<;>cases y<;>rfl
     |int k=>cases x<;>cases y<;>rfl
     |string=>cases x<;>cases y<;>rfl
     |struct fields =>
        cases x<;>cases y<;>try rfl
        rename_i xs ys;simp only;split
        · rfl
        · exact hf _ _ _
     |array len e =>
        cases x<;>cases y<;>try rfl
        rename_i xs ys;simp only;split
        · rfl
        · exact ha _ _ _ _
     |_=>rfl
theorem Pg{xs ys:List AV}{vx vy:List Value}{b:Bool}(U:o.op=.binOp .eql tx x y ty)(Z:Zo T x=some (.agg xs))(O:Zo T y=some (.agg ys))(Y:P.eqGuardType P.depth tx=false)(G:DJ xs=some vx)(J:DJ ys=some vy)(hb:yg P 4 tx (.agg vx.toArray) (.agg vy.toArray)=some b):V6 P o T h=some (.p (.val (.bool (TA b))),none,[]):=by
 rw[BB] at hb;simp[V6,U,Et,Z,O,FX,lN,vT,Y,G,J,hb]
theorem yj{xs ys:List AV}{vx vy:List Value}{b:Bool}(U:o.op=.binOp .neq tx x y ty)(Z:Zo T x=some (.agg xs))(O:Zo T y=some (.agg ys))(Y:P.eqGuardType P.depth tx=false)(G:DJ xs=some vx)(J:DJ ys=some vy)(hb:yg P 4 tx (.agg vx.toArray) (.agg vy.toArray)=some b):V6 P o T h=some (.p (.val (.bool (!TA b))),none,[]):=by
 rw[BB] at hb;simp[V6,U,Et,Z,O,FX,lN,vT,Y,G,J,hb]
end
def JI{V:Type}(X:V→KN×List (Nat×Blk))(v:V):KN→QY→Prop:=fun r h'=>r=(X v).1∧h'=look (X v).2
def hQ{V:Type}(P:Program)(fn:Func)(hc:List (Nat×Blk))(X:V→KN×List (Nat×Blk)):V→AX→St→Prop:=fun v=>gp P fn hc (JI X v)
section
variable {R V E:Type}{a a1 a2:Option R}{P:Program}{N:Nat}{ro:Option Nat}{ops:Array Oper}{o:Oper}{l:List Oper}{dr:Bool}{acc:List Vf}{s s':St}{Q:R→AX→St→Prop}{K:R→St→Prop}{f:FuncId}{args args':List AV}{dst:Option Tmp}
theorem KZ{X:R→KN×List (Nat×Blk)}(hc:List (Nat×Blk))(hf:P.funcs[f]?=some fn)(hb:fn.body=some c)(O:fn.ntmps=n)(J:Nat.ble args.length n=true)(h:QU a P n none c ⟨Xg 0 args,hc⟩ (hQ P fn hc X))(r:R)(G:a=some r) :
  V7 P f args (look hc) (JI X r):=by
 subst O;exact SX hf hb (Nat.le_of_ble_eq_true J) (h.h r G)
def Mj(hc hc':List (Nat×Blk))(y:AV):Bool:=Kv (look hc') y&&bH (look hc') hc'&&YR (look hc') hc
theorem cu{X:V→KN×List (Nat×Blk)}{v:V}(C:Conv)(bs:List Nat)(cb:List (Nat×List Conv))(h:(Cf P fn (look s.T) (look s.H)).map (cv C)=some (Jp (X v).1))(U:(X v).1=.ret (Jp (X v).1))(O:Yo cb s.H bs=(X v).2)(hok:Mj hc (X v).2 (Jp (X v).1)=true):Al P fn hc (JI X v) s:=by
 obtain⟨x,Y,J⟩:=LC.1 h;simp only[Mj,KL] at hok;refine⟨x,Jp (X v).1,(X v).2,Y,J▸wN C x,hok.1.1,?_,hok.2,U.symm,rfl⟩;have G:=hok.1.2;rw[←O] at G ⊢;exact Jb G
theorem Y5{X:V→KN×List (Nat×Blk)}{v:V}(C:Conv)(bs:List Nat)(cb:List (Nat×List Conv))(h:(Cf P fn (look s.T) (look s.H)).map (cv C)=some (Jp (X v).1):=by kernel_rfl)(O:(X v).1=.ret (Jp (X v).1):=by kernel_rfl)(J:Yo cb s.H bs=(X v).2:=by kernel_rfl)(hok:Mj hc (X v).2 (Jp (X v).1)=true:=by kernel_rfl):ZL (some v) (hQ P fn hc X) .ret s:=⟨fun r G=>by cases G;exact cu C bs cb h O J hok⟩
theorem qJ{X:V→KN×List (Nat×Blk)}{v:V}(C:Conv)(bs:List Nat)(cb:List (Nat×List Conv))(h:(Cf P fn (look s.T) (look s.H)).map (cv C)=some (Jp (X v).1):=by kernel_rfl)(O:(X v).1=.ret (Jp (X v).1):=by kernel_rfl)(J:Yo cb s.H bs=(X v).2:=by kernel_rfl)(hok:Mj hc (X v).2 (Jp (X v).1)=true:=by kernel_rfl):ZL (some v) (hQ P fn hc X) .normal s:=⟨fun r G=>by cases G;exact cu C bs cb h O J hok⟩
theorem K6{X:V→KN×List (Nat×Blk)}{v:V}(bs:List Nat)(cb:List (Nat×List Conv))(U:(X v).1=.panic p:=by kernel_rfl)(O:Yo cb s.H bs=(X v).2:=by kernel_rfl)(hok:Mj hc (X v).2 p=true:=by kernel_rfl):ZL (some v) (hQ P fn hc X) (.panic p) s:=by
 refine⟨fun r J=>?_⟩;cases J;simp only[Mj,KL] at hok;refine⟨p,(X v).2,le_refl p,hok.1.1,?_,hok.2,U.symm,rfl⟩;have G:=hok.1.2;rw[←O] at G ⊢;exact Jb G
def WU(L:List (Nat×Nat))(c:Nat):Nat:=(look L c).getD c
def cB(ρ:Nat→Nat):List Nat→Bool|[]=>true|c::l=>l.all (fun d=>ρ c != ρ d||c==d)&&cB ρ l
theorem Hz{ρ:Nat→Nat}:∀{l:List Nat},cB ρ l=true→∀c∈l,∀d∈l,ρ c=ρ d→c=d
|[],_,c,hc,_,_,_=>by cases hc
|x::l,h,c,hc,d,O,J=>by
  simp only[cB,KL,Gp] at h;rcases List.mem_cons.1 hc with rfl|hc'<;>rcases List.mem_cons.1 O with rfl|G
  ·rfl
  ·have:=h.1 d G;simp[J] at this;exact this
  ·have:=h.1 c hc';simp[J] at this;exact this.symm
  ·exact Hz h.2 c hc' d G J
def Xy(ρ:Nat→Nat)(hc hc' H:List (Nat×Blk)):Bool :=(hc.map (·.1)).all (fun c=>(hc'.map (·.1)).contains c)&&(hc'.map (·.1)).all (fun c=>(hc.map (·.1)).contains c||(look H (ρ c)).isNone)&&cB ρ (hc'.map (·.1))
theorem UQ(h:Xy ρ hc hc' H=true):F4 ρ hc hc' H:=by
 simp only[Xy,KL] at h;refine⟨fun c hc=>?_,fun c hc=>?_,Hz h.2⟩
 ·have:=Gp.1 h.1.1 c hc;simpa using this
 ·have:=Gp.1 h.1.2 c hc;simp only[Bool.or_eq_true,Option.isNone_iff_eq_none] at this;rcases this with G|G
  ·exact .inl (by simpa using G)
  ·exact .inr G
theorem R9{h:QY}:∀{l:List (Nat×Blk)},bH h l=true→∀c k,look l c=some k→okRefB h k=true
|[],_,c,k,G=>by simp[look] at G
|(b,x)::l,J,c,k,G=>by
  simp only[bH,KL] at J;simp only[look] at G;by_cases e:b=c
  ·simp only[e,if_true,Zf] at G;subst G;exact J.1
  ·simp only[e,if_false] at G;exact R9 J.2 c k G
def Ta(H:List (Nat×Blk))(ρ:Nat→Nat)(cb:List (Nat×List Conv))(hc:List (Nat×Blk)):List (Option Blk):=hc.map fun p=>(look H (ρ p.1)).map (cvB ((look cb p.1).getD []))
theorem HV{H:List (Nat×Blk)}{ρ:Nat→Nat}{cb:List (Nat×List Conv)}:∀{hc:List (Nat×Blk)},Ta H ρ cb hc=hc.map (fun p=>some (Ky ρ p.2))→∀c k,look hc c=some k→∃k0,look H (ρ c)=some k0∧leB k0 (Ky ρ k)
|[],_,c,k,G=>by simp[look] at G
|(b,x)::l,J,c,k,G=>by
  simp only[Ta,U8,List.cons.injEq] at J;simp only[look] at G;by_cases e:b=c
  ·simp only[e,if_true,Zf] at G;subst G e;obtain⟨k0,U,O⟩:=LC.1 J.1;exact⟨k0,U,O▸dX _ _⟩
  ·simp only[e,if_false] at G;exact HV (hc:=l) J.2 c k G
def XO(N:Nat)(dst:Option Tmp)(ρ:Nat→Nat)(hc:List (Nat×Blk))(args':List AV):Bool :=K5 N dst&&KR (look hc) args'&&(hc.map (·.1)).all (fun c=>decide (1000≤c))&&bH (look hc) hc&&cB ρ (hc.map (·.1))
def cK(K:St→Prop)(Q:AX→St→Prop)(s:St)(dst:Option Tmp)(ρ:Nat→Nat)(hc':List (Nat×Blk)):KN→Prop|.ret x=>K (St.put ⟨s.T,KP ρ hc' s.H⟩ dst (JH ρ x))|.panic x=>Q (.panic (JH ρ x)) ⟨s.T,KP ρ hc' s.H⟩
theorem EJ{P:Program}{N:Nat}{s:St}{K:St→Prop}{Q:AX→St→Prop}{x:KN}(L:List (Nat×Nat))(C:List Conv)(cb:List (Nat×List Conv))(G:V7 P f args' (look hc) (fun r h'=>r=x∧h'=look hc'))(J:A8 C args=Ja (WU L) args')(hok:XO N dst (WU L) hc args'=true)(O:Ta s.H (WU L) cb hc=hc.map (fun p=>some (Ky (WU L) p.2)))(U:Xy (WU L) hc hc' s.H=true)(Y:cK K Q s dst (WU L) hc' x):TF P N f args dst s K Q:=by
 simp only[XO,KL] at hok;obtain⟨⟨⟨⟨h1,h2⟩,h3⟩,Z⟩,h5⟩:=hok;refine MQ (WU L) G (J▸UM C args) h2 (fun c hc=>by simpa using Gp.1 h3 c hc) (R9 Z) (HV O) (Hz h5) (Kn h1) ?_;rintro r h' ⟨rfl,rfl⟩;refine⟨hc',KP (WU L) hc' s.H,rfl,UQ U,fun _=>rfl,?_⟩;cases r with
|ret x=>exact Y
|panic x=>exact Y
theorem Ph{m:Option V}{k:V→Option R}{X:V→KN×List (Nat×Blk)}(L:List (Nat×Nat))(C:List Conv)(cb:List (Nat×List Conv))(G:∀v,m=some v→V7 P f args' (look hc) (JI X v))(J:A8 C args=Ja (WU L) args')(hok:XO N dst (WU L) hc args'=true)(O:Ta s.H (WU L) cb hc=hc.map (fun p=>some (Ky (WU L) p.2)))(U:∀v,Xy (WU L) hc (X v).2 s.H=true)(hX:∀v,(X v).1=.ret (Jp (X v).1))(h:∀v,R8 (k v) K (St.put ⟨s.T,KP (WU L) (X v).2 s.H⟩ dst (JH (WU L) (Jp (X v).1)))):BM (m.bind k) P N f args dst s K Q:=by
 refine⟨fun r Y=>?_⟩;obtain⟨v,hv,Z⟩:=Nw.1 Y;have h1:=hX v;refine EJ L C cb (G v hv) J hok O (U v) ?_;rw[h1];exact(h v).h r Z
theorem wR{m:Option (Except E V)}{k:V→Option R}{ke:E→Option R}{X:Except E V→KN×List (Nat×Blk)}(L:List (Nat×Nat))(C:List Conv)(cb:List (Nat×List Conv))(G:∀v,m=some v→V7 P f args' (look hc) (JI X v))(J:A8 C args=Ja (WU L) args')(hok:XO N dst (WU L) hc args'=true)(O:Ta s.H (WU L) cb hc=hc.map (fun p=>some (Ky (WU L) p.2)))(Y:∀v,Xy (WU L) hc (X (.ok v)).2 s.H=true)(U:∀v,Xy (WU L) hc (X (.error v)).2 s.H=true)(hX:∀v,(X (.ok v)).1=.ret (Jp (X (.ok v)).1))(hY:∀v,(X (.error v)).1=.panic (Jp (X (.error v)).1))(h:∀v,R8 (k v) K (St.put ⟨s.T,KP (WU L) (X (.ok v)).2 s.H⟩ dst (JH (WU L) (Jp (X (.ok v)).1))))(he:∀e,ZL (ke e) Q (.panic (JH (WU L) (Jp (X (.error e)).1))) ⟨s.T,KP (WU L) (X (.error e)).2 s.H⟩):BM (m.bind (Em k ke)) P N f args dst s K Q:=by
 refine⟨fun r hr=>?_⟩;obtain⟨v,hv,Z⟩:=Nw.1 hr;cases v with
|ok v =>
  refine EJ L C cb (G _ hv) J hok O (Y v) ?_;rw[hX v];exact(h v).h r Z
|error e =>
  refine EJ L C cb (G _ hv) J hok O (U e) ?_;rw[hY e];exact(he e).h r Z
theorem Jv{m:Option V}{k:V→Option R}{X:V→KN×List (Nat×Blk)}(L:List (Nat×Nat))(C:List Conv)(cb:List (Nat×List Conv))(J:∀v,m=some v→V7 P f args' (look hc) (JI X v))(U:∀v,Xy (WU L) hc (X v).2 s.H=true)(Y:∀v,(X v).1=.ret (Jp (X v).1))(h:∀v,Yu (k v) P N ops Q false ((none,[])::acc) l (St.put ⟨(mk ops o s true).T,KP (WU L) (X v).2 s.H⟩ o.dst (JH (WU L) (Jp (X v).1))))(hw:ZV ops o (look s.T)=some true:=by kernel_rfl)(hf:(KC (look (ZH ops o s.T true)) o.op).map (fun p=>(p.1,A8 C p.2))=some (f,Ja (WU L) args'):=by kernel_rfl)(hok:(We P f&&XO N o.dst (WU L) hc args')=true:=by kernel_rfl)(O:Ta s.H (WU L) cb hc=hc.map (fun p=>some (Ky (WU L) p.2)):=by kernel_rfl):Yu (m.bind k) P N ops Q false acc (o::l) s:=by
 obtain⟨⟨f0,args⟩,G,hp⟩:=LC.1 hf;simp only[DC] at hp;obtain⟨rfl,hp⟩:=hp;simp only[KL] at hok;exact Y4 hw G hok.1 (Ph L C cb J hp hok.2 O U Y (fun v=>kr (h v)))
theorem F6{m:Option (Except E V)}{k:V→Option R}{ke:E→Option R}{X:Except E V→KN×List (Nat×Blk)}(L:List (Nat×Nat))(C:List Conv)(cb:List (Nat×List Conv))(J:∀v,m=some v→V7 P f args' (look hc) (JI X v))(Y:∀v,Xy (WU L) hc (X (.ok v)).2 s.H=true)(U:∀v,Xy (WU L) hc (X (.error v)).2 s.H=true)(hX:∀v,(X (.ok v)).1=.ret (Jp (X (.ok v)).1))(hY:∀v,(X (.error v)).1=.panic (Jp (X (.error v)).1))(h:∀v,Yu (k v) P N ops Q false ((none,[])::acc) l (St.put ⟨(mk ops o s true).T,KP (WU L) (X (.ok v)).2 s.H⟩ o.dst (JH (WU L) (Jp (X (.ok v)).1))))(Z:∀e,ZL (ke e) Q (.panic (JH (WU L) (Jp (X (.error e)).1))) ⟨(mk ops o s true).T,KP (WU L) (X (.error e)).2 s.H⟩)(hw:ZV ops o (look s.T)=some true:=by kernel_rfl)(hf:(KC (look (ZH ops o s.T true)) o.op).map (fun p=>(p.1,A8 C p.2))=some (f,Ja (WU L) args'):=by kernel_rfl)(hok:(We P f&&XO N o.dst (WU L) hc args')=true:=by kernel_rfl)(O:Ta s.H (WU L) cb hc=hc.map (fun p=>some (Ky (WU L) p.2)):=by kernel_rfl):Yu (m.bind (Em k ke)) P N ops Q false acc (o::l) s:=by
 obtain⟨⟨f0,args⟩,G,hp⟩:=LC.1 hf;simp only[DC] at hp;obtain⟨rfl,hp⟩:=hp;simp only[KL] at hok;exact Y4 hw G hok.1 (wR L C cb J hp hok.2 O Y U hX hY (fun v=>kr (h v)) Z)
def nQ:List AV→Option (List PV)|[]=>some []|.p x::l=>(nQ l).map (x::·)|_=>none
theorem zw:∀{l:List AV} {ps:List PV},nQ l=some ps→l=ps.map .p
|[],ps,h=>by simp[nQ] at h;subst h;rfl
|x::l,ps,h=>by
  cases x with
 |p x =>
   simp only[nQ] at h;obtain⟨J,G,rfl⟩:=LC.1 h;simp[zw G]
 |_=>simp[nQ] at h
def roV(H:QY)(cs:List Conv):AV→Option AV
|.ptr b off=>match H b with
 |some (.box _ l)=>match nQ (A8 cs l) with
  |some ps=>if Hg (ps.map .p) then some (.eptr (ps.drop off)) else none
  |none=>none
 |_=>none
|_=>none
inductive RoC where
|cv (c:Conv)
|ro (cs:List Conv)
def roA(H:QY):RoC→AV→Option AV|.cv c,x=>some (cv c x)|.ro cs,x=>roV H cs x
def yl(H:QY):List RoC→List AV→Option (List AV)
|[],[]=>some []
|c::cs,x::xs=>match roA H c x,yl H cs xs with|some y,some ys=>some (y::ys)|_,_=>none
|_,_=>none
theorem cO{H:QY}{c:RoC}{x y:AV}(h:roA H c x=some y):leR H x y:=by
 cases c with
|cv c=>simp only[roA,Zf] at h;subst h;exact .inl (wN c x)
|ro cs =>
  simp only[roA,roV] at h;split at h
  ·rename_i b off;split at h
   ·rename_i ty l hb;split at h
    ·rename_i ps G;split at h
     ·rename_i J;simp only[Zf] at h;subst h;exact aB hb (zw G▸UM cs l) J rfl
     ·cases h
    ·cases h
   ·cases h
  ·cases h
theorem BC{H:QY}:∀{cs:List RoC} {xs ys:List AV},yl H cs xs=some ys→xM H xs ys
|[],[],ys,h=>by simp[yl] at h;subst h;simp[xM]
|[],_::_,ys,h=>by simp[yl] at h
|_::_,[],ys,h=>by simp[yl] at h
|c::cs,x::xs,ys,h=>by
  simp only[yl] at h;split at h
  ·rename_i y G O J;simp only[Zf] at h;subst h;exact⟨y,G,rfl,cO O,BC J⟩
  ·cases h
theorem UR{m:Option V}{k:V→Option R}{X:V→AV}(C:List RoC)(hc:∀v,m=some v→QV P f args' (.ret (X v)))(hx:∀v,flat (X v)=true)(h:∀v,Yu (k v) P N ops Q false ((none,[])::acc) l (St.put (mk ops o s true) o.dst (X v)))(hw:ZV ops o (look s.T)=some true:=by kernel_rfl)(hf:(KC (look (ZH ops o s.T true)) o.op).bind (fun p=>(yl (look s.H) C p.2).map fun a=>(p.1,a))=some (f,args'):=by kernel_rfl)(hb:(We P f&&K5 N o.dst&&VG args')=true:=by kernel_rfl):Yu (m.bind k) P N ops Q false acc (o::l) s:=by
 refine⟨fun r U=>?_⟩;obtain⟨v,hv,Z⟩:=Nw.1 U;obtain⟨⟨f0,args⟩,G,hp⟩:=Nw.1 hf;obtain⟨Y,O,J⟩:=LC.1 hp;simp only[DC] at J;obtain⟨rfl,rfl⟩:=J;simp only[KL] at hb;show Y2 P N ops (Q r) (o::l) s;simp only[Y2,hw,Km,UN G];exact Hw G hb.1.1 (kY (hc v hv) (BC O) hb.2 (Kn hb.1.2) ⟨hx v,(h v).h r Z⟩)
theorem EK{m:Option (Except E V)}{k:V→Option R}{ke:E→Option R}{X:V→AV}{Y:E→AV}(C:List RoC)(hc:∀v,m=some v→QV P f args' (xP X Y v))(hx:∀v,flat (X v)=true)(hy:∀v,flat (Y v)=true)(h:∀v,Yu (k v) P N ops Q false ((none,[])::acc) l (St.put (mk ops o s true) o.dst (X v)))(he:∀e,ZL (ke e) Q (.panic (Y e)) (mk ops o s true))(hw:ZV ops o (look s.T)=some true:=by kernel_rfl)(hf:(KC (look (ZH ops o s.T true)) o.op).bind (fun p=>(yl (look s.H) C p.2).map fun a=>(p.1,a))=some (f,args'):=by kernel_rfl)(hb:(We P f&&K5 N o.dst&&VG args')=true:=by kernel_rfl):Yu (m.bind (Em k ke)) P N ops Q false acc (o::l) s:=by
 refine⟨fun r Z=>?_⟩;obtain⟨v,hv,U⟩:=Nw.1 Z;obtain⟨⟨f0,args⟩,G,hp⟩:=Nw.1 hf;obtain⟨aa,O,J⟩:=LC.1 hp;simp only[DC] at J;obtain⟨rfl,rfl⟩:=J;simp only[KL] at hb;show Y2 P N ops (Q r) (o::l) s;simp only[Y2,hw,Km,UN G];refine Hw G hb.1.1 (kY (hc v hv) (BC O) hb.2 (Kn hb.1.2) ?_);cases v with
|ok v=>exact⟨hx v,(h v).h r U⟩
|error e=>exact⟨hy e,(he e).h r U⟩
end
def ZW(n bytes:Nat):Bool:=decide (n*bytes≤140737488355328∧n≤140737488355328)
section
variable {P:Program}{o:Oper}{T:Nat→Option AV}{h:QY}
theorem Z6{t:TypeId}{s:Operand}{S:Nat}{l2:List α}(ho:o.op=.call ⟨.builtin .append,#[s,x],#[t,t]⟩)(ht:P.underlying t=some (.slice e))(hi:(P.info? e).bind (fun i=>i.zero.map fun z=>(i.size,i.bytes,z.cells.size))=some (S,by_,S))(hS:Nat.ble 1 S=true)(hs:Zo T s=some (.tsl S (List.map enc l) tk))(hx:Zo T x=some xv)(he:DR S xv=some (List.map enc l2))(hn:l2.isEmpty=false)(hb:h tk=some (.arr e S (List.map enc l).length))(hc:ZW (l++l2).length by_=true):V6 P o T h=some (.tsl S (List.map enc (l++l2)) tk,some (tk,.arr e S (List.map enc (l++l2)).length),[tk]):=by
 obtain⟨i,U,Z⟩:=Nw.1 hi;obtain⟨z,J,G⟩:=LC.1 Z;simp only[DC] at G;obtain⟨rfl,rfl,hz⟩:=G;have O:¬l2=[]:=by intro e;subst e;cases hn
 have Y:0<i.size:=Nat.le_of_ble_eq_true hS;simp only[ZW,Ii,mR] at hc;simp[V6,ho,qo,hs,hx,LK,ht,U,J,he,hz,Y,isNil,hb,O,hc]
theorem Xi{t:TypeId}{s:Operand}{S:Nat}{l2:List α}(ho:o.op=.call ⟨.builtin .append,#[s,x],#[t,t]⟩)(ht:P.underlying t=some (.slice e))(hi:(P.info? e).bind (fun i=>i.zero.map fun z=>(i.size,i.bytes,z.cells.size))=some (S,by_,S))(hS:Nat.ble 1 S=true)(hs:Zo T s=some (.tsl S (List.map enc l) tk))(hx:Zo T x=some xv)(he:DR S xv=some (List.map enc l2))(hb:h tk=some (.arr e S (List.map enc l).length))(hc:ZW (l++l2).length by_=true):V6 P o T h=some (.tsl S (List.map enc (l++l2)) tk,some (tk,.arr e S (List.map enc (l++l2)).length),[tk]):=by
 obtain⟨i,U,Z⟩:=Nw.1 hi;obtain⟨z,J,G⟩:=LC.1 Z;simp only[DC] at G;obtain⟨rfl,rfl,hz⟩:=G;have Y:0<i.size:=Nat.le_of_ble_eq_true hS;simp only[ZW,Ii,mR] at hc;by_cases O:l2=[]
 ·subst O;simp[V6,ho,qo,hs,hx,LK,ht,U,J,he,hz,Y,isNil,hb]
 simp[V6,ho,qo,hs,hx,LK,ht,U,J,he,hz,Y,isNil,hb,O,hc]
end
inductive OL(α:Type) where
|nil
|own (l:List α)
def OL.toL{α:Type}:OL α→List α|.nil=>[]|.own l=>l
@[simp] theorem OL.toL_nil{α:Type}:(OL.nil:OL α).toL=[]:=rfl
@[simp] theorem OL.toL_own{α:Type}(l:List α):(OL.own l).toL=l:=rfl
section
variable {R V E:Type}{a a1 a2:Option R}{P:Program}{N:Nat}{ro:Option Nat}{ops:Array Oper}{o:Oper}{l:List Oper}{dr:Bool}{acc:List Vf}{s s' s1:St}{Q:R→AX→St→Prop}{K:R→St→Prop}{f:FuncId}{args args':List AV}{dst:Option Tmp}
theorem Z7{m:Option V}{k:V→Option R}{u:V→Kt}(hu:∀v,m=some v→V6 P o (look (ZH ops o s.T true)) (look s.H)=some (u v))(h:∀v,m=some v→Yu (k v) P N ops Q dr (Od (u v)::acc) l (nxt ops o s (u v)))(hw:ZV ops o (look s.T)=some true:=by kernel_rfl)(hp:(plain o.op&&K5 N o.dst)=true:=by kernel_rfl):Yu (m.bind k) P N ops Q dr acc (o::l) s:=by
 simp only[KL] at hp;refine⟨fun r J=>?_⟩;obtain⟨v,G,O⟩:=Nw.1 J;exact Bz hw hp.1 (hu v G) hp.2 (R7 dr acc _▸(h v G).h r O)
theorem Zr{l:List α}{i:Int}{v:α}(h:Za l i=some v):l[i.toNat]?=some v:=by
 unfold Za at h;split at h
 ·cases h
 ·exact h
def wS(P:Program)(fn:Func)(hc:List (Nat×Blk))(ρ:Nat→Nat)(s:St)(dst:Option Tmp)(K:R→St→Prop)(Q:R→AX→St→Prop):R→AX→St→Prop :=fun r=>gp P fn hc (fun x h'=>∃hc',h'=look hc'∧F4 ρ hc hc' s.H∧cK (K r) (Q r) s dst ρ hc' x)
theorem Zu(L:List (Nat×Nat))(C:List Conv)(cb:List (Nat×List Conv))(hf:P.funcs[f]?=some fn)(hb:fn.body=some c)(Z:fn.ntmps=n)(hl:Nat.ble args'.length n=true)(G:A8 C args=Ja (WU L) args')(hok:XO N dst (WU L) hc args'=true)(J:Ta s.H (WU L) cb hc=hc.map (fun p=>some (Ky (WU L) p.2)))(h:QU a P n none c ⟨Xg 0 args',hc⟩ (wS P fn hc (WU L) s dst K Q)):BM a P N f args dst s K Q:=by
 subst Z;refine⟨fun r U=>?_⟩;simp only[XO,KL] at hok;obtain⟨⟨⟨⟨h1,h2⟩,h3⟩,h4⟩,h5⟩:=hok;refine MQ (WU L) (SX hf hb (Nat.le_of_ble_eq_true hl) (h.h r U)) (G▸UM C args) h2 (fun c hc=>by simpa using Gp.1 h3 c hc) (R9 h4) (HV J) (Hz h5) (Kn h1) ?_;rintro x h' ⟨hc',rfl,Y,O⟩;refine⟨hc',KP (WU L) hc' s.H,rfl,Y,fun _=>rfl,?_⟩;cases x with
|ret x=>exact O
|panic x=>exact O
def Mo(ρ:Nat→Nat)(hc hc':List (Nat×Blk))(s:St)(y:AV):Bool:=Mj hc hc' y&&Xy ρ hc hc' s.H
theorem cZ{x:AX}(U:x=.ret∨x=.normal)(C:Conv)(bs:List Nat)(cb:List (Nat×List Conv))(y:AV)(h:(Cf P fn (look s1.T) (look s1.H)).map (cv C)=some y)(hok:Mo ρ hc (Yo cb s1.H bs) s y=true)(J:R8 a K (St.put ⟨s.T,KP ρ (Yo cb s1.H bs) s.H⟩ dst (JH ρ y))):ZL a (wS P fn hc ρ s dst K Q) x s1:=by
 obtain⟨z,Y,O⟩:=LC.1 h;simp only[Mo,Mj,KL] at hok;refine⟨fun r G=>?_⟩
 have:Al P fn hc (fun x h'=>∃hc',h'=look hc'∧F4 ρ hc hc' s.H∧cK (K r) (Q r) s dst ρ hc' x) s1 :=
  ⟨z,y,Yo cb s1.H bs,Y,O▸wN C z,hok.1.1.1,Jb hok.1.1.2,hok.1.2,_,rfl,UQ hok.2,J.h r G⟩
 rcases U with rfl|rfl<;>exact this
theorem QN(C:Conv)(bs:List Nat)(cb:List (Nat×List Conv))(y:AV)(G:R8 a K (St.put ⟨s.T,KP ρ (Yo cb s1.H bs) s.H⟩ dst (JH ρ y)))(h:(Cf P fn (look s1.T) (look s1.H)).map (cv C)=some y:=by kernel_rfl)(hok:Mo ρ hc (Yo cb s1.H bs) s y=true:=by kernel_rfl):ZL a (wS P fn hc ρ s dst K Q) .ret s1:=cZ (.inl rfl) C bs cb y h hok G
theorem Xj(C:Conv)(bs:List Nat)(cb:List (Nat×List Conv))(y:AV)(G:R8 a K (St.put ⟨s.T,KP ρ (Yo cb s1.H bs) s.H⟩ dst (JH ρ y)))(h:(Cf P fn (look s1.T) (look s1.H)).map (cv C)=some y:=by kernel_rfl)(hok:Mo ρ hc (Yo cb s1.H bs) s y=true:=by kernel_rfl):ZL a (wS P fn hc ρ s dst K Q) .normal s1:=cZ (.inr rfl) C bs cb y h hok G
theorem Ke(bs:List Nat)(cb:List (Nat×List Conv))(J:ZL a Q (.panic (JH ρ p)) ⟨s.T,KP ρ (Yo cb s1.H bs) s.H⟩)(hok:Mo ρ hc (Yo cb s1.H bs) s p=true:=by kernel_rfl):ZL a (wS P fn hc ρ s dst K Q) (.panic p) s1:=by
 simp only[Mo,Mj,KL] at hok;exact⟨fun r G=>⟨p,Yo cb s1.H bs,le_refl p,hok.1.1.1,Jb hok.1.1.2,hok.1.2,_,rfl,UQ hok.2,J.h r G⟩⟩
theorem Vi(hc:List (Nat×Blk))(args':List AV)(L:List (Nat×Nat))(C:List Conv)(cb:List (Nat×List Conv))(hf:P.funcs[f]?=some fn)(hb:fn.body=some c)(Y:fn.ntmps=n)(U:Nat.ble args'.length n=true)(h:QU a P n none c ⟨Xg 0 args',hc⟩ (wS P fn hc (WU L) (mk ops o s true) o.dst (fKr P N ops Q l) Q))(hw:ZV ops o (look s.T)=some true:=by kernel_rfl)(J:(KC (look (ZH ops o s.T true)) o.op).map (fun p=>(p.1,A8 C p.2))=some (f,Ja (WU L) args'):=by kernel_rfl)(hok:(We P f&&XO N o.dst (WU L) hc args')=true:=by kernel_rfl)(O:Ta s.H (WU L) cb hc=hc.map (fun p=>some (Ky (WU L) p.2)):=by kernel_rfl):Yu a P N ops Q false acc (o::l) s:=by
 obtain⟨⟨f0,args⟩,G,hp⟩:=LC.1 J;simp only[DC] at hp;obtain⟨rfl,hp⟩:=hp;simp only[KL] at hok;exact Y4 hw G hok.1 (Zu L C cb hf hb Y U hp hok.2 O h)
theorem xQ(hc:List (Nat×Blk))(args':List AV)(L:List (Nat×Nat))(C:List Conv)(cb:List (Nat×List Conv))(hw:ZV ops o (look s.T)=some true)(hf:P.funcs[f]?=some fn)(hb:fn.body=some c)(Y:fn.ntmps=n)(U:Nat.ble args'.length n=true)(J:(KC (look (ZH ops o s.T true)) o.op).map (fun p=>(p.1,A8 C p.2))=some (f,Ja (WU L) args'))(hok:(We P f&&XO N o.dst (WU L) hc args'&&Uf ops acc.length&&KO ops acc.reverse)=true)(O:Ta s.H (WU L) cb hc=hc.map (fun p=>some (Ky (WU L) p.2)))(h:QU a P n none c ⟨Xg 0 args',hc⟩ (wS P fn hc (WU L) (mk ops o s true) o.dst (fKq Q) Q)):Yu a P N ops Q true acc [o] s:=by
 obtain⟨⟨f0,args⟩,G,hp⟩:=LC.1 J;simp only[DC] at hp;obtain⟨rfl,hp⟩:=hp;simp only[KL] at hok;exact nP hw G (by simp[hok]) (Zu L C cb hf hb Y U hp hok.1.1.2 O h)
end
section
variable {P:Program}{o:Oper}{T:Nat→Option AV}{h:QY}
theorem wU{t:TypeId}{S:Nat}{es:List (List PV)}(J:o.op=.call ⟨.builtin .len,#[x],#[t]⟩)(U:Zo T x=some (.vsl S tk n))(hb:h tk=some (.vec ty S es))(G:P.underlying t=some (.slice e))(O:n=es.length) :
  V6 P o T h=some (.p (.val (.int .i64 es.length)),none,[tk]):=by
 subst O;simp[V6,J,qo,U,vQ,G,hb]
theorem F7{t:TypeId}{S:Nat}{k:IntKind}{n:Int}(Z:o.op=.indexAddr t x ix)(hn:Zo T ix=some (.p (.val (.int k n))))(hx:Zo T x=some (.vsl S tk nn))(hb:h tk=some (.vec ty S (List.map enc l)))(ht:P.underlying t=some (.slice e))(hi:(P.info? e).map (·.size)=some S)(J:nn=(List.map enc l).length)(v:α)(G:Za l n=some v):V6 P o T h=some (.vptr tk (List.map enc l).length n.toNat 0,none,[tk]):=by
 subst J;unfold Za at G;split at G
 ·cases G
 ·rename_i Y;obtain⟨i,O,U⟩:=LC.1 hi;have h0:0≤n:=by omega
  have h1:n.toNat<l.length:=(MG.1 G).1;simp[V6,Z,qo,hx,Jt,hn,ht,hb,O,U,h0,h1]
theorem TJ{k f S:Nat}{es:List (List PV)}(G:o.op=.nilCheck x)(J:Zo T x=some (.vptr tk es.length k f))(hb:h tk=some (.vec ty S es)):V6 P o T h=some (.vptr tk es.length k f,none,[tk]):=by
 simp[V6,G,qo,J,xu,hb]
theorem KH{f S:Nat}{v:α}{c:AV}(Y:o.op=.load ty x)(Z:l[n]?=some v)(hx:Zo T x=some (.vptr tk (List.map enc l).length n f):=by kernel_rfl)(hb:h tk=some (.vec tb S (List.map enc l)):=by kernel_rfl)(hc:(match P.underlying ty,P.info? ty with
  |some d,some i=>if G6 d then(if f+i.size≤(enc v).length then some (.agg ((((enc v).drop f).take i.size).map .p)) else none) else(match (enc v)[f]? with|some c=>some (.p c)|none=>none)
  |_,_=>none)=some c:=by kernel_rfl):V6 P o T h=some (c,none,[tk]):=by
 split at hc
 ·rename_i d i U hi;have G:(List.map enc l)[n]?=some (enc v):=by simp[Z]
  simp only[V6,Y,qo,hx,SB,U,hi,hb,G,if_true];split at hc
  ·rename_i J;rw[if_pos J];split at hc
   ·rename_i O;rw[if_pos O];simp only[Zf] at hc;rw[hc]
   ·cases hc
  ·rename_i J;rw[if_neg J];split at hc
   ·rename_i c' O;rw[O];simp only[Zf] at hc;subst hc;rfl
   ·cases hc
 ·cases hc
theorem V4{f S:Nat}{v v':α}(Y:o.op=.store ty x y)(hv:l[n]?=some v)(hx:Zo T x=some (.vptr tk (List.map enc l).length n f):=by kernel_rfl)(Z:Zo T y=some xv:=by kernel_rfl)(hb:h tk=some (.vec tb S (List.map enc l)):=by kernel_rfl)(hc:(match P.info? ty,cellsOf xv with
  |some i,some U=>match LM U with|some ps=>if U.length=i.size∧f+ps.length≤(enc v).length then some ((enc v).take f++ps++(enc v).drop (f+ps.length)) else none|none=>none
  |_,_=>none)=some (enc v'):=by kernel_rfl):V6 P o T h=some (.p (.val undef),some (tk,.vec tb S (List.map enc (l.set n v'))),[tk]):=by
 split at hc
 ·rename_i i U hi O;split at hc
  ·rename_i ps G;split at hc
   ·rename_i h1;simp only[Zf] at hc;have J:(List.map enc l)[n]?=some (enc v):=by simp[hv]
    simp only[V6,Y,qo,hx,DW,hi,Z,hb,O,G,J,if_true,h1,and_self,hc,List.map_set]
   ·cases hc
  ·cases hc
 ·cases hc
theorem rf{t:TypeId}{s:Operand}{S:Nat}{l2:List α}(ho:o.op=.call ⟨.builtin .append,#[s,x],#[t,t]⟩)(ht:P.underlying t=some (.slice e))(hi:(P.info? e).bind (fun i=>i.zero.map fun z=>(i.size,i.bytes,z.cells.size,LP z.cells.toList))=some (S,by_,S,true))(hS:Nat.ble 1 S=true)(hs:Zo T s=some (.vsl S tk n))(hx:Zo T x=some xv)(he:DR S xv=some (List.map enc l2))(hb:h tk=some (.vec e S (List.map enc l)))(hn:n=(List.map enc l).length)(hc:ZW (l++l2).length by_=true):V6 P o T h=some (.vsl S tk (List.map enc (l++l2)).length,some (tk,.vec e S (List.map enc (l++l2))),[tk]):=by
 subst hn;obtain⟨i,O,Z⟩:=Nw.1 hi;obtain⟨z,J,G⟩:=LC.1 Z;simp only[DC] at G;obtain⟨rfl,rfl,hz,U⟩:=G;have Y:0<i.size:=Nat.le_of_ble_eq_true hS;simp only[ZW,Ii,mR] at hc;by_cases h2:l2=[]
 ·subst h2;simp only[List.length_nil,Nat.add_zero] at hc;simp[V6,ho,qo,hs,hx,Fv,ht,O,J,he,hz,Y,U,hb,hc]
 ·simp[V6,ho,qo,hs,hx,Fv,ht,O,J,he,hz,Y,U,hb,h2,hc]
def sliceB(lo hi:Int)(len:Nat):Bool:=decide (0≤lo∧lo≤hi∧hi≤len)
def BN(T:Nat→Option AV)(d:Int):Option Operand→Option Int
|none=>some d
|some x=>match Zo T x with|some (.p (.val (.int _ n)))=>some n|_=>none
theorem TK{T:Nat→Option AV}{x:Option Operand}{n:Int}(h:BN T d x=some n)(h0:0≤n):WR T d x=some n.toNat:=by
 cases x with
|none=>simp only[BN,Zf] at h;subst h;simp[WR]
|some x =>
  simp only[BN] at h;split at h
  ·rename_i k m G;simp only[Zf] at h;subst h;simp[WR,G,h0]
  ·cases h
theorem zx{t:TypeId}{S:Nat}{sv:AV}{a b:Int}(Z:o.op=.slice t x lo hi none)(ht:P.underlying t=some (.slice e))(O:(P.info? e).map (·.size)=some S)(hx:Zo T x=some sv)(hs:elems sv=some (S,List.map enc l))(U:BN T 0 lo=some a)(J:BN T (List.map enc l).length hi=some b)(hc:sliceB a b l.length=true):V6 P o T h=some (.p (.sl S (List.map enc ((l.take b.toNat).drop a.toNat))),none,[]):=by
 obtain⟨i,Y,G⟩:=LC.1 O;simp only[sliceB,Ii] at hc;have h1:=TK (d:=0) U hc.1;have h2:=TK J zo;have h3:a.toNat≤b.toNat:=by omega
 have h4:b.toNat≤l.length:=by omega
 have h5:S=i.size∧a.toNat≤b.toNat∧b.toNat≤(List.map enc l).length:=⟨G.symm,h3,by simpa using h4⟩
 have h6:Hq P T t x lo hi none=some (.p (.sl S (((List.map enc l).take b.toNat).drop a.toNat)),none,[]):=by
  simp only[Hq,ht,hx,hs,Y,h1,h2];rw[if_pos h5]
 simp only[V6,Z,h6,FX,List.map_drop,List.map_take]
def Pi(l c:Int)(by_:Nat):Bool:=decide (0≤l∧l≤c∧(by_:Int)*c≤281474976710656∧c≤140737488355328)
theorem Oh{t:TypeId}{S:Nat}{z0:α}{k k':IntKind}{l c:Int}(ho:o.op=.makeSlice t x y)(hd:o.dst=some d)(ht:P.underlying t=some (.slice e))(hi:(P.info? e).bind (fun i=>i.zero.bind fun z=>(LM (z.cells.toList.map Ik)).map fun ps=>(i.size,i.bytes,z.cells.size,LP z.cells.toList,ps))=some (S,by_,S,true,enc z0))(hS:Nat.ble 1 S=true)(hl:(enc z0).length=S)(hx:Zo T x=some (.p (.val (.int k l))))(hy:Zo T y=some (.p (.val (.int k' c))))(hb:h d=none)(hc:Pi l c by_=true):V6 P o T h=some (.vsl S d (List.map enc (List.replicate l.toNat z0)).length,some (d,.vec e S (List.map enc (List.replicate l.toNat z0))),[d]):=by
 obtain⟨i,Y,aa⟩:=Nw.1 hi;obtain⟨z,U,J⟩:=Nw.1 aa;obtain⟨ps,O,G⟩:=LC.1 J;simp only[DC] at G;obtain⟨rfl,rfl,h3,h4,rfl⟩:=G;have Z:0<i.size:=Nat.le_of_ble_eq_true hS;simp only[Pi,Ii] at hc;simp[V6,ho,SC,ht,hx,hy,hd,Y,U,hb,O,h3,h4,Z,hl,hc]
end
def xU{E V:Type}(x:V→KN×List (Nat×Blk))(y:E→KN×List (Nat×Blk)):Except E V→KN×List (Nat×Blk)|.ok v=>x v|.error e=>y e
section
variable {R V:Type}{N:Nat}{s s1:St}{Q:R→AX→St→Prop}
theorem aJ{k:V→Option R}{S:V→St}(v:V)(K:Ro)(s1:St)(hw:Dv K s=some s1)(G:s1=S v):ZL (k v) (kQ N k S Q) .normal s:=Qdr v K (G▸hw)
theorem xV{S:V→St}(v:V)(K:Ro)(s1:St)(G:s1=S v)(hw:Dv K s=some s1:=by kernel_rfl):ZL (some v) (aG N S) .normal s:=dY v K (G▸hw)
end
theorem aK(h:Ex P N ro c s (fun x s'=>∃G,I7 (look s'.T) (look G.H) G.T∧BL (look s'.H) (look G.H) G.H∧YR (look G.H) s.H=true∧(∀v,x=.panic v→Kv (look G.H) v=true)∧Q x G)):Ex P N ro c s Q:=by
 intro φ M0 D a w r;refine wpIn_mono (h φ M0 D a w r) ?_;rintro e a' w' ⟨φ',x,s',⟨G,h1,Y,h3,hp,h4⟩,r',Z,J⟩;obtain⟨k1,k2,U⟩:=N9 (hc:=s.H) r' Z Y h3;refine⟨φ',x,G,h4,⟨?_,r'.siz,k1,fun t y ht=>?_⟩,k2,?_⟩
 ·obtain⟨h0,ms,g1,g2,g3⟩:=r'.dfs;refine⟨h0,ms,g1,g2,fun z O=>⟨(g3 z O).1,(g3 z O).2.1,fun b hb=>(g3 z O).2.2 b ?_⟩⟩;cases hq:look G.H b with
 |none=>exact absurd hq hb
 |some k'=>obtain⟨⟨k,e1,_⟩,_⟩:=Xx Y b k' hq;rw[e1];simp
 ·obtain⟨z,g1,g2,g3⟩:=Bv h1 t y ht;exact⟨(r'.tm t z g1).1,U _ _ g3 (XM.1 _ _ _ g2 (r'.tm t z g1).2)⟩
 ·cases x with
 |normal=>exact J
 |exit i=>exact J
 |ret=>exact J
 |panic v=>obtain⟨u,h5,h6⟩:=J;exact⟨u,h5,U _ _ (hp v rfl) h6⟩
section
variable {R V E:Type}{a a1 a2:Option R}{P:Program}{N:Nat}{ro:Option Nat}{ops:Array Oper}{o:Oper}{l:List Oper}{dr:Bool}{acc:List Vf}{s s' s1:St}{Q:R→AX→St→Prop}{K:R→St→Prop}{f:FuncId}{args args':List AV}{dst:Option Tmp}
def rgQ(N:Nat)(s:St)(Q:R→AX→St→Prop):R→AX→St→Prop:=fun r x s'=>∃G,I7 (look s'.T) (look G.H) G.T∧BL (look s'.H) (look G.H) G.H∧YR (look G.H) s.H=true∧(∀v,x=.panic v→Kv (look G.H) v=true)∧Q r x G
def fKg(G:Nat)(T:List (Nat×AV))(nf:Dj)(N:Nat)(s:St)(Q:R→AX→St→Prop):R→St→Prop:=fun r=>dS G T nf (rgQ N s Q r)
theorem EL{J:Operand}{ps:Array Tmp}{assign:Code}(g:FuncId)(G:Nat)(l':List AV)(O:List AV)(hf:Zo (look s.T) J=some (.fn (.func g) l' O))(hok:(We P g&&Nat.ble 1000 G&&(look s.H G).isNone)=true)(h:∀nf fn,nf=Dj.mk N fn ps assign body→BM a P N g (l'++[.yv G]++O) none ⟨s.T,(G,.lp s.T nf .ready none)::s.H⟩ (fKg G s.T nf N s Q) (rgQ N s Q)):QU a P N none (.rangeFunc J ps assign body) s Q:=by
 simp only[KL,Option.isNone_iff_eq_none] at hok;refine⟨fun r U=>aK (kX G (Nat.le_of_ble_eq_true hok.1.2) hf hok.1.1 hok.2 fun fn=>?_)⟩;exact(h _ fn rfl).h r U
theorem gH{x:AX}{st:LoopState}{G:Nat}{T:List (Nat×AV)}(J:Ro)(O:St)(U:∀v,x≠.panic v)(hs:(if okT (look (shr J ⟨s1.T,(G,.lp T nf .exhausted pd)::s1.H⟩).H) (shr J ⟨s1.T,(G,.lp T nf .exhausted pd)::s1.H⟩).T&&bH (look (shr J ⟨s1.T,(G,.lp T nf .exhausted pd)::s1.H⟩).H) (shr J ⟨s1.T,(G,.lp T nf .exhausted pd)::s1.H⟩).H&&YR (look (shr J ⟨s1.T,(G,.lp T nf .exhausted pd)::s1.H⟩).H) s.H then some (shr J ⟨s1.T,(G,.lp T nf .exhausted pd)::s1.H⟩) else none)=some O)(h:ZL a Q x O)(r:R)(Y:a=some r):rgQ N s Q r x ⟨s1.T,(G,.lp T nf .exhausted pd)::s1.H⟩:=by
 split at hs
 ·rename_i hok;simp only[Zf] at hs;subst hs;simp only[KL] at hok;exact⟨_,R6 hok.1.1,Jb hok.1.2,hok.2,fun v Z=>absurd Z (U v),h.h r Y⟩
 ·cases hs
def rgS(G:Ro)(s s1:St):Option St:=if okT (look (shr G s1).H) (shr G s1).T&&bH (look (shr G s1).H) (shr G s1).H&&YR (look (shr G s1).H) s.H then some (shr G s1) else none
theorem QbN{J:Nat}{T:List (Nat×AV)}(st:LoopState)(U:Ro)(G:St)(Z:look s1.H J=some (.lp T nf st none))(O:st≠.busy)(hs:rgS U s ⟨s1.T,(J,.lp T nf .exhausted none)::s1.H⟩=some G)(h:ZL a Q .normal G):R8 a (fKg J T nf N s Q) s1 :=
 ⟨fun r Y=>⟨st,none,Z,O,gH (st:=st) U G (fun v e=>by cases e) hs h r Y⟩⟩
theorem aL{J:Nat}{T:List (Nat×AV)}(st:LoopState)(U:Ro)(G:St)(Z:look s1.H J=some (.lp T nf st (some .ret)))(O:st≠.busy)(hs:rgS U s ⟨s1.T,(J,.lp T nf .exhausted (some .ret))::s1.H⟩=some G)(h:ZL a Q .ret G):R8 a (fKg J T nf N s Q) s1 :=
 ⟨fun r Y=>⟨st,some .ret,Z,O,gH (st:=st) U G (fun v e=>by cases e) hs h r Y⟩⟩
def rdR(ρ:Nat→Nat)(hc:List (Nat×Blk))(s:St)(dst:Option Tmp)(K:St→Prop)(Q:AX→St→Prop):KN→QY→Prop:=fun x h'=>∃hc',h'=look hc'∧F4 ρ hc hc' s.H∧cK K Q s dst ρ hc' x
def rnQ(ρ:Nat→Nat)(hc:List (Nat×Blk))(b:Nat)(T:List (Nat×AV))(nf:Dj)(s:St)(dst:Option Tmp)(K:R→St→Prop)(Q:R→AX→St→Prop):R→AX→St→Prop:=fun r=>dR hc b T nf (rdR ρ hc s dst (K r) (Q r))
def asQ(P:Program)(N l:Nat)(body:Code)(b:Nat)(T:List (Nat×AV))(nf:Dj)(Q:R→AX→St→Prop):R→AX→St→Prop:=fun r x s1=>x=.normal∧∃G,look s1.H b=some (.lp T nf .ready G)∧Ex P N (some l) body ⟨s1.T,(b,.lp T nf .busy G)::s1.H⟩ (Q r)
theorem rq{l:Nat}{T:List (Nat×AV)}(U:Ro)(G:St)(pd:Option Code)(O:look s1.H b=some (.lp T nf .ready pd))(hs:Dv U ⟨s1.T,(b,.lp T nf .busy pd)::s1.H⟩=some G)(h:QU a P N (some l) body G Q):ZL a (asQ P N l body b T nf Q) .normal s1 :=
 ⟨fun r J=>⟨rfl,pd,O,LJ (F5 hs) (h.h r J)⟩⟩
theorem CE{N1:Nat}{fn:FuncId}{ps:Array Tmp}{assign:Code}{Z:List Oper}(L:List (Nat×Nat))(hc:List (Nat×Blk))(b:Nat)(T:List (Nat×AV))(C:List Conv)(cb:List (Nat×List Conv))(args':List AV)(hw:ZV ops o (look s.T)=some true)(ab:nf=Dj.mk N1 fn ps assign body)(hy:(yieldOf (look (ZH ops o s.T true)) o.op).map (fun p=>(p.1,A8 C p.2))=some (WU L b,Ja (WU L) args'))(hb:look hc b=some (.lp T nf .ready none))(J:(Nat.ble 1000 b&&Nat.beq ps.size args'.length&&ps.toList.all (fun p=>Nat.blt p N1))=true)(hok:XO N o.dst (WU L) hc args'=true)(Y:Ta s.H (WU L) cb hc=hc.map (fun p=>some (Ky (WU L) p.2)))(h:∀l,QU a P N1 (some l) assign ⟨psT ps.toList args' T,hc⟩ (asQ P N1 l body b T nf (rnQ (WU L) hc b T nf (mk ops o s true) o.dst (fKr P N ops Q Z) Q))):Yu a P N ops Q false acc (o::Z) s:=by
 obtain⟨⟨b0,args⟩,aa,hp⟩:=LC.1 hy;simp only[DC] at hp;obtain⟨U,O⟩:=hp;have U:b0=WU L b:=U;subst U;refine⟨fun r hr=>?_⟩;show Y2 P N ops (Q r) (o::Z) s;simp only[Y2,hw,Km,aa];show YEx P N (WU L b) args o.dst (mk ops o s true) _ _;simp only[KL] at J;simp only[XO,KL] at hok;obtain⟨⟨⟨⟨g1,g2⟩,g3⟩,g4⟩,g5⟩:=hok
 have hY:dH P b args' (look hc) (rdR (WU L) hc (mk ops o s true) o.dst (fKr P N ops Q Z r) (Q r)):=by
  have G:=ab;refine wJ (nf:=nf) (Nat.le_of_ble_eq_true J.1.1) hb ?_ ?_ fun l=>?_
  ·subst G;exact Nat.eq_of_beq_eq_true J.1.2
  ·subst G;intro p hp;simpa [Nat.blt_eq] using Gp.1 J.2 p hp
  ·have:=(h l).h r hr;subst G;exact this
 refine wI (s:=mk ops o s true) (WU L) hY (by rw[←O];exact UM C args) g2 (fun c hc=>by simpa using Gp.1 g3 c hc) (R9 g4) (HV Y) (Hz g5) (Kn g1) ?_;rintro x h' ⟨hc',rfl,hd,hk⟩;refine⟨hc',KP (WU L) hc' s.H,rfl,hd,fun _=>rfl,?_⟩;cases x with
|ret x=>exact hk
|panic x=>exact hk
def aM(hc hc':List (Nat×Blk))(b:Nat)(s:St):Bool:=bH (look hc') hc'&&YR (look hc') hc
theorem ru{T:List (Nat×AV)}{x:AX}{G:Bool}(hx:∀r,rnQ ρ hc b T nf s dst K Q r x s1=Cm hc b T nf (rdR ρ hc s dst (K r) (Q r)) G st pd s1)(bs:List Nat)(cb:List (Nat×List Conv))(O:LoopState)(J:Option Code)(Z:look (Yo cb s1.H bs) b=some (.lp T nf O J))(hok:(aM hc (Yo cb s1.H bs) b s&&Xy ρ hc ((b,.lp T nf st pd)::Yo cb s1.H bs) s.H)=true)(Y:R8 a K (St.put ⟨s.T,KP ρ ((b,.lp T nf st pd)::Yo cb s1.H bs) s.H⟩ dst (JH ρ (.p (.val (.bool G)))))):ZL a (rnQ ρ hc b T nf s dst K Q) x s1:=by
 refine⟨fun r U=>?_⟩;rw[hx r];simp only[aM,KL] at hok;exact⟨_,O,J,Jb hok.1.1,hok.1.2,Z,_,rfl,UQ hok.2,Y.h r U⟩
theorem Ao{T:List (Nat×AV)}(bs:List Nat)(cb:List (Nat×List Conv))(J:LoopState)(G:Option Code)(O:R8 a K (St.put ⟨s.T,KP ρ ((b,.lp T nf .ready none)::Yo cb s1.H bs) s.H⟩ dst (JH ρ (.p (.val (.bool true))))))(U:look (Yo cb s1.H bs) b=some (.lp T nf J G):=by kernel_rfl)(hok:(aM hc (Yo cb s1.H bs) b s&&Xy ρ hc ((b,.lp T nf .ready none)::Yo cb s1.H bs) s.H)=true:=by kernel_rfl):ZL a (rnQ ρ hc b T nf s dst K Q) .normal s1:=ru (fun _=>rfl) bs cb J G U hok O
theorem aN{T:List (Nat×AV)}(bs:List Nat)(cb:List (Nat×List Conv))(J:LoopState)(G:Option Code)(U:look (Yo cb s1.H bs) b=some (.lp T nf J G))(hok:(aM hc (Yo cb s1.H bs) b s&&Xy ρ hc ((b,.lp T nf .done (some .ret))::Yo cb s1.H bs) s.H)=true)(O:R8 a K (St.put ⟨s.T,KP ρ ((b,.lp T nf .done (some .ret))::Yo cb s1.H bs) s.H⟩ dst (JH ρ (.p (.val (.bool false)))))):ZL a (rnQ ρ hc b T nf s dst K Q) .ret s1:=ru (fun _=>rfl) bs cb J G U hok O
end
def EM(k i:Nat):Nat:=if i=k then 0 else if i<k then i+1 else i
def xW(o:Oper):Bool:=match o.op,o.guard with|.move _,none=>true|_,_=>false
def nR(o:Oper):Bool:=xW o&&o.after.toList.all (fun e=>!Region.binds .any e)
def reO(k:Nat)(o:Oper):Oper:={ o with after:=⟨(if nR o then[] else[⟨0,.data⟩])++o.after.toList.map fun e=>⟨EM k e.on,e.ground⟩⟩,guard:=o.guard.map fun g=>(EM k g.1,g.2) }
def MR(k:Nat)(l:List Oper):List Oper:=match l[k]? with
|some o=>{ o with after:=#[] }::(l.eraseIdx k).map (reO k)
|none=>l
def XZ(k:Nat)(ops:Array Oper):Array Oper:=⟨MR k ops.toList⟩
def Ib(k:Nat)(ops:Array Oper):Bool:=match ops[k]? with
|some o=>xW o&&o.after.toList.all (fun e=>!Region.binds .any e)&&Region.noSelect ops&&Region.free .any ops (Array.replicate ops.size false) k
|none=>false
theorem wV{k:Nat}{l:List Oper}(h:l[k]?=some o):(MR k l)[0]?=some { o with after:=#[] }:=by
 simp[MR,h]
theorem nS{k:Nat}{l:List Oper}(h:l[k]?=some o)(i:Nat)(hi:i≠k):(MR k l)[EM k i]?=(l[i]?).map (reO k):=by
 unfold MR EM;simp only[h,if_neg hi];by_cases hlt:i<k
 ·simp only[if_pos hlt,List.getElem?_cons_succ,List.getElem?_map];rw[List.getElem?_eraseIdx,if_pos hlt]
 ·obtain⟨j,rfl⟩:∃j,i=j+1:=⟨i-1,by omega⟩;simp only[if_neg hlt,List.getElem?_cons_succ,List.getElem?_map];rw[List.getElem?_eraseIdx,if_neg zo]
theorem xX{k:Nat}{l:List Oper}(h:l[k]?=some o):(MR k l).length=l.length:=by
 have G:k<l.length:=(MG.1 h).1;unfold MR;simp only[h,lU,RS,List.length_eraseIdx,if_pos G];omega
theorem MS{k:Nat}(h:ops[k]?=some o):(XZ k ops)[0]?=some { o with after:=#[] }:=by
 have:=wV (l:=ops.toList) (by simpa using h);simpa [XZ] using this
theorem Oi{k:Nat}(h:ops[k]?=some o)(i:Nat)(hi:i≠k):(XZ k ops)[EM k i]?=(ops[i]?).map (reO k):=by
 have:=nS (l:=ops.toList) (by simpa using h) i hi;simpa [XZ] using this
theorem xY{k:Nat}(h:ops[k]?=some o):(XZ k ops).size=ops.size:=by
 have:=xX (l:=ops.toList) (by simpa using h);simpa [XZ] using this
theorem ry{k:Nat}(G:k<n)(hi:i<n):EM k i<n:=by
 unfold EM;split
 ·omega
 ·split<;>omega
theorem rz{k:Nat}(hi:i≠k):EM k i≠0:=by
 unfold EM;rw[if_neg hi];split<;>omega
theorem aO{k:Nat}(hi:i≠k)(G:j≠k)(h:EM k i=EM k j):i=j:=by
 unfold EM at h;rw[if_neg hi,if_neg G] at h;split at h<;>split at h<;>omega
theorem rA{k:Nat}(G:j≠0):∃i,i≠k∧EM k i=j:=by
 unfold EM;by_cases h:j≤k
 ·exact⟨j-1,by omega,by rw[if_neg zo,if_pos zo];omega⟩
 ·exact⟨j,by omega,by rw[if_neg zo,if_neg zo]⟩
section
variable {P:Program}{ops:Array Oper}{Q:Exit→Act→World→Prop}{k:Nat}{ok:Oper}
theorem nT(G:ops[k]?=some ok)(g:Nat):((XZ k ops)[EM k g]?).bind (·.dst)=(ops[g]?).bind (·.dst):=by
 by_cases J:g=k
 ·subst J;rw[show EM g g=0 from by simp[EM],MS G,G];rfl
 ·rw[Oi G g J];cases ops[g]?<;>rfl
theorem nU(G:ops[k]?=some ok)(o:Oper)(tmps:Array Value):Region.wanted (reO k o) (yielded (XZ k ops) tmps)=Region.wanted o (yielded ops tmps):=by
 unfold Region.wanted reO;cases hg:o.guard with
|none=>simp
|some g =>
  obtain⟨g,b⟩:=g;simp only[Option.map_some];unfold yielded;rw[nT G g]
theorem aP(G:ops[k]?=some ok)(hi:i≠k){K K':Act→World→Prop}(J:∀a w,K a w→K' a w)(h:wpOp P (XZ k ops) Q (EM k i) K a w):wpOp P ops Q i K' a w:=by
 refine wpOp_mono J ?_;unfold wpOp at h ⊢;rw[Oi G i hi] at h;cases ho:ops[i]? with
|none=>simpa [ho] using h
|some o =>
  simp only[ho,Option.map_some] at h ⊢;rw[nU G] at h;exact h
theorem CF(hk:ops[k]?=some ok){G:Array Bool}(hs:listed.size=ops.size)(aa:G.size=ops.size)(h0:G.getD 0 false=true)(h1:listed.getD k false=true)(hl:∀i,i≠k→G.getD (EM k i) false=listed.getD i false)(i:Nat)(hi:i≠k) :
  i∈Region.ready .any ops listed↔EM k i∈Region.ready .any (XZ k ops) G:=by
 have ab:k<ops.size:=(RQ.1 hk).1;have Y:∀(l:Array Bool) (i:Nat),i<l.size→l.getD i true=l.getD i false:=fun l i hi=>by simp[hi]
 rw[mem_ready,mem_ready,Oi hk i hi];rcases Nat.lt_or_ge i ops.size with hlt|ad
 rotate_left
 ·have:ops[i]?=none:=by simp[ad]
  simp[this]
 have e1:listed.getD i true=G.getD (EM k i) true:=by
  rw[Y listed i zo,Y G _ (by rw[aa];exact ry ab hlt),hl i hi]
 rw[e1]
 have Z:∀j,listed.getD j false=G.getD (EM k j) false:=by
  intro j;by_cases hj:j=k
  ·subst hj;rw[h1,show EM j j=0 from by simp[EM],h0]
  ·exact(hl j hj).symm
 refine and_congr_right fun _=>?_
 constructor
 ·rintro⟨o,ho,J⟩;refine⟨reO k o,by rw[ho];rfl,fun e O hb=>?_⟩;simp only[reO,List.mem_toArray,List.mem_append,List.mem_map] at O;rcases O with O|⟨e',ac,rfl⟩
  ·split at O
   ·cases O
   ·rw[List.mem_singleton] at O;subst O;exact h0
  ·rw[←Z];exact J e' (by simpa using ac) hb
 ·rintro⟨o',U,J⟩;cases ho:ops[i]? with
 |none=>rw[ho] at U;cases U
 |some o =>
   rw[ho] at U;cases U;refine⟨o,rfl,fun e O hb=>?_⟩;rw[Z];exact J ⟨EM k e.on,e.ground⟩ (by simp only[reO,List.mem_toArray,List.mem_append,List.mem_map];exact .inr ⟨e,by simpa using O,rfl⟩) hb
theorem xZ(hk:ops[k]?=some ok):∀(O:Nat) (listed G:Array Bool) (a:Act) (w:World),listed.size=ops.size→G.size=ops.size→G.getD 0 false=true→listed.getD k false=true →
  (∀i,i≠k→G.getD (EM k i) false=listed.getD i false)→wpAny P .any (XZ k ops) Q O G a w→wpAny P .any ops Q O listed a w:=by
 have ac:k<ops.size:=(RQ.1 hk).1;have ab:∀(l:Array Bool) (i:Nat),i<l.size→l.getD i true=l.getD i false:=fun l i hi=>by simp[hi]
 have aa:∀(listed G:Array Bool),listed.size=ops.size→G.size=ops.size→G.getD 0 false=true→listed.getD k false=true →
   (∀i,i≠k→G.getD (EM k i) false=listed.getD i false)→(Region.ready .any ops listed=[]↔Region.ready .any (XZ k ops) G=[]):=by
  intro listed G hs J h0 Z hl;simp only[List.eq_nil_iff_forall_not_mem];constructor
  ·intro h j hj
   have ad:j≠0:=by
    intro e;subst e;have:=(mem_ready.1 hj).1;rw[ab G 0 zo,h0] at this;cases this
   obtain⟨i,U,rfl⟩:=rA (k:=k) ad;exact h i ((CF hk hs J h0 Z hl i U).2 hj)
  ·intro h i hi
   have U:i≠k:=by
    intro e;subst e;have:=(mem_ready.1 hi).1;rw[ab listed i zo,Z] at this;cases this
   exact h _ ((CF hk hs J h0 Z hl i U).1 hi)
 intro O
 induction O with
|zero =>
  intro listed G a w hs J h0 Z hl h;exact⟨(aa listed G hs J h0 Z hl).2 h.1,h.2⟩
|succ O ih =>
  intro listed G a w hs J h0 Z hl h;refine⟨fun hr=>h.1 ((aa listed G hs J h0 Z hl).1 hr),fun i hi=>?_⟩
  have U:i≠k:=by
   intro e;subst e;have:=(mem_ready.1 hi).1;rw[ab listed i zo,Z] at this;cases this
  have h2:=h.2 _ ((CF hk hs J h0 Z hl i U).1 hi);refine aP hk U (fun a' w' h3=>ih _ _ a' w' (by simpa using hs) (by simpa using J) (getD_set_true h0) (getD_set_true Z) ?_ h3) h2;intro j hj;by_cases e:i=j
  ·subst e
   have Y:i<ops.size:=by
    obtain⟨o,ho,_⟩:=(mem_ready.1 hi).2;exact(RQ.1 ho).1
   have:=ry ac Y;rw[←hs] at Y;rw[←J] at this;simp[Y,this]
  ·rw[getD_set_ne false e,getD_set_ne false (fun e2=>e (aO U hj e2)),hl j hj]
theorem UC{Q':Exit→Act→World→Prop}(hQ:∀e a w,Q e a w→Q' e a w):∀(G:Nat) (listed:Array Bool) (a:Act) (w:World),wpAny P .any ops Q G listed a w→wpAny P .any ops Q' G listed a w
|0,listed,a,w,h=>⟨h.1,hQ _ _ _ h.2⟩
|G+1,listed,a,w,h=>by
  refine⟨fun O=>hQ _ _ _ (h.1 O),fun i hi=>?_⟩;have J:=h.2 i hi;unfold wpOp at J ⊢;cases ho:ops[i]? with
 |none=>simp only[ho] at J ⊢;exact UC hQ G _ a w J
 |some o =>
   simp only[ho] at J ⊢;split
   ·rename_i hw;simp only[hw,if_true] at J;rcases J with J|⟨Y,U⟩
    ·exact .inl (Oper.wp_mono2 J (fun a w h=>UC hQ G _ a w h) hQ)
    ·exact .inr ⟨Y,_,_,hQ _ _ _ U.choose_spec.choose_spec⟩
   ·rename_i hw;simp only[hw] at J;exact UC hQ G _ _ w J
end
def Agree(X:Tmp→Prop)(a b:Act):Prop:=a.defers=b.defers∧a.tmps.size=b.tmps.size∧∀t,¬X t→a.tmps[t]?=b.tmps[t]?
theorem uf(X:Tmp→Prop)(a:Act):Agree X a a:=⟨rfl,rfl,fun _ _=>rfl⟩
theorem FL{X:Tmp→Prop}{b:Act}(h:Agree X a b)(d:Option Tmp)(v:Value):Agree X (a.put d v) (b.put d v):=by
 cases d with
|none=>exact h
|some d =>
  refine⟨h.1,by simpa [Act.put] using h.2.1,fun t G=>?_⟩;simp only[Act.put,Array.getElem?_setIfInBounds];rw[h.2.1,h.2.2 t G]
theorem ug{X:Tmp→Prop}{b:Act}(h:Agree X a b)(G:∀t,x=.tmp t→¬X t):a.eval x=b.eval x:=by
 cases x with
|tmp t =>
  have:=h.2.2 t (G t rfl);simp only[Act.eval];rw[Array.getD_eq_getD_getElem?,Array.getD_eq_getD_getElem?,this]
|_=>rfl
theorem UT{X:Tmp→Prop}{b:Act}(h:Agree X a b)(hs:∀cs b,o.op≠.select cs b)(G:∀t∈o.looksAt ops,¬X t):execOp a.eval o=execOp b.eval o :=
 execOp_congr o hs fun x O=>ug h fun t J=>G t (by
  subst J;exact List.mem_append_left _ (List.mem_filterMap.2 ⟨.tmp t,by simpa using O,rfl⟩))
theorem Oj{X:Tmp→Prop}{b:Act}{K:Act→World→Prop}{Q:Exit→Act→World→Prop}(h:Agree X a b)(hs:∀cs b,o.op≠.select cs b)(Z:∀t∈o.looksAt ops,¬X t)(hd:∀t,o.dst=some t→¬X t)(hp:∀c w,Q (.panic c) b w→Q' (.panic c) a w)(ho:∀a w,¬Q .outgrown a w)(J:o.wp P b w K Q):o.wp P a w (fun a' w'=>∃Y,Agree X a' Y∧(∀t,o.dst≠some t→Y.tmps[t]?=b.tmps[t]?)∧K Y w') Q':=by
 have G:∀(b:Act) (v:Value) (t:Tmp),o.dst≠some t→(b.put o.dst v).tmps[t]?=b.tmps[t]?:=by
  intro b v t U;cases hdst:o.dst with
 |none=>rfl
 |some d =>
   have:d≠t:=fun e=>U (by rw[hdst,e])
   simp[Act.put,Array.getElem?_setIfInBounds_ne this]
 unfold Oper.wp at *;rw[UT (ops:=ops) h hs Z];generalize (execOp b.eval o).run P w=r at *;cases r with
|ok n w' =>
  cases n<;>simp only[Oper.upon] at J ⊢
  case value u=>exact⟨_,FL h _ u,G b u,J⟩
  case skip=>exact⟨_,FL h _ _,G b _,J⟩
  case defer d =>
   refine⟨_,FL (X:=X) (a:={ a with defers:=d::a.defers }) (b:={ b with defers:=d::b.defers }) ⟨by simp[h.1],h.2.1,h.2.2⟩ _ _,fun t U=>?_,J⟩;exact G { b with defers:=d::b.defers } _ t U
  case enter f args =>
   refine Calls.mono J fun e w'' O=>?_
   cases e with
  |returned u=>exact⟨_,FL h _ u,G b u,O⟩
  |panicked c=>exact hp _ _ O
  |outgrown=>obtain⟨a0,w0,O⟩:=O;exact absurd O (ho _ _)
  case row row args=>exact Rows.mono J fun u w'' O=>⟨_,FL h _ u,G b u,O⟩
|halt x w' =>
  cases x<;>simp only[Oper.upon] at J ⊢
  case panic u=>exact hp _ _ J
def Ol(P:Program)(o:Oper)(T:Nat→Option AV)(h:QY):Option AV :=
 match o.op with
|.move x=>Zo T x
|.load ty x=>(Sv P T h ty x).map (·.1)
|.fieldAddr s x f=>(Un P T s x f).map (·.1)
|.nilCheck x=>(Hm T x).map (·.1)
|.extract x i=>(FR T x i).map (·.1)
|.binOp op _ x y _=>match Zo T x,Zo T y with
 |some (.p (.val (.int k a))),some (.p (.val (.int k' b)))=>if Fu op then none else if k=k' then(MJ op k a b).map fun v=>.p (.val v) else none
 |_,_=>none
|_=>none
section
variable {P:Program}{N:Nat}{D:DB}{φ:Nat→Nat}{M0:ZQ}{T:Nat→Option AV}{h:QY}{a:Act}{w:World}
theorem Om(r:ZG φ M0 N D T h a w){x:AV}(J:Ol P o T h=some x):∃v,(execOp a.eval o).run P w=.ok (.value v) w∧Qg φ h w (MM φ h M0) x v:=by
 unfold Ol at J;split at J
 ·rename_i y O;exact⟨a.eval y,by simp[execOp,O],r.ev J⟩
 ·rename_i ty y O;obtain⟨u,hu,rfl⟩:=LC.1 J;obtain⟨_,v,G,Z⟩:=Il (P:=P) r hu;exact⟨v,by simp[execOp,O,G],Z⟩
 ·rename_i s y f O;obtain⟨u,hu,rfl⟩:=LC.1 J;unfold Un at hu;split at hu
  ·rename_i fields hs;split at hu
   ·rename_i fl hf;split at hu
    ·rename_i i hi;split at hu
     ·cases hu
     ·rename_i aa;split at hu
      ·rename_i b off U;simp only[Zf] at hu;subst hu;have G:=r.ev U;simp only[Qg] at G;refine⟨.pointer (some ⟨φ b,off+fl.offset,none⟩),?_,?_⟩
       ·simp[execOp,O,Instr.fieldAt,run_underlying hs,hf,G.1,Instr.sureAddr,fieldPlace,Zi hi,aa,Addr.add_lit]
       ·simp only[Qg];exact⟨trivial,G.2⟩
      ·rename_i cs U;split at hu
       ·rename_i ab;simp only[Zf] at hu;subst hu;have G:=r.ev U;simp only[Qg] at G;obtain⟨rr,oo,Z,h4⟩:=G;refine⟨.pointer (some ⟨rr,oo+fl.offset,none⟩),?_,?_⟩
        ·simp[execOp,O,Instr.fieldAt,run_underlying hs,hf,Z,Instr.sureAddr,fieldPlace,Zi hi,aa,Addr.add_lit]
        ·simp only[Qg];exact⟨rr,oo+fl.offset,rfl,MI _ ab h4⟩
       ·cases hu
      ·cases hu
    ·cases hu
   ·cases hu
  ·cases hu
 ·rename_i y O;obtain⟨u,hu,rfl⟩:=LC.1 J;unfold Hm at hu;split at hu
  ·rename_i b off U;simp only[Zf] at hu;subst hu;have G:=r.ev U;refine⟨a.eval y,?_,G⟩;simp only[Qg] at G;simp[execOp,O,G.1]
  ·rename_i cs U;simp only[Zf] at hu;subst hu;have G:=r.ev U;refine⟨a.eval y,?_,G⟩;simp only[Qg] at G;obtain⟨rr,oo,Z,_⟩:=G;simp[execOp,O,Z]
  ·rename_i f l m U;simp only[Zf] at hu;subst hu;have G:=r.ev U;refine⟨a.eval y,?_,G⟩;simp only[Qg] at G;obtain⟨l',m',Z,_⟩:=G;simp[execOp,O,Z]
  ·cases hu
 ·rename_i y i O;obtain⟨u,hu,rfl⟩:=LC.1 J;unfold FR at hu;split at hu
  ·rename_i vs U;split at hu
   ·rename_i v Y;simp only[Zf] at hu;subst hu;have G:=r.ev U;simp only[Qg] at G;obtain⟨l,Z,h4⟩:=G;obtain⟨z,h5,h6⟩:=Hf h4 Y;exact⟨z,by simp[execOp,O,Instr.extract,Z,h5],h6⟩
   ·cases hu
  ·cases hu
 ·rename_i op tx y z ty O;split at J
  ·rename_i k n k' m U hy;have h1:=r.ev U;have G:=r.ev hy;simp only[Qg,Q6] at h1 G;split at J
   ·cases J
   rename_i hs;split at J
   ·rename_i hk;subst hk;obtain⟨v,Y,rfl⟩:=LC.1 J;refine⟨v,?_,by simp[Qg,Q6]⟩;cases op<;>first|(simp[Fu] at hs;done)|(simp only[MJ] at Y;first|(cases Y;done)|(simp only[Zf] at Y;subst Y;simp[execOp,O,h1,G,eqGuard,binOp,Op.intArith,Op.intBits,Op.intCmp,JY,bOr,lY,kG,QD,leI,Qq,bne];done)|(by_cases hz:m=0<;>simp only[hz,if_true,if_false] at Y<;>first|(cases Y;done)|(simp only[Zf] at Y;subst Y;simp[execOp,O,h1,G,eqGuard,binOp,Op.intDiv,hz])))
   ·cases J
  ·cases J
 ·cases J
end
def ym:AV→Bool|.p (.val _)=>true|.ptr _ _=>true|_=>false
theorem uh{x:AV}{v':Value}(O:ym x=true)(J:Qg φ h w M x v)(G:Qg φ h w M x v'):v=v':=by
 unfold ym at O;split at O
 ·simp only[Qg,Q6] at J G;rw[J,G]
 ·simp only[Qg] at J G;rw[J.1,G.1]
 ·cases O
def rC(h:QY)(x:AV):Prop:=ym x=true∨∃S es t ty,x=.tsl S es t∧h t=some (.arr ty S es.length)∧0<S
theorem zy{x:AV}{v':Value}(Z:rC h x)(O:Qg φ h w M x v)(U:Qg φ h w M x v'):v=v':=by
 rcases Z with Z|⟨S,es,t,ty,rfl,ht,hS⟩
 ·exact uh Z O U
 ·simp only[Qg] at O U;obtain⟨_,EX,n1,a1,a2,a3⟩:=O;obtain⟨_,Wj,n2,b1,b2,b3⟩:=U;rw[ht] at a1 b1;cases a1;cases b1;rcases a3 rfl with⟨_,Y,J⟩|⟨cap,c,Y,J,e3,_⟩<;>rcases b3 rfl with⟨_,f1,f2⟩|⟨G,c',f1,f2,f3,_⟩
  ·exact Y.trans f1.symm
  ·rw[J] at f2;cases f2
  ·rw[J] at f2;cases f2
  rw[J] at f2;cases f2;rw[e3] at f3;have:cap=G:=Nat.eq_of_mul_eq_mul_right hS f3;rw[Y,f1,this]
def TL(P:Program)(N:Nat)(ops:Array Oper):List Nat→St→Option St
|[],s=>some s
|i::l,s=>match ops[i]? with
 |some o=>match Ol P o (look s.T) (look s.H),o.dst with
  |some x,some d=>if d<N then TL P N ops l (s.put (some d) x) else none
  |_,_=>none
 |none=>none
def Tc(ops:Array Oper):List Nat→Bool
|[]=>true
|i::l=>(match ops[i]? with
 |some o=>match o.dst with
  |some d=>!(o.looksAt ops).contains d&&l.all (fun j=>match (ops[j]?).bind (·.dst) with|some e=>!(o.looksAt ops).contains e&&e != d|none=>false)
  |none=>false
 |none=>false)&&Tc ops l
def rD(ops:Array Oper)(H:List Nat)(t:Tmp):Prop:=∃i∈H,(ops[i]?).bind (·.dst)=some t
theorem Ic{P:Program}{N:Nat}{D:DB}{φ:Nat→Nat}{M0:ZQ}{ops:Array Oper}(Z:Region.noSelect ops=true):∀(H:List Nat) (s s1:St) (a:Act) (w:World),Tc ops H=true→TL P N ops H s=some s1→ZG φ M0 N D (look s.T) (look s.H) a w →
  ∃b,ZG φ M0 N D (look s1.T) (look s1.H) b w∧look s1.H=look s.H∧Agree (rD ops H) a b∧∀i∈H,∃o d v,ops[i]?=some o∧o.dst=some d∧b.tmps[d]?=some v∧(execOp b.eval o).run P w=.ok (.value v) w
|[],s,s1,a,w,_,h,r=>by
  simp only[TL,Zf] at h;subst h;exact⟨a,r,rfl,uf _ a,fun i hi=>by cases hi⟩
|i::H,s,s1,a,w,hp,h,r=>by
  simp only[TL] at h;cases ho:ops[i]? with
 |none=>rw[ho] at h;cases h
 |some o =>
   simp only[ho] at h;split at h
   ·rename_i x d hx hd;split at h;rotate_left
    ·cases h
    rename_i ac;simp only[Tc,ho,hd,KL,Bool.not_eq_true'] at hp;obtain⟨⟨aa,G⟩,aj⟩:=hp;obtain⟨v,ab,af⟩:=Om r hx;have r1:=r.put (d:=some d) (fun t J=>by cases J;exact ac) af;obtain⟨b,rb,hH,U,ae⟩:=Ic Z H (s.put (some d) x) s1 (a.put (some d) v) w aj h r1
    have ad:∀t∈o.looksAt ops,t≠d∧¬rD ops H t:=by
     intro t J;refine⟨fun e=>?_,?_⟩
     ·subst e;simp[J] at aa
     ·rintro⟨j,Y,O⟩;have:=Gp.1 G j Y;rw[O] at this;simp[J] at this
    have ai:¬rD ops H d:=by
     rintro⟨j,Y,O⟩;have:=Gp.1 G j Y;rw[O] at this;simp at this
    have ah:d<a.tmps.size:=by rw[r.siz];exact ac
    refine⟨b,rb,by rw[hH];rfl,?_,?_⟩
    ·refine⟨by rw[←U.1];rfl,by rw[←U.2.1];simp[Act.put],fun t J=>?_⟩;rw[←U.2.2 t (fun hc=>J (by obtain⟨j,Y,O⟩:=hc;exact⟨j,List.mem_cons_of_mem _ Y,O⟩))];have:d≠t:=fun e=>J ⟨i,List.mem_cons_self,by rw[ho];exact hd.trans (by rw[e])⟩
     simp[Act.put,Array.getElem?_setIfInBounds_ne this]
    ·intro j Y;rcases List.mem_cons.1 Y with rfl|Y
     ·refine⟨o,d,v,ho,hd,?_,?_⟩
      ·rw[←U.2.2 d ai];simp[Act.put,ah]
      ·rw[←ab];congr 1;have h1:execOp (a.put (some d) v).eval o=execOp a.eval o:=execOp_put o (fun cs b=>Region.noSelect_spec Z j o cs b ho) a (some d) v (fun t J hc=>by cases J;exact(ad d hc).1 rfl);rw[←h1];exact(UT (ops:=ops) U (fun cs b=>Region.noSelect_spec Z j o cs b ho) (fun t J=>(ad t J).2)).symm
     ·exact ae j Y
   ·cases h
def Fh(P:Program)(ops:Array Oper)(i:Nat)(s:St):Prop :=
 match ops[i]? with
|some o=>match o.op,o.dst with
 |.move x,some d=>True
 |_,some d=>∃x,Ol P o (look s.T) (look s.H)=some x∧look s.T d=some x∧rC (look s.H) x
 |_,none=>False
|none=>False
def XK(P:Program)(ops:Array Oper)(L:List Nat)(s:St):Prop:=∀i∈L,Fh P ops i s
def Xk:Nat→Array Oper→Nat→Nat→Bool
|0,_,_,_=>false
|n+1,ops,j,i=>match ops[j]? with
 |some o=>o.after.toList.any fun e=>Region.binds .any e&&(e.on==i||Xk n ops e.on i)
 |none=>false
def Gz(ops:Array Oper)(L:List Nat)(c:Nat):List Nat:=L.filter fun i=>!Xk ops.size ops c i&&!Xk ops.size ops i c
def gI(P:Program)(N:Nat)(ops:Array Oper)(Q:AX→St→Prop)(L:List Nat):List (Nat×List Nat)→St→Prop
|[],s=>Q .normal s
|(c,hs)::rest,s=>match ops[c]? with
 |some o=>U7 P N o s (fun s'=>XK P ops (Gz ops L c) s'∧∃G,TL P N ops hs s'=some G∧gI P N ops Q L rest G) Q
 |none=>False
theorem UD{ops:Array Oper}{listed:Array Bool}(J:∀(j:Nat) o,ops[j]?=some o→listed.getD j false=true→∀e∈o.after,Region.binds .any e=true→listed.getD e.on false=true):∀(n j i:Nat) (o:Oper),ops[j]?=some o→(∀e∈o.after,Region.binds .any e=true→listed.getD e.on false=true)→Xk n ops j i=true→listed.getD i false=true
|0,j,i,o,Z,Y,h=>by cases h
|n+1,j,i,o,Z,Y,h=>by
  simp only[Xk,Z,List.any_eq_true,KL,Bool.or_eq_true,beq_iff_eq] at h;obtain⟨e,he,hb,G⟩:=h;have hl:=Y e (by simpa using he) hb;rcases G with G|G
  ·rw[←G];exact hl
  ·cases ho2:ops[e.on]? with
  |none=>cases n<;>simp[Xk,ho2] at G
  |some o2=>exact UD J n e.on i o2 ho2 (fun e2 O U=>J e.on o2 ho2 hl e2 O U) G
def chainOk(ops:Array Oper):List Nat→Bool|[]=>true|[_]=>true|c::c'::r=>(ops[c']?).any (waits · c)&&chainOk ops (c'::r)
def BD(ops:Array Oper)(L:List Nat):List Nat→List Nat→List (Nat×List Nat)→Bool|_,_,[]=>true|J,G,(c,hs)::r=>G.all (fun i=>L.contains i||Xk ops.size ops c i)&&hs.all (fun i=>Xk ops.size ops i c)&&J.all (fun i=>!Xk ops.size ops i c)&&BD ops L (J++hs) hs r
def Oo(H:List Nat)(Ch:List (Nat×List Nat)):List Nat:=H++(Ch.map (·.2)).flatten
def wW(H L:List Nat)(Ch:List (Nat×List Nat))(ops:Array Oper):Bool :=
 (List.range ops.size).all (fun i=>(Oo H Ch).contains i||(Ch.map (·.1)).contains i)&&Region.noSelect ops&&Tc ops (Oo H Ch)&&chainOk ops (Ch.map (·.1))&&decide (Ch.map (·.1)).Nodup&&(Oo H Ch).all (fun i=>!(Ch.map (·.1)).contains i) &&
 BD ops L H H Ch&&ops.toList.all (fun o=>o.guard.isNone)&&FJ 0 ops.toList &&
 (Oo H Ch).all (fun i=>match (ops[i]?).bind (·.dst) with
 |some d=>(List.range ops.size).all fun j=>i==j||(match ops[j]? with|some G=>G.dst != some d&&(waits G i||!(G.looksAt ops).contains d)|none=>true)
 |none=>false) &&
 L.all (fun i=>match ops[i]? with|some o=>(match o.op with|.move _=>true|_=>false)&&(Ch.map (·.1)).all (fun c=>match (ops[c]?).bind (·.dst) with|some e=>!(o.looksAt ops).contains e|none=>true)||!(match o.op with|.move _=>true|_=>false)|none=>false)
theorem F8(h:waits o i=true):∃e∈o.after,Region.binds .any e=true∧e.on=i:=by
 simp only[waits,List.any_eq_true,KL,beq_iff_eq] at h;obtain⟨e,O,J,G⟩:=h;exact⟨e,by simpa using O,J,G⟩
theorem gJ{b:Act}{X:Tmp→Prop}(h:Agree X a b)(O:∀t,¬X t):a=b:=by
 obtain⟨J,Z,G⟩:=h;cases a with
|mk Y U =>
  cases b with
 |mk tb db =>
   simp only at J G;subst J;congr 1;exact Array.ext_getElem? (fun i=>G i (O i))
def X4(ops:Array Oper)(H:List Nat)(listed:Array Bool)(t:Tmp):Prop:=∃i∈H,listed.getD i false=false∧(ops[i]?).bind (·.dst)=some t
theorem CG{ops:Array Oper}:∀(G:List Nat) (c c':Nat) (l2:List Nat),chainOk ops (G++c::c'::l2)=true→(ops[c']?).any (waits · c)=true
|[],c,c',l2,h=>by
  simp only[List.nil_append,chainOk,KL] at h;exact h.1
|[x],c,c',l2,h=>by
  simp only[List.cons_append,List.nil_append,chainOk,KL] at h;exact h.2.1
|x::y::G,c,c',l2,h=>by
  simp only[List.cons_append,chainOk,KL] at h;exact CG (y::G) c c' l2 h.2
theorem Oq{ops:Array Oper}:∀(J l2:List Nat),Tc ops (J++l2)=true→(∀i∈J,∀j∈l2,∃o d,ops[i]?=some o∧o.dst=some d∧∀e,(ops[j]?).bind (·.dst)=some e→e∉o.looksAt ops∧e≠d)∧Tc ops l2=true
|[],l2,h=>⟨(fun i hi=>by cases hi),h⟩
|x::J,l2,h=>by
  simp only[List.cons_append,Tc,KL] at h;obtain⟨g1,g2⟩:=Oq J l2 h.2;refine⟨fun i hi j U=>?_,g2⟩;rcases List.mem_cons.1 hi with rfl|hi
  ·have G:=h.1;cases ho:ops[i]? with
  |none=>rw[ho] at G;cases G
  |some o =>
    rw[ho] at G;dsimp only at G;cases hd:o.dst with
   |none=>rw[hd] at G;cases G
   |some d =>
     rw[hd] at G;simp only[KL] at G;refine⟨o,d,rfl,hd,fun e Y=>?_⟩;have O:=Gp.1 G.2 j (List.mem_append_right _ U);rw[Y] at O;simp only[KL,Bool.not_eq_true',bne_iff_ne] at O;refine⟨fun hc=>?_,O.2⟩;have:=O.1;simp[hc] at this
  ·exact g1 i hi j U
theorem Ot(U:ops[j]?=some o)(O:o.dst=some d):∀(l:List Nat),Tc ops l=true→j∈l→d∉o.looksAt ops:=by
 intro l
 induction l with
|nil=>intro _ h;cases h
|cons x l G =>
  intro hp J;simp only[Tc,KL] at hp;rcases List.mem_cons.1 J with rfl|J
  ·have:=hp.1;simp only[U,O,KL,Bool.not_eq_true'] at this;intro hc;simp[hc] at this
  ·exact G hp.2 J
theorem MV{ops:Array Oper}:∀(J l2:List Nat),Tc ops (J++l2)=true→Tc ops J=true
|[],_,_=>rfl
|x::J,l2,h=>by
  simp only[List.cons_append,Tc,KL] at h ⊢;refine⟨?_,MV J l2 h.2⟩;have G:=h.1;cases ho:ops[x]? with
 |none=>rw[ho] at G;cases G
 |some o =>
   rw[ho] at G;dsimp only at G ⊢;cases hd:o.dst with
  |none=>rw[hd] at G;cases G
  |some d =>
    rw[hd] at G;simp only[KL,List.all_append] at G ⊢;exact⟨G.1,G.2.1⟩
theorem S9{ops:Array Oper}{L:List Nat}:∀(O J:List Nat) (Y:List (Nat×List Nat)),BD ops L O J Y=true→∀c hs,(c,hs)∈Y→∀i∈hs,Xk ops.size ops i c=true
|_,_,[],_,c,hs,h,_,_=>by cases h
|O,J,(c0,G)::r,h,c,hs,U,i,hi=>by
  simp only[BD,KL] at h;rcases List.mem_cons.1 U with e|U
  ·cases e;exact Gp.1 h.1.1.2 i hi
  ·exact S9 (O++G) G r h.2 c hs U i hi
def MW(ops:Array Oper):List Tmp:=ops.toList.filterMap (·.dst)
def Aa(ops:Array Oper)(s:St):St:=⟨s.T.filter (fun p=>!(MW ops).contains p.1),s.H⟩
theorem CJ(f:Nat→Bool):∀(T:List (Nat×AV)) (t:Nat) (x:AV),look (T.filter (fun p=>f p.1)) t=some x→look T t=some x∧f t=true
|[],t,x,h=>by cases h
|(k,v)::T,t,x,h=>by
  simp only[List.filter_cons] at h;by_cases G:f k=true
  ·simp only[G,if_true,look] at h;simp only[look];by_cases e:k=t
   ·subst e;simp only[if_true] at h ⊢;exact⟨h,G⟩
   ·simp only[e,if_false] at h ⊢;exact CJ f T t x h
  ·simp only[G] at h;obtain⟨O,J⟩:=CJ f T t x (by simpa using h);simp only[look];have:k≠t:=fun e=>G (e▸J)
   simp only[this,if_false];exact⟨O,J⟩
def qh{R:Type}(ops:Array Oper)(Q:R→AX→St→Prop):R→AX→St→Prop:=fun r x s=>match x with|.normal=>Q r .normal s|.panic v=>Q r (.panic v) (Aa ops s)|_=>False
theorem zz{b:Act}{X:Tmp→Prop}(h:Agree X a b)(G:∀t,X t→t∈MW ops)(r:ZG φ M0 N D (look s.T) (look s.H) b w):ZG φ M0 N D (look (Aa ops s).T) (look (Aa ops s).H) a w:=by
 refine⟨?_,by rw[h.2.1];exact r.siz,r.hp,fun t x J=>?_⟩
 ·have:=r.dfs;unfold Marks at this ⊢;rw[h.1];exact this
 ·obtain⟨O,U⟩:=CJ (fun t=>!(MW ops).contains t) s.T t x J;obtain⟨g1,g2⟩:=r.tm t x O;refine⟨g1,?_⟩
  have:a.tmps[t]?=b.tmps[t]?:=h.2.2 t (fun hc=>by
   have:=G t hc;simp[this] at U)
  rw[Array.getD_eq_getD_getElem?,this,←Array.getD_eq_getD_getElem?];exact g2
theorem aQ{Qh:AX→St→Prop}{H L:List Nat}{Ch:List (Nat×List Nat)}(hok:wW H L Ch ops=true)(dm:∀s,Qh .normal s→Q .normal s)(dc:∀v s,Qh (.panic v) s→Q (.panic v) (Aa ops s)) :
  ∀(ac:Nat) (done ch:List (Nat×List Nat)) (aj U:List Nat) (listed:Array Bool) (a b:Act) (w:World) (s:St) (φ:Nat→Nat),Ch=done++ch→U=H++(done.map (·.2)).flatten→(∀i∈U,i∉L→i∉aj→listed.getD i false=true)→(∀i∈aj,i∈U)→BD ops L U aj ch=true→listed.size=ops.size→AZ listed ops.size≤ac →
   (∀(j:Nat) o,ops[j]?=some o→listed.getD j false=true→∀e∈o.after,Region.binds .any e=true→listed.getD e.on false=true) →
   (∀c∈done,listed.getD c.1 false=true)→(∀c∈ch,listed.getD c.1 false=false)→Agree (X4 ops U listed) a b→ZG φ M0 N D (look s.T) (look s.H) b w→Zl φ0 h0 w0 φ (look s.H) w →
   (∀i∈U,listed.getD i false=false→∃o d v,ops[i]?=some o∧o.dst=some d∧b.tmps[d]?=some v∧(execOp b.eval o).run P w=.ok (.value v) w) →
   gI P N ops Qh L ch s→wpAny P .any ops (Post N D Q φ0 M0 h0 w0) ac listed a w:=by
 simp only[wW,KL,Ii] at hok;obtain⟨⟨⟨⟨⟨⟨⟨⟨⟨⟨ce,bz⟩,bd⟩,aq⟩,cc⟩,cn⟩,c6⟩,df⟩,b6⟩,bq⟩,dz⟩:=hok;have bi:∀(listed:Array Bool) (i:Nat),i<listed.size→listed.getD i true=listed.getD i false:=fun listed i hi=>by simp[hi]
 have c5:∀(X:Tmp→Prop) (a b:Act),Agree X a b→(∀t,X t→t∈MW ops)→∀c w,Post N D Qh φ0 M0 h0 w0 (.panic c) b w→Post N D Q φ0 M0 h0 w0 (.panic c) a w:=by
  rintro X a b aa hX c w' ⟨φ',x,s',g1,g2,g3,g4⟩;cases x with
 |normal=>cases g4
 |exit i=>cases g4
 |ret=>cases g4
 |panic v=>exact⟨φ',.panic v,Aa ops s',dc _ _ g1,zz aa hX g2,g3,g4⟩
 have cx:∀a w,¬Post N D Qh φ0 M0 h0 w0 .outgrown a w:=fun a w h=>Ju ⟨a,w,h⟩
 have dy:∀(U:List Nat) (listed:Array Bool) (t:Tmp),X4 ops U listed t→t∈MW ops:=by
  rintro U listed t ⟨i,_,_,hd⟩;cases Y:ops[i]? with
 |none=>rw[Y] at hd;cases hd
 |some o =>
   rw[Y] at hd;exact List.mem_filterMap.2 ⟨o,by have:=Array.mem_of_getElem? Y;simpa using this,hd⟩
 have dx:∀(j:Nat) o,ops[j]?=some o→o.guard=none:=by
  intro j o Y;have:=Gp.1 df o (by have:=Array.mem_of_getElem? Y;simpa using this);simpa using this
 have bj:∀(listed:Array Bool),listed.size=ops.size→Region.ready .any ops listed=[]→∀i,i<ops.size→listed.getD i false=true:=by
  intro listed az hr i
  induction i using Nat.strongRecOn with
 |_ i ih =>
   intro hi;cases hq:listed.getD i false with
  |true=>rfl
  |false =>
    have:i∈Region.ready .any ops listed:=by
     rw[mem_ready];refine⟨by rw[bi listed i zo];exact hq,ops[i],Array.getElem?_eq_getElem hi,fun e he hb=>?_⟩;have G:=W9 b6 i ops[i] (by simp[hi]) e he hb;exact ih e.on zo zo
    rw[hr] at this;cases this
 have bt:∀(listed:Array Bool) (ch:List (Nat×List Nat)) (U:List Nat) (a b:Act) (w:World) (s:St) (φ:Nat→Nat),(∀i,i<ops.size→listed.getD i false=true)→(∀c∈ch,listed.getD c.1 false=false)→Agree (X4 ops U listed) a b →
   ZG φ M0 N D (look s.T) (look s.H) b w→Zl φ0 h0 w0 φ (look s.H) w→gI P N ops Qh L ch s→Post N D Q φ0 M0 h0 w0 .normal a w:=by
  intro listed ch U a b w s φ O ad aa r E hx
  have dw:a=b:=gJ aa (by
   rintro t ⟨i,hi,Z,hd⟩;cases Y:ops[i]? with
  |none=>rw[Y] at hd;cases hd
  |some o=>rw[O i (RQ.1 Y).1] at Z;cases Z)
  subst dw;cases ch with
 |nil=>exact⟨φ,.normal,s,dm _ hx,r,E,rfl⟩
 |cons c ch =>
   exfalso;obtain⟨c,hs⟩:=c;simp only[gI] at hx;cases Y:ops[c]? with
  |none=>rw[Y] at hx;exact hx
  |some o =>
    have:=ad (c,hs) List.mem_cons_self;rw[O c (RQ.1 Y).1] at this;cases this
 intro ac
 induction ac with
|zero =>
  intro done ch aj U listed a b w s φ ab aw bv bk ak az hu an bh ad aa r E J hx;have O:∀i,i<ops.size→listed.getD i false=true:=fun i hi=>by rw[←bi listed i zo];exact Ce (n:=ops.size) zo i hi
  refine⟨List.eq_nil_iff_forall_not_mem.2 fun i hi=>?_,bt listed ch U a b w s φ O ad aa r E hx⟩;obtain⟨G,o,Y,_⟩:=mem_ready.1 hi;have ca:=(RQ.1 Y).1;rw[bi listed i zo,O i ca] at G;cases G
|succ ac ih =>
  intro done ch aj U listed a b w s φ ab aw bv bk ak az hu an bh ad aa r E J hx;refine⟨fun hr=>bt listed ch U a b w s φ (bj listed az hr) ad aa r E hx,fun j hj=>?_⟩;obtain⟨cq,o,Y,O⟩:=mem_ready.1 hj;have ar:j<ops.size:=(RQ.1 Y).1;have av:listed.getD j false=false:=by rw[←bi listed j zo];exact cq
  have bn:∀cs b,o.op≠.select cs b:=fun cs b=>Region.noSelect_spec bz j o cs b Y
  have ay:∀tm,Region.wanted o (yielded ops tm)=true:=fun tm=>by simp[Region.wanted,dx j o Y]
  have al:∀i∈U,i∈Oo H Ch:=by
   intro i hi;rw[aw] at hi;unfold Oo;rw[ab,List.map_append,List.flatten_append,←List.append_assoc];exact List.mem_append_left _ hi
  have eL:∀k,(listed.setIfInBounds j true).getD k false=(listed.getD k false||decide (k=j)):=by
   intro k;by_cases b4:k=j
   ·subst b4;have:k<listed.size:=by omega
    simp[this]
   ·rw[getD_set_ne false (Ne.symm b4)];simp[b4]
  have cl:AZ (listed.setIfInBounds j true) ops.size≤ac:=by
   have:=NT cq ops.size;rw[if_pos ar] at this;omega
  have br:∀(k:Nat) ok,ops[k]?=some ok→(listed.setIfInBounds j true).getD k false=true→∀e∈ok.after,Region.binds .any e=true→(listed.setIfInBounds j true).getD e.on false=true:=by
   intro k ok hk Z e he hb;rw[eL] at Z ⊢;simp only[Bool.or_eq_true,Ii] at Z ⊢;rcases Z with Z|Z
   ·exact .inl (an k ok hk Z e he hb)
   ·subst Z;rw[Y] at hk;cases hk;exact .inl (O e he hb)
  have bp:∀t∈o.looksAt ops,¬X4 ops U listed t∨∃d,o.dst=some d∧t=d∧j∈U:=by
   intro t ht;by_cases hc:X4 ops U listed t;rotate_left
   ·exact .inl hc
   obtain⟨i,hi,Z,hd⟩:=hc;have G:=Gp.1 bq i (al i hi);rw[hd] at G;have h2:=Gp.1 G j (by simp[ar]);simp only[Y,Bool.or_eq_true,beq_iff_eq,KL,Bool.not_eq_true',bne_iff_ne] at h2;rcases h2 with rfl|⟨_,h2|h2⟩
   ·rw[Y] at hd;exact .inr ⟨t,hd,rfl,hi⟩
   ·obtain⟨e,he,hb,bw⟩:=F8 h2;have:=O e he hb;rw[bw,Z] at this;cases this
   ·simp[ht] at h2
  have bc:=Gp.1 ce j (by simp[ar]);simp only[Bool.or_eq_true,List.contains_iff_mem] at bc;by_cases ai:j∈Oo H Ch
  ·
   have bf:j∉Ch.map (·.1):=by
    have:=Gp.1 cn j ai;simpa using this
   have be:j∈U:=by
    unfold Oo at ai;rw[ab,List.map_append,List.flatten_append,←List.append_assoc] at ai;rcases List.mem_append.1 ai with G|G
    ·rw[aw];exact G
    ·exfalso;obtain⟨hs,h2,h3⟩:=List.mem_flatten.1 G;obtain⟨⟨c,cg⟩,h4,h5⟩:=List.mem_map.1 h2;simp only at h5;subst h5;have hw:=S9 U aj ch ak c cg h4 j h3;have:=UD an _ j c o Y O hw;rw[ad (c,cg) h4] at this;cases this
   obtain⟨o',d,v,cw,hd,hv,cd⟩:=J j be av;rw[Y] at cw;cases cw;have b3:d∉o.looksAt ops:=Ot Y hd (Oo H Ch) bd ai
   have bu:∀t∈o.looksAt ops,¬X4 ops U listed t:=by
    intro t ht;rcases bp t ht with G|⟨d',G,rfl,_⟩
    ·exact G
    ·rw[hd] at G;cases G;exact absurd ht b3
   unfold wpOp;simp only[Y,ay,if_true];refine .inl ?_;unfold Oper.wp;rw[UT (ops:=ops) aa bn bu,cd];simp only[Oper.upon];refine ih done ch aj U (listed.setIfInBounds j true) (a.put o.dst v) b w s φ ab aw (fun i hi G h2=>by rw[eL,bv i hi G h2];rfl) bk ak (by simpa using az) cl br (fun c hc=>by rw[eL,bh c hc];rfl) ?_ ?_ r E ?_ hx
   ·intro c hc;rw[eL,ad c hc];have:c.1≠j:=fun e=>bf (by rw[ab,←e];exact List.mem_map.2 ⟨c,List.mem_append_right _ hc,rfl⟩)
    simp[this]
   ·refine⟨by rw[←aa.1,hd];rfl,by rw[←aa.2.1,hd];simp[Act.put],fun t ht=>?_⟩;rw[hd];by_cases b9:d=t
    ·subst b9
     have dp:d<a.tmps.size:=by
      rw[aa.2.1];exact(RQ.1 hv).1
     rw[hv];simp[Act.put,dp]
    ·rw[←aa.2.2 t (fun hc=>ht (by
      obtain⟨i,hi,Z,af⟩:=hc;refine⟨i,hi,?_,af⟩;rw[eL,Z];have:i≠j:=fun e=>b9 (by rw[e,Y] at af;exact Option.some.inj (hd.symm.trans af))
      simp[this]))]
     simp[Act.put,Array.getElem?_setIfInBounds_ne b9]
   ·intro i hi Z;refine J i hi ?_;rw[eL] at Z;simp only[Bool.or_eq_false_iff] at Z;exact Z.1
  ·
   have bf:j∈Ch.map (·.1):=bc.resolve_left ai;have be:j∉U:=fun h=>ai (al j h)
   have c4:∃hs r,ch=(j,hs)::r:=by
    have bm:=bf;rw[ab,List.map_append] at bm
    have co:j∈ch.map (·.1):=by
     rcases List.mem_append.1 bm with G|G
     ·obtain⟨c,hc,rfl⟩:=List.mem_map.1 G;rw[bh c hc] at av;cases av
     ·exact G
    cases ch with
   |nil=>cases co
   |cons c r =>
     obtain⟨c,hs⟩:=c;by_cases c2:j=c
     ·exact⟨hs,r,by rw[c2]⟩
     ·exfalso;have c9:j∈r.map (·.1):=(List.mem_cons.1 co).resolve_left c2;obtain⟨r1,r2,bo⟩:=List.append_of_mem c9;obtain⟨q,x,cm⟩:∃q x,c::r1=q++[x]:=⟨(c::r1).dropLast,(c::r1).getLast zq,(List.dropLast_concat_getLast zq).symm⟩
      have ds:Ch.map (·.1)=(done.map (·.1)++q)++x::j::r2:=by
       rw[ab,List.map_append,U8,bo,show c::(r1++j::r2)=(c::r1)++j::r2 from rfl,cm];simp
      rw[ds] at aq;have G:=CG _ _ _ _ aq;rw[Y] at G;obtain⟨e,he,hb,bw⟩:=F8 (o:=o) (i:=x) G;have h2:=O e he hb
      have dd:x∈((c,hs)::r).map (·.1):=by
       rw[U8,bo,show c::(r1++j::r2)=(c::r1)++j::r2 from rfl,cm];simp
      obtain⟨y,hy,rfl⟩:=List.mem_map.1 dd;have h3:=ad y hy;rw[bw,h3] at h2;cases h2
   obtain⟨hs,rest,rfl⟩:=c4
   have bx:∀t∈o.looksAt ops,¬X4 ops U listed t:=by
    intro t ht;rcases bp t ht with G|⟨d',_,_,G⟩
    ·exact G
    ·exact absurd G be
   have bl:∀t,o.dst=some t→¬X4 ops U listed t:=by
    rintro t ht ⟨i,hi,Z,hd⟩;have G:=Gp.1 bq i (al i hi);rw[hd] at G;have h2:=Gp.1 G j (by simp[ar]);simp only[Y,Bool.or_eq_true,beq_iff_eq,KL,Bool.not_eq_true',bne_iff_ne] at h2;rcases h2 with rfl|⟨h2,_⟩
    ·exact be hi
    ·exact h2 ht
   simp only[gI,Y] at hx;simp only[BD,KL] at ak;unfold wpOp;simp only[Y,ay,if_true];refine .inl ?_;have hw:=Br hx r;have db:=Go.Abs.Oper.wp_mono2 (K':=fun a' w'=>∃φ' s',(XK P ops (Gz ops L j) s'∧∃bb,TL P N ops hs s'=some bb∧gI P N ops Qh L rest bb)∧ZG φ' M0 N D (look s'.T) (look s'.H) a' w'∧Zl φ (look s.H) w φ' (look s'.H) w') (Q':=Post N D Qh φ0 M0 h0 w0) hw (fun _ _ h=>h) (fun e a' w' p=>p.trans E);refine Oper.wp_mono ?_ (Oj (ops:=ops) aa bn bx bl (c5 _ _ _ aa (dy _ _)) cx db);rintro a' w' ⟨b',a6,cr,φ',s',⟨dk,bb,b5,de⟩,r',E'⟩
   have a7:∀i∈U,i∉L→listed.getD i false=true:=by
    intro i hi ao;by_cases bg:i∈aj
    ·have G:=Gp.1 ak.1.1.1 i bg;simp only[Bool.or_eq_true,List.contains_iff_mem] at G;rcases G with G|G
     ·exact absurd G ao
     ·exact UD an _ j i o Y O G
    ·exact bv i hi ao bg
   have ax:Oo H Ch=U++(hs++(rest.map (·.2)).flatten):=by
    unfold Oo;rw[ab,aw,List.map_append,List.flatten_append,U8,List.flatten_cons,List.append_assoc]
   have au:=bd;rw[ax] at au;obtain⟨da,dt⟩:=Oq U _ au;have c7:=MV _ _ dt;obtain⟨b2,rb,dq,ah,c3⟩:=Ic bz hs s' bb b' w' c7 b5 r'
   have cp:∀i∈hs,listed.getD i false=false∧i≠j:=by
    intro i hi;have hw:=Gp.1 ak.1.1.2 i hi;refine⟨?_,fun e=>ai (by rw[ax,←e];exact List.mem_append_right _ (List.mem_append_left _ hi))⟩;cases hq:listed.getD i false with
   |false=>rfl
   |true =>
     exfalso;obtain⟨oi,_,_,ae,_⟩:=c3 i hi;have:=UD an _ i j oi ae (fun e he hb=>an i oi ae hq e he hb) hw;rw[av] at this;cases this
   have dv:∀t,rD ops hs t→X4 ops (U++hs) (listed.setIfInBounds j true) t:=by
    rintro t ⟨i,hi,hd⟩;refine⟨i,List.mem_append_right _ hi,?_,hd⟩;rw[eL,(cp i hi).1];simp[(cp i hi).2]
   have dj:∀t,X4 ops U listed t→X4 ops (U++hs) (listed.setIfInBounds j true) t:=by
    rintro t ⟨i,hi,Z,hd⟩;refine⟨i,List.mem_append_left _ hi,?_,hd⟩;rw[eL,Z];have:i≠j:=fun e=>be (e▸hi)
    simp[this]
   refine ih (done++[(j,hs)]) rest hs (U++hs) (listed.setIfInBounds j true) a' b2 w' bb φ' (by rw[ab];simp) (by rw[aw,List.map_append,List.flatten_append];simp) ?_ (fun i hi=>List.mem_append_right _ hi) ak.2 (by simpa using az) cl br (fun c hc=>by
    rw[eL];rcases List.mem_append.1 hc with G|G
    ·rw[bh c G];rfl
    ·rw[List.mem_singleton] at G;simp[G]) ?_ ⟨a6.1.trans ah.1,a6.2.1.trans ah.2.1,fun t ht=>(a6.2.2 t (fun hc=>ht (dj t hc))).trans (ah.2.2 t (fun hc=>ht (dv t hc)))⟩ rb (by rw[dq];exact E.trans E') ?_ de
   ·intro i hi ao bg;rcases List.mem_append.1 hi with hi|hi
    ·rw[eL,a7 i hi ao];rfl
    ·exact absurd hi bg
   ·intro c hc;rw[eL,ad c (List.mem_cons_of_mem _ hc)]
    have:c.1≠j:=by
     intro e;rw[ab,List.map_append,U8] at cc;have h2:=(List.nodup_append.1 cc).2.1;exact(List.nodup_cons.1 h2).1 (List.mem_map.2 ⟨c,hc,e⟩)
    simp[this]
   ·intro i hi Z;rcases List.mem_append.1 hi with ba|di
    rotate_left
    ·exact c3 i di
    rw[eL] at Z;simp only[Bool.or_eq_false_iff] at Z
    have ao:i∈L:=by
     apply Classical.byContradiction;intro hc;rw[a7 i ba hc] at Z;cases Z.1
    obtain⟨oi,d,v,ae,af,dn,cy⟩:=J i ba Z.1;have cz:b'.tmps[d]?=some v:=by rw[cr d (fun e=>bl d e ⟨i,ba,Z.1,by rw[ae];exact af⟩)];exact dn
    have c1:∀t,t∈oi.looksAt ops∨t=d→¬rD ops hs t:=by
     rintro t ht ⟨k,hk,du⟩;obtain⟨o2,d2,G,h2,h3⟩:=da i ba k (List.mem_append_left _ hk);rw[ae] at G;cases G;rw[af] at h2;cases h2;obtain⟨h4,h5⟩:=h3 t du;rcases ht with ht|ht
     ·exact h4 ht
     ·exact h5 ht
    have b7:∀cs b,oi.op≠.select cs b:=fun cs b=>Region.noSelect_spec bz i oi cs b ae
    refine⟨oi,d,v,ae,af,by rw[←ah.2.2 d (c1 d (.inr rfl))];exact cz,?_⟩;rw[←UT (ops:=ops) ah b7 (fun t ht=>c1 t (.inl ht))]
    have dl:Xk ops.size ops j i=false:=by
     cases hq:Xk ops.size ops j i with
    |false=>rfl
    |true =>
      have:=UD an _ j i o Y O hq;rw[Z.1] at this;cases this
    have cf:Xk ops.size ops i j=false:=by
     have:=Gp.1 ak.1.2 i ba;simpa using this
    have G:=dk i (List.mem_filter.2 ⟨ao,by rw[dl,cf];rfl⟩);unfold Fh at G;simp only[ae] at G;split at G
    ·rename_i x d' a8 b8
     have cj:b.eval x=v:=by
      simp[execOp,a8] at cy;exact cy
     have dh:b'.eval x=b.eval x:=by
      cases x with
     |tmp t =>
       have hne:o.dst≠some t:=by
        intro e;have h2:=Gp.1 dz i ao;simp only[ae,a8,Bool.true_and,Bool.not_true,Bool.or_false] at h2;have h3:=Gp.1 h2 j bf;simp only[Y,Zy,e,Bool.not_eq_true'] at h3;have:t∈oi.looksAt ops:=List.mem_append_left _ (List.mem_filterMap.2 ⟨.tmp t,by simp[a8,Op.operands],rfl⟩);simp[this] at h3
       simp only[Act.eval];rw[Array.getD_eq_getD_getElem?,Array.getD_eq_getD_getElem?,cr t hne]
     |_=>rfl
     simp[execOp,a8,dh,cj]
    ·rename_i d' b8 a8;obtain⟨x,h2,h3,h4⟩:=G;obtain⟨v',h5,h6⟩:=Om r' h2;rw[af] at b8;cases b8;have h7:=(r'.tm d x h3).2;rw[Array.getD_eq_getD_getElem?,cz] at h7;have:=zy h4 h6 h7;rw[h5,this];rfl
    ·cases G
theorem QbO{R:Type}{r0:R}{Q:R→AX→St→Prop}(H L:List Nat)(Ch:List (Nat×List Nat))(hm:P.follows .mixedOrders=true)(ac:Gj ops=true)(hok:wW H L Ch ops=true)(h1:TL P N ops H s=some s1)(h:gI P N ops (qh ops Q r0) L Ch s1):Ex P N ro (.region id ops true) s (Q r0):=by
 intro φ M0 D a w r;refine wpIn_region_any hm (MO ac Ju _ _ _ _ ?_);have hd:Zl φ (look s.H) w φ (look s.H) { w with drawn:=w.drawn+1 }:=RV rfl rfl rfl rfl;have r1:ZG φ M0 N D (look s.T) (look s.H) a { w with drawn:=w.drawn+1 }:=r.keep hd (FE rfl) (Be (w:=w) rfl hd r.hp);have J:=hok;simp only[wW,KL,Ii] at J;obtain⟨⟨⟨⟨⟨⟨⟨⟨⟨⟨ah,ad⟩,U⟩,aa⟩,aj⟩,ai⟩,G⟩,ak⟩,ab⟩,af⟩,al⟩:=J;obtain⟨b,rb,hH,O,hJ⟩:=Ic ad H s s1 a _ (MV H _ U) h1 r1
 have Y:∀(j:Nat),(Array.replicate ops.size false).getD j false=false:=by
  intro j;rcases Nat.lt_or_ge j ops.size with h|h
  ·simp[h]
  ·simp[h]
 have Z:∀n,AZ (Array.replicate ops.size false) n≤n:=by
  intro n
  induction n with
 |zero=>simp[AZ]
 |succ n ih=>simp only[AZ];split<;>omega
 have h2:=aQ (D:=D) (φ0:=φ) (h0:=look s.H) (w0:=w) (M0:=M0) hok (Q:=Q r0) (Qh:=qh ops Q r0) (fun _ h=>h) (fun _ _ h=>h) ops.size [] Ch H H (Array.replicate ops.size false) a b { w with drawn:=w.drawn+1 } s1 φ rfl zq (fun i hi _ hc=>absurd hi hc) (fun i hi=>hi) G zq (Z _) (fun j o _ hj=>by rw[Y] at hj;cases hj) (fun c hc=>by cases hc) (fun c _=>Y c.1)
  ⟨O.1,O.2.1,fun t ht=>O.2.2 t (fun hc=>ht (by obtain⟨i,hi,ae⟩:=hc;exact⟨i,hi,Y i,ae⟩))⟩ rb (by rw[hH];exact hd) (fun i hi _=>hJ i hi) h
 refine UC ?_ _ _ _ _ h2;exact fun e a' w' h=>h
structure wX{R:Type}(a:Option R)(P:Program)(N:Nat)(ops:Array Oper)(Q:R→AX→St→Prop)(L:List Nat)(Ch:List (Nat×List Nat))(s:St):Prop where
 intro ::
 h:∀r,a=some r→gI P N ops (qh ops Q r) L Ch s
def fKh{R:Type}(P:Program)(N:Nat)(ops:Array Oper)(Q:R→AX→St→Prop)(L:List Nat)(Ch:List (Nat×List Nat))(c:Nat)(hs:List Nat):R→St→Prop:=fun r s=>XK P ops (Gz ops L c) s∧∃G,TL P N ops hs s=some G∧gI P N ops (qh ops Q r) L Ch G
section
variable {R V E:Type}{a a1 a2:Option R}{P:Program}{N:Nat}{ro:Option Nat}{id:Nat}{ops:Array Oper}{o:Oper}{s s1 s':St}{Q:R→AX→St→Prop}{f:FuncId}{args args':List AV}{dst:Option Tmp}{L hs:List Nat}{Ch:List (Nat×List Nat)}{c i:Nat}
theorem VH(H L:List Nat)(Ch:List (Nat×List Nat))(O:P.follows .mixedOrders=true)(J:Gj ops=true)(h:wX a P N ops Q L Ch ((TL P N ops H s).getD s))(hok:wW H L Ch ops=true:=by kernel_rfl)(U:(TL P N ops H s).isSome=true:=by kernel_rfl):QU a P N ro (.region id ops true) s Q:=by
 obtain⟨s1,e⟩:=RU.1 U;rw[e] at h;exact⟨fun r G=>QbO H L Ch O J hok e (h.h r G)⟩
theorem Qk:XK P ops [] s:=fun i hi=>by cases hi
theorem Qe(O:Fh P ops i s)(J:XK P ops L s):XK P ops (i::L) s:=fun j G=>by
 rcases List.mem_cons.1 G with rfl|G
 ·exact O
 ·exact J j G
def rE(ops:Array Oper)(i:Nat):Bool:=match ops[i]? with|some o=>(match o.op,o.dst with|.move _,some _=>true|_,_=>false)|none=>false
theorem Kk(h:rE ops i=true:=by kernel_rfl):Fh P ops i s:=by
 unfold rE at h;unfold Fh;cases ho:ops[i]? with
|none=>rw[ho] at h;cases h
|some o =>
  rw[ho] at h;dsimp only at h ⊢;cases h1:o.op<;>rw[h1] at h<;>cases h2:o.dst<;>rw[h2] at h<;>first|(cases h;done)|trivial
theorem Ou(x:AV)(h:(ops[i]?).bind (fun o=>o.dst.bind fun d=>(Ol P o (look s.T) (look s.H)).bind fun y=>(look s.T d).map fun z=>(y,z))=some (x,x))(O:rC (look s.H) x):Fh P ops i s:=by
 unfold Fh;cases ho:ops[i]? with
|none=>rw[ho] at h;cases h
|some o =>
  rw[ho,Zy] at h;cases hd:o.dst with
 |none=>rw[hd] at h;cases h
 |some d =>
   rw[hd,Zy] at h;obtain⟨y,U,Y⟩:=Nw.1 h;obtain⟨z,Z,J⟩:=LC.1 Y;simp only[DC] at J;obtain⟨rfl,rfl⟩:=J;dsimp only;rw[hd];split
   ·trivial
   ·rename_i G aa;cases G;exact⟨_,U,Z,O⟩
   ·rename_i G;cases G
theorem Qj(x:AV)(G:ym x=true)(h:(ops[i]?).bind (fun o=>o.dst.bind fun d=>(Ol P o (look s.T) (look s.H)).bind fun y=>(look s.T d).map fun z=>(y,z))=some (x,x):=by kernel_rfl):Fh P ops i s:=Ou x h (.inl G)
theorem Xl{S t ty:Nat}{es:List (List PV)}(hS:Nat.ble 1 S=true)(h:(ops[i]?).bind (fun o=>o.dst.bind fun d=>(Ol P o (look s.T) (look s.H)).bind fun y=>(look s.T d).map fun z=>(y,z))=some (.tsl S es t,.tsl S es t):=by kernel_rfl)(G:look s.H t=some (.arr ty S es.length):=by kernel_rfl):Fh P ops i s:=Ou _ h (.inr ⟨S,es,t,ty,rfl,G,Nat.le_of_ble_eq_true hS⟩)
theorem Jq(h:ZL a Q .normal s):wX a P N ops Q L [] s:=⟨fun r G=>h.h r G⟩
theorem kh(G:List Nat)(O:XK P ops G s)(h:wX a P N ops Q L Ch ((TL P N ops hs s).getD s))(U:Gz ops L c=G:=by kernel_rfl)(Y:(TL P N ops hs s).isSome=true:=by kernel_rfl):R8 a (fKh P N ops Q L Ch c hs) s:=by
 obtain⟨s1,e⟩:=RU.1 Y;rw[e] at h;exact⟨fun r J=>⟨U▸O,s1,e,h.h r J⟩⟩
def Td(P:Program)(N:Nat)(ops:Array Oper)(c:Nat)(s:St):Option St:=(ops[c]?).bind (fun o=>match o.op with|.pick ..=>none|.panic _=>none|.call ⟨.value _,_,_⟩=>none|_=>if K5 N o.dst then(V6 P o (look s.T) (look s.H)).map (fun u=>XN s o.dst u) else none)
theorem VJ(Z:List Nat)(U:XK P ops Z ((Td P N ops c s).getD s))(h:wX a P N ops Q L Ch ((Td P N ops c s).getD s))(hL:Gz ops L c=Z:=by kernel_rfl)(h0:(Td P N ops c s).isSome=true:=by kernel_rfl):wX a P N ops Q L ((c,[])::Ch) s:=by
 obtain⟨s',G⟩:=RU.1 h0;rw[G] at U h;simp only[Option.getD_some] at U h;unfold Td at G;refine⟨fun r hr=>?_⟩;simp only[gI];cases ho:ops[c]? with
|none=>rw[ho] at G;cases G
|some o =>
  simp only[ho,Zy] at G ⊢;unfold U7;split at G
  ·cases G
  ·cases G
  ·cases G
  ·rename_i n1 n2 n3;split at G;rotate_left
   ·cases G
   rename_i Y;obtain⟨u,hu,rfl⟩:=LC.1 G
   have key:IR N o s (fun s'=>XK P ops (Gz ops L c) s'∧∃O,TL P N ops [] s'=some O∧gI P N ops (qh ops Q r) L Ch O) (V6 P o (look s.T) (look s.H)):=by
    rw[hu];exact⟨Y,hL▸U,_,rfl,h.h r hr⟩
   split
   ·rename_i J;exact absurd J (n1 _ _ _)
   ·rename_i J;exact absurd J (n2 _)
   ·rename_i J;exact absurd J (n3 _ _ _)
   ·exact .inl key
theorem KI(h:BM a P N f args dst s (fKh P N ops Q L Ch c hs) (qh ops Q))(hf:(ops[c]?).bind (fun o=>(KC (look s.T) o.op).map fun p=>(p.1,p.2,o.dst))=some (f,args,dst):=by kernel_rfl)(hb:We P f=true:=by kernel_rfl):wX a P N ops Q L ((c,hs)::Ch) s:=by
 refine⟨fun r O=>?_⟩;simp only[gI];cases ho:ops[c]? with
|none=>rw[ho] at hf;cases hf
|some o =>
  simp only[ho,Zy] at hf ⊢;obtain⟨⟨f0,G⟩,U,J⟩:=LC.1 hf;simp only[DC] at J;obtain⟨rfl,rfl,rfl⟩:=J;exact Hw U hb (h.h r O)
theorem wY{v:AV}(s':St)(e:Aa ops s=s')(h:ZL a Q (.panic v) s'):ZL a (qh ops Q) (.panic v) s:=by
 subst e;exact⟨fun r G=>h.h r G⟩
theorem Ap{b:Bool}{u:Kt}(U:List Nat)(Y:ops[c]?=some o)(hu:b=true→V6 P o (look s.T) (look s.H)=some u)(Z:b=true→XK P ops U (XN s o.dst u))(h:wX a P N ops Q L Ch (XN s o.dst u))(hL:Gz ops L c=U:=by kernel_rfl)(hp:(plain o.op&&K5 N o.dst)=true:=by kernel_rfl):wX (cond b a none) P N ops Q L ((c,[])::Ch) s:=by
 cases b with
|false=>exact⟨fun r O=>by cases O⟩
|true =>
  refine⟨fun r O=>?_⟩;simp only[KL] at hp;simp only[gI,Y];unfold U7
  have key:IR N o s (fun s'=>XK P ops (Gz ops L c) s'∧∃J,TL P N ops [] s'=some J∧gI P N ops (qh ops Q r) L Ch J) (V6 P o (look s.T) (look s.H)):=by
   rw[hu rfl];exact⟨hp.2,hL▸Z rfl,_,rfl,h.h r O⟩
  split
  ·rename_i G;rw[G] at hp;cases hp.1
  ·rename_i G;rw[G] at hp;cases hp.1
  ·rename_i G;rw[G] at hp;cases hp.1
  ·exact .inl key
theorem wZ{m:Option V}{k:V→Option R}{X:V→AV}{K:R→St→Prop}(C:List RoC)(hc:∀v,m=some v→QV P f args' (.ret (X v)))(O:yl (look s.H) C args=some args')(hb:(K5 N dst&&VG args')=true)(Y:∀v,flat (X v)=true)(h:∀v,R8 (k v) K (St.put s dst (X v))):BM (m.bind k) P N f args dst s K Q:=by
 refine⟨fun r G=>?_⟩;obtain⟨v,U,J⟩:=Nw.1 G;simp only[KL] at hb;exact kY (hc v U) (BC O) hb.2 (Kn hb.1) ⟨Y v,(h v).h r J⟩
end
def Ru{K V:Type}(eq:K→K→Bool)(k:K):List (K×V)→Option V|[]=>none|(k',v)::r=>bif eq k k' then some v else Ru eq k r
def Qw{K V:Type}(eq:K→K→Bool)(k:K)(v:V):List (K×V)→List (K×V)|[]=>[(k,v)]|(k',v')::r=>bif eq k k' then(k,v)::r else(k',v')::Qw eq k v r
def QK{K V:Type}(eq:K→K→Bool)(k:K)(z:V)(m:List (K×V)):V:=(Ru eq k m).getD z
def Pj{K V:Type}(eq:K→K→Bool)(k:K)(m:List (K×V)):Bool:=(Ru eq k m).isSome
def XW{K V:Type}(ke:K→Value)(ve:V→PV)(m:List (K×V)):List (Value×PV):=m.map fun p=>(ke p.1,ve p.2)
section
variable {P:Program}{o:Oper}{T:Nat→Option AV}{h:QY}{K V:Type}{kt e t:TypeId}{ke:K→Value}{ve:V→PV}{eq:K→K→Bool}
theorem yn(Z:∀k,DZ P kt (ke k)=true)(Y:∀a b,eqV P 4 kt (ke a) (ke b)=some (eq a b))(k:K):∀(m:List (K×V)) (i:Nat),
  (∃j,He P kt (ke k) i (XW ke ve m)=some ((Ru eq k m).map fun v=>(j,ve v))∧(Ru eq k m≠none→∀v,XW ke ve (Qw eq k v m)=(XW ke ve m).set (j-i) (ke k,ve v)∧i≤j))∧(Ru eq k m=none→∀v,XW ke ve (Qw eq k v m)=XW ke ve m++[(ke k,ve v)])
|[],i=>⟨⟨0,rfl,fun h=>absurd rfl h⟩,fun _ v=>rfl⟩
|(k',v')::m,i=>by
  obtain⟨⟨j,h1,h2⟩,h3⟩:=yn Z Y k m (i+1);have G:He P kt (ke k) i (XW ke ve ((k',v')::m))=match (if DZ P kt (ke k') then eqV P 4 kt (ke k) (ke k') else none) with|some true=>some (some (i,ve v'))|some false=>He P kt (ke k) (i+1) (XW ke ve m)|none=>none:=rfl
  have J:Ru eq k ((k',v')::m)=bif eq k k' then some v' else Ru eq k m:=rfl
  have U:∀v,Qw eq k v ((k',v')::m)=bif eq k k' then(k,v)::m else(k',v')::Qw eq k v m:=fun _=>rfl
  rw[Z k',if_pos rfl,Y] at G;cases hq:eq k k'
  ·rw[hq] at G J;simp only[hq,Ye] at G J U;rw[J];refine⟨⟨j,by rw[G,h1],fun O v=>?_⟩,fun O v=>?_⟩
   ·obtain⟨g1,g2⟩:=h2 O v;refine⟨?_,by omega⟩;rw[U,show XW ke ve ((k',v')::Qw eq k v m)=(ke k',ve v')::XW ke ve (Qw eq k v m) from rfl,g1,show XW ke ve ((k',v')::m)=(ke k',ve v')::XW ke ve m from rfl,show j-i=(j-(i+1))+1 from by omega];rfl
   ·rw[U,show XW ke ve ((k',v')::Qw eq k v m)=(ke k',ve v')::XW ke ve (Qw eq k v m) from rfl,h3 O v];rfl
  ·rw[hq] at G J;simp only[hq,V5] at G J U;rw[J];refine⟨⟨i,G,fun _ v=>⟨?_,Yf _⟩⟩,fun O=>by cases O⟩;rw[U,Nat.sub_self];rfl
theorem Ov{rsv:Option Operand}(G:o.op=.makeMap t none)(J:o.dst=some d)(hb:h d=none):V6 P o T h=some (.mv d,some (d,.mp []),[d]):=by
 simp[V6,G,D6,J,hb]
theorem ZK{m:List (K×V)}{k:K}{z0:V}(ho:o.op=.lookup t x ix ok)(Y:∀k,DZ P kt (ke k)=true)(he:∀a b,eqV P 4 kt (ke a) (ke b)=some (eq a b))(ht:P.underlying t=some (.map kt e):=by kernel_rfl)(hx:Zo T x=some (.mv b):=by kernel_rfl)(hi:(Zo T ix).bind Ej=some (ke k):=by kernel_rfl)(hb:h b=some (.mp (XW ke ve m)):=by kernel_rfl)(ab:(P.underlying kt).isSome=true:=by kernel_rfl)(hz:((P.info? e).bind (·.zero)).map Ik=some (avP (ve z0)):=by kernel_rfl):V6 P o T h=some (D7 ok (avP (ve (QK eq k z0 m))) (Pj eq k m),none,[b]):=by
 obtain⟨kv,O,U⟩:=Nw.1 hi;obtain⟨kd,J⟩:=RU.1 ab;obtain⟨z,aa,Z⟩:=LC.1 hz;obtain⟨⟨j,G,h2⟩,h3⟩:=yn (P:=P) (kt:=kt) (ke:=ke) (ve:=ve) (eq:=eq) Y he k m 0;unfold QK Pj;cases hg:Ru eq k m with
|none =>
  rw[hg] at G;simp only[Option.map_none] at G;simp[V6,FX,ho,Ud,ht,hx,O,hb,U,J,Y,G,aa,Z]
|some v =>
  rw[hg] at G;simp only[Option.map_some] at G;simp[V6,FX,ho,Ud,ht,hx,O,hb,U,J,Y,G]
theorem Y6{m:List (K×V)}{k:K}{v:V}(ho:o.op=.mapUpdate t x ix y)(hk:∀k,DZ P kt (ke k)=true)(he:∀a b,eqV P 4 kt (ke a) (ke b)=some (eq a b))(ht:P.underlying t=some (.map kt e):=by kernel_rfl)(hx:Zo T x=some (.mv b):=by kernel_rfl)(hi:(Zo T ix).bind Ej=some (ke k):=by kernel_rfl)(hy:(Zo T y).bind pvO=some (ve v):=by kernel_rfl)(hb:h b=some (.mp (XW ke ve m)):=by kernel_rfl)(aa:(P.underlying kt).isSome=true:=by kernel_rfl):V6 P o T h=some (.p (.val undef),some (b,.mp (XW ke ve (Qw eq k v m))),[b]):=by
 obtain⟨kv,U,Z⟩:=Nw.1 hi;obtain⟨kd,O⟩:=RU.1 aa;obtain⟨y0,J,Y⟩:=Nw.1 hy;obtain⟨⟨j,G,h2⟩,h3⟩:=yn (P:=P) (kt:=kt) (ke:=ke) (ve:=ve) (eq:=eq) hk he k m 0;cases hg:Ru eq k m with
|none =>
  rw[hg] at G;simp only[Option.map_none] at G;rw[h3 hg v];simp[V6,FX,ho,VR,ht,hx,U,J,Y,hb,Z,O,hk,G]
|some v0 =>
  rw[hg] at G;simp only[Option.map_some] at G;rw[(h2 (by rw[hg];simp) v).1];simp[V6,FX,ho,VR,ht,hx,U,J,Y,hb,Z,O,hk,G]
end
section
variable {R V E:Type}{a a1 a2:Option R}{P:Program}{N:Nat}{ro:Option Nat}{ops:Array Oper}{o:Oper}{l:List Oper}{s s' s0 s1:St}{Q:R→AX→St→Prop}{K:R→St→Prop}{f g:FuncId}{args args':List AV}{dst:Option Tmp}
def iR(hc:List (Nat×Blk))(ρ:Nat→Nat)(s:St)(dst:Option Tmp)(K:R→St→Prop)(Q:R→AX→St→Prop)(r:R):KN→QY→Prop:=fun x h'=>∃hc',h'=look hc'∧F4 ρ hc hc' s.H∧cK (K r) (Q r) s dst ρ hc' x
def dI(P:Program)(fn:Func)(hc:List (Nat×Blk))(N:Nat)(g:FuncId)(G:List (Nat×Nat))(ρ:Nat→Nat)(s:St)(dst:Option Tmp)(K:R→St→Prop)(Q:R→AX→St→Prop):R→AX→St→Prop :=fun r=>gz P fn hc N g (R4 G) (iR hc ρ s dst K Q r)
def gK(T:List (Nat×AV)):List Tmp→List (Nat×Nat)→Bool
|[],[]=>true
|t::ts,p::L=>(match look T t with|some (.ptr b 0)=>b==p.1|_=>false)&&gK T ts L
|_,_=>false
theorem Ox{T:List (Nat×AV)}:∀{ts:List Tmp} {L:List (Nat×Nat)},gK T ts L=true→ts.map (look T)=L.map fun p=>some (.ptr p.1 0)
|[],[],_=>rfl
|[],_::_,h=>by cases h
|_::_,[],h=>by cases h
|t::ts,p::L,h=>by
  simp only[gK,KL] at h;simp only[U8,List.cons.injEq];refine⟨?_,Ox h.2⟩;have G:=h.1;split at G
  ·rename_i b J;rw[J,eq_of_beq G]
  ·cases G
def aR:List (Nat×Blk)→Bool
|[]=>true
|(_,k)::l=>(match k.ob with|none=>true|some .mp=>true|_=>false)&&aR l
theorem w9{ρ:Nat→Nat}:∀{H:List (Nat×Blk)},aR H=true→∀c k x,look H c=some k→k.ob=some x→(some x).map (xJ ρ)=some x
|[],_,c,k,x,G,_=>by simp[look] at G
|(b,k0)::H,J,c,k,x,G,U=>by
  simp only[aR,KL] at J;simp only[look] at G;by_cases e:b=c
  ·simp only[e,if_true,Zf] at G;subst G;have O:=J.1;rw[U] at O;cases x with
  |mp=>rfl
  |lp=>cases O
  ·rw[if_neg e] at G;exact w9 J.2 c k x G U
def rF(tbs:List Tmp)(G:List (Nat×Nat))(s:St):Bool:=gK s.T tbs G&&QbF G s.H&&aR s.H
theorem MX(L:List (Nat×Nat))(C:List Conv)(cb:List (Nat×List Conv))(F:R5 fn g)(J:List (Nat×Nat))(hf:P.funcs[f]?=some fn)(hn:fn.ntmps=n)(hl:Nat.ble args'.length n=true)(G:A8 C args=Ja (WU L) args')(hok:XO N dst (WU L) hc args'=true)(O:Ta s.H (WU L) cb hc=hc.map (fun p=>some (Ky (WU L) p.2)))(Z:We P g=true)(hm:P.follows .mixedOrders=true){ops:Array Oper}(aa:F.r1=.region id ops false)(h1:(Cn P n ops false ⟨Xg 0 args',hc⟩).isSome=true)(Y:rF F.tbs J (SY P n ops false ⟨Xg 0 args',hc⟩)=true)(h:QU a P n none F.rest ⟨(F.tc,.fn (.func g) [] (R4 J))::sgT J (SY P n ops false ⟨Xg 0 args',hc⟩).T,wL J (SY P n ops false ⟨Xg 0 args',hc⟩).H⟩ (dI P fn hc n g J (WU L) s dst K Q)):BM a P N f args dst s K Q:=by
 subst hn;refine⟨fun r hr=>?_⟩;obtain⟨s1,U⟩:=RU.1 h1;have e:SY P fn.ntmps ops false ⟨Xg 0 args',hc⟩=s1:=by simp[SY,U]
 rw[e] at Y h;simp only[rF,KL] at Y;simp only[XO,KL] at hok;obtain⟨⟨⟨⟨k1,k2⟩,k3⟩,k4⟩,k5⟩:=hok
 have hA:V7 P f args' (look hc) (iR hc (WU L) s dst K Q r):=by
  refine yc F J hf (Nat.le_of_ble_eq_true hl) Z ?_;rw[aa];exact EI hm U ⟨rfl,Ox Y.1.1,Y.1.2,w9 Y.2,h.h r hr⟩
 refine MQ (WU L) hA (G▸UM C args) k2 (fun c hc=>by simpa using Gp.1 k3 c hc) (R9 k4) (HV O) (Hz k5) (Kn k1) ?_;rintro x h' ⟨hc',rfl,hd,hk⟩;refine⟨hc',KP (WU L) hc' s.H,rfl,hd,fun _=>rfl,?_⟩;cases x with
|ret x=>exact hk
|panic x=>exact hk
def clQ(P:Program)(U:Func)(G:List (Nat×Blk))(O:Nat→Nat)(s:St)(J:R→AX→St→Prop):R→AX→St→Prop :=
 fun r=>QaX P U G (fun x h'=>∃hc',h'=look hc'∧F4 O G hc' s.H∧(match x with|.ret _=>J r .ret ⟨s.T,KP O hc' s.H⟩|.panic _=>False))
def Qdu:AX→AV|.panic v=>v|_=>xK
def Qfx:AX→Bool|.exit _=>true|_=>false
theorem XP{LD:List (Nat×Nat)}{x:AX}(Z:KY P g)(U:List (Nat×Nat))(J:List (Nat×Blk))(O:AV)(G:List AV)(cb:List (Nat×List Conv))(hx:Qfx x=false)(h:QU a P Z.fn.ntmps none Z.rest ⟨(Z.d2,O)::(Z.d1,O)::Xg 0 G,J⟩ (clQ P Z.fn J (WU U) s (wS P fn hc ρ s0 dst K Q)))(hl:Nat.ble G.length Z.fn.ntmps=true:=by kernel_rfl)(Y:Qdu x::R4 LD=Ja (WU U) (O::G):=by kernel_rfl)(hok:XO N none (WU U) J (O::G)=true:=by kernel_rfl)(aa:Ta s.H (WU U) cb J=J.map (fun p=>some (Ky (WU U) p.2)):=by kernel_rfl):ZL a (dI P fn hc N g LD ρ s0 dst K Q) x s:=by
 refine⟨fun r hr=>?_⟩;simp only[XO,KL] at hok;obtain⟨⟨⟨⟨k1,k2⟩,k3⟩,k4⟩,k5⟩:=hok
 have key:DEx P N g (Qdu x::R4 LD) s (Al P fn hc (iR hc ρ s0 dst K Q r)):=by
  refine nM (WU U) (wK Z (Nat.le_of_ble_eq_true hl) (h.h r hr)) (by rw[Y];exact wG _) k2 (fun c hc=>by simpa using Gp.1 k3 c hc) (R9 k4) (HV aa) (Hz k5) ?_;rintro y h' ⟨hc',rfl,hd,hk⟩;refine⟨hc',KP (WU U) hc' s.H,rfl,hd,fun _=>rfl,?_⟩;cases y with
 |ret y=>exact hk
 |panic y=>exact hk
 cases x with
|normal=>exact key
|ret=>exact key
|panic v=>exact key
|exit i=>cases hx
theorem rG{U:Func}{O:List (Nat×Blk)}{G:Nat→Nat}{J:R→AX→St→Prop}{x:AX}(hx:x=.ret∨x=.normal)(bs:List Nat)(cb:List (Nat×List Conv))(h:Cf P U (look s1.T) (look s1.H)=some (.tup []))(hok:Mo G O (Yo cb s1.H bs) s (.tup [])=true)(Z:ZL a J .ret ⟨s.T,KP G (Yo cb s1.H bs) s.H⟩):ZL a (clQ P U O G s J) x s1:=by
 simp only[Mo,Mj,KL] at hok;refine⟨fun r Y=>?_⟩
 have:Al P U O (fun x h'=>∃hc',h'=look hc'∧F4 G O hc' s.H∧(match x with|.ret _=>J r .ret ⟨s.T,KP G hc' s.H⟩|.panic _=>False)) s1 :=
  ⟨_,_,Yo cb s1.H bs,h,le_refl _,hok.1.1.1,Jb hok.1.1.2,hok.1.2,_,rfl,UQ hok.2,Z.h r Y⟩
 rcases hx with rfl|rfl<;>exact this
theorem rH{U:Func}{O:List (Nat×Blk)}{G:Nat→Nat}{J:R→AX→St→Prop}(bs:List Nat)(cb:List (Nat×List Conv))(h:Cf P U (look s1.T) (look s1.H)=some (.tup []))(hok:Mo G O (Yo cb s1.H bs) s (.tup [])=true)(Y:ZL a J .ret ⟨s.T,KP G (Yo cb s1.H bs) s.H⟩):ZL a (clQ P U O G s J) .ret s1:=rG (.inl rfl) bs cb h hok Y
theorem Pk{U:Func}{O:List (Nat×Blk)}{G:Nat→Nat}{J:R→AX→St→Prop}(bs:List Nat)(cb:List (Nat×List Conv))(Y:ZL a J .ret ⟨s.T,KP G (Yo cb s1.H bs) s.H⟩)(h:Cf P U (look s1.T) (look s1.H)=some (.tup []):=by kernel_rfl)(hok:Mo G O (Yo cb s1.H bs) s (.tup [])=true:=by kernel_rfl):ZL a (clQ P U O G s J) .normal s1:=rG (.inr rfl) bs cb h hok Y
end
section
variable {R V:Type}{a a1 a2:Option R}{P:Program}{N:Nat}{ro:Option Nat}{c:Code}{s s' s1:St}{Q:R→AX→St→Prop}
def rdV(P:Program)(N:Nat)(ro:Option Nat)(c:Code):Nat→(AX→St→Prop)→AX→St→Prop|0,Q=>andThen (fun _=>False) Q|k+1,Q=>andThen (fun s'=>Ex P N ro c s' (rdV P N ro c k Q)) Q
def rdU(P:Program)(N:Nat)(ro:Option Nat)(c:Code)(k:Nat)(Q:R→AX→St→Prop):R→AX→St→Prop:=fun r=>rdV P N ro c k (Q r)
theorem nV{Q:AX→St→Prop}:∀(k:Nat) (s:St) (φ:Nat→Nat) (a:Act) (w:World),Ex P N ro c s (rdV P N ro c k Q)→ZG φ M0 N D (look s.T) (look s.H) a w→Zl φ0 h0 w0 φ (look s.H) w →
  Code.roundsIn (wd ro) 0 P c (Post N D Q φ0 M0 h0 w0) (k+1) a w:=by
 intro k
 induction k with
|zero =>
  intro s φ a w h r E;rw[roundsIn_succ];refine wpIn_mono (h φ M0 D a w r) ?_;rintro e Y w' ⟨φ',x,s',J,r',O,G⟩;cases x with
 |normal=>exact J.elim
 |ret=>simp only[UH] at G;subst G;exact⟨φ',.ret,s',J,r',E.trans O,rfl⟩
 |exit i=>simp only[UH] at G;subst G;exact⟨φ',.exit i,s',J,r',E.trans O,rfl⟩
 |panic p=>obtain⟨v,rfl,U⟩:=G;exact⟨φ',.panic p,s',J,r',E.trans O,v,rfl,U⟩
|succ k Z =>
  intro s φ a w h r E;rw[roundsIn_succ];refine wpIn_mono (h φ M0 D a w r) ?_;rintro e Y w' ⟨φ',x,s',J,r',O,G⟩;cases x with
 |normal=>simp only[UH] at G;subst G;exact Z s' φ' Y w' J r' (E.trans O)
 |ret=>simp only[UH] at G;subst G;exact⟨φ',.ret,s',J,r',E.trans O,rfl⟩
 |exit i=>simp only[UH] at G;subst G;exact⟨φ',.exit i,s',J,r',E.trans O,rfl⟩
 |panic p=>obtain⟨v,rfl,U⟩:=G;exact⟨φ',.panic p,s',J,r',E.trans O,v,rfl,U⟩
theorem ui:Zl φ h w φ h w:=RV rfl rfl rfl rfl
theorem Vq(k:Nat)(h:QU a P N ro c s (rdU P N ro c k Q)):QU a P N ro (.loop c) s Q :=
 ⟨fun r J φ M0 D a w G=>wpIn_loop_rounds (k+1) (nV k s φ a w (h.h r J) G ui)⟩
theorem GA(K:Ro)(s':St){k:Nat}(h:QU a P N ro c s' (rdU P N ro c k Q))(hw:Dv K s=some s':=by kernel_rfl):ZL a (rdU P N ro c (k+1) Q) .normal s:=⟨fun r G=>(sP (Q:=rdU P N ro c k Q) K s' hw h).h r G⟩
theorem QbQ{k:Nat}(h:ZL a Q .ret s):ZL a (rdU P N ro c k Q) .ret s:=⟨fun r G=>by cases k<;>exact h.h r G⟩
theorem TM{k:Nat}(h:ZL a Q (.exit i) s):ZL a (rdU P N ro c k Q) (.exit i) s:=⟨fun r G=>by cases k<;>exact h.h r G⟩
theorem Qdv{k:Nat}(h:ZL a Q (.panic p) s):ZL a (rdU P N ro c k Q) (.panic p) s:=⟨fun r G=>by cases k<;>exact h.h r G⟩
end
def nW(M:ZQ)(k:Nat):ZQ:=fun r o=>M r o∨r=k
theorem EN(φ:Nat→Nat)(h:QY)(w:World):VQ φ h w φ h w:=FE rfl
theorem rJ{J:ZQ}(hs:∀r o,M0 r o→J r o)(r:ZG φ J N D T h a w):ZG φ M0 N D T h a w:=by
 have O:∀r o v,w.cell? ⟨r,o,none⟩=some v→¬MM φ h J r o→w.cell? ⟨r,o,none⟩=some v∧¬MM φ h M0 r o:=fun r o v hc G=>⟨hc,fun x=>G (x.imp id (hs r o))⟩
 exact⟨r.dfs,r.siz,⟨r.hp.inj,fun b k hb=>Ku O (EN φ h w) rfl (r.hp.blk b k hb),fun b hb o G=>r.hp.fr b hb o (hs _ _ G),fun x o Y=>r.hp.lt x o (hs _ _ Y),r.hp.gm.sub fun x o G=>G.imp id (hs x o)⟩,
  fun t x U=>⟨(r.tm t x U).1,(QZ O (EN φ h w)).1 _ _ (r.tm t x U).2⟩⟩
theorem nX{G:ZQ}{e:Exit}{O:Act}(hs:∀r o,M0 r o→G r o)(p:Post N D Q φ G h w e O w'):Post N D Q φ M0 h w e O w':=by
 obtain⟨φ',x,s',Z,h2,h3,J⟩:=p;refine⟨φ',x,s',Z,rJ hs h2,h3,?_⟩;cases x with
|panic v =>
  obtain⟨u,Y,U⟩:=J;exact⟨u,Y,(QZ (fun r o v hc hm=>⟨hc,fun x=>hm (x.imp id (hs r o))⟩) (EN _ _ _)).1 _ _ U⟩
|_=>exact J
theorem zA{ob:Obj}(r:Z9 φ h w M0)(hC:Clear φ h w 1):Zl φ h w φ h (w.alloc ob)∧VQ φ h w φ h (w.alloc ob):=by
 have G:∀x,x<w.heap.size→(w.alloc ob).heap[x]?=w.heap[x]?:=fun x U=>by show(w.heap.push ob)[x]?=_;rw[Array.getElem?_push,if_neg zo]
 have hs:(w.alloc ob).heap.size≤w.heap.size+1:=by show(w.heap.push ob).size≤_;simp
 have O:∀b k,h b=some k→(w.alloc ob).heap[φ b]?=w.heap[φ b]?:=fun b k hb=>hC.lt r hs G (by rw[hb];simp)
 refine⟨⟨rfl,rfl,rfl,by show _≤(w.heap.push ob).size;simp,fun x U _=>G x U,fun x o U _=>by simp[World.cell?,G x U],fun _ _ _ x=>x,fun _ _ _ _ x=>⟨⟨_,x⟩,rfl⟩,?_,?_,fun _ _ _ _ Y Z=>⟨⟨_,Y,Z⟩,rfl⟩⟩,?_,?_,?_,fun _ _ _ Y Z=>⟨⟨_,Y,Z⟩,rfl⟩⟩
 ·exact fun t ty S n _ hc=>⟨n,hc,Yf _,fun _=>VN rfl (O _ _ hc)⟩
 ·exact fun t ty S n _ hc=>⟨n,hc,Yf _,fun _=>⟨rfl,fun c J=>⟨c,by rw[O _ _ hc];exact J,rfl⟩⟩⟩
 ·exact fun b ty cs hc=>⟨⟨ty,cs,hc⟩,rfl⟩
 ·exact fun t ty S n hc=>⟨n,hc,Yf _,fun _=>VN rfl (O _ _ hc)⟩
 ·exact fun t ty S n hc=>⟨n,hc,Yf _,fun _=>⟨rfl,fun c J=>⟨c,by rw[O _ _ hc];exact J,rfl⟩⟩⟩
theorem nY{b:Act}{ob:Obj}{d:Tmp}(r:ZG φ M0 N D T h b w)(hT:T d=none)(hC:Clear φ h w 1):ZG φ (nW M0 w.heap.size) N D T h (b.put (some d) v) (w.alloc ob):=by
 obtain⟨E,X⟩:=zA (ob:=ob) r.hp hC
 have hk:∀x o u,w.cell? ⟨x,o,none⟩=some u→¬MM φ h M0 x o→(w.alloc ob).cell? ⟨x,o,none⟩=some u∧¬MM φ h (nW M0 w.heap.size) x o:=by
  intro x o u hc G;have O:=NA hc;obtain⟨Z,h2⟩:=E.keeps M0 x o u hc G;refine⟨Z,fun J=>?_⟩;rcases J with J|J|J
  ·exact G (.inl J)
  ·exact G (.inr J)
  ·omega
 have U:∀x,x<w.heap.size→(w.alloc ob).heap[x]?=w.heap[x]?:=fun x O=>by show(w.heap.push ob)[x]?=_;rw[Array.getElem?_push,if_neg zo]
 refine⟨r.dfs.keep E,by simp[Act.put,r.siz],⟨r.hp.inj,fun c k hb=>Ku hk X (hC.lt r.hp (w':=w.alloc ob) (by show(w.heap.push ob).size≤_;simp) U (by rw[hb];simp)) (r.hp.blk c k hb),?_,?_,(r.hp.gm.evol E).w,fun g hg o G=>G.elim (fun G=>r.hp.gm.m g hg o (.inl G)) (fun G=>G.elim (fun G=>r.hp.gm.m g hg o (.inr G)) (fun e=>by have:=kw r.hp.gm.w g hg;omega))⟩,?_⟩
 ·intro c hc o G;rcases G with G|G
  ·exact r.hp.fr c hc o G
  ·rcases hC c hc with Z|Z<;>omega
 ·intro x o O;show x<(w.heap.push ob).size;rw[Array.size_push];rcases O with O|O
  ·have:=r.hp.lt x o O;omega
  ·omega
 ·intro t x Y;refine⟨(r.tm t x Y).1,?_⟩;have hne:¬d=t:=fun e=>by rw[e,Y] at hT;cases hT
  have:(b.put (some d) v).tmps.getD t undef=b.tmps.getD t undef:=by simp[Act.put,Array.getElem?_setIfInBounds_ne hne]
  rw[this];exact(QZ hk X).1 _ _ (r.tm t x Y).2
theorem uj{b:Act}{k ty:Nat}{i:TypeInfo}{z:Value}{u:Kt}(r:ZG φ (nW M0 k) N D (look s.T) (look s.H) b w)(E:Zl φ0 h0 w0 φ (look s.H) w)(ah:w0.heap.size≤k)(ae:∀x,¬M0 k x)(ac:o.op=.alloc ty)(hd:o.dst=some d)(hi:P.info? ty=some i)(hz:i.zero=some z)(hN:d<N)(hb:b.tmps[d]?=some (.pointer (some ⟨k,0,none⟩)))(hw:w.heap[k]?=some (.cells z.cells ty (0,0)))(hu:V6 P o (look s.T) (look s.H)=some u) :
  ZG (QM φ d k) M0 N D (look (XN s o.dst u).T) (look (XN s o.dst u).H) b w∧Zl φ0 h0 w0 (QM φ d k) (look (XN s o.dst u).H) w:=by
 simp only[V6,ac,hi,hz,qx,hd] at hu;cases hcs:cellsOf (Ik z) with
|none=>rw[hcs] at hu;cases hu
|some cs =>
  rw[hcs] at hu;dsimp only at hu;cases hn:look s.H d with
 |some x=>rw[hn] at hu;cases hu
 |none =>
   rw[hn] at hu;dsimp only at hu;cases hu;have hT:∀t,look (XN s o.dst (.ptr d 0,some (d,.box ty cs),[d])).T t=if d=t then some (.ptr d 0) else look s.T t:=fun t=>by simp[XN,hd,look]
   have hH:look (XN s o.dst (.ptr d 0,some (d,.box ty cs),[d])).H=upd (look s.H) d (.box ty cs):=by funext c;simp[XN,look,upd]
   rw[hH];have hne:∀c q,look s.H c=some q→¬d=c:=fun c q hc e=>by rw[e] at hn;rw[hn] at hc;cases hc
   have Z:∀c,look s.H c≠none→φ c≠k:=fun c hc e=>r.hp.fr c hc 0 (.inr e)
   have ab:∀x y,MM (QM φ d k) (upd (look s.H) d (.box ty cs)) M0 x y→MM φ (look s.H) (nW M0 k) x y:=by
    rintro x y (⟨c,q,G,O,J⟩|h)
    ·by_cases e:d=c
     ·simp only[QM,e,if_true] at O;exact .inr (.inr O.symm)
     ·simp only[upd,QM,e,if_false] at G O;exact .inl ⟨c,q,G,O,J⟩
    ·exact .inr (.inl h)
   have X:VQ φ (look s.H) w (QM φ d k) (upd (look s.H) d (.box ty cs)) w:=by
    refine⟨fun c Y cs' hc=>?_,fun t Y S n hc=>?_,fun t Y S n hc=>?_,fun c k' x hc ho=>?_⟩
    ·have:=hne c _ hc;exact⟨⟨Y,cs',by simp[upd,this,hc]⟩,by simp[QM,this]⟩
    ·have:=hne t _ hc;exact⟨n,by simp[upd,this,hc],Yf _,fun _=>VN (by simp[QM,this]) rfl⟩
    ·have:=hne t _ hc;exact⟨n,by simp[upd,this,hc],Yf _,fun _=>⟨by simp[QM,this],fun c af=>⟨c,af,rfl⟩⟩⟩
    ·have:=hne c _ hc;exact⟨⟨k',by simp[upd,this,hc],ho⟩,by simp[QM,this]⟩
   have aa:∀x y v,w.cell? ⟨x,y,none⟩=some v→¬MM φ (look s.H) (nW M0 k) x y→w.cell? ⟨x,y,none⟩=some v∧¬MM (QM φ d k) (upd (look s.H) d (.box ty cs)) M0 x y:=fun x y v hc hm=>⟨hc,fun hh=>hm (ab x y hh)⟩
   refine⟨⟨?_,r.siz,⟨?_,?_,?_,fun x y hx=>r.hp.lt x y (.inl hx),r.hp.gm.sub ab⟩,?_⟩,?_⟩
   ·obtain⟨g0,ms,g1,g2,g3⟩:=r.dfs;refine⟨g0,ms,g1,g2,fun x hx=>?_⟩;obtain⟨g4,g5,g6⟩:=g3 x hx;refine⟨g4,g5,fun c hc e=>?_⟩;by_cases ec:d=c
    ·simp only[QM,ec,if_true] at e;rw[←e,hw] at g5;cases g5
    ·simp only[upd,QM,ec,if_false] at hc e;exact g6 c hc e
   ·intro c c' hc hc' e;by_cases e1:d=c<;>by_cases e2:d=c'
    ·exact e1.symm.trans e2
    ·simp only[QM,e1,if_true] at e;have e3:¬c=c':=fun x=>e2 (e1.trans x)
     simp only[e3,if_false] at e;simp only[upd,e2,if_false] at hc';exact absurd e.symm (Z c' hc')
    ·simp only[QM,e2,if_true] at e;have e3:¬c'=c:=fun x=>e1 (e2.trans x)
     simp only[e3,if_false] at e;simp only[upd,e1,if_false] at hc;exact absurd e (Z c hc)
    ·simp only[upd,QM,e1,e2,if_false] at hc hc' e;exact r.hp.inj c c' hc hc' e
   ·intro c q hc;by_cases e:d=c
    ·have O:q=.box ty cs:=by simp only[upd,e,if_true,Zf] at hc;exact hc.symm
     have J:QM φ d k c=k:=by simp[QM,e]
     rw[O,J];exact⟨z.cells,hw,(QZ aa X).2 _ _ (Wt hcs (Jr z)).1⟩
    ·have G:look s.H c=some q:=by simpa [upd,e] using hc
     have J:QM φ d k c=φ c:=by simp[QM,e]
     rw[J];exact Ku aa X rfl (r.hp.blk c q G)
   ·intro c hc y hm;by_cases e:d=c
    ·have J:QM φ d k c=k:=by simp[QM,e]
     rw[J] at hm;exact ae _ hm
    ·have J:QM φ d k c=φ c:=by simp[QM,e]
     rw[J] at hm;exact r.hp.fr c (by simpa [upd,e] using hc) y (.inl hm)
   ·intro t x U;rw[hT] at U;by_cases e:d=t
    ·simp only[e,if_true,Zf] at U;subst U;refine⟨e▸hN,?_⟩;subst e;rw[Array.getD_eq_getD_getElem?,hb];simp only[Qg,Option.getD_some];exact⟨by simp[QM],ty,cs,by simp[upd]⟩
    ·simp only[e,if_false] at U;exact⟨(r.tm t x U).1,(QZ aa X).1 _ _ (r.tm t x U).2⟩
   ·refine⟨E.os,E.tape,E.output,E.size,E.same,E.cell,?_,?_,?_,?_,?_⟩
    ·rintro x y hx ⟨c,q,G,O,J⟩;by_cases e:d=c
     ·simp only[QM,e,if_true] at O;omega
     ·simp only[upd,QM,e,if_false] at G O;exact E.mu x y hx ⟨c,q,G,O,J⟩
    ·intro c Y cs' hc hb;obtain⟨⟨ad,G⟩,O⟩:=E.kb c Y cs' hc hb;have:=hne c _ G;exact⟨⟨ad,by simp[upd,this,G]⟩,by simp[QM,this,O]⟩
    ·intro t Y S n U hb;obtain⟨n',G,O,J⟩:=E.kt t Y S n U hb;have:=hne t _ G;exact⟨n',by simp[upd,this,G],O,fun e=>(by simpa [QM,this] using J e)⟩
    ·intro t Y S n U hb;obtain⟨n',G,O,J⟩:=E.kv t Y S n U hb;have:=hne t _ G;exact⟨n',by simp[upd,this,G],O,fun e=>⟨by simp[QM,this,(J e).1],(J e).2⟩⟩
    ·intro c k' x hc hb ho;obtain⟨⟨k2,G,O⟩,J⟩:=E.ko c k' x hc hb ho;have:=hne c _ G;exact⟨⟨k2,by simp[upd,this,G],O⟩,by simp[QM,this,J]⟩
def jV(P:Program)(N:Nat)(ops:Array Oper)(Q:AX→St→Prop)(H:List Nat)(q d:Nat):List Nat→St→Prop
|[],s=>Q .normal s
|c::rest,s=>match ops[c]? with
 |some o=>if c=q then(∃u,K5 N o.dst=true∧V6 P o (look s.T) (look s.H)=some u∧XK P ops (Gz ops H c) (XN s o.dst u)∧jV P N ops Q H q d rest (XN s o.dst u))
   else U7 P N o s (fun s'=>XK P ops (Gz ops H c) s'∧(q∈rest→look s'.T d=none)∧jV P N ops Q H q d rest s') Q
 |none=>False
def EO(ops:Array Oper)(q:Nat):List Nat→Bool|c::c'::r=>(c != q||(ops[c']?).any (waits · q))&&EO ops q (c'::r)|_=>true
def aS(ops:Array Oper)(H G:List Nat):Bool :=
 H.all (fun i=>match ops[i]? with|some o=>(match o.op with|.move _=>true|_=>false)&&G.all (fun c=>match (ops[c]?).bind (·.dst) with|some e=>!(o.looksAt ops).contains e|none=>true)||!(match o.op with|.move _=>true|_=>false)|none=>false)
def Pm(P:Program)(N:Nat)(H:List Nat)(q d:Nat)(G:List Nat)(ops:Array Oper):Bool :=
 (List.range ops.size).all (fun i=>H.contains i||G.contains i)&&Region.noSelect ops&&Tc ops H&&chainOk ops (G.filter (· != q))&&decide G.Nodup&&H.all (fun i=>!G.contains i) &&
 H.all (fun i=>G.all fun c=>!Xk ops.size ops i c)&&ops.toList.all (fun o=>o.guard.isNone)&&FJ 0 ops.toList &&
 H.all (fun i=>match (ops[i]?).bind (·.dst) with
 |some d=>(List.range ops.size).all fun j=>i==j||(match ops[j]? with|some J=>J.dst != some d&&(waits J i||!(J.looksAt ops).contains d)|none=>true)
 |none=>false)&&aS ops H G&&EO ops q G&&decide (d<N) &&
 G.all (fun c=>c==q||(match ops[c]? with|some o=>o.dst != some d|none=>false)) &&
 (match ops[q]? with
 |some o=>o.dst==some d&&(match o.op with|.alloc ty=>(match P.info? ty with|some i=>i.zero.isSome|none=>false)|_=>false)
 |none=>false)
theorem Ab{ops:Array Oper}{q:Nat}:∀(G:List Nat) (c':Nat) (l2:List Nat),EO ops q (G++q::c'::l2)=true→(ops[c']?).any (waits · q)=true
|[],c',l2,h=>by
  simp only[List.nil_append,EO,KL,bne_self_eq_false,Bool.false_or] at h;exact h.1
|[x],c',l2,h=>by
  simp only[List.cons_append,List.nil_append,EO,KL,bne_self_eq_false,Bool.false_or] at h;exact h.2.1
|x::y::G,c',l2,h=>by
  simp only[List.cons_append,EO,KL] at h;exact Ab (y::G) c' l2 h.2
theorem nZ{b b':Act}{Z:Oper}(U:Fh P ops i s)(aa:ops[i]?=some Z)(ab:Z.dst=some d)(r':ZG φ M0 N D (look s.T) (look s.H) b' w')(hv:b'.tmps[d]?=some v)(J:(execOp b.eval Z).run P w=.ok (.value v) w)(hm:∀x,Z.op=.move x→b'.eval x=b.eval x):(execOp b'.eval Z).run P w'=.ok (.value v) w':=by
 unfold Fh at U;simp only[aa] at U;split at U
 ·rename_i x d' G O
  have Y:b.eval x=v:=by
   simp[execOp,G] at J;exact J
  simp[execOp,G,hm x G,Y]
 ·rename_i d' O G;obtain⟨x,h2,h3,h4⟩:=U;obtain⟨v',h5,h6⟩:=Om r' h2;rw[ab] at O;cases O;have h7:=(r'.tm d x h3).2;rw[Array.getD_eq_getD_getElem?,hv] at h7;have:=zy h4 h6 h7;rw[h5,this];rfl
 ·cases U
theorem rM{Qh:AX→St→Prop}{H Cs:List Nat}{q:Nat}(hok:Pm P N H q d Cs ops=true)(ed:∀s,Qh .normal s→Q .normal s)(dx:∀v s,Qh (.panic v) s→Q (.panic v) (Aa ops s)) :
  ∀(ah:Nat) (done ch:List Nat) (listed:Array Bool) (a b:Act) (w:World) (s:St) (φ:Nat→Nat) (M1:ZQ),Cs=done++ch→listed.size=ops.size→AZ listed ops.size≤ah →
   (∀(j:Nat) o,ops[j]?=some o→listed.getD j false=true→∀e∈o.after,Region.binds .any e=true→listed.getD e.on false=true) →
   (∀c∈done,listed.getD c false=true)→(∀c∈ch,c≠q→listed.getD c false=false)→Agree (X4 ops H listed) a b→ZG φ M1 N D (look s.T) (look s.H) b w→Zl φ0 h0 w0 φ (look s.H) w →
   (∀i∈H,listed.getD i false=false→∃o d v,ops[i]?=some o∧o.dst=some d∧b.tmps[d]?=some v∧(execOp b.eval o).run P w=.ok (.value v) w) →
   (q∈ch→look s.T d=none∧∀i∈H,listed.getD i false=false→Fh P ops i s) →
   (((q∈ch→listed.getD q false=false)∧M1=M0)∨(q∈ch∧listed.getD q false=true∧ch.head?≠some q∧∃k o ty i z,M1=nW M0 k∧ops[q]?=some o∧o.op=.alloc ty∧o.dst=some d∧P.info? ty=some i∧i.zero=some z∧b.tmps[d]?=some (.pointer (some ⟨k,0,none⟩))∧w.heap[k]?=some (.cells z.cells ty (0,0))∧w0.heap.size≤k∧∀x,¬M0 k x)) →
   jV P N ops Qh H q d ch s→wpAny P .any ops (Post N D Q φ0 M0 h0 w0) ah listed a w:=by
 simp only[Pm,KL,Ii] at hok;obtain⟨⟨⟨⟨⟨⟨⟨⟨⟨⟨⟨⟨⟨⟨c4,ef⟩,cr⟩,br⟩,ax⟩,b5⟩,bw⟩,dz⟩,cx⟩,b9⟩,eu⟩,b3⟩,c7⟩,cm⟩,ac⟩:=hok;have bv:∀(listed:Array Bool) (i:Nat),i<listed.size→listed.getD i true=listed.getD i false:=fun listed i hi=>by simp[hi]
 have cc:∀(X:Tmp→Prop) (a b:Act),Agree X a b→(∀t,X t→t∈MW ops)→∀c w,Post N D Qh φ0 M0 h0 w0 (.panic c) b w→Post N D Q φ0 M0 h0 w0 (.panic c) a w:=by
  rintro X a b Z hX c w' ⟨φ',x,s',g1,g2,g3,g4⟩;cases x with
 |normal=>cases g4
 |exit i=>cases g4
 |ret=>cases g4
 |panic v=>exact⟨φ',.panic v,Aa ops s',dx _ _ g1,zz Z hX g2,g3,g4⟩
 have b7:∀a w,¬Post N D Qh φ0 M0 h0 w0 .outgrown a w:=fun a w h=>Ju ⟨a,w,h⟩
 have dt:∀(Hv:List Nat) (listed:Array Bool) (t:Tmp),X4 ops Hv listed t→t∈MW ops:=by
  rintro Hv listed t ⟨i,_,_,hd⟩;cases O:ops[i]? with
 |none=>rw[O] at hd;cases hd
 |some o =>
   rw[O] at hd;exact List.mem_filterMap.2 ⟨o,by have:=Array.mem_of_getElem? O;simpa using this,hd⟩
 have ep:∀(j:Nat) o,ops[j]?=some o→o.guard=none:=by
  intro j o O;have:=Gp.1 dz o (by have:=Array.mem_of_getElem? O;simpa using this);simpa using this
 have bz:∀(listed:Array Bool),listed.size=ops.size→Region.ready .any ops listed=[]→∀i,i<ops.size→listed.getD i false=true:=by
  intro listed ai hr i
  induction i using Nat.strongRecOn with
 |_ i ih =>
   intro hi;cases hq:listed.getD i false with
  |true=>rfl
  |false =>
    have:i∈Region.ready .any ops listed:=by
     rw[mem_ready];refine⟨by rw[bv listed i zo];exact hq,ops[i],Array.getElem?_eq_getElem hi,fun e he hb=>?_⟩;have G:=W9 cx i ops[i] (by simp[hi]) e he hb;exact ih e.on zo zo
    rw[hr] at this;cases this
 have cd:∀(listed:Array Bool) (ch:List Nat) (a b:Act) (w:World) (s:St) (φ:Nat→Nat) (M1:ZQ),(∀i,i<ops.size→listed.getD i false=true)→(∀c∈ch,c≠q→listed.getD c false=false)→Agree (X4 ops H listed) a b →
   ZG φ M1 N D (look s.T) (look s.H) b w→Zl φ0 h0 w0 φ (look s.H) w→(((q∈ch→listed.getD q false=false)∧M1=M0)∨(q∈ch∧ch.head?≠some q))→jV P N ops Qh H q d ch s→Post N D Q φ0 M0 h0 w0 .normal a w:=by
  intro listed ch a b w s φ M1 aa ae Z r E hM U
  have eo:a=b:=gJ Z (by
   rintro t ⟨i,hi,Y,hd⟩;cases O:ops[i]? with
  |none=>rw[O] at hd;cases hd
  |some o=>rw[aa i (RQ.1 O).1] at Y;cases Y)
  subst eo;cases ch with
 |nil =>
   rcases hM with⟨_,rfl⟩|⟨h,_⟩
   ·exact⟨φ,.normal,s,ed _ U,r,E,rfl⟩
   ·cases h
 |cons c ch =>
   exfalso;simp only[jV] at U;cases O:ops[c]? with
  |none=>rw[O] at U;exact U
  |some o =>
    have hc:=aa c (RQ.1 O).1;by_cases ad:c=q
    ·rcases hM with⟨h,_⟩|⟨_,h⟩
     ·rw[ad,h (by rw[ad];exact List.mem_cons_self)] at hc;cases hc
     ·exact h (by rw[ad];rfl)
    ·rw[ae c List.mem_cons_self ad] at hc;cases hc
 intro ah
 induction ah with
|zero =>
  intro done ch listed a b w s φ M1 ab ai hu cl bh ae Z r E J hT hM U;have aa:∀i,i<ops.size→listed.getD i false=true:=fun i hi=>by rw[←bv listed i zo];exact Ce (n:=ops.size) zo i hi
  refine⟨List.eq_nil_iff_forall_not_mem.2 fun i hi=>?_,cd listed ch a b w s φ M1 aa ae Z r E (hM.imp id fun h=>⟨h.1,h.2.2.1⟩) U⟩;obtain⟨G,o,O,_⟩:=mem_ready.1 hi;have c2:=(RQ.1 O).1;rw[bv listed i zo,aa i c2] at G;cases G
|succ ah ih =>
  intro done ch listed a b w s φ M1 ab ai hu cl bh ae Z r E J hT hM U;refine⟨fun hr=>cd listed ch a b w s φ M1 (bz listed ai hr) ae Z r E (hM.imp id fun h=>⟨h.1,h.2.2.1⟩) U,fun j hj=>?_⟩;obtain⟨de,o,O,aa⟩:=mem_ready.1 hj;have ba:j<ops.size:=(RQ.1 O).1;have ar:listed.getD j false=false:=by rw[←bv listed j zo];exact de
  have bn:∀cs b,o.op≠.select cs b:=fun cs b=>Region.noSelect_spec ef j o cs b O
  have a6:∀tm,Region.wanted o (yielded ops tm)=true:=fun tm=>by simp[Region.wanted,ep j o O]
  have eL:∀k,(listed.setIfInBounds j true).getD k false=(listed.getD k false||decide (k=j)):=by
   intro k;by_cases cw:k=j
   ·subst cw;have:k<listed.size:=by omega
    simp[this]
   ·rw[getD_set_ne false (Ne.symm cw)];simp[cw]
  have bd:AZ (listed.setIfInBounds j true) ops.size≤ah:=by
   have:=NT de ops.size;rw[if_pos ba] at this;omega
  have af:∀(k:Nat) ok,ops[k]?=some ok→(listed.setIfInBounds j true).getD k false=true→∀e∈ok.after,Region.binds .any e=true→(listed.setIfInBounds j true).getD e.on false=true:=by
   intro k ok hk Y e he hb;rw[eL] at Y ⊢;simp only[Bool.or_eq_true,Ii] at Y ⊢;rcases Y with Y|Y
   ·exact .inl (cl k ok hk Y e he hb)
   ·subst Y;rw[O] at hk;cases hk;exact .inl (aa e he hb)
  have aq:∀i,(listed.setIfInBounds j true).getD i false=false→listed.getD i false=false∧i≠j:=by
   intro i Y;rw[eL] at Y;simp only[Bool.or_eq_false_iff,decide_eq_false_iff_not] at Y;exact Y
  have b8:∀t∈o.looksAt ops,¬X4 ops H listed t∨∃d,o.dst=some d∧t=d∧j∈H:=by
   intro t ht;by_cases hc:X4 ops H listed t;rotate_left
   ·exact .inl hc
   obtain⟨i,hi,Y,hd⟩:=hc;have G:=Gp.1 b9 i hi;rw[hd] at G;have h2:=Gp.1 G j (by simp[ba]);simp only[O,Bool.or_eq_true,beq_iff_eq,KL,Bool.not_eq_true',bne_iff_ne] at h2;rcases h2 with rfl|⟨_,h2|h2⟩
   ·rw[O] at hd;exact .inr ⟨t,hd,rfl,hi⟩
   ·obtain⟨e,he,hb,bk⟩:=F8 h2;have:=aa e he hb;rw[bk,Y] at this;cases this
   ·simp[ht] at h2
  have bp:=Gp.1 c4 j (by simp[ba]);simp only[Bool.or_eq_true,List.contains_iff_mem] at bp
  have cn:q∈ch→q∉H:=by
   intro hq cn;have:=Gp.1 b5 q cn;rw[ab] at this;simp[hq] at this
  by_cases aw:j∈H
  ·
   have az:j∉Cs:=by
    have:=Gp.1 b5 j aw;simpa using this
   obtain⟨o',dd,v,df,hd,hv,bi⟩:=J j aw ar;rw[O] at df;cases df;have cp:dd∉o.looksAt ops:=Ot O hd H cr aw
   have ce:∀t∈o.looksAt ops,¬X4 ops H listed t:=by
    intro t ht;rcases b8 t ht with G|⟨d',G,rfl,_⟩
    ·exact G
    ·rw[hd] at G;cases G;exact absurd ht cp
   unfold wpOp;simp only[O,a6,if_true];refine .inl ?_;unfold Oper.wp;rw[UT (ops:=ops) Z bn ce,bi];simp only[Oper.upon];have ej:q∈ch→q≠j:=fun h e=>cn h (e▸aw)
   refine ih done ch (listed.setIfInBounds j true) (a.put o.dst v) b w s φ M1 ab (by simpa using ai) bd af (fun c hc=>by rw[eL,bh c hc];rfl) ?_ ?_ r E (fun i hi Y=>J i hi (aq i Y).1) (fun h=>⟨(hT h).1,fun i hi Y=>(hT h).2 i hi (aq i Y).1⟩) ?_ U
   ·intro c hc ad;rw[eL,ae c hc ad];have:c≠j:=fun e=>az (by rw[ab,←e];exact List.mem_append_right _ hc)
    simp[this]
   ·refine⟨by rw[←Z.1,hd];rfl,by rw[←Z.2.1,hd];simp[Act.put],fun t ht=>?_⟩;rw[hd];by_cases c1:dd=t
    ·subst c1
     have co:dd<a.tmps.size:=by
      rw[Z.2.1];exact(RQ.1 hv).1
     rw[hv];simp[Act.put,co]
    ·rw[←Z.2.2 t (fun hc=>ht (by
      obtain⟨i,hi,Y,ay⟩:=hc;refine⟨i,hi,?_,ay⟩;rw[eL,Y];have:i≠j:=fun e=>c1 (by rw[e,O] at ay;exact Option.some.inj (hd.symm.trans ay))
      simp[this]))]
     simp[Act.put,Array.getElem?_setIfInBounds_ne c1]
   ·rcases hM with⟨G,h2⟩|⟨G,h2,h3⟩
    ·exact .inl ⟨fun h=>by rw[eL,G h];simp[ej h],h2⟩
    ·exact .inr ⟨G,by rw[eL,h2];rfl,h3⟩
  ·
   have az:j∈Cs:=bp.resolve_left aw
   have av:j∈ch:=by
    rw[ab] at az;rcases List.mem_append.1 az with G|G
    ·rw[bh j G] at ar;cases ar
    ·exact G
   have bl:∀t∈o.looksAt ops,¬X4 ops H listed t:=by
    intro t ht;rcases b8 t ht with G|⟨d',_,_,G⟩
    ·exact G
    ·exact absurd G aw
   have bj:∀t,o.dst=some t→¬X4 ops H listed t:=by
    rintro t ht ⟨i,hi,Y,hd⟩;have G:=Gp.1 b9 i hi;rw[hd] at G;have h2:=Gp.1 G j (by simp[ba]);simp only[O,Bool.or_eq_true,beq_iff_eq,KL,Bool.not_eq_true',bne_iff_ne] at h2;rcases h2 with rfl|⟨h2,_⟩
    ·exact aw hi
    ·exact h2 ht
   have da:∀x y,M0 x y→M1 x y:=by
    intro x y h;rcases hM with⟨_,rfl⟩|⟨_,_,_,k,_,_,_,_,rfl,_⟩
    ·exact h
    ·exact .inl h
   have cy:∀(b':Act) (w':World) (s':St) (φ':Nat→Nat) (M':ZQ),(∀t,o.dst≠some t→b'.tmps[t]?=b.tmps[t]?)→ZG φ' M' N D (look s'.T) (look s'.H) b' w'→(∀i∈H,(listed.setIfInBounds j true).getD i false=false→Fh P ops i s') →
     ∀i∈H,(listed.setIfInBounds j true).getD i false=false→∃o d v,ops[i]?=some o∧o.dst=some d∧b'.tmps[d]?=some v∧(execOp b'.eval o).run P w'=.ok (.value v) w':=by
    intro b' w' s' φ' M' aj r' bg i hi Y;have bt:=(aq i Y).1;obtain⟨oi,di,v,bu,ay,ee,eg⟩:=J i hi bt;have dh:b'.tmps[di]?=some v:=by rw[aj di (fun e=>bj di e ⟨i,hi,bt,by rw[bu];exact ay⟩)];exact ee
    refine⟨oi,di,v,bu,ay,dh,nZ (bg i hi Y) bu ay r' dh eg fun x al=>?_⟩;cases x with
   |tmp t =>
     have hne:o.dst≠some t:=by
      intro e;have h2:=Gp.1 eu i hi;simp only[bu,al,Bool.true_and,Bool.not_true,Bool.or_false] at h2;have h3:=Gp.1 h2 j az;simp only[O,Zy,e,Bool.not_eq_true'] at h3;have:t∈oi.looksAt ops:=List.mem_append_left _ (List.mem_filterMap.2 ⟨.tmp t,by simp[al,Op.operands],rfl⟩);simp[this] at h3
     simp only[Act.eval];rw[Array.getD_eq_getD_getElem?,Array.getD_eq_getD_getElem?,aj t hne]
   |_=>rfl
   have a7:∀(s':St),XK P ops (Gz ops H j) s'→∀i∈H,(listed.setIfInBounds j true).getD i false=false→Fh P ops i s':=by
    intro s' bg i hi Y;have bt:=(aq i Y).1
    have ec:Xk ops.size ops j i=false:=by
     cases hq:Xk ops.size ops j i with
    |false=>rfl
    |true =>
      have:=UD cl _ j i o O aa hq;rw[bt] at this;cases this
    have c5:Xk ops.size ops i j=false:=by
     have:=Gp.1 (Gp.1 bw i hi) j az;simpa using this
    exact bg i (List.mem_filter.2 ⟨hi,by rw[ec,c5];rfl⟩)
   have au:∀(a' b':Act),Agree (X4 ops H listed) a' b'→Agree (X4 ops H (listed.setIfInBounds j true)) a' b':=by
    intro a' b' h;refine⟨h.1,h.2.1,fun t ht=>h.2.2 t (fun hc=>ht ?_)⟩;obtain⟨i,hi,Y,hd⟩:=hc;refine⟨i,hi,?_,hd⟩;rw[eL,Y];have:i≠j:=fun e=>aw (e▸hi)
    simp[this]
   by_cases bc:j=q
   ·
    subst bc;rw[O] at ac;simp only[KL,beq_iff_eq] at ac;obtain⟨be,ac⟩:=ac;split at ac;rotate_left
    ·cases ac
    rename_i ty al;split at ac;rotate_left
    ·cases ac
    rename_i ti hi;obtain⟨z,hz⟩:=RU.1 ac
    have ek:M1=M0:=by
     rcases hM with⟨_,h⟩|⟨_,h,_⟩
     ·exact h
     ·rw[h] at ar;cases ar
    subst ek;unfold wpOp;simp only[O,a6,if_true];refine .inl ?_;cases ch with
   |nil=>cases av
   |cons c rest =>
     by_cases bo:c=j
     ·subst bo;simp only[jV,O,if_true] at U;obtain⟨u,c3,hu,Y,bf⟩:=U
      have hex:U7 P N o s (fun s'=>s'=XN s o.dst u) Qh:=by
       unfold U7;simp only[al];rw[hu];exact .inl ⟨c3,rfl⟩
      have hw:=Br hex r;have cg:=Go.Abs.Oper.wp_mono2 (K':=fun a' w'=>∃φ' s',s'=XN s o.dst u∧ZG φ' M1 N D (look s'.T) (look s'.H) a' w'∧Zl φ (look s.H) w φ' (look s'.H) w') (Q':=Post N D Qh φ0 M1 h0 w0) hw (fun _ _ h=>h) (fun e a' w' p=>p.trans E);refine Oper.wp_mono ?_ (Oj (ops:=ops) Z bn bl bj (cc _ _ _ Z (dt _ _)) b7 cg);rintro a' w' ⟨b',ao,aj,φ',s',rfl,r',E'⟩
      have bm:c∉rest:=by
       rw[ab] at ax;exact(List.nodup_cons.1 (List.nodup_append.1 ax).2.1).1
      refine ih (done++[c]) rest (listed.setIfInBounds c true) a' b' w' _ φ' M1 (by rw[ab];simp) (by simpa using ai) bd af (fun x U=>by
       rw[eL];rcases List.mem_append.1 U with G|G
       ·rw[bh x G];rfl
       ·rw[List.mem_singleton] at G;simp[G]) ?_ (au _ _ ao) r' (E.trans E') (cy b' w' _ φ' M1 aj r' (a7 _ Y)) (fun h=>absurd h bm) (.inl ⟨fun h=>absurd h bm,rfl⟩) bf
      intro x U an;rw[eL,ae x (List.mem_cons_of_mem _ U) an];simp[an]
     ·have bi:∀ev,(execOp ev o).run P w=.ok (.value (.pointer (some ⟨w.heap.size,0,none⟩))) (w.alloc (.cells z.cells ty)):=fun ev=>by
       simp[execOp,al,Instr.alloc,zeroValue,typeInfo,hi,hz,newVar,newRow,newObj,Sem.run]
      unfold Oper.wp;rw[bi];simp only[Oper.upon];rw[be];obtain⟨db,dv⟩:=hT av;obtain⟨r,E1,_,dp⟩:=r.lift 1;have E:=E.trans E1;have r2:=nY (ob:=.cells z.cells ty) (v:=.pointer (some ⟨w.heap.size,0,none⟩)) r db dp
      have aj:∀t,o.dst≠some t→(b.put (some d) (.pointer (some ⟨w.heap.size,0,none⟩))).tmps[t]?=b.tmps[t]?:=by
       intro t ht;have:d≠t:=fun e=>ht (by rw[be,e])
       simp[Act.put,Array.getElem?_setIfInBounds_ne this]
      have dk:∀i∈H,(listed.setIfInBounds j true).getD i false=false→Fh P ops i s:=fun i hi Y=>dv i hi (aq i Y).1
      refine ih done (c::rest) (listed.setIfInBounds j true) _ _ _ s _ _ ab (by simpa using ai) bd af (fun x U=>by rw[eL,bh x U];rfl) ?_ (au _ _ (FL Z (some d) _)) r2 (E.trans (zA r.hp dp).1) (cy _ _ s _ _ aj r2 dk) (fun _=>⟨db,dk⟩) (.inr ⟨av,by rw[eL];simp,fun h=>bo (Option.some.inj h),w.heap.size,o,ty,ti,z,rfl,O,al,be,hi,hz,?_,?_,E.size,fun x U=>Nat.lt_irrefl _ (r.hp.lt _ _ U)⟩) U
      ·intro x U an;rw[eL,ae x U an];simp[an]
      ·have co:d<b.tmps.size:=by rw[r.siz];exact c7
       simp[Act.put,co]
      ·show(w.heap.push _)[w.heap.size]?=_;simp
   ·
    have bx:∃rest,ch=j::rest:=by
     cases ch with
    |nil=>cases av
    |cons c rest =>
      by_cases bo:j=c
      ·exact⟨rest,by rw[bo]⟩
      exfalso;have cf:j∈rest:=(List.mem_cons.1 av).resolve_left bo;obtain⟨r1,r2,bb⟩:=List.append_of_mem cf
      have ds:∀x,x∈c::rest→x≠q→(ops[j]?).any (waits · x)=true→False:=by
       intro x U an hw;rw[O] at hw;obtain⟨e,he,hb,bk⟩:=F8 (o:=o) (i:=x) hw;have h2:=aa e he hb;rw[bk,ae x U an] at h2;cases h2
      by_cases ak:∀x∈c::r1,x=q
      ·
       have ad:c=q:=ak c List.mem_cons_self
       have em:r1=[]:=by
        cases r1 with
       |nil=>rfl
       |cons y r1 =>
         exfalso;have hy:=ak y zq;have h3:=ax;rw[ab,bb] at h3;have h4:=(List.nodup_append.1 h3).2.1;rw[ad,hy] at h4;simp at h4
       subst em;rcases hM with⟨G,_⟩|⟨_,_,h3,_⟩
       ·have h4:=G (by rw[ad];exact List.mem_cons_self);have h5:(ops[j]?).any (waits · q)=true:=Ab done j r2 (by rw[ab,bb,ad] at b3;exact b3);rw[O] at h5;obtain⟨e,he,hb,bk⟩:=F8 (o:=o) (i:=q) h5;have h6:=aa e he hb;rw[bk,h4] at h6;cases h6
       ·exact h3 (by rw[ad];rfl)
      ·simp only[Classical.not_forall] at ak;obtain⟨x0,du,dn⟩:=ak
       have ea:(c::r1).filter (· != q)≠[]:=by
        intro e;have:x0∈(c::r1).filter (· != q):=List.mem_filter.2 ⟨du,by simpa using dn⟩;rw[e] at this;cases this
       obtain⟨p,x,dc⟩:∃p x,(c::r1).filter (· != q)=p++[x]:=⟨_,_,(List.dropLast_concat_getLast ea).symm⟩;have dy:x∈(c::r1).filter (· != q):=by rw[dc];simp
       obtain⟨et,cz⟩:=List.mem_filter.1 dy
       have ei:Cs.filter (· != q)=(done.filter (· != q)++p)++x::j::r2.filter (· != q):=by
        rw[ab,List.filter_append,bb,show c::(r1++j::r2)=(c::r1)++j::r2 from rfl,List.filter_append,dc];have:(j::r2).filter (· != q)=j::r2.filter (· != q):=by simp[bc]
        rw[this];simp
       have ca:=br;rw[ei] at ca;have G:=CG _ _ _ _ ca;exact ds x (by rw[bb,show c::(r1++j::r2)=(c::r1)++j::r2 from rfl];exact List.mem_append_left _ et) (by simpa using cz) G
    obtain⟨rest,rfl⟩:=bx;simp only[jV,O,if_neg bc] at U;unfold wpOp;simp only[O,a6,if_true];refine .inl ?_;have hw:=Br U r;have cg:=Go.Abs.Oper.wp_mono2 (K':=fun a' w'=>∃φ' s',(XK P ops (Gz ops H j) s'∧(q∈rest→look s'.T d=none)∧jV P N ops Qh H q d rest s')∧ZG φ' M1 N D (look s'.T) (look s'.H) a' w'∧Zl φ (look s.H) w φ' (look s'.H) w') (Q':=Post N D Qh φ0 M0 h0 w0) hw (fun _ _ h=>h) (fun e a' w' p=>nX da (p.trans E));refine Oper.wp_mono ?_ (Oj (ops:=ops) Z bn bl bj (cc _ _ _ Z (dt _ _)) b7 cg);rintro a' w' ⟨b',ao,aj,φ',s',⟨bg,eh,bf⟩,r',E'⟩;have cq:=cy b' w' s' φ' M1 aj r' (a7 s' bg)
    have cf:j∉rest:=by
     rw[ab] at ax;exact(List.nodup_cons.1 (List.nodup_append.1 ax).2.1).1
    have a8:∀c∈done++[j],(listed.setIfInBounds j true).getD c false=true:=fun x U=>by
     rw[eL];rcases List.mem_append.1 U with G|G
     ·rw[bh x G];rfl
     ·rw[List.mem_singleton] at G;simp[G]
    have bq:∀c∈rest,c≠q→(listed.setIfInBounds j true).getD c false=false:=by
     intro x U an;rw[eL,ae x (List.mem_cons_of_mem _ U) an];have:x≠j:=fun e=>cf (e▸U)
     simp[this]
    have c6:q∈rest→look s'.T d=none∧∀i∈H,(listed.setIfInBounds j true).getD i false=false→Fh P ops i s':=fun h=>⟨eh h,a7 s' bg⟩
    rcases hM with⟨G,rfl⟩|⟨G,h2,h3,k,oq,ty,ti,z,rfl,dm,al,be,hi,hz,el,c9,dq,dj⟩
    ·refine ih (done++[j]) rest (listed.setIfInBounds j true) a' b' w' s' φ' M1 (by rw[ab];simp) (by simpa using ai) bd af a8 bq (au _ _ ao) r' (E.trans E') cq c6 (.inl ⟨fun h=>?_,rfl⟩) bf;rw[eL,G (List.mem_cons_of_mem _ h)];simp[Ne.symm bc]
    ·have er:q∈rest:=(List.mem_cons.1 G).resolve_left (Ne.symm bc)
     have dw:o.dst≠some d:=by
      have:=Gp.1 cm j az;simp only[O,Bool.or_eq_true,beq_iff_eq,bne_iff_ne] at this;exact this.resolve_left bc
     have b4:b'.tmps[d]?=some (.pointer (some ⟨k,0,none⟩)):=by rw[aj d dw];exact el
     have b6:w'.heap[k]?=some (.cells z.cells ty (0,0)):=by
      rw[E'.same k (RQ.1 c9).1 (fun c hc e=>r.hp.fr c hc 0 (.inr e))];exact c9
     have dl:(listed.setIfInBounds j true).getD q false=true:=by rw[eL,h2];rfl
     by_cases cj:rest.head?=some q
     ·cases rest with
     |nil=>cases cj
     |cons c rest =>
       obtain rfl:c=q:=Option.some.inj cj;simp only[jV,dm,if_true] at bf;obtain⟨u,c3,hu,Y,cz⟩:=bf;obtain⟨r2,E2⟩:=uj r' (E.trans E') dq dj al be hi hz c7 b4 b6 hu
       have bm:c∉rest:=by
        rw[ab] at ax;exact(List.nodup_cons.1 (List.nodup_cons.1 (List.nodup_append.1 ax).2.1).2).1
       refine ih (done++[j,c]) rest (listed.setIfInBounds j true) a' b' w' _ _ M0 (by rw[ab];simp) (by simpa using ai) bd af (fun x U=>?_) (fun x U=>bq x (List.mem_cons_of_mem _ U)) (au _ _ ao) r2 E2 cq (fun h=>absurd h bm) (.inl ⟨fun h=>absurd h bm,rfl⟩) cz;rcases List.mem_append.1 U with h4|h4
       ·exact a8 x (List.mem_append_left _ h4)
       ·simp only[List.mem_cons,List.not_mem_nil,or_false] at h4;rcases h4 with h4|h4
        ·exact a8 x (by simp[h4])
        ·rw[h4];exact dl
     ·exact ih (done++[j]) rest (listed.setIfInBounds j true) a' b' w' s' φ' _ (by rw[ab];simp) (by simpa using ai) bd af a8 bq (au _ _ ao) r' (E.trans E') cq c6 (.inr ⟨er,dl,cj,k,oq,ty,ti,z,rfl,dm,al,be,hi,hz,b4,b6,dq,dj⟩) bf
theorem aT{R:Type}{r0:R}{Q:R→AX→St→Prop}(H:List Nat)(q d:Nat)(Cs:List Nat)(hm:P.follows .mixedOrders=true)(ac:Gj ops=true)(hok:Pm P N H q d Cs ops=true)(h1:TL P N ops H s=some s1)(hl:XK P ops H s1)(hT:look s1.T d=none)(h:jV P N ops (qh ops Q r0) H q d Cs s1):Ex P N ro (.region id ops true) s (Q r0):=by
 intro φ M0 D a w r;refine wpIn_region_any hm (MO ac Ju _ _ _ _ ?_);have hd:Zl φ (look s.H) w φ (look s.H) { w with drawn:=w.drawn+1 }:=RV rfl rfl rfl rfl;have r1:ZG φ M0 N D (look s.T) (look s.H) a { w with drawn:=w.drawn+1 }:=r.keep hd (FE rfl) (Be (w:=w) rfl hd r.hp);have J:=hok;simp only[Pm,KL,Ii] at J;obtain⟨⟨⟨⟨⟨⟨⟨⟨⟨⟨⟨⟨⟨⟨ai,ad⟩,U⟩,Z⟩,an⟩,ak⟩,aa⟩,ao⟩,ab⟩,ah⟩,ar⟩,al⟩,aq⟩,af⟩,aj⟩:=J;obtain⟨b,rb,hH,O,hJ⟩:=Ic ad H s s1 a _ U h1 r1
 have G:∀(j:Nat),(Array.replicate ops.size false).getD j false=false:=by
  intro j;rcases Nat.lt_or_ge j ops.size with h|h
  ·simp[h]
  ·simp[h]
 have Y:∀n,AZ (Array.replicate ops.size false) n≤n:=by
  intro n
  induction n with
 |zero=>simp[AZ]
 |succ n ih=>simp only[AZ];split<;>omega
 have h2:=rM (D:=D) (φ0:=φ) (h0:=look s.H) (w0:=w) (M0:=M0) hok (Q:=Q r0) (Qh:=qh ops Q r0) (fun _ h=>h) (fun _ _ h=>h) ops.size [] Cs (Array.replicate ops.size false) a b { w with drawn:=w.drawn+1 } s1 φ M0 rfl zq (Y _) (fun j o _ hj=>by rw[G] at hj;cases hj) (fun c hc=>by cases hc) (fun c _ _=>G c)
  ⟨O.1,O.2.1,fun t ht=>O.2.2 t (fun hc=>ht (by obtain⟨i,hi,ae⟩:=hc;exact⟨i,hi,G i,ae⟩))⟩ rb (by rw[hH];exact hd) (fun i hi _=>hJ i hi) (fun _=>⟨hT,fun i hi _=>hl i hi⟩) (.inl ⟨fun _=>G q,rfl⟩) h
 refine UC ?_ _ _ _ _ h2;exact fun e a' w' h=>h
structure ja{R:Type}(a:Option R)(P:Program)(N:Nat)(ops:Array Oper)(Q:R→AX→St→Prop)(H:List Nat)(q d:Nat)(Ch:List Nat)(s:St):Prop where
 intro ::
 h:∀r,a=some r→jV P N ops (qh ops Q r) H q d Ch s
def fKf{R:Type}(P:Program)(N:Nat)(ops:Array Oper)(Q:R→AX→St→Prop)(H:List Nat)(q d:Nat)(Ch:List Nat)(c:Nat):R→St→Prop:=fun r s=>XK P ops (Gz ops H c) s∧(q∈Ch→look s.T d=none)∧jV P N ops (qh ops Q r) H q d Ch s
theorem jb{Ch:List Nat}{q:Nat}(h:(!Ch.contains q||(look s.T d).isNone)=true):q∈Ch→look s.T d=none:=by
 intro G;cases e:look s.T d with
|none=>rfl
|some x=>simp[G,e] at h
section
variable {R V E:Type}{a a1 a2:Option R}{P:Program}{N:Nat}{ro:Option Nat}{id:Nat}{ops:Array Oper}{o:Oper}{s s1 s':St}{Q:R→AX→St→Prop}{f:FuncId}{args args':List AV}{dst:Option Tmp}{H Ch:List Nat}{c i q d:Nat}
theorem Oy(H:List Nat)(q d:Nat)(Ch:List Nat)(Z:P.follows .mixedOrders=true)(U:Gj ops=true)(hok:Pm P N H q d Ch ops=true)(Y:(TL P N ops H s).isSome=true)(J:XK P ops H ((TL P N ops H s).getD s))(G:(look ((TL P N ops H s).getD s).T d).isNone=true)(h:ja a P N ops Q H q d Ch ((TL P N ops H s).getD s)):QU a P N ro (.region id ops true) s Q:=by
 obtain⟨s1,e⟩:=RU.1 Y;rw[e] at h J G;simp only[Option.getD_some] at h J G;exact⟨fun r O=>aT H q d Ch Z U hok e J (by cases e:look s1.T d with|none=>rfl|some x=>rw[e] at G;cases G) (h.h r O)⟩
theorem rO(h:ZL a Q .normal s):ja a P N ops Q H q d [] s:=⟨fun r G=>h.h r G⟩
theorem kf(G:List Nat)(Y:Gz ops H c=G)(U:XK P ops G s)(J:(!Ch.contains q||(look s.T d).isNone)=true)(h:ja a P N ops Q H q d Ch s):R8 a (fKf P N ops Q H q d Ch c) s :=
 ⟨fun r O=>⟨Y▸U,jb J,h.h r O⟩⟩
theorem f_q(U:List Nat)(Z:Gz ops H q=U)(h0:(Td P N ops q s).isSome=true)(O:XK P ops U ((Td P N ops q s).getD s))(h:ja a P N ops Q H q d Ch ((Td P N ops q s).getD s)):ja a P N ops Q H q d (q::Ch) s:=by
 obtain⟨s',G⟩:=RU.1 h0;rw[G] at O h;simp only[Option.getD_some] at O h;unfold Td at G;refine⟨fun r Y=>?_⟩;simp only[jV];cases ho:ops[q]? with
|none=>rw[ho] at G;cases G
|some o =>
  simp only[ho,Zy,if_true] at G ⊢;split at G
  ·cases G
  ·cases G
  ·cases G
  ·split at G;rotate_left
   ·cases G
   rename_i J;obtain⟨u,hu,rfl⟩:=LC.1 G;exact⟨u,J,hu,Z▸O,h.h r Y⟩
theorem aU(L':List Nat)(O:Nat.beq c q=false)(hL:Gz ops H c=L')(h0:(Td P N ops c s).isSome=true)(U:XK P ops L' ((Td P N ops c s).getD s))(Z:(!Ch.contains q||(look ((Td P N ops c s).getD s).T d).isNone)=true)(h:ja a P N ops Q H q d Ch ((Td P N ops c s).getD s)):ja a P N ops Q H q d (c::Ch) s:=by
 obtain⟨s',G⟩:=RU.1 h0;rw[G] at U h Z;simp only[Option.getD_some] at U h Z;unfold Td at G;refine⟨fun r hr=>?_⟩;have hne:¬c=q:=fun e=>by subst e;simp at O
 simp only[jV];cases ho:ops[c]? with
|none=>rw[ho] at G;cases G
|some o =>
  simp only[ho,Zy,if_neg hne] at G ⊢;unfold U7;split at G
  ·cases G
  ·cases G
  ·cases G
  ·rename_i n1 n2 n3;split at G;rotate_left
   ·cases G
   rename_i Y;obtain⟨u,hu,rfl⟩:=LC.1 G
   have key:IR N o s (fun s'=>XK P ops (Gz ops H c) s'∧(q∈Ch→look s'.T d=none)∧jV P N ops (qh ops Q r) H q d Ch s') (V6 P o (look s.T) (look s.H)):=by
    rw[hu];exact⟨Y,hL▸U,jb Z,h.h r hr⟩
   split
   ·rename_i J;exact absurd J (n1 _ _ _)
   ·rename_i J;exact absurd J (n2 _)
   ·rename_i J;exact absurd J (n3 _ _ _)
   ·exact .inl key
theorem Pn(hf:(ops[c]?).bind (fun o=>(KC (look s.T) o.op).map fun p=>(p.1,p.2,o.dst))=some (f,args,dst))(hb:We P f=true)(G:Nat.beq c q=false)(h:BM a P N f args dst s (fKf P N ops Q H q d Ch c) (qh ops Q)):ja a P N ops Q H q d (c::Ch) s:=by
 refine⟨fun r U=>?_⟩;have hne:¬c=q:=fun e=>by subst e;simp at G
 simp only[jV];cases ho:ops[c]? with
|none=>rw[ho] at hf;cases hf
|some o =>
  simp only[ho,Zy,if_neg hne] at hf ⊢;obtain⟨⟨f0,J⟩,Y,O⟩:=LC.1 hf;simp only[DC] at O;obtain⟨rfl,rfl,rfl⟩:=O;exact Hw Y hb (h.h r U)
end
def pg(k:Nat)(x:AV):Blk→Blk|.box ty cs=>.box ty (cs.set k x)|q=>q
def GD(b k:Nat)(x:AV)(s:St):St:=⟨s.T,s.H.map fun p=>if p.1=b then(p.1,pg k x p.2) else p⟩
theorem BF{b k:Nat}{x:AV}:∀(H:List (Nat×Blk)) (c:Nat),look (H.map fun p=>if p.1=b then(p.1,pg k x p.2) else p) c=if b=c then(look H c).map (pg k x) else look H c
|[],c=>by simp[look]
|(d,q)::H,c=>by
  rw[U8];by_cases J:d=b
  ·subst J;simp only[if_true,look];by_cases G:d=c
   ·simp[G]
   ·simp only[G,if_false];rw[BF H c];simp[G]
  ·simp only[J,if_false,look];by_cases G:d=c
   ·subst G;simp[Ne.symm J]
   ·simp only[G,if_false];exact BF H c
theorem Oz{k:Nat}{x:AV}{ty:Nat}{cs:List AV}(hb:look s.H b=some (.box ty cs)):look (GD b k x s).H=upd (look s.H) b (.box ty (cs.set k x)):=by
 funext c;show look (s.H.map _) c=_;rw[BF];by_cases e:b=c
 ·subst e;simp[upd,hb,pg]
 ·simp[upd,e]
theorem FM{φ:Nat→Nat}{h:QY}{w:World}{M:ZQ}:∀{cs:List AV} {l:List Value} {k:Nat} {x:AV},Ql φ h w M cs l→cs[k]?=some x→∃u,l[k]?=some u∧Qg φ h w M x u
|[],l,k,x,_,h=>by simp at h
|c::cs,l,k,x,G,h=>by
  simp only[Ql] at G;obtain⟨y,ys,rfl,J,O⟩:=G;cases k with
 |zero=>simp at h;subst h;exact⟨y,rfl,J⟩
 |succ k=>simp at h;simpa using FM O h
theorem HY{φ:Nat→Nat}{h:QY}{w:World}{M:ZQ}:∀{cs:List AV} {l:List Value} {k:Nat} {x:AV} {u:Value},Ql φ h w M cs l→l[k]?=some u→Qg φ h w M x u→Ql φ h w M (cs.set k x) l
|[],l,k,x,u,J,G,O=>by simpa using J
|c::cs,l,k,x,u,J,G,O=>by
  simp only[Ql] at J;obtain⟨y,ys,rfl,Y,U⟩:=J;cases k with
 |zero=>simp at G;subst G;exact⟨_,ys,rfl,O,U⟩
 |succ k=>simp at G;exact⟨y,ys,rfl,Y,HY U G O⟩
section
variable {φ φ0:Nat→Nat}{h h0:QY}{w w0:World}{M0:ZQ}{b ty:Nat}{cs cs':List AV}
theorem CK(hb:h b=some (.box ty cs)):VQ φ h w φ (upd h b (.box ty cs')) w:=by
 refine⟨fun c t q hc=>⟨?_,rfl⟩,fun t J S n hc=>⟨n,?_,Yf _,fun _=>VN rfl rfl⟩,fun t J S n hc=>⟨n,?_,Yf _,fun _=>⟨rfl,fun c hc=>⟨c,hc,rfl⟩⟩⟩,fun c k x hc G=>⟨⟨k,?_,G⟩,rfl⟩⟩
 ·by_cases e:b=c
  ·subst e;exact⟨ty,cs',by simp[upd]⟩
  ·exact⟨t,q,by simp[upd,e,hc]⟩
 ·have:¬b=t:=fun e=>by subst e;rw[hb] at hc;cases hc
  simp[upd,this,hc]
 ·have:¬b=t:=fun e=>by subst e;rw[hb] at hc;cases hc
  simp[upd,this,hc]
 ·have:¬b=c:=fun e=>by subst e;rw[hb] at hc;cases hc;cases G
  simp[upd,this,hc]
theorem Po(hb:h b=some (.box ty cs)):∀r o,DD φ (upd h b (.box ty cs')) r o→DD φ h r o:=by
 rintro r o ⟨c,k,J,G,O⟩;by_cases e:b=c
 ·subst e;exact⟨b,_,hb,G,trivial⟩
 ·simp only[upd,e,if_false] at J;exact⟨c,k,J,G,O⟩
theorem Pq(hb:h b=some (.box ty cs)):Zl φ h w φ (upd h b (.box ty cs')) w:=by
 have X:=CK (φ:=φ) (w:=w) (cs':=cs') hb;refine⟨rfl,rfl,rfl,Yf _,fun _ _ _=>rfl,fun _ _ _ _=>rfl,fun r o _ O=>Po hb r o O,fun c t q _ hc=>?_,fun t G S n _ hc=>X.t t G S n hc,fun t G S n _ hc=>X.v t G S n hc,fun c k x _ hc J=>X.o c k x hc J⟩;by_cases e:b=c
 ·subst e;rw[hb] at hc;cases hc;exact⟨⟨cs',by simp[upd]⟩,rfl⟩
 ·exact⟨⟨q,by simp[upd,e,hc]⟩,rfl⟩
theorem rP(hb:h b=some (.box ty cs))(r:Z9 φ h w M0)(hc:∀c:Array Value,w.heap[φ b]?=some (.cells c ty (0,0))→Ql φ h w (MM φ h M0) cs' c.toList):Z9 φ (upd h b (.box ty cs')) w M0:=by
 have Y:∀x o v,w.cell? ⟨x,o,none⟩=some v→¬MM φ h M0 x o→w.cell? ⟨x,o,none⟩=some v∧¬MM φ (upd h b (.box ty cs')) M0 x o:=fun x o v O Z=>⟨O,fun U=>Z (U.imp (Po hb x o) id)⟩
 have X:=CK (φ:=φ) (w:=w) (cs':=cs') hb
 have G:∀c,upd h b (.box ty cs') c≠none→h c≠none:=fun c hc=>by
  by_cases e:b=c
  ·subst e;rw[hb];simp
  ·simpa [upd,e] using hc
 refine⟨fun c d hc hd=>r.inj c d (G c hc) (G d hd),fun c k J=>?_,fun c hc=>r.fr c (G c hc),r.lt,r.gm.sub fun x o U=>U.imp (Po hb x o) id⟩;by_cases e:b=c
 ·subst e;simp only[upd,if_true,Zf] at J;subst J;obtain⟨q,O,Z⟩:=r.blk b _ hb;exact⟨q,O,(QZ Y X).2 _ _ (hc q O)⟩
 ·simp only[upd,e,if_false] at J;exact Ku Y X rfl (r.blk c k J)
end
theorem yo{ty:Nat}{cs cs':List AV}(r:ZG φ M0 N D T h a w)(hb:h b=some (.box ty cs))(hc:∀c:Array Value,w.heap[φ b]?=some (.cells c ty (0,0))→Ql φ h w (MM φ h M0) cs' c.toList) :
  ZG φ M0 N D T (upd h b (.box ty cs')) a w:=by
 have J:∀x o v,w.cell? ⟨x,o,none⟩=some v→¬MM φ h M0 x o→w.cell? ⟨x,o,none⟩=some v∧¬MM φ (upd h b (.box ty cs')) M0 x o:=fun x o v Y O=>⟨Y,fun U=>O (U.imp (Po hb x o) id)⟩
 exact⟨r.dfs.keep (Pq hb),r.siz,rP hb r.hp hc,fun t x G=>⟨(r.tm t x G).1,(QZ J (CK hb)).1 _ _ (r.tm t x G).2⟩⟩
theorem MZ{α:Type}{f:Nat→Bool}:∀{H:List (Nat×α)} {c:Nat},f c=true→look (H.filter fun p=>f p.1) c=look H c
|[],c,_=>rfl
|(d,q)::H,c,hf=>by
  by_cases e:d=c
  ·subst e;rw[List.filter_cons_of_pos (by simpa using hf)];simp[look]
  ·by_cases G:f d=true
   ·rw[List.filter_cons_of_pos (by simpa using G)];simp only[look,e,if_false];exact MZ hf
   ·rw[List.filter_cons_of_neg (by simpa using G)];simp only[look,e,if_false];exact MZ hf
def OA(t:Nat)(s G:St):Bool:=okT (look G.H) G.T&&bH (look G.H) G.H&&YR (look G.H) (s.H.filter fun p=>p.1 != t)&&(look G.H t).isNone
def Mq(φ:Nat→Nat)(w:World)(t S n:Nat)(M0:ZQ):ZQ:=fun r o=>M0 r o∨(r=φ t∧n*S≤o∧r<w.heap.size)
theorem jc{t ty S:Nat}{K:Ro}(r:ZG φ M0 N D (look s.T) (look s.H) a w)(aa:look s.H t=some (.arr ty S n))(hok:OA t s (shr K s)=true) :
  ZG φ (Mq φ w t S n M0) N D (look (shr K s).T) (look (shr K s).H) a w∧(∀x v,Kv (look (shr K s).H) x=true→Qg φ (look s.H) w (MM φ (look s.H) M0) x v→Qg φ (look (shr K s).H) w (MM φ (look (shr K s).H) (Mq φ w t S n M0)) x v)∧(∀b k',look (shr K s).H b=some k'→∃k,look s.H b=some k∧leB k k') ∧
  (∀r o,MM φ (look (shr K s).H) (Mq φ w t S n M0) r o→MM φ (look s.H) M0 r o):=by
 simp only[OA,KL] at hok;obtain⟨⟨⟨ai,ak⟩,hK⟩,ad⟩:=hok;have hT:I7 (look s.T) (look (shr K s).H) (shr K s).T:=R6 ai;have hH:BL (look s.H) (look (shr K s).H) (shr K s).H:=Jb ak;generalize shr K s=s' at *;have aj:look s'.H t=none:=by cases e:look s'.H t with|none=>rfl|some x=>rw[e] at ad;cases ad
 have hh:∀b k',look s'.H b=some k'→∃k,look s.H b=some k∧leB k k':=fun b k' hb=>(Xx hH b k' hb).1
 have ae:∀r o,DD φ (look s'.H) r o→DD φ (look s.H) r o:=by
  rintro x o ⟨b,k',U,G,O⟩;obtain⟨k,Y,h5⟩:=hh b k' U;refine⟨b,k,Y,G,?_⟩;cases k with
 |arr ty S n=>simp only[leB] at h5;subst h5;exact O
 |_=>trivial
 have hM:∀r o,MM φ (look s'.H) (Mq φ w t S n M0) r o→MM φ (look s.H) M0 r o:=by
  rintro x o (h|h|⟨rfl,h,_⟩)
  ·exact .inl (ae x o h)
  ·exact .inr h
  ·exact .inl ⟨t,_,aa,rfl,h⟩
 have J:∀b,look s'.H b≠none→look s.H b≠none:=fun b hb=>by
  cases hq:look s'.H b with
 |none=>exact absurd hq hb
 |some k'=>obtain⟨k,U,_⟩:=hh b k' hq;rw[U];simp
 obtain⟨c1,c2⟩:=N7 (φ:=φ) (w:=w) hM hh
 have ab:∀b,look s'.H b≠none→φ b≠φ t:=by
  intro b hb e;have:=r.hp.inj b t (J b hb) (by rw[aa];simp) e;rw[this,aj] at hb;exact hb rfl
 have ah:Z9 φ (look s'.H) w (Mq φ w t S n M0):=by
  refine⟨fun b c hb hc=>r.hp.inj b c (J b hb) (J c hc),fun b k' hb=>?_,fun b hb o hm=>?_,fun x o Z=>?_,r.hp.gm.sub hM⟩
  ·obtain⟨⟨k,U,G⟩,O⟩:=Xx hH b k' hb;have Y:=r.hp.blk b k U;cases k with
  |box ty cs =>
    simp only[leB] at G;obtain⟨cs',rfl,h5⟩:=G;obtain⟨c,h6,h7⟩:=Y;exact⟨c,h6,c2 _ _ O (XM.2 _ _ _ h5 h7)⟩
  |arr ty S n=>simp only[leB] at G;subst G;exact Y
  |vec ty S es =>
    simp only[leB] at G;subst G;obtain⟨c,cap,g1,g2,g3,g4,g5,g6,g7⟩:=Y;exact⟨c,cap,g1,g2,g3,g4,g5,g6,c2 _ _ (NZ _ _) g7⟩
  |lp T nf st pd =>
    simp only[leB] at G;subst G;obtain⟨tmps,d,g1,g2,g3⟩:=Y;exact⟨tmps,d,g1,g2,fun t x ht=>⟨(g3 t x ht).1,c1 _ _ (Gy O ht) (g3 t x ht).2⟩⟩
  |mp es =>
    simp only[leB] at G;subst G;obtain⟨en,cl,g1,g2,g3⟩:=Y;exact⟨en,cl,g1,g2,c2 _ _ (R3 _ _) g3⟩
  |mf es =>
    simp only[leB] at G;subst G;obtain⟨en,cl,g1,g2,g3,g5⟩:=Y;exact⟨en,cl,g1,g2,c2 _ _ (JS O) g3,g5⟩
  |mg en cl es =>
    simp only[leB] at G;subst G;obtain⟨g1,g2,g3,g5⟩:=Y;exact⟨g1,g2,c2 _ _ (JS O) g3,g5⟩
  |it m cl sn =>
    simp only[leB] at G;subst G;obtain⟨g1,k0,g2,g3⟩:=Y;obtain⟨km,af⟩:=RU.1 O;obtain⟨k1,g5,g6⟩:=hh m km af;rw[g2] at g5;cases g5;exact⟨g1,km,af,UL g6 g3⟩
  ·rcases hm with hm|⟨hm,_⟩
   ·exact r.hp.fr b (J b hb) o hm
   ·exact ab b hb hm
  ·rcases Z with Z|⟨rfl,_,Z⟩
   ·exact r.hp.lt x o Z
   ·exact Z
 have ac:Marks φ D (look s'.H) a w:=by
  obtain⟨h0,ms,U,G,O⟩:=r.dfs;exact⟨h0,ms,U,G,fun x Z=>⟨(O x Z).1,(O x Z).2.1,fun b hb=>(O x Z).2.2 b (J b hb)⟩⟩
 refine⟨⟨ac,r.siz,ah,fun t x ht=>?_⟩,c1,hh,hM⟩;obtain⟨y,U,G,O⟩:=Bv hT t x ht;exact⟨(r.tm t y U).1,c1 _ _ O (XM.1 _ _ _ G (r.tm t y U).2)⟩
def qK(b k t:Nat)(x:AV)(q:Blk)(s:St):St:=⟨s.T,(t,q)::s.H.map fun p=>if p.1=b then(p.1,pg k x p.2) else p⟩
def cellAt(b k:Nat)(s:St):Option AV:=(look s.H b).bind fun q=>match q with|.box _ cs=>cs[k]?|_=>none
def Qa1(b k t:Nat)(x:AV)(q:Blk)(u:Value)(K:St→Prop):St→Prop:=fun s'=>cellAt b k s'=some (.p (.val u))∧look s'.H t=none∧K (qK b k t x q s')
theorem LZ{k:Nat}{x:AV}(h:cellAt b k s=some x):∃ty cs,look s.H b=some (.box ty cs)∧cs[k]?=some x:=by
 obtain⟨y,J,G⟩:=Nw.1 h;split at G
 ·exact⟨_,_,J,G⟩
 ·cases G
theorem jd{a':Act}{k t ty S:Nat}{es:List (List PV)}{u:Value}{K:Ro}(r:ZG φ M0 N D (look s.T) (look s.H) a w)(ac:look s.H t=some (.arr ty S n))(hok:OA t s (shr K s)=true)(hn:es.length=n)(bb:¬b=t)(aq:Qg φ (look s.H) w (MM φ (look s.H) M0) (.tsl S es t) u)(hc:cellAt b k s'=some (.p (.val u)))(bc:look s'.H t=none)(r':ZG φ' (Mq φ w t S n M0) N D (look s'.T) (look s'.H) a' w')(E':Zl φ (look (shr K s).H) w φ' (look s'.H) w') :
  ∃ad,ZG ad M0 N D (look (qK b k t (.tsl S es t) (.arr ty S n) s').T) (look (qK b k t (.tsl S es t) (.arr ty S n) s').H) a' w'∧Zl φ (look s.H) w ad (look (qK b k t (.tsl S es t) (.arr ty S n) s').H) w' ∧
   ∀x v,Qg φ' (look s'.H) w' (MM φ' (look s'.H) (Mq φ w t S n M0)) x v→Qg ad (look (qK b k t (.tsl S es t) (.arr ty S n) s').H) w' (MM ad (look (qK b k t (.tsl S es t) (.arr ty S n) s').H) M0) x v:=by
 obtain⟨rd,_,hh,ba⟩:=jc r ac hok;simp only[OA,KL] at hok;obtain⟨⟨⟨bf,bg⟩,hK⟩,aw⟩:=hok;obtain⟨EX,cs,hb,a8⟩:=LZ hc
 have hH:look (qK b k t (.tsl S es t) (.arr ty S n) s').H=upd (upd (look s'.H) b (.box EX (cs.set k (.tsl S es t)))) t (.arr ty S n):=by
  funext c;simp only[qK,look];rw[BF];by_cases e:t=c
  ·simp[upd,e]
  ·by_cases Y:b=c
   ·subst Y;simp[upd,e,hb,pg]
   ·simp[upd,e,Y]
 rw[hH];show ∃ad,ZG ad M0 N D (look s'.T) _ a' w'∧_;obtain⟨tf,au⟩:∃tf,tf=if φ t<w.heap.size then φ t else w'.heap.size+((s'.H.map (·.1)).map φ').foldr max 0+1:=⟨_,rfl⟩
 have U:φ t<w.heap.size→tf=φ t:=fun h=>by rw[au,if_pos h]
 have af:¬φ t<w.heap.size→w'.heap.size≤tf:=fun h=>by rw[au,if_neg h];omega
 have a7:¬φ t<w.heap.size→n=0:=fun h=>by
  rcases r.hp.blk t _ ac with h0|⟨c,cap,Z,_⟩
  ·exact h0.1
  ·exact absurd (RQ.1 Z).1 h
 have az:∀c,look s'.H c≠none→φ' c≠tf:=by
  intro c hc e;by_cases hlt:φ t<w.heap.size
  ·rw[U hlt] at e;exact r'.hp.fr c hc (n*S) (.inr ⟨e,Yf _,by rw[e];exact hlt⟩)
  ·have:=Fx ((s'.H.map (·.1)).map φ') (φ' c) (List.mem_map_of_mem (Vz.1 hc));rw[au,if_neg hlt] at e;omega
 have ab:φ t<w.heap.size→w'.heap[φ t]?=w.heap[φ t]?:=fun hlt=>E'.same (φ t) hlt fun c hc e=>rd.hp.fr c hc (n*S) (.inr ⟨e,Yf _,by rw[e];exact hlt⟩)
 have a6:∀c,look (shr K s).H c≠none→look s.H c≠none:=fun c hb=>by
  cases hq:look (shr K s).H c with
 |none=>exact absurd hq hb
 |some k'=>obtain⟨k,Z,_⟩:=hh c k' hq;rw[Z];simp
 have ak:∀x o,DD φ (look (shr K s).H) x o→DD φ (look s.H) x o:=by
  rintro x o ⟨c,k',Z,h2,h3⟩;obtain⟨k,h4,h5⟩:=hh c k' Z;refine⟨c,k,h4,h2,?_⟩;cases k with
 |arr ty S n=>simp only[leB] at h5;subst h5;exact h3
 |_=>trivial
 let h0:QY:=upd (upd (look s'.H) b (.box EX (cs.set k (.tsl S es t)))) t (.arr ty S n)
 have al:h0 t=some (.arr ty S n):=by simp[h0,upd]
 have ar:h0 b=some (.box EX (cs.set k (.tsl S es t))):=by simp[h0,upd,Ne.symm bb]
 have aa:∀c,¬t=c→¬b=c→h0 c=look s'.H c:=fun c O Y=>by simp[h0,upd,O,Y]
 have G:∀c,¬t=c→QM φ' t tf c=φ' c:=fun c e=>by simp[QM,e]
 have J:QM φ' t tf t=tf:=by simp[QM]
 have ai:∀x o,DD (QM φ' t tf) h0 x o→DD φ' (look s'.H) x o∨(x=tf∧n*S≤o):=by
  rintro x o ⟨c,q,Z,h2,h3⟩;by_cases O:t=c
  ·subst O;rw[al] at Z;cases Z;rw[J] at h2;exact .inr ⟨h2.symm,h3⟩
  ·rw[G c O] at h2;by_cases Y:b=c
   ·subst Y;exact .inl ⟨b,_,hb,h2,trivial⟩
   ·rw[aa c O Y] at Z;exact .inl ⟨c,q,Z,h2,h3⟩
 have ax:∀x o,x<w'.heap.size→MM (QM φ' t tf) h0 M0 x o→MM φ' (look s'.H) (Mq φ w t S n M0) x o:=by
  rintro x o hx (h|h)
  ·rcases ai x o h with h|⟨Z,h2⟩
   ·exact .inl h
   ·by_cases hlt:φ t<w.heap.size
    ·rw[U hlt] at Z;exact .inr (.inr ⟨Z,h2,by rw[Z];exact hlt⟩)
    ·have:=af hlt;omega
  ·exact .inr (.inl h)
 have ae:∀c q,look s'.H c=some q→¬t=c:=fun c q hc e=>by subst e;rw[bc] at hc;cases hc
 have ah:∀c q,look s'.H c=some q→b=c→q=.box EX cs:=fun c q hc e=>by subst e;rw[hb] at hc;exact(Option.some.inj hc).symm
 have X:VQ φ' (look s'.H) w' (QM φ' t tf) h0 w':=by
  refine⟨fun c t' cs' hc=>⟨?_,G c (ae c _ hc)⟩,fun c t' S n hc=>?_,fun c t' S n hc=>?_,fun c k' x hc ho=>?_⟩
  ·by_cases e:b=c
   ·subst e;exact⟨_,_,ar⟩
   ·exact⟨t',cs',by rw[aa c (ae c _ hc) e];exact hc⟩
  ·have e:¬b=c:=fun e=>by cases ah c _ hc e
   exact⟨n,by rw[aa c (ae c _ hc) e];exact hc,Yf _,fun _=>VN (G c (ae c _ hc)) rfl⟩
  ·have e:¬b=c:=fun e=>by cases ah c _ hc e
   exact⟨n,by rw[aa c (ae c _ hc) e];exact hc,Yf _,fun _=>⟨G c (ae c _ hc),fun c be=>⟨c,be,rfl⟩⟩⟩
  ·have e:¬b=c:=fun e=>by rw[ah c _ hc e] at ho;cases ho
   exact⟨⟨k',by rw[aa c (ae c _ hc) e];exact hc,ho⟩,G c (ae c _ hc)⟩
 have aj:∀x o v,w'.cell? ⟨x,o,none⟩=some v→¬MM φ' (look s'.H) (Mq φ w t S n M0) x o→w'.cell? ⟨x,o,none⟩=some v∧¬MM (QM φ' t tf) h0 M0 x o:=fun x o v Z h2=>⟨Z,fun hm=>h2 (ax x o (NA Z) hm)⟩
 have av:Qg (QM φ' t tf) h0 w' (MM (QM φ' t tf) h0 M0) (.tsl S es t) u:=by
  simp only[Qg] at aq ⊢;obtain⟨p1,Wj,n2,p2,p3,p4⟩:=aq;rw[ac] at p2;cases p2;refine⟨(Yg (w:=w) (w':=w') (M:=MM φ (look s.H) M0) (fun x o v g1 g2=>?_)).1 _ _ p1,ty,n,al,by omega,fun _=>?_⟩;rotate_left
  ·rcases p4 hn with⟨z1,z2,z3⟩|⟨cap,c2,q1,q2,q3,q4,q5⟩
   ·have hlt:¬φ t<w.heap.size:=fun h=>by have:=Ij z3;omega
    exact .inl ⟨z1,z2,by rw[J];exact Kz (af hlt)⟩
   ·have hlt:φ t<w.heap.size:=(RQ.1 q2).1;exact .inr ⟨cap,c2,by rw[J,U hlt];exact q1,by rw[J,U hlt,ab hlt];exact q2,q3,q4,q5⟩
  obtain⟨g3,g4⟩:=E'.keeps (Mq φ w t S n M0) x o v g1 (fun hm=>g2 (ba x o hm));exact aj x o v g3 g4
 refine⟨QM φ' t tf,⟨?_,r'.siz,⟨?_,?_,?_,fun x o hx=>r'.hp.lt x o (.inl hx),r'.hp.gm.w,fun g hg o hm=>r'.hp.gm.m g hg o (ax g o (kw r'.hp.gm.w g hg) hm)⟩,fun c x ay=>⟨(r'.tm c x ay).1,(QZ aj X).1 _ _ (r'.tm c x ay).2⟩⟩,?_,(QZ aj X).1⟩
 ·obtain⟨g0,ms,g1,g2,g3⟩:=r'.dfs;refine⟨g0,ms,g1,g2,fun x hx=>?_⟩;obtain⟨g4,g5,g6⟩:=g3 x hx;refine⟨g4,g5,fun c hc e=>?_⟩;by_cases O:t=c
  ·subst O;rw[J] at e;by_cases hlt:φ t<w.heap.size
   ·rw[U hlt] at e;rcases r.hp.blk t _ ac with⟨_,q1⟩|⟨c2,cap,q1,_⟩
    ·rw[←e,ab hlt,q1] at g5;cases g5
    ·rw[←e,ab hlt,q1] at g5;cases g5
   ·have Z:=af hlt;have h2:=(RQ.1 g5).1;omega
  ·rw[G c O] at e;refine g6 c ?_ e;by_cases Y:b=c
   ·subst Y;rw[hb];simp
   ·rw[←aa c O Y];exact hc
 ·have an:∀c,h0 c≠none→¬t=c→look s'.H c≠none:=fun c hc O=>by
   by_cases Y:b=c
   ·subst Y;rw[hb];simp
   ·rw[←aa c O Y];exact hc
  intro c d hc hd e;by_cases O:t=c<;>by_cases Y:t=d
  ·exact O.symm.trans Y
  ·subst O;rw[J,G d Y] at e;exact absurd e.symm (az d (an d hd Y))
  ·subst Y;rw[J,G c O] at e;exact absurd e (az c (an c hc O))
  ·rw[G c O,G d Y] at e;exact r'.hp.inj c d (an c hc O) (an d hd Y) e
 ·intro c q hc;by_cases O:t=c
  ·subst O;have:q=.arr ty S n:=Option.some.inj (hc.symm.trans al);subst this;rw[J];by_cases hlt:φ t<w.heap.size
   ·rw[U hlt];rcases r.hp.blk t _ ac with⟨q0,q1⟩|⟨c2,cap,q1,q2⟩
    ·exact .inl ⟨q0,by rw[ab hlt];exact q1⟩
    ·exact .inr ⟨c2,cap,by rw[ab hlt];exact q1,q2⟩
   ·exact .inl ⟨a7 hlt,Kz (af hlt)⟩
  ·rw[G c O];by_cases Y:b=c
   ·subst Y;have:q=.box EX (cs.set k (.tsl S es t)):=Option.some.inj (hc.symm.trans ar);subst this;obtain⟨c1,g1,g2⟩:=r'.hp.blk b _ hb;obtain⟨u',g3,g4⟩:=FM g2 a8;simp only[Qg,Q6] at g4;subst g4;exact⟨c1,g1,HY ((QZ aj X).2 _ _ g2) g3 av⟩
   ·have hc':look s'.H c=some q:=by rw[←aa c O Y];exact hc
    exact Ku aj X rfl (r'.hp.blk c q hc')
 ·intro c hc o hm;by_cases O:t=c
  ·subst O;rw[J] at hm;by_cases hlt:φ t<w.heap.size
   ·rw[U hlt] at hm;exact r.hp.fr t (by rw[ac];simp) o hm
   ·have Z:=af hlt;have h2:=r'.hp.lt _ _ (.inl hm);omega
  ·rw[G c O] at hm;refine r'.hp.fr c ?_ o (.inl hm);by_cases Y:b=c
   ·subst Y;rw[hb];simp
   ·rw[←aa c O Y];exact hc
 ·have ao:∀c q,1000≤c→¬t=c→look s.H c=some q→∃q',look (shr K s).H c=some q'∧leB q q':=by
   intro c q hc O hq
   have hf:look (s.H.filter fun p=>p.1 != t) c=some q:=by
    rw[MZ (f:=fun x=>x != t) (by simpa using fun e=>O e.symm)];exact hq
   obtain⟨q',Z⟩:=Yq hK c _ hc hf;obtain⟨q2,h2,h3⟩:=hh c q' Z;rw[hq] at h2;cases h2;exact⟨q',Z,h3⟩
  refine⟨E'.os,E'.tape,E'.output,E'.size,fun x hx aw=>E'.same x hx (fun c hc=>aw c (a6 c hc)),fun x o hx hm=>E'.cell x o hx (fun h=>hm (ak x o h)),?_,?_,?_,?_,?_⟩
  ·intro x o hx hm;rcases ai x o hm with h|⟨Z,h⟩
   ·exact ak x o (E'.mu x o hx h)
   ·by_cases hlt:φ t<w.heap.size
    ·rw[U hlt] at Z;exact⟨t,_,ac,Z.symm,h⟩
    ·have:=af hlt;have:=E'.size;omega
  ·intro c t' q hc hq;have O:¬t=c:=fun e=>by subst e;rw[ac] at hq;cases hq
   obtain⟨q',Z,h2⟩:=ao c _ hc O hq;simp only[leB] at h2;obtain⟨cs',rfl,_⟩:=h2;obtain⟨⟨bd,h3⟩,h4⟩:=E'.kb c t' cs' hc Z;refine⟨?_,by rw[G c O];exact h4⟩;by_cases Y:b=c
   ·subst Y;rw[hb] at h3;cases h3;exact⟨_,ar⟩
   ·exact⟨bd,(aa c O Y).trans h3⟩
  ·intro c t' S' n' hc hq;by_cases O:t=c
   ·subst O;rw[ac] at hq;cases hq;refine⟨n,al,Yf _,fun _=>?_⟩;by_cases hlt:φ t<w.heap.size
    ·exact VN (J.trans (U hlt)) (ab hlt)
    ·exact MH (Kz zo) (by rw[J];exact Kz (af hlt))
   ·obtain⟨q',Z,h2⟩:=ao c _ hc O hq;simp only[leB] at h2;subst h2;obtain⟨n2,h3,h4,h5⟩:=E'.kt c t' S' n' hc Z;have Y:¬b=c:=fun e=>by cases ah c _ h3 e
    exact⟨n2,(aa c O Y).trans h3,h4,fun e=>by rw[G c O];exact h5 e⟩
  ·intro c t' S' es' hc hq;have O:¬t=c:=fun e=>by subst e;rw[ac] at hq;cases hq
   obtain⟨q',Z,h2⟩:=ao c _ hc O hq;simp only[leB] at h2;subst h2;obtain⟨n2,h3,h4,h5⟩:=E'.kv c t' S' es' hc Z;have Y:¬b=c:=fun e=>by cases ah c _ h3 e
   exact⟨n2,(aa c O Y).trans h3,h4,fun e=>⟨by rw[G c O];exact(h5 e).1,(h5 e).2⟩⟩
  ·intro c q x hc hq ho;have O:¬t=c:=fun e=>by subst e;rw[ac] at hq;cases hq;cases ho
   obtain⟨q',Z,h2⟩:=ao c _ hc O hq;obtain⟨⟨q2,h3,h4⟩,h5⟩:=E'.ko c q' x hc Z (UL h2 ho);have Y:¬b=c:=fun e=>by rw[ah c _ h3 e] at h4;cases h4
   exact⟨⟨q2,(aa c O Y).trans h3,h4⟩,by rw[G c O];exact h5⟩
section
variable {R:Type}{a:Option R}{P:Program}{N:Nat}{f:FuncId}{args:List AV}{dst:Option Tmp}{s:St}{K:R→St→Prop}{Q:R→AX→St→Prop}
def Qa2{R:Type}(b k t:Nat)(x:AV)(q:Blk)(u:Value)(K:R→St→Prop):R→St→Prop:=fun r=>Qa1 b k t x q u (K r)
def Qa3{R:Type}(b k t:Nat)(x:AV)(q:Blk)(u:Value)(Q:R→AX→St→Prop):R→AX→St→Prop:=fun r e=>Qa1 b k t x q u (Q r e)
theorem Pv(b k t ty S n:Nat)(es:List (List PV))(C:Ro)(hb:cellAt b k s=some (.tsl S es t))(aa:look s.H t=some (.arr ty S n))(hn:es.length=n)(hok:∀G O J,(OA t (GD b k (.p (.val (.slice G O J))) s) (shr C (GD b k (.p (.val (.slice G O J))) s))&&KR (look (shr C (GD b k (.p (.val (.slice G O J))) s)).H) args)=true)(h:∀G O J,BM a P N f args dst (shr C (GD b k (.p (.val (.slice G O J))) s)) (Qa2 b k t (.tsl S es t) (.arr ty S n) (.slice G O J) K) (Qa3 b k t (.tsl S es t) (.arr ty S n) (.slice G O J) Q)):BM a P N f args dst s K Q:=by
 refine⟨fun r hr=>?_⟩;intro φ M0 D J w vs r1 ha;obtain⟨vo,cs,hq,Tt⟩:=LZ hb;obtain⟨c,g1,g2⟩:=r1.hp.blk b _ hq;obtain⟨u,g3,g4⟩:=FM g2 Tt
 have ab:∃G O J,u=.slice G O J:=by
  have g5:=g4;simp only[Qg] at g5;obtain⟨p1,Wj,n2,p2,p3,p4⟩:=g5;rw[aa] at p2;cases p2;rcases p4 hn with⟨_,q1,_⟩|⟨cap,c2,q1,_⟩
  ·exact⟨_,_,_,q1⟩
  ·exact⟨_,_,_,q1⟩
 obtain⟨G,O,ai,ab⟩:=ab;have ae:¬b=t:=fun e=>by subst e;rw[hq] at aa;cases aa
 have hU:look (GD b k (.p (.val u)) s).H=upd (look s.H) b (.box vo (cs.set k (.p (.val u)))):=Oz hq;have hk:∀x o v,w.cell? ⟨x,o,none⟩=some v→¬MM φ (look s.H) M0 x o→w.cell? ⟨x,o,none⟩=some v∧¬MM φ (upd (look s.H) b (.box vo (cs.set k (.p (.val u))))) M0 x o:=fun x o v g1 g2=>⟨g1,fun hm=>g2 (hm.imp (Po hq x o) id)⟩
 have r2:ZG φ M0 N D (look (GD b k (.p (.val u)) s).T) (look (GD b k (.p (.val u)) s).H) J w:=by
  rw[hU];refine yo r1 hq fun c2 ah=>?_
  rw[g1] at ah;cases ah;exact HY g2 g3 (by simp[Qg,Q6])
 have af:look (GD b k (.p (.val u)) s).H t=some (.arr ty S n):=by rw[hU];simp[upd,ae,aa]
 have ad:Qg φ (look (GD b k (.p (.val u)) s).H) w (MM φ (look (GD b k (.p (.val u)) s).H) M0) (.tsl S es t) u:=by
  rw[hU];exact(QZ hk (CK hq)).1 _ _ g4
 have E1:Zl φ (look s.H) w φ (look (GD b k (.p (.val u)) s).H) w:=by rw[hU];exact Pq hq
 have ao:Ql φ (look (GD b k (.p (.val u)) s).H) w (MM φ (look (GD b k (.p (.val u)) s).H) M0) args vs:=by
  rw[hU];exact(QZ hk (CK hq)).2 _ _ ha
 have Y:=hok G O ai;rw[←ab] at Y;simp only[KL] at Y;obtain⟨U,aj⟩:=Y;obtain⟨r3,c1,hh,ak⟩:=jc r2 af U;have an:=(N7 (φ:=φ) (w:=w) ak hh).2 _ _ aj ao;have hu:=h G O ai;rw[←ab] at hu;refine Calls.mono (hu.h r hr φ _ D J w vs r3 an) fun e w' he=>?_
 cases e with
|returned v =>
  obtain⟨φ',s',⟨k1,k2,k3⟩,r',E'⟩:=he;obtain⟨Z,r4,E4,_⟩:=jd r2 af U hn ae ad k1 k2 r' E';exact⟨Z,_,k3,r4,E1.trans E4⟩
|panicked chain =>
  obtain⟨φ',x,s',⟨k1,k2,k3⟩,r',E',hx⟩:=he;obtain⟨Z,r4,E4,hX⟩:=jd r2 af U hn ae ad k1 k2 r' E';refine⟨Z,x,_,k3,r4,E1.trans E4,?_⟩;cases x with
 |panic v =>
   obtain⟨y,e1,e2⟩:=hx;exact⟨y,e1,hX _ _ e2⟩
 |_=>exact hx
|outgrown=>exact he
theorem OC{k t:Nat}{x:AV}{q:Blk}{u:Value}(s0:St)(e:qK b k t x q s'=s0)(hb:cellAt b k s'=some (.p (.val u)))(J:look s'.H t=none)(h:R8 a K s0):R8 a (Qa2 b k t x q u K) s':=by
 subst e;exact⟨fun r G=>⟨hb,J,h.h r G⟩⟩
theorem QbR{k t:Nat}{x:AV}{q:Blk}{u:Value}{ex:AX}(s0:St)(e:qK b k t x q s'=s0)(hb:cellAt b k s'=some (.p (.val u)))(J:look s'.H t=none)(h:ZL a Q ex s0):ZL a (Qa3 b k t x q u Q) ex s':=by
 subst e;exact⟨fun r G=>⟨hb,J,h.h r G⟩⟩
end
section
variable {P:Program}{o:Oper}{T:Nat→Option AV}{h:QY}
theorem je(l:List UInt8)(a b:Nat):(DF l).extract a b=DF ((l.take b).drop a):=by
 apply ByteArray.ext;simp[DF,ByteArray.data_extract,List.drop_take]
theorem rQ(l:List UInt8):(DF l).size=l.length:=by simp[DF,ByteArray.size]
theorem VK{P:Program}{s:Sem α}{a:α}(f:α→Sem β)(h:Vh P s=some a):Vh P (s >>= f)=Vh P (f a):=by
 induction s with
|pure b=>simp only[Vh,Zf] at h;subst h;rfl
|program k G=>exact G P h
|mark m k G=>exact G h
|_=>simp[Vh] at h
theorem Mv{t:TypeId}{d:TypeDesc}(h:P.underlying t=some d):Vh P (underlying t)=some d:=by
 unfold underlying;rw[VK (a:=P) _ rfl,h];rfl
theorem Px{k:IntKind}{i:Int}{y:Nat}{c:BoundsCode}(h0:0≤i)(G:i≤y):Vh P (Instr.sliceBound (.int k i) y c)=some i.toNat:=by
 simp[Instr.sliceBound,asIntOf,h0,G];rfl
def bI(T:Nat→Option AV)(x:Option Operand):Option Value:=x.map fun y=>(known T y).getD undef
theorem OD{d n:Int}(h:BN T d (some x)=some n):∃k,known T x=some (.int k n):=by
 simp only[BN] at h;split at h
 ·rename_i k m G;cases h;exact⟨k,by simp[known,G];rfl⟩
 ·cases h
theorem pq{a b:Int}(G:BN T 0 lo=some a)(J:BN T len hi=some b)(h0:0≤a)(Z:a≤b)(Y:b≤len):Vh P (Instr.sliceBounds false len len (bI T lo) (bI T hi) none)=some (a.toNat,b.toNat,len):=by
 have hb:(b.toNat:Int)=b:=by omega
 cases hi with
|none =>
  simp only[BN,Zf] at J;subst J;cases lo with
 |none =>
   simp only[BN,Zf] at G;subst G;simp[Instr.sliceBounds,bI];rfl
 |some x =>
   obtain⟨k,U⟩:=OD G;simp only[Instr.sliceBounds,bI,Option.map_some,Option.map_none,U,Option.getD_some,pure_bind];rw[VK _ (Px h0 Z)];rfl
|some y =>
  obtain⟨k',O⟩:=OD J;cases lo with
 |none =>
   simp only[BN,Zf] at G;subst G;simp only[Instr.sliceBounds,bI,Option.map_some,Option.map_none,O,Option.getD_some,pure_bind];rw[VK _ (Px zo Y)];rfl
 |some x =>
   obtain⟨k,U⟩:=OD G;simp only[Instr.sliceBounds,bI,Option.map_some,U,O,Option.getD_some,pure_bind];rw[VK _ (Px zo Y)];rw[VK _ (Px h0 zo)];rfl
theorem M3{t:TypeId}{l:List UInt8}{a b:Int}(Z:o.op=.slice t x lo hi none)(ht:P.underlying t=some .string)(hx:Zo T x=some (.p (.val (.string (DF l)))))(Y:BN T 0 lo=some a)(O:BN T l.length hi=some b)(hc:sliceB a b l.length=true):V6 P o T h=some (.p (.val (.string (DF ((l.take b.toNat).drop a.toNat)))),none,[]):=by
 simp only[sliceB,Ii] at hc;obtain⟨c1,c2,c3⟩:=hc;have h1:Hq P T t x lo hi none=none:=by simp[Hq,ht,hx]
 have G:known T x=some (.string (DF l)):=by simp[known,hx];rfl
 have U:(allKnown T o.op.operands.toList&&UA o.op)=true:=by
  rw[Z]
  have e1:∀y,lo=some y→(known T y).isSome=true:=by
   rintro y rfl;obtain⟨k,G⟩:=OD Y;rw[G];rfl
  have e2:∀y,hi=some y→(known T y).isSome=true:=by
   rintro y rfl;obtain⟨k,G⟩:=OD O;rw[G];rfl
  cases lo with
 |none =>
   cases hi with
  |none=>simp[Op.operands,allKnown,UA,G]
  |some y=>simp[Op.operands,allKnown,UA,G,e2 y rfl]
 |some x =>
   cases hi with
  |none=>simp[Op.operands,allKnown,UA,G,e1 x rfl]
  |some y=>simp[Op.operands,allKnown,UA,G,e1 x rfl,e2 y rfl]
 have J:Vh P (execOp (fun x=>(known T x).getD undef) o)=some (.value (.string (DF ((l.take b.toNat).drop a.toNat)))):=by
  unfold execOp;rw[Z];dsimp only
  have:Vh P (Instr.sliceAt t ((known T x).getD undef) (bI T lo) (bI T hi) none)=some (.string (DF ((l.take b.toNat).drop a.toNat))):=by
   rw[G];unfold Instr.sliceAt;rw[VK _ (Mv ht)];show Vh P (Instr.slice t (.string (DF l)) (bI T lo) (bI T hi) none)=_;unfold Instr.slice;rw[VK _ (Mv ht)];have hB:=pq (P:=P) (T:=T) Y O c1 c2 c3;rw[←rQ l] at hB
   have:Vh P (Instr.sliceBounds false (DF l).size (DF l).size (bI T lo) (bI T hi) none >>= fun x=>(pure (.string ((DF l).extract x.1 x.2.1)):Sem Value))=some (.string (DF ((l.take b.toNat).drop a.toNat))):=by
    rw[VK _ hB,je];rfl
   exact this
  exact(VK _ this)
 simp only[V6,Z,h1,FX];unfold U9;rw[if_pos U,J];rfl
end
def aV:AV→Bool|.p (.val (.slice none 0 0))=>true|.vnil=>true|_=>false
theorem jf{x:AV}(G:aV x=true)(J:Qg φ h w M x v):v=.slice none 0 0:=by
 unfold aV at G;split at G
 ·simpa [Qg,Q6] using J
 ·simpa [Qg] using J
 ·cases G
def pnC(S t:Nat):List (Nat×Nat)→St→St|[],s=>s|(b,k)::l,s=>pnC S t l (GD b k (.tsl S [] t) s)
def aW(S t:Nat):List (Nat×Nat)→St→Bool
|[],_=>true
|(b,k)::l,s=>(match cellAt b k s with|some x=>aV x|none=>false)&&aW S t l (GD b k (.tsl S [] t) s)
def pnS(ty S t:Nat)(ts:List Nat)(bs:List (Nat×Nat))(s:St):St:=pnC S t bs ⟨ts.map (fun x=>(x,AV.tsl S [] t))++s.T,(t,.arr ty S 0)::s.H⟩
def Qdx(ty S t:Nat)(ts:List Nat)(bs:List (Nat×Nat))(s:St):Bool :=
 (look s.H t).isNone&&ts.all (fun x=>match look s.T x with|some v=>aV v|none=>false)&&aW S t bs ⟨ts.map (fun x=>(x,AV.tsl S [] t))++s.T,(t,.arr ty S 0)::s.H⟩
def aX(φ:Nat→Nat)(h:QY)(w:World)(ty S t:Nat):Prop:=w.heap[φ t]?=none∧h t=some (.arr ty S 0)
theorem rR{ty S t:Nat}(p:aX φ h w ty S t):Qg φ h w M (.tsl S [] t) (.slice none 0 0):=by
 simp only[Qg,Q6];exact⟨.inr ⟨trivial,none,0,rfl⟩,ty,0,p.2,Yf _,fun _=>.inl (by simp[p.1])⟩
theorem rT{N:Nat}{D:DB}{φ:Nat→Nat}{M0:ZQ}{a:Act}{w:World}{ty S t:Nat}:∀(bs:List (Nat×Nat)) (s:St),aW S t bs s=true→aX φ (look s.H) w ty S t→ZG φ M0 N D (look s.T) (look s.H) a w →
  ZG φ M0 N D (look (pnC S t bs s).T) (look (pnC S t bs s).H) a w∧Zl φ (look s.H) w φ (look (pnC S t bs s).H) w
|[],s,_,_,r=>⟨r,Zl.refl _ _ _⟩
|(b,k)::bs,s,h,p,r=>by
  simp only[aW,KL] at h;obtain⟨J,h2⟩:=h;cases hc:cellAt b k s with
 |none=>rw[hc] at J;cases J
 |some x =>
   rw[hc] at J;obtain⟨vo,cs,hb,O⟩:=LZ hc;have U:=Oz (k:=k) (x:=.tsl S [] t) hb;have Y:¬b=t:=fun e=>by rw[e,p.2] at hb;cases hb
   have Z:aX φ (look (GD b k (.tsl S [] t) s).H) w ty S t:=⟨p.1,by rw[U];simp[upd,Y,p.2]⟩
   have r':ZG φ M0 N D (look (GD b k (.tsl S [] t) s).T) (look (GD b k (.tsl S [] t) s).H) a w:=by
    rw[U];refine yo r hb fun c G=>?_
    obtain⟨c0,g1,g2⟩:=r.hp.blk b _ hb;rw[g1] at G;cases G;obtain⟨u,g3,g4⟩:=FM g2 O;rw[jf J g4] at g3;exact HY g2 g3 (rR p)
   obtain⟨r2,E2⟩:=rT bs (GD b k (.tsl S [] t) s) h2 Z r';have E1:Zl φ (look s.H) w φ (look (GD b k (.tsl S [] t) s).H) w:=by rw[U];exact Pq hb
   exact⟨r2,E1.trans E2⟩
theorem jg{S t:Nat}{T:List (Nat×AV)}:∀(ts:List Nat) (x:Nat),look (ts.map (fun x=>(x,AV.tsl S [] t))++T) x=if x∈ts then some (.tsl S [] t) else look T x
|[],x=>by simp
|y::ts,x=>by
  simp only[U8,List.cons_append,look,List.mem_cons];by_cases e:y=x
  ·simp[e]
  ·have G:¬x=y:=fun h=>e h.symm
   simp only[e,G,if_false,false_or];exact jg ts x
theorem Yv(ty S t:Nat)(ts:List Nat)(bs:List (Nat×Nat))(hok:Qdx ty S t ts bs s=true:=by kernel_rfl):Weak N s (pnS ty S t ts bs s):=by
 intro φ M0 D a w r;simp only[Qdx,KL] at hok;obtain⟨⟨h1,h2⟩,h3⟩:=hok;have hn:look s.H t=none:=by cases e:look s.H t with|none=>rfl|some x=>rw[e] at h1;cases h1
 obtain⟨f,hf⟩:∃f,f=w.heap.size+((s.H.map (·.1)).map φ).foldr max 0+1:=⟨_,rfl⟩
 have ac:∀c,look s.H c≠none→φ c≠f:=by
  intro c hc e;have:=Fx ((s.H.map (·.1)).map φ) (φ c) (List.mem_map_of_mem (Vz.1 hc));omega
 have ab:w.heap.size≤f:=by omega
 have hne:∀c q,look s.H c=some q→¬t=c:=fun c q hc e=>by rw[e] at hn;rw[hn] at hc;cases hc
 have G:QM φ t f t=f:=by simp[QM]
 have X:VQ φ (look s.H) w (QM φ t f) (upd (look s.H) t (.arr ty S 0)) w:=by
  refine⟨fun c U cs' hc=>?_,fun c U S n hc=>?_,fun c U S n hc=>?_,fun c k' x hc ho=>?_⟩
  ·have:=hne c _ hc;exact⟨⟨U,cs',by simp[upd,this,hc]⟩,by simp[QM,this]⟩
  ·have:=hne c _ hc;exact⟨n,by simp[upd,this,hc],Yf _,fun _=>VN (by simp[QM,this]) rfl⟩
  ·have:=hne c _ hc;exact⟨n,by simp[upd,this,hc],Yf _,fun _=>⟨by simp[QM,this],fun c ad=>⟨c,ad,rfl⟩⟩⟩
  ·have:=hne c _ hc;exact⟨⟨k',by simp[upd,this,hc],ho⟩,by simp[QM,this]⟩
 have aa:∀x o,x<w.heap.size→DD (QM φ t f) (upd (look s.H) t (.arr ty S 0)) x o→DD φ (look s.H) x o:=by
  rintro x o O ⟨c,q,g1,g2,g3⟩;by_cases e:t=c
  ·simp only[QM,e,if_true] at g2;omega
  ·simp only[upd,QM,e,if_false] at g1 g2;exact⟨c,q,g1,g2,g3⟩
 have E:Zl φ (look s.H) w (QM φ t f) (upd (look s.H) t (.arr ty S 0)) w :=
  ⟨rfl,rfl,rfl,Yf _,fun _ _ _=>rfl,fun _ _ _ _=>rfl,fun x o O J=>aa x o O J,
   fun c U cs _ hc=>by have:=hne c _ hc;exact⟨⟨cs,by simp[upd,this,hc]⟩,by simp[QM,this]⟩,fun c U S n _ hc=>X.t c U S n hc,fun c U S n _ hc=>X.v c U S n hc,fun c k x _ hc ho=>X.o c k x hc ho⟩
 have hp:Z9 (QM φ t f) (upd (look s.H) t (.arr ty S 0)) w M0:=by
  refine⟨fun c d hc hd e=>?_,fun c q hc=>?_,fun c hc o J=>?_,r.hp.lt,r.hp.gm.evol E⟩
  ·by_cases Z:t=c<;>by_cases Y:t=d
   ·exact Z.symm.trans Y
   ·have e3:¬c=d:=fun x=>Y (Z.trans x)
    simp only[QM,Z,if_true,e3,if_false] at e;simp only[upd,Y,if_false] at hd;exact absurd e.symm (ac d hd)
   ·have e3:¬d=c:=fun x=>Z (Y.trans x)
    simp only[QM,Y,if_true,e3,if_false] at e;simp only[upd,Z,if_false] at hc;exact absurd e (ac c hc)
   ·simp only[QM,Z,Y,if_false] at e;simp only[upd,Z,Y,if_false] at hc hd;exact r.hp.inj c d hc hd e
  ·by_cases e:t=c
   ·have:q=.arr ty S 0:=by simpa [upd,e] using hc.symm
    subst this;rw[←e,G];exact .inl ⟨rfl,Kz ab⟩
   ·have hc':look s.H c=some q:=by simpa [upd,e] using hc
    have h3:QM φ t f c=φ c:=by simp[QM,e]
    rw[h3];exact Ku (E.keeps M0) X rfl (r.hp.blk c q hc')
  ·by_cases e:t=c
   ·rw[←e,G] at J;have:=r.hp.lt _ _ J;omega
   ·have h3:QM φ t f c=φ c:=by simp[QM,e]
    rw[h3] at J;exact r.hp.fr c (by simpa [upd,e] using hc) o J
 have r1:=r.keep E X hp;have pa:aX (QM φ t f) (upd (look s.H) t (.arr ty S 0)) w ty S t:=⟨by rw[G];exact Kz ab,by simp[upd]⟩
 let s1:St:=⟨ts.map (fun x=>(x,AV.tsl S [] t))++s.T,(t,.arr ty S 0)::s.H⟩
 have r2:ZG (QM φ t f) M0 N D (look s1.T) (look s1.H) a w:=by
  refine⟨r1.dfs,r1.siz,r1.hp,fun x v O=>?_⟩;rw[jg] at O;by_cases J:x∈ts
  ·rw[if_pos J] at O;cases O;have h4:=Gp.1 h2 x J;cases hl:look s.T x with
  |none=>rw[hl] at h4;cases h4
  |some y =>
    rw[hl] at h4;obtain⟨g1,g2⟩:=r1.tm x y hl;refine⟨g1,?_⟩;rw[jf h4 g2];exact rR pa
  ·rw[if_neg J] at O;exact r1.tm x v O
 obtain⟨r3,E3⟩:=rT (ty:=ty) bs s1 h3 pa r2;exact⟨_,r3,E.trans E3⟩
section
variable {P:Program}{o:Oper}{T:Nat→Option AV}{h:QY}
theorem Xz{w k:List UInt8}{f:Bool}{x:AV}{l:List (Bool×List UInt8×AV)}(h:(Zb w k&&f)=true):LQ w ((f,k,x)::l)=some x:=by simp only[LQ,h,if_true]
theorem QB{w k:List UInt8}{f:Bool}{x:AV}{l:List (Bool×List UInt8×AV)}{q:Option AV}(h:(Zb w k&&f)=false)(G:LQ w l=q):LQ w ((f,k,x)::l)=q:=by simp only[LQ,h,Bool.false_eq_true,if_false];exact G
theorem aY{w:List UInt8}:LQ w []=none:=rfl
theorem XA{t:TypeId}{w:List UInt8}{v:AV}(G:o.op=.lookup t x ix ok)(hf:LQ w es=some v)(O:P.underlying t=some (.map kt e):=by kernel_rfl)(J:P.underlying kt=some .string:=by kernel_rfl)(U:Zo T x=some (.mv b):=by kernel_rfl)(hi:Zo T ix=some (.p (.val (.string (DF w)))):=by kernel_rfl)(hb:h b=some (.mf es):=by kernel_rfl):
  V6 P o T h=some (D7 ok v true,none,[b]):=by
 simp[V6,FX,G,Ud,Xv,O,J,U,hi,hb,Bi,hf]
theorem aZ{t:TypeId}{w:List UInt8}{z:Value}(G:o.op=.lookup t x ix ok)(O:P.underlying t=some (.map kt e))(J:P.underlying kt=some .string)(Y:Zo T x=some (.mv b))(hi:Zo T ix=some (.p (.val (.string (DF w)))))(hb:h b=some (.mf es))(U:(P.info? e).bind (·.zero)=some z)(hf:LQ w es=none) :
  V6 P o T h=some (D7 ok (Ik z) false,none,[b]):=by
 simp[V6,FX,G,Ud,Xv,O,J,Y,hi,hb,Bi,hf,U]
end
def QbS(b:Nat)(k:Blk)(s:St):St:=⟨s.T,s.H.map fun p=>if p.1=b then(p.1,k) else p⟩
theorem zB{k:Blk}:∀(H:List (Nat×Blk)) (c:Nat),look H b=some k0→look (H.map fun p=>if p.1=b then(p.1,k) else p) c=upd (look H) b k c
|H,c,h0=>by
  have:∀(H:List (Nat×Blk)) (c:Nat),look (H.map fun p=>if p.1=b then(p.1,k) else p) c=if b=c then(look H c).map (fun _=>k) else look H c:=by
   intro H
   induction H with
  |nil=>intro c;simp[look]
  |cons p H J =>
    intro c;obtain⟨d,q⟩:=p;rw[U8];by_cases G:d=b
    ·subst G;simp only[if_true,look];by_cases e:d=c
     ·simp[e]
     ·simp only[e,if_false];rw[J];simp[e]
    ·simp only[G,if_false,look];by_cases e:d=c
     ·subst e;simp[Ne.symm G]
     ·simp only[e,if_false];exact J c
  rw[this];by_cases e:b=c
  ·subst e;simp[upd,h0]
  ·simp[upd,e]
theorem Zc(G:P.underlying kt=some .string)(a b:List UInt8):eqV P 4 kt (.string (DF a)) (.string (DF b))=some (Zb a b):=by
 have:=uW G (DF a) b;rw[Bi] at this;exact this
end Go.Abs
namespace Go.Abs
open Go Go.ChangeShapes Go.WideShapes
variable {b base d:Nat}{h:QY}{n off:Nat}{v:Value}
def Py(P:Program)(total:Nat):Nat→List Field→Bool|off,[]=>off==total|off,f::r=>f.offset==off&&Py P total (off+P.cellsOf f.type) r
def GG(P:Program):Nat→TypeId→Bool
|0,_=>false
|d+1,t=>match P.underlying t with
 |some .bool=>P.cellsOf t==1
 |some (.int _)=>P.cellsOf t==1
 |some .string=>P.cellsOf t==1
 |some (.slice e)=>P.cellsOf t==1&&Nat.blt 0 (P.cellsOf e)&&GG P d e
 |some (.struct G)=>Py P (P.cellsOf t) 0 G.toList&&G.toList.all (fun f=>GG P d f.type)
 |some (.array n e)=>n*P.cellsOf e==P.cellsOf t&&GG P d e
 |_=>false
def ib(S:TypeId→List PV→Prop):List Field→List PV→Prop|[],cs=>cs=[]|f::r,cs=>∃a b,cs=a++b∧S f.type a∧ib S r b
def ShN(S:List PV→Prop):Nat→List PV→Prop|0,cs=>cs=[]|n+1,cs=>∃a b,cs=a++b∧S a∧ShN S n b
def Sh(P:Program):Nat→TypeId→List PV→Prop
|0,_,_=>False
|d+1,t,cs=>match P.underlying t with
 |some .bool=>∃b,cs=[.val (.bool b)]
 |some (.int k)=>∃n,cs=[.val (.int k n)]∧(Lit.int k n).wf=true
 |some .string=>∃s:List UInt8,cs=[.val (.string (DF s))]∧s.length≤maxLen
 |some (.slice e)=>∃es,cs=[.sl (P.cellsOf e) es]∧es.length≤maxLen∧∀x∈es,Sh P d e x
 |some (.struct G)=>ib (Sh P d) G.toList cs
 |some (.array n e)=>ShN (Sh P d e) n cs
 |_=>False
section
variable {H:Type}{enc:TypeId×Value→H}{P:Program}{w:World}{held:Bool}{φ:Nat→Nat}{M:ZQ}
theorem OE{a:Addr}{G:List Value}(h:w.cells? base a n=some G):G.length=n∧∀i,i<n→w.cell? (a.add i)=G[i]?:=by
 unfold World.cells? at h;split at h
 ·have J:=mapM_some_length h;refine⟨by simpa using J,fun i hi=>?_⟩;exact mapM_some_get h i i (by simp[hi])
 ·cases h
def Got(P:Program)(w:World)(φ:Nat→Nat)(M:ZQ)(d:Nat)(t:TypeId)(G:List Value):Prop :=∃cs:List PV,Sh P d t cs∧Ql φ LU w M (cs.map .p) G∧(∀v∈G,v.oneCell'=true)
theorem Pz{t:TypeId}{c:PV}(O:Sh P d t [c])(J:Q6 w M c v)(G:v.oneCell'=true):Got P w φ M d t [v] :=
 ⟨[c],O,by simp only[U8,List.map_nil,Ql,Qg];exact⟨v,[],rfl,J,rfl⟩,by simpa using G⟩
theorem zD{φ:Nat→Nat}{w:World}{M:ZQ}{a b:List AV}{l m:List Value}(J:Ql φ h w M a l)(G:Ql φ h w M b m):Ql φ h w M (a++b) (l++m):=ZI J G
theorem add_zero(a:Addr):a.add 0=a:=rfl
theorem jh:(⟨b,off,none⟩:Addr).add n=⟨b,off+n,none⟩:=by
 unfold Addr.add;split
 ·rename_i h;subst h;rfl
 ·rfl
theorem cell?_spot{a:Addr}(h:w.cell? a=some v):a.spot=none:=by
 unfold World.cell? at h;split at h
 ·split at h
  ·cases h
  ·rename_i G;cases hs:a.spot with
  |none=>rfl
  |some s=>simp[hs] at G
 ·cases h
theorem zF{Q:Nat→List PV→Prop}:∀(n:Nat),(∀i,i<n→∃c,Q i c)→∃es:List (List PV),es.length=n∧∀i c,es[i]?=some c→Q i c
|0,_=>⟨[],rfl,by simp⟩
|n+1,h=>by
  obtain⟨es,G,O⟩:=zF n (fun i hi=>h i zo);obtain⟨c,hc⟩:=h n zo;refine⟨es++[c],by simp[G],fun i c' hi=>?_⟩;rcases Nat.lt_or_ge i n with hlt|J
  ·rw[List.getElem?_append_left zo] at hi;exact O i c' hi
  ·have:i<n+1:=by have:=(MG.1 hi).1;simp[G] at this;omega
   obtain rfl:i=n:=by omega
   rw[List.getElem?_append_right zo] at hi;simp[G] at hi;subst hi;exact hc
theorem ji{S r:Nat}:∀(es:List (List PV)) (o:Nat),(∀i e,es[i]?=some e→e.length=S∧WW w M r (o+i*S) e)→Jn w M S r o es
|[],o,_=>by simp[Jn]
|e::es,o,h=>by
  simp only[Jn];refine⟨by have:=h 0 e zq;simpa using this,ji es (o+S) fun i J G=>?_⟩;have:=h (i+1) J (by simpa using G)
  rwa [show o+(i+1)*S=o+S+i*S from by rw[Nat.add_mul];omega] at this
theorem rU(hM:∀r o,¬M r o):∀(d aa:Nat) (t:TypeId) (G:List Value) (x:DataW H×List MemPlace),GG P d t=true→DataW.trod enc P w 0 (fun _=>true) held aa t G=some x→Got P w φ M d t G∧G.length=P.cellsOf t:=by
 intro d
 induction d with
|zero=>intro aa t G x hp;cases hp
|succ d ih =>
  intro aa t G x hp h
  have ar:∀(fs:List Field) (off total:Nat) (G:List Value),G.length=total→Py P total off fs=true→fs.all (fun f=>GG P d f.type)=true →
    (∀f∈fs,∃n y,DataW.trod enc P w 0 (fun _=>true) held n f.type ((G.drop f.offset).take (P.cellsOf f.type))=some y)→∃cs,ib (Sh P d) fs cs∧Ql φ LU w M (cs.map .p) (G.drop off)∧(∀v∈G.drop off,v.oneCell'=true):=by
   intro fs
   induction fs with
  |nil =>
    intro off total G J ht _ _;simp only[Py,beq_iff_eq] at ht;have:G.drop off=[]:=List.drop_eq_nil_of_le zo;exact⟨[],rfl,by rw[this];simp[Ql],by rw[this];simp⟩
  |cons f fs ak =>
    intro off total G J ht ha hm;simp only[Py,KL,beq_iff_eq] at ht;simp only[List.all_cons,KL] at ha;obtain⟨n,y,hy⟩:=hm f zq;rw[ht.1] at hy;obtain⟨⟨c1,g1,g2,g3⟩,_⟩:=ih n f.type _ y ha.1 hy;obtain⟨c2,k1,k2,k3⟩:=ak (off+P.cellsOf f.type) total G J ht.2 ha.2 (fun f hf=>hm f (by simp[hf]))
    have e:G.drop off=(G.drop off).take (P.cellsOf f.type)++G.drop (off+P.cellsOf f.type):=by
     rw[←List.drop_drop];exact(List.take_append_drop _ _).symm
    refine⟨c1++c2,⟨c1,c2,rfl,g1,k1⟩,?_,?_⟩
    ·rw[e,List.map_append];exact zD g2 k2
    ·rw[e];intro v Z;rcases List.mem_append.1 Z with Z|Z
     ·exact g3 v Z
     ·exact k3 v Z
  have al:∀(e:TypeId) (n k:Nat) (G:List Value),G.length=(k+n)*P.cellsOf e→GG P d e=true →
    (∀i,k≤i→i<k+n→∃m y,DataW.trod enc P w 0 (fun _=>true) held m e ((G.drop (i*P.cellsOf e)).take (P.cellsOf e))=some y)→∃cs,ShN (Sh P d e) n cs∧Ql φ LU w M (cs.map .p) (G.drop (k*P.cellsOf e))∧(∀v∈G.drop (k*P.cellsOf e),v.oneCell'=true):=by
   intro e n
   induction n with
  |zero =>
    intro k G J _ _;have:G.drop (k*P.cellsOf e)=[]:=List.drop_eq_nil_of_le (by simp at J;omega);exact⟨[],rfl,by rw[this];simp[Ql],by rw[this];simp⟩
  |succ n aj =>
    intro k G J ae hm;obtain⟨m,y,hy⟩:=hm k zo zo;obtain⟨⟨c1,g1,g2,g3⟩,_⟩:=ih m e _ y ae hy;obtain⟨c2,k1,k2,k3⟩:=aj (k+1) G (by rw[J];congr 1;omega) ae (fun i h1 h2=>hm i zo zo)
    have e':G.drop (k*P.cellsOf e)=(G.drop (k*P.cellsOf e)).take (P.cellsOf e)++G.drop ((k+1)*P.cellsOf e):=by
     rw[Nat.add_mul,Nat.one_mul,←List.drop_drop];exact(List.take_append_drop _ _).symm
    refine⟨c1++c2,⟨c1,c2,rfl,g1,k1⟩,?_,?_⟩
    ·rw[e',List.map_append];exact zD g2 k2
    ·rw[e'];intro v Z;rcases List.mem_append.1 Z with Z|Z
     ·exact g3 v Z
     ·exact k3 v Z
  unfold GG at hp;cases hu:P.underlying t with
 |none=>rw[hu] at hp;cases hp
 |some td =>
   rw[hu] at hp;cases td with
  |bool =>
    obtain⟨b,rfl,_⟩:=DataW.trod_bool hu h;simp only[beq_iff_eq] at hp;exact⟨Pz (c:=.val (.bool b)) (by simp only[Sh,hu];exact⟨b,rfl⟩) (by simp[Q6]) rfl,by simp[hp]⟩
  |int k =>
    obtain⟨n,rfl,_,hw⟩:=DataW.trod_int hu h;simp only[beq_iff_eq] at hp;exact⟨Pz (c:=.val (.int k n)) (by simp only[Sh,hu];exact⟨n,rfl,hw⟩) (by simp[Q6]) rfl,by simp[hp]⟩
  |string =>
    obtain⟨b,rfl,_,hw⟩:=DataW.trod_string hu h;simp only[beq_iff_eq] at hp;refine⟨Pz (c:=.val (.string b)) ?_ (by simp[Q6]) rfl,by simp[hp]⟩;simp only[Sh,hu];exact⟨b.data.toList,by simp[DF],by simpa using hw⟩
  |slice e =>
    simp only[KL,beq_iff_eq,Nat.blt_eq] at hp;rcases DataW.trod_slice hu h with⟨rfl,_⟩|⟨a,len,cap,elems,rest,n,_,rfl,_,_,ax,av,aw,ac⟩
    ·refine⟨Pz (c:=.sl (P.cellsOf e) []) ?_ (by simp only[Q6];exact .inr ⟨trivial,none,0,rfl⟩) rfl,by simp[hp.1.1]⟩;simp only[Sh,hu];exact⟨[],rfl,by simp,by simp⟩
    ·have ah:=ac.1
     have ai:∀i,i<len→∃(G:List Value) (cs:List PV),w.cells? 0 (a.add (i*P.cellsOf e)) (P.cellsOf e)=some G∧Sh P d e cs∧Ql φ LU w M (cs.map .p) G∧(∀v∈G,v.oneCell'=true):=by
      intro i hi;have h1:elems[i]?=some elems[i]:=List.getElem?_eq_getElem zo;have h2:=ah i hi;rw[h1] at h2;obtain⟨G,O,h4⟩:=Nw.1 h2;obtain⟨⟨cs,g1,g2,g3⟩,_⟩:=ih _ e G _ hp.2 h4;exact⟨G,cs,O,g1,g2,g3⟩
     obtain⟨es,ad,hq⟩:=zF (Q:=fun i cs=>∃G,w.cells? 0 (a.add (i*P.cellsOf e)) (P.cellsOf e)=some G∧Sh P d e cs∧Ql φ LU w M (cs.map .p) G∧(∀v∈G,v.oneCell'=true)) len (fun i hi=>by
      obtain⟨G,cs,h1,h2⟩:=ai i hi;exact⟨cs,G,h1,h2⟩)
     refine⟨Pz (c:=.sl (P.cellsOf e) es) ?_ ?_ rfl,by simp[hp.1.1]⟩
     ·simp only[Sh,hu];refine⟨es,rfl,by omega,fun x hx=>?_⟩;obtain⟨i,hi,rfl⟩:=List.getElem_of_mem hx;obtain⟨G,_,h2,_⟩:=hq i es[i] (List.getElem?_eq_getElem hi);exact h2
     ·simp only[Q6];by_cases h0:len=0
      ·subst h0;exact .inr ⟨List.eq_nil_of_length_eq_zero ad,some a,cap,rfl⟩
      ·have Y:a.spot=none:=by
        obtain⟨G,h1,_⟩:=hq 0 es[0] (List.getElem?_eq_getElem zo);obtain⟨g1,g2⟩:=OE h1;have O:=g2 0 hp.1.2;simp only[Nat.zero_mul,add_zero] at O;rw[List.getElem?_eq_getElem zo] at O;exact cell?_spot O
       obtain⟨ab,ao,au⟩:=a;simp only at Y;subst Y;refine .inl ⟨ab,ao,cap,by rw[ad],by omega,ji es ao fun i c hi=>?_⟩;obtain⟨G,h1,h2,O,h4⟩:=hq i c hi;obtain⟨g1,g2⟩:=OE h1;have af:=Z5 O;refine⟨by simp at af;omega,?_⟩;rw[FH];intro j q hj;obtain⟨v,k1,k2⟩:=TI O j q hj;have aq:j<P.cellsOf e:=by have:=(MG.1 k1).1;omega
       have k3:=g2 j aq;rw[jh,jh,k1] at k3;exact⟨v,k3,hM _ _,h4 v (List.mem_of_getElem? k1),k2⟩
  |struct fs =>
    simp only[KL] at hp;obtain⟨xs,n,_,_,J,hx,U⟩:=DataW.trod_struct hu h
    obtain⟨cs,g1,g2,g3⟩:=ar fs.toList 0 (P.cellsOf t) G J hp.1 hp.2 (by
     intro f hf;obtain⟨i,hi,rfl⟩:=List.getElem_of_mem hf;have h1:fs[i]?=some fs.toList[i]:=by simp
     have h2:=U i _ h1;have O:i<xs.length:=by rw[hx];simpa using hi
     exact⟨n,xs[i],by rw[h2];exact List.getElem?_eq_getElem O⟩)
    simp only[List.drop_zero] at g2 g3;exact⟨⟨cs,by simp only[Sh,hu];exact g1,g2,g3⟩,J⟩
  |array n e =>
    simp only[KL,beq_iff_eq] at hp;obtain⟨xs,m,_,_,J,hx,U⟩:=DataW.trod_array hu h
    obtain⟨cs,g1,g2,g3⟩:=al e n 0 G (by rw[J,Nat.zero_add,hp.1]) hp.2 (by
     intro i _ hi;have an:i<n:=by omega
     have O:i<xs.length:=by omega
     exact⟨m,xs[i],by rw[U i an];exact List.getElem?_eq_getElem O⟩)
    simp only[Nat.zero_mul,List.drop_zero] at g2 g3;exact⟨⟨cs,by simp only[Sh,hu];exact g1,g2,g3⟩,J⟩
  |_=>cases hp
end
end Go.Abs
namespace Go.Abs
open Go Go.ChangeShapes Go.WideShapes Go.ChangeAt Go.RowKit
variable {base d:Nat}{e:TypeId}{f:FuncId}{fn:Func}{h':QY}{tb:TypeId}{v:Value}{w':World}{α:Type}{φ':Nat→Nat}
def QbT:List PV→AV|[c]=>.p c|cs=>ag cs
def uk(P:Program)(t:TypeId)(cs:List PV):AV :=
 match P.underlying t with
|some (.struct _)=>ag cs
|some (.array _ _)=>ag cs
|_=>QbT cs
def OG(P:Program)(d:Nat):List TypeId→List AV→Prop|[],G=>G=[]|t::ts,G=>∃cs r,G=uk P t cs::r∧Sh P d t cs∧OG P d ts r
section
variable {H:Type}{enc:TypeId×Value→H}{P:Program}{w:World}{φ:Nat→Nat}{M:ZQ}
theorem ic(hM:∀r o,¬M r o){t:TypeId}{x:DataW H}{ps:List MemPlace}(hp:GG P d t=true)(J:Value.okWide P w .any base t v)(h:DataW.Trod enc P w 0 (fun _=>true) true t v x ps):∃cs,Sh P d t cs∧Qg φ LU w M (uk P t cs) v:=by
 obtain⟨O,h⟩:=h;obtain⟨⟨cs,h1,G,h3⟩,hl⟩:=rU (φ:=φ) hM d O t _ _ hp h;refine⟨cs,h1,?_⟩;cases d with
|zero=>cases hp
|succ d =>
  unfold Value.okWide at J;unfold uk;cases hu:P.underlying t with
 |none=>simp[GG,hu] at hp
 |some td =>
   rw[hu] at J
   have one:(∀c,v≠.agg c)→P.cellsOf t=1→Qg φ LU w M (QbT cs) v:=by
    intro Z hc;have e:v.cells=#[v]:=by cases v<;>first|rfl|exact absurd rfl (Z _)
    rw[e] at G
    match cs,G with
   |[c],G =>
     simp only[U8,List.map_nil,Ql] at G;obtain⟨y,ys,U,Y,e3⟩:=G;simp at U;obtain⟨rfl,rfl⟩:=U;exact Y
   |[],G=>simp[Ql] at G
   |_::_::_,G =>
     simp only[U8,Ql] at G;obtain⟨y,ys,U,_,z,zs,Y,_⟩:=G;subst Y;simp at U
   have agg:(∃c,v=.agg c)→Qg φ LU w M (ag cs) v:=by
    rintro⟨c,rfl⟩;exact⟨c.toList,by simp,G⟩
   cases td with
  |bool =>
    simp only[GG,hu,beq_iff_eq] at hp;exact one (fun c hc=>by subst hc;simp[Cell.okWide,Cell.ok,hu] at J) hp
  |int k =>
    simp only[GG,hu,beq_iff_eq] at hp;exact one (fun c hc=>by subst hc;simp[Cell.okWide,Cell.ok,hu] at J) hp
  |string =>
    simp only[GG,hu,beq_iff_eq] at hp;exact one (fun c hc=>by subst hc;simp[Cell.okWide,Cell.ok,hu] at J) hp
  |slice e =>
    simp only[GG,hu,KL,beq_iff_eq] at hp;exact one (fun c hc=>by subst hc;simp[Cell.okWide,Cell.ok,hu] at J) hp.1.1
  |struct fs =>
    obtain⟨c,rfl,_⟩:=J;exact agg ⟨c,rfl⟩
  |array n e =>
    obtain⟨c,rfl,_⟩:=J;exact agg ⟨c,rfl⟩
  |_=>simp[GG,hu] at hp
theorem jk(Y:∀r o,¬M r o){d base:Nat}:∀{ts:List TypeId} {J:List Value} {U:List (DataW H)} {ps:List MemPlace},ts.all (GG P d)=true →
  (∀(j:Nat) t v,ts[j]?=some t→J[j]?=some v→Value.okWide P w .any base t v)→DataW.TrodAll enc P w 0 (fun _=>true) true ts J U ps→∃G,OG P d ts G∧Ql φ LU w M G J
|[],J,U,ps,_,_,h=>by
  obtain⟨rfl,_,_⟩:=trodAll_nil h;exact⟨[],rfl,rfl⟩
|t::ts,J,U,ps,hp,Z,h=>by
  obtain⟨v,O,d',aa,p,q,rfl,rfl,rfl,h1,h2⟩:=trodAll_cons h;simp only[List.all_cons,KL] at hp;obtain⟨cs,g1,g2⟩:=ic (φ:=φ) Y hp.1 (Z 0 t v rfl rfl) h1;obtain⟨G,g3,g4⟩:=jk Y hp.2 (fun j t v a b=>Z (j+1) t v (by simpa using a) (by simpa using b)) h2;exact⟨_,⟨cs,G,rfl,g1,g3⟩,v,O,rfl,g2,g4⟩
structure Over(w w':World):Prop where
 os:w'.os=w.os
 output:w'.output=w.output
 same:∀r,r<w.heap.size→w'.heap[r]?=w.heap[r]?
theorem yt{φ:Nat→Nat}{w:World}(E:Zl φ LU w φ' h' w'):Over w w' :=
 ⟨E.os,E.output,fun r G=>E.same r G (fun b hb=>absurd rfl hb)⟩
theorem Over.kept{w:World}(o:Over w w')(G:MemPlace→Prop):w.keptBut w' G:=by
 refine⟨o.os,o.output,fun i hi=>?_⟩;rw[o.same i hi];cases h:w.heap[i]? with
|none=>rfl
|some x=>cases x<;>simp
theorem Over.at{w:World}(o:Over w w'){p:MemPlace}(h:p.block<w.heap.size):w.sameAt w' p:=by
 cases p with
|cell b off=>simp only[World.sameAt,World.cell?];rw[o.same b h]
|map b=>exact o.same b h
theorem Over.frozen{w:World}(o:Over w w'){a:Addr}(h:a.block<w.heap.size):w'.frozen? a=w.frozen? a:=by
 simp only[World.frozen?];rw[o.same _ h]
theorem TN{w w':World}(U:laidOutB P=true){Y:Nat→Bool}(G:∀b,b<w.heap.size→Y b=true)(o:Over w w'):∀{ts:List TypeId} {O:List Value} {J:List (DataW H)} {ps:List MemPlace},ts.all (fun t=>P.readableRec t&&Nat.blt t P.types.size)=true→(∀p∈ps,p.block<w.heap.size) →
  DataW.TrodAll enc P w 0 (fun _=>true) true ts O J ps→DataW.TrodAll enc P w' 0 Y true ts O J ps
|[],O,J,ps,_,_,h=>by
  obtain⟨rfl,rfl,rfl⟩:=trodAll_nil h;exact rfl
|t::ts,O,J,ps,hp,hb,h=>by
  obtain⟨v,Z,d',aa,p,q,rfl,rfl,rfl,h1,h2⟩:=trodAll_cons h;simp only[List.all_cons,KL,Nat.blt_eq] at hp;refine⟨p,q,Go.WideElems.Trod_stays U hp.1.1 hp.1.2 h1 (fun p hp=>o.at (hb p (by simp[hp]))) (fun p hp=>G _ (hb p (by simp[hp]))),TN U G o (by simpa using hp.2) (fun p hp=>hb p (by simp[hp])) h2,rfl⟩
theorem qL{s:ChangeSpec}{apart fresh handsOn again:Bool}(hl:laidOutB P=true)(Y:fn.params.toList.all (GG P d)=true)(O:fn.params.toList.all (fun t=>P.readableRec t&&Nat.blt t P.types.size)=true)(hres:fn.resultTypes=#[tb])(ad:P.underlying tb=some .bool)(J:s.vars=[])(aa:∀G:List (DataW H),G.length=fn.params.size→s.fn H G={ results:=[.lit (.bool true)],args:=G }){W:World}{args:Array Value}{G gs:List (DataW H)}{before:List MemPlace}(ac:∀(j:Nat) t v,fn.params[j]?=some t→args[j]?=some v→Value.okWide P W .any base t v)(hW:DataW.Whole enc P fn.params.toList s.vars apart W args.toList G gs before)(ab:∀U,OG P d fn.params.toList U→Ql (fun x=>x) LU W (MM (fun x=>x) LU (fun _ _=>False)) U args.toList→QV P f U (.ret (.p (.val (.bool true)))))(hg:gmW W:=by exact trivial) :
  Calls P f args W fun e W'=>∃v,e=.returned v∧s.post enc P fn apart fresh handsOn again W args v W':=by
 have af:=hW;obtain⟨p,q,hA,hV,rfl,ai,ah⟩:=hW;rw[J] at hV;obtain⟨rfl,rfl⟩:=trodVars_none hV
 have ae:G.length=fn.params.size:=by
  have:∀{ts:List TypeId} {vs:List Value} {G:List (DataW H)} {ps:List MemPlace},DataW.TrodAll enc P W 0 (fun _=>true) true ts vs G ps→G.length=ts.length:=by
   intro ts
   induction ts with
  |nil=>intro vs G ps h;obtain⟨_,rfl,_⟩:=trodAll_nil h;rfl
  |cons t ts ih=>intro vs G ps h;obtain⟨v,al,d',ak,p,q,rfl,rfl,rfl,h1,h2⟩:=trodAll_cons h;simp[ih h2]
  simpa using this hA
 obtain⟨U,g1,g2⟩:=jk (φ:=fun x=>x) (M:=MM (fun x=>x) LU (fun _ _=>False)) (base:=base) (fun r o h=>h.elim Jo id) Y
  (fun j t v a b=>ac j t v (by simpa using a) (by simpa using b)) hA
 have hc:=ab U g1 g2 (fun x=>x) (fun _ _=>False) W args.toList (Gw (fun _ _ h=>h.elim) hg (fun _ _ _ h=>h)) g2;simp only[Array.toArray_toList] at hc;refine hc.mono ?_;rintro e w' ⟨φ',r',h',⟨rfl,rfl⟩,aj,E,hv⟩;obtain⟨v,rfl,hv⟩:=hv;simp only[Qg,Q6] at hv;subst hv;have o:=yt E;have hlt:∀x∈p,x.block<W.heap.size:=fun x hx=>af.lt x (by simpa using hx)
 refine⟨_,rfl,?_⟩;have Z:s.fn H (G++[])={ results:=[.lit (.bool true)],args:=G }:=by rw[List.append_nil];exact aa G ae
 have hr:∀(b:Nat) (sp:Nat→Bool) (hd:Bool),DataW.TrodAll enc P w' b sp hd fn.resultTypes.toList ((Value.bool true).resultList fn.resultTypes.size) [.lit (.bool true)] []:=fun b sp hd=>by
  rw[hres];exact trodAll_cons_mk (shut_bool ad _) trodAll_mk0
 refine⟨G,[],p++[],[],p,[],af,by rw[Z];exact hr _ _ _,by rw[Z];exact TN hl (fun b hb=>by simpa using hb) o O hlt hA,by rw[Z,J];rfl,o.kept _,fun _=>?_⟩;refine⟨ok_one hres rfl (okWide_bool_mk ad _),[.lit (.bool true)]++G,[],([]++p)++[],⟨[]++p,[],?_,?_,rfl,?_,?_⟩,?_⟩
 ·exact trodAll_append (TN hl (fun b hb=>rfl) o O hlt hA) (hr _ _ _)
 ·rw[J];rfl
 ·intro b off hp;rw[o.frozen (by exact hlt (.cell b off) (by simpa using hp))];exact ai b off (by simpa using hp)
 ·intro ha;simpa using ah ha
 ·intro x hx _;simpa using hx
theorem yu{s:ChangeSpec}{apart fresh handsOn again:Bool}(hl:laidOutB P=true)(O:fn.params.toList.all (GG P d)=true)(Z:fn.params.toList.all (fun t=>P.readableRec t&&Nat.blt t P.types.size)=true)(hres:fn.resultTypes=#[tb])(ab:P.underlying tb=some .bool)(J:s.vars=[])(U:∀ds:List (DataW H),ds.length=fn.params.size→s.fn H ds={ results:=[.lit (.bool true)],args:=ds })(Y:∀G,OG P d fn.params.toList G→QV P f G (.ret (.p (.val (.bool true))))){W:World}{args:Array Value}{ds gs:List (DataW H)}{before:List MemPlace}(aa:∀(j:Nat) t v,fn.params[j]?=some t→args[j]?=some v→Value.okWide P W .any base t v)(hW:DataW.Whole enc P fn.params.toList s.vars apart W args.toList ds gs before)(hg:gmW W:=by exact trivial) :
  Calls P f args W fun e W'=>∃v,e=.returned v∧s.post enc P fn apart fresh handsOn again W args v W' :=
 qL hl O Z hres ab J U aa hW (fun G h _=>Y G h) hg
end
def G8(x:Int):Prop:=-9223372036854775808≤x∧x≤9223372036854775807
def pu(l:List UInt8):Prop:=l.length≤maxLen
def OH{α:Type}(W:α→Prop)(l:List α):Prop:=l.length≤maxLen∧∀x∈l,W x
section
variable {P:Program}{d:Nat}{t:TypeId}{cs:List PV}
theorem Wh(hu:P.underlying t=some (.int .i64))(h:Sh P (d+1) t cs):∃n,cs=[.val (.int .i64 n)]∧G8 n:=by
 simp only[Sh,hu] at h;obtain⟨n,rfl,hw⟩:=h;exact⟨n,rfl,by simpa [Lit.wf,IntKind.min,IntKind.max,IntKind.signed,IntKind.bits,G8] using hw⟩
theorem OI(hu:P.underlying t=some .string)(h:Sh P (d+1) t cs):∃s:List UInt8,cs=[.val (.string (DF s))]∧pu s:=by
 simp only[Sh,hu] at h;exact h
theorem UE{G:Array Field}(hu:P.underlying t=some (.struct G))(h:Sh P (d+1) t cs):ib (Sh P d) G.toList cs:=by
 simpa only[Sh,hu] using h
theorem BG{S:Nat}{f:α→List PV}{W:α→Prop}(hu:P.underlying t=some (.slice e))(U:∀c,Sh P d e c→∃r,c=f r∧W r)(h:Sh P (d+1) t cs)(hS:P.cellsOf e=S:=by kernel_rfl):
  ∃l:List α,cs=[.sl S (List.map f l)]∧OH W l:=by
 simp only[Sh,hu] at h;obtain⟨es,rfl,G,J⟩:=h
 have:∃l:List α,es=List.map f l∧∀x∈l,W x:=by
  clear G
  induction es with
 |nil=>exact⟨[],rfl,by simp⟩
 |cons e es Y =>
   obtain⟨r,rfl,O⟩:=U e (J e zq);obtain⟨l,rfl,G⟩:=Y (fun x h=>J x (by simp[h]));exact⟨r::l,rfl,by simpa using ⟨O,G⟩⟩
 obtain⟨l,rfl,hw⟩:=this;exact⟨l,by rw[hS],by simpa using G,hw⟩
theorem jl{G:Array Field}(hu:P.underlying t=some (.struct G)):uk P t cs=ag cs:=by simp only[uk,hu]
theorem ul{c:PV}(hu:P.underlying t=some (.slice e)):uk P t [c]=.p c:=by simp only[uk,hu,QbT]
end
end Go.Abs
namespace Go.Abs
open Go
variable {D:DB}{M M0:ZQ}{N:Nat}{P:Program}{T:Nat→Option AV}{a:Act}{args:List AV}{b:Nat}{c:Code}{ck:Nat}{dst:Option Tmp}{e:TypeId}{en:Array MapEntry}{α:Type}{enc:α→List PV}{es:List (Bool×List UInt8×AV)}{f:FuncId}{h:QY}{hi:Option Operand}{i id:Nat}{ix:Operand}{k0:Blk}{kt:TypeId}{l:List α}{len:Nat}{lo:Option Operand}{n nn:Nat}{ops:Array Oper}{ro:Option Nat}{s s':St}{tk:Nat}{ty:TypeId}{v:Value}{w:World}{x y:Operand}{φ:Nat→Nat}
section
variable {R:Type}{a:Option R}{P:Program}{N:Nat}{ops:Array Oper}{o:Oper}{l:List Oper}{acc:List Vf}{s:St}{Q:R→AX→St→Prop}
theorem OJ(hw:ZV ops o (look s.T)=some true)(hp:(plain o.op&&K5 N o.dst)=true)(U:∀c,o.op≠.defer c)(h:∀φ M0 D O w,ZG φ M0 N D (look (mk ops o s true).T) (look s.H) O w→∃x s',look s'.T=look (mk ops o s true).T∧Yu a P N ops Q false ((none,[])::acc) l (St.put s' o.dst x)∧Yield P o φ M0 (look s.H) O w x (look s'.H)):Yu a P N ops Q false acc (o::l) s:=by
 simp only[KL] at hp;refine⟨fun r Y=>?_⟩;show Y2 P N ops (Q r) (o::l) s;simp only[Y2,hw,Km,Mh hp.1];show U7 P N o _ _ _;unfold U7
 have key:dG P N o (mk ops o s true) (Y2 P N ops (Q r) l):=by
  refine⟨U,hp.2,fun φ M0 D O w J=>?_⟩
  ·obtain⟨x,s',Z,h2,h3⟩:=h φ M0 D O w J;exact⟨x,s',Z,h2.h r Y,h3⟩
 have hp:=hp.1;split
 ·rename_i G;rw[G] at hp;cases hp
 ·rename_i G;rw[G] at hp;cases hp
 ·rename_i G;rw[G] at hp;cases hp
 ·exact .inr key
theorem ig:Yu (none:Option R) P N ops Q false acc l s:=⟨fun r G=>by cases G⟩
end
section
variable {φ:Nat→Nat}{M0:ZQ}{h:QY}{w:World}
theorem gL{k1:Blk}(J:h b=some k0)(G:k0.ob=some .mp)(Y:k1.ob=some .mp)(r:Z9 φ h w M0)(Z:∀h' M',(∀x o v,w.cell? ⟨x,o,none⟩=some v→¬MM φ h M0 x o→w.cell? ⟨x,o,none⟩=some v∧¬M' x o)→VQ φ h w φ h' w→RelB φ h' w M' (φ b) k1) :
  Z9 φ (upd h b k1) w M0∧Zl φ h w φ (upd h b k1) w∧VQ φ h w φ (upd h b k1) w:=by
 have O:∀x o,DD φ (upd h b k1) x o→DD φ h x o:=by
  rintro x y ⟨d,q,g1,g2,g3⟩;by_cases e:b=d
  ·refine⟨b,_,J,by rw[e];exact g2,?_⟩;cases k0<;>first|trivial|cases G
  ·exact⟨d,q,by simpa [upd,e] using g1,g2,g3⟩
 have hne:∀c k,h c=some k→k.ob=none→¬b=c:=fun c k hc hk e=>by rw[←e,J] at hc;cases hc;rw[hk] at G;cases G
 have X:VQ φ h w φ (upd h b k1) w:=by
  refine⟨fun c t q hc=>⟨⟨t,q,?_⟩,rfl⟩,fun c t S n hc=>⟨n,?_,Yf _,fun _=>VN rfl rfl⟩,fun c t S n hc=>⟨n,?_,Yf _,fun _=>⟨rfl,fun c hc=>⟨c,hc,rfl⟩⟩⟩,fun c k x hc U=>⟨?_,rfl⟩⟩
  ·simp[upd,hne c _ hc rfl,hc]
  ·simp[upd,hne c _ hc rfl,hc]
  ·simp[upd,hne c _ hc rfl,hc]
  ·by_cases e:b=c
   ·subst e;rw[J] at hc;cases hc;rw[G] at U;cases U;exact⟨k1,by simp[upd],Y⟩
   ·exact⟨k,by simp[upd,e,hc],U⟩
 have E:Zl φ h w φ (upd h b k1) w :=
  ⟨rfl,rfl,rfl,Yf _,fun _ _ _=>rfl,fun _ _ _ _=>rfl,fun x o _ hm=>O x o hm,
   fun c t cs _ hc=>⟨⟨cs,by simp[upd,hne c _ hc rfl,hc]⟩,rfl⟩,fun c t S n _ hc=>X.t c t S n hc,fun c t S n _ hc=>X.v c t S n hc,fun c k x _ hc U=>X.o c k x hc U⟩
 have g:∀d,upd h b k1 d≠none→h d≠none:=fun d hd=>by
  by_cases e:b=d
  ·rw[←e,J];simp
  ·simpa [upd,e] using hd
 refine⟨⟨fun c d hc hd e=>r.inj c d (g c hc) (g d hd) e,fun c q hc=>?_,fun c hc=>r.fr c (g c hc),r.lt,r.gm.evol E⟩,E,X⟩;by_cases e:b=c
 ·subst e;have:q=k1:=by simpa [upd] using hc.symm
  subst this;exact Z _ _ (E.keeps M0) X
 ·have hc':h c=some q:=by simpa [upd,e] using hc
  exact Ku (E.keeps M0) X rfl (r.blk c q hc')
end
def Zd(en:Array MapEntry)(i:Nat):Nat:=((en[i]?).map (·.born)).getD 0
theorem rV:∀{l:List Nat},l.Pairwise (·<·)→l.Nodup:=fun h=>h.imp fun h=>Nat.ne_of_lt h
theorem rW(h:es.all (·.1)=true):Tu es=es:=List.filter_eq_self.2 fun e G=>Gp.1 h e G
section
variable {R:Type}{a:Option R}{P:Program}{N:Nat}{ops:Array Oper}{o:Oper}{l:List Oper}{acc:List Vf}{s:St}{Q:R→AX→St→Prop}
theorem rX{t m:Nat}(hw:ZV ops o (look s.T)=some true)(ho:o.op=.range t x)(ht:P.underlying t=some (.map kt e))(hd:K5 N o.dst=true)(hx:Zo (look (mk ops o s true).T) x=some (.mv m))(hm:look s.H m=some (.mf es))(hb:look s.H b=none)(hne:(m==b)=false)(h:∀en ck,G5 en ck→Yu a P N ops Q false ((none,[])::acc) l (St.put ⟨(mk ops o s true).T,(b,.it m ck #[])::(m,.mg en ck es)::s.H⟩ o.dst (.iv b))):Yu a P N ops Q false acc (o::l) s:=by
 refine OJ hw (by rw[ho,hd];rfl) (fun c hc=>by rw[ho] at hc;cases hc) fun φ M0 D ac w r=>?_
 have U:¬m=b:=by simpa using hne
 obtain⟨r1,E1,X1,hC⟩:=r.lift 1;obtain⟨en,ck,O,hk,hv,Z⟩:=r1.hp.blk m _ hm;refine⟨.iv b,⟨(mk ops o s true).T,(b,.it m ck #[])::(m,.mg en ck es)::s.H⟩,rfl,h en ck Z,?_⟩;have J:=r1.ev hx;simp only[Qg] at J;generalize YM φ w.heap.size 1=G at r1 E1 X1 hC O hv J;obtain⟨H2,E2,X2⟩:=gL (k1:=.mg en ck es) hm rfl rfl r1.hp fun h' M' ad X=>⟨O,hk,(QZ ad X).2 _ _ hv,Z⟩
 have Y:Clear G (upd (look s.H) m (.mg en ck es)) w 1:=fun c hc=>hC c (by
  by_cases e:m=c
  ·subst e;rw[hm];simp
  ·simpa [upd,e] using hc)
 have ab:upd (look s.H) m (.mg en ck es) b=none:=by simp[upd,U,hb]
 obtain⟨E3,X3⟩:=XX (w':=w.alloc (.mapIter (some (G m)) ck #[] ck)) (o:=.mapIter (some (G m)) ck #[] ck) (b:=b) (k:=.it m ck #[]) (M0:=M0) rfl rfl rfl rfl ab H2 Y
 have aa:RelB (QM G b w.heap.size) (upd (upd (look s.H) m (.mg en ck es)) b (.it m ck #[])) (w.alloc (.mapIter (some (G m)) ck #[] ck)) (MM (QM G b w.heap.size) (upd (upd (look s.H) m (.mg en ck es)) b (.it m ck #[])) M0) w.heap.size (.it m ck #[]):=by
  refine⟨?_,.mg en ck es,by simp[upd,Ne.symm U],rfl⟩;have:QM G b w.heap.size m=G m:=by simp[QM,Ne.symm U]
  rw[this];show(w.heap.push _)[w.heap.size]?=_;simp
 refine⟨_,.pointer (some ⟨w.heap.size,0,none⟩),_,QM G b w.heap.size,?_,.inl rfl,?_,XY rfl ab H2 Y E3 X3 aa,E1.trans (E2.trans E3),VQ.trans (Yf _) X1 (VQ.trans (Yf _) X2 X3)⟩
 ·simp[execOp,ho,J.1,run_range_map w t kt e _ en ck ht O]
 ·simp only[Qg];exact⟨by simp[QM],.it m ck #[],by simp[look],rfl⟩
theorem Jc{m:Nat}{sn:Array Nat}{k:List UInt8}{v:AV}(i:Nat)(hB:G5 en ck)(ho:o.op=.entry x)(U:es.all (·.1)=true)(hi:es[i]?=some (true,k,v))(h:Yu a P N ops Q false ((none,[])::acc) l (St.put (mk ops o s true) o.dst (.tup [.p (.val (Dt k)),v])))(hw:ZV ops o (look s.T)=some true:=by kernel_rfl)(hd:K5 N o.dst=true:=by kernel_rfl)(hx:Zo (look (mk ops o s true).T) x=some (.iv b):=by kernel_rfl)(hb:look s.H b=some (.it m ck (sn.push (Zd en i))):=by kernel_rfl)(hm:look s.H m=some (.mg en ck es):=by kernel_rfl):Yu a P N ops Q false acc (o::l) s:=by
 refine OJ hw (by rw[ho,hd];rfl) (fun c hc=>by rw[ho] at hc;cases hc) fun φ M0 D ac w r=>⟨_,mk ops o s true,rfl,h,?_⟩
 obtain⟨h1,_⟩:=r.hp.blk b _ hb;obtain⟨h2,Z,hv,_⟩:=r.hp.blk m _ hm;rw[rW U] at Z hv;have hlt:i<es.length:=(MG.1 hi).1;have ab:en.toList.length=es.length:=by simpa using congrArg List.length Z
 have G:en.toList[i]?=some (en.toList[i]'zo):=List.getElem?_eq_getElem _;generalize en.toList[i]'zo=e at G;have O:en[i]?=some e:=by rw[←Array.getElem?_toList];exact G
 have aa:Zd en i=e.born:=by simp[Zd,O]
 rw[aa] at h1;have J:=r.ev hx;simp only[Qg] at J
 have Y:e.key=Dt k:=by
  have:=congrArg (·[i]?) Z;simp only[List.getElem?_map,G,hi,Option.map_some,Zf] at this;exact this
 refine Qt r (v:=.tuple #[e.key,e.val]) ?_ ?_
 ·simp[execOp,ho,J.1,run_entry_at w _ _ _ _ en ck e h1 h2 (List.mem_of_getElem? G) (rV hB.1)]
 ·simp only[Qg];refine⟨[e.key,e.val],by simp,_,_,rfl,?_,_,_,rfl,?_,rfl⟩
  ·simp[Qg,Q6,Y]
  ·exact D8 (i:=i) hv (by rw[List.getElem?_map,hi];rfl) (by rw[List.getElem?_map,G];rfl)
end
def jW{R:Type}(F:Option R)(t:Option R→Option R):Prop:=(∀q,t q=q)∨(∀q,t q=none)∨(∀q,t q=F)
theorem QbU{R:Type}{F:Option R}:jW F (fun q=>q):=.inl fun _=>rfl
theorem Qdy{R:Type}{F:Option R}:jW F (fun _=>F):=.inr (.inr fun _=>rfl)
theorem jm{R:Type}{F:Option R}:jW F (fun _=>none):=.inr (.inl fun _=>rfl)
theorem rY{R:Type}{F:Option R}{b:Bool}{x y:Option R→Option R}(J:jW F x)(G:jW F y):jW F (fun q=>cond b (x q) (y q)):=by cases b<;>assumption
theorem rZ{R V:Type}{F:Option R}{m:Option V}{x:V→Option R→Option R}(G:∀v,jW F (x v)):jW F (fun q=>m.bind fun v=>x v q):=by
 cases m with
|none=>exact jm
|some v=>exact G v
def si{R:Type}(F D:Option R)(ts:List (Option R→Option R)):Option R:=if ts.all (fun t=>(t F).isSome) then ts.foldr (fun t q=>t q) D else none
theorem zG{R:Type}{F D:Option R}{r:R}:∀{ts:List (Option R→Option R)},(∀t∈ts,jW F t)→(∀t∈ts,(t F).isSome=true)→ts.foldr (fun t q=>t q) D=some r →
  (D=some r∧∀t∈ts,∀q,t q=q)∨F=some r
|[],_,_,h=>.inl ⟨h,fun _ U=>by cases U⟩
|t::ts,O,hS,h=>by
  rw[List.foldr_cons] at h;rcases O t zq with G|G|G
  ·rw[G] at h;rcases zG (fun u hu=>O u (by simp[hu])) (fun u hu=>hS u (by simp[hu])) h with⟨J,Y⟩|J
   ·refine .inl ⟨J,fun u hu=>?_⟩;rcases List.mem_cons.1 hu with rfl|hu
    ·exact G
    ·exact Y u hu
   ·exact .inr J
  ·have:=hS t zq;rw[G] at this;cases this
  ·rw[G] at h;exact .inr h
theorem gP{R:Type}{D:Option R}:∀{ts:List (Option R→Option R)},(∀t∈ts,∀q,t q=q)→ts.foldr (fun t q=>t q) D=D
|[],_=>rfl
|t::ts,h=>by rw[List.foldr_cons,h t zq];exact gP fun u hu=>h u (by simp[hu])
theorem um{R:Type}{F D:Option R}{r:R}{ts:List (Option R→Option R)}(U:∀t∈ts,jW F t)(h:si F D ts=some r) :
  (∀t∈ts,(∀q,t q=q)∨∀q,t q=some r)∧((∀t∈ts,∀q,t q=q)→D=some r):=by
 unfold si at h;split at h;rotate_left
 ·cases h
 rename_i hS;have hS:∀t∈ts,(t F).isSome=true:=Gp.1 hS;have Y:=zG U hS h;constructor
 ·intro t J;rcases U t J with G|G|G
  ·exact .inl G
  ·have:=hS t J;rw[G] at this;cases this
  ·rcases Y with⟨_,O⟩|O
   ·exact .inl (O t J)
   ·exact .inr fun q=>by rw[G,O]
 ·intro hid;rw[gP hid] at h;exact h
structure Nx{R:Type}(N:Nat)(q:Option R)(S:St)(Q Qn:R→AX→St→Prop):Prop where
 n:∀r s',q=some r→Weak N s' S→Qn r .normal s'
 x:∀r e s',e≠.normal→Q r e s'→Qn r e s'
section
variable {R:Type}{o:Option R}{P:Program}{N:Nat}{q:Option R}{S s:St}{Q Qn:R→AX→St→Prop}
theorem EP(J:Nx N q S Q Qn)(K:Ro)(h:Dv K s=some S:=by kernel_rfl):ZL q Qn .normal s:=⟨fun r G=>J.n r s G (F5 h)⟩
theorem QfA(J:Nx N q S Q Qn)(h:ZL o Q (.exit i) s):ZL o Qn (.exit i) s:=⟨fun r G=>J.x r _ s (by intro h;cases h) (h.h r G)⟩
theorem OM{v:AV}(J:Nx N q S Q Qn)(h:ZL o Q (.panic v) s):ZL o Qn (.panic v) s:=⟨fun r G=>J.x r _ s (by intro h;cases h) (h.h r G)⟩
end
theorem pz(J:look s'.T=look s.T)(G:look s'.H=look s.H):Weak N s s':=fun φ M0 D a w r=>⟨φ,by rw[J,G];exact r,by rw[G];exact Zl.refl _ _ _⟩
def OO(en:Array MapEntry)(sn:Array Nat):Nat:=(leftOf en sn).size
theorem pE{sn:Array Nat}{e:MapEntry}(G:e∈(leftOf en sn).toList):OO en (sn.push e.born)<OO en sn:=by
 have J:∀sn:Array Nat,OO en sn=(en.toList.filter fun x=>!sn.contains x.born).length:=fun sn=>by
  unfold OO leftOf;rw[←Array.toList_filter,Array.length_toList]
 unfold leftOf at G;rw[Array.toList_filter] at G;rw[J,J]
 have O:(en.toList.filter fun x=>!(sn.push e.born).contains x.born)=(en.toList.filter fun x=>!sn.contains x.born).filter fun x=>!(x.born==e.born):=by
  rw[List.filter_filter];congr 1;funext x;simp only[Array.contains_push];cases sn.contains x.born<;>cases hq:(x.born==e.born)<;>simp_all
 rw[O];generalize (en.toList.filter fun x=>!sn.contains x.born)=L at G ⊢;exact List.length_filter_lt_length_iff_exists.2 ⟨e,G,by simp⟩
section
variable {R:Type}{P:Program}{N:Nat}{ro:Option Nat}{n:Nat}{ops:Array Oper}{o:Oper}{l:List Oper}{B:Code}{s0:St}{Q:R→AX→St→Prop}{x:Operand}
def F9(b m ck:Nat)(sn:Array Nat)(s:St):St:=QbS b (.it m ck sn) s
theorem pF{m:Nat}{F D:Option R}(ts:List (Option R→Option R))(hB:G5 en ck)(ao:ops.toList=o::l)(ho:o.op=.next x false)(hw:ZV ops o (look s0.T)=some true)(hd:K5 N o.dst=true)(hT:Zo (look (ZH ops o s0.T true)) x=some (.iv b))(an:look s0.H b=some (.it m ck #[]))(aw:look s0.H m=some (.mg en ck es))(O:(m==b)=false)(U:es.all (·.1)=true)(Y:ts.length=es.length)(hC:∀t∈ts,jW F t)(Z:∀(sn:Array Nat) (Qn:R→AX→St→Prop),Nx N (none:Option R) s0 Q Qn→Yu D P N ops (qI P N ro B Qn) false [(none,[])] l (St.put (mk ops o (F9 b m ck sn s0) true) o.dst (.tup [.p (.val (.bool false))])))(ai:∀(i:Nat) (t:Option R→Option R) (k:List UInt8) (v:AV),ts[i]?=some t→es[i]?=some (true,k,v)→∀(sn:Array Nat) (q:Option R) (Qn:R→AX→St→Prop),Nx N q (F9 b m ck (sn.push (Zd en i)) s0) Q Qn→Yu (t q) P N ops (qI P N ro B Qn) false [(none,[])] l (St.put (mk ops o (F9 b m ck (sn.push (Zd en i)) s0) true) o.dst (.tup [.p (.val (.bool true)),.p (.val (Dt k)),v]))) :
  QU (si F D ts) P N ro (.loop (.seq (.region n ops false) B)) s0 Q:=by
 refine⟨fun r hr=>?_⟩;obtain⟨c1,c2⟩:=um hC hr;have O:¬m=b:=by simpa using O
 let good:Nat→Prop:=fun i=>∃t,ts[i]?=some t∧∀q,t q=q
 let ι:={ sn:Array Nat // ∀y∈sn.toList,∃i,good i∧y=Zd en i }
 have J:∀sn,look (F9 b m ck sn s0).H=upd (look s0.H) b (.it m ck sn):=fun sn=>by funext c;exact zB s0.H c an
 refine dU (fun j:ι=>F9 b m ck j.1 s0) (fun j:ι=>OO en j.1) ⟨#[],fun y hy=>by simp at hy⟩ (pz rfl ?_) ?_
 ·rw[J];funext c;by_cases e:b=c
  ·subst e;simp[upd,an]
  ·simp[upd,e]
 rintro⟨sn,ae⟩ K hK
 have key:QU (some r) P N ro (.seq (.region n ops false) B) (F9 b m ck sn s0) (fun r' e s'=>r'=r→andThen K (Q r) e s'):=by
  refine sS (sG ?_);rw[ao];refine OJ hw (by rw[ho,hd];rfl) (fun c hc=>by rw[ho] at hc;cases hc) fun φ M0 D' ac w rr=>?_
  have aa:look (F9 b m ck sn s0).H b=some (.it m ck sn):=by rw[J];simp[upd]
  have aj:look (F9 b m ck sn s0).H m=some (.mg en ck es):=by rw[J];simp[upd,Ne.symm O,aw]
  obtain⟨h1,hq⟩:=rr.hp.blk b _ aa;obtain⟨h2,hk,hv,_⟩:=rr.hp.blk m _ aj;rw[rW U] at hk hv;have al:en.toList.length=es.length:=by simpa using congrArg List.length hk
  have ad:=rr.ev (x:=x) (v:=.iv b) hT;simp only[Qg] at ad;rcases run_next_at (P:=P) w o.type (φ b) (φ m) ck ck sn en ck h1 h2 hB.2 (Yf _) with⟨g1,g2⟩|⟨e,g1,w1,g2,g3⟩
  ·
   have hD:D=some r:=by
    refine c2 fun t ht=>?_
    obtain⟨i,hi⟩:=List.getElem?_of_mem ht;have hlt:i<en.toList.length:=by rw[al,←Y];exact(MG.1 hi).1
    have au:(en.toList[i]).born∈sn.toList:=by
     have h5:en.toList[i]∈en.toList:=List.getElem_mem _;apply Classical.byContradiction;intro ax
     have:en.toList[i]∈(leftOf en sn).toList:=by
      simp only[leftOf,Array.toList_filter,List.mem_filter,Bool.not_eq_true'];refine⟨h5,?_⟩;rw[←Bool.not_eq_true,Array.contains_iff_mem];exact fun h=>ax (Array.mem_toList_iff.2 h)
     have h6:(leftOf en sn).toList=[]:=by
      rw[←List.length_eq_zero_iff,Array.length_toList];exact g1
     rw[h6] at this;cases this
    obtain⟨j,⟨t',ab,hid⟩,hj⟩:=ae _ au;have a6:j<en.toList.length:=by rw[al,←Y];exact(MG.1 ab).1
    have ba:Zd en j=(en.toList[j]).born:=by
     have:en[j]?=some (en.toList[j]):=by rw[←Array.getElem?_toList];exact List.getElem?_eq_getElem _
     simp only[Zd,this,Option.map_some,Option.getD_some]
    rw[ba] at hj
    have ay:i=j:=by
     have hp:=List.pairwise_iff_getElem.1 hB.1;have h8:i<(en.toList.map (·.born)).length:=by simpa using hlt
     have h9:j<(en.toList.map (·.born)).length:=by simpa using a6
     rcases Nat.lt_trichotomy i j with h|h|h
     ·have:=hp i j h8 h9 h;rw[List.getElem_map,List.getElem_map] at this;omega
     ·exact h
     ·have:=hp j i h9 h8 h;rw[List.getElem_map,List.getElem_map] at this;omega
    subst ay;rw[hi] at ab;cases ab;exact hid
   refine⟨.tup [.p (.val (.bool false))],mk ops o (F9 b m ck sn s0) true,rfl,?_,?_⟩
   ·have:=Z sn (fun r' e s'=>r'=r→andThen K (Q r) e s') ⟨fun _ _ h=>(by cases h),fun r' e s' hne h G=>(by
     subst G;cases e with
    |normal=>exact absurd rfl hne
    |_=>exact h)⟩
    exact⟨fun r' G=>by cases G;exact this.h r hD⟩
   ·refine Qt rr (v:=.tuple #[.bool false]) ?_ ?_
    ·simp[execOp,ho,ad.1,g2]
    ·simp only[Qg];exact⟨[.bool false],rfl,_,_,rfl,by simp[Qg,Q6],rfl⟩
  ·obtain⟨i,hi⟩:=List.getElem?_of_mem ((by simpa [leftOf] using g1:e∈en.toList∧_).1);have hlt:i<en.toList.length:=(MG.1 hi).1;obtain⟨t,ht⟩:∃t,ts[i]?=some t:=⟨_,List.getElem?_eq_getElem zo⟩;obtain⟨⟨fl,k,v⟩,he⟩:∃q,es[i]?=some q:=⟨_,List.getElem?_eq_getElem zo⟩;have az:fl=true:=Gp.1 U _ (List.mem_of_getElem? he);subst az;have ak:en[i]?=some e:=by rw[←Array.getElem?_toList];exact hi
   have ah:Zd en i=e.born:=by simp[Zd,ak]
   have ar:e.key=Dt k:=by
    have:=congrArg (·[i]?) hk;simp only[List.getElem?_map,hi,he,Option.map_some,Zf] at this;exact this
   obtain⟨q,BO,Tt⟩:∃q:Option R,t q=some r∧(q=none∨∀q,t q=q):=by
    rcases c1 t (List.mem_of_getElem? ht) with h|h
    ·exact⟨some r,h _,.inr h⟩
    ·exact⟨none,h _,.inl rfl⟩
   refine⟨.tup [.p (.val (.bool true)),.p (.val (Dt k)),v],mk ops o (F9 b m ck (sn.push (Zd en i)) s0) true,rfl,?_,?_⟩
   ·have:=ai i t k v ht he sn q (fun r' e s'=>r'=r→andThen K (Q r) e s') ⟨fun r' s' h3 h4 h5=>(by
      rcases Tt with rfl|hid
      ·cases h3
      ·refine hK s' ⟨⟨sn.push (Zd en i),fun y hy=>?_⟩,?_,h4⟩
       ·rw[Array.toList_push,List.mem_append,List.mem_singleton] at hy;rcases hy with hy|rfl
        ·exact ae y hy
        ·exact⟨i,⟨t,ht,hid⟩,rfl⟩
       ·show OO en (sn.push (Zd en i))<OO en sn;rw[ah];exact pE g1),fun r' e s' hne h G=>(by
     subst G;cases e with
    |normal=>exact absurd rfl hne
    |_=>exact h)⟩
    exact⟨fun r' G=>by cases G;exact this.h r BO⟩
   ·have E0:Zl φ (look (F9 b m ck sn s0).H) w φ (look (F9 b m ck sn s0).H) w1:=by
     rcases g2 with rfl|rfl
     ·exact Zl.refl _ _ _
     ·exact RV rfl rfl rfl rfl
    have X0:VQ φ (look (F9 b m ck sn s0).H) w φ (look (F9 b m ck sn s0).H) w1:=by
     rcases g2 with rfl|rfl
     ·exact VQ.refl _ _ _
     ·exact FE rfl
    have aq:Z9 φ (look (F9 b m ck sn s0).H) w1 M0:=by
     rcases g2 with rfl|rfl
     ·exact rr.hp
     ·exact Be (w:=w) (w':=w.drew) rfl E0 rr.hp
    have av:w1.heap[φ b]?=some (.mapIter (some (φ m)) ck sn ck):=by rcases g2 with rfl|rfl<;>exact h1
    obtain⟨E,X⟩:=NN (k1:=.it m ck (sn.push e.born)) (ob:=.mapIter (some (φ m)) ck (sn.push e.born) ck) aa rfl rfl aq
    have a7:look (mk ops o (F9 b m ck (sn.push (Zd en i)) s0) true).H=upd (look (F9 b m ck sn s0).H) b (.it m ck (sn.push e.born)):=by
     show look (F9 b m ck (sn.push (Zd en i)) s0).H=_;rw[J,J,ah];funext c;by_cases e:b=c
     ·subst e;simp[upd]
     ·simp[upd,e]
    rw[a7]
    have af:RelB φ (upd (look (F9 b m ck sn s0).H) b (.it m ck (sn.push e.born))) (w1.putObj (φ b) (.mapIter (some (φ m)) ck (sn.push e.born) ck)) (MM φ (upd (look (F9 b m ck sn s0).H) b (.it m ck (sn.push e.born))) M0) (φ b) (.it m ck (sn.push e.born)) :=
     ⟨World.putObj_heap_same (RQ.1 av).1,.mg en ck es,by simp[upd,Ne.symm O,aj],rfl⟩
    have a8:=(QZ (E.keeps M0) X).2 _ _ ((QZ (E0.keeps M0) X0).2 _ _ hv);refine⟨_,.tuple #[.bool true,e.key,e.val],w1.putObj (φ b) (.mapIter (some (φ m)) ck (sn.push e.born) ck),φ,?_,.inl rfl,?_,AU aa rfl rfl aq af,E0.trans E,VQ.trans E0.size X0 X⟩
    ·simp[execOp,ho,ad.1,g3];rfl
    ·simp only[Qg];refine⟨[.bool true,e.key,e.val],rfl,_,_,rfl,by simp[Qg,Q6],_,_,rfl,by simp[Qg,Q6,ar],_,_,rfl,?_,rfl⟩;exact D8 (i:=i) a8 (by rw[List.getElem?_map,he];rfl) (by rw[List.getElem?_map,hi];rfl)
 exact AR (key.h r rfl) fun e s' h=>h rfl
def M4{R:Type}(f:Nat→(Option R→Option R)→List UInt8→AV→Prop):Nat→List (Option R→Option R)→List (Bool×List UInt8×AV)→Prop|i,t::ts,e::es=>f i t e.2.1 e.2.2∧M4 f (i+1) ts es|_,_,_=>True
theorem ik{R:Type}{f:Nat→(Option R→Option R)→List UInt8→AV→Prop}:M4 f i [] es:=by unfold M4;trivial
theorem Jd{R:Type}{f:Nat→(Option R→Option R)→List UInt8→AV→Prop}{t:Option R→Option R}{ts:List (Option R→Option R)}{e:Bool×List UInt8×AV}(h:f i t e.2.1 e.2.2)(hs:M4 f (i+1) ts es):M4 f i (t::ts) (e::es):=⟨h,hs⟩
theorem gQ{R:Type}{f:Nat→(Option R→Option R)→List UInt8→AV→Prop}:∀{ts:List (Option R→Option R)} {es:List (Bool×List UInt8×AV)} {j i:Nat} {t:Option R→Option R} {e:Bool×List UInt8×AV},M4 f j ts es→ts[i]?=some t→es[i]?=some e→f (j+i) t e.2.1 e.2.2
|[],_,_,_,_,_,_,h,_=>by simp at h
|_::_,[],_,_,_,_,_,_,h=>by simp at h
|t0::ts,O::es,j,0,t,e,h,G,J=>by
  simp only[List.getElem?_cons_zero,Zf] at G J;subst G J;exact h.1
|t0::ts,O::es,j,i+1,t,e,h,G,J=>by
  have:=gQ h.2 (by simpa using G) (by simpa using J) (i:=i)
  rwa [show j+1+i=j+(i+1) by omega] at this
theorem sj{R:Type}{F:Option R}:∀t∈([]:List (Option R→Option R)),jW F t:=fun _ h=>by cases h
theorem pG{R:Type}{F:Option R}{t:Option R→Option R}{ts:List (Option R→Option R)}(h:jW F t)(hs:∀u∈ts,jW F u):∀u∈t::ts,jW F u:=fun u hu=>by
 rcases List.mem_cons.1 hu with rfl|hu
 ·exact h
 ·exact hs u hu
theorem uo{m:Nat}{F D:Option R}(ts:List (Option R→Option R))(hB:G5 en ck)(J:ops.toList=o::l)(ho:o.op=.next x false)(hw:ZV ops o (look s0.T)=some true)(hd:K5 N o.dst=true)(hT:Zo (look (ZH ops o s0.T true)) x=some (.iv b))(Z:look s0.H b=some (.it m ck #[]))(aa:look s0.H m=some (.mg en ck es))(ab:(m==b)=false)(Y:es.all (·.1)=true)(O:ts.length=es.length)(hC:∀t∈ts,jW F t)(G:∀(sn:Array Nat) (Qn:R→AX→St→Prop),Nx N (none:Option R) s0 Q Qn→Yu D P N ops (qI P N ro B Qn) false [(none,[])] l (St.put (mk ops o (F9 b m ck sn s0) true) o.dst (.tup [.p (.val (.bool false))])))(U:M4 (fun i t k v=>∀(sn:Array Nat) (q:Option R) (Qn:R→AX→St→Prop),Nx N q (F9 b m ck (sn.push (Zd en i)) s0) Q Qn→Yu (t q) P N ops (qI P N ro B Qn) false [(none,[])] l (St.put (mk ops o (F9 b m ck (sn.push (Zd en i)) s0) true) o.dst (.tup [.p (.val (.bool true)),.p (.val (Dt k)),v]))) 0 ts es) :
  QU (si F D ts) P N ro (.loop (.seq (.region n ops false) B)) s0 Q :=
 pF ts hB J ho hw hd hT Z aa ab Y O hC G fun i t k v h1 h2=>by
  have:=gQ U h1 h2
  rwa [Nat.zero_add] at this
end
section
variable {R:Type}{a:Option R}{P:Program}{N:Nat}{ops:Array Oper}{o:Oper}{l:List Oper}{acc:List Vf}{s:St}{Q:R→AX→St→Prop}
def QbV(P:Program)(T:Nat→Option AV)(h:QY)(t:TypeId)(x ix y:Operand):Kt:=(Xw P T h t x ix y).getD (.p (.val undef),none,[])
theorem OP{t:TypeId}(hw:ZV ops o (look s.T)=some true)(G:o.op=.insert t x ix y)(Z:K5 N o.dst=true)(hu:(Xw P (look (mk ops o s true).T) (look s.H) t x ix y).isSome=true)(h:Yu a P N ops Q false ((none,[])::acc) l (XN (mk ops o s true) o.dst (QbV P (look (mk ops o s true).T) (look s.H) t x ix y))):Yu a P N ops Q false acc (o::l) s:=by
 refine OJ hw (by rw[G,Z];rfl) (fun c hc=>by rw[G] at hc;cases hc) fun φ M0 D ac w r=>?_
 obtain⟨u,hu⟩:=RU.1 hu;have e:QbV P (look (mk ops o s true).T) (look s.H) t x ix y=u:=by unfold QbV;rw[hu];rfl
 rw[e] at h;have Y:=SK (o:={ o with op:=.mapUpdate t x ix y }) r rfl hu;obtain⟨v,q,m⟩:=u;cases q with
|none=>exact⟨v,mk ops o s true,rfl,(show XN (mk ops o s true) o.dst (v,none,m)=St.put (mk ops o s true) o.dst v by cases o.dst<;>rfl)▸h,by
   obtain⟨J,v',w',φ',O,U⟩:=Y;exact⟨J,v',w',φ',by rw[←O];simp[execOp,G],U⟩⟩
|some q =>
  obtain⟨b,k⟩:=q
  exact⟨v,⟨(mk ops o s true).T,(b,k)::s.H⟩,rfl,(show XN (mk ops o s true) o.dst (v,some (b,k),m)=St.put ⟨(mk ops o s true).T,(b,k)::s.H⟩ o.dst v by cases o.dst<;>rfl)▸h,by
   obtain⟨J,v',w',φ',O,U⟩:=Y;refine⟨J,v',w',φ',by rw[←O];simp[execOp,G],?_⟩;show _∧_;rw[show look ((b,k)::s.H)=ap (look s.H) (some (b,k)) from bN _ _ _];exact U⟩
end
section
variable {P:Program}{ops:Array Oper}{Q:Exit→Act→World→Prop}{k:Nat}{ok:Oper}
theorem pI(h:Ib k ops=true)(hq:¬LetsOut Q)(hp:∀c a w v,Q (.panic c) (a.put ((ops[k]?).bind (·.dst)) v) w→Q (.panic c) a w)(hh:wpAny P .any (XZ k ops) Q (XZ k ops).size (Array.replicate (XZ k ops).size false) a w) :
  wpAny P .any ops Q ops.size (Array.replicate ops.size false) a w:=by
 unfold Ib at h;cases hk:ops[k]? with
|none=>rw[hk] at h;cases h
|some ok =>
  rw[hk] at h;simp only[KL] at h;obtain⟨⟨⟨O,ac⟩,ae⟩,Y⟩:=h;have ai:k<ops.size:=(RQ.1 hk).1;rw[xY hk] at hh;obtain⟨n,hn⟩:∃n,ops.size=n+1:=⟨ops.size-1,by omega⟩
  have Z:∃x,ok.op=.move x∧ok.guard=none:=by
   unfold xW at O;split at O
   ·exact⟨_,by assumption,by assumption⟩
   ·cases O
  obtain⟨x,af,U⟩:=Z
  have J:∀w,(execOp a.eval ok).run P w=.ok (.value (a.eval x)) w:=by
   intro w;simp[execOp,af]
  have hy:Yields P ops ok (a.eval x) a:=.inl ⟨by simp[Region.wanted,U],J⟩
  have ah:(0:Nat)∈Region.ready .any (XZ k ops) (Array.replicate (n+1) false):=by
   rw[mem_ready];exact⟨by simp,_,MS hk,fun e he=>by simp at he⟩
  have ad:k∈Region.ready .any ops (Array.replicate (n+1) false):=by
   rw[mem_ready];refine⟨by simp[show k<n+1 by omega],ok,hk,fun e he hb=>?_⟩;have:=Gp.1 ac e (by simpa using he);rw[hb] at this;cases this
  rw[hn] at hh ⊢;have G:=hh.2 0 ah;unfold wpOp at G;rw[MS hk] at G;simp only[Region.wanted,U,if_true] at G
  have h3:wpAny P .any (XZ k ops) Q n ((Array.replicate (n+1) false).setIfInBounds 0 true) (a.put ok.dst (a.eval x)) w:=by
   rcases G with G|⟨_,G⟩
   ·unfold Oper.wp at G;rw[show ∀g,execOp a.eval { dst:=ok.dst,op:=ok.op,type:=ok.type,pos:=ok.pos,after:=#[],guard:=g }=execOp a.eval ok from fun _=>rfl,J w] at G;exact G
   ·exact absurd G hq
  have h4:wpAny P .any ops Q n ((Array.replicate (n+1) false).setIfInBounds k true) (a.put ok.dst (a.eval x)) w:=by
   refine xZ hk n _ _ _ w (by simp[hn]) (by simp[hn]) zq ?_ ?_ h3
   ·have:k<n+1:=by omega
    simp[this]
   ·intro i hi;rw[getD_set_ne false (rz hi).symm,getD_set_ne false (Ne.symm hi)];simp[Array.getElem?_replicate];split<;>split<;>rfl
  exact wpAny_first hk (Region.noSelect_spec ae) (fun c a w h=>hp c a w _ (by rw[hk];exact h)) n _ a w (fun j oj hj hne ab aa=>Region.free_spec hk (by rw[hn] at Y;exact Y) j oj hj hne ab aa) ad hy h4
end
def L6(d:Option Tmp)(s:St):St:=⟨s.T.filter fun p=>some p.1 != d,s.H⟩
theorem Tf{d:Option Tmp}{t:Nat}{x:AV}:∀{T:List (Nat×AV)},look (T.filter fun p=>some p.1 != d) t=some x→look T t=some x∧d≠some t
|[],h=>by cases h
|(c,y)::T,h=>by
  by_cases e:some c=d
  ·have hf:((c,y)::T).filter (fun p=>some p.1 != d)=T.filter fun p=>some p.1 != d:=by simp[e]
   rw[hf] at h;have O:=Tf h;refine⟨?_,O.2⟩;have G:c≠t:=fun J=>O.2 (by rw[←e,J])
   simp[look,G,O.1]
  ·have hf:((c,y)::T).filter (fun p=>some p.1 != d)=(c,y)::T.filter fun p=>some p.1 != d:=by simp[e]
   rw[hf] at h;simp only[look] at h ⊢;by_cases G:c=t
   ·subst G;simp only[if_true] at h ⊢;exact⟨h,fun J=>e J.symm⟩
   ·simp only[G,if_false] at h ⊢;exact Tf h
def qd{R:Type}(d:Option Tmp)(Q:R→AX→St→Prop):R→AX→St→Prop:=fun r x s=>match x with|.normal=>Q r .normal s|.panic v=>Q r (.panic v) (L6 d s)|_=>False
theorem su{d:Option Tmp}(r:ZG φ M0 N D (look s.T) (look s.H) (a.put d v) w):ZG φ M0 N D (look (L6 d s).T) (look (L6 d s).H) a w:=by
 cases d with
|none =>
  refine⟨r.dfs,r.siz,r.hp,fun t x G=>r.tm t x (Tf G).1⟩
|some d =>
  refine⟨r.dfs,by have:=r.siz;simpa [Act.put] using this,r.hp,fun t x G=>?_⟩;obtain⟨U,O⟩:=Tf G;have J:=r.tm t x U;have:d≠t:=fun e=>O (by rw[e])
  have e:(a.put (some d) v).tmps.getD t undef=a.tmps.getD t undef:=by simp[Act.put,Array.getElem?_setIfInBounds_ne this]
  rw[e] at J;exact J
theorem pJ{d:Option Tmp}(r:ZG φ M0 N D (look s.T) (look s.H) a w):ZG φ M0 N D (look (L6 d s).T) (look (L6 d s).H) a w :=
 ⟨r.dfs,r.siz,r.hp,fun t x G=>r.tm t x (Tf G).1⟩
theorem drop_drop(d:Option Tmp)(s:St):L6 d (L6 d s)=L6 d s:=by simp[L6,List.filter_filter]
theorem sw{R:Type}{G:R}{Q:R→AX→St→Prop}(k:Nat)(Z:P.follows .mixedOrders=true)(J:Gj ops=true)(hf:Ib k ops=true)(h:Yb P N (XZ k ops) (qd ((ops[k]?).bind (·.dst)) Q G) (XZ k ops).toList [] s):Ex P N ro (.region id ops true) s (Q G):=by
 intro φ M0 D a w r;refine wpIn_region_any Z (MO J Ju _ _ _ _ ?_);have O:=I1 h r
 have Y:=pI hf Ju (fun c U w' v hc=>by
  obtain⟨φ',x,s',g1,g2,g3,g4⟩:=hc;cases x with
 |normal=>cases g4
 |exit i=>cases g4
 |ret=>cases g4
 |panic u =>
   refine⟨φ',.panic u,L6 ((ops[k]?).bind (·.dst)) s',?_,su g2,g3,g4⟩;show Q G (.panic u) (L6 _ (L6 _ s'));rw[drop_drop];exact g1) O
 refine UC ?_ _ _ _ _ Y;rintro e U w' ⟨φ',x,s',g1,g2,g3,g4⟩;cases x with
|normal=>exact⟨φ',.normal,s',g1,g2,g3,g4⟩
|exit i=>exact g1.elim
|ret=>exact g1.elim
|panic v=>exact⟨φ',.panic v,L6 ((ops[k]?).bind (·.dst)) s',g1,pJ g2,g3,g4⟩
section
variable {R:Type}{a:Option R}{P:Program}{N:Nat}{ro:Option Nat}{id:Nat}{ops:Array Oper}{s s':St}{Q:R→AX→St→Prop}{d:Option Tmp}{v:AV}
theorem sD(k:Nat)(O:P.follows .mixedOrders=true)(J:Gj ops=true)(hf:Ib k ops=true)(h:Yu a P N (XZ k ops) (qd ((ops[k]?).bind (·.dst)) Q) true [] (XZ k ops).toList s):QU a P N ro (.region id ops true) s Q:=⟨fun r G=>sw k O J hf (h.h r G)⟩
theorem QfB(h:ZL a Q .normal s):ZL a (qd d Q) .normal s:=⟨fun r G=>h.h r G⟩
theorem QfC(e:L6 d s=s')(h:ZL a Q (.panic v) s'):ZL a (qd d Q) (.panic v) s:=by
 subst e;exact⟨fun r G=>h.h r G⟩
end
abbrev FV:=Fn×Array Value×Array Value
def fv(x:FV):Value:=.func x.1 x.2.1 x.2.2
def isFn:Option AV→Bool|some (.fn _ _ _)=>true|_=>false
theorem jo{o:Option AV}(J:isFn o=true):∃x,o=some x∧∀v,Qg φ h w M x v→∃u:FV,v=fv u:=by
 match o,J with
|some (.fn f a b),_ =>
  refine⟨_,rfl,fun v G=>?_⟩;simp only[Qg] at G;obtain⟨l,m,rfl,_⟩:=G;exact⟨(f,l.toArray,m.toArray),rfl⟩
theorem PD{R:Type}{a:Option R}{Q:R→AX→St→Prop}(b k:Nat)(hb:isFn (cellAt b k s)=true)(h:∀u:FV,QU a P N ro c (GD b k (.p (.val (fv u))) s) Q):QU a P N ro c s Q:=by
 refine⟨fun r Z=>?_⟩;intro φ M0 D U w r1;obtain⟨y,hy,O⟩:=jo (φ:=φ) (h:=look s.H) (w:=w) (M:=MM φ (look s.H) M0) hb;obtain⟨vo,cs,J,Tt⟩:=LZ hy;obtain⟨c1,g1,g2⟩:=r1.hp.blk b _ J;obtain⟨u,g3,g4⟩:=FM g2 Tt;obtain⟨u,rfl⟩:=O u g4;have Y:look (GD b k (.p (.val (fv u))) s).H=upd (look s.H) b (.box vo (cs.set k (.p (.val (fv u))))):=Oz J
 have r2:ZG φ M0 N D (look (GD b k (.p (.val (fv u))) s).T) (look (GD b k (.p (.val (fv u))) s).H) U w:=by
  rw[Y];refine yo r1 J fun c2 G=>?_
  rw[g1] at G;cases G;exact HY g2 g3 (by simp[Qg,Q6])
 have E1:Zl φ (look s.H) w φ (look (GD b k (.p (.val (fv u))) s).H) w:=by rw[Y];exact Pq J
 exact wpIn_mono ((h u).h r Z φ M0 D U w r2) fun _ _ _ p=>p.trans E1
theorem OQ{R:Type}{a:Option R}{K:R→St→Prop}{Q:R→AX→St→Prop}{cs:List AV}(k:Nat)(hk:isFn (cs[k]?)=true)(h:∀u:FV,BM a P N f (.agg (cs.set k (.p (.val (fv u))))::args) dst s K Q):BM a P N f (.agg cs::args) dst s K Q:=by
 refine⟨fun r Z=>?_⟩;intro φ M0 D ac w vs r1 O;simp only[Ql] at O;obtain⟨y,ys,rfl,U,G⟩:=O;simp only[Qg] at U;obtain⟨l,rfl,Y⟩:=U;obtain⟨x,hx,J⟩:=jo (φ:=φ) (h:=look s.H) (w:=w) (M:=MM φ (look s.H) M0) hk;obtain⟨u,g1,g2⟩:=FM Y hx;obtain⟨u,rfl⟩:=J u g2;refine(h u).h r Z φ M0 D ac w _ r1 ?_;simp only[Ql];refine⟨_,ys,rfl,?_,G⟩;simp only[Qg];exact⟨l,rfl,by have:=HY (k:=k) (x:=.p (.val (fv u))) (u:=fv u) Y g1 (by simp[Qg,Q6]);exact this⟩
theorem Ui(m:Nat)(es:List (Bool×List UInt8×AV))(J:look s.H m=some (.mg en ck es):=by kernel_rfl):Weak N s (QbS m (.mf es) s):=by
 intro φ M0 D a w r;have hH:look (QbS m (.mf es) s).H=upd (look s.H) m (.mf es):=by funext c;exact zB s.H c J
 obtain⟨Z,h2,h3,Y⟩:=r.hp.blk m _ J;obtain⟨U,O,X2⟩:=gL (k1:=.mf es) J rfl rfl r.hp fun h' M' G X=>⟨en,ck,Z,h2,(QZ G X).2 _ _ h3,Y⟩
 rw[hH];exact⟨φ,r.keep O X2 U,O⟩
def kOf(s:St):Ro:=⟨s.T.map (·.1),s.H.map (·.1),[],[]⟩
section
variable {R V:Type}{o:Option R}{P:Program}{N:Nat}{ro:Option Nat}{c y:Code}{s:St}{Q:R→AX→St→Prop}{ops:Array Oper}{draw:Bool}{id:Nat}
theorem Qi(G:P.follows .mixedOrders=true)(s':St)(h:QU o P N ro y s' Q)(J:(Cn P N ops draw s).bind (Dv (kOf s'))=some s':=by kernel_rfl):QU o P N ro (.seq (.region id ops draw) y) s Q:=sR G _ s' J h
theorem Qm(s':St)(h:QU o P N ro y s' Q)(hw:Dv (kOf s') s=some s':=by kernel_rfl):ZL o (qI P N ro y Q) .normal s:=sN _ s' hw h
theorem En(s':St)(h:QU o P N ro c s' Q)(hw:Dv (kOf s') s=some s':=by kernel_rfl):QU o P N ro c s Q:=sP _ s' hw h
theorem QO{S:V→St}(v:V)(hw:Dv (kOf (S v)) s=some (S v)):ZL (some v) (aG N S) .normal s:=dY v _ hw
theorem KF{k:V→Option R}{S:V→St}(v:V)(hw:Dv (kOf (S v)) s=some (S v):=by kernel_rfl):ZL (k v) (kQ N k S Q) .normal s:=Qdr v _ hw
theorem JJ(h:Dv (kOf s') s=some s':=by kernel_rfl):Weak N s s':=F5 h
end
section
variable {R V:Type}{a a1 a2:Option R}{P:Program}{N:Nat}{ops:Array Oper}{o:Oper}{l l':List Oper}{acc:List Vf}{s:St}{Q:R→AX→St→Prop}
theorem Vj{t:TypeId}{S sz kk g:Nat}{es:List (List PV)}{k:IntKind}{n:Int}(U:o.op=.indexAddr t x ix)(Y:Zo T ix=some (.p (.val (.int k n))):=by kernel_rfl)(hx:Zo T x=some (.vptr tk es.length kk g):=by kernel_rfl)(hb:h tk=some (.vec ty S es):=by kernel_rfl)(Z:P.underlying t=some (.array len e):=by kernel_rfl)(hi:(P.info? e).map (·.size)=some sz:=by kernel_rfl)(G:decide (0≤n∧n<len)=true:=by kernel_rfl):V6 P o T h=some (.vptr tk es.length kk (g+n.toNat*sz),none,[tk]):=by
 obtain⟨i,J,O⟩:=LC.1 hi;have G:=of_decide_eq_true G;simp[V6,U,qo,hx,Jt,Y,Z,hb,J,O,G.1,G.2]
theorem X5{l:List α}{n:Int}{x y:α}(h:Za l n=some x):Za (List.set l (Int.toNat n) y) n=some y:=by
 unfold Za at h ⊢;split at h
 ·cases h
 ·rename_i J;rw[if_neg J];obtain⟨G,_⟩:=MG.1 h;rw[List.getElem?_set_self G]
theorem il{t:TypeId}{S:Nat}{l:List α}(hw:ZV ops o (look s.T)=some true)(O:o.op=.binOp .eql t x y ty)(Y:K5 N o.dst=true)(ht:P.underlying t=some (.slice e))(hx:Zo (look (mk ops o s true).T) x=some (.p (.sl S (List.map enc l))))(Z:Zo (look (mk ops o s true).T) y=some (.p (.val (.slice none 0 0))))(hg:(!List.isEmpty l)=true)(h:Yu a P N ops Q false ((none,[])::acc) l' (St.put (mk ops o s true) o.dst (.p (.val (.bool false))))):Yu a P N ops Q false acc (o::l') s:=by
 refine OJ hw (by rw[O,Y];rfl) (fun c hc=>by rw[O] at hc;cases hc) fun φ M0 D ac w r=>⟨_,mk ops o s true,rfl,h,?_⟩
 have G:=r.ev hx;have J:=r.ev Z;simp only[Qg,Q6] at G J;rcases G with⟨rr,oo,cap,hv,_⟩|⟨U,_⟩
 ·obtain⟨g1,_⟩:=zg (P:=P) (w:=w) O ht hv J;exact Qt r (g1 rfl) (by simp[Qg,Q6])
 ·have:l=[]:=by simpa using U
  subst this;cases hg
theorem GH{k f S:Nat}{es:List (List PV)}(G:nn=es.length)(J:o.op=.nilCheck x)(O:Zo T x=some (.vptr tk nn k f):=by kernel_rfl)(hb:h tk=some (.vec ty S es):=by kernel_rfl):V6 P o T h=some (.vptr tk es.length k f,none,[tk]):=by
 subst G;exact TJ J O hb
end
def ZP(m:Nat):Int:=m
theorem iq{m:Nat}{i:Int}{v:α}(h:Za (List.take m l) i=some v):Za l i=some v:=by
 unfold Za at h ⊢;split at h
 ·cases h
 ·rename_i G;rw[if_neg G];rw[List.getElem?_take] at h;split at h
  ·exact h
  ·cases h
theorem sF{m:Nat}{i:Int}{v:α}(h:Za (List.take m l) i=some v):0≤i∧i.toNat<m:=by
 unfold Za at h;split at h
 ·cases h
 ·rw[List.getElem?_take] at h;split at h
  ·exact⟨by omega,by assumption⟩
  ·cases h
def Jw{α:Type}(nn m:Nat)(l:List α)(i:Int):Option α:=cond (Nat.beq nn l.length) (Za (List.take m l) i) none
theorem sH{m:Nat}{i:Int}{v:α}(h:Jw nn m l i=some v):nn=l.length:=by
 unfold Jw at h;cases e:Nat.beq nn l.length with
|false=>rw[e] at h;cases h
|true=>exact Nat.eq_of_beq_eq_true e
theorem sI{m:Nat}{i:Int}{v:α}(h:Jw nn m l i=some v):Za (List.take m l) i=some v:=by
 have e:=sH h;unfold Jw at h;rw[e,Nat.beq_refl] at h;exact h
theorem Vr{m:Nat}{i:Int}{v:α}(h:Jw nn m l i=some v):Za l i=some v:=iq (sI h)
def L8(nn:Nat)(lo hi:Int)(len:Nat):Bool:=Nat.beq nn len&&sliceB lo hi len
def sJ(nn k m len:Nat):Bool:=Nat.beq nn len&&Nat.ble (k+m) len
section
variable {P:Program}{o:Oper}{T:Nat→Option AV}{h:QY}
theorem Kh{t:TypeId}{S m:Nat}{k:IntKind}{n:Int}(Y:o.op=.indexAddr t x ix)(Z:Zo T ix=some (.p (.val (.int k n))))(hx:Zo T x=some (.vtl S tk nn 0 m))(hb:h tk=some (.vec ty S (List.map enc l)))(ht:P.underlying t=some (.slice e))(hi:(P.info? e).map (·.size)=some S)(v:α)(U:Jw nn m l n=some v):V6 P o T h=some (.vptr tk (List.map enc l).length n.toNat 0,none,[tk]):=by
 have G:nn=(List.map enc l).length:=by rw[RS];exact sH U
 subst G;obtain⟨h0,h1⟩:=sF (sI U);obtain⟨i,J,O⟩:=LC.1 hi;simp[V6,Y,qo,hx,Js,Xf,Xd,Z,ht,hb,J,O,h0,h1,FX,elems]
theorem jq{t:TypeId}{S k m:Nat}(J:o.op=.call ⟨.builtin .len,#[x],#[t]⟩)(U:Zo T x=some (.vtl S tk n k m))(hb:h tk=some (.vec ty S (List.map enc l)))(O:P.underlying t=some (.slice e))(hp:U9 P T o=none)(G:Nat.beq n l.length=true):V6 P o T h=some (.p (.val (.int .i64 (ZP m))),none,[tk]):=by
 have G:=Nat.eq_of_beq_eq_true G;subst G;simp[V6,J,qo,U,vL,SE,vY,vU,O,hb,FX,elems,hp,ZP]
theorem OT{t:TypeId}{S:Nat}{a b:Int}(ho:o.op=.slice t x lo hi none)(ht:P.underlying t=some (.slice e))(U:(P.info? e).map (·.size)=some S)(hx:Zo T x=some (.vsl S tk nn))(hb:h tk=some (.vec ty S (List.map enc l)))(Y:BN T 0 lo=some a)(O:BN T nn hi=some b)(hp:U9 P T o=none)(hc:L8 nn a b l.length=true):V6 P o T h=some (.vtl S tk nn a.toNat (b.toNat-a.toNat),none,[tk]):=by
 simp only[L8,KL] at hc;obtain⟨G,hc⟩:=hc;have G:nn=(List.map enc l).length:=by rw[RS];exact Nat.eq_of_beq_eq_true G
 subst G;obtain⟨i,Z,J⟩:=LC.1 U;simp only[sliceB,Ii] at hc;have h1:=TK (d:=0) Y hc.1;have h2:=TK O zo;have h5:True∧S=i.size∧a.toNat≤b.toNat∧b.toNat≤(List.map enc l).length:=⟨trivial,J.symm,by omega,by simp;omega⟩;have h6:Hq P T t x lo hi none=none:=by simp[Hq,ht,hx,elems]
 have h7:TD P T h t x lo hi none=some (.vtl S tk (List.map enc l).length a.toNat (b.toNat-a.toNat),none,[tk]):=by
  simp only[TD,ht,hx,hb,Z,h1,h2];rw[if_pos h5]
 simp only[V6,ho,h6,h7,hp,FX]
theorem uq{t:TypeId}{k m:Nat}{l:List Int}{enc:Int→List PV}{kk:IntKind}(Z:o.op=.call ⟨.builtin .clear,#[x],#[t]⟩)(ht:P.underlying t=some (.slice e))(hi:(P.info? e).bind (fun i=>i.zero.map fun z=>(i.size,z))=some (1,.int kk 0))(hx:Zo T x=some (.vtl 1 tk nn k m))(hb:h tk=some (.vec ty 1 (List.map enc l)))(hz:enc 0=[.val (.int kk 0)])(hc:sJ nn k m l.length=true):V6 P o T h=some (.tup [],some (tk,.vec ty 1 (List.map enc (List.take k l++List.replicate m 0++List.drop (k+m) l))),[tk]):=by
 simp only[sJ,KL] at hc;obtain⟨J,hc⟩:=hc;have J:nn=(List.map enc l).length:=by rw[RS];exact Nat.eq_of_beq_eq_true J
 subst J;obtain⟨i,U,Y⟩:=Nw.1 hi;obtain⟨z,O,G⟩:=LC.1 Y;simp only[DC] at G;obtain⟨G,rfl⟩:=G;have h1:=Nat.le_of_ble_eq_true hc;have h2:True∧True∧i.size=1∧k+m≤(List.map enc l).length:=⟨trivial,trivial,G,by simpa using h1⟩;simp only[V6,Z,DY,ht,hx,hb,U,O];rw[if_pos h2];simp only[List.map_append,List.map_take,List.map_drop,List.map_replicate,hz]
end
end Go.Abs
namespace Go.Proofs
open Go Go.Abs
set_option maxRecDepth 100000
abbrev VI(n:Int):PV:=.val (.int .i64 n)
abbrev VU(n:Int):PV:=.val (.int .u64 n)
abbrev VB(b:Bool):PV:=.val (.bool b)
abbrev VS(s:List UInt8):PV:=.val (.string (DF s))
abbrev I(n:Int):AV:=.p (.val (.int .i64 n))
abbrev B8(n:Int):AV:=.p (.val (.int .u8 n))
abbrev B(b:Bool):AV:=.p (.val (.bool b))
abbrev S(s:List UInt8):AV:=.p (.val (.string (DF s)))
def ci(n:Int):List PV:=[VI n]
abbrev zS:AV:=.p (.val (.slice none 0 0))
abbrev mI:List (List PV)→List (List PV):=List.map Vx
abbrev hS(w:Option Addr)(l c:Nat):Go.Abs.AV:=.p (.val (.slice w l c))
abbrev ZT:Go.Abs.AV:=.ptr 1000 0
abbrev Vs:Go.Abs.AV:=.ptr 1001 0
abbrev XL:Go.Abs.AV:=.ptr 1002 0
abbrev EQ:Go.Abs.AV:=.ptr 1003 0
abbrev qq(n:Nat):Nat×Go.Abs.AV:=(n,.ptr n 0)
def cb(n:Bool):List PV:=[VB n]
def Zv(n:List UInt8):List PV:=[VS n]
theorem Qf:Tryz.prog.follows .mixedOrders=true:=by kernel_rfl
structure V9 where
 Rated:Int
 Heat:Int
deriving DecidableEq
def V9.cs(x:V9):List PV:=[VI x.Rated,VI x.Heat]
structure Z0 where
 Ambient:Int
 Most:Int
 Gain:Int
 Loss:Int
 Den:Int
deriving DecidableEq
def Z0.cs(x:Z0):List PV:=[VI x.Ambient,VI x.Most,VI x.Gain,VI x.Loss,VI x.Den]
structure ZU where
 Name:List UInt8
 Up:Int
 Limit:Int
 Neutral:Int
 Fuse:V9
 Cable:Z0
deriving DecidableEq
def ZU.cs(x:ZU):List PV:=[VS x.Name,VI x.Up,VI x.Limit,VI x.Neutral,VI x.Fuse.Rated,VI x.Fuse.Heat,VI x.Cable.Ambient,VI x.Cable.Most,VI x.Cable.Gain,VI x.Cable.Loss,VI x.Cable.Den]
abbrev UU:List ZU→List (List PV):=List.map ZU.cs
structure Zk where
 Name:List UInt8
deriving DecidableEq
def Zk.cs(x:Zk):List PV:=[VS x.Name]
abbrev Yw:List Zk→List (List PV):=List.map Zk.cs
structure K3 where
 Name:List UInt8
 Owner:Int
 Rank:Int
 Card:Int
deriving DecidableEq
def K3.cs(x:K3):List PV:=[VS x.Name,VI x.Owner,VI x.Rank,VI x.Card]
abbrev Rw:List K3→List (List PV):=List.map K3.cs
structure Kj where
 Name:List UInt8
 At:Int
 Phases:Int
 Min:Int
 Max:Int
 Step:Int
 Fallback:Int
 Owner:Int
deriving DecidableEq
def Kj.cs(x:Kj):List PV:=[VS x.Name,VI x.At,VI x.Phases,VI x.Min,VI x.Max,VI x.Step,VI x.Fallback,VI x.Owner]
abbrev Y1:List Kj→List (List PV):=List.map Kj.cs
structure ZA where
 Name:List UInt8
 Charger:Int
deriving DecidableEq
def ZA.cs(x:ZA):List PV:=[VS x.Name,VI x.Charger]
abbrev JZ:List ZA→List (List PV):=List.map ZA.cs
structure Qo where
 Conductors:List ZU
 Owners:List Zk
 Contracts:List K3
 Chargers:List Kj
 Bays:List ZA
deriving DecidableEq
def Qo.cs(x:Qo):List PV:=[.sl 11 (List.map ZU.cs x.Conductors),.sl 1 (List.map Zk.cs x.Owners),.sl 4 (List.map K3.cs x.Contracts),.sl 8 (List.map Kj.cs x.Chargers),.sl 2 (List.map ZA.cs x.Bays)]
structure Wi where
 Kind:Int
 Text:List UInt8
 N:Int
 At:Int
deriving DecidableEq
def Wi.cs(x:Wi):List PV:=[VI x.Kind,VS x.Text,VI x.N,VI x.At]
abbrev LF:List Wi→List (List PV):=List.map Wi.cs
structure Yh where
 Err:Int
 At:Int
deriving DecidableEq
def Yh.cs(x:Yh):List PV:=[VI x.Err,VI x.At]
abbrev L9:List Yh→List (List PV):=List.map Yh.cs
structure GN where
 Kind:Int
 Name:List UInt8
 N:Int
 At:Int
 Kids:List (List PV)
def GN.cs(x:GN):List PV:=[VI x.Kind,VS x.Name,VI x.N,VI x.At,.sl 5 (List.map Vx x.Kids)]
def GN.of:List PV→Option GN|[.val (.int .i64 v0),.val (.string J),.val (.int .i64 v2),.val (.int .i64 v3),.sl G v4]=>if G=5 then some ⟨v0,XV J,v2,v3,v4⟩ else none|_=>none
theorem GN.of_cs(r:List PV)(x:GN)(h:GN.of r=some x):GN.cs x=r:=by
 unfold GN.of at h;split at h
 ·split at h
  ·rename_i hs;cases h;simp[GN.cs,kH,gG,hs]
  ·cases h
 ·cases h
structure Ym where
 tks:List Wi
 pos:Int
 length:Int
 dg:List Yh
deriving DecidableEq
def Ym.cs(x:Ym):List PV:=[.sl 4 (List.map Wi.cs x.tks),VI x.pos,VI x.length,.sl 2 (List.map Yh.cs x.dg)]
structure Yp where
 kind:Int
 index:Int
deriving DecidableEq
def Yp.cs(x:Yp):List PV:=[VI x.kind,VI x.index]
def Q8(x:List UInt8):Value:=.string (DF x)
def Q9(x:Bool):PV:=VB x
def Qc(x y:List UInt8):Bool:=Zb x y
def Je(x:List UInt8):Value:=.string (DF x)
def Jf(x:Yp):PV:=.val (.agg #[.int .i64 x.kind,.int .i64 x.index])
def QF(x y:List UInt8):Bool:=Zb x y
structure KJ where
 from_:Int
 to_:Int
deriving DecidableEq
def KJ.cs(x:KJ):List PV:=[VI x.from_,VI x.to_]
abbrev ER:List KJ→List (List PV):=List.map KJ.cs
end Go.Proofs
