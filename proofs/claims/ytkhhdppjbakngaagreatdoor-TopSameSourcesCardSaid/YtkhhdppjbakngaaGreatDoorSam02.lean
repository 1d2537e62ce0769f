/-
  A part of the proof of a statement of the seat YtkhhdppjbakngaaGreatDoor.
-/
import Derived.Test.YtkhhdppjbakngaaGreatDoorSam01
set_option linter.unusedVariables false
namespace Go.Abs
open Go
variable {D:DB}{H:List (Nat×Blk)}{K:St→Prop}{M M' M0:ZK}{N:Nat}{P:Program}{Q:AX→St→Prop}{Q':Exit→Act→World→Prop}{R:Kw→QN→Prop}{T T':Nat→Option AV}{a:Act}{args args':List AV}{b:Nat}{body c:Code}{d:Nat}{dst:Option Tmp}{e:TypeId}{α:Type}{enc:α→List PV}{f:FuncId}{fn:Func}{g:FuncId}{h h' h0:QN}{hc hc':List (Nat×Blk)}{i id:Nat}{ix:Operand}{n:Nat}{nf:TJ}{o:Oper}{off:Nat}{ok:Bool}{ops:Array Oper}{p:AV}{pd:Option Code}{ro:Option Nat}{s s' s1:St}{st:LoopState}{sv:AV}{tx ty:TypeId}{v:Value}{w w' w'' w0:World}{x y:Operand}{β:Type}{ρ φ φ' φ0:Nat→Nat}
theorem SI{x:AV}(hc:Za P f args' (.panic x))(Y:Nu args args')(hn:Y5 args'=true)(O:Yk x=true)(hk:Q (.panic x) s):LV P N f args dst s K Q:=by
 intro φ M0 D a w vs r ha;have hH:ZN φ Lj w (MB φ (look s.H) w M0):=Hr (fun x o hm=>wH hm) r.hp.gm.w r.hp.gm.mb;have hM:∀r o v,w.cell? ⟨r,o,none⟩=some v→¬MM φ (look s.H) M0 r o→w.cell? ⟨r,o,none⟩=some v∧¬MM φ Lj (MB φ (look s.H) w M0) r o:=fun r o v G J=>⟨G,fun W=>W.elim WM (fun h4=>J h4.1)⟩
 refine(hc φ (MB φ (look s.H) w M0) w vs hH ((Ji hM).2 _ _ hn (Xc.2 _ _ _ Y ha))).mono ?_;rintro e w' ⟨φ',r',h',⟨rfl,rfl⟩,aa,E,v,rfl,hv⟩;have U:∀ro o v,w'.cell? ⟨ro,o,none⟩=some v→¬MM φ' Lj (MB φ (look s.H) w M0) ro o→w'.cell? ⟨ro,o,none⟩=some v∧¬MM (K5 φ w.heap.size (w'.heap.size-w.heap.size)) (look s.H) M0 ro o:=fun ro o v G J=>⟨G,Ak r.hp E.size G (fun W=>J (.inr W))⟩
 obtain⟨r,E1,X1,hC⟩:=r.lift (w'.heap.size-w.heap.size);obtain⟨E2,Z,H2⟩:=UM E.os E.tape E.output E.size (fun x O=>E.same x O (fun b hb=>absurd rfl hb)) r.hp hC;have r2:Zn _ M0 N D (look s.T) (look s.H) a w':=r.keep E2 Z H2;exact⟨_,.panic x,s,hk,r2,E1.trans E2,v,rfl,(Ji U).1 _ _ O hv⟩
def ZB(ops:Array Oper)(o:Oper)(T:Nat→Option AV):Option Bool :=
 match o.guard with
|none=>some true
|some (j,want) =>
  match ops[j]? with
 |some G=>match G.dst with
  |some d=>match T d with
   |some (.p (.val (.bool b)))=>some (b==want)
   |some (.p (.val (.tuple _)))=>some false
   |_=>none
  |none=>some false
 |none=>some false
theorem FC(r:Zn φ M0 N D T h a w){t:Bool}(G:ZB ops o T=some t) :
  Region.wanted o (yielded ops a.tmps)=t:=by
 unfold ZB at G;unfold Region.wanted;split at G
 ·simp only[QW] at G;subst G;simp[*]
 ·rename_i j want hg;simp only[hg];split at G
  ·rename_i oj O;split at G
   ·rename_i d U;split at G
    ·rename_i b hb;simp only[QW] at G;subst G;obtain⟨Y,J⟩:=r.tm d _ hb;simp only[Qe,QM] at J;have hlt:d<a.tmps.size:=by rw[r.siz];exact Y
     have W:a.tmps[d]?=some (.bool b):=by
      rw[Array.getElem?_eq_getElem hlt];rw[Array.getD_eq_getD_getElem?,Array.getElem?_eq_getElem hlt] at J;simpa using J
     simp[yielded,O,U,W]
    ·rename_i Z hb;simp only[QW] at G;subst G;obtain⟨Y,J⟩:=r.tm d _ hb;simp only[Qe,QM] at J;have hlt:d<a.tmps.size:=by rw[r.siz];exact Y
     have W:a.tmps[d]?=some (.tuple Z):=by
      rw[Array.getElem?_eq_getElem hlt];rw[Array.getD_eq_getD_getElem?,Array.getElem?_eq_getElem hlt] at J;simpa using J
     simp[yielded,O,U,W]
    ·cases G
   ·rename_i U;simp only[QW] at G;subst G;simp[yielded,O,U]
  ·rename_i O;simp only[QW] at G;subst G;simp[yielded,O]
def Zm(ops:Array Oper)(o:Oper)(T:List (Nat×AV))(t:Bool):List (Nat×AV) :=
 match o.guard with
|none=>T
|some (j,want) =>
  match ops[j]? with
 |some G=>match G.dst with
  |some d=>match look T d with
   |some (.p (.val (.bool _)))=>(d,.p (.val (.bool (if t then want else !want))))::T
   |_=>T
  |none=>T
 |none=>T
theorem UN{T:List (Nat×AV)}{t:Bool}(G:ZB ops o (look T)=some t):look (Zm ops o T t)=look T:=by
 unfold ZB at G;unfold Zm;cases hg:o.guard with
|none=>rfl
|some p =>
  obtain⟨j,want⟩:=p;simp only[hg] at G;cases hj:ops[j]? with
 |none=>simp only[hj]
 |some J =>
   simp only[hj] at G ⊢;cases hd:J.dst with
  |none=>simp only
  |some d =>
    simp only[hd] at G ⊢;split at G
    ·rename_i b hb;simp only[QW] at G;subst G;simp only[hb];funext x;simp only[look];by_cases e:d=x
     ·subst e;simp only[if_true,hb];cases b<;>cases want<;>rfl
     ·simp[e]
    ·rename_i O hb;simp only[hb]
    ·cases G
def Ki(T:Nat→Option AV):Op→Option (FuncId×List AV)
|.call ⟨.value (.func f),args,_⟩=>match PY T args.toList with|some G=>some (f,G)|none=>none
|.call ⟨.value (.tmp t),args,_⟩ =>
  match T t,PY T args.toList with
 |some (.fn (.func f) l m),some G=>some (f,l++G++m)
 |some (.p (.val (.func (.func f) l m))),some G=>some (f,(l.toList.map fun c=>.p (.val c))++G++(m.toList.map fun c=>.p (.val c)))
 |_,_=>none
|_=>none
def LW(b:Bool)(A B:Prop):Prop:=(b=true→A)∧(b=false→B)
theorem ZY(A B:Prop):LW true A B=A:=by simp[LW]
theorem Gy(A B:Prop):LW false A B=B:=by simp[LW]
theorem Ht{b:Bool}{A B C:Prop}(h:LW b A B)(J:b=true→A→C)(G:b=false→B→C):C:=by
 cases b
 ·exact G rfl (h.2 rfl)
 ·exact J rfl (h.1 rfl)
def Xd(s:St)(dst:Option Tmp)(u:KN):St:=⟨match dst with|some d=>(d,u.1)::s.T|none=>s.T,match u.2.1 with|some G=>G::s.H|none=>s.H⟩
def KD(N:Nat):Option Tmp→Bool|none=>true|some d=>decide (d<N)
def Iu(N:Nat)(o:Oper)(s:St)(K:St→Prop):Option KN→Prop|some u=>KD N o.dst=true∧K (Xd s o.dst u)|none=>False
def Y6(P:Program)(f:FuncId):Bool:=(P.funcs[f]?).any (fun fn=>fn.body.isSome&&fn.name != "runtime.NumGoroutine")
def nC(P:Program)(N:Nat)(o:Oper)(s:St)(K:St→Prop):Prop :=(∀c,o.op≠.defer c)∧KD N o.dst=true∧∀φ M0 D a w,Zn φ M0 N D (look s.T) (look s.H) a w→∃x s',look s'.T=look s.T∧K (St.put s' o.dst x)∧Yield P o φ M0 (look s.H) a w x (look s'.H)
def Ua(P:Program)(N:Nat)(o:Oper)(s:St)(K:St→Prop)(Q:AX→St→Prop):Prop :=
 match o.op with
|.pick c x y=>match Zo (look s.T) c with
 |some (.p (.val (.bool b)))=>LW b (Iu N o s K (Wt (look s.T) x)) (Iu N o s K (Wt (look s.T) y))
 |_=>False
|.panic x=>match Zo (look s.T) x with|some (.ifc t v)=>Q (.panic (.ifc t v)) s|_=>False
|.call ⟨.value f,args,ts⟩=>match Ki (look s.T) (.call ⟨.value f,args,ts⟩) with
 |some (f,args)=>Y6 P f=true∧LV P N f args o.dst s K Q
 |none=>False
|_=>Iu N o s K (Jy P o (look s.T) (look s.H))∨nC P N o s K
def YAt(P:Program)(l:Nat)(args:Array Value)(w:World)(R:Ending→World→Prop):Prop:=YieldAt Fence.wide 0 P l args w R
def eU(P:Program)(b:Nat)(args:List AV)(h:QN)(R:Kw→QN→Prop):Prop :=∀φ M0 w G,ZN φ h w M0→Qi φ h w (MM φ h M0) args G→YAt P (φ b) G.toArray w fun e w' =>∃φ' r h',R r h'∧ZN φ' h' w' M0∧Q8 φ h w φ' h' w'∧eT φ' h' w' (MM φ' h' M0) r e
def YEx(P:Program)(N:Nat)(b:Nat)(args:List AV)(dst:Option Tmp)(s:St)(K:St→Prop)(Q:AX→St→Prop):Prop :=
 ∀φ M0 D a w G,Zn φ M0 N D (look s.T) (look s.H) a w→Qi φ (look s.H) w (MM φ (look s.H) M0) args G→YAt P (φ b) G.toArray w fun e w' =>
  match e with
 |.returned v=>∃φ' s',K s'∧Zn φ' M0 N D (look s'.T) (look s'.H) (a.put dst v) w'∧Q8 φ (look s.H) w φ' (look s'.H) w'
 |.panicked chain=>Post N D Q φ M0 (look s.H) w (.panic chain) a w'
 |.outgrown=>False
def yieldOf(T:Nat→Option AV):Op→Option (Nat×List AV)
|.call ⟨.value (.tmp t),args,_⟩ =>
  match T t with
 |some (.yv b)=>match PY T args.toList with|some G=>some (b,G)|none=>none
 |_=>none
|_=>none
def YOp(P:Program)(N:Nat)(o:Oper)(s:St)(K:St→Prop)(Q:AX→St→Prop):Option (Nat×List AV)→Prop|some (b,args)=>YEx P N b args o.dst s K Q|none=>Ua P N o s K Q
def Yl(P:Program)(N:Nat)(ops:Array Oper)(Q:AX→St→Prop):List Oper→St→Prop
|[],s=>Q .normal s
|o::rest,s =>
  match ZB ops o (look s.T) with
 |some b=>LW b (YOp P N o ⟨Zm ops o s.T true,s.H⟩ (Yl P N ops Q rest) Q (yieldOf (look (Zm ops o s.T true)) o.op)) (KD N o.dst=true∧Yl P N ops Q rest (St.put ⟨Zm ops o s.T false,s.H⟩ o.dst (.p (.val undef))))
 |none=>False
theorem Z7{d:Option Tmp}(G:KD N d=true):∀t,d=some t→t<N:=by
 rintro t rfl;simpa [KD] using G
theorem Ub{args:Array Value}(hf:(P.funcs[f]?).any (fun fn=>fn.body.isSome&&fn.name != "runtime.NumGoroutine")=true):(callFunc f args).run P w=.ok (.enter f args) w:=by
 cases hq:P.funcs[f]? with
|none=>simp[hq] at hf
|some fn =>
  simp only[hq,Option.any_some,ZG,bne_iff_ne] at hf;have G:¬fn.body=none:=by intro hb;simp[hb] at hf
  simp[callFunc,program,Sem.run,hq,G,hf.2]
theorem Oper.wp_mono2{K K':Act→World→Prop}{Q:Exit→Act→World→Prop}(G:o.wp P a w K Q)(h:∀a w,K a w→K' a w)(O:∀e a w,Q e a w→Q' e a w):o.wp P a w K' Q':=by
 unfold Oper.wp at *;generalize (execOp a.eval o).run P w=r at *;cases r with
|ok n w' =>
  cases n<;>simp only[Oper.upon] at G ⊢ <;>
   first
   |exact h _ _ G
   |exact Calls.mono G (fun e w'' J=>by cases e<;>first|exact h _ _ J|exact O _ _ _ J|exact⟨_,_,O _ _ _ J.choose_spec.choose_spec⟩)
   |exact Rows.mono G (fun _ _ J=>h _ _ J)
|halt x w'=>cases x<;>simp only[Oper.upon] at G ⊢<;>exact O _ _ _ G
theorem Mv(r:Zn φ M0 N D T h a w)(hf:Ki T o.op=some (f,args))(hb:Y6 P f=true):∃W:List Value,Qi φ h w (MM φ h M0) args W∧(execOp a.eval o).run P w=.ok (.enter f W.toArray) w:=by
 unfold Ki at hf;split at hf
 ·rename_i f0 G ts Y;split at hf
  ·rename_i W J;simp only[QW,Xu] at hf;obtain⟨rfl,rfl⟩:=hf;refine⟨G.toList.map a.eval,Fv r J,?_⟩;have e1:G.map a.eval=(G.toList.map a.eval).toArray:=by apply Array.ext';simp
   simp only[execOp,Y,resolve,Act.eval,Deferred.ofValue,Sem.run_bind,Sem.run_pure,Result.andThen_ok,invoke];rw[Ub hb];congr 2;rw[←e1];simp
  ·cases hf
 ·rename_i t G ts Y;split at hf
  ·rename_i f0 l m W Z J;simp only[QW,Xu] at hf;obtain⟨rfl,rfl⟩:=hf;have U:=(r.tm t _ Z).2;simp only[Qe] at U;obtain⟨l',m',h3,h4,h5⟩:=U;refine⟨l'++G.toList.map a.eval++m',Zz (Zz h4 (Fv r J)) h5,?_⟩;have O:a.eval (.tmp t)=.func (.func f0) l'.toArray m'.toArray:=h3;simp only[execOp,Y,resolve,O,Deferred.ofValue,Sem.run_bind,Sem.run_pure,Result.andThen_ok,invoke];rw[Ub hb];congr 2;apply Array.ext';simp
  ·rename_i f0 l m W Z J;simp only[QW,Xu] at hf;obtain⟨rfl,rfl⟩:=hf;have U:=(r.tm t _ Z).2;simp only[Qe,QM] at U;refine⟨l.toList++G.toList.map a.eval++m.toList,Zz (Zz (Fj _) (Fv r J)) (Fj _),?_⟩;have O:a.eval (.tmp t)=.func (.func f0) l m:=U;simp only[execOp,Y,resolve,O,Deferred.ofValue,Sem.run_bind,Sem.run_pure,Result.andThen_ok,invoke];rw[Ub hb];congr 2;apply Array.ext';simp
  ·cases hf
 ·cases hf
theorem wI{u:KN}(hd:KD N o.dst=true)(U:K (Xd s o.dst u))(hy:Yield P o φ M0 (look s.H) a w u.1 (ap (look s.H) u.2.1))(r:Zn φ M0 N D (look s.T) (look s.H) a w) :
  o.wp P a w (fun a' w'=>∃φ' s',K s'∧Zn φ' M0 N D (look s'.T) (look s'.H) a' w'∧Q8 φ (look s.H) w φ' (look s'.H) w') (Post N D Q φ M0 (look s.H) w):=by
 obtain⟨nx,v,w',φ',h1,W,h3,Z,J,h6⟩:=hy
 have G:look (Xd s o.dst u).H=ap (look s.H) u.2.1:=by
  unfold Xd ap;cases hq:u.2.1 with
 |none=>rfl
 |some bk=>rfl
 have O:Zn φ' M0 N D (look (Xd s o.dst u).T) (look (Xd s o.dst u).H) (a.put o.dst v) w':=by
  have Y:Zn φ' M0 N D (look s.T) (ap (look s.H) u.2.1) a w':=r.keep J h6 Z;rw[G];have:=Zn.put (s:=⟨s.T,(Xd s o.dst u).H⟩) (d:=o.dst) (x:=u.1) (v:=v) (by rw[G];exact Y) (Z7 hd) (by rw[G];exact h3);rw[←G];cases hq:o.dst with
 |none=>rw[hq] at this;exact this
 |some d=>rw[hq] at this;exact this
 unfold Oper.wp;rw[h1];rcases W with rfl|⟨rfl,rfl⟩
 ·exact⟨φ',_,U,O,by rw[G];exact J⟩
 ·exact⟨φ',_,U,O,by rw[G];exact J⟩
theorem eX(h:nC P N o s K)(r:Zn φ M0 N D (look s.T) (look s.H) a w) :
  o.wp P a w (fun a' w'=>∃φ' s',K s'∧Zn φ' M0 N D (look s'.T) (look s'.H) a' w'∧Q8 φ (look s.H) w φ' (look s'.H) w') (Post N D Q φ M0 (look s.H) w):=by
 obtain⟨_,hd,h⟩:=h;obtain⟨x,s1,hT,U,nx,v,w',φ',h1,W,h3,Z,G,h6⟩:=h φ M0 D a w r;have Y:Zn φ' M0 N D (look s1.T) (look s1.H) a w':=by rw[hT];exact r.keep G h6 Z
 have J:Zn φ' M0 N D (look (s1.put o.dst x).T) (look (s1.put o.dst x).H) (a.put o.dst v) w':=Zn.put (s:=s1) (d:=o.dst) (x:=x) (v:=v) Y (Z7 hd) h3;have O:(s1.put o.dst x).H=s1.H:=by cases hq:o.dst<;>rfl
 unfold Oper.wp;rw[h1];rcases W with rfl|⟨rfl,rfl⟩
 ·exact⟨φ',_,U,J,by rw[O];exact G⟩
 ·exact⟨φ',_,U,J,by rw[O];exact G⟩
theorem Bd(h:Ua P N o s K Q)(r:Zn φ M0 N D (look s.T) (look s.H) a w) :
  o.wp P a w (fun a' w'=>∃φ' s',K s'∧Zn φ' M0 N D (look s'.T) (look s'.H) a' w'∧Q8 φ (look s.H) w φ' (look s'.H) w') (Post N D Q φ M0 (look s.H) w):=by
 unfold Ua at h;split at h
 ·rename_i c x y U;split at h
  ·rename_i b hc
   have G:∀z,Iu N o s K (Wt (look s.T) z)→BL (look s.T) c x y=Wt (look s.T) z →
     o.wp P a w (fun a' w'=>∃φ' s',K s'∧Zn φ' M0 N D (look s'.T) (look s'.H) a' w'∧Q8 φ (look s.H) w φ' (look s'.H) w') (Post N D Q φ M0 (look s.H) w):=by
    intro z J hp;cases hm:Wt (look s.T) z with
   |none=>rw[hm] at J;exact J.elim
   |some u =>
     rw[hm] at J hp;have:=mZ (P:=P) r U hp;exact wI J.1 J.2 (by rw[this.1];exact this.2.2) r
   refine Ht h (fun hb J=>G x J ?_) (fun hb J=>G y J ?_)
   ·subst hb;simp[BL,hc]
   ·subst hb;simp[BL,hc]
  ·exact h.elim
 ·rename_i y U;split at h
  ·rename_i t v Z;have W:=r.ev Z;have O:=W;simp only[Qe] at O;obtain⟨z,h3,h4⟩:=O;unfold Oper.wp
   have:(execOp a.eval o).run P w=.halt (.panic (a.eval y)) w:=by
    simp[execOp,U,h3,Instr.panic,goPanic]
   rw[this];exact⟨φ,.panic (.ifc t v),s,h,r,Q8.refl _ _ _,_,rfl,W⟩
  ·exact h.elim
 ·rename_i f aa ts U;split at h
  ·rename_i f0 args hf;obtain⟨hb,hcall⟩:=h;obtain⟨vs,h1,W⟩:=Mv (o:=o) r (by rw[U];exact hf) hb;unfold Oper.wp;rw[W];simp only[Oper.upon];refine(hcall φ M0 D a w vs r h1).mono ?_;intro e w' Y;cases e with
  |returned v=>exact Y
  |panicked chain=>exact Y
  |outgrown=>exact Y.elim
  ·exact h.elim
 ·rcases h with h|h
  ·cases hu:Jy P o (look s.T) (look s.H) with
  |none=>rw[hu] at h;exact h.elim
  |some u=>rw[hu] at h;exact wI h.1 h.2 (eQ r hu) r
  ·exact eX h r
theorem Qen{K:Act→World→Prop}{Q:Exit→Act→World→Prop}(h:o.wp P a w K Q)(U:∀c,o.op≠.defer c):o.wpIn (wd ro) 0 P a w K Q:=by
 refine⟨fun _ _=>trivial,?_⟩;rw[Oper.semAt_eq _ _ _ U];unfold Oper.wp at h;generalize (execOp a.eval o).run P w=r at *;cases r with
|ok n w' =>
  cases n with
 |enter f args=>exact⟨(fun h=>by cases h),callsIn_wide.2 h⟩
 |row row args =>
   refine⟨(fun h=>by cases h),fun c cs _=>?_⟩;obtain⟨v,J,O,G⟩:=(h:Rows P row args w' _) c cs;exact⟨v,J,O,stepsIn_wide.2 G⟩
 |value v=>exact h
 |skip=>exact h
 |defer d=>exact h
 |_=>exact h.elim
|halt x w'=>cases x<;>first|exact h|exact h.elim
theorem eY(h:Ua P N o s K Q):∀c,o.op≠.defer c:=by
 intro c G;unfold Ua at h;simp only[G,Jy] at h;rcases h with h|h
 ·exact h
 ·exact h.1 _ G
theorem eZ{K:Act→World→Prop}{Q:Exit→Act→World→Prop}{l:Nat}{args:Array Value}(O:(execOp a.eval o).run P w=(Instr.yield l args).run P w)(U:∀c,o.op≠.defer c)(h:YAt P l args w fun
  |.returned v,w''=>K (a.put o.dst v) w''
  |.panicked chain,w''=>Q (.panic chain) a w''
  |.outgrown,_=>LetsOut Q):o.wpIn (wd ro) 0 P a w K Q:=by
 refine⟨fun _ _=>trivial,?_⟩;rw[Oper.semAt_eq _ _ _ U,O];obtain⟨fn,tmps,assign,body,J,G⟩:=h;rw[J];exact⟨(fun h=>by cases h),G⟩
theorem wJ(r:Zn φ M0 N D T h a w)(hf:yieldOf T o.op=some (b,args)) :
  ∃J:List Value,Qi φ h w (MM φ h M0) args J∧(execOp a.eval o).run P w=(Instr.yield (φ b) J.toArray).run P w∧∀c,o.op≠.defer c:=by
 unfold yieldOf at hf;split at hf
 ·rename_i t G ts W;split at hf
  ·rename_i b0 Z;split at hf
   ·rename_i J O;simp only[QW,Xu] at hf;obtain⟨rfl,rfl⟩:=hf;have Y:=(r.tm t _ Z).2;simp only[Qe] at Y;have U:a.eval (.tmp t)=.func (.yield (φ b0)) #[] #[]:=Y.1;refine⟨G.toList.map a.eval,Fv r O,?_,fun c hc=>by rw[W] at hc;cases hc⟩;have e1:G.map a.eval=(G.toList.map a.eval).toArray:=by apply Array.ext';simp
    simp only[execOp,W,resolve,U,Deferred.ofValue,Sem.run_bind,Sem.run_pure,Result.andThen_ok,invoke];rw[←e1];simp
   ·cases hf
  ·cases hf
 ·cases hf
theorem Oper.wpIn_mono2{F:Fence}{K K':Act→World→Prop}{Q:Exit→Act→World→Prop}(G:o.wpIn F n P a w K Q)(h:∀a w,K a w→K' a w)(O:∀e a w,Q e a w→Q' e a w):o.wpIn F n P a w K' Q':=by
 unfold Oper.wpIn at *;refine⟨G.1,?_⟩;have G:=G.2;generalize (o.semAt F.round a.eval).run P w=r at *;cases r with
|ok x w' =>
  cases x<;>simp only[Oper.uponIn] at G ⊢ <;>
   first
   |exact h _ _ G
   |exact⟨G.1,CallsIn.mono G.2 (fun e w'' J=>by cases e<;>first|exact h _ _ J|exact O _ _ _ J|exact⟨_,_,O _ _ _ J.choose_spec.choose_spec⟩)⟩
   |exact⟨G.1,RowsIn.mono G.2 (fun _ _ J=>h _ _ J)⟩
   |exact⟨G.1,RoundIn.mono G.2 (fun e w'' J=>by cases e<;>first|exact h _ _ J|exact O _ _ _ J|exact⟨_,_,O _ _ _ J.choose_spec.choose_spec⟩)⟩
|halt x w'=>cases x<;>simp only[Oper.uponIn] at G ⊢<;>exact O _ _ _ G
theorem Qfl(h:YOp P N o s K Q (yieldOf (look s.T) o.op))(r:Zn φ M0 N D (look s.T) (look s.H) a w) :
  o.wpIn (wd ro) 0 P a w (fun a' w'=>∃φ' s',K s'∧Zn φ' M0 N D (look s'.T) (look s'.H) a' w'∧Q8 φ (look s.H) w φ' (look s'.H) w') (Post N D Q φ M0 (look s.H) w):=by
 cases hy:yieldOf (look s.T) o.op with
|none=>rw[hy] at h;exact Qen (Bd h r) (eY h)
|some p =>
  obtain⟨b,args⟩:=p;rw[hy] at h;obtain⟨U,O,J,W⟩:=wJ (P:=P) (w:=w) r hy;refine eZ J W ?_;obtain⟨fn,tmps,assign,body,g1,g2⟩:=h φ M0 D a w U r O;refine⟨fn,tmps,assign,body,g1,g2.mono ?_⟩;intro e w' G;cases e with
 |returned v=>exact G
 |panicked chain=>exact G
 |outgrown=>exact G.elim
theorem Iw{P:Program}{N:Nat}{ro:Option Nat}{D:DB}{ops:Array Oper}{Q:AX→St→Prop}:∀(l:List Oper) (k:Nat) (s:St) (φ0:Nat→Nat) (h0:QN) (w0:World) (φ:Nat→Nat) (M0:ZK) (a:Act) (w:World),
  (∀j,l[j]?=ops[k+j]?)→Q8 φ0 h0 w0 φ (look s.H) w→Zn φ M0 N D (look s.T) (look s.H) a w→Yl P N ops Q l s →
  wpOpsIn (wd ro) 0 P ops (Post N D Q φ0 M0 h0 w0) ((List.range l.length).map (k+·)) a w
|[],k,s,φ0,h0,w0,φ,M0,a,w,O,E,r,h=>⟨φ,.normal,s,h,r,E,rfl⟩
|o::l,k,s,φ0,h0,w0,φ,M0,a,w,O,E,r,h=>by
  have Y:ops[k]?=some o:=by simpa using (O 0).symm
  have Z:(List.range (o::l).length).map (k+·)=k::(List.range l.length).map (k+1+·):=by
   simp only[Vr,List.range_succ_eq_map,Yy,List.map_map,Nat.add_zero,List.cons.injEq,true_and];apply List.map_congr_left;intro j _;simp;omega
  rw[Z];simp only[wpOpsIn,Y];have G:∀j,l[j]?=ops[k+1+j]?:=fun j=>by have:=O (j+1);rwa [show k+(j+1)=k+1+j from by omega] at this
  simp only[Yl] at h;split at h
  ·rename_i b hw;rw[FC r hw];refine Ht h (fun hb g=>?_) (fun hb g=>?_)
   ·subst hb;simp only[if_true];have J:=UN hw;have r1:Zn φ M0 N D (look (Zm ops o s.T true)) (look s.H) a w:=by rw[J];exact r
    refine Go.Abs.Oper.wpIn_mono2 (Qfl (s:=⟨Zm ops o s.T true,s.H⟩) g r1) ?_ ?_
    ·rintro a' w' ⟨φ',s',U,h3,W⟩;exact Iw l (k+1) s' φ0 h0 w0 φ' M0 a' w' G (E.trans W) h3 U
    ·intro e a' w' p;exact p.trans E
   ·subst hb;simp only[Bool.false_eq_true,if_false];have J:=UN hw;have r1:Zn φ M0 N D (look (Zm ops o s.T false)) (look s.H) a w:=by rw[J];exact r
    refine⟨fun _ _=>trivial,Iw l (k+1) _ φ0 h0 w0 φ M0 _ w G ?_ (Zn.put (s:=⟨Zm ops o s.T false,s.H⟩) r1 (Z7 g.1) (by simp[Qe,QM])) g.2⟩;cases o.dst<;>exact E
  ·exact h.elim
def U5(ops:Array Oper):Bool:=ops.toList.all fun o=>match o.op with|.defer _=>false|_=>true
theorem MC{P:Program}{ro:Option Nat}{ops:Array Oper}{Q:Exit→Act→World→Prop}(U:U5 ops=true)(O:¬LetsOut Q):∀(G:Nat) (listed:Array Bool) (a:Act) (w:World),wpAny P .any ops Q G listed a w→wpAnyIn (wd ro) 0 P .any ops Q G listed a w
|0,listed,a,w,h=>h
|G+1,listed,a,w,h=>by
  refine⟨h.1,fun i hi=>?_⟩;have J:=h.2 i hi;unfold wpOp at J;unfold wpOpIn;cases ho:ops[i]? with
 |none=>simp only[ho] at J ⊢;exact MC U O G _ a w J
 |some o =>
   simp only[ho] at J ⊢
   have W:∀c,o.op≠.defer c:=by
    intro c hc;have:=Xb.1 U o (by have:=Array.mem_of_getElem? ho;simpa using this);simp[hc] at this
   split at J
   ·rename_i hw;simp only[hw,if_true];rcases J with Y|Y
    ·exact Qen (Oper.wp_mono (fun a w=>MC U O G _ a w) Y) W
    ·exact absurd Y.2 O
   ·rename_i hw;simp only[hw];exact⟨fun _ _=>trivial,MC U O G _ _ w J⟩
theorem WT:¬LetsOut (Post N D Q φ M0 h w):=by
 rintro⟨a,w',φ',x,s',O,U,W,G⟩;cases x with
|normal=>cases G
|exit i=>cases G
|ret=>cases G
|panic v=>obtain⟨u,J,_⟩:=G;cases J
theorem zg(h:Yl P N ops Q ops.toList s):Ex P N ro (.region id ops false) s Q:=by
 intro φ M0 D a w r;refine wpIn_region ?_;have:=Iw (ro:=ro) ops.toList 0 s φ (look s.H) w φ M0 a w zq (Q8.refl _ _ _) r h;simpa using this
section
variable {P:Program}{o:Oper}{T T':Nat→Option AV}{h h':QN}
theorem FD:∀{l:List Operand},(∀x∈l,Zo T' x=Zo T x)→PY T' l=PY T l
|[],_=>rfl
|x::l,G=>by simp only[PY,G x zq,FD (l:=l) (fun y J=>G y (by simp[J]))]
theorem Ti:∀{l:List (Nat×Operand)},(∀x∈l.map (·.2),Zo T' x=Zo T x)→A7 T' l=A7 T l
|[],_=>rfl
|(i,x)::l,G=>by simp only[A7,G x zq,Ti (l:=l) (fun y J=>G y (by simp at J ⊢;exact .inr J))]
theorem wK(hs:∀x∈o.op.operands,Zo T' x=Zo T x):Gs P T' o=Gs P T o:=by
 have O:∀x∈o.op.operands.toList,known T' x=known T x:=fun x G=>by unfold known;rw[hs x (by simpa using G)]
 have U:allKnown T' o.op.operands.toList=allKnown T o.op.operands.toList:=by
  have:∀l:List Operand,(∀x∈l,known T' x=known T x)→allKnown T' l=allKnown T l:=by
   intro l
   induction l with
  |nil=>intro _;rfl
  |cons x l W=>intro J;simp only[allKnown,J x zq,W (fun y Y=>J y (by simp[Y]))]
  exact this _ O
 unfold Gs;rw[U];split
 ·rename_i hc;simp only[ZG] at hc
  rw[execOp_congr (ρ:=fun x=>(known T' x).getD undef) (ρ':=fun x=>(known T x).getD undef) o (fun cs b e=>by rw[e] at hc;simp[XT] at hc) (fun x G=>by
   show(known T' x).getD undef=(known T x).getD undef;rw[O x (by simpa using G)])]
 ·rfl
theorem Dz{x:Option Operand}(G:∀y,x=some y→Zo T' y=Zo T y):XU T' d x=XU T d x:=by
 cases x with
|none=>rfl
|some y=>simp only[XU,G y rfl]
theorem Iy{u:KN}{t:TypeId}{i:Operand}(G:JV P T h t x i ok=some u)(Z:Zo T' x=Zo T x)(hi:Zo T' i=Zo T i)(hh:∀b∈u.2.2,h' b=h b) :
  JV P T' h' t x i ok=some u∧Xw P T' h' t x i ok=none:=by
 unfold JV at G;split at G;rotate_left
 ·cases G
 rename_i kt e b s Y J O;split at G;rotate_left
 ·cases G
 rename_i es hb W
 have hu:u.2.2=[b]:=by
  split at G
  ·simp only[QW] at G;subst G;rfl
  ·split at G
   ·simp only[QW] at G;subst G;rfl
   ·cases G
 have U:h' b=some (.mf es):=by rw[hh b (by rw[hu];simp)];exact hb
 constructor
 ·simp only[JV,Y,Z,hi,J,O,U,W];exact G
 ·simp[Xw,Y,Z,hi,J,O,U]
theorem Iz{u:KN}{t:TypeId}{i:Operand}(G:JW P T h t x i y=some u)(hn:Vl P T h t x i y=none)(hx:Zo T' x=Zo T x)(hi:Zo T' i=Zo T i)(hy:Zo T' y=Zo T y)(hh:∀b∈u.2.2,h' b=h b) :
  JW P T' h' t x i y=some u∧Vl P T' h' t x i y=none:=by
 unfold JW at G;split at G;rotate_left
 ·cases G
 rename_i kt e b s v Z O U J;split at G;rotate_left
 ·cases G
 rename_i es hb Y
 have hu:u.2.2=[b]:=by
  split at G
  ·simp only[QW] at G;subst G;rfl
  ·cases G
 have W:h' b=h b:=hh b (by rw[hu];simp);constructor
 ·simp only[JW,Z,hx,hi,hy,O,U,J,W,Y,hb];exact G
 ·rw[←hn];simp only[Vl,Z,hx,hi,hy,O,U,J,W]
theorem IA{u:KN}{t:TypeId}{i:Operand}(G:UL P T h t x i=some u)(hx:Zo T' x=Zo T x)(hi:Zo T' i=Zo T i)(Y:∀b∈u.2.2,h' b=h b):UL P T' h' t x i=some u:=by
 unfold UL at G;split at G;rotate_left
 ·cases G
 rename_i kt e b s Z J O;split at G;rotate_left
 ·cases G
 rename_i es hb W
 have hu:u.2.2=[b]:=by
  split at G
  ·simp only[QW] at G;subst G;rfl
  ·cases G
 have U:h' b=some (.mf es):=by rw[Y b (by rw[hu];simp)];exact hb
 simp only[UL,Z,hx,hi,J,O,U,W];exact G
theorem kS{u:KN}{t:TypeId}{i:Operand}(G:Xw P T h t x i ok=some u)(Z:Zo T' x=Zo T x)(hi:Zo T' i=Zo T i)(W:∀b∈u.2.2,h' b=h b):Xw P T' h' t x i ok=some u:=by
 simp only[Xw,Z,hi] at G ⊢;split at G
 ·rename_i kt e b kv _ _ _;have hb:∀es,h b=some (.mp es)→u.2.2=[b]→h' b=some (.mp es):=fun es Y U=>by rw[W b (by rw[U];simp)];exact Y
  split at G
  ·rename_i es k kd J _ _;split at G
   ·rename_i O
    have:u.2.2=[b]:=by
     split at G
     ·simp only[QW] at G;subst G;rfl
     ·split at G
      ·simp only[QW] at G;subst G;rfl
      ·cases G
     ·cases G
    simp only[hb es J this, *,if_true]
   ·cases G
  ·cases G
 ·cases G
theorem SK{u:KN}{t:TypeId}{i:Operand}(G:Vl P T h t x i y=some u)(hx:Zo T' x=Zo T x)(hi:Zo T' i=Zo T i)(Z:Zo T' y=Zo T y)(W:∀b∈u.2.2,h' b=h b):Vl P T' h' t x i y=some u:=by
 simp only[Vl,hx,hi,Z] at G ⊢;split at G
 ·rename_i kt e b kv y0 _ _ _ _;have hb:∀es,h b=some (.mp es)→u.2.2=[b]→h' b=some (.mp es):=fun es Y U=>by rw[W b (by rw[U];simp)];exact Y
  split at G
  ·rename_i es k kd v J _ _ _;split at G
   ·rename_i O
    have:u.2.2=[b]:=by
     split at G
     ·simp only[QW] at G;subst G;rfl
     ·simp only[QW] at G;subst G;rfl
     ·cases G
    simp only[hb es J this, *,if_true]
   ·cases G
  ·cases G
 ·cases G
theorem zh{x y:Option KN}{u:KN}(G:TL x y=some u):x=some u∨x=none∧y=some u:=by
 unfold TL at G;split at G
 ·exact .inl G
 ·exact .inr ⟨rfl,G⟩
theorem dM{u:KN}(G:Jy P o T h=some u)(hs:∀x∈o.op.operands,Zo T' x=Zo T x)(U:∀b∈u.2.2,h' b=h b):Jy P o T' h'=some u:=by
 have hp:=wK (P:=P) hs;unfold Jy at G ⊢;generalize ao:o.op=q at G hs ⊢;cases q
 case move x=>simp only[Wt,hs x (by simp[Op.operands])] at G ⊢;exact G
 case assign x=>simp only[Wt,hs x (by simp[Op.operands])] at G ⊢;exact G
 case pick c x y=>simp only[BL,Wt,hs c (by simp[Op.operands]),hs x (by simp[Op.operands]),hs y (by simp[Op.operands])] at G ⊢;exact G
 case alloc ty =>
  simp only at G ⊢;split at G
  ·split at G
   ·unfold qp at G ⊢;split at G
    ·rename_i d cs hd am;split at G
     ·rename_i Y;simp only[QW] at G;subst G;rw[U d zq,Y]
     ·cases G
    ·cases G
   ·cases G
  ·cases G
 case box ty x =>
  simp only[hs x (by simp[Op.operands])] at G ⊢;split at G
  ·unfold qp at G ⊢;split at G
   ·rename_i d cs hd am;split at G
    ·rename_i Y;simp only[QW] at G;subst G;rw[U d zq,Y]
    ·cases G
   ·cases G
  ·cases G
 case build t ps =>
  simp only[A8,Ti (T':=T') (T:=T) (l:=ps.toList) (fun x J=>hs x (by simpa [Op.operands] using J))] at G ⊢;exact G
 case makeMap t rsv =>
  simp only[Dv] at G ⊢;split at G
  ·rename_i d hd;split at G
   ·rename_i Y;simp only[QW] at G;subst G;have:h' d=none:=by rw[U d zq];exact Y
    simp[this]
   ·cases G
  ·cases G
 case lookup t x i ok =>
  have J:=hs x (by simp[Op.operands]);have hi:=hs i (by simp[Op.operands]);rcases zh G with h1|⟨_,h1⟩
  ·simp only[TL,kS h1 J hi U]
  ·obtain⟨h2,h3⟩:=Iy h1 J hi U;simp only[TL,h2,h3]
 case mapUpdate t x i y =>
  have J:=hs x (by simp[Op.operands]);have hi:=hs i (by simp[Op.operands]);have W:=hs y (by simp[Op.operands]);rcases zh G with h1|⟨h0,h1⟩
  ·simp only[TL,SK h1 J hi W U]
  ·obtain⟨h2,h3⟩:=Iz h1 h0 J hi W U;simp only[TL,h2,h3]
 case makeSlice t x y=>exact wB G (hs x (by simp[Op.operands])) (hs y (by simp[Op.operands])) U
 case buildSlice t n ps =>
  simp only at G ⊢;split at G
  ·rename_i hn;rw[if_pos hn];exact uR G U
  rename_i hn;rw[if_neg hn];rw[dL (T:=T) (l:=ps.toList) (fun x J=>hs x (by simpa [Op.operands] using J))];split at G
  ·rename_i hB;rw[if_pos hB];simp only[Hq,Ti (T':=T') (T:=T) (l:=ps.toList) (fun x J=>hs x (by simpa [Op.operands] using J))] at G ⊢;split at G
   ·rename_i e d qs _ _ _;split at G
    ·rename_i i _;split at G
     ·rename_i z Y hd;split at G
      ·rename_i zs Z;split at G
       ·rename_i ac;split at G
        ·rename_i rs ab;split at G
         ·rename_i hc;simp only[QW] at G;subst G;simp only[U d zq,hd,Y,Z];rw[if_pos ac];simp only[ab];rw[if_pos hc]
         ·cases G
        ·cases G
       ·cases G
      ·cases G
     ·cases G
    ·cases G
   ·cases G
  rename_i hB;rw[if_neg hB];simp only[Ho,Ti (T':=T') (T:=T) (l:=ps.toList) (fun x J=>hs x (by simpa [Op.operands] using J))] at G ⊢;split at G
  ·rename_i e d qs _ _ _;split at G
   ·rename_i i _;split at G
    ·rename_i z Y hd;split at G
     ·rename_i zs Z;split at G
      ·rename_i ac;split at G
       ·rename_i rs ab;split at G
        ·rename_i pvs al;split at G
         ·rename_i hc;simp only[QW] at G;subst G;simp only[U d zq,hd,Y,Z];rw[if_pos ac];simp only[ab,al];rw[if_pos hc]
         ·cases G
        ·cases G
       ·cases G
      ·cases G
     ·cases G
    ·cases G
   ·cases G
  ·cases G
 case load ty x =>
  have J:=hs x (by simp[Op.operands]);simp only at G ⊢;rw[J];split at G
  ·rename_i O;rw[if_pos O];exact wz G J U
  rename_i O;rw[if_neg O];simp only[ES,hs x (by simp[Op.operands])] at G ⊢;split at G
  ·split at G
   ·rename_i b off J;split at G
    ·rename_i tb cs hb
     have ak:h' b=some (.box tb cs):=by
      rw[←hb];refine U b ?_;split at G
      ·split at G
       ·simp only[QW] at G;subst G;simp
       ·cases G
      ·split at G
       ·simp only[QW] at G;subst G;simp
       ·cases G
     simp only[ak];exact G
    ·cases G
   ·exact G
   ·cases G
  ·cases G
 case store ty x y =>
  have J:=hs x (by simp[Op.operands]);have W:=hs y (by simp[Op.operands]);simp only at G ⊢;rw[J];split at G
  ·rename_i O;rw[if_pos O];exact kM G J W U
  rename_i O;rw[if_neg O];simp only[AY,hs x (by simp[Op.operands]),hs y (by simp[Op.operands])] at G ⊢;split at G
  ·rename_i i b off v _ _ _;split at G
   ·rename_i tb cs vs hb an;split at G
    ·rename_i hc;simp only[QW] at G;subst G;simp only[U b zq,hb,an];rw[if_pos hc]
    ·cases G
   ·cases G
  ·cases G
 case nilCheck x =>
  have J:=hs x (by simp[Op.operands]);simp only at G ⊢;rw[J];split at G
  ·rename_i O;rw[if_pos O];exact uP G J U
  rename_i O;rw[if_neg O];simp only[UK,J] at G ⊢;rw[hp];exact G
 case fieldAddr t x f =>
  have J:=hs x (by simp[Op.operands]);simp only at G ⊢;rw[J];split at G
  ·rename_i O;rw[if_pos O];exact P6 G J U
  rename_i O;rw[if_neg O];simp only[XE,J] at G ⊢;exact G
 case field t x f=>simp only[AZ,hs x (by simp[Op.operands])] at G ⊢;exact G
 case indexAddr t x i =>
  have J:=hs x (by simp[Op.operands]);have hi:=hs i (by simp[Op.operands]);simp only at G ⊢;rw[J];split at G
  ·rename_i O;rw[if_pos O];exact P5 G J hi U
  rename_i O;rw[if_neg O];simp only[UJ,FB,J,hi] at G ⊢;exact G
 case index t x i=>simp only[PX,C8,hs x (by simp[Op.operands]),hs i (by simp[Op.operands])] at G ⊢;rw[hp];exact G
 case slice t x lo hi mx =>
  have e1:∀d,XU T' d lo=XU T d lo:=fun d=>Dz (fun y W=>hs y (by simp[Op.operands,W]))
  have e2:∀d,XU T' d hi=XU T d hi:=fun d=>Dz (fun y W=>hs y (by simp[Op.operands,W]))
  have e3:∀d,XU T' d mx=XU T d mx:=fun d=>Dz (fun y W=>hs y (by simp[Op.operands,W]))
  simp only[Fx,hs x (by simp[Op.operands]),e1,e2,e3] at G ⊢;rw[hp];exact G
 case extract x i=>simp only[Fu,hs x (by simp[Op.operands])] at G ⊢;exact G
 case makeFunc f a b =>
  simp only[Ro,FD (T':=T') (T:=T) (l:=a.toList) (fun x J=>hs x (by simp[Op.operands] at J ⊢;exact .inl J)),FD (T':=T') (T:=T) (l:=b.toList) (fun x J=>hs x (by simp[Op.operands] at J ⊢;exact .inr J))] at G ⊢;exact G
 case makeInterface t x=>simp only[Ju,hs x (by simp[Op.operands])] at G ⊢;exact G
 case typeAssert x xt t ok=>simp only[Hm,hs x (by simp[Op.operands])] at G ⊢;exact G
 case binOp op tx x y ty =>
  have J:=hs x (by simp[Op.operands]);have W:=hs y (by simp[Op.operands]);have e1:Ib T' op x y=Ib T op x y:=by simp only[Ib,J,W]
  have e2:aEq P T' op tx x y=aEq P T op tx x y:=by simp only[aEq,uS,J,W]
  simp only[e1,e2,hp] at G ⊢
  have last:P7 P T h op tx x y=some u→P7 P T' h' op tx x y=some u:=by
   intro G;unfold P7 at G ⊢;rw[J,W];split at G
   ·rename_i e S es t m k _ _ _;split at G
    ·rename_i ta Sa n hb;split at G
     ·rename_i af
      have:h' t=some (.arr ta Sa n):=by
       rw[U t ?_]
       ·exact hb
       ·split at G
        ·simp only[QW] at G;subst G;simp
        ·simp only[QW] at G;subst G;simp
        ·cases G
      simp only[this,af];exact G
     ·cases G
    ·cases G
   ·cases G
  cases q1:Ib T op x y with
 |some z=>rw[q1] at G;exact G
 |none =>
   rw[q1] at G;cases q2:aEq P T op tx x y with
  |some z=>rw[q2] at G;exact G
  |none =>
    rw[q2] at G;cases q3:Gs P T o with
   |some z=>rw[q3] at G;exact G
   |none =>
     rw[q3] at G;exact last G
 case unOp op tx x=>simp only[aUn,hs x (by simp[Op.operands])] at G ⊢;rw[hp];exact G
 case convert src dst x=>simp only[ww,hs x (by simp[Op.operands])] at G ⊢;rw[hp];exact G
 case call c =>
  obtain⟨callee,args,types⟩:=c;cases callee
  case builtin b =>
   cases b
   case len =>
    simp only at G ⊢;split at G
    ·rename_i x t;have J:=hs x (by simp[Op.operands,Call.operands]);rw[J];split at G
     ·rename_i O;rw[if_pos O];exact uQ G J U
     rename_i O;rw[if_neg O];simp only[lZ,wC,eP,J] at G ⊢;rw[hp];exact G
    ·cases G
   case delete =>
    simp only at G ⊢;split at G
    ·exact IA G (hs _ (by simp[Op.operands,Call.operands])) (hs _ (by simp[Op.operands,Call.operands])) U
    ·cases G
   case append =>
    simp only at G ⊢;split at G
    ·rename_i s x t t';split at G
     ·rename_i ht;subst ht;simp only[if_true];have ad:=hs s (by simp[Op.operands,Call.operands]);have aj:=hs x (by simp[Op.operands,Call.operands]);rw[ad];split at G
      ·rename_i O;rw[if_pos O];exact qC G ad aj U
      rename_i O;rw[if_neg O];simp only[LA,hs s (by simp[Op.operands,Call.operands]),hs x (by simp[Op.operands,Call.operands])] at G ⊢;split at G
      ·split at G
       ·split at G
        ·split at G
         ·rename_i ah;simp only[ah,and_self,if_true];split at G
          ·rename_i hn;simp only[hn,if_true];split at G
           ·rename_i aa;simp only[aa,if_true] at G ⊢;exact G
           ·rename_i aa;simp only[aa,if_false];split at G
            ·rename_i d hd;split at G
             ·rename_i hc;simp only[QW] at G;subst G;have:h' d=none:=by rw[U d zq];exact hc.1
              simp[this,hc.2]
             ·cases G
            ·cases G
          ·rename_i hn;simp only[hn];split at G
           ·rename_i S es tk _;split at G
            ·rename_i ty S' n ai
             have ae:h' tk=some (.arr ty S' n):=by
              rw[←ai];refine U tk ?_;split at G
              ·simp only[QW] at G;subst G;simp
              ·split at G
               ·simp only[QW] at G;subst G;simp
               ·cases G
             simp only[ae];exact G
            ·cases G
           ·cases G
         ·cases G
        ·cases G
       ·cases G
      ·cases G
     ·cases G
    ·cases G
   case max=>simp only at G ⊢;rw[hp];exact G
   case min=>simp only at G ⊢;rw[hp];exact G
   all_goals cases G
  all_goals cases G
 all_goals cases G
end
def X7{α:Type}(F:Nat→Option α):Option (Nat×α)→Nat→Option α|none=>F|some (b,v)=>fun t=>if b=t then some v else F t
def vF{α:Type}:List (Option (Nat×α))→(Nat→Bool)→(Nat→Option α)→Nat→Option α|[],_,F=>F|c::G,L,F=>vF G (fun j=>L (j+1)) (if L 0 then X7 F c else F)
theorem Uc{α:Type}{t:Nat}:∀(G:List (Option (Nat×α))) (L O:Nat→Bool) (F U:Nat→Option α),F t=U t→(∀(j:Nat) v,G[j]?=some (some (t,v))→L j=O j)→vF G L F t=vF G O U t
|[],_,_,_,_,J,_=>J
|c::G,L,O,F,U,J,W=>by
  simp only[vF];refine Uc G _ _ _ _ ?_ (fun j v Y=>W (j+1) v (by simpa using Y));cases c with
 |none=>simp only[X7];split<;>split<;>exact J
 |some Z =>
   obtain⟨b,v⟩:=Z;by_cases e:b=t
   ·have:=W 0 v (by simp[e]);rw[this];split
    ·simp[X7,e]
    ·exact J
   ·split<;>split<;>simp[X7,e,J]
theorem nD{α:Type}{t:Nat}{v:α}:∀(G:List (Option (Nat×α))) (L:Nat→Bool) (F:Nat→Option α) (i:Nat),G[i]?=some (some (t,v))→L i=true→(∀(j:Nat) u,i<j→G[j]?=some (some (t,u))→L j=false)→vF G L F t=some v
|[],_,_,i,hi,_,_=>by simp at hi
|c::G,L,F,0,hi,O,U=>by
  simp only[List.getElem?_cons_zero,QW] at hi;subst hi;simp only[vF,O,if_true];rw[Uc G (fun j=>L (j+1)) (fun _=>false) _ (fun _=>some v) (by simp[X7]) (fun j u J=>U (j+1) u zo (by simpa using J))]
  have:∀(G:List (Option (Nat×α))) (F:Nat→Option α),vF G (fun _=>false) F=F:=by
   intro G
   induction G with
  |nil=>intro F;rfl
  |cons c G W=>intro F;simp only[vF,Bool.false_eq_true,if_false];exact W F
  rw[this]
|c::G,L,F,i+1,hi,O,U=>by
  simp only[vF];exact nD G (fun j=>L (j+1)) _ i (by simpa using hi) O (fun j u Y J=>U (j+1) u zo (by simpa using J))
theorem kT(J:List (Option (Nat×α)))(L:Nat→Bool)(F:Nat→Option α)(i:Nat)(c:Option (Nat×α))(hi:J[i]?=some c)(Z:∀b v,c=some (b,v)→∀(j:Nat) u,i<j→J[j]?=some (some (b,u))→L j=false) :
  vF J (fun j=>L j||decide (j=i)) F=X7 (vF J L F) c:=by
 funext t;cases c with
|none =>
  refine Uc J _ _ _ _ rfl (fun j v G=>?_);have:j≠i:=fun e=>by rw[e,hi] at G;cases G
  simp[this]
|some Y =>
  obtain⟨b,v⟩:=Y;by_cases e:b=t
  ·subst e;simp only[X7,if_true];refine nD J _ F i hi zq (fun j u O G=>?_);have:=Z b v rfl j u O G;have U:j≠i:=by omega
   simp[this,U]
  ·simp only[X7,e,if_false];refine Uc J _ _ _ _ rfl (fun j u G=>?_);have:j≠i:=fun W=>by rw[W,hi] at G;cases G;exact e rfl
   simp[this]
theorem kU(G:List (Option (Nat×α)))(L J:Nat→Bool)(F:Nat→Option α)(U:∀j,j<G.length→L j=J j):vF G L F=vF G J F:=by
 funext t;exact Uc G L J F F rfl (fun j v O=>U j (CS.1 O).1)
theorem Xx{α:Type}:∀(G:List (Option (Nat×α))) (L:Nat→Bool) (F:Nat→Option α),(∀j,j<G.length→L j=false)→vF G L F=F
|[],_,_,_=>rfl
|c::G,L,F,J=>by
  simp only[vF,J 0 zq,Bool.false_eq_true,if_false];exact Xx G _ F (fun j O=>J (j+1) (by simp;omega))
structure Ev where
 x:AV
 wr:Option (Nat×Blk)
 rd:List Nat
def wT(o:Oper)(e:Ev):Option (Nat×AV):=o.dst.map fun d=>(d,e.x)
def pvs(G:List Value):List AV:=G.map fun v=>.p (.val v)
def Qho(J:List AV→AV):Prop:=∀(φ:Nat→Nat) (h:QN) (w:World) (M:ZK) (args:List AV) (G:List Value) (v:Value),Qi φ h w M args G→Qe φ h w M (J (pvs G)) v→Qe φ h w M (J args) v
def aA:AV→Bool|.tsl _ _ _=>true|.p (.sl _ _)=>true|_=>false
def SlV(G:List Value):Prop:=∀v∈G,∃a l c,v=Value.slice a l c
theorem nE{φ:Nat→Nat}{h:QN}{w:World}{M:ZK}:∀{xs:List AV} {W:List Value},xs.all aA=true→Qi φ h w M xs W→SlV W
|[],W,_,G=>by simp only[Qi] at G;subst G;intro v J;cases J
|x::xs,W,O,G=>by
  simp only[Qi] at G;obtain⟨y,ys,rfl,U,Y⟩:=G;simp only[List.all_cons,ZG] at O;intro v J;rcases List.mem_cons.1 J with rfl|J
  ·have hp:∀S es,QM w M (.sl S es) v→∃a l c,v=Value.slice a l c:=by
    intro S es hp;simp only[QM] at hp;rcases hp with⟨r,o,cap,e,_⟩|⟨_,a,cap,e⟩
    ·exact⟨_,_,_,e⟩
    ·exact⟨_,_,_,e⟩
   cases x with
  |tsl S es t=>simp only[Qe] at U;exact hp S es U.1
  |p q =>
    cases q with
   |sl S es=>simp only[Qe] at U;exact hp S es U
   |_=>simp[aA] at O
  |_=>simp[aA] at O
  ·exact nE O.2 Y v J
def Step1(P:Program)(N:Nat)(ops:Array Oper)(o:Oper)(T:Nat→Option AV)(h:QN)(e:Ev):Prop :=
  KD N o.dst=true ∧
  ((ZB ops o T=some false∧e=⟨.p (.val undef),none,[]⟩) ∨
   (ZB ops o T=some true∧Jy P o T h=some (e.x,e.wr,e.rd)) ∨
   (ZB ops o T=some true∧∃f args args',Ki T o.op=some (f,args)∧(P.funcs[f]?).any (fun fn=>fn.body.isSome&&fn.name != "runtime.NumGoroutine")=true∧Nu args args'∧Y5 args'=true ∧
     Za P f args' (.ret e.x)∧Yk e.x=true∧e.wr=none∧e.rd=[]) ∨
   (ZB ops o T=some true∧∃(f:FuncId) (args:List AV) (J:List AV→AV),Ki T o.op=some (f,args)∧(P.funcs[f]?).any (fun fn=>fn.body.isSome&&fn.name != "runtime.NumGoroutine")=true ∧
     args.all aA=true∧(∀G:List Value,SlV G→G.length=args.length→Za P f (pvs G) (.ret (J (pvs G))))∧(∀G,Yk (J (pvs G))=true)∧Qho J∧e.x=J args∧e.wr=none∧e.rd=[]))
theorem dN(G:∀t∈o.looksAt ops,T' t=T t):∀x∈o.op.operands,Zo T' x=Zo T x:=by
 intro x J;cases x with
|tmp t=>exact G t (List.mem_append_left _ (List.mem_filterMap.2 ⟨.tmp t,by simpa using J,rfl⟩))
|_=>rfl
theorem wL(J:∀t∈o.looksAt ops,T' t=T t):ZB ops o T'=ZB ops o T:=by
 unfold ZB;cases hg:o.guard with
|none=>rfl
|some O =>
  obtain⟨g,want⟩:=O;simp only;cases hj:ops[g]? with
 |none=>rfl
 |some G =>
   simp only;cases hd:G.dst with
  |none=>rfl
  |some d =>
    simp only;rw[J d (by simp[Oper.looksAt,hg,hj,hd])]
theorem kV(hs:∀x∈o.op.operands,Zo T' x=Zo T x):Ki T' o.op=Ki T o.op:=by
 unfold Ki;split
 ·rename_i f args ts J;rw[FD (fun x G=>hs x (by rw[J];simp[Op.operands,Call.operands] at G ⊢;exact .inr G))]
 ·rename_i t args ts J;have O:T' t=T t:=hs (.tmp t) (by rw[J];simp[Op.operands,Call.operands]);rw[O,FD (fun x G=>hs x (by rw[J];simp[Op.operands,Call.operands] at G ⊢;exact .inr G))]
 ·rfl
theorem Step1.loc{e:Ev}(s:Step1 P N ops o T h e)(J:∀t∈o.looksAt ops,T' t=T t)(U:∀b∈e.rd,h' b=h b) :
  Step1 P N ops o T' h' e:=by
 have hs:=dN J;refine⟨s.1,?_⟩;rw[wL J,kV hs];rcases s.2 with G|⟨G,O⟩|G|G
 ·exact .inl G
 ·exact .inr (.inl ⟨G,dM O hs U⟩)
 ·exact .inr (.inr (.inl G))
 ·exact .inr (.inr (.inr G))
theorem Zn.putT(r:Zn φ M0 N D T h a w){d:Option Tmp}{x:AV}(J:∀t,d=some t→t<N)(O:Qe φ h w (MM φ h M0) x v):Zn φ M0 N D (X7 T (d.map fun d=>(d,x))) h (a.put d v) w:=by
 cases d with
|none=>exact r
|some d =>
  have hlt:=J d rfl;refine⟨r.dfs,by simp[Act.put,r.siz],r.hp,fun t y G=>?_⟩;simp only[Option.map_some,X7] at G;by_cases e:d=t
  ·simp only[e,if_true,QW] at G;subst G;refine⟨e▸hlt,?_⟩;have:(a.put (some d) v).tmps.getD t undef=v:=by subst e;simp[Act.put,r.siz,hlt]
   rw[this];exact O
  ·simp only[e,if_false] at G;refine⟨(r.tm t y G).1,?_⟩;have:(a.put (some d) v).tmps.getD t undef=a.tmps.getD t undef:=by simp[Act.put,Array.getElem?_setIfInBounds_ne e]
   rw[this];exact(r.tm t y G).2
theorem Qb2(h:QN)(c:Option (Nat×Blk)):ap h c=X7 h c:=by
 cases c with
|none=>rfl
|some G=>rfl
theorem Step1.wp{e:Ev}{Q:Exit→Act→World→Prop}(hi:ops[i]?=some o)(s:Step1 P N ops o T h e)(r:Zn φ M0 N D T h a w){K:Act→World→Prop}(hK:∀φ' a' w',Zn φ' M0 N D (X7 T (wT o e)) (X7 h e.wr) a' w'→Q8 φ h w φ' (X7 h e.wr) w'→K a' w'):wpOp P ops Q i K a w:=by
 unfold wpOp;simp only[hi];obtain⟨hd,hs⟩:=s;rcases hs with⟨G,rfl⟩|⟨G,J⟩|⟨G,f,args,args',J,O,Z,h5,h6,h7,h8,h9⟩|⟨G,f,args,τ,J,O,h10,h6,h7,h5,Z,h8,h9⟩
 ·rw[FC r G];simp only[Bool.false_eq_true,if_false];exact hK φ _ w (r.putT (Z7 hd) (by simp[Qe,QM])) (Q8.refl _ _ _)
 ·rw[FC r G];simp only[if_true];refine .inl ?_;obtain⟨nx,v,w',φ',g1,g2,g3,g4,g5,g6⟩:=eQ r J;simp only[Qb2] at g3 g4 g5 g6;have r3:Zn φ' M0 N D T (X7 h e.wr) a w':=r.keep g5 g6 g4;have W:=r3.putT (d:=o.dst) (x:=e.x) (v:=v) (Z7 hd) g3;unfold Oper.wp;rw[g1];rcases g2 with rfl|⟨rfl,rfl⟩
  ·exact hK φ' _ w' W g5
  ·exact hK φ' _ w' W g5
 ·rw[FC r G];simp only[if_true];refine .inl ?_;obtain⟨Y,g1,g2⟩:=Mv r J O;unfold Oper.wp;rw[g2];simp only[Oper.upon];have hH:ZN φ Lj w (MB φ h w M0):=Hr (fun x o hm=>wH hm) r.hp.gm.w r.hp.gm.mb;have hM:∀r o v,w.cell? ⟨r,o,none⟩=some v→¬MM φ h M0 r o→w.cell? ⟨r,o,none⟩=some v∧¬MM φ Lj (MB φ h w M0) r o:=fun r o v G J=>⟨G,fun O=>O.elim WM (fun Z=>J Z.1)⟩
  refine(h6 φ (MB φ h w M0) w Y hH ((Ji hM).2 _ _ h5 (Xc.2 _ _ _ Z g1))).mono ?_;rintro e1 w' ⟨φ',r',h',⟨rfl,rfl⟩,ab,E,v,rfl,hv⟩;have U:∀ro o v,w'.cell? ⟨ro,o,none⟩=some v→¬MM φ' Lj (MB φ h w M0) ro o→w'.cell? ⟨ro,o,none⟩=some v∧¬MM (K5 φ w.heap.size (w'.heap.size-w.heap.size)) h M0 ro o:=fun ro o v G J=>⟨G,Ak r.hp E.size G (fun O=>J (.inr O))⟩
  obtain⟨r,E1,X1,hC⟩:=r.lift (w'.heap.size-w.heap.size);obtain⟨E2,X2,H2⟩:=UM E.os E.tape E.output E.size (fun x hx=>E.same x hx (fun b hb=>absurd rfl hb)) r.hp hC;have W:Zn _ M0 N D T h a w':=r.keep E2 X2 H2;have r3:=W.putT (d:=o.dst) (x:=e.x) (v:=v) (Z7 hd) ((Ji U).1 _ _ h7 hv);have e8:X7 h e.wr=h:=by rw[h8];rfl
  exact hK _ _ w' (by rw[e8];exact r3) (by rw[e8];exact E1.trans E2)
 ·rw[FC r G];simp only[if_true];refine .inl ?_;obtain⟨Y,g1,g2⟩:=Mv r J O;unfold Oper.wp;rw[g2];simp only[Oper.upon];have hH:ZN φ Lj w (MB φ h w M0):=Hr (fun x o hm=>wH hm) r.hp.gm.w r.hp.gm.mb;refine(h6 Y (nE h10 g1) (ZO g1).symm φ (MB φ h w M0) w Y hH (Fj Y)).mono ?_;rintro e1 w' ⟨φ',r',h',⟨rfl,rfl⟩,ab,E,v,rfl,hv⟩;have U:∀ro o v,w'.cell? ⟨ro,o,none⟩=some v→¬MM φ' Lj (MB φ h w M0) ro o→w'.cell? ⟨ro,o,none⟩=some v∧¬MM (K5 φ w.heap.size (w'.heap.size-w.heap.size)) h M0 ro o:=fun ro o v G J=>⟨G,Ak r.hp E.size G (fun O=>J (.inr O))⟩
  obtain⟨r,E1,X1,hC⟩:=r.lift (w'.heap.size-w.heap.size);obtain⟨E2,X2,H2⟩:=UM E.os E.tape E.output E.size (fun x hx=>E.same x hx (fun b hb=>absurd rfl hb)) r.hp hC;have W:Zn _ M0 N D T h a w':=r.keep E2 X2 H2;have aa:=(Ji (φ':=K5 φ w.heap.size (w'.heap.size-w.heap.size)) (h':=h) U).1 _ _ (h7 Y) hv;have r3:=W.putT (d:=o.dst) (x:=e.x) (v:=v) (Z7 hd) (by rw[Z];exact h5 _ _ _ _ _ _ _ ((QH (E2.keeps M0) X2).2 _ _ ((QH (E1.keeps M0) X1).2 _ _ g1)) aa);have e8:X7 h e.wr=h:=by rw[h8];rfl
  exact hK _ _ w' (by rw[e8];exact r3) (by rw[e8];exact E1.trans E2)
abbrev YA:=Option Nat×List Nat
def Yo(a b:YA):Bool :=
 (match a.1 with|some x=>!b.2.contains x&&b.1 != some x|none=>true)&&(match b.1 with|some y=>!a.2.contains y|none=>true)
def waits(G:Oper)(i:Nat):Bool:=G.after.toList.any fun e=>Region.binds .any e&&e.on==i
def IB(ops:Array Oper)(G:Oper)(i:Nat):Bool:=waits G i||G.after.toList.any fun e=>Region.binds .any e&&(ops[e.on]?).any (waits · i)
theorem LD{U:Oper}(h:IB ops U i=true) :
  (∃G,G∈U.after∧Region.binds .any G=true∧G.on=i)∨(∃G ok J,G∈U.after∧Region.binds .any G=true∧ops[G.on]?=some ok∧J∈ok.after∧Region.binds .any J=true∧J.on=i):=by
 have key:∀(o:Oper),waits o i=true→∃G,G∈o.after∧Region.binds .any G=true∧G.on=i:=by
  intro o hw;simp only[waits,List.any_eq_true,ZG,beq_iff_eq] at hw;obtain⟨G,Y,W,O⟩:=hw;exact⟨G,by simpa using Y,W,O⟩
 simp only[IB,Bool.or_eq_true] at h;rcases h with h|h
 ·exact .inl (key U h)
 ·simp only[List.any_eq_true,ZG] at h;obtain⟨G,Y,W,O⟩:=h;cases hok:ops[G.on]? with
 |none=>rw[hok] at O;cases O
 |some ok =>
   rw[hok] at O;obtain⟨J,g1,g2,g3⟩:=key ok (by simpa using O);exact .inr ⟨G,ok,J,by simpa using Y,W,hok,g1,g2,g3⟩
def Be(ops:Array Oper)(O:Oper)(i:Nat)(J:YA):List Oper→List YA→Bool|G::l,U::W=>(IB ops G i||(O.apart ops G&&Yo J U))&&Be ops O i J l W|_,_=>true
def nG(ops:Array Oper):Nat→List Oper→List YA→Bool|i,O::l,J::G=>Be ops O i J l G&&nG ops (i+1) l G|_,_,_=>true
def GZ:Nat→List Oper→Bool|_,[]=>true|j,o::l=>(o.after.toList.all fun e=>!Region.binds .any e||decide (e.on<j))&&GZ (j+1) l
def KE(ops:Array Oper)(G:List YA):Bool:=nG ops 0 ops.toList G&&GZ 0 ops.toList
theorem DC{ops:Array Oper}{W:Oper}{i:Nat}{Y:YA}:∀{l:List Oper} {U:List YA},Be ops W i Y l U=true→∀(j:Nat) G J,l[j]?=some G→U[j]?=some J→IB ops G i=true∨(W.apart ops G=true∧Yo Y J=true)
|[],U,_,j,G,J,O,_=>by simp at O
|o::l,[],_,j,G,J,_,hf=>by simp at hf
|o::l,f::U,hp,j,G,J,O,hf=>by
  simp only[Be,ZG,Bool.or_eq_true] at hp;cases j with
 |zero=>simp at O hf;subst O hf;exact hp.1
 |succ j=>exact DC hp.2 j G J (by simpa using O) (by simpa using hf)
theorem FE{ops:Array Oper}:∀{l:List Oper} {Z:List YA} {k:Nat},nG ops k l Z=true→∀(i j:Nat) U G W J,i<j→l[i]?=some U→l[j]?=some G→Z[i]?=some W→Z[j]?=some J →
  IB ops G (k+i)=true∨(U.apart ops G=true∧Yo W J=true)
|[],Z,k,_,i,j,U,G,W,J,_,hi,_,_,_=>by simp at hi
|o::l,[],k,_,i,j,U,G,W,J,_,_,_,hf,_=>by simp at hf
|o::l,f::Z,k,hp,i,j,U,G,W,J,aa,hi,hj,O,Y=>by
  simp only[nG,ZG] at hp;cases j with
 |zero=>omega
 |succ j =>
   cases i with
  |zero =>
    simp at hi O;subst hi O;exact DC hp.1 j G J (by simpa using hj) (by simpa using Y)
  |succ i =>
    have:=FE hp.2 i j U G W J zo (by simpa using hi) (by simpa using hj) (by simpa using O) (by simpa using Y)
    rwa [show k+1+i=k+(i+1) from by omega] at this
theorem Wu:∀{l:List Oper} {k:Nat},GZ k l=true→∀(j:Nat) o,l[j]?=some o→∀e∈o.after,Region.binds .any e=true→e.on<k+j
|[],k,_,j,o,G=>by simp at G
|o::l,k,hp,j,O,G=>by
  simp only[GZ,ZG] at hp;cases j with
 |zero =>
   simp at G;subst G;intro e J hb;have:=Xb.1 hp.1 e (by simpa using J);simpa [hb] using this
 |succ j =>
   intro e J hb;have:=Wu hp.2 j O (by simpa using G) e J hb;omega
def Al(listed:Array Bool):Nat→Nat|0=>0|n+1=>Al listed n+(if listed.getD n true then 0 else 1)
theorem Nv{listed:Array Bool}{i:Nat}(hi:listed.getD i true=false):∀n,Al (listed.setIfInBounds i true) n+(if i<n then 1 else 0)=Al listed n
|0=>by simp[Al]
|n+1=>by
  have J:=Nv hi n;simp only[Al]
  have hlt:i<listed.size:=by
   rcases Nat.lt_or_ge i listed.size with h|h
   ·exact h
   ·simp[Array.getElem?_eq_none h] at hi
  by_cases e:i=n
  ·subst e;have G:(listed.setIfInBounds i true).getD i true=true:=by simp[hlt]
   rw[G,hi];simp at J ⊢;omega
  ·rw[getD_set_ne true e];have:(i<n+1)↔(i<n):=by omega
   simp only[this];omega
theorem DD{listed:Array Bool}:∀{n:Nat},Al listed n=0→∀i,i<n→listed.getD i true=true
|0,_,i,hi=>by omega
|n+1,hu,i,hi=>by
  simp only[Al] at hu;by_cases e:i=n
  ·subst e;cases hq:listed.getD i true with
  |true=>rfl
  |false=>rw[hq] at hu;simp at hu
  ·exact DD (n:=n) (Nat.eq_zero_of_add_eq_zero_right hu) i zo
theorem aB{Q:Exit→Act→World→Prop}{T0:Nat→Option AV}(es:List Ev)(av:es.length=ops.size)(bc:∀(i:Nat) o e,ops[i]?=some o→es[i]?=some e→Step1 P N ops o (vF ((ops.toList.zip es).map fun p=>wT p.1 p.2) (fun j=>decide (j<i)) T0) (vF (es.map (·.wr)) (fun j=>decide (j<i)) h0) e)(az:KE ops (es.map fun e=>(e.wr.map (·.1),e.rd))=true)(hQ:∀φ a w,Zn φ M0 N D (vF ((ops.toList.zip es).map fun p=>wT p.1 p.2) (fun _=>true) T0) (vF (es.map (·.wr)) (fun _=>true) h0) a w→Q8 φ0 h0 w0 φ (vF (es.map (·.wr)) (fun _=>true) h0) w→Q .normal a w) :
  ∀(ac:Nat) (listed:Array Bool) (a:Act) (w:World) (φ:Nat→Nat),listed.size=ops.size→Al listed ops.size≤ac →
   (∀(j:Nat) o,ops[j]?=some o→listed.getD j false=true→∀e∈o.after,Region.binds .any e=true→listed.getD e.on false=true) →
   Zn φ M0 N D (vF ((ops.toList.zip es).map fun p=>wT p.1 p.2) (fun j=>listed.getD j false) T0) (vF (es.map (·.wr)) (fun j=>listed.getD j false) h0) a w →
   Q8 φ0 h0 w0 φ (vF (es.map (·.wr)) (fun j=>listed.getD j false) h0) w→wpAny P .any ops Q ac listed a w:=by
 simp only[KE,ZG] at az;obtain⟨aj,a6⟩:=az;have aw:∀(listed:Array Bool) (i:Nat),i<listed.size→listed.getD i true=listed.getD i false:=fun listed i hi=>by simp[hi]
 have bi:((ops.toList.zip es).map fun p=>wT p.1 p.2).length=ops.size:=by simp[av]
 have aq:∀(listed:Array Bool) (a:Act) (w:World) (φ:Nat→Nat),listed.size=ops.size→(∀i,i<ops.size→listed.getD i true=true) →
   Zn φ M0 N D (vF ((ops.toList.zip es).map fun p=>wT p.1 p.2) (fun j=>listed.getD j false) T0) (vF (es.map (·.wr)) (fun j=>listed.getD j false) h0) a w →
   Q8 φ0 h0 w0 φ (vF (es.map (·.wr)) (fun j=>listed.getD j false) h0) w→Q .normal a w:=by
  intro listed a w φ af O r E
  have e1:vF ((ops.toList.zip es).map fun p=>wT p.1 p.2) (fun j=>listed.getD j false) T0=vF ((ops.toList.zip es).map fun p=>wT p.1 p.2) (fun _=>true) T0 :=
   kU _ _ _ _ (fun j U=>by rw[bi] at U;rw[←aw listed j zo];exact O j U)
  have e2:vF (es.map (·.wr)) (fun j=>listed.getD j false) h0=vF (es.map (·.wr)) (fun _=>true) h0 :=
   kU _ _ _ _ (fun j U=>by simp only[Jd,av] at U;rw[←aw listed j zo];exact O j U)
  rw[e1,e2] at r;rw[e2] at E;exact hQ φ a w r E
 have ax:∀(listed:Array Bool),listed.size=ops.size→Region.ready .any ops listed=[]→∀i,i<ops.size→listed.getD i true=true:=by
  intro listed af hr i
  induction i using Nat.strongRecOn with
 |_ i ih =>
   intro hi;cases hq:listed.getD i true with
  |true=>rfl
  |false =>
    have:i∈Region.ready .any ops listed:=by
     rw[mem_ready];refine⟨hq,ops[i],Array.getElem?_eq_getElem hi,fun e he hb=>?_⟩;have Y:=Wu a6 i ops[i] (by simp[hi]) e he hb;have h2:e.on<i:=by omega
     rw[←aw listed e.on zo];exact ih e.on h2 zo
    rw[hr] at this;cases this
 intro ac
 induction ac with
|zero =>
  intro listed a w φ af hu al r E;have O:=DD (n:=ops.size) (listed:=listed) zo;refine⟨?_,aq listed a w φ af O r E⟩;apply List.eq_nil_iff_forall_not_mem.2;intro i hi;rw[mem_ready] at hi;obtain⟨Y,o,ho,_⟩:=hi;rw[O i (Ls.1 ho).1] at Y;cases Y
|succ ac ih =>
  intro listed a w φ af hu al r E;refine⟨fun hr=>aq listed a w φ af (ax listed af hr) r E,fun i hi=>?_⟩;rw[mem_ready] at hi;obtain⟨bf,o,ho,O⟩:=hi;have be:i<ops.size:=(Ls.1 ho).1;have ai:listed.getD i false=false:=by rw[←aw listed i zo];exact bf
  obtain⟨e,he⟩:∃e,es[i]?=some e:=⟨es[i],List.getElem?_eq_getElem zo⟩
  have ah:∀(j:Nat) W Z,ops[j]?=some W→es[j]?=some Z→j≠i→¬(listed.getD j false=decide (j<i))→W.apart ops o=true∧Yo (Z.wr.map (·.1),Z.rd) (e.wr.map (·.1),e.rd)=true∨(o.apart ops W=true∧Yo (e.wr.map (·.1),e.rd) (Z.wr.map (·.1),Z.rd)=true):=by
   intro j W Z J aa hne G;rcases Nat.lt_or_ge j i with hlt|bj
   ·have:=FE aj j i W o (Z.wr.map (·.1),Z.rd) (e.wr.map (·.1),e.rd) hlt (by simpa using J) (by simpa using ho) (by simp[aa]) (by simp[he]);rcases this with hw|a8
    ·exfalso;simp only[Nat.zero_add] at hw;rcases LD hw with⟨ed,ab,hb,ae⟩|⟨ed,ok,ba,ab,hb,hok,am,a7,ae⟩
     ·have:=O ed ab hb;rw[ae] at this;exact G (by rw[this];simp[hlt])
     ·have:=al ed.on ok hok (O ed ab hb) ba am a7;rw[ae] at this;exact G (by rw[this];simp[hlt])
    ·exact .inl a8
   ·have bb:i<j:=by omega
    have:=FE aj i j o W (e.wr.map (·.1),e.rd) (Z.wr.map (·.1),Z.rd) bb (by simpa using ho) (by simpa using J) (by simp[he]) (by simp[aa]);rcases this with hw|a8
    ·exfalso;simp only[Nat.zero_add] at hw;cases hq:listed.getD j false with
    |true =>
      rcases LD hw with⟨ed,ab,hb,ae⟩|⟨ed,ok,ba,ab,hb,hok,am,a7,ae⟩
      ·have:=al j W J hq ed ab hb;rw[ae,ai] at this;cases this
      ·have:=al ed.on ok hok (al j W J hq ed ab hb) ba am a7;rw[ae,ai] at this;cases this
    |false =>
      have h3:¬j<i:=by omega
      exact G (by rw[hq];simp[h3])
    ·exact .inr a8
  have ar:∀(j:Nat) t v,((ops.toList.zip es).map fun p=>wT p.1 p.2)[j]?=some (some (t,v))→∃W Z,ops[j]?=some W∧es[j]?=some Z∧W.dst=some t:=by
   intro j t v U;simp only[List.getElem?_map,GU] at U;obtain⟨p,hp,hw⟩:=U;rw[List.getElem?_zip_eq_some] at hp;refine⟨p.1,p.2,by simpa using hp.1,hp.2,?_⟩;unfold wT at hw;cases hd:p.1.dst with
  |none=>rw[hd] at hw;cases hw
  |some d=>rw[hd] at hw;simp only[Option.map_some,QW,Xu] at hw;rw[hw.1]
  have au:∀(j:Nat) b k,(es.map (·.wr))[j]?=some (some (b,k))→∃W Z,ops[j]?=some W∧es[j]?=some Z∧Z.wr=some (b,k):=by
   intro j b k U;simp only[List.getElem?_map,GU] at U;obtain⟨p,hp,hw⟩:=U;have bh:j<ops.size:=by rw[←av];exact(CS.1 hp).1
   exact⟨ops[j],p,Array.getElem?_eq_getElem bh,hp,hw⟩
  have ay:=(bc i o e ho he).loc (T':=vF ((ops.toList.zip es).map fun p=>wT p.1 p.2) (fun j=>listed.getD j false) T0) (h':=vF (es.map (·.wr)) (fun j=>listed.getD j false) h0) (by
   intro t ht;refine Uc _ _ _ _ _ rfl (fun j v U=>?_);obtain⟨W,Z,J,aa,ad⟩:=ar j t v U;apply Classical.byContradiction;intro G;by_cases hne:j=i
   ·subst hne;exact G (by rw[ai];simp)
   ·rcases ah j W Z J aa hne G with⟨Y,_⟩|⟨Y,_⟩
    ·exact(Oper.apart_spec Y).1 t ad ht
    ·exact(Oper.apart_spec Y).2.2 t ad ht) (by
   intro b hb;refine Uc _ _ _ _ _ rfl (fun j k U=>?_);obtain⟨W,Z,J,aa,ao⟩:=au j b k U;apply Classical.byContradiction;intro G;by_cases hne:j=i
   ·subst hne;exact G (by rw[ai];simp)
   ·rcases ah j W Z J aa hne G with⟨_,Y⟩|⟨_,Y⟩
    ·simp only[Yo,ao,Option.map_some,ZG,Bool.not_eq_true'] at Y;have:=Y.1.1;simp[hb] at this
    ·simp only[Yo,ao,Option.map_some,ZG,Bool.not_eq_true'] at Y;have:=Y.2;simp[hb] at this)
  refine ay.wp ho r ?_;intro φ' a' w' r' E'
  have eL:∀j,(listed.setIfInBounds i true).getD j false=(listed.getD j false||decide (j=i)):=by
   intro j;by_cases bd:j=i
   ·subst bd;have:j<listed.size:=by omega
    simp[this]
   ·rw[getD_set_ne false (Ne.symm bd)];simp[bd]
  have hT:vF ((ops.toList.zip es).map fun p=>wT p.1 p.2) (fun j=>(listed.setIfInBounds i true).getD j false) T0=X7 (vF ((ops.toList.zip es).map fun p=>wT p.1 p.2) (fun j=>listed.getD j false) T0) (wT o e):=by
   simp only[eL];refine kT _ _ _ i (wT o e) ?_ ?_
   ·rw[List.getElem?_map,List.getElem?_zip_eq_some.2 (show ops.toList[i]?=some (o,e).1∧es[i]?=some (o,e).2 from⟨by simpa using ho,he⟩)];rfl
   ·intro b v ak j u bb U;obtain⟨W,Z,J,aa,ad⟩:=ar j b u U
    have an:o.dst=some b:=by
     unfold wT at ak;cases hd:o.dst with
    |none=>rw[hd] at ak;cases ak
    |some d=>rw[hd] at ak;simp only[Option.map_some,QW,Xu] at ak;rw[ak.1]
    cases hq:listed.getD j false with
   |false=>rfl
   |true =>
     exfalso;rcases ah j W Z J aa zo (by rw[hq];simp[show ¬j<i by omega]) with⟨Y,_⟩|⟨Y,_⟩
     ·exact(Oper.apart_spec Y).2.1 b ad an
     ·exact(Oper.apart_spec Y).2.1 b an ad
  have hH:vF (es.map (·.wr)) (fun j=>(listed.setIfInBounds i true).getD j false) h0=X7 (vF (es.map (·.wr)) (fun j=>listed.getD j false) h0) e.wr:=by
   simp only[eL];refine kT _ _ _ i e.wr (by simp[he]) ?_;intro b k bg j u bb U;obtain⟨W,Z,J,aa,ao⟩:=au j b u U;cases hq:listed.getD j false with
  |false=>rfl
  |true =>
    exfalso;rcases ah j W Z J aa zo (by rw[hq];simp[show ¬j<i by omega]) with⟨_,Y⟩|⟨_,Y⟩
    ·simp only[Yo,ao,bg,Option.map_some,ZG,bne_iff_ne] at Y;exact Y.1.2 rfl
    ·simp only[Yo,ao,bg,Option.map_some,ZG,bne_iff_ne] at Y;exact Y.1.2 rfl
  refine ih (listed.setIfInBounds i true) a' w' φ' (by simpa using af) ?_ ?_ (by rw[hT,hH];exact r') (by rw[hH];exact E.trans E')
  ·have:=Nv bf ops.size;rw[if_pos be] at this;omega
  ·intro j W J U ed ab hb;rw[eL] at U ⊢;simp only[Bool.or_eq_true,Fh] at U ⊢;rcases U with U|rfl
   ·exact .inl (al j W J U ed ab hb)
   ·rw[ho] at J;cases J;exact .inl (O ed ab hb)
def Xy(ops:Array Oper)(m:Nat):Bool:=(List.range m).all fun j=>(List.range (m+1)).any fun k=>decide (j<k)&&(ops[k]?).any (waits · j)
def G5(o:Oper):Bool:=match o.op with|.call ⟨.value (.tmp _),_,_⟩=>false|_=>true
def LF(ops:Array Oper)(m:Nat):Bool:=(List.range ops.size).all fun k=>decide (k≤m)||(ops[k]?).any (waits · (k-1))
theorem uV{Q:Exit→Act→World→Prop}(m:Nat)(W:∀i,(hi:i<ops.size)→∀e∈(ops[i]).after,Region.binds .any e=true→e.on<i)(aa:LF ops m=true) :
  ∀(d k G:Nat) (listed:Array Bool) (a:Act) (w:World),k+d=ops.size→m≤k→d≤G→listed.size=ops.size→(∀i,i<k→listed.getD i false=true)→(∀i,k≤i→listed.getD i false=false) →
   wpOps P ops Q ((List.range d).map (k+·)) a w→wpAny P .any ops Q G listed a w:=by
 have Y:∀(listed:Array Bool) (i:Nat),i<listed.size→listed.getD i true=listed.getD i false:=fun listed i hi=>by simp[hi]
 intro d
 induction d with
|zero =>
  intro k G listed a w hk af hf ab h1 h2 h
  have J:Region.ready .any ops listed=[]:=by
   apply List.eq_nil_iff_forall_not_mem.2;intro i hi;rw[mem_ready] at hi;obtain⟨Z,o,ho,_⟩:=hi;have ak:=(Ls.1 ho).1;rw[Y listed i zo,h1 i zo] at Z;cases Z
  cases G with
 |zero=>exact⟨J,h⟩
 |succ G=>exact⟨fun _=>h,fun i hi=>by rw[J] at hi;cases hi⟩
|succ d ih =>
  intro k G listed a w hk af hf ab h1 h2 h;obtain⟨G,rfl⟩:∃f,G=f+1:=⟨G-1,by omega⟩;have O:k<ops.size:=by omega
  have hr:(List.range (d+1)).map (k+·)=k::(List.range d).map (k+1+·):=by
   simp only[List.range_succ_eq_map,Yy,List.map_map,Nat.add_zero,List.cons.injEq,true_and];apply List.map_congr_left;intro j _;simp;omega
  rw[hr,wpOps_cons] at h;refine⟨fun J=>?_,fun i hi=>?_⟩
  ·exfalso
   have:k∈Region.ready .any ops listed:=by
    rw[mem_ready];refine⟨by rw[Y listed k zo];exact h2 k (Kt _),ops[k],Array.getElem?_eq_getElem O,fun e he hb=>?_⟩;exact h1 e.on (W k O e he hb)
   rw[J] at this;cases this
  ·rw[mem_ready] at hi;obtain⟨Z,o,ho,ac⟩:=hi;have aj:i<ops.size:=(Ls.1 ho).1;rw[Y listed i zo] at Z
   have ae:i=k:=by
    rcases Nat.lt_trichotomy i k with hlt|ai|al
    ·rw[h1 i hlt] at Z;cases Z
    ·exact ai
    ·exfalso;have U:=Xb.1 aa i (by simp;omega);simp only[Bool.or_eq_true,Fh] at U;rcases U with U|U
     ·omega
     ·rw[ho] at U;simp only[Option.any_some,waits,List.any_eq_true,ZG,beq_iff_eq] at U;obtain⟨ed,ah,hb,ad⟩:=U;have:=ac ed (by simpa using ah) hb;rw[ad,h2 (i-1) zo] at this;cases this
   subst ae;refine wpOp_mono (fun a' w' hq=>ih (i+1) G _ a' w' zo zo zo (by simpa using ab) ?_ ?_ hq) h
   ·intro j hj;by_cases e:i=j
    ·subst e;have:i<listed.size:=by omega
     simp[this]
    ·rw[getD_set_ne false e];exact h1 j zo
   ·intro j hj;rw[getD_set_ne false zo];exact h2 j zo
theorem zi{Q:Exit→Act→World→Prop}{T0:Nat→Option AV}(es:List Ev)(m:Nat)(hm:m<ops.size)(az:es.length=m)(be:∀(i:Nat) o e,ops[i]?=some o→es[i]?=some e→Step1 P N ops o (vF ((ops.toList.zip es).map fun p=>wT p.1 p.2) (fun j=>decide (j<i)) T0) (vF (es.map (·.wr)) (fun j=>decide (j<i)) h0) e)(ay:KE ops (es.map fun e=>(e.wr.map (·.1),e.rd))=true)(bq:Xy ops m=true)(ax:LF ops m=true)(hQ:∀φ a w,Zn φ M0 N D (vF ((ops.toList.zip es).map fun p=>wT p.1 p.2) (fun _=>true) T0) (vF (es.map (·.wr)) (fun _=>true) h0) a w→Q8 φ0 h0 w0 φ (vF (es.map (·.wr)) (fun _=>true) h0) w→wpOps P ops Q ((List.range (ops.size-m)).map (m+·)) a w) :
  ∀(ab:Nat) (listed:Array Bool) (a:Act) (w:World) (φ:Nat→Nat),listed.size=ops.size→Al listed ops.size≤ab→(∀j,m≤j→listed.getD j false=false) →
   (∀(j:Nat) o,ops[j]?=some o→listed.getD j false=true→∀e∈o.after,Region.binds .any e=true→listed.getD e.on false=true) →
   Zn φ M0 N D (vF ((ops.toList.zip es).map fun p=>wT p.1 p.2) (fun j=>listed.getD j false) T0) (vF (es.map (·.wr)) (fun j=>listed.getD j false) h0) a w →
   Q8 φ0 h0 w0 φ (vF (es.map (·.wr)) (fun j=>listed.getD j false) h0) w→wpAny P .any ops Q ab listed a w:=by
 simp only[KE,ZG] at ay;obtain⟨aj,am⟩:=ay;have aq:∀(listed:Array Bool) (i:Nat),i<listed.size→listed.getD i true=listed.getD i false:=fun listed i hi=>by simp[hi]
 have bp:((ops.toList.zip es).map fun p=>wT p.1 p.2).length=m:=by simp[az];omega
 have ba:∀(listed:Array Bool) (a:Act) (w:World) (φ:Nat→Nat),listed.size=ops.size→(∀i,i<m→listed.getD i false=true) →
   Zn φ M0 N D (vF ((ops.toList.zip es).map fun p=>wT p.1 p.2) (fun j=>listed.getD j false) T0) (vF (es.map (·.wr)) (fun j=>listed.getD j false) h0) a w →
   Q8 φ0 h0 w0 φ (vF (es.map (·.wr)) (fun j=>listed.getD j false) h0) w→wpOps P ops Q ((List.range (ops.size-m)).map (m+·)) a w:=by
  intro listed a w φ ad O r E
  have e1:vF ((ops.toList.zip es).map fun p=>wT p.1 p.2) (fun j=>listed.getD j false) T0=vF ((ops.toList.zip es).map fun p=>wT p.1 p.2) (fun _=>true) T0 :=
   kU _ _ _ _ (fun j W=>by rw[bp] at W;exact O j W)
  have e2:vF (es.map (·.wr)) (fun j=>listed.getD j false) h0=vF (es.map (·.wr)) (fun _=>true) h0 :=
   kU _ _ _ _ (fun j W=>by simp only[Jd,az] at W;exact O j W)
  rw[e1,e2] at r;rw[e2] at E;exact hQ φ a w r E
 have av:∀(listed:Array Bool),listed.size=ops.size→Region.ready .any ops listed=[]→∀i,i<ops.size→listed.getD i true=true:=by
  intro listed ad hr i
  induction i using Nat.strongRecOn with
 |_ i ih =>
   intro hi;cases hq:listed.getD i true with
  |true=>rfl
  |false =>
    have:i∈Region.ready .any ops listed:=by
     rw[mem_ready];refine⟨hq,ops[i],Array.getElem?_eq_getElem hi,fun e he hb=>?_⟩;have Y:=Wu am i ops[i] (by simp[hi]) e he hb;have h2:e.on<i:=by omega
     rw[←aq listed e.on zo];exact ih e.on h2 zo
    rw[hr] at this;cases this
 intro ab
 induction ab with
|zero =>
  intro listed a w φ ad hu ae af r E;have O:=DD (n:=ops.size) (listed:=listed) zo;have:=O m zo;rw[aq listed m zo,ae m (Kt _)] at this;cases this
|succ ab ih =>
  intro listed a w φ ad hu ae af r E
  have bh:∀n,n≤ops.size→(∀i,m≤i→i<n→listed.getD i true=false)→n-m≤Al listed n:=by
   intro n
   induction n with
  |zero=>intro _ _;simp
  |succ n br =>
    intro hn hh;simp only[Al];have:=br zo (fun i Y h2=>hh i Y zo);by_cases bk:m≤n
    ·rw[hh n bk zo];simp;omega
    ·split<;>omega
  by_cases a6:∀i,i<m→listed.getD i false=true
  ·have hf:=bh ops.size (Kt _) (fun i Y h2=>by rw[aq listed i zo];exact ae i Y);exact uV m (fun i hi e he hb=>by have:=Wu am i ops[i] (by simp[hi]) e he hb;omega) ax (ops.size-m) m (ab+1) listed a w zo (Kt _) zo ad a6 ae (ba listed a w φ ad a6 r E)
  refine⟨fun hr=>?_,fun i hi=>?_⟩
  ·have:=av listed ad hr m zo;rw[aq listed m zo,ae m (Kt _)] at this;cases this
  rw[mem_ready] at hi;obtain⟨bi,o,ho,O⟩:=hi;have bg:i<ops.size:=(Ls.1 ho).1;have ai:listed.getD i false=false:=by rw[←aq listed i zo];exact bi
  by_cases bv:m≤i
  ·exfalso
   have bo:i=m:=by
    apply Classical.byContradiction;intro hne;have h4:=Xb.1 ax i (by simp;omega);simp only[Bool.or_eq_true,Fh] at h4;rcases h4 with h4|h4
    ·omega
    ·rw[ho] at h4;simp only[Option.any_some,waits,List.any_eq_true,ZG,beq_iff_eq] at h4;obtain⟨ed,U,hb,Z⟩:=h4;have:=O ed (by simpa using U) hb;rw[Z,ae (i-1) zo] at this;cases this
   subst bo
   have a7:∀d j,j+d+1=i→listed.getD j false=true:=by
    intro d
    induction d using Nat.strongRecOn with
   |_ d bm =>
     intro j W;have Y:=Xb.1 bq j (by simp;omega);simp only[List.any_eq_true,List.mem_range,ZG,Fh] at Y;obtain⟨k,hk,bt,hw⟩:=Y;cases hok:ops[k]? with
    |none=>rw[hok] at hw;cases hw
    |some ok =>
      rw[hok] at hw;simp only[Option.any_some,waits,List.any_eq_true,ZG,beq_iff_eq] at hw;obtain⟨ed,U,hb,Z⟩:=hw;by_cases bl:k=i
      ·subst bl;rw[ho] at hok;cases hok;have:=O ed (by simpa using U) hb
       rwa [Z] at this
      ·have:=af k ok hok (bm (i-k-1) zo k zo) ed (by simpa using U) hb
       rwa [Z] at this
   exact a6 (fun j W=>a7 (i-j-1) j zo)
  obtain⟨e,he⟩:∃e,es[i]?=some e:=⟨es[i],List.getElem?_eq_getElem zo⟩
  have ah:∀(j:Nat) oj ej,ops[j]?=some oj→es[j]?=some ej→j≠i→¬(listed.getD j false=decide (j<i))→oj.apart ops o=true∧Yo (ej.wr.map (·.1),ej.rd) (e.wr.map (·.1),e.rd)=true∨(o.apart ops oj=true∧Yo (e.wr.map (·.1),e.rd) (ej.wr.map (·.1),ej.rd)=true):=by
   intro j oj ej J aa hne G;rcases Nat.lt_or_ge j i with hlt|bu
   ·have:=FE aj j i oj o (ej.wr.map (·.1),ej.rd) (e.wr.map (·.1),e.rd) hlt (by simpa using J) (by simpa using ho) (by simp[aa]) (by simp[he]);rcases this with hw|bb
    ·exfalso;simp only[Nat.zero_add] at hw;rcases LD hw with⟨ed,U,hb,Z⟩|⟨ed,ok,bc,U,hb,hok,al,a8,Z⟩
     ·have:=O ed U hb;rw[Z] at this;exact G (by rw[this];simp[hlt])
     ·have:=af ed.on ok hok (O ed U hb) bc al a8;rw[Z] at this;exact G (by rw[this];simp[hlt])
    ·exact .inl bb
   ·have bd:i<j:=by omega
    have:=FE aj i j o oj (e.wr.map (·.1),e.rd) (ej.wr.map (·.1),ej.rd) bd (by simpa using ho) (by simpa using J) (by simp[he]) (by simp[aa]);rcases this with hw|bb
    ·exfalso;simp only[Nat.zero_add] at hw;cases hq:listed.getD j false with
    |true =>
      rcases LD hw with⟨ed,U,hb,Z⟩|⟨ed,ok,bc,U,hb,hok,al,a8,Z⟩
      ·have:=af j oj J hq ed U hb;rw[Z,ai] at this;cases this
      ·have:=af ed.on ok hok (af j oj J hq ed U hb) bc al a8;rw[Z,ai] at this;cases this
    |false =>
      have h3:¬j<i:=by omega
      exact G (by rw[hq];simp[h3])
    ·exact .inr bb
  have ar:∀(j:Nat) t v,((ops.toList.zip es).map fun p=>wT p.1 p.2)[j]?=some (some (t,v))→∃oj ej,ops[j]?=some oj∧es[j]?=some ej∧oj.dst=some t:=by
   intro j t v W;simp only[List.getElem?_map,GU] at W;obtain⟨p,hp,hw⟩:=W;rw[List.getElem?_zip_eq_some] at hp;refine⟨p.1,p.2,by simpa using hp.1,hp.2,?_⟩;unfold wT at hw;cases hd:p.1.dst with
  |none=>rw[hd] at hw;cases hw
  |some d=>rw[hd] at hw;simp only[Option.map_some,QW,Xu] at hw;rw[hw.1]
  have au:∀(j:Nat) b k,(es.map (·.wr))[j]?=some (some (b,k))→∃oj ej,ops[j]?=some oj∧es[j]?=some ej∧ej.wr=some (b,k):=by
   intro j b k W;simp only[List.getElem?_map,GU] at W;obtain⟨p,hp,hw⟩:=W;have bn:j<ops.size:=by have:=(CS.1 hp).1;omega
   exact⟨ops[j],p,Array.getElem?_eq_getElem bn,hp,hw⟩
  have aw:=(be i o e ho he).loc (T':=vF ((ops.toList.zip es).map fun p=>wT p.1 p.2) (fun j=>listed.getD j false) T0) (h':=vF (es.map (·.wr)) (fun j=>listed.getD j false) h0) (by
   intro t ht;refine Uc _ _ _ _ _ rfl (fun j v W=>?_);obtain⟨oj,ej,J,aa,ac⟩:=ar j t v W;apply Classical.byContradiction;intro G;by_cases hne:j=i
   ·subst hne;exact G (by rw[ai];simp)
   ·rcases ah j oj ej J aa hne G with⟨Y,_⟩|⟨Y,_⟩
    ·exact(Oper.apart_spec Y).1 t ac ht
    ·exact(Oper.apart_spec Y).2.2 t ac ht) (by
   intro b hb;refine Uc _ _ _ _ _ rfl (fun j k W=>?_);obtain⟨oj,ej,J,aa,ao⟩:=au j b k W;apply Classical.byContradiction;intro G;by_cases hne:j=i
   ·subst hne;exact G (by rw[ai];simp)
   ·rcases ah j oj ej J aa hne G with⟨_,Y⟩|⟨_,Y⟩
    ·simp only[Yo,ao,Option.map_some,ZG,Bool.not_eq_true'] at Y;have:=Y.1.1;simp[hb] at this
    ·simp only[Yo,ao,Option.map_some,ZG,Bool.not_eq_true'] at Y;have:=Y.2;simp[hb] at this)
  refine aw.wp ho r ?_;intro φ' a' w' r' E'
  have eL:∀j,(listed.setIfInBounds i true).getD j false=(listed.getD j false||decide (j=i)):=by
   intro j;by_cases bf:j=i
   ·subst bf;have:j<listed.size:=by omega
    simp[this]
   ·rw[getD_set_ne false (Ne.symm bf)];simp[bf]
  have hT:vF ((ops.toList.zip es).map fun p=>wT p.1 p.2) (fun j=>(listed.setIfInBounds i true).getD j false) T0=X7 (vF ((ops.toList.zip es).map fun p=>wT p.1 p.2) (fun j=>listed.getD j false) T0) (wT o e):=by
   simp only[eL];refine kT _ _ _ i (wT o e) ?_ ?_
   ·rw[List.getElem?_map,List.getElem?_zip_eq_some.2 (show ops.toList[i]?=some (o,e).1∧es[i]?=some (o,e).2 from⟨by simpa using ho,he⟩)];rfl
   ·intro b v ak j u bd W;obtain⟨oj,ej,J,aa,ac⟩:=ar j b u W
    have an:o.dst=some b:=by
     unfold wT at ak;cases hd:o.dst with
    |none=>rw[hd] at ak;cases ak
    |some d=>rw[hd] at ak;simp only[Option.map_some,QW,Xu] at ak;rw[ak.1]
    cases hq:listed.getD j false with
   |false=>rfl
   |true =>
     exfalso;rcases ah j oj ej J aa zo (by rw[hq];simp[show ¬j<i by omega]) with⟨Y,_⟩|⟨Y,_⟩
     ·exact(Oper.apart_spec Y).2.1 b ac an
     ·exact(Oper.apart_spec Y).2.1 b an ac
  have hH:vF (es.map (·.wr)) (fun j=>(listed.setIfInBounds i true).getD j false) h0=X7 (vF (es.map (·.wr)) (fun j=>listed.getD j false) h0) e.wr:=by
   simp only[eL];refine kT _ _ _ i e.wr (by simp[he]) ?_;intro b k bj j u bd W;obtain⟨oj,ej,J,aa,ao⟩:=au j b u W;cases hq:listed.getD j false with
  |false=>rfl
  |true =>
    exfalso;rcases ah j oj ej J aa zo (by rw[hq];simp[show ¬j<i by omega]) with⟨_,Y⟩|⟨_,Y⟩
    ·simp only[Yo,ao,bj,Option.map_some,ZG,bne_iff_ne] at Y;exact Y.1.2 rfl
    ·simp only[Yo,ao,bj,Option.map_some,ZG,bne_iff_ne] at Y;exact Y.1.2 rfl
  refine ih (listed.setIfInBounds i true) a' w' φ' (by simpa using ad) ?_ (fun j W=>by rw[getD_set_ne false zo];exact ae j W) ?_ (by rw[hT,hH];exact r') (by rw[hH];exact E.trans E')
  ·have:=Nv bi ops.size;rw[if_pos bg] at this;omega
  ·intro j oj J W ed U hb;rw[eL] at W ⊢;simp only[Bool.or_eq_true,Fh] at W ⊢;rcases W with W|rfl
   ·exact .inl (af j oj J W ed U hb)
   ·rw[ho] at J;cases J;exact .inl (O ed U hb)
def wM(N:Nat)(o:Oper)(s:St)(K:St→Prop):Option KN→Prop|some u=>KD N o.dst=true∧K (s.put o.dst u.1)|none=>False
def Qhp(N:Nat)(o:Oper)(s:St)(acc:List YA)(K:List YA→St→Prop):Option KN→Prop|some u=>KD N o.dst=true∧K ((u.2.1.map (·.1),u.2.2)::acc) (Xd s o.dst u)|none=>False
def wN(ops:Array Oper)(s:St):List Oper→Bool|[]=>true|o::rest=>(G5 o||(yieldOf (look (Zm ops o s.T true)) o.op).isNone)&&rest.all G5
theorem wO{l:List Oper}(h:l.all G5=true):wN ops s l=true:=by
 cases l with
|nil=>rfl
|cons o l =>
  simp only[List.all_cons,ZG] at h;simp[wN,h.1,h.2]
def uW(P:Program)(N:Nat)(ops:Array Oper)(Q:AX→St→Prop)(o:Oper)(op:Op)(rest:List Oper)(acc:List YA)(s0 s:St)(K:St→Prop):Prop :=(∃f args args' x,Ki (look s.T) op=some (f,args)∧Y6 P f=true∧KD N o.dst=true∧Nu args args'∧Y5 args'=true∧Yk x=true∧Za P f args' (.ret x)∧K (s.put o.dst x)) ∨ (rest=[]∧Xy ops acc.length=true∧KE ops acc.reverse=true∧Ua P N o s (Q .normal) Q) ∨ (Xy ops acc.length=true∧KE ops acc.reverse=true∧LF ops acc.length=true∧wN ops s0 (o::rest)=true∧Yl P N ops Q (o::rest) s0) ∨ (∃(f:FuncId) (args:List AV) (J:List AV→AV),Ki (look s.T) op=some (f,args)∧Y6 P f=true∧KD N o.dst=true∧args.all aA=true∧(∀G:List Value,SlV G→G.length=args.length→Za P f (pvs G) (.ret (J (pvs G))))∧(∀G,Yk (J (pvs G))=true)∧Qho J∧K (s.put o.dst (J args)))
def Qeo(P:Program)(N:Nat)(ops:Array Oper)(Q:AX→St→Prop)(o:Oper)(rest:List Oper)(acc:List YA)(s0:St):Prop :=Xy ops acc.length=true∧KE ops acc.reverse=true∧LF ops acc.length=true∧wN ops s0 (o::rest)=true∧Yl P N ops Q (o::rest) s0
def KX(P:Program)(N:Nat)(ops:Array Oper)(Q:AX→St→Prop):List Oper→List YA→St→Prop
 |[],acc,s=>KE ops acc.reverse=true∧Q .normal s
 |o::rest,acc,s =>
    match ZB ops o (look s.T) with
   |some b=>LW b
        (match o.op with
        |.pick c x y=>match Zo (look (Zm ops o s.T true)) c with
          |some (.p (.val (.bool t)))=>LW t (wM N o ⟨Zm ops o s.T true,s.H⟩ (KX P N ops Q rest ((none,[])::acc)) (Wt (look (Zm ops o s.T true)) x)) (wM N o ⟨Zm ops o s.T true,s.H⟩ (KX P N ops Q rest ((none,[])::acc)) (Wt (look (Zm ops o s.T true)) y))
          |_=>False
        |.call ⟨.value f,args,ts⟩=>uW P N ops Q o (.call ⟨.value f,args,ts⟩) rest acc s ⟨Zm ops o s.T true,s.H⟩ (KX P N ops Q rest ((none,[])::acc))
        |.panic x=>rest=[]∧Xy ops acc.length=true∧KE ops acc.reverse=true∧Ua P N o ⟨Zm ops o s.T true,s.H⟩ (Q .normal) Q
        |_=>Qhp N o ⟨Zm ops o s.T true,s.H⟩ acc (KX P N ops Q rest) (Jy P o (look (Zm ops o s.T true)) (look s.H))∨Qeo P N ops Q o rest acc s)
        (KD N o.dst=true∧KX P N ops Q rest ((none,[])::acc) (St.put ⟨Zm ops o s.T false,s.H⟩ o.dst (.p (.val undef))))
   |none=>False
def qE(e:Ev):YA:=(e.wr.map (·.1),e.rd)
theorem Qb3(c:Option (Nat×α))(G:List (Option (Nat×α)))(i:Nat)(F:Nat→Option α):vF (c::G) (fun j=>decide (j<i+1)) F=vF G (fun j=>decide (j<i)) (X7 F c):=by
 simp only[vF,Nat.zero_lt_succ,decide_true,if_true];congr 1;funext j;simp
def Nw(P:Program)(N:Nat)(ops:Array Oper)(l:List Oper)(es:List Ev)(T0:Nat→Option AV)(h0:QN):Prop :=∀(i:Nat) o e,l[i]?=some o→es[i]?=some e→Step1 P N ops o (vF ((l.zip es).map fun p=>wT p.1 p.2) (fun j=>decide (j<i)) T0) (vF (es.map (·.wr)) (fun j=>decide (j<i)) h0) e
theorem Tj{l:List Oper}{e:Ev}{es:List Ev}{T0:Nat→Option AV}(O:Step1 P N ops o T0 h0 e)(U:Nw P N ops l es (X7 T0 (wT o e)) (X7 h0 e.wr)):Nw P N ops (o::l) (e::es) T0 h0:=by
 intro i W Y G J;cases i with
|zero =>
  simp at G J;subst G J;rw[Xx _ _ _ zq,Xx _ _ _ zq];exact O
|succ i =>
  simp only[List.zip_cons_cons,Yy,Qb3];exact U i W Y (by simpa using G) (by simpa using J)
theorem dO(s:St)(o:Oper)(u:KN):look (Xd s o.dst u).T=X7 (look s.T) (wT o ⟨u.1,u.2.1,u.2.2⟩)∧look (Xd s o.dst u).H=X7 (look s.H) u.2.1:=by
 constructor
 ·unfold Xd wT;cases o.dst<;>rfl
 ·unfold Xd;cases hq:u.2.1 with
 |none=>rfl
 |some G=>rfl
theorem Ny(s:St)(o:Oper)(e:Ev)(hw:e.wr=none):look (s.put o.dst e.x).T=X7 (look s.T) (wT o e)∧look (s.put o.dst e.x).H=X7 (look s.H) e.wr:=by
 rw[hw];unfold wT St.put;cases o.dst<;>exact⟨rfl,rfl⟩
def Sl(P:Program)(N:Nat)(ops:Array Oper)(Q:AX→St→Prop)(l:List Oper)(acc:List YA)(s:St):Prop :=(∃(es:List Ev) (s':St),es.length=l.length∧Nw P N ops l es (look s.T) (look s.H)∧KE ops (acc.reverse++es.map qE)=true ∧ look s'.T=vF ((l.zip es).map fun p=>wT p.1 p.2) (fun _=>true) (look s.T)∧look s'.H=vF (es.map (·.wr)) (fun _=>true) (look s.H)∧Q .normal s') ∨ (∃(pre:List Oper) (o:Oper) (es:List Ev) (s':St),l=pre++[o]∧es.length=pre.length∧Nw P N ops l es (look s.T) (look s.H)∧KE ops (acc.reverse++es.map qE)=true∧Xy ops (acc.length+pre.length)=true ∧ look s'.T=vF ((l.zip es).map fun p=>wT p.1 p.2) (fun _=>true) (look s.T)∧look s'.H=vF (es.map (·.wr)) (fun _=>true) (look s.H)∧ZB ops o (look s'.T)=some true∧Ua P N o s' (Q .normal) Q) ∨ (∃(pre:List Oper) (o:Oper) (rest:List Oper) (es:List Ev) (s':St),l=pre++o::rest∧es.length=pre.length∧Nw P N ops l es (look s.T) (look s.H)∧KE ops (acc.reverse++es.map qE)=true∧Xy ops (acc.length+pre.length)=true∧LF ops (acc.length+pre.length)=true∧wN ops s' (o::rest)=true ∧ look s'.T=vF ((l.zip es).map fun p=>wT p.1 p.2) (fun _=>true) (look s.T)∧look s'.H=vF (es.map (·.wr)) (fun _=>true) (look s.H)∧Yl P N ops Q (o::rest) s')
theorem Sm{l:List Oper}{acc:List YA}(G:look s1.T=look s.T)(J:look s1.H=look s.H)(h:Sl P N ops Q l acc s1):Sl P N ops Q l acc s:=by
 unfold Sl at h ⊢;rw[G,J] at h;exact h
theorem IC{P:Program}{N:Nat}{ops:Array Oper}{Q:AX→St→Prop}:∀(l:List Oper) (acc:List YA) (s:St),KX P N ops Q l acc s→Sl P N ops Q l acc s
 |[],acc,s,h=>.inl ⟨[],s,rfl,fun i o e ho=>by simp at ho,by simpa using h.1,rfl,rfl,h.2⟩
 |o::l,acc,s,h=>by
    have step:∀(s:St) (e:Ev) (s1:St),Step1 P N ops o (look s.T) (look s.H) e→look s1.T=X7 (look s.T) (wT o e)→look s1.H=X7 (look s.H) e.wr→KX P N ops Q l (qE e::acc) s1→Sl P N ops Q (o::l) acc s:=by
      intro s e s1 hs hT hH hd;rcases IC l (qE e::acc) s1 hd with⟨es,s',G,J,U,O,W,Z⟩|⟨pre,o',es,s',h0,G,J,U,O,W,Z,h7,h8⟩|⟨pre,o',rest,es,s',h0,G,J,U,O,ah,ab,W,Z,h8⟩
      · refine .inl ⟨e::es,s',by simp[G],Tj hs (by rw[←hT,←hH];exact J),by simpa using U,?_,?_,Z⟩
        · rw[O,hT];rfl
        · rw[W,hH];rfl
      · refine .inr (.inl ⟨o::pre,o',e::es,s',by simp[h0],by simp[G],Tj hs (by rw[←hT,←hH];exact J),by simpa using U,?_,?_,?_,h7,h8⟩)
        · have:(qE e::acc).length+pre.length=acc.length+(o::pre).length:=by simp;omega
          rw[←this];exact O
        · rw[W,hT];rfl
        · rw[Z,hH];rfl
      · have this:(qE e::acc).length+pre.length=acc.length+(o::pre).length:=by simp;omega
        refine .inr (.inr ⟨o::pre,o',rest,e::es,s',by simp[h0],by simp[G],Tj hs (by rw[←hT,←hH];exact J),by simpa using U,by rw[←this];exact O,by rw[←this];exact ah,ab,?_,?_,h8⟩)
        · rw[W,hT];rfl
        · rw[Z,hH];rfl
    have tail:∀(s:St),ZB ops o (look s.T)=some true→(l=[]∧Xy ops acc.length=true∧KE ops acc.reverse=true∧Ua P N o s (Q .normal) Q)→Sl P N ops Q (o::l) acc s:=by
      rintro s hw ⟨G,J,U,O⟩;subst G;exact .inr (.inl ⟨[],o,[],s,rfl,rfl,fun i o e _ he=>by simp at he,by simpa using U,by simpa using J,rfl,rfl,hw,O⟩)
    have ae:∀s0 s:St,look s.T=look s0.T→s.H=s0.H→ZB ops o (look s.T)=some true→(match o.op with
        |.pick c x y=>match Zo (look s.T) c with
          |some (.p (.val (.bool t)))=>LW t (wM N o s (KX P N ops Q l ((none,[])::acc)) (Wt (look s.T) x)) (wM N o s (KX P N ops Q l ((none,[])::acc)) (Wt (look s.T) y))
          |_=>False
        |.call ⟨.value f,args,ts⟩=>uW P N ops Q o (.call ⟨.value f,args,ts⟩) l acc s0 s (KX P N ops Q l ((none,[])::acc))
        |.panic x=>l=[]∧Xy ops acc.length=true∧KE ops acc.reverse=true∧Ua P N o s (Q .normal) Q
        |_=>Qhp N o s acc (KX P N ops Q l) (Jy P o (look s.T) (look s.H))∨Qeo P N ops Q o l acc s0)→Sl P N ops Q (o::l) acc s:=by
        intro s0 s aa ac hw g;split at g
        · rename_i c x y ho
          split at g
          · rename_i t hc
            have Y:∀z,wM N o s (KX P N ops Q l ((none,[])::acc)) (Wt (look s.T) z)→BL (look s.T) c x y=Wt (look s.T) z→Sl P N ops Q (o::l) acc s:=by
              intro z hz hp;cases hm:Wt (look s.T) z with
             |none=>rw[hm] at hz;exact hz.elim
             |some u =>
                rw[hm] at hz hp
                have hu:u.2=(none,[]):=by
                  unfold Wt at hm;split at hm
                  · simp only[QW] at hm;subst hm;rfl
                  · cases hm
                have af:Jy P o (look s.T) (look s.H)=some (u.1,none,[]):=by
                  unfold Jy;simp only[ho];rw[hp];congr 1;rw[←hu]
                have ad:=Ny s o ⟨u.1,none,[]⟩ rfl;exact step s ⟨u.1,none,[]⟩ _ ⟨hz.1,.inr (.inl ⟨hw,af⟩)⟩ ad.1 ad.2 hz.2
            refine Ht g (fun ht hz=>Y x hz ?_) (fun ht hz=>Y y hz ?_)
            · subst ht;simp[BL,hc]
            · subst ht;simp[BL,hc]
          · exact g.elim
        · rename_i f ai ts ho
          rcases g with⟨f,args,args',x,G,J,U,O,W,Z,h7,h8⟩|G|⟨G,J,U,O,W⟩|⟨f,args,τ,G,J,U,h8,O,W,Z,h7⟩
          · have hp:=Ny s o ⟨x,none,[]⟩ rfl
            exact step s ⟨x,none,[]⟩ _ ⟨U,.inr (.inr (.inl ⟨hw,f,args,args',by rw[ho];exact G,J,O,W,h7,Z,rfl,rfl⟩))⟩ hp.1 hp.2 h8
          · exact tail s hw G
          · exact .inr (.inr ⟨[],o,l,[],s0,rfl,rfl,fun i o e _ he=>by simp at he,by simpa using J,by simpa using G,by simpa using U,O,aa.symm,by rw[ac];rfl,W⟩)
          · have hp:=Ny s o ⟨τ args,none,[]⟩ rfl
            exact step s ⟨τ args,none,[]⟩ _ ⟨U,.inr (.inr (.inr ⟨hw,f,args,τ,by rw[ho];exact G,J,h8,O,W,Z,rfl,rfl,rfl⟩))⟩ hp.1 hp.2 h7
        · exact tail s hw g
        · rcases g with g|⟨G,J,U,O,W⟩
          rotate_left
          · exact .inr (.inr ⟨[],o,l,[],s0,rfl,rfl,fun i o e _ he=>by simp at he,by simpa using J,by simpa using G,by simpa using U,O,aa.symm,by rw[ac];rfl,W⟩)
          cases hu:Jy P o (look s.T) (look s.H) with
         |none=>rw[hu] at g;exact g.elim
         |some u =>
            rw[hu] at g;have hp:=dO s o u;exact step s ⟨u.1,u.2.1,u.2.2⟩ _ ⟨g.1,.inr (.inl ⟨hw,hu⟩)⟩ hp.1 hp.2 g.2
    simp only[KX] at h;split at h
    · rename_i b hw
      refine Ht h (fun hb g=>?_) (fun hb g=>?_)
      · subst hb
        have em:=UN hw;exact Sm (s1:=⟨Zm ops o s.T true,s.H⟩) em rfl (ae s ⟨Zm ops o s.T true,s.H⟩ em rfl (by show ZB ops o (look (Zm ops o s.T true))=some true;rw[em];exact hw) g)
      · subst hb
        have em:=UN hw;refine Sm (s1:=⟨Zm ops o s.T false,s.H⟩) em rfl ?_;have hp:=Ny ⟨Zm ops o s.T false,s.H⟩ o ⟨.p (.val undef),none,[]⟩ rfl;exact step ⟨Zm ops o s.T false,s.H⟩ ⟨.p (.val undef),none,[]⟩ _ ⟨g.1,.inl ⟨by show ZB ops o (look (Zm ops o s.T false))=some false;rw[em];exact hw,rfl⟩⟩ hp.1 hp.2 g.2
    · exact h.elim
theorem wP(h:G5 o=true):yieldOf T o.op=none:=by
 unfold G5 at h;unfold yieldOf;split
 ·rename_i G;rw[G] at h;cases h
 ·rfl
theorem uX(h:(G5 o||(yieldOf (look (Zm ops o s.T true)) o.op).isNone)=true):yieldOf (look (Zm ops o s.T true)) o.op=none:=by
 rcases Bool.or_eq_true _ _ |>.mp h with h|h
 ·exact wP h
 ·simpa using h
theorem Eb{P:Program}{N:Nat}{D:DB}{ops:Array Oper}{Q:AX→St→Prop}:∀(l:List Oper) (k:Nat) (s:St) (φ0:Nat→Nat) (h0:QN) (w0:World) (φ:Nat→Nat) (M0:ZK) (a:Act) (w:World),
  (∀j,l[j]?=ops[k+j]?)→wN ops s l=true→Q8 φ0 h0 w0 φ (look s.H) w→Zn φ M0 N D (look s.T) (look s.H) a w→Yl P N ops Q l s →
  wpOps P ops (Post N D Q φ0 M0 h0 w0) ((List.range l.length).map (k+·)) a w
|[],k,s,φ0,h0,w0,φ,M0,a,w,U,J,E,r,h=>⟨φ,.normal,s,h,r,E,rfl⟩
|o::l,k,s,φ0,h0,w0,φ,M0,a,w,U,J,E,r,h=>by
  have Z:ops[k]?=some o:=by simpa using (U 0).symm
  have hr:(List.range (o::l).length).map (k+·)=k::(List.range l.length).map (k+1+·):=by
   simp only[Vr,List.range_succ_eq_map,Yy,List.map_map,Nat.add_zero,List.cons.injEq,true_and];apply List.map_congr_left;intro j _;simp;omega
  rw[hr,wpOps_cons];unfold wpOp;simp only[Z];simp only[wN,ZG] at J;have G:∀j,l[j]?=ops[k+1+j]?:=fun j=>by have:=U (j+1);rwa [show k+(j+1)=k+1+j from by omega] at this
  simp only[Yl] at h;split at h
  ·rename_i b hw;rw[FC r hw];refine Ht h (fun hb g=>?_) (fun hb g=>?_)
   ·subst hb;simp only[if_true];have O:=UN hw;have r1:Zn φ M0 N D (look (Zm ops o s.T true)) (look s.H) a w:=by rw[O];exact r
    rw[uX J.1] at g;refine .inl (Go.Abs.Oper.wp_mono2 (Bd (s:=⟨Zm ops o s.T true,s.H⟩) g r1) ?_ ?_)
    ·rintro a' w' ⟨φ',s',W,h3,Y⟩;exact Eb l (k+1) s' φ0 h0 w0 φ' M0 a' w' G (wO J.2) (E.trans Y) h3 W
    ·intro e a' w' p;exact p.trans E
   ·subst hb;simp only[Bool.false_eq_true,if_false];have O:=UN hw;have r1:Zn φ M0 N D (look (Zm ops o s.T false)) (look s.H) a w:=by rw[O];exact r
    refine Eb l (k+1) _ φ0 h0 w0 φ M0 _ w G (wO J.2) ?_ (Zn.put (s:=⟨Zm ops o s.T false,s.H⟩) r1 (Z7 g.1) (by simp[Qe,QM])) g.2;cases o.dst<;>exact E
  ·exact h.elim
theorem IE(h:KX P N ops Q ops.toList [] s)(r:Zn φ M0 N D (look s.T) (look s.H) a w) :
  wpAny P .any ops (Post N D Q φ M0 (look s.H) w) ops.size (Array.replicate ops.size false) a { w with drawn:=w.drawn+1 }:=by
 have hd:Q8 φ (look s.H) w φ (look s.H) { w with drawn:=w.drawn+1 }:=Rn rfl rfl rfl rfl;have r1:Zn φ M0 N D (look s.T) (look s.H) a { w with drawn:=w.drawn+1 }:=r.keep hd (GX rfl) (CV (w:=w) rfl hd r.hp)
 have G:∀(j:Nat),(Array.replicate ops.size false).getD j false=false:=by
  intro j;rcases Nat.lt_or_ge j ops.size with h|h
  ·simp[h]
  ·simp[h]
 have J:∀n,Al (Array.replicate ops.size false) n≤n:=by
  intro n
  induction n with
 |zero=>simp[Al]
 |succ n ih=>simp only[Al];split<;>omega
 rcases IC _ _ _ h with⟨es,s',h1,Z,h3,h4,Y,W⟩|⟨pre,o,es,s',h0,h1,Z,h3,h4,Y,W,h7,h8⟩|⟨pre,o,rest,es,s',h0,h1,Z,h3,h4,ai,aa,Y,W,h8⟩
 ·refine aB (D:=D) (T0:=look s.T) (h0:=look s.H) (φ0:=φ) (w0:=w) (M0:=M0) (N:=N) es (by simpa using h1) (fun i o e ho he=>Z i o e (by simpa using ho) he) (by show KE ops (es.map qE)=true;simpa using h3) ?_ ops.size _ a _ φ zq (J _) (fun j o _ U=>by rw[G] at U;cases U) ?_ ?_
  ·intro φ' a' w' r' O;rw[←h4,←Y] at r';rw[←Y] at O;exact⟨φ',.normal,s',W,r',O,rfl⟩
  ·rw[Xx _ _ _ (fun j _=>G j),Xx _ _ _ (fun j _=>G j)];exact r1
  ·rw[Xx _ _ _ (fun j _=>G j)];exact hd
 ·have ad:ops.size=pre.length+1:=by have:=congrArg List.length h0;simpa using this
  have af:ops[pre.length]?=some o:=by
   have:ops.toList[pre.length]?=some o:=by rw[h0];simp
   simpa using this
  have ac:LF ops pre.length=true:=by
   unfold LF;rw[Xb];intro k hk;simp only[List.mem_range,Bool.or_eq_true,Fh] at hk ⊢;exact .inl zo
  refine zi (D:=D) (T0:=look s.T) (h0:=look s.H) (φ0:=φ) (w0:=w) (M0:=M0) (N:=N) es pre.length zo h1 (fun i o e ho he=>Z i o e (by simpa using ho) he) (by show KE ops (es.map qE)=true;simpa using h3) (by simpa using h4) ac ?_ ops.size _ a _ φ zq (J _) (fun j _=>G j) (fun j o _ U=>by rw[G] at U;cases U) ?_ ?_
  ·intro φ' a' w' r' O;rw[←Y,←W] at r';rw[←W] at O;rw[show ops.size-pre.length=1 from by omega];show wpOps _ _ _ [pre.length+0] _ _;rw[wpOps_cons,Nat.add_zero];unfold wpOp;simp only[af,FC r' h7,if_true];refine .inl (Go.Abs.Oper.wp_mono2 (Bd h8 r') ?_ ?_)
   ·rintro ah w'' ⟨ab,ae,g1,g2,g3⟩;exact⟨ab,.normal,ae,g1,g2,O.trans g3,rfl⟩
   ·intro e ah w'' p;exact p.trans O
  ·rw[Xx _ _ _ (fun j _=>G j),Xx _ _ _ (fun j _=>G j)];exact r1
  ·rw[Xx _ _ _ (fun j _=>G j)];exact hd
 ·have ad:ops.size=pre.length+(rest.length+1):=by have:=congrArg List.length h0;simpa using this
  refine zi (D:=D) (T0:=look s.T) (h0:=look s.H) (φ0:=φ) (w0:=w) (M0:=M0) (N:=N) es pre.length zo h1 (fun i o e ho he=>Z i o e (by simpa using ho) he) (by show KE ops (es.map qE)=true;simpa using h3) (by simpa using h4) (by simpa using ai) ?_ ops.size _ a _ φ zq (J _) (fun j _=>G j) (fun j o _ U=>by rw[G] at U;cases U) ?_ ?_
  ·intro φ' a' w' r' O;rw[←Y,←W] at r';rw[←W] at O
   have:=Eb (o::rest) pre.length s' φ (look s.H) w φ' M0 a' w' (fun j=>by
    have e1:ops[pre.length+j]?=ops.toList[pre.length+j]?:=by simp
    rw[e1,h0,List.getElem?_append_right zo];congr 1;omega) aa O r' h8
   rw[show ops.size-pre.length=(o::rest).length from by simp;omega];exact this
  ·rw[Xx _ _ _ (fun j _=>G j),Xx _ _ _ (fun j _=>G j)];exact r1
  ·rw[Xx _ _ _ (fun j _=>G j)];exact hd
theorem nH(J:P.follows .mixedOrders=true)(G:U5 ops=true)(h:KX P N ops Q ops.toList [] s):Ex P N ro (.region id ops true) s Q :=
 fun _ _ _ _ _ r=>wpIn_region_any J (MC G WT _ _ _ _ (IE h r))
def Jz:Nat→List AV→List (Nat×AV)|_,[]=>[]|k,x::xs=>(k,x)::Jz (k+1) xs
theorem IG:∀(xs:List AV) (k t:Nat) (x:AV),look (Jz k xs) t=some x→k≤t∧xs[t-k]?=some x
|[],k,t,x,h=>by simp[Jz,look] at h
|y::xs,k,t,x,h=>by
  simp only[Jz,look] at h;by_cases e:k=t
  ·subst e;simp at h;subst h;simp
  ·simp only[e,if_false] at h;obtain⟨J,G⟩:=IG xs (k+1) t x h;refine⟨by omega,?_⟩;have:t-k=(t-(k+1))+1:=by omega
   rw[this];simpa using G
def Qb4(P:Program)(T:Nat→Option AV)(h:QN):ResultVar→Option AV
|.tmp t=>T t
|.cell t ty=>match ES P T h ty (.tmp t) with|some u=>some u.1|none=>none
def zk(P:Program)(T:Nat→Option AV)(h:QN):List ResultVar→Option (List AV)
|[]=>some []
|x::xs=>match Qb4 P T h x,zk P T h xs with|some v,some G=>some (v::G)|_,_=>none
def DF(P:Program)(fn:Func)(T:Nat→Option AV)(h:QN):Option AV :=
 match zk P T h fn.results.toList with
|some [x]=>some x
|some xs=>some (.tup xs)
|none=>none
theorem II{x:Value}(h:(Instr.loadAt ty v).run P w=.ok x w'):(do loadVar ty (←asAddr v):Sem Value).run P w=.ok x w':=by
 cases v with
|pointer q =>
  cases q with
 |none=>simp[Instr.loadAt,Instr.sureAddr,stuck] at h
 |some a=>simpa [Instr.loadAt,Instr.sureAddr,asAddr] using h
|_=>simp[Instr.loadAt,Instr.sureAddr,stuck] at h
def dP(tmps:Array Value):ResultVar→Sem Value
|.tmp t=>pure (tmps.getD t undef)
|.cell t ty=>do loadVar ty (←asAddr (tmps.getD t undef))
theorem Qb5(r:Zn φ M0 N D T h a w){x:ResultVar}{v:AV}(G:Qb4 P T h x=some v) :
  ∃y,(dP a.tmps x).run P w=.ok y w∧Qe φ h w (MM φ h M0) v y:=by
 cases x with
|tmp t=>exact⟨_,rfl,(r.tm t v G).2⟩
|cell t ty =>
  simp only[Qb4] at G;split at G
  ·rename_i u hu;simp only[QW] at G;subst G;obtain⟨_,y,O,J⟩:=AU (P:=P) r hu;exact⟨y,II O,J⟩
  ·cases G
theorem IJ{P:Program}{φ:Nat→Nat}{M0:ZK}{N:Nat}{D:DB}{T:Nat→Option AV}{h:QN}{a:Act}{w:World}(r:Zn φ M0 N D T h a w):∀{l:List ResultVar} {J:List AV},zk P T h l=some J →
  ∃ys,(l.mapM (dP a.tmps)).run P w=.ok ys w∧Qi φ h w (MM φ h M0) J ys
|[],J,G=>by simp only[zk,QW] at G;subst G;exact⟨[],by simp,by simp[Qi]⟩
|x::l,J,G=>by
  simp only[zk] at G;split at G
  ·rename_i v W U O;simp only[QW] at G;subst G;obtain⟨y,g1,g2⟩:=Qb5 r U;obtain⟨ys,g3,g4⟩:=IJ r O;exact⟨y::ys,by simp[List.mapM_cons,g1,g3],by simp only[Qi];exact⟨y,ys,rfl,g2,g4⟩⟩
  ·cases G
theorem nI(r:Zn φ M0 N D T h a w){x:AV}(J:DF P fn T h=some x) :
  ∃v,(results fn a.tmps).run P w=.ok v w∧Qe φ h w (MM φ h M0) x v:=by
 have G:∀ys:List Value,(fn.results.toList.mapM (dP a.tmps)).run P w=.ok ys w→(results fn a.tmps).run P w=.ok (if hh:ys.toArray.size=1 then ys.toArray[0] else .tuple ys.toArray) w:=by
  intro ys Z;have e1:fn.results.mapM (dP a.tmps)=Functor.map List.toArray (fn.results.toList.mapM (dP a.tmps)):=Array.mapM_eq_mapM_toList ..
  have e2:results fn a.tmps=(do let U ←fn.results.mapM (dP a.tmps);pure (if hh:U.size=1 then U[0] else .tuple U)):=by
   unfold results;congr 1
  rw[e2];simp only[Sem.run_bind,e1,Sem.run_map,Z,Result.andThen_ok,Sem.run_pure]
 unfold DF at J;split at J
 ·rename_i y Z;simp only[QW] at J;subst J;obtain⟨ys,g1,g2⟩:=IJ r Z;simp only[Qi] at g2;obtain⟨v,U,rfl,O,rfl⟩:=g2;exact⟨v,by rw[G _ g1];simp,O⟩
 ·rename_i xs hne W;simp only[QW] at J;subst J;obtain⟨ys,g1,g2⟩:=IJ r W;have hl:=ZO g2
  have Y:¬ys.toArray.size=1:=by
   intro O;simp only[List.size_toArray] at O;rw[O] at hl
   match xs,hl with
  |[x],_=>exact hne x rfl
  refine⟨.tuple ys.toArray,by rw[G _ g1,dif_neg Y],?_⟩;simp only[Qe];exact⟨ys,rfl,g2⟩
 ·cases J
def Qhq(P:Program)(f:FuncId)(args:List AV)(R:Kw→Prop):Prop:=Y0 P f args Lj fun r h'=>R r∧h'=Lj
def aC(P:Program)(fn:Func)(R:Kw→Prop):AX→St→Prop|.ret,s=>∃x y,DF P fn (look s.T) (look s.H)=some x∧le x y∧Yk y=true∧R (.ret y)|.normal,s=>∃x y,DF P fn (look s.T) (look s.H)=some x∧le x y∧Yk y=true∧R (.ret y)|.panic x,s=>Yk x=true∧R (.panic x)|.exit _,_=>False
theorem dQ(E:Q8 φ Lj w φ' h w'):Q8 φ Lj w φ' Lj w' :=
 ⟨E.os,E.tape,E.output,E.size,E.same,E.cell,fun _ _ _ x=>absurd x WM,(fun _ _ _ _ x=>by cases x),(fun _ _ _ _ _ x=>by cases x),(fun _ _ _ _ _ x=>by cases x),(fun _ _ _ _ x=>by cases x)⟩
structure Gj(ms:List Nat)(w w':World):Prop where
 os:w'.os=w.os
 tape:w'.tape=w.tape
 output:w'.output=w.output
 size:w'.heap.size=w.heap.size
 same:∀k,k∉ms→w'.heap[k]?=w.heap[k]?
 turn:∀k,k∈ms→w'.heap[k]?=some (.deferred none)
def Xz(P:Program)(fn:Func)(tmps:Array Value)(R:Ending→World→Prop):List Deferred→FrameMode→World→Prop|[],u,w=>Leaves P fn tmps R [] u w|d::ds,u,w=>u≠.run ∧ ((∃r w',d.target=.collected r∧(Instr.takeDeferred r).run P w=.ok [] w'∧Xz P fn tmps R ds u w') ∨ (∃fv cap f args,d.target=.fn fv cap∧(invoke d.target d.args).run P w=.ok (.enter f args) w ∧ CallsD P f args u w fun|.returned _,G,w'=>Xz P fn tmps R ds (settle G) w'|.panicked chain,G,w'=>Xz P fn tmps R ds (raised G chain) w'|.outgrown,_,w'=>R .outgrown w'))
theorem LX{tmps:Array Value}{R:Ending→World→Prop}:∀(ds:List Deferred) (u:FrameMode) (w:World) (fr:Frame)
  (cs:List Frame),fr.mode=u→fr.defers=ds→fr.tmps=tmps→P.funcs[fr.fn]?=some fn→fr.kind=.normal→Xz P fn tmps R ds u w →
  ∃e w' J,R e w'∧Comes P (lone fr cs w) (lone J cs w') e∧J.fn=fr.fn∧J.leaving P w' e:=by
 intro ds
 induction ds with
|nil=>exact fun u w fr cs hu hd ht hf hk h=>leaves_steps [] u w fr cs hu hd ht hf hk h
|cons d ds ih =>
  intro u w fr cs hu hd ht hf hk h;obtain⟨aa,h⟩:=h;rcases h with⟨r,w',Z,ab,ac⟩|⟨fv,cap,f,args,Z,ae,hcall⟩
  ·have h1:=step_collected (cs:=cs) (hu▸aa) hd Z ab;obtain⟨e',w'',J,Y,W,O,U⟩:=ih u w' { fr with defers:=[]++ds } cs hu rfl ht hf hk ac;exact⟨e',w'',J,Y,Comes.of_steps (.one h1) W,O,U⟩
  ·have h1:=step_defer (cs:=cs) (hu▸aa) hd Z ae;obtain⟨e,u',w',ah,hR,G,af,ad⟩:=hcall { fr with defers:=ds } cs hu;cases e with
  |outgrown=>exact⟨.outgrown,w',fr,hR,Outgrown.of_steps (.one h1) G,rfl,trivial⟩
  |returned v =>
    have h2:=step_going_returned (c:={ { fr with defers:=ds } with mode:=u' }) (cs:=cs) af ad;obtain⟨e',w'',J,Y,W,O,U⟩:=ih (settle u') w' { { { fr with defers:=ds } with mode:=u' } with mode:=settle u' } cs rfl rfl ht hf hk hR;exact⟨e',w'',J,Y,Comes.of_steps (.head h1 (Steps.trans G (.one h2))) W,O,U⟩
  |panicked chain =>
    have h2:=step_going_panicked (c:={ { fr with defers:=ds } with mode:=u' }) (cs:=cs) ad;obtain⟨e',w'',J,Y,W,O,U⟩:=ih (raised u' chain) w' { { { fr with defers:=ds } with mode:=u' } with mode:=raised u' chain } cs rfl rfl ht hf hk hR;exact⟨e',w'',J,Y,Comes.of_steps (.head h1 (Steps.trans G (.one h2))) W,O,U⟩
def dR(P:Program)(fn:Func)(R:Ending→World→Prop):Exit→Act→World→Prop|.normal,a,w|.ret,a,w=>Xz P fn a.tmps R a.defers .returning w|.panic chain,a,w=>Xz P fn a.tmps R a.defers (.panicking chain) w|.outgrown,_,w=>R .outgrown w|_,_,_=>False
theorem Nz{args:Array Value}{R:Ending→World→Prop}(hf:P.funcs[f]?=some fn)(hb:fn.body=some c)(h:c.wpIn (wd none) 0 P (dR P fn R) { tmps:=args++Array.replicate (fn.ntmps-args.size) undef,defers:=[] } w):Calls P f args w R:=by
 have h:=wpIn_wide.1 h;intro cs
 let b:Frame:={ (default:Frame) with fn:=f,kind:=.normal }
 have W:Frame.enter P f args .normal=b.at { tmps:=args++Array.replicate (fn.ntmps-args.size) undef,defers:=[] } [.code c]:=by
  simp[Frame.enter,Frame.at,hf,hb,b]
 obtain⟨e,a',w',Y,G⟩:=h b [] cs;rw[←W] at G;cases e with
|normal =>
  obtain⟨e',w'',O,hR,hs,U,Z⟩:=LX a'.defers .returning w' { b.at a' [] with mode:=.returning } cs rfl rfl rfl hf rfl Y;exact⟨e',w'',O,hR,Comes.of_steps (Steps.trans G (.one step_end)) hs,U,Z⟩
|ret =>
  obtain⟨todo,J⟩:=G;obtain⟨e',w'',O,hR,hs,U,Z⟩:=LX a'.defers .returning w' { b.at a' todo with mode:=.returning } cs rfl rfl rfl hf rfl Y;exact⟨e',w'',O,hR,Comes.of_steps J hs,U,Z⟩
|panic chain =>
  obtain⟨todo,J⟩:=G;obtain⟨e',w'',O,hR,hs,U,Z⟩:=LX a'.defers (.panicking chain) w' { b.at a' todo with mode:=.panicking chain } cs rfl rfl rfl hf rfl Y;exact⟨e',w'',O,hR,Comes.of_steps J hs,U,Z⟩
|exit id=>exact Y.elim
|goto l=>exact Y.elim
|outgrown=>exact⟨.outgrown,w',b,Y,G.resolve_left (by simp[b]),rfl,trivial⟩
theorem NA{P:Program}{fn:Func}{tmps:Array Value}{R:Ending→World→Prop}{u:FrameMode}(hu:u≠.run)(ds:List Deferred):∀(O:List Nat) (w:World),O.Nodup→(∀r∈O,w.heap[r]?=some (.deferred (some []))) →
  (∀w',Gj O w w'→Xz P fn tmps R ds u w')→Xz P fn tmps R ((O.map fun r=>({ target:=.collected r,args:=#[] }:Deferred))++ds) u w
|[],w,_,_,h=>h w ⟨rfl,rfl,rfl,rfl,fun _ _=>rfl,fun k G=>by cases G⟩
|r::O,w,Y,hb,h=>by
  have h0:=hb r zq;have hlt:r<w.heap.size:=(Ls.1 h0).1
  let W:World:=w.putObj r (.deferred none)
  have J:∀k:Nat,W.heap[k]?=(w.heap.setIfInBounds r (.deferred none))[k]?:=fun k=>rfl
  have U:(Instr.takeDeferred r).run P w=.ok [] W:=run_takeDeferred h0;refine⟨hu,.inl ⟨r,W,rfl,U,NA hu ds O W (List.nodup_cons.1 Y).2 ?_ ?_⟩⟩
  ·intro k G;have:r≠k:=fun e=>(List.nodup_cons.1 Y).1 (e▸G)
   rw[J,Array.getElem?_setIfInBounds_ne this];exact hb k (by simp[G])
  ·intro w' t;refine h w' ⟨t.os,t.tape,t.output,by rw[t.size];simp[W,World.putObj],fun k G=>?_,fun k G=>?_⟩
   ·simp only[List.mem_cons,not_or] at G;rw[t.same k G.2,J,Array.getElem?_setIfInBounds_ne (Ne.symm G.1)]
   ·rcases List.mem_cons.1 G with e|e
    ·subst e;rw[t.same k (List.nodup_cons.1 Y).1,J];simp[hlt]
    ·exact t.turn k e
theorem Qb6{tmps:Array Value}{R:Ending→World→Prop}{u:FrameMode}(hu:u≠.run)(G:List Nat)(w:World)(J:G.Nodup)(hb:∀r∈G,w.heap[r]?=some (.deferred (some [])))(h:∀w',Gj G w w'→Leaves P fn tmps R [] u w'):Xz P fn tmps R (G.map fun r=>({ target:=.collected r,args:=#[] }:Deferred)) u w:=by
 have:=NA (P:=P) (fn:=fn) (tmps:=tmps) (R:=R) hu [] G w J hb h;simpa using this
theorem Zn.turned{Y:List Nat}(r:Zn φ M0 N D T h a w)(t:Gj Y w w')(W:∀r∈Y,w.heap[r]?=some (.deferred (some []))∧∀b,h b≠none→φ b≠r):Zn φ M0 N ⟨[],0⟩ T h { a with defers:=[] } w':=by
 have G:∀b k,h b=some k→w'.heap[φ b]?=w.heap[φ b]?:=fun b k hb=>t.same _ fun J=>(W _ J).2 b (by rw[hb];simp) rfl
 have X:Y4 φ h w φ h w':=⟨fun _ _ _ x=>⟨⟨_,_,x⟩,rfl⟩,fun b ty S n x=>⟨_,x,Kt _,fun _=>Yz (rfl) (by rw[G _ _ x])⟩,
  fun b ty S n x=>⟨_,x,Kt _,fun _=>⟨rfl,fun c hc=>⟨c,by rw[G _ _ x];exact hc,rfl⟩⟩⟩,fun _ _ _ O U=>⟨⟨_,O,U⟩,rfl⟩⟩
 have Z:∀r o v,w.cell? ⟨r,o,none⟩=some v→¬MM φ h M0 r o→w'.cell? ⟨r,o,none⟩=some v∧¬MM φ h M0 r o:=by
  intro x o v O U;refine⟨?_,U⟩
  have:x∉Y:=fun J=>by
   have:=(W x J).1;simp[World.cell?,this] at O
  rw[←O];simp[World.cell?,t.same x this]
 refine⟨⟨Nat.zero_le _,[],rfl,List.nodup_nil,fun r hr=>by cases hr⟩,r.siz,⟨r.hp.inj,fun b k hb=>Z5 Z X (G b k hb) (r.hp.blk b k hb),r.hp.fr,fun x o J=>by rw[t.size];exact r.hp.lt x o J,vS (fun g hg=>t.same g fun J=>Qfe r.hp.gm.w g hg _ (W g J).1) r.hp.gm.w,r.hp.gm.m⟩,
  fun x y J=>⟨(r.tm x y J).1,(QH Z X).1 _ _ (r.tm x y J).2⟩⟩
theorem DI{U:List Nat}(t:Gj U w w')(Y:∀r∈U,w.heap[r]?=some (.deferred (some []))∧∀b,h b≠none→φ b≠r)(x:AV)(v:Value)(Z:Qe φ h w (MM φ h M0) x v):Qe φ h w' (MM φ h M0) x v:=by
 have G:∀b k,h b=some k→w'.heap[φ b]?=w.heap[φ b]?:=fun b k hb=>t.same _ fun W=>(Y _ W).2 b (by rw[hb];simp) rfl
 have X:Y4 φ h w φ h w':=⟨fun _ _ _ x=>⟨⟨_,_,x⟩,rfl⟩,fun b ty S n x=>⟨_,x,Kt _,fun _=>Yz (rfl) (by rw[G _ _ x])⟩,
  fun b ty S n x=>⟨_,x,Kt _,fun _=>⟨rfl,fun c hc=>⟨c,by rw[G _ _ x];exact hc,rfl⟩⟩⟩,fun _ _ _ J O=>⟨⟨_,J,O⟩,rfl⟩⟩
 refine(QH (fun r o v J O=>⟨?_,O⟩) X).1 _ _ Z
 have:r∉U:=fun W=>by
  have:=(Y r W).1;simp[World.cell?,this] at J
 rw[←J];simp[World.cell?,t.same r this]
theorem Q8.turned{ms:List Nat}(E:Q8 φ h w φ' h' w')(t:Gj ms w' w'')(Z:∀r∈ms,w.heap.size≤r)(hm:∀r∈ms,w'.heap[r]?=some (.deferred (some []))∧∀b,h' b≠none→φ' b≠r):Q8 φ h w φ' h' w'':=by
 have O:∀r,r<w.heap.size→w''.heap[r]?=w'.heap[r]?:=fun r Y=>t.same r fun U=>by have:=Z r U;omega
 have G:∀b k,h' b=some k→w''.heap[φ' b]?=w'.heap[φ' b]?:=fun b k hb=>t.same _ fun U=>(hm _ U).2 b (by rw[hb];simp) rfl
 refine⟨t.os.trans E.os,t.tape.trans E.tape,t.output.trans E.output,by rw[t.size];exact E.size,fun r Y aa=>(O r Y).trans (E.same r Y aa),fun r o Y hm=>?_,E.mu,E.kb,?_,?_,E.ko⟩
 ·rw[←E.cell r o Y hm];simp[World.cell?,O r Y]
 ·intro b ty S n hb U;obtain⟨n',W,h2,J⟩:=E.kt b ty S n hb U;refine⟨n',W,h2,fun e=>⟨fun h=>by rw[G b _ W];exact(J e).1 h,(J e).2.imp (fun h=>h) fun J=>⟨J.1,fun c hc=>?_⟩⟩⟩;obtain⟨c',h4,h5⟩:=J.2 c hc;exact⟨c',by rw[←J.1,G b _ W,J.1];exact h4,h5⟩
 ·intro b ty S n hb U;obtain⟨n',W,h2,J⟩:=E.kv b ty S n hb U;refine⟨n',W,h2,fun e=>⟨(J e).1,fun c hc=>?_⟩⟩;obtain⟨c',h4,h5⟩:=(J e).2 c hc;exact⟨c',by rw[←(J e).1,G b _ W,(J e).1];exact h4,h5⟩
def Out(R:Kw→QN→Prop)(φ:Nat→Nat)(h:QN)(w:World)(M0:ZK)(e:Ending)(w':World):Prop :=∃φ' r h',R r h'∧ZN φ' h' w' M0∧Q8 φ h w φ' h' w'∧eT φ' h' w' (MM φ' h' M0) r e
theorem Ec{G:List Value}(hH:ZN φ h w M0)(O:Qi φ h w (MM φ h M0) args G)(hl:args.length≤n) :
  Zn φ M0 n ⟨[],w.heap.size⟩ (look (Jz 0 args)) h { tmps:=G.toArray++Array.replicate (n-G.toArray.size) undef,defers:=[] } w:=by
 have U:=ZO O;refine⟨⟨Kt _,[],rfl,List.nodup_nil,fun r hr=>by cases hr⟩,by simp;omega,hH,fun t x W=>?_⟩;obtain⟨_,J⟩:=IG args 0 t x W;simp only[Nat.sub_zero] at J;have hlt:t<args.length:=(CS.1 J).1;obtain⟨v,Z,Y⟩:=UE O J;refine⟨by omega,?_⟩
 have:(G.toArray++Array.replicate (n-G.toArray.size) undef).getD t undef=v:=by
  rw[Array.getD_eq_getD_getElem?,Array.getElem?_append_left (by simp;omega)];simp[Z]
 rw[this];exact Y
theorem Sn{vs:List Value}{h:List (Nat×Blk)}(hf:P.funcs[f]?=some fn)(hb:fn.body=some c)(hl:args.length≤fn.ntmps)(hH:ZN φ (look h) w M0)(ha:Qi φ (look h) w (MM φ (look h) M0) args vs)(hx:Ex P fn.ntmps none c ⟨Jz 0 args,h⟩ Q)(O:∀x s φ' a w',Q x s→x=.normal∨x=.ret→Zn φ' M0 fn.ntmps ⟨[],0⟩ (look s.T) (look s.H) a w'→Q8 φ (look h) w φ' (look s.H) w'→∃v,(results fn a.tmps).run P w'=.ok v w'∧Out R φ (look h) w M0 (.returned v) w')(aa:∀x s φ' a w' v,Q (.panic x) s→Zn φ' M0 fn.ntmps ⟨[],0⟩ (look s.T) (look s.H) a w'→Q8 φ (look h) w φ' (look s.H) w'→Qe φ' (look s.H) w' (MM φ' (look s.H) M0) x v→Out R φ (look h) w M0 (.panicked [{ v:=v,recovered:=false }]) w')(Y:∀i s,¬Q (.exit i) s):Calls P f vs.toArray w (Out R φ (look h) w M0):=by
 refine Nz hf hb (wpIn_mono (hx φ M0 _ _ w (Ec hH ha hl)) ?_);rintro e a' w' ⟨φ',k,s',h1,h2,h3,Z⟩;obtain⟨ab,ms,hd,ad,U⟩:=h2.dfs;have ac:a'.defers=ms.map fun r=>({ target:=.collected r,args:=#[] }:Deferred):=by rw[hd];simp
 have W:∀r∈ms,w'.heap[r]?=some (.deferred (some []))∧∀b,look s'.H b≠none→φ' b≠r:=fun r hr=>(U r hr).2
 have go:∀(u:FrameMode),u≠.run→(∀w'',Gj ms w' w''→Zn φ' M0 fn.ntmps ⟨[],0⟩ (look s'.T) (look s'.H) { a' with defers:=[] } w''→Q8 φ (look h) w φ' (look s'.H) w''→Leaves P fn a'.tmps (Out R φ (look h) w M0) [] u w'') →
   Xz P fn a'.tmps (Out R φ (look h) w M0) a'.defers u w':=by
  intro u hu g;rw[ac];exact Qb6 hu ms w' ad (fun r hr=>(U r hr).2.1) (fun w'' t=>g w'' t (h2.turned t W) (h3.turned t (fun r hr=>(U r hr).1) W))
 cases k with
|normal =>
  simp only[X9] at Z;subst Z;exact go .returning zq fun w'' t J G=>O _ _ _ { a' with defers:=[] } _ h1 (.inl rfl) J G
|ret =>
  simp only[X9] at Z;subst Z;exact go .returning zq fun w'' t J G=>O _ _ _ { a' with defers:=[] } _ h1 (.inr rfl) J G
|exit i=>exact absurd h1 (Y i s')
|panic x =>
  obtain⟨v,rfl,h5⟩:=Z;refine go (.panicking [{ v:=v,recovered:=false }]) zq fun w'' t J G=>aa _ _ _ _ _ _ h1 J G ?_
  exact DI t W _ _ h5
theorem wQ{R:Kw→Prop}(hf:P.funcs[f]?=some fn)(hb:fn.body=some c)(hl:args.length≤fn.ntmps)(h:Ex P fn.ntmps none c ⟨Jz 0 args,[]⟩ (aC P fn R)):Qhq P f args R:=by
 intro φ M0 w vs Z ha;have Y:∀{φ':Nat→Nat} {s:St} {w':World},Q8 φ Lj w φ' (look s.H) w'→Q8 φ Lj w φ' Lj w':=fun E=>dQ E
 have W:∀{φ':Nat→Nat} {s:St} {w':World},∀r o v,w'.cell? ⟨r,o,none⟩=some v→¬MM φ' (look s.H) M0 r o→w'.cell? ⟨r,o,none⟩=some v∧¬MM φ' Lj M0 r o:=fun r o v g1 g2=>⟨g1,fun g3=>g3.elim WM (fun g4=>g2 (.inr g4))⟩
 refine Sn (h:=[]) hf hb hl Z ha h ?_ ?_ ?_
 ·intro x s φ' a w' G hx r E;have U:∃x y,DF P fn (look s.T) (look s.H)=some x∧le x y∧Yk y=true∧R (.ret y):=by rcases hx with rfl|rfl<;>exact G
  obtain⟨x,y,g1,g2,g3,g4⟩:=U;obtain⟨v,g5,g6⟩:=nI r g1;exact⟨v,g5,φ',.ret y,Lj,⟨g4,rfl⟩,Hr (fun x o O=>r.hp.lt x o O) r.hp.gm.w (fun g J o h=>r.hp.gm.m g J o (.inr h)),Y E,v,rfl,(Ji W).1 _ _ g3 (Xc.1 _ _ _ g2 g6)⟩
 ·intro x s φ' a w' v G r E hv;exact⟨φ',.panic x,Lj,⟨G.2,rfl⟩,Hr (fun x o O=>r.hp.lt x o O) r.hp.gm.w (fun g J o h=>r.hp.gm.m g J o (.inr h)),Y E,v,rfl,(Ji W).1 _ _ G.1 hv⟩
 ·intro i s G;exact G
theorem wR{X:Kw}(hf:P.funcs[f]?=some fn)(hb:fn.body=some c)(G:args.length≤fn.ntmps)(h:Ex P fn.ntmps none c ⟨Jz 0 args,[]⟩ (aC P fn (·=X))):Za P f args X:=wQ hf hb G h
theorem wS:(∀x:AV,le x x)∧(∀xs:List AV,Nu xs xs):=by
 have key:∀n:Nat,(∀(x:AV),SizeOf.sizeOf x≤n→le x x)∧(∀(xs:List AV),SizeOf.sizeOf xs≤n→Nu xs xs):=by
  intro n
  induction n with
 |zero =>
   refine⟨fun x G=>?_,fun es G=>?_⟩
   ·cases x<;>simp at G
   ·cases es<;>simp at G
 |succ n J =>
   obtain⟨O,i2⟩:=J;refine⟨fun x G=>?_,fun xs G=>?_⟩
   ·cases x with
   |p x=>cases x<;>simp[le]
   |agg cs=>simp only[le];exact⟨cs,rfl,i2 cs (by simp at G;omega)⟩
   |tup cs=>simp only[le];exact⟨cs,rfl,i2 cs (by simp at G;omega)⟩
   |_=>simp[le]
   ·cases xs with
   |nil=>simp[Nu]
   |cons x xs=>simp only[Nu];simp at G;exact⟨x,xs,rfl,O x zo,i2 xs zo⟩
 exact⟨fun x=>(key (SizeOf.sizeOf x)).1 x (Kt _),fun xs=>(key (SizeOf.sizeOf xs)).2 xs (Kt _)⟩
theorem le_refl(x:AV):le x x:=wS.1 x
theorem wU(xs:List AV):Nu xs xs:=wS.2 xs
mutual
def Kv(h:QN):AV→Bool|.p _=>true|.eptr _=>true|.tsl _ _ t=>(h t).isSome|.ptr b _=>(h b).isSome|.vnil=>true|.vsl _ t _=>(h t).isSome|.vptr t _ _ _=>(h t).isSome|.yv b=>(h b).isSome|.mv b=>(h b).isSome|.bsl b _=>(h b).isSome|.sfp b=>(h b).isSome|.iv b=>(h b).isSome|.agg cs=>KG h cs|.tup cs=>KG h cs|.fn _ a b=>KG h a&&KG h b|.ifc _ x=>Kv h x
def KG(h:QN):List AV→Bool|[]=>true|x::xs=>Kv h x&&KG h xs
end
theorem NB(h:QN):∀l:List PV,KG h (l.map .p)=true
|[]=>by simp[KG]
|x::l=>by simp[KG,Kv,NB h l]
def leB:Blk→Blk→Prop|.box ty cs,k=>∃cs',k=.box ty cs'∧Nu cs cs'|.arr ty S n,k=>k=.arr ty S n|.vec ty S es,k=>k=.vec ty S es|.lp T nf st pd,k=>k=.lp T nf st pd|.mp es,k=>k=.mp es|.mf es,k=>k=.mf es|.mg en G es,k=>k=.mg en G es|.it m G sn,k=>k=.it m G sn
theorem Ud{k k':Blk}{x:OB}(h:leB k k')(G:k.ob=some x):k'.ob=some x:=by
 cases k with
|box ty cs=>cases G
|arr ty S n=>cases G
|vec ty S es=>cases G
|lp T nf st pd=>simp only[leB] at h;subst h;exact G
|mp es=>simp only[leB] at h;subst h;exact G
|mf es=>simp only[leB] at h;subst h;exact G
|mg en J es=>simp only[leB] at h;subst h;exact G
|it m J sn=>simp only[leB] at h;subst h;exact G
theorem NC(hM:∀r o,M' r o→M r o)(hh:∀b k',h' b=some k'→∃k,h b=some k∧leB k k') :
  (∀(x:AV) (v:Value),Kv h' x=true→Qe φ h w M x v→Qe φ h' w M' x v)∧(∀(xs:List AV) (l:List Value),KG h' xs=true→Qi φ h w M xs l→Qi φ h' w M' xs l):=by
 obtain⟨kp,ke,kc⟩:=Z4 (w:=w) (w':=w) (M:=M) (M':=M') (fun r o v U O=>⟨U,fun h3=>O (hM r o h3)⟩)
 have key:∀n:Nat,(∀(x:AV),SizeOf.sizeOf x≤n→∀v,Kv h' x=true→Qe φ h w M x v→Qe φ h' w M' x v)∧(∀(xs:List AV),SizeOf.sizeOf xs≤n→∀l,KG h' xs=true→Qi φ h w M xs l→Qi φ h' w M' xs l):=by
  intro n
  induction n with
 |zero =>
   refine⟨fun x hx=>?_,fun es hx=>?_⟩
   ·cases x<;>simp at hx
   ·cases es<;>simp at hx
 |succ n ih =>
   obtain⟨i1,i2⟩:=ih;refine⟨fun x hx v W J=>?_,fun xs hx l W J=>?_⟩
   ·cases x with
   |p x=>simp only[Qe] at J ⊢;exact kp x v J
   |tsl S es t =>
     simp only[Kv] at W;obtain⟨k',G⟩:=RY.1 W;simp only[Qe] at J ⊢;obtain⟨U,ty,m,O,h3⟩:=J;obtain⟨k,Y,Z⟩:=hh t k' G;rw[O] at Y;cases Y;simp only[leB] at Z;exact⟨kp _ _ U,ty,m,by rw[G,Z],h3⟩
   |ptr b off =>
     simp only[Kv] at W;obtain⟨k',G⟩:=RY.1 W;simp only[Qe] at J ⊢;obtain⟨U,ty,cs,O⟩:=J;obtain⟨k,Y,Z⟩:=hh b k' G;rw[O] at Y;cases Y;simp only[leB] at Z;obtain⟨cs',e3,_⟩:=Z;exact⟨U,ty,cs',by rw[G,e3]⟩
   |bsl b n =>
     simp only[Kv] at W;obtain⟨k',G⟩:=RY.1 W;simp only[Qe] at J ⊢;obtain⟨U,ty,cs,O⟩:=J;obtain⟨k,Y,Z⟩:=hh b k' G;rw[O] at Y;cases Y;simp only[leB] at Z;obtain⟨cs',e3,_⟩:=Z;exact⟨U,ty,cs',by rw[G,e3]⟩
   |sfp b =>
     simp only[Kv] at W;obtain⟨k',G⟩:=RY.1 W;simp only[Qe] at J ⊢;obtain⟨U,ty,cs,O⟩:=J;obtain⟨k,Y,Z⟩:=hh b k' G;rw[O] at Y;cases Y;simp only[leB] at Z;obtain⟨cs',e3,_⟩:=Z;exact⟨U,ty,cs',by rw[G,e3]⟩
   |vnil=>simp only[Qe] at J ⊢;exact J
   |vsl S t n =>
     simp only[Kv] at W;obtain⟨k',G⟩:=RY.1 W;simp only[Qe] at J ⊢;obtain⟨U,ty,m,O,h3⟩:=J;obtain⟨k,Y,Z⟩:=hh t k' G;rw[O] at Y;cases Y;simp only[leB] at Z;exact⟨U,ty,m,by rw[G,Z],h3⟩
   |vptr t n k f =>
     simp only[Kv] at W;obtain⟨k',G⟩:=RY.1 W;simp only[Qe] at J ⊢;obtain⟨U,ty,S,m,O,h3⟩:=J;obtain⟨k,Y,Z⟩:=hh t k' G;rw[O] at Y;cases Y;simp only[leB] at Z;exact⟨U,ty,S,m,by rw[G,Z],h3⟩
   |yv b =>
     simp only[Kv] at W;obtain⟨k',G⟩:=RY.1 W;simp only[Qe] at J ⊢;obtain⟨U,k,T,nf,O,h3⟩:=J;obtain⟨k2,Y,Z⟩:=hh b k' G;rw[O] at Y;cases Y;exact⟨U,k',T,nf,G,Ud Z h3⟩
   |mv b =>
     simp only[Kv] at W;obtain⟨k',G⟩:=RY.1 W;simp only[Qe] at J ⊢;obtain⟨U,k,O,h3⟩:=J;obtain⟨k2,Y,Z⟩:=hh b k' G;rw[O] at Y;cases Y;exact⟨U,k',G,Ud Z h3⟩
   |iv b =>
     simp only[Kv] at W;obtain⟨k',G⟩:=RY.1 W;simp only[Qe] at J ⊢;obtain⟨U,k,O,h3⟩:=J;obtain⟨k2,Y,Z⟩:=hh b k' G;rw[O] at Y;cases Y;exact⟨U,k',G,Ud Z h3⟩
   |eptr cs =>
     simp only[Qe] at J ⊢;obtain⟨r,o,U,O⟩:=J;exact⟨r,o,U,kc cs r o O⟩
   |agg cs =>
     simp only[Qe,Kv] at J W ⊢;obtain⟨l,U,O⟩:=J;exact⟨l,U,i2 cs (by simp at hx;omega) l W O⟩
   |tup cs =>
     simp only[Qe,Kv] at J W ⊢;obtain⟨l,U,O⟩:=J;exact⟨l,U,i2 cs (by simp at hx;omega) l W O⟩
   |fn f a b =>
     simp only[Qe,Kv,ZG] at J W ⊢;obtain⟨l,m,U,O,h3⟩:=J;simp at hx;exact⟨l,m,U,i2 a zo l W.1 O,i2 b zo m W.2 h3⟩
   |ifc t x =>
     simp only[Qe,Kv] at J W ⊢;obtain⟨y,U,O⟩:=J;exact⟨y,U,i1 x (by simp at hx;omega) y W O⟩
   ·cases xs with
   |nil=>simpa [Qi] using J
   |cons x xs =>
     simp only[Qi,KG,ZG] at J W ⊢;simp at hx;obtain⟨y,ys,U,O,h3⟩:=J;exact⟨y,ys,U,i1 x zo y W.1 O,i2 xs zo ys W.2 h3⟩
 exact⟨fun x v=>(key (SizeOf.sizeOf x)).1 x (Kt _) v,fun xs l=>(key (SizeOf.sizeOf xs)).2 xs (Kt _) l⟩
def leO:Option AV→AV→Prop|some y,x=>le y x|none,_=>False
def Qfm:Option Blk→Blk→Prop|some k,k'=>leB k k'|none,_=>False
def IK(T:Nat→Option AV)(h':QN):List (Nat×AV)→Prop|[]=>True|(t,x)::l=>leO (T t) x∧Kv h' x=true∧IK T h' l
def okRefB(h:QN):Blk→Bool|.box _ cs=>KG h cs|.arr _ _ _=>true|.vec _ _ _=>true|.lp T _ _ _=>KG h (T.map (·.2))|.mp es=>true|.mf es=>KG h (es.map (·.2.2))|.mg _ _ es=>KG h (es.map (·.2.2))|.it m _ _=>(h m).isSome
def Bz(h h':QN):List (Nat×Blk)→Prop|[]=>True|(b,k)::l=>Qfm (h b) k∧okRefB h' k=true∧Bz h h' l
def Ym(h':QN):List (Nat×Blk)→Bool|[]=>true|(b,_)::l=>(decide (b<1000)||(h' b).isSome)&&Ym h' l
theorem Bf{T:Nat→Option AV}{h':QN}:∀{l:List (Nat×AV)},IK T h' l→∀t x,look l t=some x→∃y,T t=some y∧le y x∧Kv h' x=true
|[],_,t,x,G=>by simp[look] at G
|(t0,J)::l,hs,t,x,G=>by
  simp only[IK] at hs;simp only[look] at G;by_cases e:t0=t
  ·simp only[e,if_true,QW] at G;subst G e;cases hq:T t0 with
  |none=>rw[hq] at hs;exact hs.1.elim
  |some y=>rw[hq] at hs;exact⟨y,rfl,hs.1,hs.2.1⟩
  ·simp only[e,if_false] at G;exact Bf hs.2.2 t x G
theorem JX{h h':QN}:∀{l:List (Nat×Blk)},Bz h h' l→∀b k',look l b=some k'→(∃k,h b=some k∧leB k k')∧okRefB h' k'=true
|[],_,t,x,G=>by simp[look] at G
|(t0,J)::l,hs,t,x,G=>by
  simp only[Bz] at hs;simp only[look] at G;by_cases e:t0=t
  ·simp only[e,if_true,QW] at G;subst G e;cases hq:h t0 with
  |none=>rw[hq] at hs;exact hs.1.elim
  |some y=>rw[hq] at hs;exact⟨⟨y,rfl,hs.1⟩,hs.2.1⟩
  ·simp only[e,if_false] at G;exact JX hs.2.2 t x G
theorem K7{h':QN}:∀{l:List (Nat×Blk)},Ym h' l=true→∀b k,1000≤b→look l b=some k→∃k',h' b=some k'
|[],_,b,k,_,G=>by simp[look] at G
|(O,k0)::l,hs,b,k,hb,G=>by
  simp only[Ym,ZG,Bool.or_eq_true,Fh] at hs;simp only[look] at G;by_cases e:O=b
  ·subst e;rcases hs.1 with J|J
   ·omega
   ·exact RY.1 J
  ·simp only[e,if_false] at G;exact K7 hs.2 b k hb G
theorem Rw(h:QN):∀(es:List (Value×PV)),KG h (es.map fun p=>.p p.2)=true
|[]=>rfl
|x::es=>by simp only[Yy,KG,Kv,Bool.true_and];exact Rw h es
theorem Jj{h:QN}:∀{es:List (Bool×List UInt8×AV)},KG h (es.map (·.2.2))=true→KG h ((Rm es).map (·.2.2))=true
|[],_=>rfl
|(f,k,x)::es,G=>by
  simp only[Yy,KG,ZG] at G;cases f with
 |false=>exact Jj (es:=es) G.2
 |true=>simp only[Rm,List.filter_cons_of_pos,Yy,KG,ZG];exact⟨G.1,Jj (es:=es) G.2⟩
theorem Hu{h:QN}:∀{T:List (Nat×AV)} {t:Nat} {x:AV},KG h (T.map (·.2))=true→look T t=some x→Kv h x=true
|[],t,x,_,G=>by simp[look] at G
|(k,y)::T,t,x,J,G=>by
  simp only[Yy,KG,ZG] at J;simp only[look] at G;by_cases e:k=t
  ·simp only[e,if_true,QW] at G;subst G;exact J.1
  ·simp only[e,if_false] at G;exact Hu J.2 G
theorem wV(hT:IK (look s.T) (look s'.H) s'.T)(hH:Bz (look s.H) (look s'.H) s'.H)(hK:Ym (look s'.H) s.H=true)(r:Zn φ M0 N D (look s.T) (look s.H) a w):Zn φ M0 N D (look s'.T) (look s'.H) a w∧Q8 φ (look s.H) w φ (look s'.H) w:=by
 have hh:∀b k',look s'.H b=some k'→∃k,look s.H b=some k∧leB k k':=fun b k' hb=>(JX hH b k' hb).1
 have aa:∀r o,TK φ (look s'.H) r o→TK φ (look s.H) r o:=by
  rintro x o ⟨b,k',O,G,J⟩;obtain⟨k,W,h5⟩:=hh b k' O;refine⟨b,k,W,G,?_⟩;cases k with
 |box ty cs=>trivial
 |arr ty S n=>simp only[leB] at h5;subst h5;exact J
 |vec ty S es=>trivial
 |lp T nf st pd=>trivial
 |mp es=>trivial
 |mf es=>trivial
 |mg en cl es=>trivial
 |it m cl sn=>trivial
 have hM:∀r o,MM φ (look s'.H) M0 r o→MM φ (look s.H) M0 r o:=fun x o hx=>hx.elim (fun h=>.inl (aa x o h)) .inr
 have U:∀b,look s'.H b≠none→look s.H b≠none:=fun b hb=>by
  cases hq:look s'.H b with
 |none=>exact absurd hq hb
 |some k'=>obtain⟨k,O,_⟩:=hh b k' hq;rw[O];simp
 obtain⟨c1,c2⟩:=NC (φ:=φ) (w:=w) hM hh
 have ad:ZN φ (look s'.H) w M0:=by
  refine⟨fun b c hb hc=>r.hp.inj b c (U b hb) (U c hc),fun b k' hb=>?_,fun b hb=>r.hp.fr b (U b hb),r.hp.lt,r.hp.gm.sub hM⟩;obtain⟨⟨k,O,G⟩,J⟩:=JX hH b k' hb;have W:=r.hp.blk b k O;cases k with
 |box ty cs =>
   simp only[leB] at G;obtain⟨cs',rfl,h5⟩:=G;obtain⟨c,h6,h7⟩:=W;exact⟨c,h6,c2 _ _ J (Xc.2 _ _ _ h5 h7)⟩
 |arr ty S n=>simp only[leB] at G;subst G;exact W
 |vec ty S es =>
   simp only[leB] at G;subst G;obtain⟨c,cap,g1,g2,g3,g4,g5,g6,g7⟩:=W;exact⟨c,cap,g1,g2,g3,g4,g5,g6,c2 _ _ (NB _ _) g7⟩
 |lp T nf st pd =>
   simp only[leB] at G;subst G;obtain⟨tmps,d,g1,g2,g3⟩:=W;exact⟨tmps,d,g1,g2,fun t x ht=>⟨(g3 t x ht).1,c1 _ _ (Hu J ht) (g3 t x ht).2⟩⟩
 |mp es =>
   simp only[leB] at G;subst G;obtain⟨en,cl,g1,g2,g3⟩:=W;exact⟨en,cl,g1,g2,c2 _ _ (Rw _ _) g3⟩
 |mf es =>
   simp only[leB] at G;subst G;obtain⟨en,cl,g1,g2,g3,g5⟩:=W;exact⟨en,cl,g1,g2,c2 _ _ (Jj J) g3,g5⟩
 |mg en cl es =>
   simp only[leB] at G;subst G;obtain⟨g1,g2,g3,g5⟩:=W;exact⟨g1,g2,c2 _ _ (Jj J) g3,g5⟩
 |it m cl sn =>
   simp only[leB] at G;subst G;obtain⟨g1,k0,g2,g3⟩:=W;obtain⟨km,ab⟩:=RY.1 J;obtain⟨k1,g5,g6⟩:=hh m km ab;rw[g2] at g5;cases g5;exact⟨g1,km,ab,Ud g6 g3⟩
 have ac:Marks φ D (look s'.H) a w:=by
  obtain⟨h0,ms,O,G,J⟩:=r.dfs;exact⟨h0,ms,O,G,fun x hx=>⟨(J x hx).1,(J x hx).2.1,fun b hb=>(J x hx).2.2 b (U b hb)⟩⟩
 refine⟨⟨ac,r.siz,ad,fun t x ht=>?_⟩,⟨rfl,rfl,rfl,Kt _,fun _ _ _=>rfl,fun _ _ _ _=>rfl,fun x o _ hx=>aa x o hx,?_,?_,?_,?_⟩⟩
 ·obtain⟨y,O,G,J⟩:=Bf hT t x ht;exact⟨(r.tm t y O).1,c1 _ _ J (Xc.1 _ _ _ G (r.tm t y O).2)⟩
 ·intro b ty cs hb Z;obtain⟨k',O⟩:=K7 hK b _ hb Z;obtain⟨k,G,J⟩:=hh b k' O;rw[Z] at G;cases G;simp only[leB] at J;obtain⟨cs',W,_⟩:=J;exact⟨⟨cs',by rw[O,W]⟩,rfl⟩
 ·intro t ty S n ht Y;obtain⟨k',O⟩:=K7 hK t _ ht Y;obtain⟨k,G,J⟩:=hh t k' O;rw[Y] at G;cases G;simp only[leB] at J;exact⟨n,by rw[O,J],Kt _,fun _=>Yz (rfl) rfl⟩
 ·intro t ty S n ht Y;obtain⟨k',O⟩:=K7 hK t _ ht Y;obtain⟨k,G,J⟩:=hh t k' O;rw[Y] at G;cases G;simp only[leB] at J;exact⟨n,by rw[O,J],Kt _,fun _=>⟨rfl,fun c hc=>⟨c,hc,rfl⟩⟩⟩
 ·intro b k x hb Z ho;obtain⟨k',O⟩:=K7 hK b _ hb Z;obtain⟨k2,G,J⟩:=hh b k' O;rw[Z] at G;cases G;exact⟨⟨k',O,Ud J ho⟩,rfl⟩
theorem aD(G:IK (look s.T) (look s'.H) s'.T)(O:Bz (look s.H) (look s'.H) s'.H)(J:Ym (look s'.H) s.H=true):Weak N s s' :=
 fun φ _ _ _ _ r=>⟨φ,wV G O J r⟩
attribute [go_sem] R6 A9 ET qZ
attribute [go_sem ↓] Yl Ua KX ZY Gy
attribute [go_sem] yieldOf ZB Zm Jy Wt Zo PY A7 look Jz Xd St.put AP KD TL Ib aUn ww Ia R7 Nj kJ ES AY qp cellsOf UH AV.one Fq XE UJ FB eP Hq isB elems vY AZ PX Fu Ro Ju Hm UK lZ wC C8 aEq uS eqV eqV.eqFs Dr isConst PW Mh A8 Na kF Ho Fx XU LA Mo isNil Ki nk Ii Dp XG Jv uM Td EY uO R9 Value.oneCell' DF zk Qb4 ZY Gy dA LB Dm eu BM
mutual
def Jr(ρ:Nat→Nat):AV→AV|.p x=>.p x|.eptr cs=>.eptr cs|.tsl S es t=>.tsl S es (ρ t)|.ptr b off=>.ptr (ρ b) off|.vnil=>.vnil|.vsl S t n=>.vsl S (ρ t) n|.vptr t n k f=>.vptr (ρ t) n k f|.yv b=>.yv (ρ b)|.mv b=>.mv (ρ b)|.bsl b n=>.bsl (ρ b) n|.sfp b=>.sfp (ρ b)|.iv b=>.iv (ρ b)|.agg cs=>.agg (Wn ρ cs)|.tup cs=>.tup (Wn ρ cs)|.fn f a b=>.fn f (Wn ρ a) (Wn ρ b)|.ifc t x=>.ifc t (Jr ρ x)
def Wn(ρ:Nat→Nat):List AV→List AV|[]=>[]|x::xs=>Jr ρ x::Wn ρ xs
end
def Ku(ρ:Nat→Nat):Blk→Blk|.box ty cs=>.box ty (Wn ρ cs)|.arr ty S n=>.arr ty S n|.vec ty S es=>.vec ty S es|.lp T nf st pd=>.lp (T.map fun p=>(p.1,Jr ρ p.2)) nf st pd|.mp es=>.mp es|.mf es=>.mf (es.map fun e=>(e.1,e.2.1,Jr ρ e.2.2))|.mg en G es=>.mg en G (es.map fun e=>(e.1,e.2.1,Jr ρ e.2.2))|.it m G sn=>.it (ρ m) G sn
def uY(ρ:Nat→Nat):OB→OB|.lp T nf=>.lp (T.map fun p=>(p.1,Jr ρ p.2)) nf|.mp=>.mp
theorem XA(ρ:Nat→Nat)(k:Blk):(Ku ρ k).ob=k.ob.map (uY ρ):=by cases k<;>rfl
theorem Qfn{k:Blk}(h:(Ku ρ k).ob=some .mp):k.ob=some .mp:=by
 rw[XA] at h;cases hk:k.ob with
|none=>rw[hk] at h;cases h
|some x =>
  rw[hk] at h;cases x with
 |mp=>rfl
 |lp T nf=>simp[uY] at h
theorem Bg(ρ:Nat→Nat):∀(T:List (Nat×AV)) (t:Nat),look (T.map fun p=>(p.1,Jr ρ p.2)) t=(look T t).map (Jr ρ)
|[],t=>rfl
|(k,v)::T,t=>by
  simp only[Yy,look];by_cases e:k=t
  ·simp[e]
  ·simp only[e,if_false];exact Bg ρ T t
theorem kW(ρ:Nat→Nat):∀(es:List (Value×PV)),Wn ρ (es.map fun p=>.p p.2)=es.map fun p=>.p p.2
|[]=>rfl
|x::es=>by simp only[Yy,Wn,Jr];rw[kW ρ es]
theorem LG(ρ:Nat→Nat):∀(es:List (Bool×List UInt8×AV)),(Rm (es.map fun e=>(e.1,e.2.1,Jr ρ e.2.2))).map (·.2.2)=Wn ρ ((Rm es).map (·.2.2))
|[]=>rfl
|(f,k,x)::es=>by
  cases f with
 |false=>exact LG ρ es
 |true =>
   have:=LG ρ es;simp only[Rm] at this ⊢;simp only[Yy,List.filter_cons_of_pos,Wn,this]
theorem LH(ρ:Nat→Nat):∀(es:List (Bool×List UInt8×AV)),(Rm (es.map fun e=>(e.1,e.2.1,Jr ρ e.2.2))).map (fun e=>TU e.2.1)=(Rm es).map (fun e=>TU e.2.1)
|[]=>rfl
|(f,k,x)::es=>by
  cases f with
 |false=>exact LH ρ es
 |true =>
   have:=LH ρ es;simp only[Rm] at this ⊢;simp only[Yy,List.filter_cons_of_pos,this]
section
variable {ρ φ φc:Nat→Nat}{h hc:QN}{w:World}{M Mc:ZK}
theorem Qfo(aa:∀c,hc c≠none→φc c=φ (ρ c))(hM:∀r o,Mc r o→M r o)(hh:∀c k,hc c=some k→∃k0,h (ρ c)=some k0∧leB k0 (Ku ρ k)) :
  (∀(x:AV) (v:Value),Kv hc x=true→Qe φ h w M (Jr ρ x) v→Qe φc hc w Mc x v)∧(∀(xs:List AV) (l:List Value),KG hc xs=true→Qi φ h w M (Wn ρ xs) l→Qi φc hc w Mc xs l):=by
 obtain⟨kp,ke,kc⟩:=Z4 (w:=w) (w':=w) (M:=M) (M':=Mc) (fun r o v U O=>⟨U,fun h3=>O (hM r o h3)⟩)
 have key:∀n:Nat,(∀(x:AV),SizeOf.sizeOf x≤n→∀v,Kv hc x=true→Qe φ h w M (Jr ρ x) v→Qe φc hc w Mc x v)∧(∀(xs:List AV),SizeOf.sizeOf xs≤n→∀l,KG hc xs=true→Qi φ h w M (Wn ρ xs) l→Qi φc hc w Mc xs l):=by
  intro n
  induction n with
 |zero =>
   refine⟨fun x hx=>?_,fun es hx=>?_⟩
   ·cases x<;>simp at hx
   ·cases es<;>simp at hx
 |succ n ih =>
   obtain⟨i1,i2⟩:=ih;refine⟨fun x hx v W J=>?_,fun xs hx l W J=>?_⟩
   ·cases x with
   |p x=>simp only[Jr,Qe] at J ⊢;exact kp x v J
   |tsl S es t =>
     simp only[Kv] at W;obtain⟨k,G⟩:=RY.1 W;simp only[Jr,Qe] at J ⊢;obtain⟨U,ty,m,O,h3⟩:=J;obtain⟨k0,Y,Z⟩:=hh t k G;rw[O] at Y;cases Y
     have ac:k=.arr ty S m:=by
      cases k with
     |arr _ _ _=>simpa [leB,Ku] using Z
     |_=>simp[leB,Ku] at Z
     refine⟨kp _ _ U,ty,m,by rw[G,ac],?_⟩;rw[aa t (by rw[G];simp)];exact h3
   |ptr b off =>
     simp only[Kv] at W;obtain⟨k,G⟩:=RY.1 W;simp only[Jr,Qe] at J ⊢;obtain⟨U,ty,cs,O⟩:=J;obtain⟨k0,Y,Z⟩:=hh b k G;rw[O] at Y;cases Y;cases k with
    |box ab cs'=>exact⟨by rw[aa b (by rw[G];simp)];exact U,ab,cs',G⟩
    |_=>simp[leB,Ku] at Z
   |bsl b n =>
     simp only[Kv] at W;obtain⟨k,G⟩:=RY.1 W;simp only[Jr,Qe] at J ⊢;obtain⟨U,ty,cs,O⟩:=J;obtain⟨k0,Y,Z⟩:=hh b k G;rw[O] at Y;cases Y;cases k with
    |box ab cs'=>exact⟨by rw[aa b (by rw[G];simp)];exact U,ab,cs',G⟩
    |_=>simp[leB,Ku] at Z
   |sfp b =>
     simp only[Kv] at W;obtain⟨k,G⟩:=RY.1 W;simp only[Jr,Qe] at J ⊢;obtain⟨U,ty,cs,O⟩:=J;obtain⟨k0,Y,Z⟩:=hh b k G;rw[O] at Y;cases Y;cases k with
    |box ab cs'=>exact⟨by rw[aa b (by rw[G];simp)];exact U,ab,cs',G⟩
    |_=>simp[leB,Ku] at Z
   |vnil=>simp only[Jr,Qe] at J ⊢;exact J
   |vsl S t n =>
     simp only[Kv] at W;obtain⟨k,G⟩:=RY.1 W;simp only[Jr,Qe] at J ⊢;obtain⟨U,ty,m,O,h3⟩:=J;obtain⟨k0,Y,Z⟩:=hh t k G;rw[O] at Y;cases Y
     have ac:k=.vec ty S m:=by
      cases k with
     |vec _ _ _=>simpa [leB,Ku] using Z
     |_=>simp[leB,Ku] at Z
     refine⟨U,ty,m,by rw[G,ac],?_⟩;rw[aa t (by rw[G];simp)];exact h3
   |vptr t n k f =>
     simp only[Kv] at W;obtain⟨k,G⟩:=RY.1 W;simp only[Jr,Qe] at J ⊢;obtain⟨U,ty,S,m,O,h3⟩:=J;obtain⟨k0,Y,Z⟩:=hh t k G;rw[O] at Y;cases Y
     have ac:k=.vec ty S m:=by
      cases k with
     |vec _ _ _=>simpa [leB,Ku] using Z
     |_=>simp[leB,Ku] at Z
     refine⟨U,ty,S,m,by rw[G,ac],?_⟩;rw[aa t (by rw[G];simp)];exact h3
   |yv b =>
     simp only[Kv] at W;obtain⟨k,G⟩:=RY.1 W;simp only[Jr,Qe] at J ⊢;obtain⟨U,k1,T,nf,O,h3⟩:=J;obtain⟨k0,Y,Z⟩:=hh b k G;rw[O] at Y;cases Y;have e3:=Ud Z h3;rw[XA] at e3;refine⟨by rw[aa b (by rw[G];simp)];exact U,k,?_⟩;cases k with
    |lp T' ad st pd=>exact⟨T',ad,G,rfl⟩
    |_=>simp[Blk.ob,uY] at e3
   |mv b =>
     simp only[Kv] at W;obtain⟨k,G⟩:=RY.1 W;simp only[Jr,Qe] at J ⊢;obtain⟨U,k1,O,h3⟩:=J;obtain⟨k0,Y,Z⟩:=hh b k G;rw[O] at Y;cases Y;have e3:=Ud Z h3;rw[XA] at e3;refine⟨by rw[aa b (by rw[G];simp)];exact U,k,?_⟩;cases k with
    |mp es=>exact⟨G,rfl⟩
    |mf es=>exact⟨G,rfl⟩
    |mg en cl es=>exact⟨G,rfl⟩
    |it m cl sn=>exact⟨G,rfl⟩
    |_=>simp[Blk.ob,uY] at e3
   |iv b =>
     simp only[Kv] at W;obtain⟨k,G⟩:=RY.1 W;simp only[Jr,Qe] at J ⊢;obtain⟨U,k1,O,h3⟩:=J;obtain⟨k0,Y,Z⟩:=hh b k G;rw[O] at Y;cases Y;have e3:=Ud Z h3;rw[XA] at e3;refine⟨by rw[aa b (by rw[G];simp)];exact U,k,?_⟩;cases k with
    |mp es=>exact⟨G,rfl⟩
    |mf es=>exact⟨G,rfl⟩
    |mg en cl es=>exact⟨G,rfl⟩
    |it m cl sn=>exact⟨G,rfl⟩
    |_=>simp[Blk.ob,uY] at e3
   |eptr cs =>
     simp only[Jr,Qe] at J ⊢;obtain⟨r,o,U,O⟩:=J;exact⟨r,o,U,kc cs r o O⟩
   |agg cs =>
     simp only[Jr,Qe,Kv] at J W ⊢;obtain⟨l,U,O⟩:=J;exact⟨l,U,i2 cs (by simp at hx;omega) l W O⟩
   |tup cs =>
     simp only[Jr,Qe,Kv] at J W ⊢;obtain⟨l,U,O⟩:=J;exact⟨l,U,i2 cs (by simp at hx;omega) l W O⟩
   |fn f a b =>
     simp only[Jr,Qe,Kv,ZG] at J W ⊢;obtain⟨l,m,U,O,h3⟩:=J;simp at hx;exact⟨l,m,U,i2 a zo l W.1 O,i2 b zo m W.2 h3⟩
   |ifc t x =>
     simp only[Jr,Qe,Kv] at J W ⊢;obtain⟨y,U,O⟩:=J;exact⟨y,U,i1 x (by simp at hx;omega) y W O⟩
   ·cases xs with
   |nil=>simpa [Wn,Qi] using J
   |cons x xs =>
     simp only[Wn,Qi,KG,ZG] at J W ⊢;simp at hx;obtain⟨y,ys,U,O,h3⟩:=J;exact⟨y,ys,U,i1 x zo y W.1 O,i2 xs zo ys W.2 h3⟩
 exact⟨fun x v=>(key (SizeOf.sizeOf x)).1 x (Kt _) v,fun xs l=>(key (SizeOf.sizeOf xs)).2 xs (Kt _) l⟩
theorem wW(U:∀c,hc c≠none→φ (ρ c)=φc c)(hM:∀r o v,w.cell? ⟨r,o,none⟩=some v→M r o→Mc r o)(Z:∀c k,hc c=some k→h (ρ c)=some (Ku ρ k)) :
  (∀(x:AV) (v:Value),Qe φc hc w Mc x v→Qe φ h w M (Jr ρ x) v)∧(∀(xs:List AV) (l:List Value),Qi φc hc w Mc xs l→Qi φ h w M (Wn ρ xs) l):=by
 obtain⟨kp,ke,kc⟩:=Z4 (w:=w) (w':=w) (M:=Mc) (M':=M) (fun r o v O G=>⟨O,fun W=>G (hM r o v O W)⟩)
 have key:∀n:Nat,(∀(x:AV),SizeOf.sizeOf x≤n→∀v,Qe φc hc w Mc x v→Qe φ h w M (Jr ρ x) v)∧(∀(xs:List AV),SizeOf.sizeOf xs≤n→∀l,Qi φc hc w Mc xs l→Qi φ h w M (Wn ρ xs) l):=by
  intro n
  induction n with
 |zero =>
   refine⟨fun x Y=>?_,fun es Y=>?_⟩
   ·cases x<;>simp at Y
   ·cases es<;>simp at Y
 |succ n ih =>
   obtain⟨i1,i2⟩:=ih;refine⟨fun x Y v J=>?_,fun xs Y l J=>?_⟩
   ·cases x with
   |p x=>simp only[Jr,Qe] at J ⊢;exact kp x v J
   |tsl S es t =>
     simp only[Jr,Qe] at J ⊢;obtain⟨O,ty,m,G,W⟩:=J;refine⟨kp _ _ O,ty,m,by rw[Z t _ G];rfl,?_⟩;rw[U t (by rw[G];simp)];exact W
   |ptr b off =>
     simp only[Jr,Qe] at J ⊢;obtain⟨O,ty,cs,G⟩:=J;exact⟨by rw[U b (by rw[G];simp)];exact O,ty,Wn ρ cs,by rw[Z b _ G];rfl⟩
   |bsl b n =>
     simp only[Jr,Qe] at J ⊢;obtain⟨O,ty,cs,G⟩:=J;exact⟨by rw[U b (by rw[G];simp)];exact O,ty,Wn ρ cs,by rw[Z b _ G];rfl⟩
   |sfp b =>
     simp only[Jr,Qe] at J ⊢;obtain⟨O,ty,cs,G⟩:=J;exact⟨by rw[U b (by rw[G];simp)];exact O,ty,Wn ρ cs,by rw[Z b _ G];rfl⟩
   |vnil=>simp only[Jr,Qe] at J ⊢;exact J
   |vsl S t n =>
     simp only[Jr,Qe] at J ⊢;obtain⟨O,ty,m,G,W⟩:=J;refine⟨O,ty,m,by rw[Z t _ G];rfl,?_⟩;rw[U t (by rw[G];simp)];exact W
   |vptr t n k f =>
     simp only[Jr,Qe] at J ⊢;obtain⟨O,ty,S,m,G,W⟩:=J;refine⟨O,ty,S,m,by rw[Z t _ G];rfl,?_⟩;rw[U t (by rw[G];simp)];exact W
   |yv b =>
     simp only[Jr,Qe] at J ⊢;obtain⟨O,k,T,nf,G,W⟩:=J;exact⟨by rw[U b (by rw[G];simp)];exact O,Ku ρ k,_,nf,Z b _ G,by rw[XA,W];rfl⟩
   |mv b =>
     simp only[Jr,Qe] at J ⊢;obtain⟨O,k,G,W⟩:=J;exact⟨by rw[U b (by rw[G];simp)];exact O,Ku ρ k,Z b _ G,by rw[XA,W];rfl⟩
   |iv b =>
     simp only[Jr,Qe] at J ⊢;obtain⟨O,k,G,W⟩:=J;exact⟨by rw[U b (by rw[G];simp)];exact O,Ku ρ k,Z b _ G,by rw[XA,W];rfl⟩
   |eptr cs =>
     simp only[Jr,Qe] at J ⊢;obtain⟨r,o,O,G⟩:=J;exact⟨r,o,O,kc cs r o G⟩
   |agg cs =>
     simp only[Jr,Qe] at J ⊢;obtain⟨l,O,G⟩:=J;exact⟨l,O,i2 cs (by simp at Y;omega) l G⟩
   |tup cs =>
     simp only[Jr,Qe] at J ⊢;obtain⟨l,O,G⟩:=J;exact⟨l,O,i2 cs (by simp at Y;omega) l G⟩
   |fn f a b =>
     simp only[Jr,Qe] at J ⊢;obtain⟨l,m,O,G,W⟩:=J;simp at Y;exact⟨l,m,O,i2 a zo l G,i2 b zo m W⟩
   |ifc t x =>
     simp only[Jr,Qe] at J ⊢;obtain⟨y,O,G⟩:=J;exact⟨y,O,i1 x (by simp at Y;omega) y G⟩
   ·cases xs with
   |nil=>simpa [Wn,Qi] using J
   |cons x xs =>
     simp only[Wn,Qi] at J ⊢;simp at Y;obtain⟨y,ys,O,G,W⟩:=J;exact⟨y,ys,O,i1 x zo y G,i2 xs zo ys W⟩
 exact⟨fun x v=>(key (SizeOf.sizeOf x)).1 x (Kt _) v,fun xs l=>(key (SizeOf.sizeOf xs)).2 xs (Kt _) l⟩
theorem Qb7(G:∀c,hc c≠none→φ (ρ c)=φc c)(J:∀r o,M r o→Mc r o)(O:∀c k,hc c=some k→h (ρ c)=some (Ku ρ k)) :
  (∀(x:AV) (v:Value),Qe φc hc w Mc x v→Qe φ h w M (Jr ρ x) v)∧(∀(xs:List AV) (l:List Value),Qi φc hc w Mc xs l→Qi φ h w M (Wn ρ xs) l) :=
 wW G (fun r o _ _=>J r o) O
end
def KF(ρ:Nat→Nat)(hc':List (Nat×Blk))(H:List (Nat×Blk)):List (Nat×Blk):=hc'.map (fun p=>(ρ p.1,Ku ρ p.2))++H
def FH(ρ:Nat→Nat)(hc hc' H:List (Nat×Blk)):Prop :=(∀c∈hc.map (·.1),c∈hc'.map (·.1))∧(∀c∈hc'.map (·.1),c∈hc.map (·.1)∨look H (ρ c)=none)∧(∀c∈hc'.map (·.1),∀d∈hc'.map (·.1),ρ c=ρ d→c=d)
theorem Ed{φ φ':Nat→Nat}{h h':QN}{w:World}{M M':ZK}(Y:∀r o v,w.cell? ⟨r,o,none⟩=some v→M' r o→M r o):∀(l:List PV) (J:List Value),Qi φ h w M (l.map .p) J→Qi φ' h' w M' (l.map .p) J
|[],J,O=>by simpa [Qi] using O
|x::l,J,O=>by
  simp only[Yy,Qi,Qe] at O ⊢;obtain⟨y,ys,G,U,W⟩:=O;exact⟨y,ys,G,(Z4 (w:=w) (w':=w) (M:=M) (M':=M') (fun r o v G U=>⟨G,fun W=>U (Y r o v G W)⟩)).1 x y U,Ed Y l ys W⟩
theorem ND(J:∀r o,M' r o→M r o)(l:List PV)(G:List Value):Qi φ h w M (l.map .p) G→Qi φ' h' w M' (l.map .p) G :=
 Ed (fun r o _ _=>J r o) l G
theorem DJ{α:Type}:∀(a b:List (Nat×α)) (t:Nat),look (a++b) t=match look a t with|some v=>some v|none=>look b t
|[],b,t=>rfl
|(k,v)::a,b,t=>by
  simp only[List.cons_append,look];by_cases e:k=t
  ·simp[e]
  ·simp only[e,if_false];exact DJ a b t
theorem YB{α:Type}:∀{a:List (Nat×α)} {t:Nat},look a t≠none↔t∈a.map (·.1)
|[],t=>by simp[look]
|(k,v)::a,t=>by
  simp only[look,Yy,List.mem_cons];by_cases e:k=t
  ·simp[e]
  ·simp only[e,if_false,YB];constructor
   ·exact .inr
   ·rintro(h|h)
    ·exact absurd h.symm e
    ·exact h
theorem IL{ρ:Nat→Nat}:∀{hc:List (Nat×Blk)} {t:Nat},(∀c d,c∈hc.map (·.1)→d∈t::hc.map (·.1)→ρ c=ρ d→c=d)→look (hc.map (fun p=>(ρ p.1,Ku ρ p.2))) (ρ t)=(look hc t).map (Ku ρ)
|[],t,_=>rfl
|(k,v)::hc,t,hi=>by
  simp only[Yy,look];by_cases e:k=t
  ·simp[e]
  ·have:¬ρ k=ρ t:=fun h=>e (hi k t zq zq h)
   simp only[e,this,if_false];refine IL (fun c d hc G h=>hi c d (by simp at hc ⊢;exact .inr hc) ?_ h);simp at G ⊢;rcases G with G|G
   ·exact .inl G
   ·exact .inr (.inr G)
theorem BO{ρ:Nat→Nat}:∀{hc:List (Nat×Blk)} {b:Nat},(∀c,c∈hc.map (·.1)→ρ c≠b)→look (hc.map (fun p=>(ρ p.1,Ku ρ p.2))) b=none
|[],b,_=>rfl
|(k,v)::hc,b,hi=>by
  simp only[Yy,look];have:¬ρ k=b:=hi k zq;simp only[this,if_false];exact BO (fun c hc=>hi c (by simp at hc ⊢;exact .inr hc))
theorem Gz:∀(l:List Nat) (x:Nat),x∈l→x≤l.foldr max 0
|a::l,x,h=>by
  simp only[List.foldr_cons];rcases List.mem_cons.1 h with e|e
  ·subst e;exact Nat.le_max_left _ _
  ·exact Nat.le_trans (Gz l x e) (Nat.le_max_right _ _)
theorem ME{C:(Nat→Nat)→Array Value→World→(Ending→World→Prop)→Prop}(bd:∀φ vs w R R',C φ vs w R→(∀e w',R e w'→R' e w')→C φ vs w R')(ρ:Nat→Nat)(hcall:∀φ M0 w vs,ZN φ (look hc) w M0→Qi φ (look hc) w (MM φ (look hc) M0) args' vs→C φ vs.toArray w fun e w'=>∃φ' r h',R r h'∧ZN φ' h' w' M0∧Q8 φ (look hc) w φ' h' w'∧eT φ' h' w' (MM φ' h' M0) r e)(bh:Nu args (Wn ρ args'))(hok:KG (look hc) args'=true)(av:∀c∈hc.map (·.1),1000≤c)(an:∀c k,look hc c=some k→okRefB (look hc) k=true)(hsub:∀c k,look hc c=some k→∃k0,look s.H (ρ c)=some k0∧leB k0 (Ku ρ k))(bn:∀c∈hc.map (·.1),∀d∈hc.map (·.1),ρ c=ρ d→c=d)(hd:∀t,dst=some t→t<N)(bi:∀r h',R r h'→∃hc' H2,h'=look hc'∧FH ρ hc hc' s.H∧(∀b,look H2 b=look (KF ρ hc' s.H) b) ∧
   (match r with|.ret x=>K (St.put ⟨s.T,H2⟩ dst (Jr ρ x))|.panic x=>Q (.panic (Jr ρ x)) ⟨s.T,H2⟩)) :
  ∀φ M0 D a w vs,Zn φ M0 N D (look s.T) (look s.H) a w→Qi φ (look s.H) w (MM φ (look s.H) M0) args vs→C (fun c=>φ (ρ c)) vs.toArray w fun e w' =>
   match e with
  |.returned v=>∃φ' s',K s'∧Zn φ' M0 N D (look s'.T) (look s'.H) (a.put dst v) w'∧Q8 φ (look s.H) w φ' (look s'.H) w'
  |.panicked chain=>Post N D Q φ M0 (look s.H) w (.panic chain) a w'
  |.outgrown=>False:=by
 intro φ M0 D a w vs r ha
 let hr:QN:=fun b=>if b∈(hc.map (·.1)).map ρ then none else look s.H b
 let φc:Nat→Nat:=fun c=>φ (ρ c)
 have bm:∀b k,hr b=some k→look s.H b=some k∧b∉(hc.map (·.1)).map ρ:=by
  intro b k hb;simp only[hr] at hb;split at hb
  ·cases hb
  ·rename_i hn;exact⟨hb,hn⟩
 have a6:∀x o,TK φ hr x o→TK φ (look s.H) x o:=by
  rintro x o ⟨b,k,Y,J,h3⟩;exact⟨b,k,(bm b k Y).1,J,h3⟩
 have ah:∀c,look hc c≠none→c∈hc.map (·.1):=fun c h=>YB.1 h
 have ao:∀x o,TK φc (look hc) x o→TK φ (look s.H) x o:=by
  rintro x o ⟨c,k,Y,J,h3⟩;obtain⟨k0,h4,h5⟩:=hsub c k Y;refine⟨ρ c,k0,h4,J,?_⟩;cases k0 with
 |arr ty S n =>
   cases k with
  |arr b9 S' n'=>simp only[leB,Ku,Blk.arr.injEq] at h5;obtain⟨rfl,rfl,rfl⟩:=h5;exact h3
  |_=>simp[leB,Ku] at h5
 |_=>trivial
 have be:∀x o,MM φc (look hc) (MB φ hr w M0) x o→MM φ (look s.H) M0 x o:=by
  rintro x o (Y|⟨Y|Y,_⟩)
  ·exact .inl (ao x o Y)
  ·exact .inl (a6 x o Y)
  ·exact .inr Y
 obtain⟨b7,ay⟩:=Qfo (w:=w) (ρ:=ρ) (φ:=φ) (φc:=φc) (h:=look s.H) (hc:=look hc) (fun _ _=>rfl) be hsub
 have b1:ZN φc (look hc) w (MB φ hr w M0):=by
  refine⟨fun c d ac aj he=>?_,fun c k hk=>?_,fun c ac o W=>?_,fun x o W=>?_,r.hp.gm.sub be⟩
  ·obtain⟨kc,az⟩:=SH.1 ac;obtain⟨kd,am⟩:=SH.1 aj;obtain⟨k0,e0,_⟩:=hsub c kc az;obtain⟨k1,e1,_⟩:=hsub d kd am;exact bn c (ah c ac) d (ah d aj) (r.hp.inj (ρ c) (ρ d) (by rw[e0];simp) (by rw[e1];simp) he)
  ·obtain⟨k0,Y,J⟩:=hsub c k hk;have h3:=r.hp.blk (ρ c) k0 Y;cases k with
  |box ty cs =>
    cases k0 with
   |box vP cc =>
     simp only[leB,Ku,Blk.box.injEq] at J;obtain⟨cs',⟨e1,e2⟩,h5⟩:=J;obtain⟨c0,h6,h7⟩:=h3;refine⟨c0,by rw[e1];exact h6,ay _ _ (an c _ hk) ?_⟩;rw[e2];exact Xc.2 _ _ _ h5 h7
   |_=>simp[leB,Ku] at J
  |arr ty S n =>
    cases k0 with
   |arr vP S0 n0=>simp only[leB,Ku,Blk.arr.injEq] at J;obtain⟨rfl,rfl,rfl⟩:=J;exact h3
   |_=>simp[leB,Ku] at J
  |vec ty S es =>
    cases k0 with
   |vec vP S0 n0 =>
     simp only[leB,Ku,Blk.vec.injEq] at J;obtain⟨rfl,rfl,rfl⟩:=J;obtain⟨c0,cap,g1,g2,g3,g4,g5,g6,g7⟩:=h3;exact⟨c0,cap,g1,g2,g3,g4,g5,g6,ND be _ _ g7⟩
   |_=>simp[leB,Ku] at J
  |lp T nf st pd =>
    cases k0 with
   |lp T0 b8 ch cf =>
     simp only[leB,Ku,Blk.lp.injEq] at J;obtain⟨rfl,rfl,rfl,rfl⟩:=J;obtain⟨tmps,d,g1,g2,g3⟩:=h3;refine⟨tmps,d,g1,g2,fun t x ht=>?_⟩;have g4:=g3 t (Jr ρ x) (by rw[Bg,ht];rfl);exact⟨g4.1,b7 _ _ (Hu (an c _ hk) ht) g4.2⟩
   |_=>simp[leB,Ku] at J
  |mp es =>
    cases k0 with
   |mp br =>
     simp only[leB,Ku,Blk.mp.injEq] at J;subst J;obtain⟨en,cl,g1,g2,g3⟩:=h3;refine⟨en,cl,g1,g2,ay _ _ (Rw _ _) ?_⟩;rw[kW];exact g3
   |_=>simp[leB,Ku] at J
  |mf es =>
    cases k0 with
   |mf br =>
     simp only[leB,Ku,Blk.mf.injEq] at J;subst J;obtain⟨en,cl,g1,g2,g3,g4⟩:=h3;rw[LH] at g2;rw[LG] at g3;exact⟨en,cl,g1,g2,ay _ _ (Jj (an c _ hk)) g3,g4⟩
   |_=>simp[leB,Ku] at J
  |mg en cl es =>
    cases k0 with
   |mg ce bu br =>
     simp only[leB,Ku,Blk.mg.injEq] at J;obtain⟨rfl,rfl,rfl⟩:=J;obtain⟨g1,g2,g3,g4⟩:=h3;rw[LH] at g2;rw[LG] at g3;exact⟨g1,g2,ay _ _ (Jj (an c _ hk)) g3,g4⟩
   |_=>simp[leB,Ku] at J
  |it m cl sn =>
    cases k0 with
   |it m0 bu cg =>
     simp only[leB,Ku,Blk.it.injEq] at J;obtain⟨e1,rfl,rfl⟩:=J;obtain⟨g1,k1,g2,g3⟩:=h3;obtain⟨km,bp⟩:=RY.1 (an c _ hk);obtain⟨k2,g4,g5⟩:=hsub m km bp;rw[←e1] at g1 g2;rw[g2] at g4;cases g4;exact⟨g1,km,bp,Qfn (Ud g5 g3)⟩
   |_=>simp[leB,Ku] at J
  ·obtain⟨kc,az⟩:=SH.1 ac;obtain⟨k0,e0,_⟩:=hsub c kc az;rcases W with⟨⟨b,k,Y,J,_⟩|W,_⟩
   ·obtain⟨h4,h5⟩:=bm b k Y;have:=r.hp.inj b (ρ c) (by rw[h4];simp) (by rw[e0];simp) J;exact h5 (by rw[this];exact List.mem_map_of_mem (ah c ac))
   ·exact r.hp.fr (ρ c) (by rw[e0];simp) o W
  ·exact W.2
 refine bd _ _ _ _ _ (hcall φc (MB φ hr w M0) w vs b1 (ay _ _ hok (Xc.2 _ _ _ bh ha))) ?_;rintro e w' ⟨ad,bl,h',hR,aw,E,hE⟩;obtain⟨hc',H2,rfl,⟨hd1,hd2,bo⟩,bz,bb⟩:=bi bl h' hR;have bc:look H2=look (KF ρ hc' s.H):=funext bz
 have a7:∀b k,look s.H b=some k→b∉(hc.map (·.1)).map ρ→b∉(hc'.map (·.1)).map ρ:=by
  intro b k hb hn W;obtain⟨c,G,rfl⟩:=List.mem_map.1 W;rcases hd2 c G with Y|Y
  ·exact hn (List.mem_map_of_mem Y)
  ·rw[Y] at hb;cases hb
 have aq:∀b,b∉(hc'.map (·.1)).map ρ→b∉(hc.map (·.1)).map ρ:=by
  intro b hn W;obtain⟨c,G,rfl⟩:=List.mem_map.1 W;exact hn (List.mem_map_of_mem (hd1 c G))
 obtain⟨KK,cd⟩:∃KK,KK=w'.heap.size+((hc'.map (·.1)).map ad).foldr max 0+1:=⟨_,rfl⟩;have U:∀b,φ b<w.heap.size→K5 φ w.heap.size KK b=φ b:=fun b hb=>by simp[K5,hb]
 have Z:∀b,¬φ b<w.heap.size→K5 φ w.heap.size KK b=φ b+KK:=fun b hb=>by simp[K5,hb]
 have bk:∀b c,c∈hc'.map (·.1)→¬φ b<w.heap.size→ad c<K5 φ w.heap.size KK b:=by
  intro b c G hb;have:=Gz ((hc'.map (·.1)).map ad) (ad c) (List.mem_map_of_mem G);rw[Z b hb];omega
 have a8:∀b d,K5 φ w.heap.size KK b=K5 φ w.heap.size KK d→φ b=φ d:=by
  intro b d e;by_cases e1:φ b<w.heap.size<;>by_cases e2:φ d<w.heap.size
  ·rw[U b e1,U d e2] at e;exact e
  ·rw[U b e1,Z d e2] at e;omega
  ·rw[Z b e1,U d e2] at e;omega
  ·rw[Z b e1,Z d e2] at e;omega
 have hex:∃φ':Nat→Nat,(∀c,c∈hc'.map (·.1)→φ' (ρ c)=ad c)∧(∀b,b∉(hc'.map (·.1)).map ρ→φ' b=K5 φ w.heap.size KK b):=by
  refine⟨fun b=>match (hc'.map (·.1)).find? (fun c=>ρ c==b) with|some c=>ad c|none=>K5 φ w.heap.size KK b,fun c ac=>?_,fun b hb=>?_⟩
  ·cases hf:(hc'.map (·.1)).find? (fun d=>ρ d==ρ c) with
  |none =>
    have:=List.find?_eq_none.1 hf c ac;simp at this
  |some d =>
    have Y:=List.find?_some hf;have J:=List.mem_of_find?_eq_some hf;simp only[beq_iff_eq] at Y;simp only[hf];rw[bo d J c ac Y]
  ·cases hf:(hc'.map (·.1)).find? (fun d=>ρ d==b) with
  |none=>simp only[hf]
  |some d =>
    have Y:=List.find?_some hf;have J:=List.mem_of_find?_eq_some hf;simp only[beq_iff_eq] at Y;exact absurd (by rw[←Y];exact List.mem_map_of_mem J) hb
 obtain⟨φ',O,ab⟩:=hex;have al:∀c k,look hc' c=some k→c∈hc'.map (·.1):=fun c k hk=>YB.1 (by rw[hk];simp)
 have aa:∀c k,look hc' c=some k→look (KF ρ hc' s.H) (ρ c)=some (Ku ρ k):=by
  intro c k hk;unfold KF;rw[DJ,IL (fun x y hx hy b0=>bo x hx y (by rcases List.mem_cons.1 hy with rfl|hy;exact al _ _ hk;exact hy) b0),hk];rfl
 have af:∀b,b∉(hc'.map (·.1)).map ρ→look (KF ρ hc' s.H) b=look s.H b:=by
  intro b hb;unfold KF;rw[DJ,BO (fun c ac e=>hb (by rw[←e];exact List.mem_map_of_mem ac))]
 have ak:∀b k,look (KF ρ hc' s.H) b=some k→(∃c k',look hc' c=some k'∧ρ c=b∧k=Ku ρ k')∨(b∉(hc'.map (·.1)).map ρ∧look s.H b=some k):=by
  intro b k hb;by_cases W:b∈(hc'.map (·.1)).map ρ
  ·obtain⟨c,G,rfl⟩:=List.mem_map.1 W;obtain⟨k',bj⟩:=SH.1 (YB.2 G);rw[aa c k' bj] at hb;exact .inl ⟨c,k',bj,rfl,(Option.some.inj hb).symm⟩
  ·exact .inr ⟨W,by rw[←af b W];exact hb⟩
 have ax:∀x o,TK φ' (look (KF ρ hc' s.H)) x o→TK ad (look hc') x o∨(TK φ hr x o∧x<w.heap.size)∨w'.heap.size≤x:=by
  rintro x o ⟨b,k,Y,J,h3⟩;rcases ak b k Y with⟨c,k',g1,rfl,rfl⟩|⟨g1,g2⟩
  ·left;refine⟨c,k',g1,?_,?_⟩
   ·rw[←O c (al _ _ g1)];exact J
   ·cases k'<;>exact h3
  ·right;rw[ab b g1] at J;by_cases hlt:φ b<w.heap.size
   ·rw[U b hlt] at J;exact .inl ⟨⟨b,k,by simp only[hr];rw[if_neg (aq b g1)];exact g2,J,h3⟩,by omega⟩
   ·rw[Z b hlt] at J;exact .inr zo
 have bt:∀x o v,w'.cell? ⟨x,o,none⟩=some v→MM φ' (look (KF ρ hc' s.H)) M0 x o→MM ad (look hc') (MB φ hr w M0) x o:=by
  rintro x o v bg (Y|Y)
  ·rcases ax x o Y with J|J|J
   ·exact .inl J
   ·exact .inr ⟨.inl J.1,J.2⟩
   ·have:=CU bg;omega
  ·exact .inr ⟨.inr Y,r.hp.lt x o Y⟩
 obtain⟨ar,au⟩:=wW (w:=w') (ρ:=ρ) (φ:=φ') (φc:=ad) (h:=look (KF ρ hc' s.H)) (hc:=look hc') (fun c ac=>O c (YB.1 ac)) bt aa
 have b6:Q8 φ (look s.H) w φ' (look (KF ρ hc' s.H)) w'∧Y4 φ (look s.H) w φ' (look (KF ρ hc' s.H)) w':=by
  have hb:∀b ty cs,look s.H b=some (.box ty cs)→(∃cs',look (KF ρ hc' s.H) b=some (.box ty cs'))∧φ' b=φ b:=by
   intro b ty cs hb;by_cases W:b∈(hc.map (·.1)).map ρ
   ·obtain⟨c,G,rfl⟩:=List.mem_map.1 W;obtain⟨k,hk⟩:=SH.1 (YB.2 G);obtain⟨k0,e0,e1⟩:=hsub c k hk;rw[hb] at e0;cases e0;cases k with
   |box MV b4 =>
     simp only[leB,Ku,Blk.box.injEq] at e1;obtain⟨ca,⟨e2,_⟩,_⟩:=e1;obtain⟨⟨b2,e3⟩,e4⟩:=E.kb c MV b4 (av c G) hk;refine⟨⟨Wn ρ b2,by rw[aa c _ e3,e2];rfl⟩,by rw[O c (hd1 c G),e4]⟩
   |_=>simp[leB,Ku] at e1
   ·have ai:=a7 b _ hb W;exact⟨⟨cs,by rw[af b ai];exact hb⟩,(ab b ai).trans (Fp r.hp KK hb (fun _ _ e=>by cases e))⟩
  have ht:∀t ty S n,look s.H t=some (.arr ty S n)→∃n',look (KF ρ hc' s.H) t=some (.arr ty S n')∧n≤n' ∧
    (n'=n→AKept w w' (φ t) (φ' t) ty):=by
   intro t ty S n ae;by_cases W:t∈(hc.map (·.1)).map ρ
   ·obtain⟨c,G,rfl⟩:=List.mem_map.1 W;obtain⟨k,hk⟩:=SH.1 (YB.2 G);obtain⟨k0,e0,e1⟩:=hsub c k hk;rw[ae] at e0;cases e0;cases k with
   |arr MV S1 n1 =>
     simp only[leB,Ku,Blk.arr.injEq] at e1;obtain⟨rfl,rfl,rfl⟩:=e1;obtain⟨n',e3,e4,e5⟩:=E.kt c MV S1 n1 (av c G) hk;refine⟨n',by rw[aa c _ e3];rfl,e4,fun e6=>?_⟩;obtain⟨e9,b3⟩:=e5 e6;refine⟨fun h0=>by rw[O c (hd1 c G)];exact e9 h0,?_⟩;rcases b3 with e7|⟨e7,e8⟩
     ·exact .inl e7
     exact .inr ⟨by rw[O c (hd1 c G),e7],e8⟩
   |_=>simp[leB,Ku] at e1
   ·have ai:=a7 t _ ae W;refine⟨n,by rw[af t ai];exact ae,Kt _,fun _=>?_⟩;by_cases hlt:φ t<w.heap.size;rotate_left
    ·exact Me (Z6 zo) (by rw[ab t ai,Z t hlt];exact Z6 zo)
    refine Yz ((ab t ai).trans (U t hlt)) (E.same (φ t) hlt (fun d aj he=>?_))
    ·obtain⟨kd,am⟩:=SH.1 aj;obtain⟨k0,e0,_⟩:=hsub d kd am;have:=r.hp.inj (ρ d) t (by rw[e0];simp) (by rw[ae];simp) he;exact W (by rw[←this];exact List.mem_map_of_mem (ah d aj))
  have hv:∀t ty S n,look s.H t=some (.vec ty S n)→∃n',look (KF ρ hc' s.H) t=some (.vec ty S n')∧n.length≤n'.length ∧
    (n'.length=n.length→φ' t=φ t∧∀c,w.heap[φ t]?=some (.cells c ty (0,0))→∃c',w'.heap[φ t]?=some (.cells c' ty (0,0))∧c'.size=c.size):=by
   intro t ty S n ae;by_cases W:t∈(hc.map (·.1)).map ρ
   ·obtain⟨c,G,rfl⟩:=List.mem_map.1 W;obtain⟨k,hk⟩:=SH.1 (YB.2 G);obtain⟨k0,e0,e1⟩:=hsub c k hk;rw[ae] at e0;cases e0;cases k with
   |vec MV S1 n1 =>
     simp only[leB,Ku,Blk.vec.injEq] at e1;obtain⟨rfl,rfl,rfl⟩:=e1;obtain⟨n',e3,e4,e5⟩:=E.kv c MV S1 n1 (av c G) hk;refine⟨n',by rw[aa c _ e3];rfl,e4,fun e6=>?_⟩;obtain⟨e7,e8⟩:=e5 e6;exact⟨by rw[O c (hd1 c G),e7],e8⟩
   |_=>simp[leB,Ku] at e1
   ·have ai:=a7 t _ ae W;refine⟨n,by rw[af t ai];exact ae,Kt _,fun _=>⟨(ab t ai).trans (U t (vU r.hp ae)),fun c ac=>⟨c,?_,rfl⟩⟩⟩;rw[E.same (φ t) (vU r.hp ae) (fun d aj he=>?_)]
    ·exact ac
    ·obtain⟨kd,am⟩:=SH.1 aj;obtain⟨k0,e0,_⟩:=hsub d kd am;have:=r.hp.inj (ρ d) t (by rw[e0];simp) (by rw[ae];simp) he;exact W (by rw[←this];exact List.mem_map_of_mem (ah d aj))
  have bq:∀b k x,look s.H b=some k→k.ob=some x→(∃k',look (KF ρ hc' s.H) b=some k'∧k'.ob=some x)∧φ' b=φ b:=by
   intro b k x hb ho;by_cases W:b∈(hc.map (·.1)).map ρ
   ·obtain⟨c,G,rfl⟩:=List.mem_map.1 W;obtain⟨k2,hk⟩:=SH.1 (YB.2 G);obtain⟨k0,e0,e1⟩:=hsub c k2 hk;rw[hb] at e0;cases e0;have e2:=Ud e1 ho;rw[XA] at e2;cases ho2:k2.ob with
   |none=>rw[ho2] at e2;cases e2
   |some x2 =>
     rw[ho2] at e2;obtain⟨⟨k',e3,e4⟩,e5⟩:=E.ko c k2 x2 (av c G) hk ho2;exact⟨⟨Ku ρ k',aa c _ e3,by rw[XA,e4];exact e2⟩,by rw[O c (hd1 c G),e5]⟩
   ·have ai:=a7 b _ hb W;exact⟨⟨k,by rw[af b ai];exact hb,ho⟩,(ab b ai).trans (Fp r.hp KK hb (fun ty S e=>by rw[e] at ho;cases ho))⟩
  refine⟨⟨E.os,E.tape,E.output,E.size,fun x hx bx=>E.same x hx (fun c ac he=>?_),fun x o hx W=>E.cell x o hx (fun Y=>W (ao x o Y)),fun x o hx W=>?_,fun b ty cs _ ba=>hb b ty cs ba,fun t ty S n _ ae=>ht t ty S n ae,fun t ty S n _ ae=>hv t ty S n ae,fun b k x _=>bq b k x⟩,
   fun b ty cs ba=>⟨(hb b ty cs ba).1.elim fun cs' h=>⟨ty,cs',h⟩,(hb b ty cs ba).2⟩,ht,hv,bq⟩
  ·obtain⟨kc,az⟩:=SH.1 ac;obtain⟨k0,e0,_⟩:=hsub c kc az;exact bx (ρ c) (by rw[e0];simp) he
  ·rcases ax x o W with Y|Y|Y
   ·exact ao x o (E.mu x o hx Y)
   ·exact a6 x o Y.1
   ·have:=E.size;omega
 obtain⟨E1,X1⟩:=b6
 have b5:ZN φ' (look (KF ρ hc' s.H)) w' M0:=by
  refine⟨fun b d hb bv he=>?_,fun b k hb=>?_,fun b hb o W=>?_,fun x o W=>Nat.lt_of_lt_of_le (r.hp.lt x o W) E.size,r.hp.gm.evol E1⟩
  ·obtain⟨kb,bf⟩:=SH.1 hb;obtain⟨kd,am⟩:=SH.1 bv
   have mixed:∀c k' b k,look hc' c=some k'→b∉(hc'.map (·.1)).map ρ→look s.H b=some k→ad c≠K5 φ w.heap.size KK b:=by
    intro c k' b k g1 g2 g3 g4;by_cases hlt:φ b<w.heap.size;rotate_left
    ·have:=bk b c (al _ _ g1) hlt;omega
    rw[U b hlt] at g4;have bw:hr b=some k:=by simp only[hr];rw[if_neg (aq b g2)];exact g3
    obtain⟨o,ho⟩:=M9 (φ:=φ) bw;exact aw.fr c (by rw[g1];simp) o (by rw[g4];exact⟨.inl ho,hlt⟩)
   rcases ak b kb bf with⟨c,k',g1,rfl,_⟩|⟨g1,g2⟩<;>rcases ak d kd am with⟨c2,k2,g3,rfl,_⟩|⟨g3,g4⟩
   ·rw[O c (al _ _ g1),O c2 (al _ _ g3)] at he;rw[aw.inj c c2 (by rw[g1];simp) (by rw[g3];simp) he]
   ·rw[O c (al _ _ g1),ab d g3] at he;exact absurd he (mixed c k' d kd g1 g3 g4)
   ·rw[O c2 (al _ _ g3),ab b g1] at he;exact absurd he.symm (mixed c2 k2 b kb g3 g1 g2)
   ·rw[ab b g1,ab d g3] at he;exact r.hp.inj b d (by rw[g2];simp) (by rw[g4];simp) (a8 b d he)
  ·rcases ak b k hb with⟨c,k',g1,rfl,rfl⟩|⟨g1,g2⟩
   ·rw[O c (al _ _ g1)];have:=aw.blk c k' g1;cases k' with
   |box ty cs=>obtain⟨c0,Y,J⟩:=this;exact⟨c0,Y,au _ _ J⟩
   |arr ty S n=>exact this
   |vec ty S es=>obtain⟨c0,cap,q1,q2,q3,q4,q5,q6,q7⟩:=this;exact⟨c0,cap,q1,q2,q3,q4,q5,q6,Ed bt _ _ q7⟩
   |lp T nf st pd =>
     obtain⟨tmps,d,q1,q2,q3⟩:=this;refine⟨tmps,d,q1,q2,fun t x ht=>?_⟩;rw[Bg] at ht;cases hl:look T t with
    |none=>rw[hl] at ht;cases ht
    |some y =>
      rw[hl] at ht;cases ht;exact⟨(q3 t y hl).1,ar _ _ (q3 t y hl).2⟩
   |mp es =>
     obtain⟨en,cl,q1,q2,q3⟩:=this;refine⟨en,cl,q1,q2,?_⟩;have:=au _ _ q3;rw[kW] at this;exact this
   |mf es =>
     obtain⟨en,cl,q1,q2,q3,q4⟩:=this;exact⟨en,cl,q1,by rw[LH];exact q2,by rw[LG];exact au _ _ q3,q4⟩
   |mg en cl es =>
     obtain⟨q1,q2,q3,q4⟩:=this;exact⟨q1,by rw[LH];exact q2,by rw[LG];exact au _ _ q3,q4⟩
   |it m cl sn =>
     obtain⟨q1,k2,q2,q3⟩:=this;exact⟨by rw[O m (al _ _ q2)];exact q1,Ku ρ k2,aa m _ q2,by rw[XA,q3];rfl⟩
   ·rw[ab b g1];by_cases hlt:φ b<w.heap.size;rotate_left
    ·refine Z5 (E1.keeps M0) X1 ?_ (r.hp.blk b k g2);rw[Z6 (by omega:w.heap.size≤φ b),Z6 (by rw[Z b hlt];omega)]
    rw[U b hlt];refine Z5 (E1.keeps M0) X1 (E.same (φ b) hlt (fun d aj he=>?_)) (r.hp.blk b k g2);obtain⟨kd,am⟩:=SH.1 aj;obtain⟨k0,e0,_⟩:=hsub d kd am;have:=r.hp.inj (ρ d) b (by rw[e0];simp) (by rw[g2];simp) he;exact aq b g1 (by rw[←this];exact List.mem_map_of_mem (ah d aj))
  ·obtain⟨kb,bf⟩:=SH.1 hb;rcases ak b kb bf with⟨c,k',g1,rfl,_⟩|⟨g1,g2⟩
   ·rw[O c (al _ _ g1)] at W;exact aw.fr c (by rw[g1];simp) o ⟨.inr W,r.hp.lt _ _ W⟩
   ·rw[ab b g1] at W;by_cases hlt:φ b<w.heap.size
    ·rw[U b hlt] at W;exact r.hp.fr b (by rw[g2];simp) o W
    ·have:=r.hp.lt _ _ W;rw[Z b hlt] at this;omega
 have r1:Zn φ' M0 N D (look s.T) (look H2) a w':=by rw[bc];exact r.keep E1 X1 b5
 rw[←bc] at E1 ar;cases bl with
|ret x =>
  obtain⟨v,rfl,hv⟩:=hE;refine⟨φ',_,bb,Zn.put (s:=⟨s.T,H2⟩) r1 hd (ar _ _ hv),?_⟩;cases dst<;>exact E1
|panic x =>
  obtain⟨v,rfl,hv⟩:=hE;exact⟨φ',.panic (Jr ρ x),_,bb,r1,E1,v,rfl,ar _ _ hv⟩
theorem MF(ρ:Nat→Nat)(hcall:Y0 P f args' (look hc) R)(G:Nu args (Wn ρ args'))(hok:KG (look hc) args'=true)(U:∀c∈hc.map (·.1),1000≤c)(O:∀c k,look hc c=some k→okRefB (look hc) k=true)(hsub:∀c k,look hc c=some k→∃k0,look s.H (ρ c)=some k0∧leB k0 (Ku ρ k))(J:∀c∈hc.map (·.1),∀d∈hc.map (·.1),ρ c=ρ d→c=d)(hd:∀t,dst=some t→t<N)(W:∀r h',R r h'→∃hc' Y,h'=look hc'∧FH ρ hc hc' s.H∧(∀b,look Y b=look (KF ρ hc' s.H) b) ∧
   (match r with|.ret x=>K (St.put ⟨s.T,Y⟩ dst (Jr ρ x))|.panic x=>Q (.panic (Jr ρ x)) ⟨s.T,Y⟩)):LV P N f args dst s K Q :=
 fun φ M0 D a w Z r ha=>ME (C:=fun _ Z w R=>Calls P f Z w R) (fun _ _ _ _ _ h hq=>h.mono hq) ρ hcall G hok U O hsub J hd W φ M0 D a w Z r ha
theorem YAt.mono{l:Nat}{args:Array Value}{R G:Ending→World→Prop}(h:YAt P l args w R)(U:∀e w',R e w'→G e w'):YAt P l args w G:=by
 obtain⟨fn,tmps,assign,body,J,O⟩:=h;exact⟨fn,tmps,assign,body,J,O.mono U⟩
theorem wX(ρ:Nat→Nat)(hcall:eU P b args' (look hc) R)(G:Nu args (Wn ρ args'))(hok:KG (look hc) args'=true)(U:∀c∈hc.map (·.1),1000≤c)(O:∀c k,look hc c=some k→okRefB (look hc) k=true)(hsub:∀c k,look hc c=some k→∃k0,look s.H (ρ c)=some k0∧leB k0 (Ku ρ k))(J:∀c∈hc.map (·.1),∀d∈hc.map (·.1),ρ c=ρ d→c=d)(hd:∀t,dst=some t→t<N)(W:∀r h',R r h'→∃hc' Y,h'=look hc'∧FH ρ hc hc' s.H∧(∀b,look Y b=look (KF ρ hc' s.H) b) ∧
   (match r with|.ret x=>K (St.put ⟨s.T,Y⟩ dst (Jr ρ x))|.panic x=>Q (.panic (Jr ρ x)) ⟨s.T,Y⟩)):YEx P N (ρ b) args dst s K Q :=
 fun φ M0 D a w Z r ha=>ME (C:=fun φ Z w R=>YAt P (φ b) Z w R) (fun _ _ _ _ _ h hq=>h.mono hq) ρ hcall G hok U O hsub J hd W φ M0 D a w Z r ha
def SL(P:Program)(fn:Func)(hc:List (Nat×Blk))(R:Kw→QN→Prop)(s:St):Prop :=∃x y hc',DF P fn (look s.T) (look s.H)=some x∧le x y∧Kv (look hc') y=true∧Bz (look s.H) (look hc') hc'∧Ym (look hc') hc=true∧R (.ret y) (look hc')
def nJ(P:Program)(fn:Func)(hc:List (Nat×Blk))(R:Kw→QN→Prop):AX→St→Prop|.ret,s=>SL P fn hc R s|.normal,s=>SL P fn hc R s|.panic x,s=>∃y hc',le x y∧Kv (look hc') y=true∧Bz (look s.H) (look hc') hc'∧Ym (look hc') hc=true∧R (.panic y) (look hc')|.exit _,_=>False
theorem NE(r:Zn φ M0 N D (look s.T) (look s.H) a w)(E:Q8 φ0 (look hc) w0 φ (look s.H) w)(h1:Bz (look s.H) (look hc') hc')(h2:Ym (look hc') hc=true) :
  ZN φ (look hc') w M0∧Q8 φ0 (look hc) w0 φ (look hc') w∧∀x v,Kv (look hc') x=true→Qe φ (look s.H) w (MM φ (look s.H) M0) x v→Qe φ (look hc') w (MM φ (look hc') M0) x v:=by
 have hh:∀b k',look hc' b=some k'→∃k,look s.H b=some k∧leB k k':=fun b k' hb=>(JX h1 b k' hb).1
 have aa:∀r o,TK φ (look hc') r o→TK φ (look s.H) r o:=by
  rintro x o ⟨b,k',g1,g2,g3⟩;obtain⟨k,g4,g5⟩:=hh b k' g1;refine⟨b,k,g4,g2,?_⟩;cases k with
 |arr ty S n=>simp only[leB] at g5;subst g5;exact g3
 |_=>trivial
 have hM:∀r o,MM φ (look hc') M0 r o→MM φ (look s.H) M0 r o:=fun x o hx=>hx.elim (fun h=>.inl (aa x o h)) .inr
 have U:∀b,look hc' b≠none→look s.H b≠none:=fun b hb=>by
  cases hq:look hc' b with
 |none=>exact absurd hq hb
 |some k'=>obtain⟨k,h1,_⟩:=hh b k' hq;rw[h1];simp
 obtain⟨c1,c2⟩:=NC (φ:=φ) (w:=w) hM hh;refine⟨⟨fun b c hb hc=>r.hp.inj b c (U b hb) (U c hc),fun b k' hb=>?_,fun b hb=>r.hp.fr b (U b hb),r.hp.lt,r.hp.gm.sub hM⟩,?_,fun x v hx hv=>c1 x v hx hv⟩
 ·obtain⟨⟨k,g1,g2⟩,g3⟩:=JX h1 b k' hb;have g4:=r.hp.blk b k g1;cases k with
 |box ty cs =>
   simp only[leB] at g2;obtain⟨cs',rfl,g5⟩:=g2;obtain⟨c,g6,g7⟩:=g4;exact⟨c,g6,c2 _ _ g3 (Xc.2 _ _ _ g5 g7)⟩
 |arr ty S n=>simp only[leB] at g2;subst g2;exact g4
 |vec ty S es=>simp only[leB] at g2;subst g2;obtain⟨c,cap,W,O,G,q4,q5,q6,q7⟩:=g4;exact⟨c,cap,W,O,G,q4,q5,q6,c2 _ _ (NB _ _) q7⟩
 |lp T nf st pd=>simp only[leB] at g2;subst g2;obtain⟨tmps,d,W,O,G⟩:=g4;exact⟨tmps,d,W,O,fun t x Z=>⟨(G t x Z).1,c1 _ _ (Hu g3 Z) (G t x Z).2⟩⟩
 |mp es=>simp only[leB] at g2;subst g2;obtain⟨en,cl,W,O,G⟩:=g4;exact⟨en,cl,W,O,c2 _ _ (Rw _ _) G⟩
 |mf es=>simp only[leB] at g2;subst g2;obtain⟨en,cl,W,O,G,q4⟩:=g4;exact⟨en,cl,W,O,c2 _ _ (Jj g3) G,q4⟩
 |mg en cl es=>simp only[leB] at g2;subst g2;obtain⟨W,O,G,q4⟩:=g4;exact⟨W,O,c2 _ _ (Jj g3) G,q4⟩
 |it m cl sn =>
   simp only[leB] at g2;subst g2;obtain⟨W,k0,O,G⟩:=g4;obtain⟨km,ab⟩:=RY.1 g3;obtain⟨k1,q5,q6⟩:=hh m km ab;rw[O] at q5;cases q5;exact⟨W,km,ab,Ud q6 G⟩
 ·refine⟨E.os,E.tape,E.output,E.size,E.same,E.cell,fun x o hx hm=>E.mu x o hx (aa x o hm),?_,?_,?_,?_⟩
  ·intro b ty cs hb Y;obtain⟨⟨ac,g1⟩,g2⟩:=E.kb b ty cs hb Y;obtain⟨k',g3⟩:=K7 h2 b _ hb Y;obtain⟨k,g4,g5⟩:=hh b k' g3;rw[g1] at g4;cases g4;simp only[leB] at g5;obtain⟨cs',g6,_⟩:=g5;exact⟨⟨cs',by rw[g3,g6]⟩,g2⟩
  ·intro t ty S n Z J;obtain⟨n',g1,g2,g3⟩:=E.kt t ty S n Z J;obtain⟨k',g4⟩:=K7 h2 t _ Z J;obtain⟨k,g5,g6⟩:=hh t k' g4;rw[g1] at g5;cases g5;simp only[leB] at g6;exact⟨n',by rw[g4,g6],g2,g3⟩
  ·intro t ty S n Z J;obtain⟨n',g1,g2,g3⟩:=E.kv t ty S n Z J;obtain⟨k',g4⟩:=K7 h2 t _ Z J;obtain⟨k,g5,g6⟩:=hh t k' g4;rw[g1] at g5;cases g5;simp only[leB] at g6;exact⟨n',by rw[g4,g6],g2,g3⟩
  ·intro b k x hb Y ho;obtain⟨⟨k1,g1,g2⟩,g3⟩:=E.ko b k x hb Y ho;obtain⟨k',g4⟩:=K7 h2 b _ hb Y;obtain⟨k2,g5,g6⟩:=hh b k' g4;rw[g1] at g5;cases g5;exact⟨⟨k',g4,Ud g6 g2⟩,g3⟩
theorem IM(r:Zn φ M0 N D (look s.T) (look s.H) a w)(E:Q8 φ0 (look hc) w0 φ (look s.H) w)(h:SL P fn hc R s):∃v,(results fn a.tmps).run P w=.ok v w∧Out R φ0 (look hc) w0 M0 (.returned v) w:=by
 obtain⟨x,y,hc',Z,G,W,O,U,J⟩:=h;obtain⟨v,g1,g2⟩:=nI r Z;obtain⟨k1,Y,k3⟩:=NE r E O U;exact⟨v,g1,φ,.ret y,look hc',J,k1,Y,v,rfl,k3 _ _ W (Xc.1 _ _ _ G g2)⟩
theorem Sq(hf:P.funcs[f]?=some fn)(hb:fn.body=some c)(O:args.length≤fn.ntmps)(h:Ex P fn.ntmps none c ⟨Jz 0 args,hc⟩ (nJ P fn hc R)):Y0 P f args (look hc) R:=by
 intro φ M0 w vs U J;refine Sn hf hb O U J h ?_ ?_ ?_
 ·intro x s φ' a w' G hx r E;exact IM r E (by rcases hx with rfl|rfl<;>exact G)
 ·intro x s φ' a w' v G r E Z;obtain⟨y,hc',g1,g2,g3,g4,g5⟩:=G;obtain⟨k1,Y,W⟩:=NE r E g3 g4;exact⟨φ',.panic y,look hc',g5,k1,Y,v,rfl,W _ _ g2 (Xc.1 _ _ _ g1 Z)⟩
 ·intro i s G;exact G
def uZ:AV:=.p (.val .nilIface)
theorem Ee:∀{a b:List Nat},(a.map fun r=>({ target:=.collected r,args:=#[] }:Deferred))=(b.map fun r=>({ target:=.collected r,args:=#[] }:Deferred))→a=b
|[],[],_=>rfl
|[],_::_,h=>by cases h
|_::_,[],h=>by cases h
|x::a,y::b,h=>by
  simp only[Yy,List.cons.injEq,Deferred.mk.injEq,Target.collected.injEq,and_true] at h;rw[h.1,Ee h.2]
theorem Qb8{T:List (Nat×AV)}{st':LoopState}{pd':Option Code}{o:Obj}(hb:h b=some (.lp T nf st pd))(ab:∀c t f,w.heap[φ b]?≠some (.cells c t f))(r:ZN φ h w M0)(ho:∀(φ':Nat→Nat) (h':QN) (w':World) (M:ZK),True) :
  Q8 φ h w φ (upd h b (.lp T nf st' pd')) (w.putObj (φ b) o)∧Y4 φ h w φ (upd h b (.lp T nf st' pd')) (w.putObj (φ b) o):=by
 have hlt:=CW r hb (fun _ _ e=>by cases e);have G:∀x,x≠φ b→(w.putObj (φ b) o).heap[x]?=w.heap[x]?:=fun x hx=>World.putObj_heap_other hx
 have hne:∀c k,h c=some k→k.ob=none→¬b=c:=fun c k hc hk e=>by rw[←e,hb] at hc;cases hc;cases hk
 have U:∀c k,h c=some k→¬b=c→φ c≠φ b:=fun c k hc e h2=>e (r.inj c b (by rw[hc];simp) (by rw[hb];simp) h2).symm
 have Y:∀c ty cs,h c=some (.box ty cs)→upd h b (.lp T nf st' pd') c=some (.box ty cs):=fun c ty cs hc=>by simp[upd,hne c _ hc rfl,hc]
 have W:∀t ty S n,h t=some (.arr ty S n)→∃n',upd h b (.lp T nf st' pd') t=some (.arr ty S n')∧n≤n'∧(n'=n→AKept w (w.putObj (φ b) o) (φ t) (φ t) ty):=by
  intro t ty S n J;have e:=hne t _ J rfl;exact⟨n,by simp[upd,e,J],Kt _,fun _=>Yz (rfl) (by rw[G _ (U t _ J e)])⟩
 have O:∀t ty S es,h t=some (.vec ty S es)→∃es',upd h b (.lp T nf st' pd') t=some (.vec ty S es')∧es.length≤es'.length∧(es'.length=es.length→φ t=φ t∧∀c,w.heap[φ t]?=some (.cells c ty (0,0))→∃c',(w.putObj (φ b) o).heap[φ t]?=some (.cells c' ty (0,0))∧c'.size=c.size):=by
  intro t ty S n J;have e:=hne t _ J rfl;exact⟨n,by simp[upd,e,J],Kt _,fun _=>⟨rfl,fun c hc=>⟨c,by rw[G _ (U t _ J e)];exact hc,rfl⟩⟩⟩
 have Z:∀c k x,h c=some k→k.ob=some x→(∃k',upd h b (.lp T nf st' pd') c=some k'∧k'.ob=some x)∧φ c=φ c:=by
  intro c k x hc ho;by_cases e:b=c
  ·subst e;rw[hb] at hc;cases hc;exact⟨⟨.lp T nf st' pd',by simp[upd],ho⟩,rfl⟩
  ·exact⟨⟨k,by simp[upd,e,hc],ho⟩,rfl⟩
 refine⟨⟨rfl,rfl,rfl,by simp,?_,?_,?_,fun c ty cs _ hc=>⟨⟨cs,Y c ty cs hc⟩,rfl⟩,fun t ty S n _=>W t ty S n,fun t ty S es _=>O t ty S es,fun c k x _=>Z c k x⟩,fun c ty cs hc=>⟨⟨ty,cs,Y c ty cs hc⟩,rfl⟩,W,O,Z⟩
 ·intro x _ aa;exact G x (fun e=>aa b (by rw[hb];simp) e.symm)
 ·intro x y _ hm;have:x≠φ b:=fun e=>hm ⟨b,_,hb,e.symm,trivial⟩
  simp[World.cell?,G x this]
 ·rintro x y _ ⟨d,q,h1,h2,h3⟩;by_cases e:b=d
  ·exact⟨b,_,hb,by rw[e];exact h2,trivial⟩
  ·exact⟨d,q,by simpa [upd,e] using h1,h2,h3⟩
theorem gp{G:List (Nat×AV)}(r:Zn φ M0 N D T h a w)(hb:h b=some (.lp G nf st pd)) :
  ∃rec:Loop,w.heap[φ b]?=some (.loop rec)∧rec.state=st∧rec.pending=pd∧rec.fn=nf.fn∧rec.params=nf.ps∧rec.assign=nf.assign∧rec.body=nf.body∧rec.tmps.size=nf.N ∧
   (∀t x,look G t=some x→t<nf.N∧Qe φ h w (MM φ h M0) x (rec.tmps.getD t undef)) ∧
   ∀st' pd',Zn φ M0 N D T (upd h b (.lp G nf st' pd')) a (w.putObj (φ b) (.loop { rec with state:=st',pending:=pd' }))∧Q8 φ h w φ (upd h b (.lp G nf st' pd')) (w.putObj (φ b) (.loop { rec with state:=st',pending:=pd' })):=by
 obtain⟨tmps,d,W,J,U⟩:=r.hp.blk b _ hb;refine⟨_,W,rfl,rfl,rfl,rfl,rfl,rfl,J,U,fun st' pd'=>?_⟩;obtain⟨E,X⟩:=Qb8 (st':=st') (pd':=pd') (o:=.loop { state:=st',pending:=pd',fn:=nf.fn,tmps:=tmps,params:=nf.ps,assign:=nf.assign,body:=nf.body,defers:=d }) hb (by rw[W];simp) r.hp (fun _ _ _ _=>trivial);refine⟨r.keep E X ?_,E⟩;have hlt:=CW r.hp hb (fun _ _ e=>by cases e)
 have g:∀d,upd h b (.lp G nf st' pd') d≠none→h d≠none:=fun d O=>by
  by_cases e:b=d
  ·rw[←e,hb];simp
  ·simpa [upd,e] using O
 refine⟨fun c d hc O Z=>r.hp.inj c d (g c hc) (g d O) Z,fun c k hc=>?_,fun c hc=>r.hp.fr c (g c hc),fun x o hx=>by simpa using r.hp.lt x o hx,r.hp.gm.evol E⟩;by_cases e:b=c
 ·subst e;have:k=.lp G nf st' pd':=by simpa [upd] using hc.symm
  subst this;exact⟨tmps,d,World.putObj_heap_same hlt,J,fun t x Y=>⟨(U t x Y).1,(QH (E.keeps M0) X).1 _ _ (U t x Y).2⟩⟩
 ·have hc':h c=some k:=by simpa [upd,e] using hc
  refine Z5 (E.keeps M0) X (World.putObj_heap_other fun J=>e (r.hp.inj c b (by rw[hc'];simp) (by rw[hb];simp) J).symm) (r.hp.blk c k hc')
def psT:List Tmp→List AV→List (Nat×AV)→List (Nat×AV)|p::ps,x::xs,T=>psT ps xs ((p,x)::T)|_,_,T=>T
theorem nK{φ:Nat→Nat}{h:QN}{w:World}{M:ZK}{N:Nat}:∀(ps:List Tmp) (xs:List AV) (J:List Value) (T:List (Nat×AV)) (tmps:Array Value),(∀p∈ps,p<N)→ps.length=xs.length→Qi φ h w M xs J→tmps.size=N →
  (∀t x,look T t=some x→t<N∧Qe φ h w M x (tmps.getD t undef)) →
  ((ps.zip J).foldl (fun tmps (p:Tmp×Value)=>tmps.setIfInBounds p.1 p.2) tmps).size=N∧∀t x,look (psT ps xs T) t=some x→t<N∧Qe φ h w M x (((ps.zip J).foldl (fun tmps (p:Tmp×Value)=>tmps.setIfInBounds p.1 p.2) tmps).getD t undef)
|[],xs,J,T,tmps,_,U,Y,hs,W=>by
  have:xs=[]:=List.eq_nil_of_length_eq_zero (by simpa using U.symm);subst this;simp only[List.zip_nil_left,List.foldl_nil,psT];exact⟨hs,W⟩
|p::ps,[],J,T,tmps,_,U,Y,hs,W=>by simp at U
|p::ps,x::xs,J,T,tmps,hp,U,Y,hs,W=>by
  simp only[Qi] at Y;obtain⟨v,Z,rfl,h1,h2⟩:=Y;simp only[List.zip_cons_cons,List.foldl_cons,psT];refine nK ps xs Z _ _ (fun q hq=>hp q (by simp[hq])) (by simpa using U) h2 (by simpa using hs) ?_;intro t y G;simp only[look] at G;have O:=hp p zq;by_cases e:p=t
  ·simp only[e,if_true,QW] at G;subst G;refine⟨e▸O,?_⟩;have:(tmps.setIfInBounds p v).getD t undef=v:=by subst e;simp[hs,O]
   rw[this];exact h1
  ·simp only[e,if_false] at G;refine⟨(W t y G).1,?_⟩;have:(tmps.setIfInBounds p v).getD t undef=tmps.getD t undef:=by simp[Array.getElem?_setIfInBounds_ne e]
   rw[this];exact(W t y G).2
def DK(H:List (Nat×Blk))(b:Nat)(T:List (Nat×AV))(nf:TJ)(R:Kw→QN→Prop)(G:Bool)(st:LoopState)(pd:Option Code)(s:St):Prop :=∃hc' J O,Bz (look s.H) (look hc') hc'∧Ym (look hc') H=true∧look hc' b=some (.lp T nf J O)∧R (.ret (.p (.val (.bool G)))) (look ((b,.lp T nf st pd)::hc'))
def aF(H:List (Nat×Blk))(b:Nat)(T:List (Nat×AV))(nf:TJ)(R:Kw→QN→Prop):AX→St→Prop|.normal,s=>DK H b T nf R true .ready none s|.ret,s=>DK H b T nf R false .done (some .ret) s|.exit i,s=>DK H b T nf R false .done (some (.exit i)) s|.panic _,_=>False
theorem Qb9(r:Zn φ M0 N D (look s.T) (look s.H) a w)(E:Q8 φ0 (look hc) w0 φ (look s.H) w)(J:Bz (look s.H) (look hc') hc')(O:Ym (look hc') hc=true):Zn φ M0 N D (look []) (look hc') a w∧Q8 φ0 (look hc) w0 φ (look hc') w:=by
 obtain⟨k1,Y,_⟩:=NE r E J O;refine⟨⟨?_,r.siz,k1,fun t x W=>by cases W⟩,Y⟩;obtain⟨h0,Z,g1,g2,g3⟩:=r.dfs;refine⟨h0,Z,g1,g2,fun x G=>⟨(g3 x G).1,(g3 x G).2.1,fun b hb=>(g3 x G).2.2 b ?_⟩⟩;cases hq:look hc' b with
|none=>exact absurd hq hb
|some k'=>obtain⟨⟨k,U,_⟩,_⟩:=JX J b k' hq;rw[U];simp
theorem wY{T:List (Nat×AV)}(ad:1000≤b)(hb:look H b=some (.lp T nf .ready pd))(af:nf.ps.size=args.length)(aj:∀p∈nf.ps.toList,p<nf.N)(h:∀l,Ex P nf.N (some l) nf.assign ⟨psT nf.ps.toList args T,H⟩ (fun x s1=>x=.normal∧∃O,look s1.H b=some (.lp T nf .ready O) ∧
   Ex P nf.N (some l) nf.body ⟨s1.T,(b,.lp T nf .busy O)::s1.H⟩ (aF H b T nf R))):eU P b args (look H) R:=by
 intro φ M0 w vs hH ha;obtain⟨tmps,d,ae,al,hT⟩:=hH.blk b _ hb;have an:=ZO ha;have ac:=run_yield (P:=P) (args:=vs.toArray) ae (by simp;omega);refine⟨_,_,_,_,ac,?_⟩;refine roundIn_of_wpIn trivial ?_
 have Z:(nf.ps.zip vs.toArray).foldl (fun tmps (x:Tmp×Value)=>match x with|(t,a)=>tmps.setIfInBounds t a) tmps=(nf.ps.toList.zip vs).foldl (fun tmps (p:Tmp×Value)=>tmps.setIfInBounds p.1 p.2) tmps:=by
  rw[←Array.foldl_toList];simp
 obtain⟨p1,p2⟩:=nK (φ:=φ) (h:=look H) (w:=w) (M:=MM φ (look H) M0) (N:=nf.N) nf.ps.toList args vs T tmps aj (by simpa using af) ha al hT
 have r:Zn φ M0 nf.N ⟨[],w.heap.size⟩ (look (psT nf.ps.toList args T)) (look H) { tmps:=(nf.ps.zip vs.toArray).foldl (fun tmps (x:Tmp×Value)=>match x with|(t,a)=>tmps.setIfInBounds t a) tmps,defers:=[] } w:=by
  refine⟨⟨Kt _,[],rfl,List.nodup_nil,fun r hr=>by cases hr⟩,?_,hH,?_⟩
  ·show Array.size _=_;rw[Z];exact p1
  ·intro t x ht;show _∧Qe _ _ _ _ x (Array.getD _ t undef);rw[Z];exact p2 t x ht
 refine wpIn_mono (h (φ b) φ M0 _ _ w r) ?_;rintro e a1 w1 ⟨J,k,s1,⟨rfl,O,ai,U⟩,r1,E1,W⟩;simp only[X9] at W;subst W;have G:J b=φ b:=(E1.ko b _ _ ad hb rfl).2;obtain⟨rec,g1,g2,g3,g4,g5,g6,g7,g8,g9,g10⟩:=gp r1 ai;obtain⟨r2,E2⟩:=g10 .busy O;refine⟨_,by rw[←G];exact run_beginRound g1 g2,?_⟩;have ak:(w1.putObj (J b) (.loop { rec with state:=.busy }))=w1.putObj (J b) (.loop { rec with state:=.busy,pending:=O }):=by rw[←g3]
 rw[←G,ak];rw[←G] at U;refine wpIn_mono (U J M0 _ a1 _ r2) ?_;rintro e a3 w3 ⟨ab,k,s3,hq,r3,E3,W⟩;have aa:=(E1.trans E2).trans E3
 have fin:∀(Y:Bool) (jump:Option Code),jump.isNone=Y→DK H b T nf R Y (if jump.isNone then .ready else .done) jump s3 →
   ∃v w',(Instr.endRound (J b) jump).run P w3=.ok v w'∧∃φ' r h',R r h'∧ZN φ' h' w' M0∧Q8 φ (look H) w φ' h' w'∧eT φ' h' w' (MM φ' h' M0) r (.returned v):=by
  rintro Y jump hj ⟨hc',aq,ao,q1,q2,q3,q4⟩;obtain⟨r4,E4⟩:=Qb9 r3 aa q1 q2;obtain⟨am,f1,f2,f3,f4,f5,f6,f7,f8,f9,f10⟩:=gp r4 q3;obtain⟨r5,E5⟩:=f10 (if jump.isNone then .ready else .done) jump
  have ah:ab b=J b:=by
   have e1:ab b=φ b:=by
    have:=aa.ko b _ _ ad hb rfl;exact this.2
   rw[e1,G]
  refine⟨.bool jump.isNone,_,by rw[←ah];exact run_endRound jump f1,ab,.ret (.p (.val (.bool Y))),_,q4,r5.hp,E4.trans E5,.bool jump.isNone,rfl,by simp[Qe,QM,hj]⟩
 cases k with
|normal =>
  simp only[X9] at W;subst W;exact fin true none rfl hq
|ret =>
  simp only[X9] at W;subst W;exact fin false (some .ret) rfl hq
|exit i =>
  simp only[X9] at W;subst W;exact fin false (some (.exit i)) rfl hq
|panic x=>exact hq.elim
def aG(G:Nat)(T:List (Nat×AV))(nf:TJ)(Q:AX→St→Prop)(s:St):Prop :=
  ∃st pd,look s.H G=some (.lp T nf st pd)∧st≠.busy ∧
    (match pd with
    |none=>Q .normal ⟨s.T,(G,.lp T nf .exhausted none)::s.H⟩
    |some .ret=>Q .ret ⟨s.T,(G,.lp T nf .exhausted (some .ret))::s.H⟩
    |some (.exit i)=>Q (.exit i) ⟨s.T,(G,.lp T nf .exhausted (some (.exit i)))::s.H⟩
    |some _=>False)
theorem kX{f:Operand}{ps:Array Tmp}{assign:Code}{l m:List AV}(G:Nat)(av:1000≤G)(hf:Zo (look s.T) f=some (.fn (.func g) l m))(hok:Y6 P g=true)(hD:look s.H G=none)(hcall:∀fn,LV P N g (l++[.yv G]++m) none ⟨s.T,(G,.lp s.T ⟨N,fn,ps,assign,body⟩ .ready none)::s.H⟩ (aG G s.T ⟨N,fn,ps,assign,body⟩ Q) Q):Ex P N none (.rangeFunc f ps assign body) s Q:=by
 intro φ0 M0 D a w r0;obtain⟨r,af,aq,hC⟩:=r0.lift 2;refine wpIn_mono ?_ (fun _ _ _ p=>Post.trans af p);generalize K5 φ0 w.heap.size 2=φ at r af aq hC;refine wpIn_rangeFunc fun fn _=>?_
 have am:=r.ev hf;simp only[Qe] at am;obtain⟨l',m',ao,an,a6⟩:=am
 let W:Loop:={ state:=.ready,pending:=none,fn:=fn,tmps:=a.tmps,params:=ps,assign:=assign,body:=body,defers:=w.heap.size }
 let O:World:=w.alloc (.deferred (some []))
 let Z:World:=O.alloc (.loop W)
 have ad:O.heap=w.heap.push (.deferred (some [])):=rfl;have ay:O.heap.size=w.heap.size+1:=by rw[ad];simp
 obtain⟨Ea,Xa,Ha⟩:=UM (w:=w) (w':=O) (φ:=φ) (h:=look s.H) (M0:=M0) rfl rfl rfl zo (fun x hx=>by rw[ad,Array.getElem?_push,if_neg zo]) r.hp (fun b hb=>(hC b hb).imp (fun h=>h) (fun h=>by omega));have aj:Clear φ (look s.H) O 1:=fun b hb=>(hC b hb).imp (fun h=>by omega) (fun h=>by omega)
 have ra:Zn φ M0 N D (look s.T) (look s.H) a O:=r.keep Ea Xa Ha;have hh:Z.heap=O.heap.push (.loop W):=rfl;obtain⟨E1,X1⟩:=Xg (k:=.lp s.T ⟨N,fn,ps,assign,body⟩ .ready none) hh rfl rfl rfl hD Ha aj
 have H1:ZN (Qx φ G O.heap.size) (upd (look s.H) G (.lp s.T ⟨N,fn,ps,assign,body⟩ .ready none)) Z M0:=by
  refine Xh hh hD Ha aj E1 X1 ⟨a.tmps,w.heap.size,?_,r.siz,fun t x ht=>⟨(ra.tm t x ht).1,(QH (E1.keeps M0) X1).1 _ _ (ra.tm t x ht).2⟩⟩;rw[hh];simp[W]
 let a':Act:={ a with defers:=[{ target:=.collected w.heap.size,args:=#[] }]++a.defers }
 have r1:Zn (Qx φ G O.heap.size) M0 N D (look s.T) (look ((G,.lp s.T ⟨N,fn,ps,assign,body⟩ .ready none)::s.H)) a' Z:=by
  have ac:=ra.keep E1 X1 H1;refine⟨?_,ac.siz,H1,ac.tm⟩;obtain⟨h0,ms,g1,g2,g3⟩:=ac.dfs;obtain⟨au,aw,ah,a8,ax⟩:=r.dfs
  have az:ms=aw:=by
   rw[g1] at ah;exact Ee (List.append_cancel_right ah)
  refine⟨h0,w.heap.size::ms,by simp[a',g1],List.nodup_cons.2 ⟨fun hx=>?_,g2⟩,fun x hx=>?_⟩
  ·rw[az] at hx;have:=(Ls.1 (ax _ hx).2.1).1;omega
  ·rcases List.mem_cons.1 hx with rfl|hx
   ·refine⟨au,?_,fun b hb he=>?_⟩
    ·rw[hh,Array.getElem?_push,if_neg zo,ad];simp
    ·by_cases e:G=b
     ·simp only[Qx,e,if_true] at he;omega
     ·have ai:look s.H b≠none:=by simpa [look,e] using hb
      simp only[Qx,e,if_false] at he;obtain⟨k,hk⟩:=SH.1 ai;rcases hC b ai with h7|h7<;>omega
   ·exact g3 x hx
 have ab:Qx φ G O.heap.size G=w.heap.size+1:=by simp[Qx,ay]
 have aa:Q8 φ (look s.H) w (Qx φ G O.heap.size) (look ((G,.lp s.T ⟨N,fn,ps,assign,body⟩ .ready none)::s.H)) Z:=Ea.trans E1
 have ae:Qi (Qx φ G O.heap.size) (look ((G,.lp s.T ⟨N,fn,ps,assign,body⟩ .ready none)::s.H)) Z (MM (Qx φ G O.heap.size) (look ((G,.lp s.T ⟨N,fn,ps,assign,body⟩ .ready none)::s.H)) M0) (l++[.yv G]++m) (l'++[Value.func (.yield (w.heap.size+1)) #[] #[]]++m'):=by
  have k1:=(QH (E1.keeps M0) X1).2 _ _ ((QH (Ea.keeps M0) Xa).2 _ _ an);have k2:=(QH (E1.keeps M0) X1).2 _ _ ((QH (Ea.keeps M0) Xa).2 _ _ a6);refine Zz (Zz k1 ?_) k2;simp only[Qi,Qe];exact⟨_,[],rfl,⟨by rw[ab],_,s.T,⟨N,fn,ps,assign,body⟩,by simp[look];rfl,rfl⟩,rfl⟩
 refine⟨w.heap.size+1,_,_,{ target:=.fn (.func g) m'.toArray,args:=l'.toArray++#[Value.func (.yield (w.heap.size+1)) #[] #[]] },Z,g,(l'++[Value.func (.yield (w.heap.size+1)) #[] #[]]++m').toArray,Z,run_enterLoop_outer fn a.tmps ps assign body,?_,fun _ _=>trivial,?_,(fun h=>by cases h),?_⟩
 ·have e1:Array.map a.eval #[Operand.const (Value.func (Fn.yield (w.heap.size+1)) #[] #[])]=#[Value.func (.yield (w.heap.size+1)) #[] #[]]:=by simp[Act.eval]
  simp only[resolve,ao,Deferred.ofValue,Sem.run_pure,e1];rfl
 ·simp only[invoke];rw[Ub hok];congr 2;apply Array.ext';simp
 ·refine callsIn_wide.2 ((hcall fn _ M0 D a' Z _ r1 ae).mono ?_);intro e w3 he;cases e with
 |returned v =>
   obtain⟨J,s3,⟨st,pd,q1,q2,q3⟩,r3,E3⟩:=he;have ar:Zn J M0 N D (look s3.T) (look s3.H) a' w3:=r3
   have al:J G=w.heap.size+1:=by
    have:=(E3.ko G _ _ av (by simp[look];rfl) rfl).2;rw[this,ab]
   obtain⟨U,f1,f2,f3,f4,f5,f6,f7,f8,f9,f10⟩:=gp ar q1;obtain⟨r4,E4⟩:=f10 .exhausted pd;have a7:w3.putObj (J G) (.loop { U with state:=.exhausted })=w3.putObj (J G) (.loop { U with state:=.exhausted,pending:=pd }):=by rw[←f3]
   have ak:(Instr.endLoop (w.heap.size+1)).run P w3=.ok pd (w3.putObj (J G) (.loop { U with state:=.exhausted,pending:=pd })):=by
    rw[←al,run_endLoop f1 (by rw[f2];exact q2),a7,f3]
   have Y:=(aa.trans E3).trans E4;refine⟨pd,_,ak,?_⟩;cases pd with
  |none=>exact⟨J,.normal,⟨s3.T,(G,.lp s.T ⟨N,fn,ps,assign,body⟩ .exhausted none)::s3.H⟩,q3,r4,Y,rfl⟩
  |some c =>
    cases c with
   |ret=>exact wpIn_ret ⟨J,.ret,⟨s3.T,(G,.lp s.T ⟨N,fn,ps,assign,body⟩ .exhausted (some .ret))::s3.H⟩,q3,r4,Y,rfl⟩
   |exit i=>exact wpIn_exit ⟨J,.exit i,⟨s3.T,(G,.lp s.T ⟨N,fn,ps,assign,body⟩ .exhausted (some (.exit i)))::s3.H⟩,q3,r4,Y,rfl⟩
   |_=>exact q3.elim
 |panicked chain=>exact Post.trans aa he
 |outgrown=>exact he.elim
theorem Tm{φ:Nat→Nat}{h:QN}{w:World}{M:ZK}:∀{cs:List PV} {l:List Value},Qi φ h w M (cs.map .p) l→∀(j:Nat) (c:PV),cs[j]?=some c→∃v:Value,l[j]?=some v∧QM w M c v
|[],l,_,j,c,G=>by simp at G
|x::cs,l,J,j,c,G=>by
  simp only[Yy,Qi,Qe] at J;obtain⟨y,ys,rfl,W,O⟩:=J;cases j with
 |zero=>simp at G;subst G;exact⟨y,by simp,W⟩
 |succ j =>
   obtain⟨v,Y,U⟩:=Tm O j c (by simpa using G);exact⟨v,by simpa using Y,U⟩
structure Good(ks:List Nat)(H:List (Nat×Blk)):Prop where
 keys:H.map (·.1)=ks
 ok:∀c k,look H c=some k→okRefB (look H) k=true
theorem aH{ι:Type}(S:ι→St)(G:ι→Nat)(i0:ι)(hw:Weak N s (S i0))(round:∀i (K:St→Prop),(∀s',(∃j,G j<G i∧Weak N s' (S j))→K s')→Ex P N ro c (S i) (andThen K Q)):Ex P N ro (.loop c) s Q :=
 Lu hw (mW S G i0 fun i=>round i _ fun _ h=>h)
attribute [go_sem] Yk Y5 Jr Wn Qfm leB le Nu Kv KG
mutual
def flat:AV→Bool|.p (.val _)=>true|.agg l=>IP l|.tup l=>IP l|.ifc _ x=>flat x|_=>false
def IP:List AV→Bool|[]=>true|x::xs=>flat x&&IP xs
end
theorem zl:(∀(x:AV) (v:Value),flat x=true→Qe φ h w M x v→Qe φ' h' w' M' x v)∧(∀(xs:List AV) (l:List Value),IP xs=true→Qi φ h w M xs l→Qi φ' h' w' M' xs l):=by
 have key:∀n:Nat,(∀(x:AV),SizeOf.sizeOf x≤n→∀v,flat x=true→Qe φ h w M x v→Qe φ' h' w' M' x v)∧(∀(xs:List AV),SizeOf.sizeOf xs≤n→∀l,IP xs=true→Qi φ h w M xs l→Qi φ' h' w' M' xs l):=by
  intro n
  induction n with
 |zero =>
   refine⟨fun x J=>?_,fun es J=>?_⟩
   ·cases x<;>simp at J
   ·cases es<;>simp at J
 |succ n Z =>
   obtain⟨W,i2⟩:=Z;refine⟨fun x J v hf G=>?_,fun xs J l hf G=>?_⟩
   ·cases x with
   |p x=>cases x with
    |val u=>simp only[Qe,QM] at G ⊢;exact G
    |sl S es=>simp[flat] at hf
   |agg l=>simp only[flat,Qe] at hf G ⊢;obtain⟨m,U,O⟩:=G;exact⟨m,U,i2 l (by simp at J;omega) m hf O⟩
   |tup l=>simp only[flat,Qe] at hf G ⊢;obtain⟨m,U,O⟩:=G;exact⟨m,U,i2 l (by simp at J;omega) m hf O⟩
   |ifc t x=>simp only[flat,Qe] at hf G ⊢;obtain⟨y,U,O⟩:=G;exact⟨y,U,W x (by simp at J;omega) y hf O⟩
   |_=>simp[flat] at hf
   ·cases xs with
   |nil=>simpa [Qi] using G
   |cons x xs =>
     simp only[IP,ZG,Qi] at hf G ⊢;simp at J;obtain⟨y,ys,U,O,Y⟩:=G;exact⟨y,ys,U,W x zo y hf.1 O,i2 xs zo ys hf.2 Y⟩
 exact⟨fun x v=>(key (SizeOf.sizeOf x)).1 x (Kt _) v,fun xs l=>(key (SizeOf.sizeOf xs)).2 xs (Kt _) l⟩
def leR(H:QN)(x y:AV):Prop :=le x y∨∃(b off:Nat) (ty:TypeId) (l:List AV) (cs:List PV),x=.ptr b off∧y=.eptr (cs.drop off)∧H b=some (.box ty l)∧Nu l (cs.map .p)∧UH (cs.map .p)=true
def gq(H:QN):List AV→List AV→Prop|[],ys=>ys=[]|x::xs,ys=>∃z G,ys=z::G∧leR H x z∧gq H xs G
def roK(K:St→Prop)(Q:AX→St→Prop)(s:St)(dst:Option Tmp):Kw→Prop|.ret x=>flat x=true∧K (s.put dst x)|.panic x=>flat x=true∧Q (.panic x) s
theorem kY{X:Kw}(hc:Za P f args' X)(ad:gq (look s.H) args args')(hn:Y5 args'=true)(hd:∀t,dst=some t→t<N)(O:roK K Q s dst X):LV P N f args dst s K Q:=by
 intro φ M0 D a w U r ha
 let Y:ZK:=fun x o=>MB φ (look s.H) w M0 x o∧¬∃b ty l,look s.H b=some (.box ty l)∧φ b=x
 have hH:ZN φ Lj w Y:=Hr (fun x o hm=>wH hm.1) r.hp.gm.w (fun g hg o h=>r.hp.gm.m g hg o h.1.1);have hM:∀r o v,w.cell? ⟨r,o,none⟩=some v→¬MM φ (look s.H) M0 r o→w.cell? ⟨r,o,none⟩=some v∧¬MM φ Lj Y r o:=fun r o v G J=>⟨G,fun Z=>Z.elim WM (fun h4=>J h4.1.1)⟩
 have hP:=(Z4 (w:=w) (w':=w) (M:=MM φ (look s.H) M0) (M':=MM φ Lj Y) hM)
 have conv:∀(xs ys:List AV) (U:List Value),gq (look s.H) xs ys→Y5 ys=true→Qi φ (look s.H) w (MM φ (look s.H) M0) xs U→Qi φ Lj w (MM φ Lj Y) ys U:=by
  intro xs
  induction xs with
 |nil=>intro ys U G _ J;simp only[gq] at G;subst G;simpa [Qi] using J
 |cons x xs ih =>
   intro ys U G h0 J;simp only[gq] at G;obtain⟨z,zs,rfl,Z,h4⟩:=G;simp only[Y5,ZG] at h0;simp only[Qi] at J ⊢;obtain⟨v,aa,rfl,h5,h6⟩:=J;refine⟨v,aa,rfl,?_,ih zs aa h4 h0.2 h6⟩;rcases Z with Z|⟨b,off,ty,l,cs,rfl,rfl,hb,hl,G⟩
   ·exact(Ji hM).1 _ _ h0.1 (Xc.1 _ _ _ Z h5)
   ·simp only[Qe] at h5 ⊢;obtain⟨rfl,_⟩:=h5;refine⟨φ b,off,rfl,?_⟩;obtain⟨c0,ab,ac⟩:=r.hp.blk b _ hb;have W:=Xc.2 _ _ _ hl ac;rw[GY];intro j c hj;rw[List.getElem?_drop] at hj;obtain⟨u,g1,g2⟩:=Tm W (off+j) c hj;refine⟨u,?_,?_,R5 G W u (List.mem_of_getElem? g1),hP.1 _ _ g2⟩
    ·rw[Kh ab];simpa using g1
    ·rintro(h7|h7)
     ·exact WM h7
     ·exact h7.2 ⟨b,ty,l,hb,rfl⟩
 refine(hc φ Y w U hH (conv _ _ _ ad hn ha)).mono ?_;rintro e w' ⟨φ',r',h',⟨rfl,rfl⟩,ae,E,he⟩;obtain⟨r,E1,X1,hC⟩:=r.lift (w'.heap.size-w.heap.size);obtain⟨E2,X2,H2⟩:=UM E.os E.tape E.output E.size (fun x O=>E.same x O (fun b hb=>absurd rfl hb)) r.hp hC;have r2:Zn _ M0 N D (look s.T) (look s.H) a w':=r.keep E2 X2 H2;cases r' with
|ret x =>
  obtain⟨v,rfl,hv⟩:=he;exact⟨_,s.put dst x,O.2,r2.put hd (zl.1 _ _ O.1 hv),by cases dst<;>exact E1.trans E2⟩
|panic x =>
  obtain⟨v,rfl,hv⟩:=he;exact⟨_,.panic x,s,O.2,r2,E1.trans E2,v,rfl,zl.1 _ _ O.1 hv⟩
theorem Qca{H:QN}{l:List AV}{cs ds:List PV}(hb:H b=some (.box ty l))(J:Nu l (cs.map .p))(G:UH (cs.map .p)=true)(O:ds=cs.drop off):leR H (.ptr b off) (.eptr ds) :=
 .inr ⟨b,off,ty,l,cs,rfl,by rw[O],hb,J,G⟩
theorem Qcb{op:Op}{rest:List Oper}{acc:List YA}{s0:St}{x:AV}(hc:Za P f args' (.ret x))(hcall:Ki (look s.T) op=some (f,args))(hb:Y6 P f=true)(J:KD N o.dst=true)(G:Nu args args')(O:Y5 args'=true)(U:Yk x=true)(h:K (s.put o.dst x)):uW P N ops Q o op rest acc s0 s K :=
 .inl ⟨f,args,args',x,hcall,hb,J,G,O,U,hc,h⟩
attribute [go_sem] flat IP
mutual
def IQ(t S:Nat)(es:List (List PV)):AV→AV|.vsl J G n=>if G=t then .p (.sl S es) else .vsl J G n|.agg l=>.agg (NF t S es l)|.tup l=>.tup (NF t S es l)|.fn f l m=>.fn f (NF t S es l) (NF t S es m)|.ifc ty x=>.ifc ty (IQ t S es x)|x=>x
def NF(t S:Nat)(es:List (List PV)):List AV→List AV|[]=>[]|x::xs=>IQ t S es x::NF t S es xs
end
mutual
def aI(t:Nat):AV→Option (List Nat)
|.vsl _ G n=>if G=t then some [n] else some []
|.vptr G _ _ _=>if G=t then none else some []
|.agg l=>SN t l
|.tup l=>SN t l
|.fn _ l m=>match SN t l,SN t m with|some a,some b=>some (a++b)|_,_=>none
|.ifc _ x=>aI t x
|_=>some []
def SN(t:Nat):List AV→Option (List Nat)
|[]=>some []
|x::xs=>match aI t x,SN t xs with|some a,some b=>some (a++b)|_,_=>none
end
def Qcc(t S:Nat)(es:List (List PV)):Blk→Blk|.box ty l=>.box ty (NF t S es l)|k=>k
def Qhr(t:Nat):Blk→Option (List Nat)|.box _ l=>SN t l|_=>some []
def Ef(t S:Nat)(es:List (List PV)):List (Nat×Blk)→List (Nat×Blk)|[]=>[]|(c,k)::l=>if c=t then Ef t S es l else(c,Qcc t S es k)::Ef t S es l
def Qcd(t:Nat):List (Nat×Blk)→Option (List Nat)
|[]=>some []
|(c,k)::l=>match Qhr t k,Qcd t l with|some a,some b=>some (a++b)|_,_=>none
def Qhs(t:Nat)(s:St):Option (List Nat):=match SN t (s.T.map (·.2)),Qcd t s.H with|some a,some b=>some (a++b)|_,_=>none
theorem XV(t S:Nat)(es:List (List PV)):∀(H:List (Nat×Blk)) (c:Nat),look (Ef t S es H) c=if c=t then none else(look H c).map (Qcc t S es)
|[],c=>by simp[Ef,look]
|(d,k)::H,c=>by
  simp only[Ef];by_cases e:d=t
  ·simp only[e,if_true,XV t S es H c,look];by_cases G:c=t
   ·simp[G]
   ·have:¬t=c:=fun h=>G h.symm
    simp[G,this]
  ·simp only[e,if_false,look,XV t S es H c];by_cases G:d=c
   ·subst G;simp[e]
   ·simp[G]
theorem zm(t S:Nat)(es:List (List PV)):∀(T:List (Nat×AV)) (x:Nat),look (T.map fun p=>(p.1,IQ t S es p.2)) x=(look T x).map (IQ t S es)
|[],x=>rfl
|(k,v)::T,x=>by
  simp only[Yy,look];by_cases e:k=x
  ·simp[e]
  ·simp only[e,if_false];exact zm t S es T x
theorem aJ(t S:Nat)(es:List (List PV))(n0:Nat)(hM:∀r o,M' r o→M r o)(hh:∀c k,c≠t→h c=some k→h' c=some (Qcc t S es k))(hb:∃ty,h t=some (.vec ty S es))(ab:∀v,(∃cap c ty,v=.slice (some ⟨φ t,0,none⟩) es.length cap∧w.heap[φ t]?=some (.cells c ty (0,0))∧es.length≤cap)→QM w M' (.sl S es) v)(Y:∀c k,h c=some k→k.ob=none∨∃es,k=.mp es) :
  (∀(x:AV) (v:Value) (L:List Nat),aI t x=some L→(∀n∈L,n=es.length)→Qe φ h w M x v→Qe φ h' w M' (IQ t S es x) v)∧(∀(xs:List AV) (l:List Value) (L:List Nat),SN t xs=some L→(∀n∈L,n=es.length)→Qi φ h w M xs l→Qi φ h' w M' (NF t S es xs) l):=by
 obtain⟨kp,ke,kc⟩:=Z4 (w:=w) (w':=w) (M:=M) (M':=M') (fun r o v O G=>⟨O,fun U=>G (hM r o U)⟩);obtain⟨vP,hb⟩:=hb
 have key:∀n:Nat,(∀(x:AV),SizeOf.sizeOf x≤n→∀v L,aI t x=some L→(∀n∈L,n=es.length)→Qe φ h w M x v→Qe φ h' w M' (IQ t S es x) v)∧(∀(xs:List AV),SizeOf.sizeOf xs≤n→∀l L,SN t xs=some L→(∀n∈L,n=es.length)→Qi φ h w M xs l→Qi φ h' w M' (NF t S es xs) l):=by
  intro n
  induction n with
 |zero =>
   refine⟨fun x Z=>?_,fun es Z=>?_⟩
   ·cases x<;>simp at Z
   ·cases es<;>simp at Z
 |succ n ih =>
   obtain⟨i1,i2⟩:=ih;refine⟨fun x Z v L W hn J=>?_,fun xs Z l L W hn J=>?_⟩
   ·cases x with
   |p x=>simp only[IQ,Qe] at J ⊢;exact kp x v J
   |tsl S' es' t' =>
     simp only[IQ,Qe] at J ⊢;obtain⟨O,ty,m,G,U⟩:=J;have hne:t'≠t:=fun e=>by rw[e,hb] at G;cases G
     exact⟨kp _ _ O,ty,m,by rw[hh t' _ hne G];rfl,U⟩
   |ptr c off =>
     simp only[IQ,Qe] at J ⊢;obtain⟨O,ty,l,G⟩:=J;have hne:c≠t:=fun e=>by rw[e,hb] at G;cases G
     exact⟨O,ty,NF t S es l,by rw[hh c _ hne G];rfl⟩
   |bsl c off =>
     simp only[IQ,Qe] at J ⊢;obtain⟨O,ty,l,G⟩:=J;have hne:c≠t:=fun e=>by rw[e,hb] at G;cases G
     exact⟨O,ty,NF t S es l,by rw[hh c _ hne G];rfl⟩
   |sfp c =>
     simp only[IQ,Qe] at J ⊢;obtain⟨O,ty,l,G⟩:=J;have hne:c≠t:=fun e=>by rw[e,hb] at G;cases G
     exact⟨O,ty,NF t S es l,by rw[hh c _ hne G];rfl⟩
   |vnil=>simp only[IQ,Qe] at J ⊢;exact J
   |vsl S' t' m =>
     by_cases e:t'=t
     ·subst e;simp only[aI,if_true,QW] at W;subst W;have hm:=hn m zq;simp only[IQ,if_true,Qe] at J ⊢;obtain⟨O,ty,es',G,U,h4⟩:=J;rw[hb] at G;cases G;obtain⟨cap,c,g1,g2,g3,g4,g5⟩:=h4 hm;exact ab v ⟨cap,c,_,by rw[←hm];exact g1,g2,by rw[←hm];exact g4⟩
     ·simp only[IQ,e,if_false,Qe] at J ⊢;obtain⟨O,ty,m',G,U⟩:=J;exact⟨O,ty,m',by rw[hh t' _ e G];rfl,U⟩
   |vptr t' m k f =>
     by_cases e:t'=t
     ·simp[aI,e] at W
     ·simp only[IQ,Qe] at J ⊢;obtain⟨O,ty,S',m',G,U⟩:=J;exact⟨O,ty,S',m',by rw[hh t' _ e G];rfl,U⟩
   |eptr l =>
     simp only[IQ,Qe] at J ⊢;obtain⟨r,o,O,G⟩:=J;exact⟨r,o,O,kc l r o G⟩
   |yv c =>
     simp only[Qe] at J;obtain⟨_,k,T,nf,G,U⟩:=J;rcases Y c k G with h4|⟨_,rfl⟩
     ·rw[h4] at U;cases U
     ·cases U
   |mv c =>
     simp only[IQ,Qe] at J ⊢;obtain⟨O,k,G,U⟩:=J;rcases Y c k G with h4|⟨es',rfl⟩
     ·rw[h4] at U;cases U
     ·have hne:c≠t:=fun e=>by rw[e,hb] at G;cases G
      exact⟨O,.mp es',by rw[hh c _ hne G];rfl,rfl⟩
   |iv c =>
     simp only[IQ,Qe] at J ⊢;obtain⟨O,k,G,U⟩:=J;rcases Y c k G with h4|⟨es',rfl⟩
     ·rw[h4] at U;cases U
     ·have hne:c≠t:=fun e=>by rw[e,hb] at G;cases G
      exact⟨O,.mp es',by rw[hh c _ hne G];rfl,rfl⟩
   |agg l =>
     simp only[IQ,aI,Qe] at J W ⊢;obtain⟨m,O,G⟩:=J;exact⟨m,O,i2 l (by simp at Z;omega) m L W hn G⟩
   |tup l =>
     simp only[IQ,aI,Qe] at J W ⊢;obtain⟨m,O,G⟩:=J;exact⟨m,O,i2 l (by simp at Z;omega) m L W hn G⟩
   |fn f p q =>
     simp only[IQ,aI,Qe] at J W ⊢;obtain⟨l,m,O,G,U⟩:=J;simp at Z;split at W
     ·rename_i La Lb ha aa;simp only[QW] at W;subst W;exact⟨l,m,O,i2 p zo l La ha (fun n h=>hn n (by simp[h])) G,i2 q zo m Lb aa (fun n h=>hn n (by simp[h])) U⟩
     ·cases W
   |ifc ty x =>
     simp only[IQ,aI,Qe] at J W ⊢;obtain⟨y,O,G⟩:=J;exact⟨y,O,i1 x (by simp at Z;omega) y L W hn G⟩
   ·cases xs with
   |nil=>simpa [NF,Qi] using J
   |cons x xs =>
     simp only[NF,SN,Qi] at J W ⊢;simp at Z;obtain⟨y,ys,O,G,U⟩:=J;split at W
     ·rename_i La Lb ha aa;simp only[QW] at W;subst W;exact⟨y,ys,O,i1 x zo y La ha (fun n h=>hn n (by simp[h])) G,i2 xs zo ys Lb aa (fun n h=>hn n (by simp[h])) U⟩
     ·cases W
 exact⟨fun x v=>(key (SizeOf.sizeOf x)).1 x (Kt _) v,fun xs l=>(key (SizeOf.sizeOf xs)).2 xs (Kt _) l⟩
theorem zn{t:Nat}:∀{T:List (Nat×AV)} {L:List Nat} {x:Nat} {v:AV},SN t (T.map (·.2))=some L→look T x=some v→∃J,aI t v=some J∧∀n∈J,n∈L
|[],L,x,v,_,h=>by simp[look] at h
|(k,y)::T,L,x,v,G,h=>by
  simp only[Yy,SN] at G;split at G
  ·rename_i Y Lb W hb;simp only[QW] at G;subst G;simp only[look] at h;by_cases e:k=x
   ·simp only[e,if_true,QW] at h;subst h;exact⟨Y,W,fun n O=>by simp[O]⟩
   ·simp only[e,if_false] at h;obtain⟨J,Z,U⟩:=zn hb h;exact⟨J,Z,fun n O=>by simp[U n O]⟩
  ·cases G
theorem zt{t:Nat}:∀{H:List (Nat×Blk)} {L:List Nat} {c:Nat} {k:Blk},Qcd t H=some L→look H c=some k→∃J,Qhr t k=some J∧∀n∈J,n∈L
|[],L,x,v,_,h=>by simp[look] at h
|(b,y)::H,L,c,k,G,h=>by
  simp only[Qcd] at G;split at G
  ·rename_i Y Lb W hb;simp only[QW] at G;subst G;simp only[look] at h;by_cases e:b=c
   ·simp only[e,if_true,QW] at h;subst h;exact⟨Y,W,fun n O=>by simp[O]⟩
   ·simp only[e,if_false] at h;obtain⟨J,Z,U⟩:=zt hb h;exact⟨J,Z,fun n O=>by simp[U n O]⟩
  ·cases G
def nL:List (Nat×Blk)→Bool
|[]=>true
|(_,k)::l=>(match k with|.mp _=>true|k=>k.ob.isNone)&&nL l
theorem XI:∀{H:List (Nat×Blk)},nL H=true→∀c k,look H c=some k→k.ob=none∨∃es,k=.mp es
|[],_,c,k,h=>by cases h
|(b,q)::H,G,c,k,h=>by
  simp only[nL,ZG] at G;simp only[look] at h;split at h
  ·cases h;have:=G.1;split at this
   ·exact .inr ⟨_,rfl⟩
   ·exact .inl (by simpa using this)
  ·exact XI G.2 c k h
theorem aK(t:Nat)(ty:TypeId)(S:Nat)(es:List (List PV))(L:List Nat)(hb:look s.H t=some (.vec ty S es))(hL:Qhs t s=some L)(hn:∀n∈L,n=es.length)(hlt:Nat.blt t 1000=true)(W:nL s.H=true) :
  Weak N s ⟨s.T.map fun p=>(p.1,IQ t S es p.2),Ef t S es s.H⟩:=by
 have al:t<1000:=by simpa [Nat.blt_eq] using hlt
 unfold Qhs at hL;split at hL;rotate_left
 ·cases hL
 rename_i L1 L2 ac af;simp only[QW] at hL;subst hL;intro φ M0 D a w r;refine⟨φ,?_⟩
 have J:∀c k',look (Ef t S es s.H) c=some k'→c≠t∧∃k,look s.H c=some k∧k'=Qcc t S es k:=by
  intro c k' hc;rw[XV] at hc;by_cases e:c=t
  ·simp[e] at hc
  ·simp only[e,if_false] at hc;cases hk:look s.H c with
  |none=>rw[hk] at hc;cases hc
  |some k=>rw[hk] at hc;cases hc;exact⟨e,k,rfl,rfl⟩
 have Y:∀x o,TK φ (look (Ef t S es s.H)) x o→TK φ (look s.H) x o∧x≠φ t:=by
  rintro x o ⟨c,k',g1,g2,g3⟩;obtain⟨e,k,g4,rfl⟩:=J c k' g1;refine⟨⟨c,k,g4,g2,by cases k<;>exact g3⟩,fun hx=>e ?_⟩;exact r.hp.inj c t (by rw[g4];simp) (by rw[hb];simp) (by rw[g2,hx])
 have hM:∀x o,MM φ (look (Ef t S es s.H)) M0 x o→MM φ (look s.H) M0 x o:=fun x o hx=>hx.elim (fun h=>.inl (Y x o h).1) .inr
 have ai:∀o,¬MM φ (look (Ef t S es s.H)) M0 (φ t) o:=by
  rintro o (hx|hx)
  ·exact(Y _ _ hx).2 rfl
  ·exact r.hp.fr t (by rw[hb];simp) o hx
 obtain⟨c0,am,ad,ao,aq,an,hS,h1,ah⟩:=r.hp.blk t _ hb
 have ae:∀v,(∃cap c ty,v=.slice (some ⟨φ t,0,none⟩) es.length cap∧w.heap[φ t]?=some (.cells c ty (0,0))∧es.length≤cap)→QM w (MM φ (look (Ef t S es s.H)) M0) (.sl S es) v:=by
  rintro v ⟨cap,c,U,rfl,hc,ab⟩;simp only[QM];refine .inl ⟨φ t,0,cap,rfl,ab,?_⟩;rw[KO];refine⟨hS,?_⟩;rw[GY];intro j q hj;obtain⟨u,g1,g2⟩:=Tm ah j q hj
  have g3:c0.toList[j]?=some u:=by
   rw[List.getElem?_take] at g1;split at g1
   ·exact g1
   ·cases g1
  refine⟨u,?_,ai _,h1 u (List.mem_of_getElem? g3),(Z4 (w:=w) (w':=w) (fun r o v h1 h2=>⟨h1,fun h3=>h2 (hM r o h3)⟩)).1 _ _ g2⟩;rw[Kh ad];simpa using g3
 obtain⟨k1,k2⟩:=aJ (φ:=φ) (h:=look s.H) (h':=look (Ef t S es s.H)) (w:=w) (M:=MM φ (look s.H) M0) t S es es.length hM
  (fun c k hne hk=>by rw[XV,if_neg hne,hk];rfl) ⟨ty,hb⟩ ae (XI W)
 have E:Q8 φ (look s.H) w φ (look (Ef t S es s.H)) w:=by
  refine⟨rfl,rfl,rfl,Kt _,fun _ _ _=>rfl,fun _ _ _ _=>rfl,fun x o _ hx=>(Y x o hx).1,?_,?_,?_,?_⟩
  ·intro c U l hc G;have hne:c≠t:=by omega
   exact⟨⟨NF t S es l,by rw[XV,if_neg hne,G];rfl⟩,rfl⟩
  ·intro c U S' n hc G;have hne:c≠t:=by omega
   exact⟨n,by rw[XV,if_neg hne,G];rfl,Kt _,fun _=>Yz (rfl) rfl⟩
  ·intro c U S' n hc G;have hne:c≠t:=by omega
   exact⟨n,by rw[XV,if_neg hne,G];rfl,Kt _,fun _=>⟨rfl,fun c hc=>⟨c,hc,rfl⟩⟩⟩
  ·intro c k x hc G ho;rcases XI W c k G with O|⟨es',rfl⟩
   ·rw[O] at ho;cases ho
   ·have hne:c≠t:=by omega
    exact⟨⟨.mp es',by rw[XV,if_neg hne,G];rfl,ho⟩,rfl⟩
 refine⟨⟨r.dfs.keep E,r.siz,⟨?_,?_,?_,r.hp.lt,r.hp.gm.evol E⟩,?_⟩,E⟩
 ·intro c d hc hd he;obtain⟨kc,aa⟩:=SH.1 hc;obtain⟨kd,ak⟩:=SH.1 hd;obtain⟨_,k1,Z,_⟩:=J c kc aa;obtain⟨_,k2,e2,_⟩:=J d kd ak;exact r.hp.inj c d (by rw[Z];simp) (by rw[e2];simp) he
 ·intro c k' aj;obtain⟨_,k,Z,rfl⟩:=J c k' aj;have:=r.hp.blk c k Z;cases k with
 |box U l =>
   obtain⟨c1,q1,q2⟩:=this;obtain⟨L',g1,g2⟩:=zt af Z;exact⟨c1,q1,k2 _ _ L' g1 (fun n h=>hn n (by simp[g2 n h])) q2⟩
 |arr U S n=>exact this
 |vec U S es=>obtain⟨c1,cap,q1,q2,q3,q4,q5,q6,q7⟩:=this;exact⟨c1,cap,q1,q2,q3,q4,q5,q6,ND hM _ _ q7⟩
 |lp T nf st pd=>rcases XI W c _ Z with O|⟨_,O⟩<;>cases O
 |mp es =>
   obtain⟨en,cl,q1,q2,q3⟩:=this;have e:es.map (fun p=>AV.p p.2)=(es.map (·.2)).map .p:=by simp
   refine⟨en,cl,q1,q2,?_⟩;rw[e] at q3 ⊢;exact ND hM _ _ q3
 |mf es=>rcases XI W c _ Z with O|⟨_,O⟩<;>cases O
 |mg en cl es=>rcases XI W c _ Z with O|⟨_,O⟩<;>cases O
 |it m cl sn=>rcases XI W c _ Z with O|⟨_,O⟩<;>cases O
 ·intro c hc o hm;obtain⟨kc,aa⟩:=SH.1 hc;obtain⟨_,k1,Z,_⟩:=J c kc aa;exact r.hp.fr c (by rw[Z];simp) o hm
 ·intro x y hy;rw[zm] at hy;cases hq:look s.T x with
 |none=>rw[hq] at hy;cases hy
 |some z =>
   rw[hq] at hy;cases hy;obtain⟨L',g1,g2⟩:=zn ac hq;exact⟨(r.tm x z hq).1,k1 _ _ L' g1 (fun n h=>hn n (by simp[g2 n h])) (r.tm x z hq).2⟩
theorem IR{P:Program}{cs:List Frame}:∀(O:List Nat) (fr:Frame) (w:World),fr.mode≠.run→O.Nodup→(∀r∈O,w.heap[r]?=some (.deferred (some []))) →
  fr.defers=(O.map fun r=>({ target:=.collected r,args:=#[] }:Deferred))→∃w',Gj O w w'∧Steps P (lone fr cs w) (lone { fr with defers:=[] } cs w')
|[],fr,w,_,_,_,U=>by
  refine⟨w,⟨rfl,rfl,rfl,rfl,fun _ _=>rfl,fun k G=>by cases G⟩,?_⟩;have:{ fr with defers:=[] }=fr:=by cases fr;simp only at U;subst U;rfl
  rw[this];exact Steps.refl _ _
|r::O,fr,w,Y,W,hb,U=>by
  have h0:=hb r zq;have hlt:r<w.heap.size:=(Ls.1 h0).1;have J:∀k:Nat,(w.putObj r (.deferred none)).heap[k]?=(w.heap.setIfInBounds r (.deferred none))[k]?:=fun k=>rfl
  have Z:=step_collected (cs:=cs) Y U rfl (run_takeDeferred (P:=P) h0)
  obtain⟨w',t,hs⟩:=IR (P:=P) (cs:=cs) O { fr with defers:=[]++(O.map fun r=>({ target:=.collected r,args:=#[] }:Deferred)) } (w.putObj r (.deferred none)) Y (List.nodup_cons.1 W).2 (fun k G=>by
   have:r≠k:=fun e=>(List.nodup_cons.1 W).1 (e▸G)
   rw[J,Array.getElem?_setIfInBounds_ne this];exact hb k (by simp[G])) rfl
  refine⟨w',⟨t.os,t.tape,t.output,by rw[t.size];simp[World.putObj],fun k G=>?_,fun k G=>?_⟩,.head Z hs⟩
  ·simp only[List.mem_cons,not_or] at G;rw[t.same k G.2,J,Array.getElem?_setIfInBounds_ne (Ne.symm G.1)]
  ·rcases List.mem_cons.1 G with e|e
   ·subst e;rw[t.same k (List.nodup_cons.1 W).1,J];simp[hlt]
   ·exact t.turn k e
theorem kZ{args:Array Value}{u:FrameMode}{R:Ending→FrameMode→World→Prop}(hf:P.funcs[f]?=some fn)(hb:fn.body=some c)(h:∀(G:Frame) (cs:List Frame),G.mode=u→c.wpS P (fun e a cs' w'=>(e=.normal∨e=.ret)∧∃U W,a.defers=(U.map fun r=>({ target:=.collected r,args:=#[] }:Deferred))∧U.Nodup∧(∀r∈U,w'.heap[r]?=some (.deferred (some []))) ∧
   cs'={ G with mode:=W }::cs∧∀w'',Gj U w' w''→∃v,(results fn a.tmps).run P w''=.ok v w''∧R (.returned v) W w'') { tmps:=args++Array.replicate (fn.ntmps-args.size) undef,defers:=[] } (G::cs) w):CallsD P f args u w R:=by
 intro G cs hu
 let b:Frame:={ (default:Frame) with fn:=f,kind:=.deferred }
 have O:Frame.enter P f args .deferred=b.at { tmps:=args++Array.replicate (fn.ntmps-args.size) undef,defers:=[] } [.code c]:=by
  simp[Frame.enter,Frame.at,hf,hb,b]
 obtain⟨e,a',cs',w',⟨he,U,W,hd,hn,aa,rfl,hq⟩,J⟩:=h G cs hu b [] rfl rfl;rw[←O] at J
 have fin:∀todo,Steps P (lone (Frame.enter P f args .deferred) (G::cs) w) (lone { b.at a' todo with mode:=.returning } ({ G with mode:=W }::cs) w') →
   ∃e Y w'' fr,R e Y w''∧Comes P (lone (Frame.enter P f args .deferred) (G::cs) w) (lone fr ({ G with mode:=Y }::cs) w'') e∧fr.kind=.deferred∧fr.going P w'' e:=by
  intro todo hs;obtain⟨w'',t,Z⟩:=IR (P:=P) (cs:={ G with mode:=W }::cs) U { b.at a' todo with mode:=.returning } w' zq hn aa hd;obtain⟨v,hr,hR⟩:=hq w'' t;exact⟨.returned v,W,w'',_,hR,Steps.trans hs Z,rfl,rfl,rfl,fn,hf,hr⟩
 rcases he with rfl|rfl
 ·exact fin [] (Steps.trans J (.one step_end))
 ·obtain⟨todo,hs⟩:=J;exact fin todo hs
structure KP(P:Program)(g:FuncId) where
 fn:Func
 id:Nat
 o1:Oper
 o2:Oper
 d1:Tmp
 d2:Tmp
 ts:Array TypeId
 rest:Code
 hf:P.funcs[g]?=some fn
 hb:fn.body=some (.seq (.region id #[o1,o2] false) rest)
 hop1:o1.op=.call ⟨.builtin .recover,#[],ts⟩
 hop2:o2.op=.assign (.tmp d1)
 hg1:o1.guard=none
 hg2:o2.guard=none
 hd1:o1.dst=some d1
 hd2:o2.dst=some d2
 hlt1:d1<fn.ntmps
 hlt2:d2<fn.ntmps
def Qep(u J:FrameMode)(v:Value):Prop:=∀(G:Frame) (cs:List Frame),G.mode=u→(recoverD (G::cs)=some (v,{ G with mode:=J }::cs))∨(recoverD (G::cs)=none∧v=.nilIface∧J=u)
def CD(P:Program)(g:FuncId)(U:Array Value)(w:World)(R:Ending→World→Prop):Prop:=∀u O v J,U=(v::J).toArray→Qep u O v→CallsD P g J.toArray u w fun e G w'=>G=O∧R e w'
def Qeq(P:Program)(fn:Func)(hc:List (Nat×Blk))(R:Kw→QN→Prop):AX→St→Prop|.panic _,_=>False|x,s=>nJ P fn hc R x s
theorem nM{T:List (Nat×AV)}{d:Tmp}{x:AV}(r:Zn φ M0 N D (look T) h a w)(J:d<N)(O:Qe φ h w (MM φ h M0) x v):Zn φ M0 N D (look ((d,x)::T)) h (a.put (some d) v) w:=by
 refine⟨r.dfs,by simp[Act.put,r.siz],r.hp,fun t y G=>?_⟩;simp only[look] at G;by_cases e:d=t
 ·simp only[e,if_true,QW] at G;subst G;subst e;refine⟨J,?_⟩;have h0:d<a.tmps.size:=by rw[r.siz];exact J
  have:(a.put (some d) v).tmps.getD d undef=v:=by simp[Act.put,h0]
  rw[this];exact O
 ·simp only[e,if_false] at G;obtain⟨g1,g2⟩:=r.tm t y G;refine⟨g1,?_⟩;have:(a.put (some d) v).tmps.getD t undef=a.tmps.getD t undef:=by simp[Act.put,Array.getElem?_setIfInBounds_ne e]
  rw[this];exact g2
theorem wZ(C:KP P g){rv:AV}{caps:List AV}(hl:caps.length≤C.fn.ntmps)(h:Ex P C.fn.ntmps none C.rest ⟨(C.d2,rv)::(C.d1,rv)::Jz 0 caps,hc⟩ (Qeq P C.fn hc R)) :
  ∀φ M0 w vs,ZN φ (look hc) w M0→Qi φ (look hc) w (MM φ (look hc) M0) (rv::caps) vs→CD P g vs.toArray w (Out R φ (look hc) w M0):=by
 intro φ M0 w vs hH ha u u' v vl aq ah;simp only[Qi] at ha;obtain⟨y,ys,rfl,ae,hcaps⟩:=ha
 have ad:y=v∧ys=vl:=by
  have:=congrArg Array.toList aq;simpa using this
 obtain⟨rfl,rfl⟩:=ad;refine kZ C.hf C.hb fun c0 cs hm=>wpS_seq (wpS_region ?_)
 have Y:List.range (#[C.o1,C.o2]:Array Oper).size=[0,1]:=rfl;rw[Y];have af:∀y,Region.wanted C.o1 y=true:=fun y=>by simp[Region.wanted,C.hg1]
 have an:∀y,Region.wanted C.o2 y=true:=fun y=>by simp[Region.wanted,C.hg2]
 have W:∀(a:Act) (w:World),(execOp a.eval C.o1).run P w=.ok .recover w:=fun a w=>by simp[execOp,C.hop1,resolve,invoke,builtin]
 have r0:=Ec hH hcaps hl;generalize ar:({ tmps:=ys.toArray++Array.replicate (C.fn.ntmps-ys.toArray.size) undef,defers:=[] }:Act)=a0 at r0;have r1:=nM (d:=C.d1) r0 C.hlt1 ae
 have ac:(a0.put C.o1.dst y).eval (.tmp C.d1)=y:=by
  have h0:C.d1<a0.tmps.size:=by rw[r0.siz];exact C.hlt1
  simp[Act.put,C.hd1,Act.eval,h0]
 have r2:=nM (d:=C.d2) r1 C.hlt2 ae
 have rest:∀(U:List Frame),U={ c0 with mode:=u' }::cs→wpOpsS P #[C.o1,C.o2] (Exit.thenS (C.rest.wpS P (fun e a cs' w'=>(e=.normal∨e=.ret)∧∃G J,a.defers=(G.map fun r=>({ target:=.collected r,args:=#[] }:Deferred))∧G.Nodup∧(∀r∈G,w'.heap[r]?=some (.deferred (some []))) ∧
   cs'={ c0 with mode:=J }::cs∧∀w'',Gj G w' w''→∃v,(results C.fn a.tmps).run P w''=.ok v w''∧(J=u'∧Out R φ (look hc) w M0 (.returned v) w''))) (fun e a cs' w'=>(e=.normal∨e=.ret)∧∃G J,a.defers=(G.map fun r=>({ target:=.collected r,args:=#[] }:Deferred))∧G.Nodup∧(∀r∈G,w'.heap[r]?=some (.deferred (some []))) ∧
   cs'={ c0 with mode:=J }::cs∧∀w'',Gj G w' w''→∃v,(results C.fn a.tmps).run P w''=.ok v w''∧(J=u'∧Out R φ (look hc) w M0 (.returned v) w''))) [1] (a0.put C.o1.dst y) U w:=by
  intro U ao;have O:(#[C.o1,C.o2]:Array Oper)[1]?=some C.o2:=rfl
  have aa:(execOp (a0.put C.o1.dst y).eval C.o2).run P w=.ok (.value y) w:=by
   generalize a0.put C.o1.dst y=A at ac;simp[execOp,C.hop2,ac]
  simp only[wpOpsS,O,an,if_true,aa,Oper.upon];show C.rest.wpS P _ ((a0.put C.o1.dst y).put C.o2.dst y) U w;rw[C.hd1,C.hd2];refine wpS_of_wp (wpIn_wide.1 (wpIn_mono (h φ M0 _ _ w r2) ?_));rintro e a' w' ⟨φ',k,s',Z,h2,h3,h4⟩;obtain⟨ak,G,hd,am,aj⟩:=h2.dfs;have al:a'.defers=G.map fun r=>({ target:=.collected r,args:=#[] }:Deferred):=by rw[hd];simp
  have ab:∀r∈G,w'.heap[r]?=some (.deferred (some []))∧∀b,look s'.H b≠none→φ' b≠r:=fun r hr=>(aj r hr).2
  have go:SL P C.fn hc R s'→∃G J,a'.defers=(G.map fun r=>({ target:=.collected r,args:=#[] }:Deferred))∧G.Nodup∧(∀r∈G,w'.heap[r]?=some (.deferred (some []))) ∧
    U={ c0 with mode:=J }::cs∧∀w'',Gj G w' w''→∃v,(results C.fn a'.tmps).run P w''=.ok v w''∧(J=u'∧Out R φ (look hc) w M0 (.returned v) w''):=by
   intro ai;refine⟨G,u',al,am,fun r hr=>(ab r hr).1,ao,fun w'' t=>?_⟩;obtain⟨v,g1,g2⟩:=IM (h2.turned t ab) (h3.turned t (fun r hr=>(aj r hr).1) ab) ai;exact⟨v,g1,rfl,g2⟩
  cases k with
 |normal =>
   simp only[X9] at h4;subst h4;exact⟨.inl rfl,go Z⟩
 |ret =>
   simp only[X9] at h4;subst h4;exact⟨.inr rfl,go Z⟩
 |exit i=>exact Z.elim
 |panic x=>exact Z.elim
 have O:(#[C.o1,C.o2]:Array Oper)[0]?=some C.o1:=rfl;rcases ah c0 cs hm with Z|⟨Z,rfl,rfl⟩
 ·rw[wpOpsS];simp only[O,af,if_true,W,Z];exact rest _ rfl
 ·rw[wpOpsS];simp only[O,af,if_true,W,Z];exact rest _ (by subst hm;rfl)
def DEx(P:Program)(N:Nat)(g:FuncId)(args:List AV)(s:St)(K:St→Prop):Prop :=
 ∀φ M0 D a w G,Zn φ M0 N D (look s.T) (look s.H) a w→Qi φ (look s.H) w (MM φ (look s.H) M0) args G→CD P g G.toArray w fun e w' =>
  match e with
 |.returned v=>∃φ' s',K s'∧Zn φ' M0 N D (look s'.T) (look s'.H) a w'∧Q8 φ (look s.H) w φ' (look s'.H) w'
 |_=>False
theorem dS(ρ:Nat→Nat)(hcall:∀φ M0 w G,ZN φ (look hc) w M0→Qi φ (look hc) w (MM φ (look hc) M0) args' G→CD P g G.toArray w (Out R φ (look hc) w M0))(J:Nu args (Wn ρ args'))(hok:KG (look hc) args'=true)(U:∀c∈hc.map (·.1),1000≤c)(O:∀c k,look hc c=some k→okRefB (look hc) k=true)(hsub:∀c k,look hc c=some k→∃k0,look s.H (ρ c)=some k0∧leB k0 (Ku ρ k))(W:∀c∈hc.map (·.1),∀d∈hc.map (·.1),ρ c=ρ d→c=d)(Y:∀r h',R r h'→∃hc' H2,h'=look hc'∧FH ρ hc hc' s.H∧(∀b,look H2 b=look (KF ρ hc' s.H) b) ∧
   (match r with|.ret x=>K (St.put ⟨s.T,H2⟩ none (Jr ρ x))|.panic x=>False)):DEx P N g args s K:=by
 intro φ M0 D a w G r ha;have:=ME (C:=fun _ G w R=>CD P g G w R) (fun _ G w R R' h hq u u' v vl e hr=>(h u u' v vl e hr).mono (fun e Z w' p=>⟨p.1,hq _ _ p.2⟩)) (N:=N) (dst:=none) (K:=K) (Q:=fun _ _=>False) ρ hcall J hok U O hsub W (fun t ht=>by cases ht) Y φ M0 D a w G r ha;intro u u' v vl e hr;refine(this u u' v vl e hr).mono ?_;rintro e Z w' ⟨rfl,he⟩;refine⟨rfl,?_⟩;cases e with
|returned v=>exact he
|panicked c=>obtain⟨_,x,_,hF,_,_,hx⟩:=he;exact hF
|outgrown=>exact he
def sg(L:List (Nat×Nat))(x:Nat):Nat:=(look L x).getD x
def sgI(L:List (Nat×Nat))(x:Nat):Nat:=sg (L.map fun p=>(p.2,p.1)) x
def sgT(L:List (Nat×Nat))(T:List (Nat×AV)):List (Nat×AV):=T.map fun p=>(p.1,Jr (sg L) p.2)
def w9(L:List (Nat×Nat))(H:List (Nat×Blk)):List (Nat×Blk):=H.map fun p=>(sg L p.1,Ku (sg L) p.2)
def Qfq(L:List (Nat×Nat))(H:List (Nat×Blk)):Bool:=H.all (fun p=>sgI L (sg L p.1)==p.1)&&L.all (fun p=>Nat.blt p.1 1000&&Nat.ble 1000 p.2&&sg L p.1==p.2&&(match look H p.1 with|some (.box _ _)=>true|_=>false))
def Rx(L:List (Nat×Nat)):List AV:=L.map fun p=>.ptr p.2 0
theorem ja(L:List (Nat×Nat)):∀(T:List (Nat×AV)) (t:Nat),look (sgT L T) t=(look T t).map (Jr (sg L))
|[],t=>rfl
|(k,v)::T,t=>by
  simp only[sgT,Yy,look];by_cases e:k=t
  ·simp[e]
  ·simp only[e,if_false];exact ja L T t
structure Ry(fn:Func)(g:FuncId) where
 r1:Code
 rest:Code
 id:Nat
 o1:Oper
 o2:Oper
 caps:Array Operand
 tbs:List Tmp
 tc:Tmp
 ts:Array TypeId
 hb:fn.body=some (.seq r1 (.seq (.region id #[o1,o2] false) rest))
 hop1:o1.op=.makeFunc (.func g) #[] caps
 hcaps:caps.toList=tbs.map .tmp
 hop2:o2.op=.defer ⟨.value (.tmp tc),#[],ts⟩
 hg1:o1.guard=none
 hg2:o2.guard=none
 hd1:o1.dst=some tc
 hd2:o2.dst=none
 hlt:tc<fn.ntmps
def nN(P:Program)(fn:Func)(hc:List (Nat×Blk))(N:Nat)(g:FuncId)(caps:List AV)(R:Kw→QN→Prop):AX→St→Prop|.ret,s=>DEx P N g (uZ::caps) s (SL P fn hc R)|.normal,s=>DEx P N g (uZ::caps) s (SL P fn hc R)|.panic v,s=>DEx P N g (v::caps) s (SL P fn hc R)|.exit _,_=>False
theorem yc(F:Ry fn g)(L:List (Nat×Nat))(hf:P.funcs[f]?=some fn)(hl:args.length≤fn.ntmps)(bv:Y6 P g=true)(h:Ex P fn.ntmps none F.r1 ⟨Jz 0 args,hc⟩ (fun x s=>x=.normal∧F.tbs.map (look s.T)=L.map (fun p=>some (.ptr p.1 0))∧Qfq L s.H=true∧(∀c k x,look s.H c=some k→k.ob=some x→(some x).map (uY (sg L))=some x) ∧
   Ex P fn.ntmps none F.rest ⟨(F.tc,.fn (.func g) [] (Rx L))::sgT L s.T,w9 L s.H⟩ (nN P fn hc fn.ntmps g (Rx L) R))):Y0 P f args (look hc) R:=by
 intro φ M0 w vs hH ha;refine Nz hf F.hb ?_;refine wpIn_seq (wpIn_mono (h φ M0 _ _ w (Ec hH ha hl)) ?_);rintro e a1 w1 ⟨Y,k,s,⟨rfl,bj,be,bf,ax⟩,r1,E1,U⟩;simp only[X9] at U;subst U;show Code.wpIn (wd none) 0 P (.seq (.region F.id #[F.o1,F.o2] false) F.rest) _ a1 w1;simp only[Qfq,ZG,Xb,beq_iff_eq] at be;obtain⟨bc,ae⟩:=be
 have hL:∀p∈L,p.1<1000∧1000≤p.2∧∃ty cs,look s.H p.1=some (.box ty cs):=by
  intro p hp;have:=ae p hp;obtain⟨⟨⟨g1,g2⟩,_⟩,g3⟩:=this;refine⟨by simpa [Nat.blt_eq] using g1,Nat.le_of_ble_eq_true g2,?_⟩;split at g3
  ·rename_i ty cs he;exact⟨ty,cs,he⟩
  ·cases g3
 let ps:Array Value:=F.caps.map a1.eval
 have bw:ps.toList=F.tbs.map fun t=>a1.eval (.tmp t):=by simp[ps,F.hcaps,Function.comp_def]
 have bh:ps.toList=L.map fun p=>.pointer (some ⟨Y p.1,0,none⟩):=by
  rw[bw]
  have:∀(ts:List Tmp) (L:List (Nat×Nat)),ts.map (look s.T)=L.map (fun p=>some (.ptr p.1 0))→ts.map (fun t=>a1.eval (.tmp t))=L.map fun p=>.pointer (some ⟨Y p.1,0,none⟩):=by
   intro ts
   induction ts with
  |nil=>intro L hh;cases L with
   |nil=>rfl
   |cons p L=>cases hh
  |cons t ts ih=>intro L hh;cases L with
   |nil=>cases hh
   |cons p L =>
     simp only[Yy,List.cons.injEq] at hh ⊢;refine⟨?_,ih L hh.2⟩;have:=(r1.tm t _ hh.1).2;simp only[Qe] at this;exact this.1
  exact this _ _ bj
 let d:Deferred:={ target:=.fn (.func g) ps,args:=#[] }
 let a2:Act:={ tmps:=a1.tmps.setIfInBounds F.tc (.func (.func g) #[] ps),defers:=d::a1.defers }
 have b9:∀Q,Code.wpIn (wd none) 0 P F.rest Q a2 w1→Code.wpIn (wd none) 0 P (.seq (.region F.id #[F.o1,F.o2] false) F.rest) Q a1 w1:=by
  intro Q hq;refine wpIn_seq (wpIn_region ?_);have ai:List.range (#[F.o1,F.o2]:Array Oper).size=[0,1]:=rfl;rw[ai];have a8:(#[F.o1,F.o2]:Array Oper)[0]?=some F.o1:=rfl;have ar:(#[F.o1,F.o2]:Array Oper)[1]?=some F.o2:=rfl;have b1:∀y,Region.wanted F.o1 y=true:=fun y=>by simp[Region.wanted,F.hg1]
  have bz:∀y,Region.wanted F.o2 y=true:=fun y=>by simp[Region.wanted,F.hg2]
  have a7:(execOp a1.eval F.o1).run P w1=.ok (.value (.func (.func g) #[] ps)) w1:=by simp[execOp,F.hop1,Instr.makeFunc,ps]
  have cc:(a1.put F.o1.dst (.func (.func g) #[] ps)).eval (.tmp F.tc)=.func (.func g) #[] ps:=by
   have h0:F.tc<a1.tmps.size:=by rw[r1.siz];exact F.hlt
   simp[Act.put,F.hd1,Act.eval,h0]
  have ao:(execOp (a1.put F.o1.dst (.func (.func g) #[] ps)).eval F.o2).run P w1=.ok (.defer d) w1:=by
   simp[execOp,F.hop2,resolve,cc,Deferred.ofValue,d]
  simp only[wpOpsIn,a8,ar,b1,bz,if_true];refine⟨fun _ _=>trivial,?_⟩;show Oper.uponIn _ _ _ _ _ _ _ (Sem.run P (execOp a1.eval F.o1) w1);rw[a7];refine⟨fun _ _=>trivial,?_⟩;show Oper.uponIn _ _ _ _ _ _ _ (Sem.run P (execOp (a1.put F.o1.dst (.func (.func g) #[] ps)).eval F.o2) w1);rw[ao];show Code.wpIn (wd none) 0 P F.rest Q _ w1
  have:({ (a1.put F.o1.dst (.func (.func g) #[] ps)) with defers:=d::(a1.put F.o1.dst (.func (.func g) #[] ps)).defers }:Act).put F.o2.dst undef=a2:=by
   simp[Act.put,F.hd1,F.hd2,a2]
  rw[this];exact hq
 refine b9 _ ?_
 have af:∀c∈s.H.map (·.1),sgI L (sg L c)=c:=by
  intro c hc;obtain⟨p,hp,rfl⟩:=List.mem_map.1 hc;exact bc p hp
 have aq:∀c,1000≤c→sg L c=c:=by
  intro c hc;unfold sg;cases hq:look L c with
 |none=>rfl
 |some d =>
   have:c∈L.map (·.1):=YB.1 (by rw[hq];simp);obtain⟨p,hp,rfl⟩:=List.mem_map.1 this;have:=(hL p hp).1;omega
 let O:Nat→Nat:=fun x=>Y (sgI L x)
 have G:∀c,look s.H c≠none→O (sg L c)=Y c:=fun c hc=>by simp only[O];rw[af c (YB.1 hc)]
 have az:∀c d,c∈s.H.map (·.1)→d∈s.H.map (·.1)→sg L c=sg L d→c=d:=fun c d hc hd he=>by rw[←af c hc,he,af d hd]
 have W:∀c k,look s.H c=some k→look (w9 L s.H) (sg L c)=some (Ku (sg L) k):=by
  intro c k hk;have b3:c∈s.H.map (·.1):=YB.1 (by rw[hk];simp);unfold w9;rw[IL (fun x y U hy b6=>az x y U (by rcases List.mem_cons.1 hy with rfl|hy;exact b3;exact hy) b6),hk];rfl
 have Z:∀x k,look (w9 L s.H) x=some k→∃c k',look s.H c=some k'∧sg L c=x∧k=Ku (sg L) k':=by
  intro x k U;have:x∈(w9 L s.H).map (·.1):=YB.1 (by rw[U];simp);simp only[w9,List.map_map,List.mem_map,Function.comp] at this;obtain⟨q,hq,rfl⟩:=this;have b8:q.1∈s.H.map (·.1):=List.mem_map_of_mem hq;obtain⟨k',bk⟩:=SH.1 (YB.2 b8);rw[W q.1 k' bk] at U;exact⟨q.1,k',bk,rfl,(Option.some.inj U).symm⟩
 have an:∀x o,TK O (look (w9 L s.H)) x o→TK Y (look s.H) x o:=by
  rintro x o ⟨y,k,g1,g2,g3⟩;obtain⟨c,k',g4,rfl,rfl⟩:=Z y k g1;refine⟨c,k',g4,?_,?_⟩
  ·rw[←G c (by rw[g4];simp)];exact g2
  ·cases k'<;>exact g3
 have hM:∀x o,MM O (look (w9 L s.H)) M0 x o→MM Y (look s.H) M0 x o:=fun x o U=>U.elim (fun h=>.inl (an x o h)) .inr
 obtain⟨o1,o2⟩:=Qb7 (w:=w1) (ρ:=sg L) (φ:=O) (φc:=Y) (h:=look (w9 L s.H)) (hc:=look s.H) G hM W
 have b5:ZN O (look (w9 L s.H)) w1 M0:=by
  refine⟨fun x y U hy he=>?_,fun x k U=>?_,fun x U o hm=>?_,r1.hp.lt,r1.hp.gm.sub hM⟩
  ·obtain⟨kx,aw⟩:=SH.1 U;obtain⟨ky,cg⟩:=SH.1 hy;obtain⟨c,k1,g1,rfl,_⟩:=Z x kx aw;obtain⟨c',k2,g2,rfl,_⟩:=Z y ky cg;rw[G c (by rw[g1];simp),G c' (by rw[g2];simp)] at he;rw[r1.hp.inj c c' (by rw[g1];simp) (by rw[g2];simp) he]
  ·obtain⟨c,k',g1,rfl,rfl⟩:=Z x k U;rw[G c (by rw[g1];simp)];have:=r1.hp.blk c k' g1;cases k' with
  |box ty cs=>obtain⟨c0,q1,q2⟩:=this;exact⟨c0,q1,o2 _ _ q2⟩
  |arr ty S n=>exact this
  |vec ty S es=>obtain⟨c0,cap,q1,q2,q3,q4,q5,q6,q7⟩:=this;exact⟨c0,cap,q1,q2,q3,q4,q5,q6,ND hM _ _ q7⟩
  |lp T nf st pd =>
    obtain⟨tmps,d,q1,q2,q3⟩:=this;refine⟨tmps,d,q1,q2,fun t x ht=>?_⟩;rw[Bg] at ht;cases hl:look T t with
   |none=>rw[hl] at ht;cases ht
   |some y =>
     rw[hl] at ht;cases ht;exact⟨(q3 t y hl).1,o1 _ _ (q3 t y hl).2⟩
  |mp es =>
    obtain⟨en,cl,q1,q2,q3⟩:=this;refine⟨en,cl,q1,q2,?_⟩;have:=o2 _ _ q3;rw[kW] at this;exact this
  |mf es =>
    obtain⟨en,cl,q1,q2,q3,q4⟩:=this;exact⟨en,cl,q1,by rw[LH];exact q2,by rw[LG];exact o2 _ _ q3,q4⟩
  |mg en cl es =>
    obtain⟨q1,q2,q3,q4⟩:=this;exact⟨q1,by rw[LH];exact q2,by rw[LG];exact o2 _ _ q3,q4⟩
  |it m cl sn =>
    obtain⟨q1,k2,q2,q3⟩:=this;exact⟨by rw[G m (by rw[q2];simp)];exact q1,_,W m _ q2,by rw[XA,q3];rfl⟩
  ·obtain⟨kx,aw⟩:=SH.1 U;obtain⟨c,k1,g1,rfl,_⟩:=Z x kx aw;rw[G c (by rw[g1];simp)] at hm;exact r1.hp.fr c (by rw[g1];simp) o hm
 have bp:Q8 Y (look s.H) w1 O (look (w9 L s.H)) w1:=by
  have ab:∀c k,1000≤c→look s.H c=some k→look (w9 L s.H) c=some (Ku (sg L) k)∧O c=Y c:=by
   intro c k hc ac;have h1:=W c _ ac;have h2:=G c (by rw[ac];simp);rw[aq c hc] at h1 h2;exact⟨h1,h2⟩
  refine⟨rfl,rfl,rfl,Kt _,fun _ _ _=>rfl,fun _ _ _ _=>rfl,fun x o _ hm=>an x o hm,?_,?_,?_,?_⟩
  ·intro c ty cs hc ac;obtain⟨h1,h2⟩:=ab c _ hc ac;exact⟨⟨Wn (sg L) cs,h1⟩,h2⟩
  ·intro t ty S n ht av;obtain⟨h1,h2⟩:=ab t _ ht av;exact⟨n,h1,Kt _,fun _=>Yz (h2) rfl⟩
  ·intro t ty S n ht av;obtain⟨h1,h2⟩:=ab t _ ht av;exact⟨n,h1,Kt _,fun _=>⟨h2,fun c hc=>⟨c,hc,rfl⟩⟩⟩
  ·intro c k x hc ac ho;obtain⟨h1,h2⟩:=ab c _ hc ac;exact⟨⟨_,h1,by rw[XA,ho];exact bf c k x ac ho⟩,h2⟩
 have ak:(L.map fun p=>AV.ptr (sg L p.1) 0)=Rx L:=List.map_congr_left fun p hp=>by rw[(ae p hp).1.2]
 have ad:∀p∈L,∃ty cs,look (w9 L s.H) (sg L p.1)=some (.box ty cs):=by
  intro p hp;obtain⟨_,_,ty,cs,hb⟩:=hL p hp;exact⟨ty,Wn (sg L) cs,W _ _ hb⟩
 have r2:Zn O M0 fn.ntmps ⟨d::a1.defers,w1.heap.size⟩ (look ((F.tc,.fn (.func g) [] (L.map fun p=>.ptr (sg L p.1) 0))::sgT L s.T)) (look (w9 L s.H)) a2 w1:=by
  refine⟨⟨Kt _,[],rfl,List.nodup_nil,fun r hr=>by cases hr⟩,by simp[a2,r1.siz],b5,fun t x ht=>?_⟩;simp only[look] at ht;by_cases e:F.tc=t
  ·simp only[e,if_true,QW] at ht;subst ht;refine⟨e▸F.hlt,?_⟩;have h0:t<a1.tmps.size:=by rw[r1.siz];exact e▸F.hlt
   have:a2.tmps.getD t undef=.func (.func g) #[] ps:=by simp[a2,e,h0]
   rw[this];simp only[Qe,Qi];refine⟨[],ps.toList,by simp,rfl,?_⟩;rw[bh]
   have:∀l:List (Nat×Nat),(∀p∈l,p∈L)→Qi O (look (w9 L s.H)) w1 (MM O (look (w9 L s.H)) M0) (l.map fun p=>.ptr (sg L p.1) 0) (l.map fun p=>.pointer (some ⟨Y p.1,0,none⟩)):=by
    intro l
    induction l with
   |nil=>intro _;simp[Qi]
   |cons p l ih =>
     intro hh;simp only[Yy,Qi];refine⟨_,_,rfl,?_,ih fun q hq=>hh q (by simp[hq])⟩;simp only[Qe];obtain⟨_,_,ty,cs,hb⟩:=hL p (hh p zq);exact⟨by rw[G p.1 (by rw[hb];simp)],ad p (hh p zq)⟩
   exact this L fun p hp=>hp
  ·simp only[e,if_false] at ht;rw[ja] at ht;cases hq:look s.T t with
  |none=>rw[hq] at ht;cases ht
  |some y =>
    rw[hq] at ht;simp only[Option.map_some,QW] at ht;subst ht;obtain⟨g1,g2⟩:=r1.tm t y hq;refine⟨g1,?_⟩;have:a2.tmps.getD t undef=a1.tmps.getD t undef:=by simp[a2,Array.getElem?_setIfInBounds_ne e]
    rw[this];exact o1 _ _ g2
 rw[ak] at r2;refine wpIn_mono (ax O M0 _ a2 w1 r2) ?_;rintro e a3 w3 ⟨J,k,s3,hq,r3,E3,U⟩;have bg:=(E1.trans bp).trans E3
 have bb:∀w,(invoke (.fn (.func g) ps) #[]).run P w=.ok (.enter g ps) w:=fun w=>by
  simp only[invoke];rw[Ub bv];simp
 obtain⟨bx,ms,hd,ca,aj⟩:=r3.dfs;have al:∀r∈ms,w3.heap[r]?=some (.deferred (some []))∧∀b,look s3.H b≠none→J b≠r:=fun r hr=>(aj r hr).2
 have ay:∀aa:List Nat,a1.defers=(aa.map fun r=>({ target:=.collected r,args:=#[] }:Deferred))→∀r∈aa,r<w1.heap.size:=by
  intro aa h1 r hr;obtain⟨_,b4,h2,_,h3⟩:=r1.dfs
  have e:aa=b4:=by
   rw[h1] at h2;simp only[List.append_nil] at h2;exact Ee h2
  rw[e] at hr;exact(Ls.1 (h3 r hr).2.1).1
 have cf:Marks J ⟨[],w.heap.size⟩ (look s3.H) a1 w3:=(r1.dfs.keep bp).keep E3
 have ba:Qi J (look s3.H) w3 (MM J (look s3.H) M0) (Rx L) ps.toList:=by
  rw[bh]
  have:∀l:List (Nat×Nat),(∀p∈l,p∈L)→Qi J (look s3.H) w3 (MM J (look s3.H) M0) (Rx l) (l.map fun p=>.pointer (some ⟨Y p.1,0,none⟩)):=by
   intro l
   induction l with
  |nil=>intro _;simp[Rx,Qi]
  |cons p l ih =>
    intro hh;have hp:=hh p zq;simp only[Rx,Yy,Qi];refine⟨_,_,rfl,?_,ih fun q hq=>hh q (by simp[hq])⟩;simp only[Qe];obtain⟨_,au,ty,cs,hb⟩:=hL p hp;obtain⟨V4,ch,bn⟩:=ad p hp;rw[(ae p hp).1.2] at bn;obtain⟨⟨b7,bu⟩,bt⟩:=E3.kb p.2 V4 _ au bn;refine⟨?_,V4,b7,bu⟩;rw[bt,←(ae p hp).1.2,G p.1 (by rw[hb];simp)]
  exact this L fun p hp=>hp
 have go:∀(u u':FrameMode) (rv:AV),u≠.run→settle u'=.returning→DEx P fn.ntmps g (rv::Rx L) s3 (SL P fn hc R) →
   (∀w',Gj ms w3 w'→∃v,Qe J (look s3.H) w' (MM J (look s3.H) M0) rv v∧Qep u u' v) →
   Xz P fn a3.tmps (Out R φ (look hc) w M0) a3.defers u w3:=by
  intro u u' rv hu bm hcall bi;rw[hd];refine NA hu _ ms w3 ca (fun r hr=>(aj r hr).2.1) fun w4 t=>?_
  have r4:=r3.turned t al;have E4:=bg.turned t (fun r hr=>Nat.le_trans E1.size (aj r hr).1) al;obtain⟨v,hv,hm⟩:=bi w4 t
  have a6:Qi J (look s3.H) w4 (MM J (look s3.H) M0) (rv::Rx L) (v::ps.toList):=by
   simp only[Qi];refine⟨v,ps.toList,rfl,hv,?_⟩
   have:∀(xs:List AV) (l:List Value),Qi J (look s3.H) w3 (MM J (look s3.H) M0) xs l→Qi J (look s3.H) w4 (MM J (look s3.H) M0) xs l:=by
    intro xs
    induction xs with
   |nil=>intro l hl;simpa [Qi] using hl
   |cons x xs ih =>
     intro l hl;simp only[Qi] at hl ⊢;obtain⟨y,ys,rfl,h1,h2⟩:=hl;exact⟨y,ys,rfl,DI t al _ _ h1,ih _ h2⟩
   exact this _ _ ba
  have bl:=hcall J M0 _ _ w4 (v::ps.toList) r4 a6 u u' v ps.toList rfl hm;rw[Array.toArray_toList] at bl;refine⟨hu,.inr ⟨.func g,ps,g,ps,rfl,bb w4,bl.mono ?_⟩⟩;rintro e ce w5 ⟨rfl,he⟩;cases e with
 |panicked c=>exact he.elim
 |outgrown=>exact he.elim
 |returned x =>
  obtain⟨bd,s5,g1,g2,g3⟩:=he;show Xz P fn a3.tmps (Out R φ (look hc) w M0) a1.defers (settle ce) w5;rw[bm];obtain⟨_,aa,hd1,br,am⟩:=cf;have bo:a1.defers=(aa.map fun r=>({ target:=.collected r,args:=#[] }:Deferred))++[]:=hd1
  have ah:∀r∈aa,w5.heap[r]?=some (.deferred (some []))∧∀b,look s5.H b≠none→bd b≠r:=by
   intro r hr;have h3:=am r hr
   have bq:r∉ms:=fun U=>by
    have h6:w1.heap.size≤r:=(aj r U).1;have h7:=ay aa (by simpa using hd1) r hr;omega
   have h4:w4.heap[r]?=some (.deferred (some [])):=by rw[t.same r bq];exact h3.2.1
   have hlt:r<w4.heap.size:=(Ls.1 h4).1;refine⟨(g3.same r hlt h3.2.2).trans h4,fun b hb e=>?_⟩;cases hk:look s5.H b with
  |none=>exact hb hk
  |some k =>
    obtain⟨o,ho⟩:=M9 (φ:=bd) hk;rw[e] at ho;obtain⟨b0,k0,b2,cd,_⟩:=g3.mu r o hlt ho;exact h3.2.2 b0 (by rw[b2];simp) cd
  rw[bo];refine NA zq _ aa w5 br (fun r hr=>(ah r hr).1) fun w6 t6=>?_
  have r6:=g2.turned t6 ah;have E6:=(E4.trans g3).turned t6 (fun r hr=>(am r hr).1) ah;obtain⟨y,q1,q2⟩:=IM r6 E6 g1;exact⟨y,q1,q2⟩
 cases k with
|normal =>
  simp only[X9] at U;subst U;exact go .returning .returning uZ zq rfl hq fun w' t=>⟨.nilIface,by simp[uZ,Qe,QM],fun c0 cs hm=>.inr ⟨by simp[recoverD,hm],rfl,rfl⟩⟩
|ret =>
  simp only[X9] at U;subst U;exact go .returning .returning uZ zq rfl hq fun w' t=>⟨.nilIface,by simp[uZ,Qe,QM],fun c0 cs hm=>.inr ⟨by simp[recoverD,hm],rfl,rfl⟩⟩
|exit i=>exact hq.elim
|panic x =>
  obtain⟨v,rfl,hv⟩:=U;refine go (.panicking [{ v:=v,recovered:=false }]) (.panicking [{ v:=v,recovered:=true }]) x zq rfl hq fun w' t=>⟨v,?_,fun c0 cs hm=>.inl (by simp[recoverD,hm])⟩
  exact DI t al _ _ hv
theorem Qc{a b:α}(h:a=b:=by kernel_rfl):a=b:=h
theorem QO{f g:α→β}(h:∀x,f x=g x:=by intro _;kernel_rfl):∀x,f x=g x:=h
def YK(cs:List PV):List AV:=cs.map .p
def ag(cs:List PV):AV:=.agg (cs.map .p)
inductive Conv where
|id
|sl (S:Nat)
|vn
|agg (l:List Conv)
mutual
def cv:Conv→AV→AV|.sl _,.tsl S es _=>.p (.sl S es)|.sl S,.p (.val (.slice none 0 0))=>.p (.sl S [])|.vn,.p (.val (.slice none 0 0))=>.vnil|.sl S,.vnil=>.p (.sl S [])|.agg cs,.agg xs=>.agg (SS cs xs)|.agg cs,.tup xs=>.tup (SS cs xs)|_,x=>x
def SS:List Conv→List AV→List AV|_,[]=>[]|[],x::xs=>x::xs|c::cs,x::xs=>cv c x::SS cs xs
end
theorem aL:∀n:Nat,(∀(x:AV),SizeOf.sizeOf x≤n→∀c,le x (cv c x))∧(∀(xs:List AV),SizeOf.sizeOf xs≤n→∀cs,Nu xs (SS cs xs)):=by
 intro n
 induction n with
|zero =>
  refine⟨fun x G=>?_,fun es G=>?_⟩
  ·cases x<;>simp at G
  ·cases es<;>simp at G
|succ n J =>
  obtain⟨O,i2⟩:=J;refine⟨fun x G c=>?_,fun xs G cs=>?_⟩
  ·unfold cv;split
   ·simp[le]
   ·simp[le]
   ·simp[le]
   ·simp[le]
   ·rename_i cs xs;simp only[le];simp at G;exact⟨_,rfl,i2 xs zo cs⟩
   ·rename_i cs xs;simp only[le];simp at G;exact⟨_,rfl,i2 xs zo cs⟩
   ·exact le_refl x
  ·cases xs with
  |nil=>simp[SS,Nu]
  |cons x xs =>
    simp at G;cases cs with
   |nil=>simp only[SS];exact wU _
   |cons c cs=>simp only[SS,Nu];exact⟨_,_,rfl,O x zo c,i2 xs zo cs⟩
theorem jb(c:Conv)(x:AV):le x (cv c x):=(aL (SizeOf.sizeOf x)).1 x (Kt _) c
theorem Ue(cs:List Conv)(xs:List AV):Nu xs (SS cs xs):=(aL (SizeOf.sizeOf xs)).2 xs (Kt _) cs
def Qfr(C:List (Nat×Conv))(t:Nat):Conv:=(look C t).getD .id
def IU(C:List (Nat×Conv))(T:List (Nat×AV)):List Nat→List (Nat×AV)
|[]=>[]
|t::L=>match look T t with|some x=>(t,cv (Qfr C t) x)::IU C T L|none=>IU C T L
def cvB(cs:List Conv):Blk→Blk|.box ty xs=>.box ty (SS cs xs)|k=>k
def Yu(C:List (Nat×List Conv))(H:List (Nat×Blk)):List Nat→List (Nat×Blk)
|[]=>[]
|b::L=>match look H b with|some k=>(b,cvB ((look C b).getD []) k)::Yu C H L|none=>Yu C H L
structure GA where
 ts:List Nat
 bs:List Nat
 ct:List (Nat×Conv):=[]
 cb:List (Nat×List Conv):=[]
def shr(K:GA)(s:St):St:=⟨IU K.ct s.T K.ts,Yu K.cb s.H K.bs⟩
def okT(h:QN):List (Nat×AV)→Bool|[]=>true|(_,x)::l=>Kv h x&&okT h l
def tY(h:QN):List (Nat×Blk)→Bool|[]=>true|(_,k)::l=>okRefB h k&&tY h l
def aM(s s':St):Bool:=okT (look s'.H) s'.T&&tY (look s'.H) s'.H&&Ym (look s'.H) s.H
def FI(K:GA)(s:St):Option St:=if aM s (shr K s) then some (shr K s) else none
theorem aN(cs:List Conv)(k:Blk):leB k (cvB cs k):=by
 cases k with
|box ty xs=>exact⟨_,rfl,Ue cs xs⟩
|arr ty S n=>rfl
|vec ty S es=>rfl
|lp T nf st pd=>rfl
|mp es=>rfl
|mf es=>rfl
|mg en G es=>rfl
|it m G sn=>rfl
theorem G6{T:List (Nat×AV)}{h':QN}{C:List (Nat×Conv)}:∀{L:List Nat},okT h' (IU C T L)=true→IK (look T) h' (IU C T L)
|[],_=>by simp[IU,IK]
|t::L,h=>by
  simp only[IU] at h ⊢;cases ht:look T t with
 |none=>simp only[ht] at h ⊢;exact G6 h
 |some x =>
   simp only[ht,okT,ZG] at h ⊢;simp only[IK,ht,leO];exact⟨jb _ _,h.1,G6 h.2⟩
theorem Vw{H:List (Nat×Blk)}{h':QN}{C:List (Nat×List Conv)}:∀{L:List Nat},tY h' (Yu C H L)=true→Bz (look H) h' (Yu C H L)
|[],_=>by simp[Yu,Bz]
|b::L,h=>by
  simp only[Yu] at h ⊢;cases hb:look H b with
 |none=>simp only[hb] at h ⊢;exact Vw h
 |some k =>
   simp only[hb,tY,ZG] at h ⊢;simp only[Bz,hb,Qfm];exact⟨aN _ _,h.1,Vw h.2⟩
theorem Qce{K:GA}(h:FI K s=some s')(r:Zn φ M0 N D (look s.T) (look s.H) a w):Zn φ M0 N D (look s'.T) (look s'.H) a w∧Q8 φ (look s.H) w φ (look s'.H) w:=by
 unfold FI at h;split at h
 ·rename_i hok;simp only[QW] at h;subst h;simp only[aM,ZG] at hok;exact wV (G6 hok.1.1) (Vw hok.1.2) hok.2 r
 ·cases h
theorem Uf{K:GA}(h:FI K s=some s'):Weak N s s':=by
 unfold FI at h;split at h
 ·rename_i hok;simp only[QW] at h;subst h;simp only[aM,ZG] at hok;exact aD (G6 hok.1.1) (Vw hok.1.2) hok.2
 ·cases h
structure Q3{R:Type}(o:Option R)(P:Program)(N:Nat)(ro:Option Nat)(c:Code)(s:St)(Q:R→AX→St→Prop):Prop where
 intro ::
 h:∀r,o=some r→Ex P N ro c s (Q r)
structure ZC{R:Type}(o:Option R)(Q:R→AX→St→Prop)(x:AX)(s:St):Prop where
 intro ::
 h:∀r,o=some r→Q r x s
def qF{R:Type}(P:Program)(N:Nat)(ro:Option Nat)(y:Code)(Q:R→AX→St→Prop):R→AX→St→Prop:=fun r=>andThen (fun s'=>Ex P N ro y s' (Q r)) (Q r)
def jc{R:Type}(id:Nat)(Q:R→AX→St→Prop):R→AX→St→Prop:=fun r=>inBlock id (Q r)
def kQ{V R:Type}(N:Nat)(k:V→Option R)(S:V→St)(Q:R→AX→St→Prop):R→AX→St→Prop:=fun r=>andThen (fun s'=>∃v,k v=some r∧Weak N s' (S v)) (Q r)
def aO{V:Type}(N:Nat)(S:V→St):V→AX→St→Prop:=fun v x s'=>x=.normal∧Weak N s' (S v)
section
variable {R V:Type}{o o1 o2:Option R}{P:Program}{N:Nat}{ro:Option Nat}{x y c:Code}{s s':St}{Q:R→AX→St→Prop}
theorem sS(h:Q3 o P N ro x s (qF P N ro y Q)):Q3 o P N ro (.seq x y) s Q:=⟨fun r G=>kz (h.h r G)⟩
theorem sK(h:ZC o Q .normal s):Q3 o P N ro .skip s Q:=⟨fun r G=>QbN (h.h r G)⟩
theorem dU{l:Nat}(h:ZC o Q .normal s):Q3 o P N ro (.label l) s Q:=⟨fun r G=>lQ (h.h r G)⟩
theorem sT(h:ZC o Q .ret s):Q3 o P N ro .ret s Q:=⟨fun r G=>Qff (h.h r G)⟩
theorem Qu(h:ZC o Q (.exit id) s):Q3 o P N ro (.exit id) s Q:=⟨fun r G=>QbO (h.h r G)⟩
theorem sB(h:Q3 o P N ro c s (jc id Q)):Q3 o P N ro (.block id c) s Q:=⟨fun r G=>lS (h.h r G)⟩
theorem dV(h:Q3 o P N ro c s Q):Q3 o P N ro (.scope c) s Q:=⟨fun r G=>lT (h.h r G)⟩
theorem Zu(hw:Weak N s s')(h:Q3 o P N ro c s' Q):Q3 o P N ro c s Q:=⟨fun r G=>Lu hw (h.h r G)⟩
theorem sP(K:GA)(s':St)(hw:FI K s=some s')(h:Q3 o P N ro c s' Q):Q3 o P N ro c s Q:=⟨fun r G=>Lu (Uf hw) (h.h r G)⟩
theorem sC{a:Operand}(b:Bool)(O:Q3 o1 P N ro x s Q)(J:Q3 o2 P N ro y s Q)(hb:Zo (look s.T) a=some (.p (.val (.bool b))):=by kernel_rfl):Q3 (cond b o1 o2) P N ro (.cond a x y) s Q:=by
 refine⟨fun r G=>?_⟩;refine kC b hb (fun e=>?_) (fun e=>?_)
 ·subst e;exact O.h r G
 ·subst e;exact J.h r G
theorem Q4{a:Operand}(G:Q3 o P N ro x s Q)(hb:Zo (look s.T) a=some (.p (.val (.bool true))):=by kernel_rfl):Q3 o P N ro (.cond a x y) s Q:=⟨fun r J=>kC true hb (fun _=>G.h r J) (fun e=>by cases e)⟩
theorem QU{a:Operand}(G:Q3 o P N ro y s Q)(hb:Zo (look s.T) a=some (.p (.val (.bool false))):=by kernel_rfl):Q3 o P N ro (.cond a x y) s Q:=⟨fun r J=>kC false hb (fun e=>by cases e) (fun _=>G.h r J)⟩
theorem sN(K:GA)(s':St)(hw:FI K s=some s')(h:Q3 o P N ro y s' Q):ZC o (qF P N ro y Q) .normal s:=⟨fun r G=>(sP (Q:=Q) K s' hw h).h r G⟩
theorem QS(h:ZC o Q .ret s):ZC o (qF P N ro y Q) .ret s:=⟨fun r G=>h.h r G⟩
theorem Ky(h:ZC o Q (.exit i) s):ZC o (qF P N ro y Q) (.exit i) s:=⟨fun r G=>h.h r G⟩
theorem KH(h:ZC o Q (.panic p) s):ZC o (qF P N ro y Q) (.panic p) s:=⟨fun r G=>h.h r G⟩
theorem Q7(h:ZC o Q .normal s):ZC o (jc id Q) .normal s:=⟨fun r G=>h.h r G⟩
theorem Zd(h:ZC o Q .ret s):ZC o (jc id Q) .ret s:=⟨fun r G=>h.h r G⟩
theorem Ze(h:ZC o Q (.panic p) s):ZC o (jc id Q) (.panic p) s:=⟨fun r G=>h.h r G⟩
theorem QZ(h:ZC o Q .normal s):ZC o (jc id Q) (.exit id) s:=by
 refine⟨fun r G=>?_⟩;have:=h.h r G;simp only[jc,inBlock,if_true];exact this
theorem Am(hi:(i==id)=false)(h:ZC o Q (.exit i) s):ZC o (jc id Q) (.exit i) s:=by
 refine⟨fun r G=>?_⟩;have:=h.h r G;have hne:¬i=id:=by simpa using hi
 simp only[jc,inBlock,hne,if_false];exact this
theorem Qhu{k:V→Option R}{S:V→St}(v:V)(K:GA)(hw:FI K s=some (S v)):ZC (k v) (kQ N k S Q) .normal s:=⟨fun r G=>⟨v,G,Uf hw⟩⟩
theorem Vt{k:V→Option R}{S:V→St}(h:ZC o Q .ret s):ZC o (kQ N k S Q) .ret s:=⟨fun r G=>h.h r G⟩
theorem Vn{k:V→Option R}{S:V→St}(h:ZC o Q (.exit i) s):ZC o (kQ N k S Q) (.exit i) s:=⟨fun r G=>h.h r G⟩
theorem Zk{k:V→Option R}{S:V→St}(h:ZC o Q (.panic p) s):ZC o (kQ N k S Q) (.panic p) s:=⟨fun r G=>h.h r G⟩
theorem aP{S:V→St}(v:V)(K:GA)(hw:FI K s=some (S v)):ZC (some v) (aO N S) .normal s:=⟨fun r G=>by cases G;exact⟨rfl,Uf hw⟩⟩
theorem Qjy{S:V→St}(v:V)(hw:Weak N s (S v)):ZC (some v) (aO N S) .normal s:=⟨fun r G=>by cases G;exact⟨rfl,hw⟩⟩
theorem Yj(S:V→St)(k:V→Option R)(J:∀v,Q3 (k v) P N ro y (S v) Q)(U:Q3 o P N ro x s (kQ N k S Q)):Q3 o P N ro (.seq x y) s Q:=by
 refine⟨fun r W=>?_⟩;refine kz (Ai (U.h r W) ?_);intro e s' G;cases e with
|normal=>obtain⟨v,O,hw⟩:=G;exact Lu hw ((J v).h r O)
|exit i=>exact G
|ret=>exact G
|panic p=>exact G
theorem YL(S:V→St){m:Option V}{k:V→Option R}(U:Q3 m P N ro x s (aO N S))(J:∀v,Q3 (k v) P N ro y (S v) Q):Q3 (m.bind k) P N ro (.seq x y) s Q:=by
 refine⟨fun r W=>?_⟩;obtain⟨v,O,G⟩:=PS.1 W;refine kz (Ai (U.h v O) ?_);rintro e s' ⟨rfl,hw⟩;exact Lu hw ((J v).h r G)
end
def Qy{V R:Type}(B:(V→Option R)→V→Option R):Nat→V→Option R|0,_=>none|k+1,v=>B (Qy B k) v
theorem QT{R V:Type}{Q:R→AX→St→Prop}(S:V→St){B:(V→Option R)→V→Option R}{v0:V}(hw:Weak N s (S v0))(W:∀rec v,Q3 (B rec v) P N ro c (S v) (kQ N rec S Q)):Q3 (Qy B n v0) P N ro (.loop c) s Q:=by
 refine⟨fun r Y=>?_⟩;refine Lu hw (mW (ι:={ p:Nat×V // Qy B p.1 p.2=some r }) (fun p=>S p.1.2) (fun p=>p.1.1) ⟨(n,v0),Y⟩ ?_);rintro⟨⟨k,v⟩,U⟩;cases k with
|zero=>cases U
|succ k =>
  refine Ai ((W (Qy B k) v).h r U) ?_;intro e s' G;cases e with
 |normal=>obtain⟨v',J,O⟩:=G;exact⟨⟨(k,v'),J⟩,by simp,O⟩
 |exit i=>exact G
 |ret=>exact G
 |panic p=>exact G
def plain:Op→Bool|.pick _ _ _=>false|.panic _=>false|.call ⟨.value _,_,_⟩=>false|_=>true
theorem BP{op:Op}(h:plain op=true):yieldOf T op=none:=by
 unfold yieldOf;split
 ·simp[plain] at h
 ·rfl
def XR(P:Program)(N:Nat)(ops:Array Oper)(Q:AX→St→Prop)(d:Option (List YA))(l:List Oper)(s:St):Prop :=
 match d with
|none=>Yl P N ops Q l s
|some acc=>KX P N ops Q l acc s
def IV(u:KN):YA:=(u.2.1.map (·.1),u.2.2)
def more(d:Option (List YA))(f:YA):Option (List YA):=d.map (f::·)
def nxt(ops:Array Oper)(o:Oper)(s:St)(u:KN):St:=Xd ⟨Zm ops o s.T true,s.H⟩ o.dst u
def mk(ops:Array Oper)(o:Oper)(s:St)(b:Bool):St:=⟨Zm ops o s.T b,s.H⟩
section
variable {P:Program}{N:Nat}{ops:Array Oper}{o:Oper}{l:List Oper}{d:Option (List YA)}{s:St}{Q:AX→St→Prop}
theorem Bh(hw:ZB ops o (look s.T)=some true)(hp:plain o.op=true){u:KN}(hu:Jy P o (look (Zm ops o s.T true)) (look s.H)=some u)(J:KD N o.dst=true)(h:XR P N ops Q (more d (IV u)) l (nxt ops o s u)):XR P N ops Q d (o::l) s:=by
 cases d with
|none =>
  show Yl P N ops Q (o::l) s;simp only[Yl,hw,ZY,BP hp];show Ua P N o _ _ _;unfold Ua;split
  ·rename_i G;rw[G] at hp;cases hp
  ·rename_i G;rw[G] at hp;cases hp
  ·rename_i G;rw[G] at hp;cases hp
  ·rw[hu];exact .inl ⟨J,h⟩
|some acc =>
  show KX P N ops Q (o::l) acc s;simp only[KX,hw,ZY];split
  ·rename_i G;rw[G] at hp;cases hp
  ·rename_i G;rw[G] at hp;cases hp
  ·rename_i G;rw[G] at hp;cases hp
  ·rw[hu];exact .inl ⟨J,h⟩
theorem jd(hw:ZB ops o (look s.T)=some false)(G:KD N o.dst=true)(h:XR P N ops Q (more d (none,[])) l (St.put (mk ops o s false) o.dst (.p (.val undef)))):XR P N ops Q d (o::l) s:=by
 cases d with
|none =>
  show Yl P N ops Q (o::l) s;simp only[Yl,hw,Gy];exact⟨G,h⟩
|some acc =>
  show KX P N ops Q (o::l) acc s;simp only[KX,hw,Gy];exact⟨G,h⟩
theorem nO{c:Operand}(hw:ZB ops o (look s.T)=some true)(O:o.op=.pick c x y)(b:Bool)(hc:Zo (look (Zm ops o s.T true)) c=some (.p (.val (.bool b)))){v:AV}(U:Zo (look (Zm ops o s.T true)) (cond b x y)=some v)(G:KD N o.dst=true)(h:XR P N ops Q (more d (none,[])) l (St.put (mk ops o s true) o.dst v)):XR P N ops Q d (o::l) s:=by
 have J:∀z,cond b x y=z→Wt (look (Zm ops o s.T true)) z=some (v,none,[]):=by
  rintro z rfl;simp[Wt,U]
 cases d with
|none =>
  show Yl P N ops Q (o::l) s;have W:yieldOf (look (Zm ops o s.T true)) o.op=none:=by simp[yieldOf,O]
  simp only[Yl,hw,ZY,W];show Ua P N o _ _ _;unfold Ua;simp only[O,hc];have e:∀s:St,Xd s o.dst (v,none,[])=St.put s o.dst v:=fun s=>by unfold Xd St.put;cases o.dst<;>rfl
  cases b
  ·refine⟨(fun h=>by cases h),fun _=>?_⟩;rw[J y rfl];exact⟨G,by rw[e];exact h⟩
  ·refine⟨fun _=>?_,fun h=>by cases h⟩;rw[J x rfl];exact⟨G,by rw[e];exact h⟩
|some acc =>
  show KX P N ops Q (o::l) acc s;simp only[KX,hw,ZY,O,hc];cases b
  ·refine⟨(fun h=>by cases h),fun _=>?_⟩;rw[J y rfl];exact⟨G,h⟩
  ·refine⟨fun _=>?_,fun h=>by cases h⟩;rw[J x rfl];exact⟨G,h⟩
end
def step1(P:Program)(N:Nat)(ops:Array Oper)(o:Oper)(s:St):Option (St×YA) :=
 match ZB ops o (look s.T) with
|some true =>
  if KD N o.dst then
   match o.op with
  |.pick c x y =>
    match Zo (look (Zm ops o s.T true)) c with
   |some (.p (.val (.bool true)))=>match Zo (look (Zm ops o s.T true)) x with|some v=>some (St.put (mk ops o s true) o.dst v,(none,[]))|none=>none
   |some (.p (.val (.bool false)))=>match Zo (look (Zm ops o s.T true)) y with|some v=>some (St.put (mk ops o s true) o.dst v,(none,[]))|none=>none
   |_=>none
  |op=>if plain op then(match Jy P o (look (Zm ops o s.T true)) (look s.H) with|some u=>some (nxt ops o s u,IV u)|none=>none) else none
  else none
|some false=>if KD N o.dst then some (St.put (mk ops o s false) o.dst (.p (.val undef)),(none,[])) else none
|none=>none
def runs(P:Program)(N:Nat)(ops:Array Oper):Nat→List Oper→St→List YA→Option (St×List YA)
|0,_,s,acc=>some (s,acc)
|_+1,[],s,acc=>none
|k+1,o::l,s,acc=>match step1 P N ops o s with|some (s',f)=>runs P N ops k l s' (f::acc)|none=>none
def IW(P:Program)(N:Nat)(ops:Array Oper):List Oper→St→List YA→Option (St×List YA)
|[],s,acc=>some (s,acc)
|o::l,s,acc=>match step1 P N ops o s with|some (s',f)=>IW P N ops l s' (f::acc)|none=>none
def DL(P:Program)(N:Nat)(ops:Array Oper)(draw:Bool)(s:St):Option St :=
 match IW P N ops ops.toList s [] with
|some (s',acc)=>if draw then(if KE ops acc.reverse&&U5 ops then some s' else none) else some s'
|none=>none
section
variable {P:Program}{N:Nat}{ops:Array Oper}{s:St}{Q:AX→St→Prop}
theorem nP{l:List Oper}{d:Option (List YA)}{f:YA}(G:step1 P N ops o s=some (s',f))(h:XR P N ops Q (more d f) l s'):XR P N ops Q d (o::l) s:=by
 unfold step1 at G;split at G
 ·rename_i hw;split at G
  ·rename_i J;split at G
   ·rename_i c x y U;split at G
    ·rename_i hc;split at G
     ·rename_i v O;simp only[QW,Xu] at G;obtain⟨rfl,rfl⟩:=G;exact nO hw U true hc O J h
     ·cases G
    ·rename_i hc;split at G
     ·rename_i v O;simp only[QW,Xu] at G;obtain⟨rfl,rfl⟩:=G;exact nO hw U false hc O J h
     ·cases G
    ·cases G
   ·split at G
    ·rename_i hp;split at G
     ·rename_i u hu;simp only[QW,Xu] at G;obtain⟨rfl,rfl⟩:=G;exact Bh hw hp hu J h
     ·cases G
    ·cases G
  ·cases G
 ·rename_i hw;split at G
  ·rename_i J;simp only[QW,Xu] at G;obtain⟨rfl,rfl⟩:=G;exact jd hw J h
  ·cases G
 ·cases G
theorem Eg:∀{l:List Oper} {s:St} {acc G:List YA} {s':St} {b:Bool},IW P N ops l s acc=some (s',G)→XR P N ops Q (if b then some G else none) [] s'→XR P N ops Q (if b then some acc else none) l s
|[],s,acc,G,s',b,J,h=>by
  simp only[IW,QW,Xu] at J;obtain⟨rfl,rfl⟩:=J;exact h
|o::l,s,acc,G,s',b,J,h=>by
  simp only[IW] at J;split at J
  ·rename_i s1 f hs;refine nP hs ?_;have:=Eg (b:=b) J h;cases b
   ·exact this
   ·exact this
  ·cases J
theorem Ao{d:Option (List YA)}:∀{k:Nat} {l:List Oper} {s:St} {acc G:List YA} {s':St},runs P N ops k l s acc=some (s',G)→(d=none∨d=some acc)→XR P N ops Q (d.map fun _=>G) (l.drop k) s'→XR P N ops Q d l s
|0,l,s,acc,G,s',J,O,h=>by
  simp only[runs,QW,Xu] at J;obtain⟨rfl,rfl⟩:=J;rcases O with rfl|rfl
  ·exact h
  ·exact h
|k+1,[],s,acc,G,s',J,O,h=>by cases J
|k+1,o::l,s,acc,G,s',J,O,h=>by
  simp only[runs] at J;split at J
  ·rename_i s1 f hs;refine nP hs ?_;rcases O with rfl|rfl
   ·exact Ao (d:=none) J (.inl rfl) h
   ·exact Ao (d:=some (f::acc)) J (.inr rfl) h
  ·cases J
theorem Eh{draw:Bool}(O:P.follows .mixedOrders=true)(G:DL P N ops draw s=some s')(h:Q .normal s'):Ex P N ro (.region id ops draw) s Q:=by
 unfold DL at G;split at G
 ·rename_i s1 acc J;cases draw with
 |false =>
   simp only[Bool.false_eq_true,if_false,QW] at G;subst G;exact zg (Eg (b:=false) J (show Yl P N ops Q [] s1 from h))
 |true =>
   simp only[if_true] at G;split at G
   ·rename_i hc;simp only[ZG] at hc;simp only[QW] at G;subst G;exact nH O hc.2 (Eg (b:=true) J (show KX P N ops Q [] acc s1 from⟨hc.1,h⟩))
   ·cases G
 ·cases G
end
def dOf(dr:Bool)(acc:List YA):Option (List YA):=cond dr (some acc) none
structure KU{R:Type}(o:Option R)(P:Program)(N:Nat)(ops:Array Oper)(Q:R→AX→St→Prop)(dr:Bool)(acc:List YA)(l:List Oper)(s:St):Prop where
 intro ::
 h:∀r,o=some r→XR P N ops (Q r) (dOf dr acc) l s
def Qft(P:Program)(N:Nat)(ops:Array Oper)(k:Nat)(l:List Oper)(s:St):St:=match runs P N ops k l s [] with|some (s',_)=>s'|none=>s
def runF(P:Program)(N:Nat)(ops:Array Oper)(k:Nat)(l:List Oper)(s:St)(acc:List YA):List YA:=match runs P N ops k l s acc with|some (_,a)=>a|none=>[]
def Qhv(P:Program)(N:Nat)(ops:Array Oper)(k:Nat)(l:List Oper)(s:St):Bool:=(runs P N ops k l s []).isSome
theorem IX{P:Program}{N:Nat}{ops:Array Oper}:∀(k:Nat) (l:List Oper) (s:St) (acc:List YA),runs P N ops k l s acc=(runs P N ops k l s []).map fun p=>(p.1,p.2++acc)
|0,l,s,acc=>by simp[runs]
|k+1,[],s,acc=>by simp[runs]
|k+1,o::l,s,acc=>by
  simp only[runs];cases step1 P N ops o s with
 |none=>rfl
 |some p =>
   obtain⟨s',f⟩:=p;simp only;rw[IX k l s' (f::acc),IX k l s' [f]];simp[Option.map_map,Function.comp_def]
theorem Rz(dr:Bool)(acc:List YA)(f:YA):more (dOf dr acc) f=dOf dr (f::acc):=by cases dr<;>rfl
section
variable {R V:Type}{a a1 a2:Option R}{P:Program}{N:Nat}{ro:Option Nat}{ops:Array Oper}{o:Oper}{l:List Oper}{dr:Bool}{acc:List YA}{s s':St}{Q:R→AX→St→Prop}{y:Code}{id:Nat}{draw:Bool}
theorem sR(O:P.follows .mixedOrders=true)(K:GA)(s':St)(U:(DL P N ops draw s).bind (FI K)=some s')(h:Q3 a P N ro y s' Q):Q3 a P N ro (.seq (.region id ops draw) y) s Q:=by
 obtain⟨s1,G,J⟩:=PS.1 U;refine⟨fun r W=>?_⟩;exact kz (Eh O G (Lu (Uf J) (h.h r W)))
theorem aQ(O:P.follows .mixedOrders=true)(G:DL P N ops draw s=some s1)(h:ZC a Q .normal s1):Q3 a P N ro (.region id ops draw) s Q:=⟨fun r J=>Eh O G (h.h r J)⟩
def Sr(P:Program)(N:Nat)(ops:Array Oper)(draw:Bool)(s:St):St:=(DL P N ops draw s).getD s
theorem sL(O:P.follows .mixedOrders=true)(h:ZC a Q .normal (Sr P N ops draw s))(J:(DL P N ops draw s).isSome=true:=by kernel_rfl):Q3 a P N ro (.region id ops draw) s Q:=by
 obtain⟨s1,G⟩:=RY.1 J;refine aQ O G ?_;have e:Sr P N ops draw s=s1:=by simp[Sr,G]
 rw[←e];exact h
theorem sG(h:KU a P N ops Q false [] ops.toList s):Q3 a P N ro (.region id ops false) s Q:=⟨fun r G=>zg (h.h r G)⟩
theorem Vd(O:P.follows .mixedOrders=true)(G:U5 ops=true)(h:KU a P N ops Q true [] ops.toList s):Q3 a P N ro (.region id ops true) s Q:=⟨fun r J=>nH O G (h.h r J)⟩
theorem xR(k:Nat)(h:KU a P N ops Q dr (runF P N ops k l s acc) (l.drop k) (Qft P N ops k l s))(Y:Qhv P N ops k l s=true:=by kernel_rfl):KU a P N ops Q dr acc l s:=by
 refine⟨fun r Z=>?_⟩;obtain⟨⟨s1,f⟩,J⟩:=RY.1 Y;have G:=h.h r Z;have W:Qft P N ops k l s=s1:=by simp[Qft,J]
 rw[W] at G;have O:=IX (P:=P) (N:=N) (ops:=ops) k l s acc;rw[J] at O;have U:runF P N ops k l s acc=f++acc:=by simp[runF,O]
 rw[U] at G;cases dr with
|false=>exact Ao (d:=none) J (.inl rfl) G
|true=>exact Ao (d:=some acc) O (.inr rfl) G
theorem xE(h:ZC a Q .normal s):KU a P N ops Q false acc [] s:=⟨fun r G=>h.h r G⟩
theorem YM(h:ZC a Q .normal s)(hc:KE ops acc.reverse=true:=by kernel_rfl):KU a P N ops Q true acc [] s:=⟨fun r G=>⟨hc,h.h r G⟩⟩
theorem xS(b:Bool)(G:b=true→KU a1 P N ops Q dr acc l s)(J:b=false→KU a2 P N ops Q dr acc l s):KU (cond b a1 a2) P N ops Q dr acc l s:=by
 cases b
 ·exact J rfl
 ·exact G rfl
def Qcf(P:Program)(ops:Array Oper)(o:Oper)(s:St):KN:=(Jy P o (look (Zm ops o s.T true)) (look s.H)).getD (.p (.val undef),none,[])
theorem xO(hw:ZB ops o (look s.T)=some true)(h:KU a P N ops Q dr (IV (Qcf P ops o s)::acc) l (nxt ops o s (Qcf P ops o s)))(hp:(plain o.op&&(Jy P o (look (Zm ops o s.T true)) (look s.H)).isSome&&KD N o.dst)=true:=by kernel_rfl):KU a P N ops Q dr acc (o::l) s:=by
 simp only[ZG] at hp;obtain⟨u,hu⟩:=RY.1 hp.1.2;have e:Qcf P ops o s=u:=by simp[Qcf,hu]
 rw[e] at h;exact⟨fun r G=>Bh hw hp.1.1 hu hp.2 (Rz dr acc _▸h.h r G)⟩
theorem xN(hw:ZB ops o (look s.T)=some false)(h:KU a P N ops Q dr ((none,[])::acc) l (St.put (mk ops o s false) o.dst (.p (.val undef))))(G:KD N o.dst=true:=by kernel_rfl):KU a P N ops Q dr acc (o::l) s :=
 ⟨fun r J=>jd hw G (Rz dr acc _▸h.h r J)⟩
theorem QC{b:Bool}(J:b=true)(G:ZB ops o (look s.T)=some (b==true):=by kernel_rfl):ZB ops o (look s.T)=some true:=by rw[G,J];rfl
theorem QP{b:Bool}(J:b=false)(G:ZB ops o (look s.T)=some (b==false):=by kernel_rfl):ZB ops o (look s.T)=some true:=by rw[G,J];rfl
theorem QD{b:Bool}(J:b=false)(G:ZB ops o (look s.T)=some (b==true):=by kernel_rfl):ZB ops o (look s.T)=some false:=by rw[G,J];rfl
theorem QQ{b:Bool}(J:b=true)(G:ZB ops o (look s.T)=some (b==false):=by kernel_rfl):ZB ops o (look s.T)=some false:=by rw[G,J];rfl
theorem xF{c:Bool}{u:KN}(hu:c=true→Jy P o (look (Zm ops o s.T true)) (look s.H)=some u)(h:KU a P N ops Q dr (IV u::acc) l (nxt ops o s u))(hw:ZB ops o (look s.T)=some true:=by kernel_rfl)(hp:(plain o.op&&KD N o.dst)=true:=by kernel_rfl):KU (cond c a none) P N ops Q dr acc (o::l) s:=by
 simp only[ZG] at hp;refine⟨fun r G=>?_⟩;cases c with
|false=>cases G
|true=>exact Bh hw hp.1 (hu rfl) hp.2 (Rz dr acc _▸h.h r G)
theorem xG{m:Option V}{k:V→Option R}{u:V→KN}(hu:∀v,m=some v→Jy P o (look (Zm ops o s.T true)) (look s.H)=some (u v))(h:∀v,KU (k v) P N ops Q dr (IV (u v)::acc) l (nxt ops o s (u v)))(hw:ZB ops o (look s.T)=some true:=by kernel_rfl)(hp:(plain o.op&&KD N o.dst)=true:=by kernel_rfl):KU (m.bind k) P N ops Q dr acc (o::l) s:=by
 simp only[ZG] at hp;refine⟨fun r O=>?_⟩;obtain⟨v,J,G⟩:=PS.1 O;exact Bh hw hp.1 (hu v J) hp.2 (Rz dr acc _▸(h v).h r G)
theorem Kc{u:KN}(hu:Jy P o (look (Zm ops o s.T true)) (look s.H)=some u)(h:KU a P N ops Q dr (IV u::acc) l (nxt ops o s u))(hw:ZB ops o (look s.T)=some true:=by kernel_rfl)(hp:(plain o.op&&KD N o.dst)=true:=by kernel_rfl):KU a P N ops Q dr acc (o::l) s:=by
 simp only[ZG] at hp;exact⟨fun r G=>Bh hw hp.1 hu hp.2 (Rz dr acc _▸h.h r G)⟩
end
structure TW{R:Type}(a:Option R)(K:R→St→Prop)(s:St):Prop where
 intro ::
 h:∀r,a=some r→K r s
structure BA{R:Type}(a:Option R)(P:Program)(N:Nat)(f:FuncId)(args:List AV)(dst:Option Tmp)(s:St)(K:R→St→Prop)(Q:R→AX→St→Prop):Prop where
 intro ::
 h:∀r,a=some r→LV P N f args dst s (K r) (Q r)
def fKr{R:Type}(P:Program)(N:Nat)(ops:Array Oper)(Q:R→AX→St→Prop)(l:List Oper):R→St→Prop:=fun r s=>XR P N ops (Q r) none l s
def fKq{R:Type}(Q:R→AX→St→Prop):R→St→Prop:=fun r s=>Q r .normal s
section
variable {R V E:Type}{a a1 a2:Option R}{P:Program}{N:Nat}{ro:Option Nat}{ops:Array Oper}{o:Oper}{l:List Oper}{dr:Bool}{acc:List YA}{s s':St}{Q:R→AX→St→Prop}{K:R→St→Prop}{f:FuncId}{args args':List AV}{dst:Option Tmp}
theorem kr(h:KU a P N ops Q false acc l s):TW a (fKr P N ops Q l) s:=⟨fun r G=>h.h r G⟩
theorem Y1(h:KU a P N ops Q false [] l s):TW a (fKr P N ops Q l) s:=⟨fun r G=>h.h r G⟩
theorem kqn(h:ZC a Q .normal s):TW a (fKq Q) s:=⟨fun r G=>h.h r G⟩
def DN:Op→Bool|.call ⟨.value _,_,_⟩=>true|_=>false
theorem LY{op:Op}{p:FuncId×List AV}(h:Ki T op=some p):DN op=true:=by
 unfold Ki at h;split at h
 ·rfl
 ·rfl
 ·cases h
theorem JA{op:Op}{p:FuncId×List AV}(h:Ki T op=some p):yieldOf T op=none:=by
 unfold yieldOf;split
 ·rename_i t G ts;split
  ·rename_i b hb;simp[Ki,hb] at h
  ·rfl
 ·rfl
theorem XW{P:Program}{N:Nat}{o:Oper}{s:St}{K:St→Prop}{Q:AX→St→Prop}{f:FuncId}{args:List AV}(hf:Ki (look s.T) o.op=some (f,args))(hb:Y6 P f=true)(h:LV P N f args o.dst s K Q):Ua P N o s K Q:=by
 unfold Ua;split
 ·rename_i G;rw[G] at hf;simp[Ki] at hf
 ·rename_i G;rw[G] at hf;simp[Ki] at hf
 ·rename_i g O ts G;rw[G] at hf;rw[hf];exact⟨hb,h⟩
 ·rename_i W U J;have:=LY hf;unfold DN at this;split at this
  ·rename_i G;exact absurd G (J _ _ _)
  ·cases this
theorem ZT(hw:ZB ops o (look s.T)=some true)(hf:Ki (look (Zm ops o s.T true)) o.op=some (f,args))(hb:Y6 P f=true)(h:BA a P N f args o.dst (mk ops o s true) (fKr P N ops Q l) Q):KU a P N ops Q false acc (o::l) s:=by
 refine⟨fun r G=>?_⟩;show Yl P N ops (Q r) (o::l) s;simp only[Yl,hw,ZY,JA hf];exact XW hf hb (h.h r G)
theorem dW(hw:ZB ops o (look s.T)=some true)(hf:Ki (look (Zm ops o s.T true)) o.op=some (f,args))(hb:(Y6 P f&&Xy ops acc.length&&KE ops acc.reverse)=true)(h:BA a P N f args o.dst (mk ops o s true) (fKq Q) Q):KU a P N ops Q true acc [o] s:=by
 refine⟨fun r U=>?_⟩;simp only[ZG] at hb;show KX P N ops (Q r) [o] acc s;simp only[KX,hw,ZY];split
 ·rename_i G;rw[G] at hf;simp[Ki] at hf
 ·rename_i g O ts G;exact .inr (.inl ⟨rfl,hb.1.2,hb.2,XW hf hb.1.1 (h.h r U)⟩)
 ·rename_i G;rw[G] at hf;simp[Ki] at hf
 ·rename_i Y J W;have:=LY hf;unfold DN at this;split at this
  ·rename_i G;exact absurd G (J _ _ _)
  ·cases this
theorem Tn(hi:DN o.op=true)(h:KU a P N ops Q false [] (o::l) s)(hw:ZB ops o (look s.T)=some true:=by kernel_rfl)(hb:(Xy ops acc.length&&KE ops acc.reverse&&LF ops acc.length&&wN ops s (o::l))=true:=by kernel_rfl):KU a P N ops Q true acc (o::l) s:=by
 refine⟨fun r U=>?_⟩;simp only[ZG] at hb;have J:Yl P N ops (Q r) (o::l) s:=h.h r U;show KX P N ops (Q r) (o::l) acc s;simp only[KX,hw,ZY];split
 ·rename_i G;rw[G] at hi;simp[DN] at hi
 ·exact .inr (.inr (.inl ⟨hb.1.1.1,hb.1.1.2,hb.1.2,hb.2,J⟩))
 ·rename_i G;rw[G] at hi;simp[DN] at hi
 ·rename_i J O W;unfold DN at hi;split at hi
  ·rename_i G;exact absurd G (O _ _ _)
  ·cases hi
theorem xC{m:Option V}{k:V→Option R}{X:V→AV}(C:List Conv)(hc:∀v,m=some v→Za P f args' (.ret (X v)))(U:∀v,Yk (X v)=true)(h:∀v,KU (k v) P N ops Q dr ((none,[])::acc) l (St.put (mk ops o s true) o.dst (X v)))(hw:ZB ops o (look s.T)=some true:=by kernel_rfl)(hf:(Ki (look (Zm ops o s.T true)) o.op).map (fun p=>(p.1,SS C p.2))=some (f,args'):=by kernel_rfl)(hb:(Y6 P f&&KD N o.dst&&Y5 args')=true:=by kernel_rfl):KU (m.bind k) P N ops Q dr acc (o::l) s:=by
 refine⟨fun r Y=>?_⟩;obtain⟨v,O,J⟩:=PS.1 Y;obtain⟨⟨f0,args⟩,hcall,hp⟩:=GU.1 hf;simp only[Xu] at hp;obtain⟨rfl,rfl⟩:=hp;simp only[ZG] at hb;cases dr with
|false =>
  show Yl P N ops (Q r) (o::l) s;simp only[Yl,hw,ZY,JA hcall];exact XW hcall hb.1.1 (P9 (hc v O) (Ue C args) hb.2 (U v) (Z7 hb.1.2) ((h v).h r J))
|true =>
  show KX P N ops (Q r) (o::l) acc s;simp only[KX,hw,ZY];split
  ·rename_i G;rw[G] at hcall;simp[Ki] at hcall
  ·rename_i g Z ts G;rw[G] at hcall;exact Qcb (hc v O) hcall hb.1.1 hb.1.2 (Ue C args) hb.2 (U v) ((h v).h r J)
  ·rename_i G;rw[G] at hcall;simp[Ki] at hcall
  ·rename_i h1 W h3;have:=LY hcall;unfold DN at this;split at this
   ·rename_i G;exact absurd G (W _ _ _)
   ·cases this
def gu(X:V→AV)(Y:E→AV):Except E V→Kw|.ok v=>.ret (X v)|.error e=>.panic (Y e)
theorem NG{m:Option V}{k:V→Option R}{X:V→AV}(C:List Conv)(hc:∀v,m=some v→Za P f args' (.ret (X v)))(J:SS C args=args')(hb:(KD N dst&&Y5 args')=true)(U:∀v,Yk (X v)=true)(h:∀v,TW (k v) K (s.put dst (X v))):BA (m.bind k) P N f args dst s K Q:=by
 refine⟨fun r W=>?_⟩;obtain⟨v,O,G⟩:=PS.1 W;simp only[ZG] at hb;subst J;exact P9 (hc v O) (Ue C args) hb.2 (U v) (Z7 hb.1) ((h v).h r G)
theorem Qfu{m:Option (Except E V)}{k:Except E V→Option R}{X:V→AV}{Y:E→AV}(C:List Conv)(hc:∀v,m=some v→Za P f args' (gu X Y v))(O:SS C args=args')(hb:(KD N dst&&Y5 args')=true)(hx:∀v,Yk (X v)=true)(hy:∀e,Yk (Y e)=true)(h:∀v,TW (k (.ok v)) K (s.put dst (X v)))(W:∀e,ZC (k (.error e)) Q (.panic (Y e)) s):BA (m.bind k) P N f args dst s K Q:=by
 refine⟨fun r U=>?_⟩;obtain⟨v,Z,J⟩:=PS.1 U;simp only[ZG] at hb;subst O;have G:=hc v Z;cases v with
|ok v=>exact P9 G (Ue C args) hb.2 (hx v) (Z7 hb.1) ((h v).h r J)
|error e=>exact SI G (Ue C args) hb.2 (hy e) ((W e).h r J)
def Ll{E V R:Type}(k:V→Option R)(e:E→Option R):Except E V→Option R|.ok v=>k v|.error x=>e x
theorem LZ{m:Option (Except E V)}{k:V→Option R}{ke:E→Option R}{X:V→AV}{Y:E→AV}(C:List Conv)(hc:∀v,m=some v→Za P f args' (gu X Y v))(O:∀v,Yk (X v)=true)(J:∀e,Yk (Y e)=true)(h:∀v,KU (k v) P N ops Q false ((none,[])::acc) l (St.put (mk ops o s true) o.dst (X v)))(G:∀e,ZC (ke e) Q (.panic (Y e)) (mk ops o s true))(hw:ZB ops o (look s.T)=some true:=by kernel_rfl)(hf:(Ki (look (Zm ops o s.T true)) o.op).map (fun p=>(p.1,SS C p.2))=some (f,args'):=by kernel_rfl)(hb:(Y6 P f&&KD N o.dst&&Y5 args')=true:=by kernel_rfl):KU (m.bind (Ll k ke)) P N ops Q false acc (o::l) s:=by
 obtain⟨⟨f0,args⟩,hcall,hp⟩:=GU.1 hf;simp only[Xu] at hp;obtain⟨rfl,hp⟩:=hp;simp only[ZG] at hb;exact ZT hw hcall hb.1.1 (Qfu C hc hp (by simp[hb]) O J (fun v=>kr (h v)) G)
theorem xPa(t:TypeId)(v:AV)(hw:ZB ops o (look s.T)=some true)(G:o.op=.panic x)(J:Zo (look (Zm ops o s.T true)) x=some (.ifc t v))(h:ZC a Q (.panic (.ifc t v)) (mk ops o s true)):KU a P N ops Q false acc (o::l) s:=by
 refine⟨fun r U=>?_⟩;show Yl P N ops (Q r) (o::l) s;have O:yieldOf (look (Zm ops o s.T true)) o.op=none:=by simp[yieldOf,G]
 simp only[Yl,hw,ZY,O];show Ua P N o _ _ _;unfold Ua;simp only[G,J];exact h.h r U
def Qfv(P:Program)(fn:Func)(X:R→Kw):R→AX→St→Prop:=fun r=>aC P fn (·=X r)
def WN:Kw→AV|.ret y=>y|.panic y=>y
theorem qR{X:V→Kw}{v:V}(C:Conv)(h:(DF P fn (look s.T) (look s.H)).map (cv C)=some (WN (X v)):=by kernel_rfl)(J:X v=.ret (WN (X v)):=by kernel_rfl)(O:Yk (WN (X v))=true:=by kernel_rfl):ZC (some v) (Qfv P fn X) .ret s:=by
 refine⟨fun r W=>?_⟩;cases W;obtain⟨x,U,G⟩:=GU.1 h;exact⟨x,WN (X v),U,G▸jb C x,O,J.symm⟩
theorem je{X:V→Kw}{v:V}(J:X v=.panic p:=by kernel_rfl)(G:Yk p=true:=by kernel_rfl):ZC (some v) (Qfv P fn X) (.panic p) s:=by
 refine⟨fun r O=>?_⟩;cases O;exact⟨G,J.symm⟩
theorem Qv{X:R→Kw}(hf:P.funcs[f]?=some fn)(hb:fn.body=some c)(J:fn.ntmps=n)(O:Nat.ble args.length n=true)(h:Q3 a P n none c ⟨Jz 0 args,[]⟩ (Qfv P fn X))(r:R)(G:a=some r):Za P f args (X r):=by
 subst J;exact wR hf hb (Nat.le_of_ble_eq_true O) (h.h r G)
end
def QV{α:Type}(l:List α)(i:Int):Option α:=if i<0 then none else l[i.toNat]?
section
variable {P:Program}{o:Oper}{T:Nat→Option AV}{h:QN}
theorem Qcg{k k':IntKind}{a b:Int}(G:o.op=.binOp .shl tx x y ty)(O:Zo T x=some (.p (.val (.int k a))))(J:Zo T y=some (.p (.val (.int k' b))))(hc:(!QR b 0)=true) :
  Jy P o T h=some (.p (.val (.int k (kH k a b))),none,[]):=by
 have hb:¬b<0:=by simpa [QR] using hc
 simp[Jy,G,Ib,O,J,R7,Nj,hb,TL]
abbrev wi(x:Int):Int:=IntKind.i64.wrap x
abbrev wu(x:Int):Int:=IntKind.u64.wrap x
abbrev w8(x:Int):Int:=IntKind.u8.wrap x
abbrev Qb{α:Type}(l:List α):Int:=(l.length:Int)
abbrev ZQ(x:UInt8):Int:=(x.toNat:Int)
theorem Zg{t:TypeId}{S:Nat}{l:List α}{k:IntKind}{n:Int}(Y:o.op=.indexAddr t x ix)(Z:Zo T ix=some (.p (.val (.int k n))))(hx:Zo T x=some sv)(hs:elems sv=some (S,List.map enc l))(ht:P.underlying t=some (.slice e))(hi:(P.info? e).map (·.size)=some S)(v:α)(G:QV l n=some v):Jy P o T h=some (.eptr (enc v),none,[]):=by
 unfold QV at G;split at G
 ·cases G
 ·rename_i W;obtain⟨i,O,J⟩:=GU.1 hi
  have U:nk (some sv)=false:=by
   cases sv with
  |p x=>rfl
  |tsl S es t=>rfl
  |_=>cases hs
  have h0:0≤n:=by omega
  simp[Jy,Y,TL,hx,U,UJ,Z,ht,hs,O,J,h0,G]
def Zt(x:List PV):List PV:=x
theorem WU(l:List (List PV)):List.map Zt l=l:=List.map_id l
theorem ZU{t:TypeId}{S:Nat}{dec:List PV→Option α}{l:List (List PV)}{k:IntKind}{n:Int}(Z:∀r v,dec r=some v→enc v=r)(G:o.op=.indexAddr t x ix)(O:Zo T ix=some (.p (.val (.int k n))))(W:Zo T x=some sv)(hs:elems sv=some (S,List.map Zt l))(Y:P.underlying t=some (.slice e))(hi:(P.info? e).map (·.size)=some S)(v:α)(hv:(QV l n).bind dec=some v):Jy P o T h=some (.eptr (enc v),none,[]):=by
 obtain⟨r,U,J⟩:=PS.1 hv;rw[Z r v J];exact Zg G O W hs Y hi r U
theorem Xj{t:TypeId}{l:List UInt8}{k:IntKind}{n:Int}(O:o.op=.index t x ix)(Y:Zo T ix=some (.p (.val (.int k n))))(U:Zo T x=some (.p (.val (.string (Je l)))))(W:P.underlying t=some .string)(v:UInt8)(G:QV l n=some v):Jy P o T h=some (.p (.val (.int .u8 v.toNat)),none,[]):=by
 unfold QV at G;split at G
 ·cases G
 ·rename_i J;have h0:0≤n:=by omega
  simp[Jy,O,TL,PX,C8,U,Y,W,h0,R6,G]
end
end Go.Abs
