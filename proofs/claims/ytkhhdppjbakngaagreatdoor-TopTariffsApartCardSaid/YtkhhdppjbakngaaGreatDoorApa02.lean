/-
  A part of the proof of a statement of the seat YtkhhdppjbakngaaGreatDoor.
-/
import Derived.Test.YtkhhdppjbakngaaGreatDoorApa01
set_option linter.unusedVariables false
namespace Go.Abs
open Go
variable {D:DB}{H:List (Nat×Blk)}{K:St→Prop}{M M' M0:ZM}{N:Nat}{P:Program}{Q:AX→St→Prop}{Q':Exit→Act→World→Prop}{R:Ku→QO→Prop}{T T':Nat→Option AV}{a:Act}{args args':List AV}{b:Nat}{body c:Code}{d:Nat}{dst:Option Tmp}{e:TypeId}{α:Type}{enc:α→List PV}{f:FuncId}{fn:Func}{g:FuncId}{h h' h0:QO}{hc hc':List (Nat×Blk)}{i id:Nat}{ix:Operand}{n:Nat}{nf:R3}{o:Oper}{off:Nat}{ok:Bool}{ops:Array Oper}{p:AV}{pd:Option Code}{ro:Option Nat}{s s' s1:St}{st:LoopState}{sv:AV}{tx ty:TypeId}{v:Value}{w w' w'' w0:World}{x y:Operand}{β:Type}{ρ φ φ' φ0:Nat→Nat}
theorem EN{x:AV}(hc:Q9 P f args' (.panic x))(W:MW args args')(hn:Y0 args'=true)(O:Yf x=true)(hk:Q (.panic x) s):F5 P N f args dst s K Q:=by
 intro φ M0 D a w vs r Z;have hH:ZQ φ Fz w (MB φ (look s.H) w M0):=UW (fun x o hm=>vJ hm) r.hp.gm.w r.hp.gm.mb;have hM:∀r o v,w.cell? ⟨r,o,none⟩=some v→¬MM φ (look s.H) M0 r o→w.cell? ⟨r,o,none⟩=some v∧¬MM φ Fz (MB φ (look s.H) w M0) r o:=fun r o v G J=>⟨G,fun U=>U.elim Wu (fun h4=>J h4.1)⟩
 refine(hc φ (MB φ (look s.H) w M0) w vs hH ((WQ hM).2 _ _ hn (JG.2 _ _ _ W Z))).mono ?_;rintro e w' ⟨φ',r',h',⟨rfl,rfl⟩,aa,E,v,rfl,hv⟩;have Y:∀ro o v,w'.cell? ⟨ro,o,none⟩=some v→¬MM φ' Fz (MB φ (look s.H) w M0) ro o→w'.cell? ⟨ro,o,none⟩=some v∧¬MM (KZ φ w.heap.size (w'.heap.size-w.heap.size)) (look s.H) M0 ro o:=fun ro o v G J=>⟨G,Sn r.hp E.size G (fun U=>J (.inr U))⟩
 obtain⟨r,E1,X1,hC⟩:=r.lift (w'.heap.size-w.heap.size);obtain⟨E2,X2,H2⟩:=Ul E.os E.tape E.output E.size (fun x O=>E.same x O (fun b hb=>absurd rfl hb)) r.hp hC;have r2:Zo _ M0 N D (look s.T) (look s.H) a w':=r.keep E2 X2 H2;exact⟨_,.panic x,s,hk,r2,E1.trans E2,v,rfl,(WQ Y).1 _ _ O hv⟩
def ZH(ops:Array Oper)(o:Oper)(T:Nat→Option AV):Option Bool :=
 match o.guard with
|none=>some true
|some (j,want) =>
  match ops[j]? with
 |some G=>match G.dst with
  |some d=>match T d with
   |some (.p (.val (.bool b)))=>some (b==want)
   |some (.p (.val (.tuple _)))=>some false
   |_=>none
  |none=>some false
 |none=>some false
theorem GX(r:Zo φ M0 N D T h a w){t:Bool}(G:ZH ops o T=some t) :
  Region.wanted o (yielded ops a.tmps)=t:=by
 unfold ZH at G;unfold Region.wanted;split at G
 ·simp only[Q0] at G;subst G;simp[*]
 ·rename_i j want Z;simp only[Z];split at G
  ·rename_i oj O;split at G
   ·rename_i d U;split at G
    ·rename_i b hb;simp only[Q0] at G;subst G;obtain⟨W,J⟩:=r.tm d _ hb;simp only[Qe,QM] at J;have hlt:d<a.tmps.size:=by rw[r.siz];exact W
     have Y:a.tmps[d]?=some (.bool b):=by
      rw[Array.getElem?_eq_getElem hlt];rw[Array.getD_eq_getD_getElem?,Array.getElem?_eq_getElem hlt] at J;simpa using J
     simp[yielded,O,U,Y]
    ·rename_i vs hb;simp only[Q0] at G;subst G;obtain⟨W,J⟩:=r.tm d _ hb;simp only[Qe,QM] at J;have hlt:d<a.tmps.size:=by rw[r.siz];exact W
     have Y:a.tmps[d]?=some (.tuple vs):=by
      rw[Array.getElem?_eq_getElem hlt];rw[Array.getD_eq_getD_getElem?,Array.getElem?_eq_getElem hlt] at J;simpa using J
     simp[yielded,O,U,Y]
    ·cases G
   ·rename_i U;simp only[Q0] at G;subst G;simp[yielded,O,U]
  ·rename_i O;simp only[Q0] at G;subst G;simp[yielded,O]
def Zm(ops:Array Oper)(o:Oper)(T:List (Nat×AV))(t:Bool):List (Nat×AV) :=
 match o.guard with
|none=>T
|some (j,want) =>
  match ops[j]? with
 |some G=>match G.dst with
  |some d=>match look T d with
   |some (.p (.val (.bool _)))=>(d,.p (.val (.bool (if t then want else !want))))::T
   |_=>T
  |none=>T
 |none=>T
theorem Um{T:List (Nat×AV)}{t:Bool}(G:ZH ops o (look T)=some t):look (Zm ops o T t)=look T:=by
 unfold ZH at G;unfold Zm;cases hg:o.guard with
|none=>rfl
|some p =>
  obtain⟨j,want⟩:=p;simp only[hg] at G;cases hj:ops[j]? with
 |none=>simp only[hj]
 |some J =>
   simp only[hj] at G ⊢;cases hd:J.dst with
  |none=>simp only
  |some d =>
    simp only[hd] at G ⊢;split at G
    ·rename_i b hb;simp only[Q0] at G;subst G;simp only[hb];funext x;simp only[look];by_cases e:d=x
     ·subst e;simp only[if_true,hb];cases b<;>cases want<;>rfl
     ·simp[e]
    ·rename_i O hb;simp only[hb]
    ·cases G
def Kg(T:Nat→Option AV):Op→Option (FuncId×List AV)
|.call ⟨.value (.func f),args,_⟩=>match Pj T args.toList with|some G=>some (f,G)|none=>none
|.call ⟨.value (.tmp t),args,_⟩ =>
  match T t,Pj T args.toList with
 |some (.fn (.func f) l m),some G=>some (f,l++G++m)
 |some (.p (.val (.func (.func f) l m))),some G=>some (f,(l.toList.map fun c=>.p (.val c))++G++(m.toList.map fun c=>.p (.val c)))
 |_,_=>none
|_=>none
def F6(b:Bool)(A B:Prop):Prop:=(b=true→A)∧(b=false→B)
theorem ZX(A B:Prop):F6 true A B=A:=by simp[F6]
theorem HV(A B:Prop):F6 false A B=B:=by simp[F6]
theorem UX{b:Bool}{A B C:Prop}(h:F6 b A B)(G:b=true→A→C)(J:b=false→B→C):C:=by
 cases b
 ·exact J rfl (h.2 rfl)
 ·exact G rfl (h.1 rfl)
def JH(s:St)(dst:Option Tmp)(u:KL):St:=⟨match dst with|some d=>(d,u.1)::s.T|none=>s.T,match u.2.1 with|some G=>G::s.H|none=>s.H⟩
def KA(N:Nat):Option Tmp→Bool|none=>true|some d=>decide (d<N)
def AP(N:Nat)(o:Oper)(s:St)(K:St→Prop):Option KL→Prop|some u=>KA N o.dst=true∧K (JH s o.dst u)|none=>False
def Y1(P:Program)(f:FuncId):Bool:=(P.funcs[f]?).any (fun fn=>fn.body.isSome&&fn.name != "runtime.NumGoroutine")
def fo(P:Program)(N:Nat)(o:Oper)(s:St)(K:St→Prop):Prop :=(∀c,o.op≠.defer c)∧KA N o.dst=true∧∀φ M0 D a w,Zo φ M0 N D (look s.T) (look s.H) a w→∃x s',look s'.T=look s.T∧K (St.put s' o.dst x)∧Yield P o φ M0 (look s.H) a w x (look s'.H)
def XG(P:Program)(N:Nat)(o:Oper)(s:St)(K:St→Prop)(Q:AX→St→Prop):Prop :=
 match o.op with
|.pick c x y=>match Zp (look s.T) c with
 |some (.p (.val (.bool b)))=>F6 b (AP N o s K (V4 (look s.T) x)) (AP N o s K (V4 (look s.T) y))
 |_=>False
|.panic x=>match Zp (look s.T) x with|some (.ifc t v)=>Q (.panic (.ifc t v)) s|_=>False
|.call ⟨.value f,args,ts⟩=>match Kg (look s.T) (.call ⟨.value f,args,ts⟩) with
 |some (f,args)=>Y1 P f=true∧F5 P N f args o.dst s K Q
 |none=>False
|_=>AP N o s K (Jb P o (look s.T) (look s.H))∨fo P N o s K
def YAt(P:Program)(l:Nat)(args:Array Value)(w:World)(R:Ending→World→Prop):Prop:=YieldAt Fence.wide 0 P l args w R
def lT(P:Program)(b:Nat)(args:List AV)(h:QO)(R:Ku→QO→Prop):Prop :=∀φ M0 w G,ZQ φ h w M0→Qg φ h w (MM φ h M0) args G→YAt P (φ b) G.toArray w fun e w' =>∃φ' r h',R r h'∧ZQ φ' h' w' M0∧Q8 φ h w φ' h' w'∧lS φ' h' w' (MM φ' h' M0) r e
def YEx(P:Program)(N:Nat)(b:Nat)(args:List AV)(dst:Option Tmp)(s:St)(K:St→Prop)(Q:AX→St→Prop):Prop :=
 ∀φ M0 D a w G,Zo φ M0 N D (look s.T) (look s.H) a w→Qg φ (look s.H) w (MM φ (look s.H) M0) args G→YAt P (φ b) G.toArray w fun e w' =>
  match e with
 |.returned v=>∃φ' s',K s'∧Zo φ' M0 N D (look s'.T) (look s'.H) (a.put dst v) w'∧Q8 φ (look s.H) w φ' (look s'.H) w'
 |.panicked chain=>Post N D Q φ M0 (look s.H) w (.panic chain) a w'
 |.outgrown=>False
def yieldOf(T:Nat→Option AV):Op→Option (Nat×List AV)
|.call ⟨.value (.tmp t),args,_⟩ =>
  match T t with
 |some (.yv b)=>match Pj T args.toList with|some G=>some (b,G)|none=>none
 |_=>none
|_=>none
def YOp(P:Program)(N:Nat)(o:Oper)(s:St)(K:St→Prop)(Q:AX→St→Prop):Option (Nat×List AV)→Prop|some (b,args)=>YEx P N b args o.dst s K Q|none=>XG P N o s K Q
def Yg(P:Program)(N:Nat)(ops:Array Oper)(Q:AX→St→Prop):List Oper→St→Prop
|[],s=>Q .normal s
|o::rest,s =>
  match ZH ops o (look s.T) with
 |some b=>F6 b (YOp P N o ⟨Zm ops o s.T true,s.H⟩ (Yg P N ops Q rest) Q (yieldOf (look (Zm ops o s.T true)) o.op)) (KA N o.dst=true∧Yg P N ops Q rest (St.put ⟨Zm ops o s.T false,s.H⟩ o.dst (.p (.val undef))))
 |none=>False
theorem Z7{d:Option Tmp}(G:KA N d=true):∀t,d=some t→t<N:=by
 rintro t rfl;simpa [KA] using G
theorem XH{args:Array Value}(hf:(P.funcs[f]?).any (fun fn=>fn.body.isSome&&fn.name != "runtime.NumGoroutine")=true):(callFunc f args).run P w=.ok (.enter f args) w:=by
 cases hq:P.funcs[f]? with
|none=>simp[hq] at hf
|some fn =>
  simp only[hq,Option.any_some,Z8,bne_iff_ne] at hf;have G:¬fn.body=none:=by intro hb;simp[hb] at hf
  simp[callFunc,program,Sem.run,hq,G,hf.2]
theorem Oper.wp_mono2{K K':Act→World→Prop}{Q:Exit→Act→World→Prop}(G:o.wp P a w K Q)(h:∀a w,K a w→K' a w)(O:∀e a w,Q e a w→Q' e a w):o.wp P a w K' Q':=by
 unfold Oper.wp at *;generalize (execOp a.eval o).run P w=r at *;cases r with
|ok n w' =>
  cases n<;>simp only[Oper.upon] at G ⊢ <;>
   first
   |exact h _ _ G
   |exact Calls.mono G (fun e w'' J=>by cases e<;>first|exact h _ _ J|exact O _ _ _ J|exact⟨_,_,O _ _ _ J.choose_spec.choose_spec⟩)
   |exact Rows.mono G (fun _ _ J=>h _ _ J)
|halt x w'=>cases x<;>simp only[Oper.upon] at G ⊢<;>exact O _ _ _ G
theorem Bo(r:Zo φ M0 N D T h a w)(hf:Kg T o.op=some (f,args))(hb:Y1 P f=true):∃W:List Value,Qg φ h w (MM φ h M0) args W∧(execOp a.eval o).run P w=.ok (.enter f W.toArray) w:=by
 unfold Kg at hf;split at hf
 ·rename_i f0 G ts Y;split at hf
  ·rename_i W J;simp only[Q0,XA] at hf;obtain⟨rfl,rfl⟩:=hf;refine⟨G.toList.map a.eval,GK r J,?_⟩;have e1:G.map a.eval=(G.toList.map a.eval).toArray:=by apply Array.ext';simp
   simp only[execOp,Y,resolve,Act.eval,Deferred.ofValue,Sem.run_bind,Sem.run_pure,Result.andThen_ok,invoke];rw[XH hb];congr 2;rw[←e1];simp
  ·cases hf
 ·rename_i t G ts Y;split at hf
  ·rename_i f0 l m W Z J;simp only[Q0,XA] at hf;obtain⟨rfl,rfl⟩:=hf;have U:=(r.tm t _ Z).2;simp only[Qe] at U;obtain⟨l',m',h3,h4,h5⟩:=U;refine⟨l'++G.toList.map a.eval++m',ZF (ZF h4 (GK r J)) h5,?_⟩;have O:a.eval (.tmp t)=.func (.func f0) l'.toArray m'.toArray:=h3;simp only[execOp,Y,resolve,O,Deferred.ofValue,Sem.run_bind,Sem.run_pure,Result.andThen_ok,invoke];rw[XH hb];congr 2;apply Array.ext';simp
  ·rename_i f0 l m W Z J;simp only[Q0,XA] at hf;obtain⟨rfl,rfl⟩:=hf;have U:=(r.tm t _ Z).2;simp only[Qe,QM] at U;refine⟨l.toList++G.toList.map a.eval++m.toList,ZF (ZF (GG _) (GK r J)) (GG _),?_⟩;have O:a.eval (.tmp t)=.func (.func f0) l m:=U;simp only[execOp,Y,resolve,O,Deferred.ofValue,Sem.run_bind,Sem.run_pure,Result.andThen_ok,invoke];rw[XH hb];congr 2;apply Array.ext';simp
  ·cases hf
 ·cases hf
theorem vK{u:KL}(hd:KA N o.dst=true)(O:K (JH s o.dst u))(Z:Yield P o φ M0 (look s.H) a w u.1 (ap (look s.H) u.2.1))(r:Zo φ M0 N D (look s.T) (look s.H) a w) :
  o.wp P a w (fun U w'=>∃φ' s',K s'∧Zo φ' M0 N D (look s'.T) (look s'.H) U w'∧Q8 φ (look s.H) w φ' (look s'.H) w') (Post N D Q φ M0 (look s.H) w):=by
 obtain⟨nx,v,w',φ',h1,Y,h3,h4,J,W⟩:=Z
 have G:look (JH s o.dst u).H=ap (look s.H) u.2.1:=by
  unfold JH ap;cases hq:u.2.1 with
 |none=>rfl
 |some bk=>rfl
 have r2:Zo φ' M0 N D (look (JH s o.dst u).T) (look (JH s o.dst u).H) (a.put o.dst v) w':=by
  have r3:Zo φ' M0 N D (look s.T) (ap (look s.H) u.2.1) a w':=r.keep J W h4;rw[G];have:=Zo.put (s:=⟨s.T,(JH s o.dst u).H⟩) (d:=o.dst) (x:=u.1) (v:=v) (by rw[G];exact r3) (Z7 hd) (by rw[G];exact h3);rw[←G];cases hq:o.dst with
 |none=>rw[hq] at this;exact this
 |some d=>rw[hq] at this;exact this
 unfold Oper.wp;rw[h1];rcases Y with rfl|⟨rfl,rfl⟩
 ·exact⟨φ',_,O,r2,by rw[G];exact J⟩
 ·exact⟨φ',_,O,r2,by rw[G];exact J⟩
theorem lU(h:fo P N o s K)(r:Zo φ M0 N D (look s.T) (look s.H) a w) :
  o.wp P a w (fun U w'=>∃φ' s',K s'∧Zo φ' M0 N D (look s'.T) (look s'.H) U w'∧Q8 φ (look s.H) w φ' (look s'.H) w') (Post N D Q φ M0 (look s.H) w):=by
 obtain⟨_,Z,h⟩:=h;obtain⟨x,s1,hT,O,nx,v,w',φ',h1,Y,h3,h4,G,W⟩:=h φ M0 D a w r;have r3:Zo φ' M0 N D (look s1.T) (look s1.H) a w':=by rw[hT];exact r.keep G W h4
 have r2:Zo φ' M0 N D (look (s1.put o.dst x).T) (look (s1.put o.dst x).H) (a.put o.dst v) w':=Zo.put (s:=s1) (d:=o.dst) (x:=x) (v:=v) r3 (Z7 Z) h3;have J:(s1.put o.dst x).H=s1.H:=by cases hq:o.dst<;>rfl
 unfold Oper.wp;rw[h1];rcases Y with rfl|⟨rfl,rfl⟩
 ·exact⟨φ',_,O,r2,by rw[J];exact G⟩
 ·exact⟨φ',_,O,r2,by rw[J];exact G⟩
theorem DV(h:XG P N o s K Q)(r:Zo φ M0 N D (look s.T) (look s.H) a w) :
  o.wp P a w (fun Y w'=>∃φ' s',K s'∧Zo φ' M0 N D (look s'.T) (look s'.H) Y w'∧Q8 φ (look s.H) w φ' (look s'.H) w') (Post N D Q φ M0 (look s.H) w):=by
 unfold XG at h;split at h
 ·rename_i c x y U;split at h
  ·rename_i b hc
   have G:∀z,AP N o s K (V4 (look s.T) z)→CK (look s.T) c x y=V4 (look s.T) z →
     o.wp P a w (fun Y w'=>∃φ' s',K s'∧Zo φ' M0 N D (look s'.T) (look s'.H) Y w'∧Q8 φ (look s.H) w φ' (look s'.H) w') (Post N D Q φ M0 (look s.H) w):=by
    intro z J hp;cases hm:V4 (look s.T) z with
   |none=>rw[hm] at J;exact J.elim
   |some u =>
     rw[hm] at J hp;have:=gU (P:=P) r U hp;exact vK J.1 J.2 (by rw[this.1];exact this.2.2) r
   refine UX h (fun hb J=>G x J ?_) (fun hb J=>G y J ?_)
   ·subst hb;simp[CK,hc]
   ·subst hb;simp[CK,hc]
  ·exact h.elim
 ·rename_i y U;split at h
  ·rename_i t v hv;have W:=r.ev hv;have O:=W;simp only[Qe] at O;obtain⟨z,h3,h4⟩:=O;unfold Oper.wp
   have:(execOp a.eval o).run P w=.halt (.panic (a.eval y)) w:=by
    simp[execOp,U,h3,Instr.panic,goPanic]
   rw[this];exact⟨φ,.panic (.ifc t v),s,h,r,Q8.refl _ _ _,_,rfl,W⟩
  ·exact h.elim
 ·rename_i f aa ts U;split at h
  ·rename_i f0 args hf;obtain⟨hb,hcall⟩:=h;obtain⟨vs,h1,W⟩:=Bo (o:=o) r (by rw[U];exact hf) hb;unfold Oper.wp;rw[W];simp only[Oper.upon];refine(hcall φ M0 D a w vs r h1).mono ?_;intro e w' Z;cases e with
  |returned v=>exact Z
  |panicked chain=>exact Z
  |outgrown=>exact Z.elim
  ·exact h.elim
 ·rcases h with h|h
  ·cases hu:Jb P o (look s.T) (look s.H) with
  |none=>rw[hu] at h;exact h.elim
  |some u=>rw[hu] at h;exact vK h.1 h.2 (lQ r hu) r
  ·exact lU h r
theorem QcS{K:Act→World→Prop}{Q:Exit→Act→World→Prop}(h:o.wp P a w K Q)(O:∀c,o.op≠.defer c):o.wpIn (wd ro) 0 P a w K Q:=by
 refine⟨fun _ _=>trivial,?_⟩;rw[Oper.semAt_eq _ _ _ O];unfold Oper.wp at h;generalize (execOp a.eval o).run P w=r at *;cases r with
|ok n w' =>
  cases n with
 |enter f args=>exact⟨(fun h=>by cases h),callsIn_wide.2 h⟩
 |row row args =>
   refine⟨(fun h=>by cases h),fun c cs _=>?_⟩;obtain⟨v,J,U,G⟩:=(h:Rows P row args w' _) c cs;exact⟨v,J,U,stepsIn_wide.2 G⟩
 |value v=>exact h
 |skip=>exact h
 |defer d=>exact h
 |_=>exact h.elim
|halt x w'=>cases x<;>first|exact h|exact h.elim
theorem lV(h:XG P N o s K Q):∀c,o.op≠.defer c:=by
 intro c G;unfold XG at h;simp only[G,Jb] at h;rcases h with h|h
 ·exact h
 ·exact h.1 _ G
theorem lW{K:Act→World→Prop}{Q:Exit→Act→World→Prop}{l:Nat}{args:Array Value}(O:(execOp a.eval o).run P w=(Instr.yield l args).run P w)(J:∀c,o.op≠.defer c)(h:YAt P l args w fun
  |.returned v,w''=>K (a.put o.dst v) w''
  |.panicked chain,w''=>Q (.panic chain) a w''
  |.outgrown,_=>LetsOut Q):o.wpIn (wd ro) 0 P a w K Q:=by
 refine⟨fun _ _=>trivial,?_⟩;rw[Oper.semAt_eq _ _ _ J,O];obtain⟨fn,tmps,assign,body,U,G⟩:=h;rw[U];exact⟨(fun h=>by cases h),G⟩
theorem vL(r:Zo φ M0 N D T h a w)(hf:yieldOf T o.op=some (b,args)) :
  ∃U:List Value,Qg φ h w (MM φ h M0) args U∧(execOp a.eval o).run P w=(Instr.yield (φ b) U.toArray).run P w∧∀c,o.op≠.defer c:=by
 unfold yieldOf at hf;split at hf
 ·rename_i t G ts W;split at hf
  ·rename_i b0 Z;split at hf
   ·rename_i U J;simp only[Q0,XA] at hf;obtain⟨rfl,rfl⟩:=hf;have Y:=(r.tm t _ Z).2;simp only[Qe] at Y;have O:a.eval (.tmp t)=.func (.yield (φ b0)) #[] #[]:=Y.1;refine⟨G.toList.map a.eval,GK r J,?_,fun c hc=>by rw[W] at hc;cases hc⟩;have e1:G.map a.eval=(G.toList.map a.eval).toArray:=by apply Array.ext';simp
    simp only[execOp,W,resolve,O,Deferred.ofValue,Sem.run_bind,Sem.run_pure,Result.andThen_ok,invoke];rw[←e1];simp
   ·cases hf
  ·cases hf
 ·cases hf
theorem Oper.wpIn_mono2{F:Fence}{K K':Act→World→Prop}{Q:Exit→Act→World→Prop}(G:o.wpIn F n P a w K Q)(h:∀a w,K a w→K' a w)(O:∀e a w,Q e a w→Q' e a w):o.wpIn F n P a w K' Q':=by
 unfold Oper.wpIn at *;refine⟨G.1,?_⟩;have G:=G.2;generalize (o.semAt F.round a.eval).run P w=r at *;cases r with
|ok x w' =>
  cases x<;>simp only[Oper.uponIn] at G ⊢ <;>
   first
   |exact h _ _ G
   |exact⟨G.1,CallsIn.mono G.2 (fun e w'' J=>by cases e<;>first|exact h _ _ J|exact O _ _ _ J|exact⟨_,_,O _ _ _ J.choose_spec.choose_spec⟩)⟩
   |exact⟨G.1,RowsIn.mono G.2 (fun _ _ J=>h _ _ J)⟩
   |exact⟨G.1,RoundIn.mono G.2 (fun e w'' J=>by cases e<;>first|exact h _ _ J|exact O _ _ _ J|exact⟨_,_,O _ _ _ J.choose_spec.choose_spec⟩)⟩
|halt x w'=>cases x<;>simp only[Oper.uponIn] at G ⊢<;>exact O _ _ _ G
theorem QdU(h:YOp P N o s K Q (yieldOf (look s.T) o.op))(r:Zo φ M0 N D (look s.T) (look s.H) a w) :
  o.wpIn (wd ro) 0 P a w (fun J w'=>∃φ' s',K s'∧Zo φ' M0 N D (look s'.T) (look s'.H) J w'∧Q8 φ (look s.H) w φ' (look s'.H) w') (Post N D Q φ M0 (look s.H) w):=by
 cases hy:yieldOf (look s.T) o.op with
|none=>rw[hy] at h;exact QcS (DV h r) (lV h)
|some p =>
  obtain⟨b,args⟩:=p;rw[hy] at h;obtain⟨U,W,O,Y⟩:=vL (P:=P) (w:=w) r hy;refine lW O Y ?_;obtain⟨fn,tmps,assign,body,g1,g2⟩:=h φ M0 D a w U r W;refine⟨fn,tmps,assign,body,g1,g2.mono ?_⟩;intro e w' G;cases e with
 |returned v=>exact G
 |panicked chain=>exact G
 |outgrown=>exact G.elim
theorem AR{P:Program}{N:Nat}{ro:Option Nat}{D:DB}{ops:Array Oper}{Q:AX→St→Prop}:∀(l:List Oper) (k:Nat) (s:St) (φ0:Nat→Nat) (h0:QO) (w0:World) (φ:Nat→Nat) (M0:ZM) (a:Act) (w:World),
  (∀j,l[j]?=ops[k+j]?)→Q8 φ0 h0 w0 φ (look s.H) w→Zo φ M0 N D (look s.T) (look s.H) a w→Yg P N ops Q l s →
  wpOpsIn (wd ro) 0 P ops (Post N D Q φ0 M0 h0 w0) ((List.range l.length).map (k+·)) a w
|[],k,s,φ0,h0,w0,φ,M0,a,w,O,E,r,h=>⟨φ,.normal,s,h,r,E,rfl⟩
|o::l,k,s,φ0,h0,w0,φ,M0,a,w,O,E,r,h=>by
  have Y:ops[k]?=some o:=by simpa using (O 0).symm
  have hr:(List.range (o::l).length).map (k+·)=k::(List.range l.length).map (k+1+·):=by
   simp only[JF,List.range_succ_eq_map,WV,List.map_map,Nat.add_zero,List.cons.injEq,true_and];apply List.map_congr_left;intro j _;simp;omega
  rw[hr];simp only[wpOpsIn,Y];have G:∀j,l[j]?=ops[k+1+j]?:=fun j=>by have:=O (j+1);rwa [show k+(j+1)=k+1+j from by omega] at this
  simp only[Yg] at h;split at h
  ·rename_i b hw;rw[GX r hw];refine UX h (fun hb g=>?_) (fun hb g=>?_)
   ·subst hb;simp only[if_true];have J:=Um hw;have r1:Zo φ M0 N D (look (Zm ops o s.T true)) (look s.H) a w:=by rw[J];exact r
    refine Go.Abs.Oper.wpIn_mono2 (QdU (s:=⟨Zm ops o s.T true,s.H⟩) g r1) ?_ ?_
    ·rintro U w' ⟨φ',s',W,Z,h4⟩;exact AR l (k+1) s' φ0 h0 w0 φ' M0 U w' G (E.trans h4) Z W
    ·intro e U w' p;exact p.trans E
   ·subst hb;simp only[Bool.false_eq_true,if_false];have J:=Um hw;have r1:Zo φ M0 N D (look (Zm ops o s.T false)) (look s.H) a w:=by rw[J];exact r
    refine⟨fun _ _=>trivial,AR l (k+1) _ φ0 h0 w0 φ M0 _ w G ?_ (Zo.put (s:=⟨Zm ops o s.T false,s.H⟩) r1 (Z7 g.1) (by simp[Qe,QM])) g.2⟩;cases o.dst<;>exact E
  ·exact h.elim
def UC(ops:Array Oper):Bool:=ops.toList.all fun o=>match o.op with|.defer _=>false|_=>true
theorem Bq{P:Program}{ro:Option Nat}{ops:Array Oper}{Q:Exit→Act→World→Prop}(U:UC ops=true)(O:¬LetsOut Q):∀(G:Nat) (listed:Array Bool) (a:Act) (w:World),wpAny P .any ops Q G listed a w→wpAnyIn (wd ro) 0 P .any ops Q G listed a w
|0,listed,a,w,h=>h
|G+1,listed,a,w,h=>by
  refine⟨h.1,fun i hi=>?_⟩;have J:=h.2 i hi;unfold wpOp at J;unfold wpOpIn;cases ho:ops[i]? with
 |none=>simp only[ho] at J ⊢;exact Bq U O G _ a w J
 |some o =>
   simp only[ho] at J ⊢
   have W:∀c,o.op≠.defer c:=by
    intro c hc;have:=X5.1 U o (by have:=Array.mem_of_getElem? ho;simpa using this);simp[hc] at this
   split at J
   ·rename_i hw;simp only[hw,if_true];rcases J with Y|Y
    ·exact QcS (Oper.wp_mono (fun a w=>Bq U O G _ a w) Y) W
    ·exact absurd Y.2 O
   ·rename_i hw;simp only[hw];exact⟨fun _ _=>trivial,Bq U O G _ _ w J⟩
theorem WE:¬LetsOut (Post N D Q φ M0 h w):=by
 rintro⟨a,w',φ',x,s',U,O,W,G⟩;cases x with
|normal=>cases G
|exit i=>cases G
|ret=>cases G
|panic v=>obtain⟨u,J,_⟩:=G;cases J
theorem qp(h:Yg P N ops Q ops.toList s):Ex P N ro (.region id ops false) s Q:=by
 intro φ M0 D a w r;refine wpIn_region ?_;have:=AR (ro:=ro) ops.toList 0 s φ (look s.H) w φ M0 a w zq (Q8.refl _ _ _) r h;simpa using this
section
variable {P:Program}{o:Oper}{T T':Nat→Option AV}{h h':QO}
theorem GY:∀{l:List Operand},(∀x∈l,Zp T' x=Zp T x)→Pj T' l=Pj T l
|[],_=>rfl
|x::l,G=>by simp only[Pj,G x zq,GY (l:=l) (fun y J=>G y (by simp[J]))]
theorem RD:∀{l:List (Nat×Operand)},(∀x∈l.map (·.2),Zp T' x=Zp T x)→Al T' l=Al T l
|[],_=>rfl
|(i,x)::l,G=>by simp only[Al,G x zq,RD (l:=l) (fun y J=>G y (by simp at J ⊢;exact .inr J))]
theorem vM(hs:∀x∈o.op.operands,Zp T' x=Zp T x):Ht P T' o=Ht P T o:=by
 have O:∀x∈o.op.operands.toList,known T' x=known T x:=fun x G=>by unfold known;rw[hs x (by simpa using G)]
 have W:allKnown T' o.op.operands.toList=allKnown T o.op.operands.toList:=by
  have:∀l:List Operand,(∀x∈l,known T' x=known T x)→allKnown T' l=allKnown T l:=by
   intro l
   induction l with
  |nil=>intro _;rfl
  |cons x l Y=>intro J;simp only[allKnown,J x zq,Y (fun y U=>J y (by simp[U]))]
  exact this _ O
 unfold Ht;rw[W];split
 ·rename_i hc;simp only[Z8] at hc
  rw[execOp_congr (ρ:=fun x=>(known T' x).getD undef) (ρ':=fun x=>(known T x).getD undef) o (fun cs b e=>by rw[e] at hc;simp[Xq] at hc) (fun x G=>by
   show(known T' x).getD undef=(known T x).getD undef;rw[O x (by simpa using G)])]
 ·rfl
theorem TQ{x:Option Operand}(G:∀y,x=some y→Zp T' y=Zp T y):Xr T' d x=Xr T d x:=by
 cases x with
|none=>rfl
|some y=>simp only[Xr,G y rfl]
theorem AU{u:KL}{t:TypeId}{i:Operand}(G:Jr P T h t x i ok=some u)(Y:Zp T' x=Zp T x)(hi:Zp T' i=Zp T i)(hh:∀b∈u.2.2,h' b=h b) :
  Jr P T' h' t x i ok=some u∧JY P T' h' t x i ok=none:=by
 unfold Jr at G;split at G;rotate_left
 ·cases G
 rename_i kt e b s Z U J;split at G;rotate_left
 ·cases G
 rename_i es hb W
 have hu:u.2.2=[b]:=by
  split at G
  ·simp only[Q0] at G;subst G;rfl
  ·split at G
   ·simp only[Q0] at G;subst G;rfl
   ·cases G
 have O:h' b=some (.mf es):=by rw[hh b (by rw[hu];simp)];exact hb
 constructor
 ·simp only[Jr,Z,Y,hi,U,J,O,W];exact G
 ·simp[JY,Z,Y,hi,U,J,O]
theorem AY{u:KL}{t:TypeId}{i:Operand}(G:Js P T h t x i y=some u)(hn:Va P T h t x i y=none)(hx:Zp T' x=Zp T x)(hi:Zp T' i=Zp T i)(Z:Zp T' y=Zp T y)(hh:∀b∈u.2.2,h' b=h b) :
  Js P T' h' t x i y=some u∧Va P T' h' t x i y=none:=by
 unfold Js at G;split at G;rotate_left
 ·cases G
 rename_i kt e b s v ht W J U;split at G;rotate_left
 ·cases G
 rename_i es hb Y
 have hu:u.2.2=[b]:=by
  split at G
  ·simp only[Q0] at G;subst G;rfl
  ·cases G
 have O:h' b=h b:=hh b (by rw[hu];simp);constructor
 ·simp only[Js,ht,hx,hi,Z,W,J,U,O,Y,hb];exact G
 ·rw[←hn];simp only[Va,ht,hx,hi,Z,W,J,U,O]
theorem AZ{u:KL}{t:TypeId}{i:Operand}(G:Uk P T h t x i=some u)(Z:Zp T' x=Zp T x)(hi:Zp T' i=Zp T i)(Y:∀b∈u.2.2,h' b=h b):Uk P T' h' t x i=some u:=by
 unfold Uk at G;split at G;rotate_left
 ·cases G
 rename_i kt e b s ht W J;split at G;rotate_left
 ·cases G
 rename_i es hb U
 have hu:u.2.2=[b]:=by
  split at G
  ·simp only[Q0] at G;subst G;rfl
  ·cases G
 have O:h' b=some (.mf es):=by rw[Y b (by rw[hu];simp)];exact hb
 simp only[Uk,ht,Z,hi,W,J,O,U];exact G
theorem zG{u:KL}{t:TypeId}{i:Operand}(G:JY P T h t x i ok=some u)(Y:Zp T' x=Zp T x)(hi:Zp T' i=Zp T i)(U:∀b∈u.2.2,h' b=h b):JY P T' h' t x i ok=some u:=by
 simp only[JY,Y,hi] at G ⊢;split at G
 ·rename_i kt e b kv _ _ _;have hb:∀es,h b=some (.mp es)→u.2.2=[b]→h' b=some (.mp es):=fun es Z W=>by rw[U b (by rw[W];simp)];exact Z
  split at G
  ·rename_i es k kd J _ _;split at G
   ·rename_i O
    have:u.2.2=[b]:=by
     split at G
     ·simp only[Q0] at G;subst G;rfl
     ·split at G
      ·simp only[Q0] at G;subst G;rfl
      ·cases G
     ·cases G
    simp only[hb es J this, *,if_true]
   ·cases G
  ·cases G
 ·cases G
theorem EO{u:KL}{t:TypeId}{i:Operand}(G:Va P T h t x i y=some u)(Z:Zp T' x=Zp T x)(hi:Zp T' i=Zp T i)(Y:Zp T' y=Zp T y)(U:∀b∈u.2.2,h' b=h b):Va P T' h' t x i y=some u:=by
 simp only[Va,Z,hi,Y] at G ⊢;split at G
 ·rename_i kt e b kv y0 _ _ _ _;have hb:∀es,h b=some (.mp es)→u.2.2=[b]→h' b=some (.mp es):=fun es h1 W=>by rw[U b (by rw[W];simp)];exact h1
  split at G
  ·rename_i es k kd v J _ _ _;split at G
   ·rename_i O
    have:u.2.2=[b]:=by
     split at G
     ·simp only[Q0] at G;subst G;rfl
     ·simp only[Q0] at G;subst G;rfl
     ·cases G
    simp only[hb es J this, *,if_true]
   ·cases G
  ·cases G
 ·cases G
theorem qw{x y:Option KL}{u:KL}(G:R5 x y=some u):x=some u∨x=none∧y=some u:=by
 unfold R5 at G;split at G
 ·exact .inl G
 ·exact .inr ⟨rfl,G⟩
theorem pG{u:KL}(G:Jb P o T h=some u)(hs:∀x∈o.op.operands,Zp T' x=Zp T x)(U:∀b∈u.2.2,h' b=h b):Jb P o T' h'=some u:=by
 have hp:=vM (P:=P) hs;unfold Jb at G ⊢;generalize ao:o.op=q at G hs ⊢;cases q
 case move x=>simp only[V4,hs x (by simp[Op.operands])] at G ⊢;exact G
 case assign x=>simp only[V4,hs x (by simp[Op.operands])] at G ⊢;exact G
 case pick c x y=>simp only[CK,V4,hs c (by simp[Op.operands]),hs x (by simp[Op.operands]),hs y (by simp[Op.operands])] at G ⊢;exact G
 case alloc ty =>
  simp only at G ⊢;split at G
  ·split at G
   ·unfold Ou at G ⊢;split at G
    ·rename_i d cs hd an;split at G
     ·rename_i Y;simp only[Q0] at G;subst G;rw[U d zq,Y]
     ·cases G
    ·cases G
   ·cases G
  ·cases G
 case box ty x =>
  simp only[hs x (by simp[Op.operands])] at G ⊢;split at G
  ·unfold Ou at G ⊢;split at G
   ·rename_i d cs hd an;split at G
    ·rename_i Y;simp only[Q0] at G;subst G;rw[U d zq,Y]
    ·cases G
   ·cases G
  ·cases G
 case build t ps =>
  simp only[Am,RD (T':=T') (T:=T) (l:=ps.toList) (fun x J=>hs x (by simpa [Op.operands] using J))] at G ⊢;exact G
 case makeMap t rsv =>
  simp only[TL] at G ⊢;split at G
  ·rename_i d hd;split at G
   ·rename_i Y;simp only[Q0] at G;subst G;have:h' d=none:=by rw[U d zq];exact Y
    simp[this]
   ·cases G
  ·cases G
 case lookup t x i ok =>
  have J:=hs x (by simp[Op.operands]);have hi:=hs i (by simp[Op.operands]);rcases qw G with h1|⟨_,h1⟩
  ·simp only[R5,zG h1 J hi U]
  ·obtain⟨h2,h3⟩:=AU h1 J hi U;simp only[R5,h2,h3]
 case mapUpdate t x i y =>
  have J:=hs x (by simp[Op.operands]);have hi:=hs i (by simp[Op.operands]);have W:=hs y (by simp[Op.operands]);rcases qw G with h1|⟨h0,h1⟩
  ·simp only[R5,EO h1 J hi W U]
  ·obtain⟨h2,h3⟩:=AY h1 h0 J hi W U;simp only[R5,h2,h3]
 case makeSlice t x y=>exact vC G (hs x (by simp[Op.operands])) (hs y (by simp[Op.operands])) U
 case buildSlice t n ps =>
  simp only at G ⊢;split at G
  ·rename_i hn;rw[if_pos hn];exact xM G U
  rename_i hn;rw[if_neg hn];rw[pF (T:=T) (l:=ps.toList) (fun x J=>hs x (by simpa [Op.operands] using J))];split at G
  ·rename_i hB;rw[if_pos hB];simp only[UV,RD (T':=T') (T:=T) (l:=ps.toList) (fun x J=>hs x (by simpa [Op.operands] using J))] at G ⊢;split at G
   ·rename_i e d qs _ _ _;split at G
    ·rename_i i _;split at G
     ·rename_i z Y hd;split at G
      ·rename_i zs ac;split at G
       ·rename_i Z;split at G
        ·rename_i rs aa;split at G
         ·rename_i hc;simp only[Q0] at G;subst G;simp only[U d zq,hd,Y,ac];rw[if_pos Z];simp only[aa];rw[if_pos hc]
         ·cases G
        ·cases G
       ·cases G
      ·cases G
     ·cases G
    ·cases G
   ·cases G
  rename_i hB;rw[if_neg hB];simp only[UU,RD (T':=T') (T:=T) (l:=ps.toList) (fun x J=>hs x (by simpa [Op.operands] using J))] at G ⊢;split at G
  ·rename_i e d qs _ _ _;split at G
   ·rename_i i _;split at G
    ·rename_i z Y hd;split at G
     ·rename_i zs ac;split at G
      ·rename_i Z;split at G
       ·rename_i rs aa;split at G
        ·rename_i pvs ak;split at G
         ·rename_i hc;simp only[Q0] at G;subst G;simp only[U d zq,hd,Y,ac];rw[if_pos Z];simp only[aa,ak];rw[if_pos hc]
         ·cases G
        ·cases G
       ·cases G
      ·cases G
     ·cases G
    ·cases G
   ·cases G
  ·cases G
 case load ty x =>
  have J:=hs x (by simp[Op.operands]);simp only at G ⊢;rw[J];split at G
  ·rename_i O;rw[if_pos O];exact vB G J U
  rename_i O;rw[if_neg O];simp only[Ee,hs x (by simp[Op.operands])] at G ⊢;split at G
  ·split at G
   ·rename_i b off J;split at G
    ·rename_i tb cs hb
     have am:h' b=some (.box tb cs):=by
      rw[←hb];refine U b ?_;split at G
      ·split at G
       ·simp only[Q0] at G;subst G;simp
       ·cases G
      ·split at G
       ·simp only[Q0] at G;subst G;simp
       ·cases G
     simp only[am];exact G
    ·cases G
   ·exact G
   ·cases G
  ·cases G
 case store ty x y =>
  have J:=hs x (by simp[Op.operands]);have W:=hs y (by simp[Op.operands]);simp only at G ⊢;rw[J];split at G
  ·rename_i O;rw[if_pos O];exact zB G J W U
  rename_i O;rw[if_neg O];simp only[Aj,hs x (by simp[Op.operands]),hs y (by simp[Op.operands])] at G ⊢;split at G
  ·rename_i i b off v _ _ _;split at G
   ·rename_i tb cs vs hb ai;split at G
    ·rename_i hc;simp only[Q0] at G;subst G;simp only[U b zq,hb,ai];rw[if_pos hc]
    ·cases G
   ·cases G
  ·cases G
 case nilCheck x =>
  have J:=hs x (by simp[Op.operands]);simp only at G ⊢;rw[J];split at G
  ·rename_i O;rw[if_pos O];exact xK G J U
  rename_i O;rw[if_neg O];simp only[Uj,J] at G ⊢;rw[hp];exact G
 case fieldAddr t x f =>
  have J:=hs x (by simp[Op.operands]);simp only at G ⊢;rw[J];split at G
  ·rename_i O;rw[if_pos O];exact Pn G J U
  rename_i O;rw[if_neg O];simp only[Xd,J] at G ⊢;exact G
 case field t x f=>simp only[Ak,hs x (by simp[Op.operands])] at G ⊢;exact G
 case indexAddr t x i =>
  have J:=hs x (by simp[Op.operands]);have hi:=hs i (by simp[Op.operands]);simp only at G ⊢;rw[J];split at G
  ·rename_i O;rw[if_pos O];exact Pm G J hi U
  rename_i O;rw[if_neg O];simp only[Ui,GV,J,hi] at G ⊢;exact G
 case index t x i=>simp only[Pi,DN,hs x (by simp[Op.operands]),hs i (by simp[Op.operands])] at G ⊢;rw[hp];exact G
 case slice t x lo hi mx =>
  have e1:∀d,Xr T' d lo=Xr T d lo:=fun d=>TQ (fun y W=>hs y (by simp[Op.operands,W]))
  have e2:∀d,Xr T' d hi=Xr T d hi:=fun d=>TQ (fun y W=>hs y (by simp[Op.operands,W]))
  have e3:∀d,Xr T' d mx=Xr T d mx:=fun d=>TQ (fun y W=>hs y (by simp[Op.operands,W]))
  simp only[GQ,hs x (by simp[Op.operands]),e1,e2,e3] at G ⊢;rw[hp];exact G
 case extract x i=>simp only[GJ,hs x (by simp[Op.operands])] at G ⊢;exact G
 case makeFunc f a b =>
  simp only[LB,GY (T':=T') (T:=T) (l:=a.toList) (fun x J=>hs x (by simp[Op.operands] at J ⊢;exact .inl J)),GY (T':=T') (T:=T) (l:=b.toList) (fun x J=>hs x (by simp[Op.operands] at J ⊢;exact .inr J))] at G ⊢;exact G
 case makeInterface t x=>simp only[WZ,hs x (by simp[Op.operands])] at G ⊢;exact G
 case typeAssert x xt t ok=>simp only[UT,hs x (by simp[Op.operands])] at G ⊢;exact G
 case binOp op tx x y ty =>
  have J:=hs x (by simp[Op.operands]);have W:=hs y (by simp[Op.operands]);have e1:Ap T' op x y=Ap T op x y:=by simp only[Ap,J,W]
  have e2:aEq P T' op tx x y=aEq P T op tx x y:=by simp only[aEq,xP,J,W]
  simp only[e1,e2,hp] at G ⊢
  have last:Po P T h op tx x y=some u→Po P T' h' op tx x y=some u:=by
   intro G;unfold Po at G ⊢;rw[J,W];split at G
   ·rename_i e S es t m k _ _ _;split at G
    ·rename_i ta Sa n hb;split at G
     ·rename_i ae
      have:h' t=some (.arr ta Sa n):=by
       rw[U t ?_]
       ·exact hb
       ·split at G
        ·simp only[Q0] at G;subst G;simp
        ·simp only[Q0] at G;subst G;simp
        ·cases G
      simp only[this,ae];exact G
     ·cases G
    ·cases G
   ·cases G
  cases q1:Ap T op x y with
 |some z=>rw[q1] at G;exact G
 |none =>
   rw[q1] at G;cases q2:aEq P T op tx x y with
  |some z=>rw[q2] at G;exact G
  |none =>
    rw[q2] at G;cases q3:Ht P T o with
   |some z=>rw[q3] at G;exact G
   |none =>
     rw[q3] at G;exact last G
 case unOp op tx x=>simp only[aUn,hs x (by simp[Op.operands])] at G ⊢;rw[hp];exact G
 case convert src dst x=>simp only[vw,hs x (by simp[Op.operands])] at G ⊢;rw[hp];exact G
 case call c =>
  obtain⟨callee,args,types⟩:=c;cases callee
  case builtin b =>
   cases b
   case len =>
    simp only at G ⊢;split at G
    ·rename_i x t;have J:=hs x (by simp[Op.operands,Call.operands]);rw[J];split at G
     ·rename_i O;rw[if_pos O];exact xL G J U
     rename_i O;rw[if_neg O];simp only[lC,vD,lN,J] at G ⊢;rw[hp];exact G
    ·cases G
   case delete =>
    simp only at G ⊢;split at G
    ·exact AZ G (hs _ (by simp[Op.operands,Call.operands])) (hs _ (by simp[Op.operands,Call.operands])) U
    ·cases G
   case append =>
    simp only at G ⊢;split at G
    ·rename_i s x t t';split at G
     ·rename_i ht;subst ht;simp only[if_true];have ad:=hs s (by simp[Op.operands,Call.operands]);have al:=hs x (by simp[Op.operands,Call.operands]);rw[ad];split at G
      ·rename_i O;rw[if_pos O];exact OD G ad al U
      rename_i O;rw[if_neg O];simp only[FO,hs s (by simp[Op.operands,Call.operands]),hs x (by simp[Op.operands,Call.operands])] at G ⊢;split at G
      ·split at G
       ·split at G
        ·split at G
         ·rename_i ah;simp only[ah,and_self,if_true];split at G
          ·rename_i hn;simp only[hn,if_true];split at G
           ·rename_i ab;simp only[ab,if_true] at G ⊢;exact G
           ·rename_i ab;simp only[ab,if_false];split at G
            ·rename_i d hd;split at G
             ·rename_i hc;simp only[Q0] at G;subst G;have:h' d=none:=by rw[U d zq];exact hc.1
              simp[this,hc.2]
             ·cases G
            ·cases G
          ·rename_i hn;simp only[hn];split at G
           ·rename_i S es tk _;split at G
            ·rename_i ty S' n aj
             have af:h' tk=some (.arr ty S' n):=by
              rw[←aj];refine U tk ?_;split at G
              ·simp only[Q0] at G;subst G;simp
              ·split at G
               ·simp only[Q0] at G;subst G;simp
               ·cases G
             simp only[af];exact G
            ·cases G
           ·cases G
         ·cases G
        ·cases G
       ·cases G
      ·cases G
     ·cases G
    ·cases G
   case max=>simp only at G ⊢;rw[hp];exact G
   case min=>simp only at G ⊢;rw[hp];exact G
   all_goals cases G
  all_goals cases G
 all_goals cases G
end
def XB{α:Type}(F:Nat→Option α):Option (Nat×α)→Nat→Option α|none=>F|some (b,v)=>fun t=>if b=t then some v else F t
def vF{α:Type}:List (Option (Nat×α))→(Nat→Bool)→(Nat→Option α)→Nat→Option α|[],_,F=>F|c::G,L,F=>vF G (fun j=>L (j+1)) (if L 0 then XB F c else F)
theorem XI{α:Type}{t:Nat}:∀(G:List (Option (Nat×α))) (L U:Nat→Bool) (F O:Nat→Option α),F t=O t→(∀(j:Nat) v,G[j]?=some (some (t,v))→L j=U j)→vF G L F t=vF G U O t
|[],_,_,_,_,J,_=>J
|c::G,L,U,F,O,J,W=>by
  simp only[vF];refine XI G _ _ _ _ ?_ (fun j v Z=>W (j+1) v (by simpa using Z));cases c with
 |none=>simp only[XB];split<;>split<;>exact J
 |some Y =>
   obtain⟨b,v⟩:=Y;by_cases e:b=t
   ·have:=W 0 v (by simp[e]);rw[this];split
    ·simp[XB,e]
    ·exact J
   ·split<;>split<;>simp[XB,e,J]
theorem fq{α:Type}{t:Nat}{v:α}:∀(G:List (Option (Nat×α))) (L:Nat→Bool) (F:Nat→Option α) (i:Nat),G[i]?=some (some (t,v))→L i=true→(∀(j:Nat) u,i<j→G[j]?=some (some (t,u))→L j=false)→vF G L F t=some v
|[],_,_,i,hi,_,_=>by simp at hi
|c::G,L,F,0,hi,U,J=>by
  simp only[List.getElem?_cons_zero,Q0] at hi;subst hi;simp only[vF,U,if_true];rw[XI G (fun j=>L (j+1)) (fun _=>false) _ (fun _=>some v) (by simp[XB]) (fun j u O=>J (j+1) u zo (by simpa using O))]
  have:∀(G:List (Option (Nat×α))) (F:Nat→Option α),vF G (fun _=>false) F=F:=by
   intro G
   induction G with
  |nil=>intro F;rfl
  |cons c G Y=>intro F;simp only[vF,Bool.false_eq_true,if_false];exact Y F
  rw[this]
|c::G,L,F,i+1,hi,U,J=>by
  simp only[vF];exact fq G (fun j=>L (j+1)) _ i (by simpa using hi) U (fun j u W O=>J (j+1) u zo (by simpa using O))
theorem zH(G:List (Option (Nat×α)))(L:Nat→Bool)(F:Nat→Option α)(i:Nat)(c:Option (Nat×α))(hi:G[i]?=some c)(W:∀b v,c=some (b,v)→∀(j:Nat) u,i<j→G[j]?=some (some (b,u))→L j=false) :
  vF G (fun j=>L j||decide (j=i)) F=XB (vF G L F) c:=by
 funext t;cases c with
|none =>
  refine XI G _ _ _ _ rfl (fun j v J=>?_);have:j≠i:=fun e=>by rw[e,hi] at J;cases J
  simp[this]
|some Z =>
  obtain⟨b,v⟩:=Z;by_cases e:b=t
  ·subst e;simp only[XB,if_true];refine fq G _ F i hi zq (fun j u O J=>?_);have:=W b v rfl j u O J;have Y:j≠i:=by omega
   simp[this,Y]
  ·simp only[XB,e,if_false];refine XI G _ _ _ _ rfl (fun j u J=>?_);have:j≠i:=fun U=>by rw[U,hi] at J;cases J;exact e rfl
   simp[this]
theorem zI(G:List (Option (Nat×α)))(L J:Nat→Bool)(F:Nat→Option α)(O:∀j,j<G.length→L j=J j):vF G L F=vF G J F:=by
 funext t;exact XI G L J F F rfl (fun j v U=>O j (DC.1 U).1)
theorem JZ{α:Type}:∀(G:List (Option (Nat×α))) (L:Nat→Bool) (F:Nat→Option α),(∀j,j<G.length→L j=false)→vF G L F=F
|[],_,_,_=>rfl
|c::G,L,F,J=>by
  simp only[vF,J 0 zq,Bool.false_eq_true,if_false];exact JZ G _ F (fun j O=>J (j+1) (by simp;omega))
structure Ev where
 x:AV
 wr:Option (Nat×Blk)
 rd:List Nat
def wT(o:Oper)(e:Ev):Option (Nat×AV):=o.dst.map fun d=>(d,e.x)
def pvs(G:List Value):List AV:=G.map fun v=>.p (.val v)
def Qfz(G:List AV→AV):Prop:=∀(φ:Nat→Nat) (h:QO) (w:World) (M:ZM) (args:List AV) (J:List Value) (v:Value),Qg φ h w M args J→Qe φ h w M (G (pvs J)) v→Qe φ h w M (G args) v
def lX:AV→Bool|.tsl _ _ _=>true|.p (.sl _ _)=>true|_=>false
def SlV(G:List Value):Prop:=∀v∈G,∃a l c,v=Value.slice a l c
theorem fu{φ:Nat→Nat}{h:QO}{w:World}{M:ZM}:∀{xs:List AV} {U:List Value},xs.all lX=true→Qg φ h w M xs U→SlV U
|[],U,_,G=>by simp only[Qg] at G;subst G;intro v J;cases J
|x::xs,U,O,G=>by
  simp only[Qg] at G;obtain⟨y,ys,rfl,W,Y⟩:=G;simp only[List.all_cons,Z8] at O;intro v J;rcases List.mem_cons.1 J with rfl|J
  ·have hp:∀S es,QM w M (.sl S es) v→∃a l c,v=Value.slice a l c:=by
    intro S es hp;simp only[QM] at hp;rcases hp with⟨r,o,cap,e,_⟩|⟨_,a,cap,e⟩
    ·exact⟨_,_,_,e⟩
    ·exact⟨_,_,_,e⟩
   cases x with
  |tsl S es t=>simp only[Qe] at W;exact hp S es W.1
  |p q =>
    cases q with
   |sl S es=>simp only[Qe] at W;exact hp S es W
   |_=>simp[lX] at O
  |_=>simp[lX] at O
  ·exact fu O.2 Y v J
def Step1(P:Program)(N:Nat)(ops:Array Oper)(o:Oper)(T:Nat→Option AV)(h:QO)(e:Ev):Prop :=
  KA N o.dst=true ∧
  ((ZH ops o T=some false∧e=⟨.p (.val undef),none,[]⟩) ∨
   (ZH ops o T=some true∧Jb P o T h=some (e.x,e.wr,e.rd)) ∨
   (ZH ops o T=some true∧∃f args args',Kg T o.op=some (f,args)∧(P.funcs[f]?).any (fun fn=>fn.body.isSome&&fn.name != "runtime.NumGoroutine")=true∧MW args args'∧Y0 args'=true ∧
     Q9 P f args' (.ret e.x)∧Yf e.x=true∧e.wr=none∧e.rd=[]) ∨
   (ZH ops o T=some true∧∃(f:FuncId) (args:List AV) (J:List AV→AV),Kg T o.op=some (f,args)∧(P.funcs[f]?).any (fun fn=>fn.body.isSome&&fn.name != "runtime.NumGoroutine")=true ∧
     args.all lX=true∧(∀G:List Value,SlV G→G.length=args.length→Q9 P f (pvs G) (.ret (J (pvs G))))∧(∀G,Yf (J (pvs G))=true)∧Qfz J∧e.x=J args∧e.wr=none∧e.rd=[]))
theorem pI(G:∀t∈o.looksAt ops,T' t=T t):∀x∈o.op.operands,Zp T' x=Zp T x:=by
 intro x J;cases x with
|tmp t=>exact G t (List.mem_append_left _ (List.mem_filterMap.2 ⟨.tmp t,by simpa using J,rfl⟩))
|_=>rfl
theorem vN(J:∀t∈o.looksAt ops,T' t=T t):ZH ops o T'=ZH ops o T:=by
 unfold ZH;cases hg:o.guard with
|none=>rfl
|some O =>
  obtain⟨g,want⟩:=O;simp only;cases hj:ops[g]? with
 |none=>rfl
 |some G =>
   simp only;cases hd:G.dst with
  |none=>rfl
  |some d =>
    simp only;rw[J d (by simp[Oper.looksAt,hg,hj,hd])]
theorem zJ(hs:∀x∈o.op.operands,Zp T' x=Zp T x):Kg T' o.op=Kg T o.op:=by
 unfold Kg;split
 ·rename_i f args ts J;rw[GY (fun x G=>hs x (by rw[J];simp[Op.operands,Call.operands] at G ⊢;exact .inr G))]
 ·rename_i t args ts J;have O:T' t=T t:=hs (.tmp t) (by rw[J];simp[Op.operands,Call.operands]);rw[O,GY (fun x G=>hs x (by rw[J];simp[Op.operands,Call.operands] at G ⊢;exact .inr G))]
 ·rfl
theorem Step1.loc{e:Ev}(s:Step1 P N ops o T h e)(J:∀t∈o.looksAt ops,T' t=T t)(O:∀b∈e.rd,h' b=h b) :
  Step1 P N ops o T' h' e:=by
 have hs:=pI J;refine⟨s.1,?_⟩;rw[vN J,zJ hs];rcases s.2 with G|⟨G,U⟩|G|G
 ·exact .inl G
 ·exact .inr (.inl ⟨G,pG U hs O⟩)
 ·exact .inr (.inr (.inl G))
 ·exact .inr (.inr (.inr G))
theorem Zo.putT(r:Zo φ M0 N D T h a w){d:Option Tmp}{x:AV}(O:∀t,d=some t→t<N)(J:Qe φ h w (MM φ h M0) x v):Zo φ M0 N D (XB T (d.map fun d=>(d,x))) h (a.put d v) w:=by
 cases d with
|none=>exact r
|some d =>
  have hlt:=O d rfl;refine⟨r.dfs,by simp[Act.put,r.siz],r.hp,fun t y G=>?_⟩;simp only[Option.map_some,XB] at G;by_cases e:d=t
  ·simp only[e,if_true,Q0] at G;subst G;refine⟨e▸hlt,?_⟩;have:(a.put (some d) v).tmps.getD t undef=v:=by subst e;simp[Act.put,r.siz,hlt]
   rw[this];exact J
  ·simp only[e,if_false] at G;refine⟨(r.tm t y G).1,?_⟩;have:(a.put (some d) v).tmps.getD t undef=a.tmps.getD t undef:=by simp[Act.put,Array.getElem?_setIfInBounds_ne e]
   rw[this];exact(r.tm t y G).2
theorem Qbj(h:QO)(c:Option (Nat×Blk)):ap h c=XB h c:=by
 cases c with
|none=>rfl
|some G=>rfl
theorem Step1.wp{e:Ev}{Q:Exit→Act→World→Prop}(hi:ops[i]?=some o)(s:Step1 P N ops o T h e)(r:Zo φ M0 N D T h a w){K:Act→World→Prop}(Y:∀φ' a' w',Zo φ' M0 N D (XB T (wT o e)) (XB h e.wr) a' w'→Q8 φ h w φ' (XB h e.wr) w'→K a' w'):wpOp P ops Q i K a w:=by
 unfold wpOp;simp only[hi];obtain⟨hd,hs⟩:=s;rcases hs with⟨G,rfl⟩|⟨G,J⟩|⟨G,f,args,args',J,O,h4,h5,h6,h7,h8,h9⟩|⟨G,f,args,τ,J,O,h10,h6,h7,h5,h4,h8,h9⟩
 ·rw[GX r G];simp only[Bool.false_eq_true,if_false];exact Y φ _ w (r.putT (Z7 hd) (by simp[Qe,QM])) (Q8.refl _ _ _)
 ·rw[GX r G];simp only[if_true];refine .inl ?_;obtain⟨nx,v,w',φ',g1,g2,g3,g4,g5,g6⟩:=lQ r J;simp only[Qbj] at g3 g4 g5 g6;have Z:Zo φ' M0 N D T (XB h e.wr) a w':=r.keep g5 g6 g4;have r2:=Z.putT (d:=o.dst) (x:=e.x) (v:=v) (Z7 hd) g3;unfold Oper.wp;rw[g1];rcases g2 with rfl|⟨rfl,rfl⟩
  ·exact Y φ' _ w' r2 g5
  ·exact Y φ' _ w' r2 g5
 ·rw[GX r G];simp only[if_true];refine .inl ?_;obtain⟨W,g1,g2⟩:=Bo r J O;unfold Oper.wp;rw[g2];simp only[Oper.upon];have hH:ZQ φ Fz w (MB φ h w M0):=UW (fun x o hm=>vJ hm) r.hp.gm.w r.hp.gm.mb;have hM:∀r o v,w.cell? ⟨r,o,none⟩=some v→¬MM φ h M0 r o→w.cell? ⟨r,o,none⟩=some v∧¬MM φ Fz (MB φ h w M0) r o:=fun r o v G J=>⟨G,fun O=>O.elim Wu (fun h4=>J h4.1)⟩
  refine(h6 φ (MB φ h w M0) w W hH ((WQ hM).2 _ _ h5 (JG.2 _ _ _ h4 g1))).mono ?_;rintro e1 w' ⟨φ',r',h',⟨rfl,rfl⟩,aa,E,v,rfl,hv⟩;have U:∀ro o v,w'.cell? ⟨ro,o,none⟩=some v→¬MM φ' Fz (MB φ h w M0) ro o→w'.cell? ⟨ro,o,none⟩=some v∧¬MM (KZ φ w.heap.size (w'.heap.size-w.heap.size)) h M0 ro o:=fun ro o v G J=>⟨G,Sn r.hp E.size G (fun O=>J (.inr O))⟩
  obtain⟨r,E1,X1,hC⟩:=r.lift (w'.heap.size-w.heap.size);obtain⟨E2,X2,H2⟩:=Ul E.os E.tape E.output E.size (fun x hx=>E.same x hx (fun b hb=>absurd rfl hb)) r.hp hC;have r2:Zo _ M0 N D T h a w':=r.keep E2 X2 H2;have Z:=r2.putT (d:=o.dst) (x:=e.x) (v:=v) (Z7 hd) ((WQ U).1 _ _ h7 hv);have e8:XB h e.wr=h:=by rw[h8];rfl
  exact Y _ _ w' (by rw[e8];exact Z) (by rw[e8];exact E1.trans E2)
 ·rw[GX r G];simp only[if_true];refine .inl ?_;obtain⟨W,g1,g2⟩:=Bo r J O;unfold Oper.wp;rw[g2];simp only[Oper.upon];have hH:ZQ φ Fz w (MB φ h w M0):=UW (fun x o hm=>vJ hm) r.hp.gm.w r.hp.gm.mb;refine(h6 W (fu h10 g1) (ZR g1).symm φ (MB φ h w M0) w W hH (GG W)).mono ?_;rintro e1 w' ⟨φ',r',h',⟨rfl,rfl⟩,aa,E,v,rfl,hv⟩;have U:∀ro o v,w'.cell? ⟨ro,o,none⟩=some v→¬MM φ' Fz (MB φ h w M0) ro o→w'.cell? ⟨ro,o,none⟩=some v∧¬MM (KZ φ w.heap.size (w'.heap.size-w.heap.size)) h M0 ro o:=fun ro o v G J=>⟨G,Sn r.hp E.size G (fun O=>J (.inr O))⟩
  obtain⟨r,E1,X1,hC⟩:=r.lift (w'.heap.size-w.heap.size);obtain⟨E2,X2,H2⟩:=Ul E.os E.tape E.output E.size (fun x hx=>E.same x hx (fun b hb=>absurd rfl hb)) r.hp hC;have r2:Zo _ M0 N D T h a w':=r.keep E2 X2 H2;have ab:=(WQ (φ':=KZ φ w.heap.size (w'.heap.size-w.heap.size)) (h':=h) U).1 _ _ (h7 W) hv;have Z:=r2.putT (d:=o.dst) (x:=e.x) (v:=v) (Z7 hd) (by rw[h4];exact h5 _ _ _ _ _ _ _ ((QH (E2.keeps M0) X2).2 _ _ ((QH (E1.keeps M0) X1).2 _ _ g1)) ab);have e8:XB h e.wr=h:=by rw[h8];rfl
  exact Y _ _ w' (by rw[e8];exact Z) (by rw[e8];exact E1.trans E2)
abbrev Yz:=Option Nat×List Nat
def Ym(a b:Yz):Bool :=
 (match a.1 with|some x=>!b.2.contains x&&b.1 != some x|none=>true)&&(match b.1 with|some y=>!a.2.contains y|none=>true)
def waits(G:Oper)(i:Nat):Bool:=G.after.toList.any fun e=>Region.binds .any e&&e.on==i
def A7(ops:Array Oper)(G:Oper)(i:Nat):Bool:=waits G i||G.after.toList.any fun e=>Region.binds .any e&&(ops[e.on]?).any (waits · i)
theorem FR{U:Oper}(h:A7 ops U i=true) :
  (∃G,G∈U.after∧Region.binds .any G=true∧G.on=i)∨(∃G ok J,G∈U.after∧Region.binds .any G=true∧ops[G.on]?=some ok∧J∈ok.after∧Region.binds .any J=true∧J.on=i):=by
 have key:∀(o:Oper),waits o i=true→∃G,G∈o.after∧Region.binds .any G=true∧G.on=i:=by
  intro o hw;simp only[waits,List.any_eq_true,Z8,beq_iff_eq] at hw;obtain⟨G,Y,W,O⟩:=hw;exact⟨G,by simpa using Y,W,O⟩
 simp only[A7,Bool.or_eq_true] at h;rcases h with h|h
 ·exact .inl (key U h)
 ·simp only[List.any_eq_true,Z8] at h;obtain⟨G,Y,W,O⟩:=h;cases hok:ops[G.on]? with
 |none=>rw[hok] at O;cases O
 |some ok =>
   rw[hok] at O;obtain⟨J,g1,g2,g3⟩:=key ok (by simpa using O);exact .inr ⟨G,ok,J,by simpa using Y,W,hok,g1,g2,g3⟩
def DW(ops:Array Oper)(O:Oper)(i:Nat)(J:Yz):List Oper→List Yz→Bool|G::l,W::U=>(A7 ops G i||(O.apart ops G&&Ym J W))&&DW ops O i J l U|_,_=>true
def fw(ops:Array Oper):Nat→List Oper→List Yz→Bool|i,J::l,O::G=>DW ops J i O l G&&fw ops (i+1) l G|_,_,_=>true
def Gs:Nat→List Oper→Bool|_,[]=>true|j,o::l=>(o.after.toList.all fun e=>!Region.binds .any e||decide (e.on<j))&&Gs (j+1) l
def KC(ops:Array Oper)(G:List Yz):Bool:=fw ops 0 ops.toList G&&Gs 0 ops.toList
theorem TR{ops:Array Oper}{Y:Oper}{i:Nat}{W:Yz}:∀{l:List Oper} {U:List Yz},DW ops Y i W l U=true→∀(j:Nat) G J,l[j]?=some G→U[j]?=some J→A7 ops G i=true∨(Y.apart ops G=true∧Ym W J=true)
|[],U,_,j,G,J,O,_=>by simp at O
|o::l,[],_,j,G,J,_,hf=>by simp at hf
|o::l,f::U,hp,j,G,J,O,hf=>by
  simp only[DW,Z8,Bool.or_eq_true] at hp;cases j with
 |zero=>simp at O hf;subst O hf;exact hp.1
 |succ j=>exact TR hp.2 j G J (by simpa using O) (by simpa using hf)
theorem GZ{ops:Array Oper}:∀{l:List Oper} {Y:List Yz} {k:Nat},fw ops k l Y=true→∀(i j:Nat) W G U O,i<j→l[i]?=some W→l[j]?=some G→Y[i]?=some U→Y[j]?=some O →
  A7 ops G (k+i)=true∨(W.apart ops G=true∧Ym U O=true)
|[],Y,k,_,i,j,W,G,U,O,_,hi,_,_,_=>by simp at hi
|o::l,[],k,_,i,j,W,G,U,O,_,_,_,hf,_=>by simp at hf
|o::l,f::Y,k,hp,i,j,W,G,U,O,aa,hi,hj,J,Z=>by
  simp only[fw,Z8] at hp;cases j with
 |zero=>omega
 |succ j =>
   cases i with
  |zero =>
    simp at hi J;subst hi J;exact TR hp.1 j G O (by simpa using hj) (by simpa using Z)
  |succ i =>
    have:=GZ hp.2 i j W G U O zo (by simpa using hi) (by simpa using hj) (by simpa using J) (by simpa using Z)
    rwa [show k+1+i=k+(i+1) from by omega] at this
theorem V5:∀{l:List Oper} {k:Nat},Gs k l=true→∀(j:Nat) o,l[j]?=some o→∀e∈o.after,Region.binds .any e=true→e.on<k+j
|[],k,_,j,o,G=>by simp at G
|o::l,k,hp,j,O,G=>by
  simp only[Gs,Z8] at hp;cases j with
 |zero =>
   simp at G;subst G;intro e J hb;have:=X5.1 hp.1 e (by simpa using J);simpa [hb] using this
 |succ j =>
   intro e J hb;have:=V5 hp.2 j O (by simpa using G) e J hb;omega
def Sq(listed:Array Bool):Nat→Nat|0=>0|n+1=>Sq listed n+(if listed.getD n true then 0 else 1)
theorem MX{listed:Array Bool}{i:Nat}(hi:listed.getD i true=false):∀n,Sq (listed.setIfInBounds i true) n+(if i<n then 1 else 0)=Sq listed n
|0=>by simp[Sq]
|n+1=>by
  have G:=MX hi n;simp only[Sq]
  have hlt:i<listed.size:=by
   rcases Nat.lt_or_ge i listed.size with h|h
   ·exact h
   ·simp[Array.getElem?_eq_none h] at hi
  by_cases e:i=n
  ·subst e;have J:(listed.setIfInBounds i true).getD i true=true:=by simp[hlt]
   rw[J,hi];simp at G ⊢;omega
  ·rw[getD_set_ne true e];have:(i<n+1)↔(i<n):=by omega
   simp only[this];omega
theorem TS{listed:Array Bool}:∀{n:Nat},Sq listed n=0→∀i,i<n→listed.getD i true=true
|0,_,i,hi=>by omega
|n+1,hu,i,hi=>by
  simp only[Sq] at hu;by_cases e:i=n
  ·subst e;cases hq:listed.getD i true with
  |true=>rfl
  |false=>rw[hq] at hu;simp at hu
  ·exact TS (n:=n) (Nat.eq_zero_of_add_eq_zero_right hu) i zo
theorem lY{Q:Exit→Act→World→Prop}{T0:Nat→Option AV}(es:List Ev)(ar:es.length=ops.size)(a6:∀(i:Nat) o e,ops[i]?=some o→es[i]?=some e→Step1 P N ops o (vF ((ops.toList.zip es).map fun p=>wT p.1 p.2) (fun j=>decide (j<i)) T0) (vF (es.map (·.wr)) (fun j=>decide (j<i)) h0) e)(az:KC ops (es.map fun e=>(e.wr.map (·.1),e.rd))=true)(hQ:∀φ a w,Zo φ M0 N D (vF ((ops.toList.zip es).map fun p=>wT p.1 p.2) (fun _=>true) T0) (vF (es.map (·.wr)) (fun _=>true) h0) a w→Q8 φ0 h0 w0 φ (vF (es.map (·.wr)) (fun _=>true) h0) w→Q .normal a w) :
  ∀(ad:Nat) (listed:Array Bool) (a:Act) (w:World) (φ:Nat→Nat),listed.size=ops.size→Sq listed ops.size≤ad →
   (∀(j:Nat) o,ops[j]?=some o→listed.getD j false=true→∀e∈o.after,Region.binds .any e=true→listed.getD e.on false=true) →
   Zo φ M0 N D (vF ((ops.toList.zip es).map fun p=>wT p.1 p.2) (fun j=>listed.getD j false) T0) (vF (es.map (·.wr)) (fun j=>listed.getD j false) h0) a w →
   Q8 φ0 h0 w0 φ (vF (es.map (·.wr)) (fun j=>listed.getD j false) h0) w→wpAny P .any ops Q ad listed a w:=by
 simp only[KC,Z8] at az;obtain⟨ai,bc⟩:=az;have aw:∀(listed:Array Bool) (i:Nat),i<listed.size→listed.getD i true=listed.getD i false:=fun listed i hi=>by simp[hi]
 have bi:((ops.toList.zip es).map fun p=>wT p.1 p.2).length=ops.size:=by simp[ar]
 have av:∀(listed:Array Bool) (a:Act) (w:World) (φ:Nat→Nat),listed.size=ops.size→(∀i,i<ops.size→listed.getD i true=true) →
   Zo φ M0 N D (vF ((ops.toList.zip es).map fun p=>wT p.1 p.2) (fun j=>listed.getD j false) T0) (vF (es.map (·.wr)) (fun j=>listed.getD j false) h0) a w →
   Q8 φ0 h0 w0 φ (vF (es.map (·.wr)) (fun j=>listed.getD j false) h0) w→Q .normal a w:=by
  intro listed a w φ ae O r E
  have e1:vF ((ops.toList.zip es).map fun p=>wT p.1 p.2) (fun j=>listed.getD j false) T0=vF ((ops.toList.zip es).map fun p=>wT p.1 p.2) (fun _=>true) T0 :=
   zI _ _ _ _ (fun j U=>by rw[bi] at U;rw[←aw listed j zo];exact O j U)
  have e2:vF (es.map (·.wr)) (fun j=>listed.getD j false) h0=vF (es.map (·.wr)) (fun _=>true) h0 :=
   zI _ _ _ _ (fun j U=>by simp only[WB,ar] at U;rw[←aw listed j zo];exact O j U)
  rw[e1,e2] at r;rw[e2] at E;exact hQ φ a w r E
 have ax:∀(listed:Array Bool),listed.size=ops.size→Region.ready .any ops listed=[]→∀i,i<ops.size→listed.getD i true=true:=by
  intro listed ae hr i
  induction i using Nat.strongRecOn with
 |_ i ih =>
   intro hi;cases hq:listed.getD i true with
  |true=>rfl
  |false =>
    have:i∈Region.ready .any ops listed:=by
     rw[mem_ready];refine⟨hq,ops[i],Array.getElem?_eq_getElem hi,fun e he hb=>?_⟩;have W:=V5 bc i ops[i] (by simp[hi]) e he hb;have h2:e.on<i:=by omega
     rw[←aw listed e.on zo];exact ih e.on h2 zo
    rw[hr] at this;cases this
 intro ad
 induction ad with
|zero =>
  intro listed a w φ ae hu ak r E;have O:=TS (n:=ops.size) (listed:=listed) zo;refine⟨?_,av listed a w φ ae O r E⟩;apply List.eq_nil_iff_forall_not_mem.2;intro i hi;rw[mem_ready] at hi;obtain⟨W,o,ho,_⟩:=hi;rw[O i (FL.1 ho).1] at W;cases W
|succ ad ih =>
  intro listed a w φ ae hu ak r E;refine⟨fun hr=>av listed a w φ ae (ax listed ae hr) r E,fun i hi=>?_⟩;rw[mem_ready] at hi;obtain⟨bf,o,ho,O⟩:=hi;have be:i<ops.size:=(FL.1 ho).1;have ah:listed.getD i false=false:=by rw[←aw listed i zo];exact bf
  obtain⟨e,he⟩:∃e,es[i]?=some e:=⟨es[i],List.getElem?_eq_getElem zo⟩
  have aj:∀(j:Nat) Z Y,ops[j]?=some Z→es[j]?=some Y→j≠i→¬(listed.getD j false=decide (j<i))→Z.apart ops o=true∧Ym (Y.wr.map (·.1),Y.rd) (e.wr.map (·.1),e.rd)=true∨(o.apart ops Z=true∧Ym (e.wr.map (·.1),e.rd) (Y.wr.map (·.1),Y.rd)=true):=by
   intro j Z Y J aa hne G;rcases Nat.lt_or_ge j i with hlt|bj
   ·have:=GZ ai j i Z o (Y.wr.map (·.1),Y.rd) (e.wr.map (·.1),e.rd) hlt (by simpa using J) (by simpa using ho) (by simp[aa]) (by simp[he]);rcases this with hw|a7
    ·exfalso;simp only[Nat.zero_add] at hw;rcases FR hw with⟨ed,ab,hb,af⟩|⟨ed,ok,a8,ab,hb,hok,aq,bd,af⟩
     ·have:=O ed ab hb;rw[af] at this;exact G (by rw[this];simp[hlt])
     ·have:=ak ed.on ok hok (O ed ab hb) a8 aq bd;rw[af] at this;exact G (by rw[this];simp[hlt])
    ·exact .inl a7
   ·have bb:i<j:=by omega
    have:=GZ ai i j o Z (e.wr.map (·.1),e.rd) (Y.wr.map (·.1),Y.rd) bb (by simpa using ho) (by simpa using J) (by simp[he]) (by simp[aa]);rcases this with hw|a7
    ·exfalso;simp only[Nat.zero_add] at hw;cases hq:listed.getD j false with
    |true =>
      rcases FR hw with⟨ed,ab,hb,af⟩|⟨ed,ok,a8,ab,hb,hok,aq,bd,af⟩
      ·have:=ak j Z J hq ed ab hb;rw[af,ah] at this;cases this
      ·have:=ak ed.on ok hok (ak j Z J hq ed ab hb) a8 aq bd;rw[af,ah] at this;cases this
    |false =>
      have h3:¬j<i:=by omega
      exact G (by rw[hq];simp[h3])
    ·exact .inr a7
  have an:∀(j:Nat) t v,((ops.toList.zip es).map fun p=>wT p.1 p.2)[j]?=some (some (t,v))→∃Z Y,ops[j]?=some Z∧es[j]?=some Y∧Z.dst=some t:=by
   intro j t v U;simp only[List.getElem?_map,Gn] at U;obtain⟨p,hp,hw⟩:=U;rw[List.getElem?_zip_eq_some] at hp;refine⟨p.1,p.2,by simpa using hp.1,hp.2,?_⟩;unfold wT at hw;cases hd:p.1.dst with
  |none=>rw[hd] at hw;cases hw
  |some d=>rw[hd] at hw;simp only[Option.map_some,Q0,XA] at hw;rw[hw.1]
  have au:∀(j:Nat) b k,(es.map (·.wr))[j]?=some (some (b,k))→∃Z Y,ops[j]?=some Z∧es[j]?=some Y∧Y.wr=some (b,k):=by
   intro j b k U;simp only[List.getElem?_map,Gn] at U;obtain⟨p,hp,hw⟩:=U;have bh:j<ops.size:=by rw[←ar];exact(DC.1 hp).1
   exact⟨ops[j],p,Array.getElem?_eq_getElem bh,hp,hw⟩
  have ay:=(a6 i o e ho he).loc (T':=vF ((ops.toList.zip es).map fun p=>wT p.1 p.2) (fun j=>listed.getD j false) T0) (h':=vF (es.map (·.wr)) (fun j=>listed.getD j false) h0) (by
   intro t ht;refine XI _ _ _ _ _ rfl (fun j v U=>?_);obtain⟨Z,Y,J,aa,ac⟩:=an j t v U;apply Classical.byContradiction;intro G;by_cases hne:j=i
   ·subst hne;exact G (by rw[ah];simp)
   ·rcases aj j Z Y J aa hne G with⟨W,_⟩|⟨W,_⟩
    ·exact(Oper.apart_spec W).1 t ac ht
    ·exact(Oper.apart_spec W).2.2 t ac ht) (by
   intro b hb;refine XI _ _ _ _ _ rfl (fun j k U=>?_);obtain⟨Z,Y,J,aa,ao⟩:=au j b k U;apply Classical.byContradiction;intro G;by_cases hne:j=i
   ·subst hne;exact G (by rw[ah];simp)
   ·rcases aj j Z Y J aa hne G with⟨_,W⟩|⟨_,W⟩
    ·simp only[Ym,ao,Option.map_some,Z8,Bool.not_eq_true'] at W;have:=W.1.1;simp[hb] at this
    ·simp only[Ym,ao,Option.map_some,Z8,Bool.not_eq_true'] at W;have:=W.2;simp[hb] at this)
  refine ay.wp ho r ?_;intro φ' a' w' r' E'
  have eL:∀j,(listed.setIfInBounds i true).getD j false=(listed.getD j false||decide (j=i)):=by
   intro j;by_cases ba:j=i
   ·subst ba;have:j<listed.size:=by omega
    simp[this]
   ·rw[getD_set_ne false (Ne.symm ba)];simp[ba]
  have hT:vF ((ops.toList.zip es).map fun p=>wT p.1 p.2) (fun j=>(listed.setIfInBounds i true).getD j false) T0=XB (vF ((ops.toList.zip es).map fun p=>wT p.1 p.2) (fun j=>listed.getD j false) T0) (wT o e):=by
   simp only[eL];refine zH _ _ _ i (wT o e) ?_ ?_
   ·rw[List.getElem?_map,List.getElem?_zip_eq_some.2 (show ops.toList[i]?=some (o,e).1∧es[i]?=some (o,e).2 from⟨by simpa using ho,he⟩)];rfl
   ·intro b v al j u bb U;obtain⟨Z,Y,J,aa,ac⟩:=an j b u U
    have am:o.dst=some b:=by
     unfold wT at al;cases hd:o.dst with
    |none=>rw[hd] at al;cases al
    |some d=>rw[hd] at al;simp only[Option.map_some,Q0,XA] at al;rw[al.1]
    cases hq:listed.getD j false with
   |false=>rfl
   |true =>
     exfalso;rcases aj j Z Y J aa zo (by rw[hq];simp[show ¬j<i by omega]) with⟨W,_⟩|⟨W,_⟩
     ·exact(Oper.apart_spec W).2.1 b ac am
     ·exact(Oper.apart_spec W).2.1 b am ac
  have hH:vF (es.map (·.wr)) (fun j=>(listed.setIfInBounds i true).getD j false) h0=XB (vF (es.map (·.wr)) (fun j=>listed.getD j false) h0) e.wr:=by
   simp only[eL];refine zH _ _ _ i e.wr (by simp[he]) ?_;intro b k bg j u bb U;obtain⟨Z,Y,J,aa,ao⟩:=au j b u U;cases hq:listed.getD j false with
  |false=>rfl
  |true =>
    exfalso;rcases aj j Z Y J aa zo (by rw[hq];simp[show ¬j<i by omega]) with⟨_,W⟩|⟨_,W⟩
    ·simp only[Ym,ao,bg,Option.map_some,Z8,bne_iff_ne] at W;exact W.1.2 rfl
    ·simp only[Ym,ao,bg,Option.map_some,Z8,bne_iff_ne] at W;exact W.1.2 rfl
  refine ih (listed.setIfInBounds i true) a' w' φ' (by simpa using ae) ?_ ?_ (by rw[hT,hH];exact r') (by rw[hH];exact E.trans E')
  ·have:=MX bf ops.size;rw[if_pos be] at this;omega
  ·intro j Z J U ed ab hb;rw[eL] at U ⊢;simp only[Bool.or_eq_true,Bg] at U ⊢;rcases U with U|rfl
   ·exact .inl (ak j Z J U ed ab hb)
   ·rw[ho] at J;cases J;exact .inl (O ed ab hb)
def J2(ops:Array Oper)(m:Nat):Bool:=(List.range m).all fun j=>(List.range (m+1)).any fun k=>decide (j<k)&&(ops[k]?).any (waits · j)
def Gt(o:Oper):Bool:=match o.op with|.call ⟨.value (.tmp _),_,_⟩=>false|_=>true
def FT(ops:Array Oper)(m:Nat):Bool:=(List.range ops.size).all fun k=>decide (k≤m)||(ops[k]?).any (waits · (k-1))
theorem xV{Q:Exit→Act→World→Prop}(m:Nat)(U:∀i,(hi:i<ops.size)→∀e∈(ops[i]).after,Region.binds .any e=true→e.on<i)(ab:FT ops m=true) :
  ∀(d k G:Nat) (listed:Array Bool) (a:Act) (w:World),k+d=ops.size→m≤k→d≤G→listed.size=ops.size→(∀i,i<k→listed.getD i false=true)→(∀i,k≤i→listed.getD i false=false) →
   wpOps P ops Q ((List.range d).map (k+·)) a w→wpAny P .any ops Q G listed a w:=by
 have Y:∀(listed:Array Bool) (i:Nat),i<listed.size→listed.getD i true=listed.getD i false:=fun listed i hi=>by simp[hi]
 intro d
 induction d with
|zero =>
  intro k G listed a w hk ae hf aa h1 h2 h
  have J:Region.ready .any ops listed=[]:=by
   apply List.eq_nil_iff_forall_not_mem.2;intro i hi;rw[mem_ready] at hi;obtain⟨Z,o,ho,_⟩:=hi;have ak:=(FL.1 ho).1;rw[Y listed i zo,h1 i zo] at Z;cases Z
  cases G with
 |zero=>exact⟨J,h⟩
 |succ G=>exact⟨fun _=>h,fun i hi=>by rw[J] at hi;cases hi⟩
|succ d ih =>
  intro k G listed a w hk ae hf aa h1 h2 h;obtain⟨G,rfl⟩:∃f,G=f+1:=⟨G-1,by omega⟩;have O:k<ops.size:=by omega
  have hr:(List.range (d+1)).map (k+·)=k::(List.range d).map (k+1+·):=by
   simp only[List.range_succ_eq_map,WV,List.map_map,Nat.add_zero,List.cons.injEq,true_and];apply List.map_congr_left;intro j _;simp;omega
  rw[hr,wpOps_cons] at h;refine⟨fun J=>?_,fun i hi=>?_⟩
  ·exfalso
   have:k∈Region.ready .any ops listed:=by
    rw[mem_ready];refine⟨by rw[Y listed k zo];exact h2 k (Kz _),ops[k],Array.getElem?_eq_getElem O,fun e he hb=>?_⟩;exact h1 e.on (U k O e he hb)
   rw[J] at this;cases this
  ·rw[mem_ready] at hi;obtain⟨Z,o,ho,ac⟩:=hi;have aj:i<ops.size:=(FL.1 ho).1;rw[Y listed i zo] at Z
   have ad:i=k:=by
    rcases Nat.lt_trichotomy i k with hlt|ah|al
    ·rw[h1 i hlt] at Z;cases Z
    ·exact ah
    ·exfalso;have W:=X5.1 ab i (by simp;omega);simp only[Bool.or_eq_true,Bg] at W;rcases W with W|W
     ·omega
     ·rw[ho] at W;simp only[Option.any_some,waits,List.any_eq_true,Z8,beq_iff_eq] at W;obtain⟨ed,af,hb,ai⟩:=W;have:=ac ed (by simpa using af) hb;rw[ai,h2 (i-1) zo] at this;cases this
   subst ad;refine wpOp_mono (fun a' w' hq=>ih (i+1) G _ a' w' zo zo zo (by simpa using aa) ?_ ?_ hq) h
   ·intro j hj;by_cases e:i=j
    ·subst e;have:i<listed.size:=by omega
     simp[this]
    ·rw[getD_set_ne false e];exact h1 j zo
   ·intro j hj;rw[getD_set_ne false zo];exact h2 j zo
theorem qx{Q:Exit→Act→World→Prop}{T0:Nat→Option AV}(es:List Ev)(m:Nat)(hm:m<ops.size)(ay:es.length=m)(a6:∀(i:Nat) o e,ops[i]?=some o→es[i]?=some e→Step1 P N ops o (vF ((ops.toList.zip es).map fun p=>wT p.1 p.2) (fun j=>decide (j<i)) T0) (vF (es.map (·.wr)) (fun j=>decide (j<i)) h0) e)(az:KC ops (es.map fun e=>(e.wr.map (·.1),e.rd))=true)(bk:J2 ops m=true)(ax:FT ops m=true)(hQ:∀φ a w,Zo φ M0 N D (vF ((ops.toList.zip es).map fun p=>wT p.1 p.2) (fun _=>true) T0) (vF (es.map (·.wr)) (fun _=>true) h0) a w→Q8 φ0 h0 w0 φ (vF (es.map (·.wr)) (fun _=>true) h0) w→wpOps P ops Q ((List.range (ops.size-m)).map (m+·)) a w) :
  ∀(ab:Nat) (listed:Array Bool) (a:Act) (w:World) (φ:Nat→Nat),listed.size=ops.size→Sq listed ops.size≤ab→(∀j,m≤j→listed.getD j false=false) →
   (∀(j:Nat) o,ops[j]?=some o→listed.getD j false=true→∀e∈o.after,Region.binds .any e=true→listed.getD e.on false=true) →
   Zo φ M0 N D (vF ((ops.toList.zip es).map fun p=>wT p.1 p.2) (fun j=>listed.getD j false) T0) (vF (es.map (·.wr)) (fun j=>listed.getD j false) h0) a w →
   Q8 φ0 h0 w0 φ (vF (es.map (·.wr)) (fun j=>listed.getD j false) h0) w→wpAny P .any ops Q ab listed a w:=by
 simp only[KC,Z8] at az;obtain⟨ai,au⟩:=az;have aq:∀(listed:Array Bool) (i:Nat),i<listed.size→listed.getD i true=listed.getD i false:=fun listed i hi=>by simp[hi]
 have bo:((ops.toList.zip es).map fun p=>wT p.1 p.2).length=m:=by simp[ay];omega
 have be:∀(listed:Array Bool) (a:Act) (w:World) (φ:Nat→Nat),listed.size=ops.size→(∀i,i<m→listed.getD i false=true) →
   Zo φ M0 N D (vF ((ops.toList.zip es).map fun p=>wT p.1 p.2) (fun j=>listed.getD j false) T0) (vF (es.map (·.wr)) (fun j=>listed.getD j false) h0) a w →
   Q8 φ0 h0 w0 φ (vF (es.map (·.wr)) (fun j=>listed.getD j false) h0) w→wpOps P ops Q ((List.range (ops.size-m)).map (m+·)) a w:=by
  intro listed a w φ ae O r E
  have e1:vF ((ops.toList.zip es).map fun p=>wT p.1 p.2) (fun j=>listed.getD j false) T0=vF ((ops.toList.zip es).map fun p=>wT p.1 p.2) (fun _=>true) T0 :=
   zI _ _ _ _ (fun j W=>by rw[bo] at W;exact O j W)
  have e2:vF (es.map (·.wr)) (fun j=>listed.getD j false) h0=vF (es.map (·.wr)) (fun _=>true) h0 :=
   zI _ _ _ _ (fun j W=>by simp only[WB,ay] at W;exact O j W)
  rw[e1,e2] at r;rw[e2] at E;exact hQ φ a w r E
 have av:∀(listed:Array Bool),listed.size=ops.size→Region.ready .any ops listed=[]→∀i,i<ops.size→listed.getD i true=true:=by
  intro listed ae hr i
  induction i using Nat.strongRecOn with
 |_ i ih =>
   intro hi;cases hq:listed.getD i true with
  |true=>rfl
  |false =>
    have:i∈Region.ready .any ops listed:=by
     rw[mem_ready];refine⟨hq,ops[i],Array.getElem?_eq_getElem hi,fun e he hb=>?_⟩;have Y:=V5 au i ops[i] (by simp[hi]) e he hb;have h2:e.on<i:=by omega
     rw[←aq listed e.on zo];exact ih e.on h2 zo
    rw[hr] at this;cases this
 intro ab
 induction ab with
|zero =>
  intro listed a w φ ae hu af ad r E;have O:=TS (n:=ops.size) (listed:=listed) zo;have:=O m zo;rw[aq listed m zo,af m (Kz _)] at this;cases this
|succ ab ih =>
  intro listed a w φ ae hu af ad r E
  have bg:∀n,n≤ops.size→(∀i,m≤i→i<n→listed.getD i true=false)→n-m≤Sq listed n:=by
   intro n
   induction n with
  |zero=>intro _ _;simp
  |succ n bn =>
    intro hn hh;simp only[Sq];have:=bn zo (fun i Y h2=>hh i Y zo);by_cases bq:m≤n
    ·rw[hh n bq zo];simp;omega
    ·split<;>omega
  by_cases bd:∀i,i<m→listed.getD i false=true
  ·have hf:=bg ops.size (Kz _) (fun i Y h2=>by rw[aq listed i zo];exact af i Y);exact xV m (fun i hi e he hb=>by have:=V5 au i ops[i] (by simp[hi]) e he hb;omega) ax (ops.size-m) m (ab+1) listed a w zo (Kz _) zo ae bd af (be listed a w φ ae bd r E)
  refine⟨fun hr=>?_,fun i hi=>?_⟩
  ·have:=av listed ae hr m zo;rw[aq listed m zo,af m (Kz _)] at this;cases this
  rw[mem_ready] at hi;obtain⟨bh,o,ho,O⟩:=hi;have bi:i<ops.size:=(FL.1 ho).1;have ah:listed.getD i false=false:=by rw[←aq listed i zo];exact bh
  by_cases bv:m≤i
  ·exfalso
   have bm:i=m:=by
    apply Classical.byContradiction;intro hne;have h4:=X5.1 ax i (by simp;omega);simp only[Bool.or_eq_true,Bg] at h4;rcases h4 with h4|h4
    ·omega
    ·rw[ho] at h4;simp only[Option.any_some,waits,List.any_eq_true,Z8,beq_iff_eq] at h4;obtain⟨ed,U,hb,Z⟩:=h4;have:=O ed (by simpa using U) hb;rw[Z,af (i-1) zo] at this;cases this
   subst bm
   have a7:∀d j,j+d+1=i→listed.getD j false=true:=by
    intro d
    induction d using Nat.strongRecOn with
   |_ d br =>
     intro j W;have Y:=X5.1 bk j (by simp;omega);simp only[List.any_eq_true,List.mem_range,Z8,Bg] at Y;obtain⟨k,hk,bt,hw⟩:=Y;cases hok:ops[k]? with
    |none=>rw[hok] at hw;cases hw
    |some ok =>
      rw[hok] at hw;simp only[Option.any_some,waits,List.any_eq_true,Z8,beq_iff_eq] at hw;obtain⟨ed,U,hb,Z⟩:=hw;by_cases bp:k=i
      ·subst bp;rw[ho] at hok;cases hok;have:=O ed (by simpa using U) hb
       rwa [Z] at this
      ·have:=ad k ok hok (br (i-k-1) zo k zo) ed (by simpa using U) hb
       rwa [Z] at this
   exact bd (fun j W=>a7 (i-j-1) j zo)
  obtain⟨e,he⟩:∃e,es[i]?=some e:=⟨es[i],List.getElem?_eq_getElem zo⟩
  have aj:∀(j:Nat) oj ej,ops[j]?=some oj→es[j]?=some ej→j≠i→¬(listed.getD j false=decide (j<i))→oj.apart ops o=true∧Ym (ej.wr.map (·.1),ej.rd) (e.wr.map (·.1),e.rd)=true∨(o.apart ops oj=true∧Ym (e.wr.map (·.1),e.rd) (ej.wr.map (·.1),ej.rd)=true):=by
   intro j oj ej J aa hne G;rcases Nat.lt_or_ge j i with hlt|bu
   ·have:=GZ ai j i oj o (ej.wr.map (·.1),ej.rd) (e.wr.map (·.1),e.rd) hlt (by simpa using J) (by simpa using ho) (by simp[aa]) (by simp[he]);rcases this with hw|a8
    ·exfalso;simp only[Nat.zero_add] at hw;rcases FR hw with⟨ed,U,hb,Z⟩|⟨ed,ok,ba,U,hb,hok,ao,bb,Z⟩
     ·have:=O ed U hb;rw[Z] at this;exact G (by rw[this];simp[hlt])
     ·have:=ad ed.on ok hok (O ed U hb) ba ao bb;rw[Z] at this;exact G (by rw[this];simp[hlt])
    ·exact .inl a8
   ·have bf:i<j:=by omega
    have:=GZ ai i j o oj (e.wr.map (·.1),e.rd) (ej.wr.map (·.1),ej.rd) bf (by simpa using ho) (by simpa using J) (by simp[he]) (by simp[aa]);rcases this with hw|a8
    ·exfalso;simp only[Nat.zero_add] at hw;cases hq:listed.getD j false with
    |true =>
      rcases FR hw with⟨ed,U,hb,Z⟩|⟨ed,ok,ba,U,hb,hok,ao,bb,Z⟩
      ·have:=ad j oj J hq ed U hb;rw[Z,ah] at this;cases this
      ·have:=ad ed.on ok hok (ad j oj J hq ed U hb) ba ao bb;rw[Z,ah] at this;cases this
    |false =>
      have h3:¬j<i:=by omega
      exact G (by rw[hq];simp[h3])
    ·exact .inr a8
  have am:∀(j:Nat) t v,((ops.toList.zip es).map fun p=>wT p.1 p.2)[j]?=some (some (t,v))→∃oj ej,ops[j]?=some oj∧es[j]?=some ej∧oj.dst=some t:=by
   intro j t v W;simp only[List.getElem?_map,Gn] at W;obtain⟨p,hp,hw⟩:=W;rw[List.getElem?_zip_eq_some] at hp;refine⟨p.1,p.2,by simpa using hp.1,hp.2,?_⟩;unfold wT at hw;cases hd:p.1.dst with
  |none=>rw[hd] at hw;cases hw
  |some d=>rw[hd] at hw;simp only[Option.map_some,Q0,XA] at hw;rw[hw.1]
  have ar:∀(j:Nat) b k,(es.map (·.wr))[j]?=some (some (b,k))→∃oj ej,ops[j]?=some oj∧es[j]?=some ej∧ej.wr=some (b,k):=by
   intro j b k W;simp only[List.getElem?_map,Gn] at W;obtain⟨p,hp,hw⟩:=W;have bl:j<ops.size:=by have:=(DC.1 hp).1;omega
   exact⟨ops[j],p,Array.getElem?_eq_getElem bl,hp,hw⟩
  have aw:=(a6 i o e ho he).loc (T':=vF ((ops.toList.zip es).map fun p=>wT p.1 p.2) (fun j=>listed.getD j false) T0) (h':=vF (es.map (·.wr)) (fun j=>listed.getD j false) h0) (by
   intro t ht;refine XI _ _ _ _ _ rfl (fun j v W=>?_);obtain⟨oj,ej,J,aa,ac⟩:=am j t v W;apply Classical.byContradiction;intro G;by_cases hne:j=i
   ·subst hne;exact G (by rw[ah];simp)
   ·rcases aj j oj ej J aa hne G with⟨Y,_⟩|⟨Y,_⟩
    ·exact(Oper.apart_spec Y).1 t ac ht
    ·exact(Oper.apart_spec Y).2.2 t ac ht) (by
   intro b hb;refine XI _ _ _ _ _ rfl (fun j k W=>?_);obtain⟨oj,ej,J,aa,an⟩:=ar j b k W;apply Classical.byContradiction;intro G;by_cases hne:j=i
   ·subst hne;exact G (by rw[ah];simp)
   ·rcases aj j oj ej J aa hne G with⟨_,Y⟩|⟨_,Y⟩
    ·simp only[Ym,an,Option.map_some,Z8,Bool.not_eq_true'] at Y;have:=Y.1.1;simp[hb] at this
    ·simp only[Ym,an,Option.map_some,Z8,Bool.not_eq_true'] at Y;have:=Y.2;simp[hb] at this)
  refine aw.wp ho r ?_;intro φ' a' w' r' E'
  have eL:∀j,(listed.setIfInBounds i true).getD j false=(listed.getD j false||decide (j=i)):=by
   intro j;by_cases bc:j=i
   ·subst bc;have:j<listed.size:=by omega
    simp[this]
   ·rw[getD_set_ne false (Ne.symm bc)];simp[bc]
  have hT:vF ((ops.toList.zip es).map fun p=>wT p.1 p.2) (fun j=>(listed.setIfInBounds i true).getD j false) T0=XB (vF ((ops.toList.zip es).map fun p=>wT p.1 p.2) (fun j=>listed.getD j false) T0) (wT o e):=by
   simp only[eL];refine zH _ _ _ i (wT o e) ?_ ?_
   ·rw[List.getElem?_map,List.getElem?_zip_eq_some.2 (show ops.toList[i]?=some (o,e).1∧es[i]?=some (o,e).2 from⟨by simpa using ho,he⟩)];rfl
   ·intro b v ak j u bf W;obtain⟨oj,ej,J,aa,ac⟩:=am j b u W
    have al:o.dst=some b:=by
     unfold wT at ak;cases hd:o.dst with
    |none=>rw[hd] at ak;cases ak
    |some d=>rw[hd] at ak;simp only[Option.map_some,Q0,XA] at ak;rw[ak.1]
    cases hq:listed.getD j false with
   |false=>rfl
   |true =>
     exfalso;rcases aj j oj ej J aa zo (by rw[hq];simp[show ¬j<i by omega]) with⟨Y,_⟩|⟨Y,_⟩
     ·exact(Oper.apart_spec Y).2.1 b ac al
     ·exact(Oper.apart_spec Y).2.1 b al ac
  have hH:vF (es.map (·.wr)) (fun j=>(listed.setIfInBounds i true).getD j false) h0=XB (vF (es.map (·.wr)) (fun j=>listed.getD j false) h0) e.wr:=by
   simp only[eL];refine zH _ _ _ i e.wr (by simp[he]) ?_;intro b k bj j u bf W;obtain⟨oj,ej,J,aa,an⟩:=ar j b u W;cases hq:listed.getD j false with
  |false=>rfl
  |true =>
    exfalso;rcases aj j oj ej J aa zo (by rw[hq];simp[show ¬j<i by omega]) with⟨_,Y⟩|⟨_,Y⟩
    ·simp only[Ym,an,bj,Option.map_some,Z8,bne_iff_ne] at Y;exact Y.1.2 rfl
    ·simp only[Ym,an,bj,Option.map_some,Z8,bne_iff_ne] at Y;exact Y.1.2 rfl
  refine ih (listed.setIfInBounds i true) a' w' φ' (by simpa using ae) ?_ (fun j W=>by rw[getD_set_ne false zo];exact af j W) ?_ (by rw[hT,hH];exact r') (by rw[hH];exact E.trans E')
  ·have:=MX bh ops.size;rw[if_pos bi] at this;omega
  ·intro j oj J W ed U hb;rw[eL] at W ⊢;simp only[Bool.or_eq_true,Bg] at W ⊢;rcases W with W|rfl
   ·exact .inl (ad j oj J W ed U hb)
   ·rw[ho] at J;cases J;exact .inl (O ed U hb)
def vP(N:Nat)(o:Oper)(s:St)(K:St→Prop):Option KL→Prop|some u=>KA N o.dst=true∧K (s.put o.dst u.1)|none=>False
def QfA(N:Nat)(o:Oper)(s:St)(acc:List Yz)(K:List Yz→St→Prop):Option KL→Prop|some u=>KA N o.dst=true∧K ((u.2.1.map (·.1),u.2.2)::acc) (JH s o.dst u)|none=>False
def vQ(ops:Array Oper)(s:St):List Oper→Bool|[]=>true|o::rest=>(Gt o||(yieldOf (look (Zm ops o s.T true)) o.op).isNone)&&rest.all Gt
theorem vS{l:List Oper}(h:l.all Gt=true):vQ ops s l=true:=by
 cases l with
|nil=>rfl
|cons o l =>
  simp only[List.all_cons,Z8] at h;simp[vQ,h.1,h.2]
def xW(P:Program)(N:Nat)(ops:Array Oper)(Q:AX→St→Prop)(o:Oper)(op:Op)(rest:List Oper)(acc:List Yz)(s0 s:St)(K:St→Prop):Prop :=(∃f args args' x,Kg (look s.T) op=some (f,args)∧Y1 P f=true∧KA N o.dst=true∧MW args args'∧Y0 args'=true∧Yf x=true∧Q9 P f args' (.ret x)∧K (s.put o.dst x)) ∨ (rest=[]∧J2 ops acc.length=true∧KC ops acc.reverse=true∧XG P N o s (Q .normal) Q) ∨ (J2 ops acc.length=true∧KC ops acc.reverse=true∧FT ops acc.length=true∧vQ ops s0 (o::rest)=true∧Yg P N ops Q (o::rest) s0) ∨ (∃(f:FuncId) (args:List AV) (J:List AV→AV),Kg (look s.T) op=some (f,args)∧Y1 P f=true∧KA N o.dst=true∧args.all lX=true∧(∀G:List Value,SlV G→G.length=args.length→Q9 P f (pvs G) (.ret (J (pvs G))))∧(∀G,Yf (J (pvs G))=true)∧Qfz J∧K (s.put o.dst (J args)))
def QcT(P:Program)(N:Nat)(ops:Array Oper)(Q:AX→St→Prop)(o:Oper)(rest:List Oper)(acc:List Yz)(s0:St):Prop :=J2 ops acc.length=true∧KC ops acc.reverse=true∧FT ops acc.length=true∧vQ ops s0 (o::rest)=true∧Yg P N ops Q (o::rest) s0
def KT(P:Program)(N:Nat)(ops:Array Oper)(Q:AX→St→Prop):List Oper→List Yz→St→Prop
 |[],acc,s=>KC ops acc.reverse=true∧Q .normal s
 |o::rest,acc,s =>
    match ZH ops o (look s.T) with
   |some b=>F6 b
        (match o.op with
        |.pick c x y=>match Zp (look (Zm ops o s.T true)) c with
          |some (.p (.val (.bool t)))=>F6 t (vP N o ⟨Zm ops o s.T true,s.H⟩ (KT P N ops Q rest ((none,[])::acc)) (V4 (look (Zm ops o s.T true)) x)) (vP N o ⟨Zm ops o s.T true,s.H⟩ (KT P N ops Q rest ((none,[])::acc)) (V4 (look (Zm ops o s.T true)) y))
          |_=>False
        |.call ⟨.value f,args,ts⟩=>xW P N ops Q o (.call ⟨.value f,args,ts⟩) rest acc s ⟨Zm ops o s.T true,s.H⟩ (KT P N ops Q rest ((none,[])::acc))
        |.panic x=>rest=[]∧J2 ops acc.length=true∧KC ops acc.reverse=true∧XG P N o ⟨Zm ops o s.T true,s.H⟩ (Q .normal) Q
        |_=>QfA N o ⟨Zm ops o s.T true,s.H⟩ acc (KT P N ops Q rest) (Jb P o (look (Zm ops o s.T true)) (look s.H))∨QcT P N ops Q o rest acc s)
        (KA N o.dst=true∧KT P N ops Q rest ((none,[])::acc) (St.put ⟨Zm ops o s.T false,s.H⟩ o.dst (.p (.val undef))))
   |none=>False
def OG(e:Ev):Yz:=(e.wr.map (·.1),e.rd)
theorem Qbk(c:Option (Nat×α))(G:List (Option (Nat×α)))(i:Nat)(F:Nat→Option α):vF (c::G) (fun j=>decide (j<i+1)) F=vF G (fun j=>decide (j<i)) (XB F c):=by
 simp only[vF,Nat.zero_lt_succ,decide_true,if_true];congr 1;funext j;simp
def MZ(P:Program)(N:Nat)(ops:Array Oper)(l:List Oper)(es:List Ev)(T0:Nat→Option AV)(h0:QO):Prop :=∀(i:Nat) o e,l[i]?=some o→es[i]?=some e→Step1 P N ops o (vF ((l.zip es).map fun p=>wT p.1 p.2) (fun j=>decide (j<i)) T0) (vF (es.map (·.wr)) (fun j=>decide (j<i)) h0) e
theorem RF{l:List Oper}{e:Ev}{es:List Ev}{T0:Nat→Option AV}(W:Step1 P N ops o T0 h0 e)(O:MZ P N ops l es (XB T0 (wT o e)) (XB h0 e.wr)):MZ P N ops (o::l) (e::es) T0 h0:=by
 intro i Y U G J;cases i with
|zero =>
  simp at G J;subst G J;rw[JZ _ _ _ zq,JZ _ _ _ zq];exact W
|succ i =>
  simp only[List.zip_cons_cons,WV,Qbk];exact O i Y U (by simpa using G) (by simpa using J)
theorem pJ(s:St)(o:Oper)(u:KL):look (JH s o.dst u).T=XB (look s.T) (wT o ⟨u.1,u.2.1,u.2.2⟩)∧look (JH s o.dst u).H=XB (look s.H) u.2.1:=by
 constructor
 ·unfold JH wT;cases o.dst<;>rfl
 ·unfold JH;cases hq:u.2.1 with
 |none=>rfl
 |some G=>rfl
theorem M3(s:St)(o:Oper)(e:Ev)(hw:e.wr=none):look (s.put o.dst e.x).T=XB (look s.T) (wT o e)∧look (s.put o.dst e.x).H=XB (look s.H) e.wr:=by
 rw[hw];unfold wT St.put;cases o.dst<;>exact⟨rfl,rfl⟩
def Ew(P:Program)(N:Nat)(ops:Array Oper)(Q:AX→St→Prop)(l:List Oper)(acc:List Yz)(s:St):Prop :=(∃(es:List Ev) (s':St),es.length=l.length∧MZ P N ops l es (look s.T) (look s.H)∧KC ops (acc.reverse++es.map OG)=true ∧ look s'.T=vF ((l.zip es).map fun p=>wT p.1 p.2) (fun _=>true) (look s.T)∧look s'.H=vF (es.map (·.wr)) (fun _=>true) (look s.H)∧Q .normal s') ∨ (∃(pre:List Oper) (o:Oper) (es:List Ev) (s':St),l=pre++[o]∧es.length=pre.length∧MZ P N ops l es (look s.T) (look s.H)∧KC ops (acc.reverse++es.map OG)=true∧J2 ops (acc.length+pre.length)=true ∧ look s'.T=vF ((l.zip es).map fun p=>wT p.1 p.2) (fun _=>true) (look s.T)∧look s'.H=vF (es.map (·.wr)) (fun _=>true) (look s.H)∧ZH ops o (look s'.T)=some true∧XG P N o s' (Q .normal) Q) ∨ (∃(pre:List Oper) (o:Oper) (rest:List Oper) (es:List Ev) (s':St),l=pre++o::rest∧es.length=pre.length∧MZ P N ops l es (look s.T) (look s.H)∧KC ops (acc.reverse++es.map OG)=true∧J2 ops (acc.length+pre.length)=true∧FT ops (acc.length+pre.length)=true∧vQ ops s' (o::rest)=true ∧ look s'.T=vF ((l.zip es).map fun p=>wT p.1 p.2) (fun _=>true) (look s.T)∧look s'.H=vF (es.map (·.wr)) (fun _=>true) (look s.H)∧Yg P N ops Q (o::rest) s')
theorem Ey{l:List Oper}{acc:List Yz}(G:look s1.T=look s.T)(J:look s1.H=look s.H)(h:Ew P N ops Q l acc s1):Ew P N ops Q l acc s:=by
 unfold Ew at h ⊢;rw[G,J] at h;exact h
theorem A8{P:Program}{N:Nat}{ops:Array Oper}{Q:AX→St→Prop}:∀(l:List Oper) (acc:List Yz) (s:St),KT P N ops Q l acc s→Ew P N ops Q l acc s
 |[],acc,s,h=>.inl ⟨[],s,rfl,fun i o e ho=>by simp at ho,by simpa using h.1,rfl,rfl,h.2⟩
 |o::l,acc,s,h=>by
    have step:∀(s:St) (e:Ev) (s1:St),Step1 P N ops o (look s.T) (look s.H) e→look s1.T=XB (look s.T) (wT o e)→look s1.H=XB (look s.H) e.wr→KT P N ops Q l (OG e::acc) s1→Ew P N ops Q (o::l) acc s:=by
      intro s e s1 hs hT hH hd;rcases A8 l (OG e::acc) s1 hd with⟨es,s',G,J,O,U,W,h6⟩|⟨pre,o',es,s',h0,G,J,O,U,W,h6,h7,h8⟩|⟨pre,o',rest,es,s',h0,G,J,O,U,ae,ac,W,h6,h8⟩
      · refine .inl ⟨e::es,s',by simp[G],RF hs (by rw[←hT,←hH];exact J),by simpa using O,?_,?_,h6⟩
        · rw[U,hT];rfl
        · rw[W,hH];rfl
      · refine .inr (.inl ⟨o::pre,o',e::es,s',by simp[h0],by simp[G],RF hs (by rw[←hT,←hH];exact J),by simpa using O,?_,?_,?_,h7,h8⟩)
        · have:(OG e::acc).length+pre.length=acc.length+(o::pre).length:=by simp;omega
          rw[←this];exact U
        · rw[W,hT];rfl
        · rw[h6,hH];rfl
      · have this:(OG e::acc).length+pre.length=acc.length+(o::pre).length:=by simp;omega
        refine .inr (.inr ⟨o::pre,o',rest,e::es,s',by simp[h0],by simp[G],RF hs (by rw[←hT,←hH];exact J),by simpa using O,by rw[←this];exact U,by rw[←this];exact ae,ac,?_,?_,h8⟩)
        · rw[W,hT];rfl
        · rw[h6,hH];rfl
    have tail:∀(s:St),ZH ops o (look s.T)=some true→(l=[]∧J2 ops acc.length=true∧KC ops acc.reverse=true∧XG P N o s (Q .normal) Q)→Ew P N ops Q (o::l) acc s:=by
      rintro s hw ⟨G,J,O,U⟩;subst G;exact .inr (.inl ⟨[],o,[],s,rfl,rfl,fun i o e _ he=>by simp at he,by simpa using O,by simpa using J,rfl,rfl,hw,U⟩)
    have ah:∀s0 s:St,look s.T=look s0.T→s.H=s0.H→ZH ops o (look s.T)=some true→(match o.op with
        |.pick c x y=>match Zp (look s.T) c with
          |some (.p (.val (.bool t)))=>F6 t (vP N o s (KT P N ops Q l ((none,[])::acc)) (V4 (look s.T) x)) (vP N o s (KT P N ops Q l ((none,[])::acc)) (V4 (look s.T) y))
          |_=>False
        |.call ⟨.value f,args,ts⟩=>xW P N ops Q o (.call ⟨.value f,args,ts⟩) l acc s0 s (KT P N ops Q l ((none,[])::acc))
        |.panic x=>l=[]∧J2 ops acc.length=true∧KC ops acc.reverse=true∧XG P N o s (Q .normal) Q
        |_=>QfA N o s acc (KT P N ops Q l) (Jb P o (look s.T) (look s.H))∨QcT P N ops Q o l acc s0)→Ew P N ops Q (o::l) acc s:=by
        intro s0 s ab ad hw g;split at g
        · rename_i c x y ho
          split at g
          · rename_i t hc
            have Y:∀z,vP N o s (KT P N ops Q l ((none,[])::acc)) (V4 (look s.T) z)→CK (look s.T) c x y=V4 (look s.T) z→Ew P N ops Q (o::l) acc s:=by
              intro z Z hp;cases hm:V4 (look s.T) z with
             |none=>rw[hm] at Z;exact Z.elim
             |some u =>
                rw[hm] at Z hp
                have hu:u.2=(none,[]):=by
                  unfold V4 at hm;split at hm
                  · simp only[Q0] at hm;subst hm;rfl
                  · cases hm
                have af:Jb P o (look s.T) (look s.H)=some (u.1,none,[]):=by
                  unfold Jb;simp only[ho];rw[hp];congr 1;rw[←hu]
                have aa:=M3 s o ⟨u.1,none,[]⟩ rfl;exact step s ⟨u.1,none,[]⟩ _ ⟨Z.1,.inr (.inl ⟨hw,af⟩)⟩ aa.1 aa.2 Z.2
            refine UX g (fun ht Z=>Y x Z ?_) (fun ht Z=>Y y Z ?_)
            · subst ht;simp[CK,hc]
            · subst ht;simp[CK,hc]
          · exact g.elim
        · rename_i f ai ts ho
          rcases g with⟨f,args,args',x,G,J,O,U,W,h6,h7,h8⟩|G|⟨G,J,O,U,W⟩|⟨f,args,τ,G,J,O,h8,U,W,h6,h7⟩
          · have hp:=M3 s o ⟨x,none,[]⟩ rfl
            exact step s ⟨x,none,[]⟩ _ ⟨O,.inr (.inr (.inl ⟨hw,f,args,args',by rw[ho];exact G,J,U,W,h7,h6,rfl,rfl⟩))⟩ hp.1 hp.2 h8
          · exact tail s hw G
          · exact .inr (.inr ⟨[],o,l,[],s0,rfl,rfl,fun i o e _ he=>by simp at he,by simpa using J,by simpa using G,by simpa using O,U,ab.symm,by rw[ad];rfl,W⟩)
          · have hp:=M3 s o ⟨τ args,none,[]⟩ rfl
            exact step s ⟨τ args,none,[]⟩ _ ⟨O,.inr (.inr (.inr ⟨hw,f,args,τ,by rw[ho];exact G,J,h8,U,W,h6,rfl,rfl,rfl⟩))⟩ hp.1 hp.2 h7
        · exact tail s hw g
        · rcases g with g|⟨G,J,O,U,W⟩
          rotate_left
          · exact .inr (.inr ⟨[],o,l,[],s0,rfl,rfl,fun i o e _ he=>by simp at he,by simpa using J,by simpa using G,by simpa using O,U,ab.symm,by rw[ad];rfl,W⟩)
          cases hu:Jb P o (look s.T) (look s.H) with
         |none=>rw[hu] at g;exact g.elim
         |some u =>
            rw[hu] at g;have hp:=pJ s o u;exact step s ⟨u.1,u.2.1,u.2.2⟩ _ ⟨g.1,.inr (.inl ⟨hw,hu⟩)⟩ hp.1 hp.2 g.2
    simp only[KT] at h;split at h
    · rename_i b hw
      refine UX h (fun hb g=>?_) (fun hb g=>?_)
      · subst hb
        have em:=Um hw;exact Ey (s1:=⟨Zm ops o s.T true,s.H⟩) em rfl (ah s ⟨Zm ops o s.T true,s.H⟩ em rfl (by show ZH ops o (look (Zm ops o s.T true))=some true;rw[em];exact hw) g)
      · subst hb
        have em:=Um hw;refine Ey (s1:=⟨Zm ops o s.T false,s.H⟩) em rfl ?_;have hp:=M3 ⟨Zm ops o s.T false,s.H⟩ o ⟨.p (.val undef),none,[]⟩ rfl;exact step ⟨Zm ops o s.T false,s.H⟩ ⟨.p (.val undef),none,[]⟩ _ ⟨g.1,.inl ⟨by show ZH ops o (look (Zm ops o s.T false))=some false;rw[em];exact hw,rfl⟩⟩ hp.1 hp.2 g.2
    · exact h.elim
theorem vU(h:Gt o=true):yieldOf T o.op=none:=by
 unfold Gt at h;unfold yieldOf;split
 ·rename_i G;rw[G] at h;cases h
 ·rfl
theorem xX(h:(Gt o||(yieldOf (look (Zm ops o s.T true)) o.op).isNone)=true):yieldOf (look (Zm ops o s.T true)) o.op=none:=by
 rcases Bool.or_eq_true _ _ |>.mp h with h|h
 ·exact vU h
 ·simpa using h
theorem Px{P:Program}{N:Nat}{D:DB}{ops:Array Oper}{Q:AX→St→Prop}:∀(l:List Oper) (k:Nat) (s:St) (φ0:Nat→Nat) (h0:QO) (w0:World) (φ:Nat→Nat) (M0:ZM) (a:Act) (w:World),
  (∀j,l[j]?=ops[k+j]?)→vQ ops s l=true→Q8 φ0 h0 w0 φ (look s.H) w→Zo φ M0 N D (look s.T) (look s.H) a w→Yg P N ops Q l s →
  wpOps P ops (Post N D Q φ0 M0 h0 w0) ((List.range l.length).map (k+·)) a w
|[],k,s,φ0,h0,w0,φ,M0,a,w,U,J,E,r,h=>⟨φ,.normal,s,h,r,E,rfl⟩
|o::l,k,s,φ0,h0,w0,φ,M0,a,w,U,J,E,r,h=>by
  have Z:ops[k]?=some o:=by simpa using (U 0).symm
  have hr:(List.range (o::l).length).map (k+·)=k::(List.range l.length).map (k+1+·):=by
   simp only[JF,List.range_succ_eq_map,WV,List.map_map,Nat.add_zero,List.cons.injEq,true_and];apply List.map_congr_left;intro j _;simp;omega
  rw[hr,wpOps_cons];unfold wpOp;simp only[Z];simp only[vQ,Z8] at J;have G:∀j,l[j]?=ops[k+1+j]?:=fun j=>by have:=U (j+1);rwa [show k+(j+1)=k+1+j from by omega] at this
  simp only[Yg] at h;split at h
  ·rename_i b hw;rw[GX r hw];refine UX h (fun hb g=>?_) (fun hb g=>?_)
   ·subst hb;simp only[if_true];have O:=Um hw;have r1:Zo φ M0 N D (look (Zm ops o s.T true)) (look s.H) a w:=by rw[O];exact r
    rw[xX J.1] at g;refine .inl (Go.Abs.Oper.wp_mono2 (DV (s:=⟨Zm ops o s.T true,s.H⟩) g r1) ?_ ?_)
    ·rintro W w' ⟨φ',s',Y,h3,h4⟩;exact Px l (k+1) s' φ0 h0 w0 φ' M0 W w' G (vS J.2) (E.trans h4) h3 Y
    ·intro e W w' p;exact p.trans E
   ·subst hb;simp only[Bool.false_eq_true,if_false];have O:=Um hw;have r1:Zo φ M0 N D (look (Zm ops o s.T false)) (look s.H) a w:=by rw[O];exact r
    refine Px l (k+1) _ φ0 h0 w0 φ M0 _ w G (vS J.2) ?_ (Zo.put (s:=⟨Zm ops o s.T false,s.H⟩) r1 (Z7 g.1) (by simp[Qe,QM])) g.2;cases o.dst<;>exact E
  ·exact h.elim
theorem A9(h:KT P N ops Q ops.toList [] s)(r:Zo φ M0 N D (look s.T) (look s.H) a w) :
  wpAny P .any ops (Post N D Q φ M0 (look s.H) w) ops.size (Array.replicate ops.size false) a { w with drawn:=w.drawn+1 }:=by
 have hd:Q8 φ (look s.H) w φ (look s.H) { w with drawn:=w.drawn+1 }:=LA rfl rfl rfl rfl;have r1:Zo φ M0 N D (look s.T) (look s.H) a { w with drawn:=w.drawn+1 }:=r.keep hd (Gp rfl) (DF (w:=w) rfl hd r.hp)
 have G:∀(j:Nat),(Array.replicate ops.size false).getD j false=false:=by
  intro j;rcases Nat.lt_or_ge j ops.size with h|h
  ·simp[h]
  ·simp[h]
 have J:∀n,Sq (Array.replicate ops.size false) n≤n:=by
  intro n
  induction n with
 |zero=>simp[Sq]
 |succ n ih=>simp only[Sq];split<;>omega
 rcases A8 _ _ _ h with⟨es,s',h1,Z,h3,h4,Y,W⟩|⟨pre,o,es,s',h0,h1,Z,h3,h4,Y,W,h7,h8⟩|⟨pre,o,rest,es,s',h0,h1,Z,h3,h4,ac,ab,Y,W,h8⟩
 ·refine lY (D:=D) (T0:=look s.T) (h0:=look s.H) (φ0:=φ) (w0:=w) (M0:=M0) (N:=N) es (by simpa using h1) (fun i o e ho he=>Z i o e (by simpa using ho) he) (by show KC ops (es.map OG)=true;simpa using h3) ?_ ops.size _ a _ φ zq (J _) (fun j o _ U=>by rw[G] at U;cases U) ?_ ?_
  ·intro φ' a' w' r' O;rw[←h4,←Y] at r';rw[←Y] at O;exact⟨φ',.normal,s',W,r',O,rfl⟩
  ·rw[JZ _ _ _ (fun j _=>G j),JZ _ _ _ (fun j _=>G j)];exact r1
  ·rw[JZ _ _ _ (fun j _=>G j)];exact hd
 ·have ah:ops.size=pre.length+1:=by have:=congrArg List.length h0;simpa using this
  have ai:ops[pre.length]?=some o:=by
   have:ops.toList[pre.length]?=some o:=by rw[h0];simp
   simpa using this
  have ae:FT ops pre.length=true:=by
   unfold FT;rw[X5];intro k hk;simp only[List.mem_range,Bool.or_eq_true,Bg] at hk ⊢;exact .inl zo
  refine qx (D:=D) (T0:=look s.T) (h0:=look s.H) (φ0:=φ) (w0:=w) (M0:=M0) (N:=N) es pre.length zo h1 (fun i o e ho he=>Z i o e (by simpa using ho) he) (by show KC ops (es.map OG)=true;simpa using h3) (by simpa using h4) ae ?_ ops.size _ a _ φ zq (J _) (fun j _=>G j) (fun j o _ U=>by rw[G] at U;cases U) ?_ ?_
  ·intro φ' a' w' r' O;rw[←Y,←W] at r';rw[←W] at O;rw[show ops.size-pre.length=1 from by omega];show wpOps _ _ _ [pre.length+0] _ _;rw[wpOps_cons,Nat.add_zero];unfold wpOp;simp only[ai,GX r' h7,if_true];refine .inl (Go.Abs.Oper.wp_mono2 (DV h8 r') ?_ ?_)
   ·rintro ad w'' ⟨aa,af,g1,g2,g3⟩;exact⟨aa,.normal,af,g1,g2,O.trans g3,rfl⟩
   ·intro e ad w'' p;exact p.trans O
  ·rw[JZ _ _ _ (fun j _=>G j),JZ _ _ _ (fun j _=>G j)];exact r1
  ·rw[JZ _ _ _ (fun j _=>G j)];exact hd
 ·have ah:ops.size=pre.length+(rest.length+1):=by have:=congrArg List.length h0;simpa using this
  refine qx (D:=D) (T0:=look s.T) (h0:=look s.H) (φ0:=φ) (w0:=w) (M0:=M0) (N:=N) es pre.length zo h1 (fun i o e ho he=>Z i o e (by simpa using ho) he) (by show KC ops (es.map OG)=true;simpa using h3) (by simpa using h4) (by simpa using ac) ?_ ops.size _ a _ φ zq (J _) (fun j _=>G j) (fun j o _ U=>by rw[G] at U;cases U) ?_ ?_
  ·intro φ' a' w' r' O;rw[←Y,←W] at r';rw[←W] at O
   have:=Px (o::rest) pre.length s' φ (look s.H) w φ' M0 a' w' (fun j=>by
    have e1:ops[pre.length+j]?=ops.toList[pre.length+j]?:=by simp
    rw[e1,h0,List.getElem?_append_right zo];congr 1;omega) ab O r' h8
   rw[show ops.size-pre.length=(o::rest).length from by simp;omega];exact this
  ·rw[JZ _ _ _ (fun j _=>G j),JZ _ _ _ (fun j _=>G j)];exact r1
  ·rw[JZ _ _ _ (fun j _=>G j)];exact hd
theorem fA(J:P.follows .mixedOrders=true)(G:UC ops=true)(h:KT P N ops Q ops.toList [] s):Ex P N ro (.region id ops true) s Q :=
 fun _ _ _ _ _ r=>wpIn_region_any J (Bq G WE _ _ _ _ (A9 h r))
def Jc:Nat→List AV→List (Nat×AV)|_,[]=>[]|k,x::xs=>(k,x)::Jc (k+1) xs
theorem Ia:∀(xs:List AV) (k t:Nat) (x:AV),look (Jc k xs) t=some x→k≤t∧xs[t-k]?=some x
|[],k,t,x,h=>by simp[Jc,look] at h
|y::xs,k,t,x,h=>by
  simp only[Jc,look] at h;by_cases e:k=t
  ·subst e;simp at h;subst h;simp
  ·simp only[e,if_false] at h;obtain⟨J,G⟩:=Ia xs (k+1) t x h;refine⟨by omega,?_⟩;have:t-k=(t-(k+1))+1:=by omega
   rw[this];simpa using G
def Qbl(P:Program)(T:Nat→Option AV)(h:QO):ResultVar→Option AV
|.tmp t=>T t
|.cell t ty=>match Ee P T h ty (.tmp t) with|some u=>some u.1|none=>none
def qy(P:Program)(T:Nat→Option AV)(h:QO):List ResultVar→Option (List AV)
|[]=>some []
|x::xs=>match Qbl P T h x,qy P T h xs with|some v,some G=>some (v::G)|_,_=>none
def TT(P:Program)(fn:Func)(T:Nat→Option AV)(h:QO):Option AV :=
 match qy P T h fn.results.toList with
|some [x]=>some x
|some xs=>some (.tup xs)
|none=>none
theorem Ib{x:Value}(h:(Instr.loadAt ty v).run P w=.ok x w'):(do loadVar ty (←asAddr v):Sem Value).run P w=.ok x w':=by
 cases v with
|pointer q =>
  cases q with
 |none=>simp[Instr.loadAt,Instr.sureAddr,stuck] at h
 |some a=>simpa [Instr.loadAt,Instr.sureAddr,asAddr] using h
|_=>simp[Instr.loadAt,Instr.sureAddr,stuck] at h
def pK(tmps:Array Value):ResultVar→Sem Value
|.tmp t=>pure (tmps.getD t undef)
|.cell t ty=>do loadVar ty (←asAddr (tmps.getD t undef))
theorem Qbm(r:Zo φ M0 N D T h a w){x:ResultVar}{v:AV}(G:Qbl P T h x=some v) :
  ∃y,(pK a.tmps x).run P w=.ok y w∧Qe φ h w (MM φ h M0) v y:=by
 cases x with
|tmp t=>exact⟨_,rfl,(r.tm t v G).2⟩
|cell t ty =>
  simp only[Qbl] at G;split at G
  ·rename_i u hu;simp only[Q0] at G;subst G;obtain⟨_,y,O,J⟩:=Ai (P:=P) r hu;exact⟨y,Ib O,J⟩
  ·cases G
theorem Ic{P:Program}{φ:Nat→Nat}{M0:ZM}{N:Nat}{D:DB}{T:Nat→Option AV}{h:QO}{a:Act}{w:World}(r:Zo φ M0 N D T h a w):∀{l:List ResultVar} {J:List AV},qy P T h l=some J →
  ∃ys,(l.mapM (pK a.tmps)).run P w=.ok ys w∧Qg φ h w (MM φ h M0) J ys
|[],J,G=>by simp only[qy,Q0] at G;subst G;exact⟨[],by simp,by simp[Qg]⟩
|x::l,J,G=>by
  simp only[qy] at G;split at G
  ·rename_i v O W U;simp only[Q0] at G;subst G;obtain⟨y,g1,g2⟩:=Qbm r W;obtain⟨ys,g3,g4⟩:=Ic r U;exact⟨y::ys,by simp[List.mapM_cons,g1,g3],by simp only[Qg];exact⟨y,ys,rfl,g2,g4⟩⟩
  ·cases G
theorem fB(r:Zo φ M0 N D T h a w){x:AV}(J:TT P fn T h=some x) :
  ∃v,(results fn a.tmps).run P w=.ok v w∧Qe φ h w (MM φ h M0) x v:=by
 have G:∀ys:List Value,(fn.results.toList.mapM (pK a.tmps)).run P w=.ok ys w→(results fn a.tmps).run P w=.ok (if hh:ys.toArray.size=1 then ys.toArray[0] else .tuple ys.toArray) w:=by
  intro ys Y;have e1:fn.results.mapM (pK a.tmps)=Functor.map List.toArray (fn.results.toList.mapM (pK a.tmps)):=Array.mapM_eq_mapM_toList ..
  have e2:results fn a.tmps=(do let O ←fn.results.mapM (pK a.tmps);pure (if hh:O.size=1 then O[0] else .tuple O)):=by
   unfold results;congr 1
  rw[e2];simp only[Sem.run_bind,e1,Sem.run_map,Y,Result.andThen_ok,Sem.run_pure]
 unfold TT at J;split at J
 ·rename_i y Y;simp only[Q0] at J;subst J;obtain⟨ys,g1,g2⟩:=Ic r Y;simp only[Qg] at g2;obtain⟨v,O,rfl,U,rfl⟩:=g2;exact⟨v,by rw[G _ g1];simp,U⟩
 ·rename_i xs hne W;simp only[Q0] at J;subst J;obtain⟨ys,g1,g2⟩:=Ic r W;have hl:=ZR g2
  have Z:¬ys.toArray.size=1:=by
   intro U;simp only[List.size_toArray] at U;rw[U] at hl
   match xs,hl with
  |[x],_=>exact hne x rfl
  refine⟨.tuple ys.toArray,by rw[G _ g1,dif_neg Z],?_⟩;simp only[Qe];exact⟨ys,rfl,g2⟩
 ·cases J
def QfB(P:Program)(f:FuncId)(args:List AV)(R:Ku→Prop):Prop:=YV P f args Fz fun r h'=>R r∧h'=Fz
def lZ(P:Program)(fn:Func)(R:Ku→Prop):AX→St→Prop|.ret,s=>∃x y,TT P fn (look s.T) (look s.H)=some x∧le x y∧Yf y=true∧R (.ret y)|.normal,s=>∃x y,TT P fn (look s.T) (look s.H)=some x∧le x y∧Yf y=true∧R (.ret y)|.panic x,s=>Yf x=true∧R (.panic x)|.exit _,_=>False
theorem pM(E:Q8 φ Fz w φ' h w'):Q8 φ Fz w φ' Fz w' :=
 ⟨E.os,E.tape,E.output,E.size,E.same,E.cell,fun _ _ _ x=>absurd x Wu,(fun _ _ _ _ x=>by cases x),(fun _ _ _ _ _ x=>by cases x),(fun _ _ _ _ _ x=>by cases x),(fun _ _ _ _ x=>by cases x)⟩
structure Hm(ms:List Nat)(w w':World):Prop where
 os:w'.os=w.os
 tape:w'.tape=w.tape
 output:w'.output=w.output
 size:w'.heap.size=w.heap.size
 same:∀k,k∉ms→w'.heap[k]?=w.heap[k]?
 turn:∀k,k∈ms→w'.heap[k]?=some (.deferred none)
def J3(P:Program)(fn:Func)(tmps:Array Value)(R:Ending→World→Prop):List Deferred→FrameMode→World→Prop|[],u,w=>Leaves P fn tmps R [] u w|d::ds,u,w=>u≠.run ∧ ((∃r w',d.target=.collected r∧(Instr.takeDeferred r).run P w=.ok [] w'∧J3 P fn tmps R ds u w') ∨ (∃fv cap f args,d.target=.fn fv cap∧(invoke d.target d.args).run P w=.ok (.enter f args) w ∧ CallsD P f args u w fun|.returned _,G,w'=>J3 P fn tmps R ds (settle G) w'|.panicked chain,G,w'=>J3 P fn tmps R ds (raised G chain) w'|.outgrown,_,w'=>R .outgrown w'))
theorem F7{tmps:Array Value}{R:Ending→World→Prop}:∀(ds:List Deferred) (u:FrameMode) (w:World) (fr:Frame)
  (cs:List Frame),fr.mode=u→fr.defers=ds→fr.tmps=tmps→P.funcs[fr.fn]?=some fn→fr.kind=.normal→J3 P fn tmps R ds u w →
  ∃e w' G,R e w'∧Comes P (lone fr cs w) (lone G cs w') e∧G.fn=fr.fn∧G.leaving P w' e:=by
 intro ds
 induction ds with
|nil=>exact fun u w fr cs hu hd ht hf hk h=>leaves_steps [] u w fr cs hu hd ht hf hk h
|cons d ds ih =>
  intro u w fr cs hu hd ht hf hk h;obtain⟨aa,h⟩:=h;rcases h with⟨r,w',Y,ac,ab⟩|⟨fv,cap,f,args,Y,ae,hcall⟩
  ·have h1:=step_collected (cs:=cs) (hu▸aa) hd Y ac;obtain⟨e',w'',G,W,U,O,Z⟩:=ih u w' { fr with defers:=[]++ds } cs hu rfl ht hf hk ab;exact⟨e',w'',G,W,Comes.of_steps (.one h1) U,O,Z⟩
  ·have h1:=step_defer (cs:=cs) (hu▸aa) hd Y ae;obtain⟨e,u',w',ah,hR,J,af,ad⟩:=hcall { fr with defers:=ds } cs hu;cases e with
  |outgrown=>exact⟨.outgrown,w',fr,hR,Outgrown.of_steps (.one h1) J,rfl,trivial⟩
  |returned v =>
    have h2:=step_going_returned (c:={ { fr with defers:=ds } with mode:=u' }) (cs:=cs) af ad;obtain⟨e',w'',G,W,U,O,Z⟩:=ih (settle u') w' { { { fr with defers:=ds } with mode:=u' } with mode:=settle u' } cs rfl rfl ht hf hk hR;exact⟨e',w'',G,W,Comes.of_steps (.head h1 (Steps.trans J (.one h2))) U,O,Z⟩
  |panicked chain =>
    have h2:=step_going_panicked (c:={ { fr with defers:=ds } with mode:=u' }) (cs:=cs) ad;obtain⟨e',w'',G,W,U,O,Z⟩:=ih (raised u' chain) w' { { { fr with defers:=ds } with mode:=u' } with mode:=raised u' chain } cs rfl rfl ht hf hk hR;exact⟨e',w'',G,W,Comes.of_steps (.head h1 (Steps.trans J (.one h2))) U,O,Z⟩
def pO(P:Program)(fn:Func)(R:Ending→World→Prop):Exit→Act→World→Prop|.normal,a,w|.ret,a,w=>J3 P fn a.tmps R a.defers .returning w|.panic chain,a,w=>J3 P fn a.tmps R a.defers (.panicking chain) w|.outgrown,_,w=>R .outgrown w|_,_,_=>False
theorem M4{args:Array Value}{R:Ending→World→Prop}(hf:P.funcs[f]?=some fn)(hb:fn.body=some c)(h:c.wpIn (wd none) 0 P (pO P fn R) { tmps:=args++Array.replicate (fn.ntmps-args.size) undef,defers:=[] } w):Calls P f args w R:=by
 have h:=wpIn_wide.1 h;intro cs
 let b:Frame:={ (default:Frame) with fn:=f,kind:=.normal }
 have W:Frame.enter P f args .normal=b.at { tmps:=args++Array.replicate (fn.ntmps-args.size) undef,defers:=[] } [.code c]:=by
  simp[Frame.enter,Frame.at,hf,hb,b]
 obtain⟨e,Y,w',Z,G⟩:=h b [] cs;rw[←W] at G;cases e with
|normal =>
  obtain⟨e',w'',O,hR,hs,U,hl⟩:=F7 Y.defers .returning w' { b.at Y [] with mode:=.returning } cs rfl rfl rfl hf rfl Z;exact⟨e',w'',O,hR,Comes.of_steps (Steps.trans G (.one step_end)) hs,U,hl⟩
|ret =>
  obtain⟨todo,J⟩:=G;obtain⟨e',w'',O,hR,hs,U,hl⟩:=F7 Y.defers .returning w' { b.at Y todo with mode:=.returning } cs rfl rfl rfl hf rfl Z;exact⟨e',w'',O,hR,Comes.of_steps J hs,U,hl⟩
|panic chain =>
  obtain⟨todo,J⟩:=G;obtain⟨e',w'',O,hR,hs,U,hl⟩:=F7 Y.defers (.panicking chain) w' { b.at Y todo with mode:=.panicking chain } cs rfl rfl rfl hf rfl Z;exact⟨e',w'',O,hR,Comes.of_steps J hs,U,hl⟩
|exit id=>exact Z.elim
|goto l=>exact Z.elim
|outgrown=>exact⟨.outgrown,w',b,Z,G.resolve_left (by simp[b]),rfl,trivial⟩
theorem M5{P:Program}{fn:Func}{tmps:Array Value}{R:Ending→World→Prop}{u:FrameMode}(hu:u≠.run)(ds:List Deferred):∀(O:List Nat) (w:World),O.Nodup→(∀r∈O,w.heap[r]?=some (.deferred (some []))) →
  (∀w',Hm O w w'→J3 P fn tmps R ds u w')→J3 P fn tmps R ((O.map fun r=>({ target:=.collected r,args:=#[] }:Deferred))++ds) u w
|[],w,_,_,h=>h w ⟨rfl,rfl,rfl,rfl,fun _ _=>rfl,fun k G=>by cases G⟩
|r::O,w,Y,hb,h=>by
  have h0:=hb r zq;have hlt:r<w.heap.size:=(FL.1 h0).1
  let U:World:=w.putObj r (.deferred none)
  have J:∀k:Nat,U.heap[k]?=(w.heap.setIfInBounds r (.deferred none))[k]?:=fun k=>rfl
  have W:(Instr.takeDeferred r).run P w=.ok [] U:=run_takeDeferred h0;refine⟨hu,.inl ⟨r,U,rfl,W,M5 hu ds O U (List.nodup_cons.1 Y).2 ?_ ?_⟩⟩
  ·intro k G;have:r≠k:=fun e=>(List.nodup_cons.1 Y).1 (e▸G)
   rw[J,Array.getElem?_setIfInBounds_ne this];exact hb k (by simp[G])
  ·intro w' t;refine h w' ⟨t.os,t.tape,t.output,by rw[t.size];simp[U,World.putObj],fun k G=>?_,fun k G=>?_⟩
   ·simp only[List.mem_cons,not_or] at G;rw[t.same k G.2,J,Array.getElem?_setIfInBounds_ne (Ne.symm G.1)]
   ·rcases List.mem_cons.1 G with e|e
    ·subst e;rw[t.same k (List.nodup_cons.1 Y).1,J];simp[hlt]
    ·exact t.turn k e
theorem Qbn{tmps:Array Value}{R:Ending→World→Prop}{u:FrameMode}(hu:u≠.run)(G:List Nat)(w:World)(J:G.Nodup)(hb:∀r∈G,w.heap[r]?=some (.deferred (some [])))(h:∀w',Hm G w w'→Leaves P fn tmps R [] u w'):J3 P fn tmps R (G.map fun r=>({ target:=.collected r,args:=#[] }:Deferred)) u w:=by
 have:=M5 (P:=P) (fn:=fn) (tmps:=tmps) (R:=R) hu [] G w J hb h;simpa using this
theorem Zo.turned{W:List Nat}(r:Zo φ M0 N D T h a w)(t:Hm W w w')(Y:∀r∈W,w.heap[r]?=some (.deferred (some []))∧∀b,h b≠none→φ b≠r):Zo φ M0 N ⟨[],0⟩ T h { a with defers:=[] } w':=by
 have G:∀b k,h b=some k→w'.heap[φ b]?=w.heap[φ b]?:=fun b k hb=>t.same _ fun J=>(Y _ J).2 b (by rw[hb];simp) rfl
 have X:YZ φ h w φ h w':=⟨fun _ _ _ x=>⟨⟨_,_,x⟩,rfl⟩,fun b ty S n x=>⟨_,x,Kz _,fun _=>Yy (rfl) (by rw[G _ _ x])⟩,
  fun b ty S n x=>⟨_,x,Kz _,fun _=>⟨rfl,fun c hc=>⟨c,by rw[G _ _ x];exact hc,rfl⟩⟩⟩,fun _ _ _ O U=>⟨⟨_,O,U⟩,rfl⟩⟩
 have Z:∀r o v,w.cell? ⟨r,o,none⟩=some v→¬MM φ h M0 r o→w'.cell? ⟨r,o,none⟩=some v∧¬MM φ h M0 r o:=by
  intro x o v O U;refine⟨?_,U⟩
  have:x∉W:=fun J=>by
   have:=(Y x J).1;simp[World.cell?,this] at O
  rw[←O];simp[World.cell?,t.same x this]
 refine⟨⟨Nat.zero_le _,[],rfl,List.nodup_nil,fun r hr=>by cases hr⟩,r.siz,⟨r.hp.inj,fun b k hb=>Z4 Z X (G b k hb) (r.hp.blk b k hb),r.hp.fr,fun x o J=>by rw[t.size];exact r.hp.lt x o J,yY (fun g hg=>t.same g fun J=>QdN r.hp.gm.w g hg _ (Y g J).1) r.hp.gm.w,r.hp.gm.m⟩,
  fun x y J=>⟨(r.tm x y J).1,(QH Z X).1 _ _ (r.tm x y J).2⟩⟩
theorem TU{W:List Nat}(t:Hm W w w')(Y:∀r∈W,w.heap[r]?=some (.deferred (some []))∧∀b,h b≠none→φ b≠r)(x:AV)(v:Value)(Z:Qe φ h w (MM φ h M0) x v):Qe φ h w' (MM φ h M0) x v:=by
 have G:∀b k,h b=some k→w'.heap[φ b]?=w.heap[φ b]?:=fun b k hb=>t.same _ fun U=>(Y _ U).2 b (by rw[hb];simp) rfl
 have X:YZ φ h w φ h w':=⟨fun _ _ _ x=>⟨⟨_,_,x⟩,rfl⟩,fun b ty S n x=>⟨_,x,Kz _,fun _=>Yy (rfl) (by rw[G _ _ x])⟩,
  fun b ty S n x=>⟨_,x,Kz _,fun _=>⟨rfl,fun c hc=>⟨c,by rw[G _ _ x];exact hc,rfl⟩⟩⟩,fun _ _ _ J O=>⟨⟨_,J,O⟩,rfl⟩⟩
 refine(QH (fun r o v J O=>⟨?_,O⟩) X).1 _ _ Z
 have:r∉W:=fun U=>by
  have:=(Y r U).1;simp[World.cell?,this] at J
 rw[←J];simp[World.cell?,t.same r this]
theorem Q8.turned{ms:List Nat}(E:Q8 φ h w φ' h' w')(t:Hm ms w' w'')(Z:∀r∈ms,w.heap.size≤r)(hm:∀r∈ms,w'.heap[r]?=some (.deferred (some []))∧∀b,h' b≠none→φ' b≠r):Q8 φ h w φ' h' w'':=by
 have O:∀r,r<w.heap.size→w''.heap[r]?=w'.heap[r]?:=fun r W=>t.same r fun U=>by have:=Z r U;omega
 have G:∀b k,h' b=some k→w''.heap[φ' b]?=w'.heap[φ' b]?:=fun b k hb=>t.same _ fun U=>(hm _ U).2 b (by rw[hb];simp) rfl
 refine⟨t.os.trans E.os,t.tape.trans E.tape,t.output.trans E.output,by rw[t.size];exact E.size,fun r W aa=>(O r W).trans (E.same r W aa),fun r o W hm=>?_,E.mu,E.kb,?_,?_,E.ko⟩
 ·rw[←E.cell r o W hm];simp[World.cell?,O r W]
 ·intro b ty S n hb U;obtain⟨n',Y,h2,J⟩:=E.kt b ty S n hb U;refine⟨n',Y,h2,fun e=>⟨fun h=>by rw[G b _ Y];exact(J e).1 h,(J e).2.imp (fun h=>h) fun J=>⟨J.1,fun c hc=>?_⟩⟩⟩;obtain⟨c',h4,h5⟩:=J.2 c hc;exact⟨c',by rw[←J.1,G b _ Y,J.1];exact h4,h5⟩
 ·intro b ty S n hb U;obtain⟨n',Y,h2,J⟩:=E.kv b ty S n hb U;refine⟨n',Y,h2,fun e=>⟨(J e).1,fun c hc=>?_⟩⟩;obtain⟨c',h4,h5⟩:=(J e).2 c hc;exact⟨c',by rw[←(J e).1,G b _ Y,(J e).1];exact h4,h5⟩
def Out(R:Ku→QO→Prop)(φ:Nat→Nat)(h:QO)(w:World)(M0:ZM)(e:Ending)(w':World):Prop :=∃φ' r h',R r h'∧ZQ φ' h' w' M0∧Q8 φ h w φ' h' w'∧lS φ' h' w' (MM φ' h' M0) r e
theorem Py{G:List Value}(W:ZQ φ h w M0)(O:Qg φ h w (MM φ h M0) args G)(hl:args.length≤n) :
  Zo φ M0 n ⟨[],w.heap.size⟩ (look (Jc 0 args)) h { tmps:=G.toArray++Array.replicate (n-G.toArray.size) undef,defers:=[] } w:=by
 have U:=ZR O;refine⟨⟨Kz _,[],rfl,List.nodup_nil,fun r hr=>by cases hr⟩,by simp;omega,W,fun t x Y=>?_⟩;obtain⟨_,J⟩:=Ia args 0 t x Y;simp only[Nat.sub_zero] at J;have hlt:t<args.length:=(DC.1 J).1;obtain⟨v,h3,Z⟩:=Ud O J;refine⟨by omega,?_⟩
 have:(G.toArray++Array.replicate (n-G.toArray.size) undef).getD t undef=v:=by
  rw[Array.getD_eq_getD_getElem?,Array.getElem?_append_left (by simp;omega)];simp[h3]
 rw[this];exact Z
theorem Ez{vs:List Value}{h:List (Nat×Blk)}(hf:P.funcs[f]?=some fn)(hb:fn.body=some c)(hl:args.length≤fn.ntmps)(hH:ZQ φ (look h) w M0)(ha:Qg φ (look h) w (MM φ (look h) M0) args vs)(hx:Ex P fn.ntmps none c ⟨Jc 0 args,h⟩ Q)(O:∀x s φ' a w',Q x s→x=.normal∨x=.ret→Zo φ' M0 fn.ntmps ⟨[],0⟩ (look s.T) (look s.H) a w'→Q8 φ (look h) w φ' (look s.H) w'→∃v,(results fn a.tmps).run P w'=.ok v w'∧Out R φ (look h) w M0 (.returned v) w')(aa:∀x s φ' a w' v,Q (.panic x) s→Zo φ' M0 fn.ntmps ⟨[],0⟩ (look s.T) (look s.H) a w'→Q8 φ (look h) w φ' (look s.H) w'→Qe φ' (look s.H) w' (MM φ' (look s.H) M0) x v→Out R φ (look h) w M0 (.panicked [{ v:=v,recovered:=false }]) w')(Y:∀i s,¬Q (.exit i) s):Calls P f vs.toArray w (Out R φ (look h) w M0):=by
 refine M4 hf hb (wpIn_mono (hx φ M0 _ _ w (Py hH ha hl)) ?_);rintro e U w' ⟨φ',k,s',h1,h2,h3,h4⟩;obtain⟨ac,ms,hd,ab,Z⟩:=h2.dfs;have ad:U.defers=ms.map fun r=>({ target:=.collected r,args:=#[] }:Deferred):=by rw[hd];simp
 have W:∀r∈ms,w'.heap[r]?=some (.deferred (some []))∧∀b,look s'.H b≠none→φ' b≠r:=fun r hr=>(Z r hr).2
 have go:∀(u:FrameMode),u≠.run→(∀w'',Hm ms w' w''→Zo φ' M0 fn.ntmps ⟨[],0⟩ (look s'.T) (look s'.H) { U with defers:=[] } w''→Q8 φ (look h) w φ' (look s'.H) w''→Leaves P fn U.tmps (Out R φ (look h) w M0) [] u w'') →
   J3 P fn U.tmps (Out R φ (look h) w M0) U.defers u w':=by
  intro u hu g;rw[ad];exact Qbn hu ms w' ab (fun r hr=>(Z r hr).2.1) (fun w'' t=>g w'' t (h2.turned t W) (h3.turned t (fun r hr=>(Z r hr).1) W))
 cases k with
|normal =>
  simp only[XF] at h4;subst h4;exact go .returning zq fun w'' t G J=>O _ _ _ { U with defers:=[] } _ h1 (.inl rfl) G J
|ret =>
  simp only[XF] at h4;subst h4;exact go .returning zq fun w'' t G J=>O _ _ _ { U with defers:=[] } _ h1 (.inr rfl) G J
|exit i=>exact absurd h1 (Y i s')
|panic x =>
  obtain⟨v,rfl,h5⟩:=h4;refine go (.panicking [{ v:=v,recovered:=false }]) zq fun w'' t G J=>aa _ _ _ _ _ _ h1 G J ?_
  exact TU t W _ _ h5
theorem vV{R:Ku→Prop}(hf:P.funcs[f]?=some fn)(hb:fn.body=some c)(hl:args.length≤fn.ntmps)(h:Ex P fn.ntmps none c ⟨Jc 0 args,[]⟩ (lZ P fn R)):QfB P f args R:=by
 intro φ M0 w vs hH Z;have W:∀{φ':Nat→Nat} {s:St} {w':World},Q8 φ Fz w φ' (look s.H) w'→Q8 φ Fz w φ' Fz w':=fun E=>pM E
 have Y:∀{φ':Nat→Nat} {s:St} {w':World},∀r o v,w'.cell? ⟨r,o,none⟩=some v→¬MM φ' (look s.H) M0 r o→w'.cell? ⟨r,o,none⟩=some v∧¬MM φ' Fz M0 r o:=fun r o v g1 g2=>⟨g1,fun g3=>g3.elim Wu (fun g4=>g2 (.inr g4))⟩
 refine Ez (h:=[]) hf hb hl hH Z h ?_ ?_ ?_
 ·intro x s φ' a w' G hx r E;have U:∃x y,TT P fn (look s.T) (look s.H)=some x∧le x y∧Yf y=true∧R (.ret y):=by rcases hx with rfl|rfl<;>exact G
  obtain⟨x,y,g1,g2,g3,g4⟩:=U;obtain⟨v,g5,g6⟩:=fB r g1;exact⟨v,g5,φ',.ret y,Fz,⟨g4,rfl⟩,UW (fun x o O=>r.hp.lt x o O) r.hp.gm.w (fun g J o h=>r.hp.gm.m g J o (.inr h)),W E,v,rfl,(WQ Y).1 _ _ g3 (JG.1 _ _ _ g2 g6)⟩
 ·intro x s φ' a w' v G r E hv;exact⟨φ',.panic x,Fz,⟨G.2,rfl⟩,UW (fun x o O=>r.hp.lt x o O) r.hp.gm.w (fun g J o h=>r.hp.gm.m g J o (.inr h)),W E,v,rfl,(WQ Y).1 _ _ G.1 hv⟩
 ·intro i s G;exact G
theorem vW{X:Ku}(hf:P.funcs[f]?=some fn)(hb:fn.body=some c)(G:args.length≤fn.ntmps)(h:Ex P fn.ntmps none c ⟨Jc 0 args,[]⟩ (lZ P fn (·=X))):Q9 P f args X:=vV hf hb G h
theorem vX:(∀x:AV,le x x)∧(∀xs:List AV,MW xs xs):=by
 have key:∀n:Nat,(∀(x:AV),SizeOf.sizeOf x≤n→le x x)∧(∀(xs:List AV),SizeOf.sizeOf xs≤n→MW xs xs):=by
  intro n
  induction n with
 |zero =>
   refine⟨fun x G=>?_,fun es G=>?_⟩
   ·cases x<;>simp at G
   ·cases es<;>simp at G
 |succ n O =>
   obtain⟨J,i2⟩:=O;refine⟨fun x G=>?_,fun xs G=>?_⟩
   ·cases x with
   |p x=>cases x<;>simp[le]
   |agg cs=>simp only[le];exact⟨cs,rfl,i2 cs (by simp at G;omega)⟩
   |tup cs=>simp only[le];exact⟨cs,rfl,i2 cs (by simp at G;omega)⟩
   |_=>simp[le]
   ·cases xs with
   |nil=>simp[MW]
   |cons x xs=>simp only[MW];simp at G;exact⟨x,xs,rfl,J x zo,i2 xs zo⟩
 exact⟨fun x=>(key (SizeOf.sizeOf x)).1 x (Kz _),fun xs=>(key (SizeOf.sizeOf xs)).2 xs (Kz _)⟩
theorem le_refl(x:AV):le x x:=vX.1 x
theorem vY(xs:List AV):MW xs xs:=vX.2 xs
mutual
def Kr(h:QO):AV→Bool|.p _=>true|.eptr _=>true|.tsl _ _ t=>(h t).isSome|.ptr b _=>(h b).isSome|.vnil=>true|.vsl _ t _=>(h t).isSome|.vptr t _ _ _=>(h t).isSome|.yv b=>(h b).isSome|.mv b=>(h b).isSome|.bsl b _=>(h b).isSome|.sfp b=>(h b).isSome|.iv b=>(h b).isSome|.agg cs=>KF h cs|.tup cs=>KF h cs|.fn _ a b=>KF h a&&KF h b|.ifc _ x=>Kr h x
def KF(h:QO):List AV→Bool|[]=>true|x::xs=>Kr h x&&KF h xs
end
theorem M6(h:QO):∀l:List PV,KF h (l.map .p)=true
|[]=>by simp[KF]
|x::l=>by simp[KF,Kr,M6 h l]
def leB:Blk→Blk→Prop|.box ty cs,k=>∃cs',k=.box ty cs'∧MW cs cs'|.arr ty S n,k=>k=.arr ty S n|.vec ty S es,k=>k=.vec ty S es|.lp T nf st pd,k=>k=.lp T nf st pd|.mp es,k=>k=.mp es|.mf es,k=>k=.mf es|.mg en G es,k=>k=.mg en G es|.it m G sn,k=>k=.it m G sn
theorem XJ{k k':Blk}{x:OB}(h:leB k k')(G:k.ob=some x):k'.ob=some x:=by
 cases k with
|box ty cs=>cases G
|arr ty S n=>cases G
|vec ty S es=>cases G
|lp T nf st pd=>simp only[leB] at h;subst h;exact G
|mp es=>simp only[leB] at h;subst h;exact G
|mf es=>simp only[leB] at h;subst h;exact G
|mg en J es=>simp only[leB] at h;subst h;exact G
|it m J sn=>simp only[leB] at h;subst h;exact G
theorem M7(hM:∀r o,M' r o→M r o)(hh:∀b k',h' b=some k'→∃k,h b=some k∧leB k k') :
  (∀(x:AV) (v:Value),Kr h' x=true→Qe φ h w M x v→Qe φ h' w M' x v)∧(∀(xs:List AV) (l:List Value),KF h' xs=true→Qg φ h w M xs l→Qg φ h' w M' xs l):=by
 obtain⟨kp,ke,kc⟩:=Z0 (w:=w) (w':=w) (M:=M) (M':=M') (fun r o v U O=>⟨U,fun h3=>O (hM r o h3)⟩)
 have key:∀n:Nat,(∀(x:AV),SizeOf.sizeOf x≤n→∀v,Kr h' x=true→Qe φ h w M x v→Qe φ h' w M' x v)∧(∀(xs:List AV),SizeOf.sizeOf xs≤n→∀l,KF h' xs=true→Qg φ h w M xs l→Qg φ h' w M' xs l):=by
  intro n
  induction n with
 |zero =>
   refine⟨fun x hx=>?_,fun es hx=>?_⟩
   ·cases x<;>simp at hx
   ·cases es<;>simp at hx
 |succ n ih =>
   obtain⟨i1,i2⟩:=ih;refine⟨fun x hx v W J=>?_,fun xs hx l W J=>?_⟩
   ·cases x with
   |p x=>simp only[Qe] at J ⊢;exact kp x v J
   |tsl S es t =>
     simp only[Kr] at W;obtain⟨k',G⟩:=Rb.1 W;simp only[Qe] at J ⊢;obtain⟨U,ty,m,O,h3⟩:=J;obtain⟨k,Y,Z⟩:=hh t k' G;rw[O] at Y;cases Y;simp only[leB] at Z;exact⟨kp _ _ U,ty,m,by rw[G,Z],h3⟩
   |ptr b off =>
     simp only[Kr] at W;obtain⟨k',G⟩:=Rb.1 W;simp only[Qe] at J ⊢;obtain⟨U,ty,cs,O⟩:=J;obtain⟨k,Y,Z⟩:=hh b k' G;rw[O] at Y;cases Y;simp only[leB] at Z;obtain⟨cs',e3,_⟩:=Z;exact⟨U,ty,cs',by rw[G,e3]⟩
   |bsl b n =>
     simp only[Kr] at W;obtain⟨k',G⟩:=Rb.1 W;simp only[Qe] at J ⊢;obtain⟨U,ty,cs,O⟩:=J;obtain⟨k,Y,Z⟩:=hh b k' G;rw[O] at Y;cases Y;simp only[leB] at Z;obtain⟨cs',e3,_⟩:=Z;exact⟨U,ty,cs',by rw[G,e3]⟩
   |sfp b =>
     simp only[Kr] at W;obtain⟨k',G⟩:=Rb.1 W;simp only[Qe] at J ⊢;obtain⟨U,ty,cs,O⟩:=J;obtain⟨k,Y,Z⟩:=hh b k' G;rw[O] at Y;cases Y;simp only[leB] at Z;obtain⟨cs',e3,_⟩:=Z;exact⟨U,ty,cs',by rw[G,e3]⟩
   |vnil=>simp only[Qe] at J ⊢;exact J
   |vsl S t n =>
     simp only[Kr] at W;obtain⟨k',G⟩:=Rb.1 W;simp only[Qe] at J ⊢;obtain⟨U,ty,m,O,h3⟩:=J;obtain⟨k,Y,Z⟩:=hh t k' G;rw[O] at Y;cases Y;simp only[leB] at Z;exact⟨U,ty,m,by rw[G,Z],h3⟩
   |vptr t n k f =>
     simp only[Kr] at W;obtain⟨k',G⟩:=Rb.1 W;simp only[Qe] at J ⊢;obtain⟨U,ty,S,m,O,h3⟩:=J;obtain⟨k,Y,Z⟩:=hh t k' G;rw[O] at Y;cases Y;simp only[leB] at Z;exact⟨U,ty,S,m,by rw[G,Z],h3⟩
   |yv b =>
     simp only[Kr] at W;obtain⟨k',G⟩:=Rb.1 W;simp only[Qe] at J ⊢;obtain⟨U,k,T,nf,O,h3⟩:=J;obtain⟨k2,Y,Z⟩:=hh b k' G;rw[O] at Y;cases Y;exact⟨U,k',T,nf,G,XJ Z h3⟩
   |mv b =>
     simp only[Kr] at W;obtain⟨k',G⟩:=Rb.1 W;simp only[Qe] at J ⊢;obtain⟨U,k,O,h3⟩:=J;obtain⟨k2,Y,Z⟩:=hh b k' G;rw[O] at Y;cases Y;exact⟨U,k',G,XJ Z h3⟩
   |iv b =>
     simp only[Kr] at W;obtain⟨k',G⟩:=Rb.1 W;simp only[Qe] at J ⊢;obtain⟨U,k,O,h3⟩:=J;obtain⟨k2,Y,Z⟩:=hh b k' G;rw[O] at Y;cases Y;exact⟨U,k',G,XJ Z h3⟩
   |eptr cs =>
     simp only[Qe] at J ⊢;obtain⟨r,o,U,O⟩:=J;exact⟨r,o,U,kc cs r o O⟩
   |agg cs =>
     simp only[Qe,Kr] at J W ⊢;obtain⟨l,U,O⟩:=J;exact⟨l,U,i2 cs (by simp at hx;omega) l W O⟩
   |tup cs =>
     simp only[Qe,Kr] at J W ⊢;obtain⟨l,U,O⟩:=J;exact⟨l,U,i2 cs (by simp at hx;omega) l W O⟩
   |fn f a b =>
     simp only[Qe,Kr,Z8] at J W ⊢;obtain⟨l,m,U,O,h3⟩:=J;simp at hx;exact⟨l,m,U,i2 a zo l W.1 O,i2 b zo m W.2 h3⟩
   |ifc t x =>
     simp only[Qe,Kr] at J W ⊢;obtain⟨y,U,O⟩:=J;exact⟨y,U,i1 x (by simp at hx;omega) y W O⟩
   ·cases xs with
   |nil=>simpa [Qg] using J
   |cons x xs =>
     simp only[Qg,KF,Z8] at J W ⊢;simp at hx;obtain⟨y,ys,U,O,h3⟩:=J;exact⟨y,ys,U,i1 x zo y W.1 O,i2 xs zo ys W.2 h3⟩
 exact⟨fun x v=>(key (SizeOf.sizeOf x)).1 x (Kz _) v,fun xs l=>(key (SizeOf.sizeOf xs)).2 xs (Kz _) l⟩
def leO:Option AV→AV→Prop|some y,x=>le y x|none,_=>False
def QdV:Option Blk→Blk→Prop|some k,k'=>leB k k'|none,_=>False
def Ie(T:Nat→Option AV)(h':QO):List (Nat×AV)→Prop|[]=>True|(t,x)::l=>leO (T t) x∧Kr h' x=true∧Ie T h' l
def okRefB(h:QO):Blk→Bool|.box _ cs=>KF h cs|.arr _ _ _=>true|.vec _ _ _=>true|.lp T _ _ _=>KF h (T.map (·.2))|.mp es=>true|.mf es=>KF h (es.map (·.2.2))|.mg _ _ es=>KF h (es.map (·.2.2))|.it m _ _=>(h m).isSome
def Cf(h h':QO):List (Nat×Blk)→Prop|[]=>True|(b,k)::l=>QdV (h b) k∧okRefB h' k=true∧Cf h h' l
def Yh(h':QO):List (Nat×Blk)→Bool|[]=>true|(b,_)::l=>(decide (b<1000)||(h' b).isSome)&&Yh h' l
theorem DX{T:Nat→Option AV}{h':QO}:∀{l:List (Nat×AV)},Ie T h' l→∀t x,look l t=some x→∃y,T t=some y∧le y x∧Kr h' x=true
|[],_,t,x,G=>by simp[look] at G
|(t0,J)::l,hs,t,x,G=>by
  simp only[Ie] at hs;simp only[look] at G;by_cases e:t0=t
  ·simp only[e,if_true,Q0] at G;subst G e;cases hq:T t0 with
  |none=>rw[hq] at hs;exact hs.1.elim
  |some y=>rw[hq] at hs;exact⟨y,rfl,hs.1,hs.2.1⟩
  ·simp only[e,if_false] at G;exact DX hs.2.2 t x G
theorem Jt{h h':QO}:∀{l:List (Nat×Blk)},Cf h h' l→∀b k',look l b=some k'→(∃k,h b=some k∧leB k k')∧okRefB h' k'=true
|[],_,t,x,G=>by simp[look] at G
|(t0,J)::l,hs,t,x,G=>by
  simp only[Cf] at hs;simp only[look] at G;by_cases e:t0=t
  ·simp only[e,if_true,Q0] at G;subst G e;cases hq:h t0 with
  |none=>rw[hq] at hs;exact hs.1.elim
  |some y=>rw[hq] at hs;exact⟨⟨y,rfl,hs.1⟩,hs.2.1⟩
  ·simp only[e,if_false] at G;exact Jt hs.2.2 t x G
theorem K3{h':QO}:∀{l:List (Nat×Blk)},Yh h' l=true→∀b k,1000≤b→look l b=some k→∃k',h' b=some k'
|[],_,b,k,_,G=>by simp[look] at G
|(O,k0)::l,hs,b,k,hb,G=>by
  simp only[Yh,Z8,Bool.or_eq_true,Bg] at hs;simp only[look] at G;by_cases e:O=b
  ·subst e;rcases hs.1 with J|J
   ·omega
   ·exact Rb.1 J
  ·simp only[e,if_false] at G;exact K3 hs.2 b k hb G
theorem LG(h:QO):∀(es:List (Value×PV)),KF h (es.map fun p=>.p p.2)=true
|[]=>rfl
|x::es=>by simp only[WV,KF,Kr,Bool.true_and];exact LG h es
theorem WR{h:QO}:∀{es:List (Bool×List UInt8×AV)},KF h (es.map (·.2.2))=true→KF h ((Lu es).map (·.2.2))=true
|[],_=>rfl
|(f,k,x)::es,G=>by
  simp only[WV,KF,Z8] at G;cases f with
 |false=>exact WR (es:=es) G.2
 |true=>simp only[Lu,List.filter_cons_of_pos,WV,KF,Z8];exact⟨G.1,WR (es:=es) G.2⟩
theorem UY{h:QO}:∀{T:List (Nat×AV)} {t:Nat} {x:AV},KF h (T.map (·.2))=true→look T t=some x→Kr h x=true
|[],t,x,_,G=>by simp[look] at G
|(k,y)::T,t,x,J,G=>by
  simp only[WV,KF,Z8] at J;simp only[look] at G;by_cases e:k=t
  ·simp only[e,if_true,Q0] at G;subst G;exact J.1
  ·simp only[e,if_false] at G;exact UY J.2 G
theorem vZ(hT:Ie (look s.T) (look s'.H) s'.T)(hH:Cf (look s.H) (look s'.H) s'.H)(hK:Yh (look s'.H) s.H=true)(r:Zo φ M0 N D (look s.T) (look s.H) a w):Zo φ M0 N D (look s'.T) (look s'.H) a w∧Q8 φ (look s.H) w φ (look s'.H) w:=by
 have hh:∀b k',look s'.H b=some k'→∃k,look s.H b=some k∧leB k k':=fun b k' hb=>(Jt hH b k' hb).1
 have aa:∀r o,R4 φ (look s'.H) r o→R4 φ (look s.H) r o:=by
  rintro x o ⟨b,k',O,G,J⟩;obtain⟨k,W,h5⟩:=hh b k' O;refine⟨b,k,W,G,?_⟩;cases k with
 |box ty cs=>trivial
 |arr ty S n=>simp only[leB] at h5;subst h5;exact J
 |vec ty S es=>trivial
 |lp T nf st pd=>trivial
 |mp es=>trivial
 |mf es=>trivial
 |mg en cl es=>trivial
 |it m cl sn=>trivial
 have hM:∀r o,MM φ (look s'.H) M0 r o→MM φ (look s.H) M0 r o:=fun x o hx=>hx.elim (fun h=>.inl (aa x o h)) .inr
 have U:∀b,look s'.H b≠none→look s.H b≠none:=fun b hb=>by
  cases hq:look s'.H b with
 |none=>exact absurd hq hb
 |some k'=>obtain⟨k,O,_⟩:=hh b k' hq;rw[O];simp
 obtain⟨c1,c2⟩:=M7 (φ:=φ) (w:=w) hM hh
 have ad:ZQ φ (look s'.H) w M0:=by
  refine⟨fun b c hb hc=>r.hp.inj b c (U b hb) (U c hc),fun b k' hb=>?_,fun b hb=>r.hp.fr b (U b hb),r.hp.lt,r.hp.gm.sub hM⟩;obtain⟨⟨k,O,G⟩,J⟩:=Jt hH b k' hb;have W:=r.hp.blk b k O;cases k with
 |box ty cs =>
   simp only[leB] at G;obtain⟨cs',rfl,h5⟩:=G;obtain⟨c,h6,h7⟩:=W;exact⟨c,h6,c2 _ _ J (JG.2 _ _ _ h5 h7)⟩
 |arr ty S n=>simp only[leB] at G;subst G;exact W
 |vec ty S es =>
   simp only[leB] at G;subst G;obtain⟨c,cap,g1,g2,g3,g4,g5,g6,g7⟩:=W;exact⟨c,cap,g1,g2,g3,g4,g5,g6,c2 _ _ (M6 _ _) g7⟩
 |lp T nf st pd =>
   simp only[leB] at G;subst G;obtain⟨tmps,d,g1,g2,g3⟩:=W;exact⟨tmps,d,g1,g2,fun t x ht=>⟨(g3 t x ht).1,c1 _ _ (UY J ht) (g3 t x ht).2⟩⟩
 |mp es =>
   simp only[leB] at G;subst G;obtain⟨en,cl,g1,g2,g3⟩:=W;exact⟨en,cl,g1,g2,c2 _ _ (LG _ _) g3⟩
 |mf es =>
   simp only[leB] at G;subst G;obtain⟨en,cl,g1,g2,g3,g5⟩:=W;exact⟨en,cl,g1,g2,c2 _ _ (WR J) g3,g5⟩
 |mg en cl es =>
   simp only[leB] at G;subst G;obtain⟨g1,g2,g3,g5⟩:=W;exact⟨g1,g2,c2 _ _ (WR J) g3,g5⟩
 |it m cl sn =>
   simp only[leB] at G;subst G;obtain⟨g1,k0,g2,g3⟩:=W;obtain⟨km,ab⟩:=Rb.1 J;obtain⟨k1,g5,g6⟩:=hh m km ab;rw[g2] at g5;cases g5;exact⟨g1,km,ab,XJ g6 g3⟩
 have ac:Marks φ D (look s'.H) a w:=by
  obtain⟨h0,ms,O,G,J⟩:=r.dfs;exact⟨h0,ms,O,G,fun x hx=>⟨(J x hx).1,(J x hx).2.1,fun b hb=>(J x hx).2.2 b (U b hb)⟩⟩
 refine⟨⟨ac,r.siz,ad,fun t x ht=>?_⟩,⟨rfl,rfl,rfl,Kz _,fun _ _ _=>rfl,fun _ _ _ _=>rfl,fun x o _ hx=>aa x o hx,?_,?_,?_,?_⟩⟩
 ·obtain⟨y,O,G,J⟩:=DX hT t x ht;exact⟨(r.tm t y O).1,c1 _ _ J (JG.1 _ _ _ G (r.tm t y O).2)⟩
 ·intro b ty cs hb Z;obtain⟨k',O⟩:=K3 hK b _ hb Z;obtain⟨k,G,J⟩:=hh b k' O;rw[Z] at G;cases G;simp only[leB] at J;obtain⟨cs',W,_⟩:=J;exact⟨⟨cs',by rw[O,W]⟩,rfl⟩
 ·intro t ty S n ht Y;obtain⟨k',O⟩:=K3 hK t _ ht Y;obtain⟨k,G,J⟩:=hh t k' O;rw[Y] at G;cases G;simp only[leB] at J;exact⟨n,by rw[O,J],Kz _,fun _=>Yy (rfl) rfl⟩
 ·intro t ty S n ht Y;obtain⟨k',O⟩:=K3 hK t _ ht Y;obtain⟨k,G,J⟩:=hh t k' O;rw[Y] at G;cases G;simp only[leB] at J;exact⟨n,by rw[O,J],Kz _,fun _=>⟨rfl,fun c hc=>⟨c,hc,rfl⟩⟩⟩
 ·intro b k x hb Z ho;obtain⟨k',O⟩:=K3 hK b _ hb Z;obtain⟨k2,G,J⟩:=hh b k' O;rw[Z] at G;cases G;exact⟨⟨k',O,XJ J ho⟩,rfl⟩
theorem l5(G:Ie (look s.T) (look s'.H) s'.T)(J:Cf (look s.H) (look s'.H) s'.H)(O:Yh (look s'.H) s.H=true):Weak N s s' :=
 fun φ _ _ _ _ r=>⟨φ,vZ G J O r⟩
attribute [go_sem] Rt MK Ef lF
attribute [go_sem ↓] Yg XG KT ZX HV
attribute [go_sem] yieldOf ZH Zm Jb V4 Zp Pj Al look Jc JH St.put Ag KA R5 Ap aUn vw Ao Ru ML zy Ee Aj Ou cellsOf Ug AV.one GI Xd Ui GV lN UV isB elems y9 Ak Pi GJ LB WZ UT Uj lC vD DN aEq xP eqV eqV.eqFs TI isConst Ph Bi Am MF zt UU GQ Xr FO Bl isNil Kg gX Aw TG Xf W9 xH RA Ej xJ Rx Value.oneCell' TT qy Qbl ZX HV nV FP TE lG CL
mutual
def WW(ρ:Nat→Nat):AV→AV|.p x=>.p x|.eptr cs=>.eptr cs|.tsl S es t=>.tsl S es (ρ t)|.ptr b off=>.ptr (ρ b) off|.vnil=>.vnil|.vsl S t n=>.vsl S (ρ t) n|.vptr t n k f=>.vptr (ρ t) n k f|.yv b=>.yv (ρ b)|.mv b=>.mv (ρ b)|.bsl b n=>.bsl (ρ b) n|.sfp b=>.sfp (ρ b)|.iv b=>.iv (ρ b)|.agg cs=>.agg (VW ρ cs)|.tup cs=>.tup (VW ρ cs)|.fn f a b=>.fn f (VW ρ a) (VW ρ b)|.ifc t x=>.ifc t (WW ρ x)
def VW(ρ:Nat→Nat):List AV→List AV|[]=>[]|x::xs=>WW ρ x::VW ρ xs
end
def Kq(ρ:Nat→Nat):Blk→Blk|.box ty cs=>.box ty (VW ρ cs)|.arr ty S n=>.arr ty S n|.vec ty S es=>.vec ty S es|.lp T nf st pd=>.lp (T.map fun p=>(p.1,WW ρ p.2)) nf st pd|.mp es=>.mp es|.mf es=>.mf (es.map fun e=>(e.1,e.2.1,WW ρ e.2.2))|.mg en G es=>.mg en G (es.map fun e=>(e.1,e.2.1,WW ρ e.2.2))|.it m G sn=>.it (ρ m) G sn
def xY(ρ:Nat→Nat):OB→OB|.lp T nf=>.lp (T.map fun p=>(p.1,WW ρ p.2)) nf|.mp=>.mp
theorem J4(ρ:Nat→Nat)(k:Blk):(Kq ρ k).ob=k.ob.map (xY ρ):=by cases k<;>rfl
theorem QdW{k:Blk}(h:(Kq ρ k).ob=some .mp):k.ob=some .mp:=by
 rw[J4] at h;cases hk:k.ob with
|none=>rw[hk] at h;cases h
|some x =>
  rw[hk] at h;cases x with
 |mp=>rfl
 |lp T nf=>simp[xY] at h
theorem DY(ρ:Nat→Nat):∀(T:List (Nat×AV)) (t:Nat),look (T.map fun p=>(p.1,WW ρ p.2)) t=(look T t).map (WW ρ)
|[],t=>rfl
|(k,v)::T,t=>by
  simp only[WV,look];by_cases e:k=t
  ·simp[e]
  ·simp only[e,if_false];exact DY ρ T t
theorem zK(ρ:Nat→Nat):∀(es:List (Value×PV)),VW ρ (es.map fun p=>.p p.2)=es.map fun p=>.p p.2
|[]=>rfl
|x::es=>by simp only[WV,VW,WW];rw[zK ρ es]
theorem FU(ρ:Nat→Nat):∀(es:List (Bool×List UInt8×AV)),(Lu (es.map fun e=>(e.1,e.2.1,WW ρ e.2.2))).map (·.2.2)=VW ρ ((Lu es).map (·.2.2))
|[]=>rfl
|(f,k,x)::es=>by
  cases f with
 |false=>exact FU ρ es
 |true =>
   have:=FU ρ es;simp only[Lu] at this ⊢;simp only[WV,List.filter_cons_of_pos,VW,this]
theorem FW(ρ:Nat→Nat):∀(es:List (Bool×List UInt8×AV)),(Lu (es.map fun e=>(e.1,e.2.1,WW ρ e.2.2))).map (fun e=>Tc e.2.1)=(Lu es).map (fun e=>Tc e.2.1)
|[]=>rfl
|(f,k,x)::es=>by
  cases f with
 |false=>exact FW ρ es
 |true =>
   have:=FW ρ es;simp only[Lu] at this ⊢;simp only[WV,List.filter_cons_of_pos,this]
section
variable {ρ φ φc:Nat→Nat}{h hc:QO}{w:World}{M Mc:ZM}
theorem QdX(aa:∀c,hc c≠none→φc c=φ (ρ c))(hM:∀r o,Mc r o→M r o)(hh:∀c k,hc c=some k→∃k0,h (ρ c)=some k0∧leB k0 (Kq ρ k)) :
  (∀(x:AV) (v:Value),Kr hc x=true→Qe φ h w M (WW ρ x) v→Qe φc hc w Mc x v)∧(∀(xs:List AV) (l:List Value),KF hc xs=true→Qg φ h w M (VW ρ xs) l→Qg φc hc w Mc xs l):=by
 obtain⟨kp,ke,kc⟩:=Z0 (w:=w) (w':=w) (M:=M) (M':=Mc) (fun r o v U O=>⟨U,fun h3=>O (hM r o h3)⟩)
 have key:∀n:Nat,(∀(x:AV),SizeOf.sizeOf x≤n→∀v,Kr hc x=true→Qe φ h w M (WW ρ x) v→Qe φc hc w Mc x v)∧(∀(xs:List AV),SizeOf.sizeOf xs≤n→∀l,KF hc xs=true→Qg φ h w M (VW ρ xs) l→Qg φc hc w Mc xs l):=by
  intro n
  induction n with
 |zero =>
   refine⟨fun x hx=>?_,fun es hx=>?_⟩
   ·cases x<;>simp at hx
   ·cases es<;>simp at hx
 |succ n ih =>
   obtain⟨i1,i2⟩:=ih;refine⟨fun x hx v W J=>?_,fun xs hx l W J=>?_⟩
   ·cases x with
   |p x=>simp only[WW,Qe] at J ⊢;exact kp x v J
   |tsl S es t =>
     simp only[Kr] at W;obtain⟨k,G⟩:=Rb.1 W;simp only[WW,Qe] at J ⊢;obtain⟨U,ty,m,O,h3⟩:=J;obtain⟨k0,Y,Z⟩:=hh t k G;rw[O] at Y;cases Y
     have ab:k=.arr ty S m:=by
      cases k with
     |arr _ _ _=>simpa [leB,Kq] using Z
     |_=>simp[leB,Kq] at Z
     refine⟨kp _ _ U,ty,m,by rw[G,ab],?_⟩;rw[aa t (by rw[G];simp)];exact h3
   |ptr b off =>
     simp only[Kr] at W;obtain⟨k,G⟩:=Rb.1 W;simp only[WW,Qe] at J ⊢;obtain⟨U,ty,cs,O⟩:=J;obtain⟨k0,Y,Z⟩:=hh b k G;rw[O] at Y;cases Y;cases k with
    |box ac cs'=>exact⟨by rw[aa b (by rw[G];simp)];exact U,ac,cs',G⟩
    |_=>simp[leB,Kq] at Z
   |bsl b n =>
     simp only[Kr] at W;obtain⟨k,G⟩:=Rb.1 W;simp only[WW,Qe] at J ⊢;obtain⟨U,ty,cs,O⟩:=J;obtain⟨k0,Y,Z⟩:=hh b k G;rw[O] at Y;cases Y;cases k with
    |box ac cs'=>exact⟨by rw[aa b (by rw[G];simp)];exact U,ac,cs',G⟩
    |_=>simp[leB,Kq] at Z
   |sfp b =>
     simp only[Kr] at W;obtain⟨k,G⟩:=Rb.1 W;simp only[WW,Qe] at J ⊢;obtain⟨U,ty,cs,O⟩:=J;obtain⟨k0,Y,Z⟩:=hh b k G;rw[O] at Y;cases Y;cases k with
    |box ac cs'=>exact⟨by rw[aa b (by rw[G];simp)];exact U,ac,cs',G⟩
    |_=>simp[leB,Kq] at Z
   |vnil=>simp only[WW,Qe] at J ⊢;exact J
   |vsl S t n =>
     simp only[Kr] at W;obtain⟨k,G⟩:=Rb.1 W;simp only[WW,Qe] at J ⊢;obtain⟨U,ty,m,O,h3⟩:=J;obtain⟨k0,Y,Z⟩:=hh t k G;rw[O] at Y;cases Y
     have ab:k=.vec ty S m:=by
      cases k with
     |vec _ _ _=>simpa [leB,Kq] using Z
     |_=>simp[leB,Kq] at Z
     refine⟨U,ty,m,by rw[G,ab],?_⟩;rw[aa t (by rw[G];simp)];exact h3
   |vptr t n k f =>
     simp only[Kr] at W;obtain⟨k,G⟩:=Rb.1 W;simp only[WW,Qe] at J ⊢;obtain⟨U,ty,S,m,O,h3⟩:=J;obtain⟨k0,Y,Z⟩:=hh t k G;rw[O] at Y;cases Y
     have ab:k=.vec ty S m:=by
      cases k with
     |vec _ _ _=>simpa [leB,Kq] using Z
     |_=>simp[leB,Kq] at Z
     refine⟨U,ty,S,m,by rw[G,ab],?_⟩;rw[aa t (by rw[G];simp)];exact h3
   |yv b =>
     simp only[Kr] at W;obtain⟨k,G⟩:=Rb.1 W;simp only[WW,Qe] at J ⊢;obtain⟨U,k1,T,nf,O,h3⟩:=J;obtain⟨k0,Y,Z⟩:=hh b k G;rw[O] at Y;cases Y;have e3:=XJ Z h3;rw[J4] at e3;refine⟨by rw[aa b (by rw[G];simp)];exact U,k,?_⟩;cases k with
    |lp T' ad st pd=>exact⟨T',ad,G,rfl⟩
    |_=>simp[Blk.ob,xY] at e3
   |mv b =>
     simp only[Kr] at W;obtain⟨k,G⟩:=Rb.1 W;simp only[WW,Qe] at J ⊢;obtain⟨U,k1,O,h3⟩:=J;obtain⟨k0,Y,Z⟩:=hh b k G;rw[O] at Y;cases Y;have e3:=XJ Z h3;rw[J4] at e3;refine⟨by rw[aa b (by rw[G];simp)];exact U,k,?_⟩;cases k with
    |mp es=>exact⟨G,rfl⟩
    |mf es=>exact⟨G,rfl⟩
    |mg en cl es=>exact⟨G,rfl⟩
    |it m cl sn=>exact⟨G,rfl⟩
    |_=>simp[Blk.ob,xY] at e3
   |iv b =>
     simp only[Kr] at W;obtain⟨k,G⟩:=Rb.1 W;simp only[WW,Qe] at J ⊢;obtain⟨U,k1,O,h3⟩:=J;obtain⟨k0,Y,Z⟩:=hh b k G;rw[O] at Y;cases Y;have e3:=XJ Z h3;rw[J4] at e3;refine⟨by rw[aa b (by rw[G];simp)];exact U,k,?_⟩;cases k with
    |mp es=>exact⟨G,rfl⟩
    |mf es=>exact⟨G,rfl⟩
    |mg en cl es=>exact⟨G,rfl⟩
    |it m cl sn=>exact⟨G,rfl⟩
    |_=>simp[Blk.ob,xY] at e3
   |eptr cs =>
     simp only[WW,Qe] at J ⊢;obtain⟨r,o,U,O⟩:=J;exact⟨r,o,U,kc cs r o O⟩
   |agg cs =>
     simp only[WW,Qe,Kr] at J W ⊢;obtain⟨l,U,O⟩:=J;exact⟨l,U,i2 cs (by simp at hx;omega) l W O⟩
   |tup cs =>
     simp only[WW,Qe,Kr] at J W ⊢;obtain⟨l,U,O⟩:=J;exact⟨l,U,i2 cs (by simp at hx;omega) l W O⟩
   |fn f a b =>
     simp only[WW,Qe,Kr,Z8] at J W ⊢;obtain⟨l,m,U,O,h3⟩:=J;simp at hx;exact⟨l,m,U,i2 a zo l W.1 O,i2 b zo m W.2 h3⟩
   |ifc t x =>
     simp only[WW,Qe,Kr] at J W ⊢;obtain⟨y,U,O⟩:=J;exact⟨y,U,i1 x (by simp at hx;omega) y W O⟩
   ·cases xs with
   |nil=>simpa [VW,Qg] using J
   |cons x xs =>
     simp only[VW,Qg,KF,Z8] at J W ⊢;simp at hx;obtain⟨y,ys,U,O,h3⟩:=J;exact⟨y,ys,U,i1 x zo y W.1 O,i2 xs zo ys W.2 h3⟩
 exact⟨fun x v=>(key (SizeOf.sizeOf x)).1 x (Kz _) v,fun xs l=>(key (SizeOf.sizeOf xs)).2 xs (Kz _) l⟩
theorem wh(U:∀c,hc c≠none→φ (ρ c)=φc c)(hM:∀r o v,w.cell? ⟨r,o,none⟩=some v→M r o→Mc r o)(Z:∀c k,hc c=some k→h (ρ c)=some (Kq ρ k)) :
  (∀(x:AV) (v:Value),Qe φc hc w Mc x v→Qe φ h w M (WW ρ x) v)∧(∀(xs:List AV) (l:List Value),Qg φc hc w Mc xs l→Qg φ h w M (VW ρ xs) l):=by
 obtain⟨kp,ke,kc⟩:=Z0 (w:=w) (w':=w) (M:=Mc) (M':=M) (fun r o v O G=>⟨O,fun W=>G (hM r o v O W)⟩)
 have key:∀n:Nat,(∀(x:AV),SizeOf.sizeOf x≤n→∀v,Qe φc hc w Mc x v→Qe φ h w M (WW ρ x) v)∧(∀(xs:List AV),SizeOf.sizeOf xs≤n→∀l,Qg φc hc w Mc xs l→Qg φ h w M (VW ρ xs) l):=by
  intro n
  induction n with
 |zero =>
   refine⟨fun x Y=>?_,fun es Y=>?_⟩
   ·cases x<;>simp at Y
   ·cases es<;>simp at Y
 |succ n ih =>
   obtain⟨i1,i2⟩:=ih;refine⟨fun x Y v J=>?_,fun xs Y l J=>?_⟩
   ·cases x with
   |p x=>simp only[WW,Qe] at J ⊢;exact kp x v J
   |tsl S es t =>
     simp only[WW,Qe] at J ⊢;obtain⟨O,ty,m,G,W⟩:=J;refine⟨kp _ _ O,ty,m,by rw[Z t _ G];rfl,?_⟩;rw[U t (by rw[G];simp)];exact W
   |ptr b off =>
     simp only[WW,Qe] at J ⊢;obtain⟨O,ty,cs,G⟩:=J;exact⟨by rw[U b (by rw[G];simp)];exact O,ty,VW ρ cs,by rw[Z b _ G];rfl⟩
   |bsl b n =>
     simp only[WW,Qe] at J ⊢;obtain⟨O,ty,cs,G⟩:=J;exact⟨by rw[U b (by rw[G];simp)];exact O,ty,VW ρ cs,by rw[Z b _ G];rfl⟩
   |sfp b =>
     simp only[WW,Qe] at J ⊢;obtain⟨O,ty,cs,G⟩:=J;exact⟨by rw[U b (by rw[G];simp)];exact O,ty,VW ρ cs,by rw[Z b _ G];rfl⟩
   |vnil=>simp only[WW,Qe] at J ⊢;exact J
   |vsl S t n =>
     simp only[WW,Qe] at J ⊢;obtain⟨O,ty,m,G,W⟩:=J;refine⟨O,ty,m,by rw[Z t _ G];rfl,?_⟩;rw[U t (by rw[G];simp)];exact W
   |vptr t n k f =>
     simp only[WW,Qe] at J ⊢;obtain⟨O,ty,S,m,G,W⟩:=J;refine⟨O,ty,S,m,by rw[Z t _ G];rfl,?_⟩;rw[U t (by rw[G];simp)];exact W
   |yv b =>
     simp only[WW,Qe] at J ⊢;obtain⟨O,k,T,nf,G,W⟩:=J;exact⟨by rw[U b (by rw[G];simp)];exact O,Kq ρ k,_,nf,Z b _ G,by rw[J4,W];rfl⟩
   |mv b =>
     simp only[WW,Qe] at J ⊢;obtain⟨O,k,G,W⟩:=J;exact⟨by rw[U b (by rw[G];simp)];exact O,Kq ρ k,Z b _ G,by rw[J4,W];rfl⟩
   |iv b =>
     simp only[WW,Qe] at J ⊢;obtain⟨O,k,G,W⟩:=J;exact⟨by rw[U b (by rw[G];simp)];exact O,Kq ρ k,Z b _ G,by rw[J4,W];rfl⟩
   |eptr cs =>
     simp only[WW,Qe] at J ⊢;obtain⟨r,o,O,G⟩:=J;exact⟨r,o,O,kc cs r o G⟩
   |agg cs =>
     simp only[WW,Qe] at J ⊢;obtain⟨l,O,G⟩:=J;exact⟨l,O,i2 cs (by simp at Y;omega) l G⟩
   |tup cs =>
     simp only[WW,Qe] at J ⊢;obtain⟨l,O,G⟩:=J;exact⟨l,O,i2 cs (by simp at Y;omega) l G⟩
   |fn f a b =>
     simp only[WW,Qe] at J ⊢;obtain⟨l,m,O,G,W⟩:=J;simp at Y;exact⟨l,m,O,i2 a zo l G,i2 b zo m W⟩
   |ifc t x =>
     simp only[WW,Qe] at J ⊢;obtain⟨y,O,G⟩:=J;exact⟨y,O,i1 x (by simp at Y;omega) y G⟩
   ·cases xs with
   |nil=>simpa [VW,Qg] using J
   |cons x xs =>
     simp only[VW,Qg] at J ⊢;simp at Y;obtain⟨y,ys,O,G,W⟩:=J;exact⟨y,ys,O,i1 x zo y G,i2 xs zo ys W⟩
 exact⟨fun x v=>(key (SizeOf.sizeOf x)).1 x (Kz _) v,fun xs l=>(key (SizeOf.sizeOf xs)).2 xs (Kz _) l⟩
theorem Qbo(G:∀c,hc c≠none→φ (ρ c)=φc c)(J:∀r o,M r o→Mc r o)(O:∀c k,hc c=some k→h (ρ c)=some (Kq ρ k)) :
  (∀(x:AV) (v:Value),Qe φc hc w Mc x v→Qe φ h w M (WW ρ x) v)∧(∀(xs:List AV) (l:List Value),Qg φc hc w Mc xs l→Qg φ h w M (VW ρ xs) l) :=
 wh G (fun r o _ _=>J r o) O
end
def KD(ρ:Nat→Nat)(hc':List (Nat×Blk))(H:List (Nat×Blk)):List (Nat×Blk):=hc'.map (fun p=>(ρ p.1,Kq ρ p.2))++H
def G5(ρ:Nat→Nat)(hc hc' H:List (Nat×Blk)):Prop :=(∀c∈hc.map (·.1),c∈hc'.map (·.1))∧(∀c∈hc'.map (·.1),c∈hc.map (·.1)∨look H (ρ c)=none)∧(∀c∈hc'.map (·.1),∀d∈hc'.map (·.1),ρ c=ρ d→c=d)
theorem Pz{φ φ':Nat→Nat}{h h':QO}{w:World}{M M':ZM}(Y:∀r o v,w.cell? ⟨r,o,none⟩=some v→M' r o→M r o):∀(l:List PV) (G:List Value),Qg φ h w M (l.map .p) G→Qg φ' h' w M' (l.map .p) G
|[],G,J=>by simpa [Qg] using J
|x::l,G,J=>by
  simp only[WV,Qg,Qe] at J ⊢;obtain⟨y,ys,O,U,W⟩:=J;exact⟨y,ys,O,(Z0 (w:=w) (w':=w) (M:=M) (M':=M') (fun r o v O U=>⟨O,fun W=>U (Y r o v O W)⟩)).1 x y U,Pz Y l ys W⟩
theorem M8(J:∀r o,M' r o→M r o)(l:List PV)(G:List Value):Qg φ h w M (l.map .p) G→Qg φ' h' w M' (l.map .p) G :=
 Pz (fun r o _ _=>J r o) l G
theorem TV{α:Type}:∀(a b:List (Nat×α)) (t:Nat),look (a++b) t=match look a t with|some v=>some v|none=>look b t
|[],b,t=>rfl
|(k,v)::a,b,t=>by
  simp only[List.cons_append,look];by_cases e:k=t
  ·simp[e]
  ·simp only[e,if_false];exact TV a b t
theorem YA{α:Type}:∀{a:List (Nat×α)} {t:Nat},look a t≠none↔t∈a.map (·.1)
|[],t=>by simp[look]
|(k,v)::a,t=>by
  simp only[look,WV,List.mem_cons];by_cases e:k=t
  ·simp[e]
  ·simp only[e,if_false,YA];constructor
   ·exact .inr
   ·rintro(h|h)
    ·exact absurd h.symm e
    ·exact h
theorem Ig{ρ:Nat→Nat}:∀{hc:List (Nat×Blk)} {t:Nat},(∀c d,c∈hc.map (·.1)→d∈t::hc.map (·.1)→ρ c=ρ d→c=d)→look (hc.map (fun p=>(ρ p.1,Kq ρ p.2))) (ρ t)=(look hc t).map (Kq ρ)
|[],t,_=>rfl
|(k,v)::hc,t,hi=>by
  simp only[WV,look];by_cases e:k=t
  ·simp[e]
  ·have:¬ρ k=ρ t:=fun h=>e (hi k t zq zq h)
   simp only[e,this,if_false];refine Ig (fun c d hc G h=>hi c d (by simp at hc ⊢;exact .inr hc) ?_ h);simp at G ⊢;rcases G with G|G
   ·exact .inl G
   ·exact .inr (.inr G)
theorem CP{ρ:Nat→Nat}:∀{hc:List (Nat×Blk)} {b:Nat},(∀c,c∈hc.map (·.1)→ρ c≠b)→look (hc.map (fun p=>(ρ p.1,Kq ρ p.2))) b=none
|[],b,_=>rfl
|(k,v)::hc,b,hi=>by
  simp only[WV,look];have:¬ρ k=b:=hi k zq;simp only[this,if_false];exact CP (fun c hc=>hi c (by simp at hc ⊢;exact .inr hc))
theorem HY:∀(l:List Nat) (x:Nat),x∈l→x≤l.foldr max 0
|a::l,x,h=>by
  simp only[List.foldr_cons];rcases List.mem_cons.1 h with e|e
  ·subst e;exact Nat.le_max_left _ _
  ·exact Nat.le_trans (HY l x e) (Nat.le_max_right _ _)
theorem Br{C:(Nat→Nat)→Array Value→World→(Ending→World→Prop)→Prop}(bg:∀φ vs w R R',C φ vs w R→(∀e w',R e w'→R' e w')→C φ vs w R')(ρ:Nat→Nat)(hcall:∀φ M0 w vs,ZQ φ (look hc) w M0→Qg φ (look hc) w (MM φ (look hc) M0) args' vs→C φ vs.toArray w fun e w'=>∃φ' r h',R r h'∧ZQ φ' h' w' M0∧Q8 φ (look hc) w φ' h' w'∧lS φ' h' w' (MM φ' h' M0) r e)(bf:MW args (VW ρ args'))(hok:KF (look hc) args'=true)(aw:∀c∈hc.map (·.1),1000≤c)(an:∀c k,look hc c=some k→okRefB (look hc) k=true)(hsub:∀c k,look hc c=some k→∃k0,look s.H (ρ c)=some k0∧leB k0 (Kq ρ k))(bi:∀c∈hc.map (·.1),∀d∈hc.map (·.1),ρ c=ρ d→c=d)(hd:∀t,dst=some t→t<N)(bn:∀r h',R r h'→∃hc' H2,h'=look hc'∧G5 ρ hc hc' s.H∧(∀b,look H2 b=look (KD ρ hc' s.H) b) ∧
   (match r with|.ret x=>K (St.put ⟨s.T,H2⟩ dst (WW ρ x))|.panic x=>Q (.panic (WW ρ x)) ⟨s.T,H2⟩)) :
  ∀φ M0 D a w vs,Zo φ M0 N D (look s.T) (look s.H) a w→Qg φ (look s.H) w (MM φ (look s.H) M0) args vs→C (fun c=>φ (ρ c)) vs.toArray w fun e w' =>
   match e with
  |.returned v=>∃φ' s',K s'∧Zo φ' M0 N D (look s'.T) (look s'.H) (a.put dst v) w'∧Q8 φ (look s.H) w φ' (look s'.H) w'
  |.panicked chain=>Post N D Q φ M0 (look s.H) w (.panic chain) a w'
  |.outgrown=>False:=by
 intro φ M0 D a w vs r ha
 let hr:QO:=fun b=>if b∈(hc.map (·.1)).map ρ then none else look s.H b
 let φc:Nat→Nat:=fun c=>φ (ρ c)
 have br:∀b k,hr b=some k→look s.H b=some k∧b∉(hc.map (·.1)).map ρ:=by
  intro b k hb;simp only[hr] at hb;split at hb
  ·cases hb
  ·rename_i hn;exact⟨hb,hn⟩
 have az:∀x o,R4 φ hr x o→R4 φ (look s.H) x o:=by
  rintro x o ⟨b,k,Y,J,h3⟩;exact⟨b,k,(br b k Y).1,J,h3⟩
 have ah:∀c,look hc c≠none→c∈hc.map (·.1):=fun c h=>YA.1 h
 have aq:∀x o,R4 φc (look hc) x o→R4 φ (look s.H) x o:=by
  rintro x o ⟨c,k,Y,J,h3⟩;obtain⟨k0,h4,h5⟩:=hsub c k Y;refine⟨ρ c,k0,h4,J,?_⟩;cases k0 with
 |arr ty S n =>
   cases k with
  |arr b9 S' n'=>simp only[leB,Kq,Blk.arr.injEq] at h5;obtain⟨rfl,rfl,rfl⟩:=h5;exact h3
  |_=>simp[leB,Kq] at h5
 |_=>trivial
 have bd:∀x o,MM φc (look hc) (MB φ hr w M0) x o→MM φ (look s.H) M0 x o:=by
  rintro x o (Y|⟨Y|Y,_⟩)
  ·exact .inl (aq x o Y)
  ·exact .inl (az x o Y)
  ·exact .inr Y
 obtain⟨b3,a6⟩:=QdX (w:=w) (ρ:=ρ) (φ:=φ) (φc:=φc) (h:=look s.H) (hc:=look hc) (fun _ _=>rfl) bd hsub
 have b0:ZQ φc (look hc) w (MB φ hr w M0):=by
  refine⟨fun c d ac aj he=>?_,fun c k hk=>?_,fun c ac o W=>?_,fun x o W=>?_,r.hp.gm.sub bd⟩
  ·obtain⟨kc,ax⟩:=EM.1 ac;obtain⟨kd,am⟩:=EM.1 aj;obtain⟨k0,e0,_⟩:=hsub c kc ax;obtain⟨k1,e1,_⟩:=hsub d kd am;exact bi c (ah c ac) d (ah d aj) (r.hp.inj (ρ c) (ρ d) (by rw[e0];simp) (by rw[e1];simp) he)
  ·obtain⟨k0,Y,J⟩:=hsub c k hk;have h3:=r.hp.blk (ρ c) k0 Y;cases k with
  |box ty cs =>
    cases k0 with
   |box kW ce =>
     simp only[leB,Kq,Blk.box.injEq] at J;obtain⟨cs',⟨e1,e2⟩,h5⟩:=J;obtain⟨c0,h6,h7⟩:=h3;refine⟨c0,by rw[e1];exact h6,a6 _ _ (an c _ hk) ?_⟩;rw[e2];exact JG.2 _ _ _ h5 h7
   |_=>simp[leB,Kq] at J
  |arr ty S n =>
    cases k0 with
   |arr kW S0 n0=>simp only[leB,Kq,Blk.arr.injEq] at J;obtain⟨rfl,rfl,rfl⟩:=J;exact h3
   |_=>simp[leB,Kq] at J
  |vec ty S es =>
    cases k0 with
   |vec kW S0 n0 =>
     simp only[leB,Kq,Blk.vec.injEq] at J;obtain⟨rfl,rfl,rfl⟩:=J;obtain⟨c0,cap,g1,g2,g3,g4,g5,g6,g7⟩:=h3;exact⟨c0,cap,g1,g2,g3,g4,g5,g6,M8 bd _ _ g7⟩
   |_=>simp[leB,Kq] at J
  |lp T nf st pd =>
    cases k0 with
   |lp T0 cd ch cg =>
     simp only[leB,Kq,Blk.lp.injEq] at J;obtain⟨rfl,rfl,rfl,rfl⟩:=J;obtain⟨tmps,d,g1,g2,g3⟩:=h3;refine⟨tmps,d,g1,g2,fun t x ht=>?_⟩;have g4:=g3 t (WW ρ x) (by rw[DY,ht];rfl);exact⟨g4.1,b3 _ _ (UY (an c _ hk) ht) g4.2⟩
   |_=>simp[leB,Kq] at J
  |mp es =>
    cases k0 with
   |mp bk =>
     simp only[leB,Kq,Blk.mp.injEq] at J;subst J;obtain⟨en,cl,g1,g2,g3⟩:=h3;refine⟨en,cl,g1,g2,a6 _ _ (LG _ _) ?_⟩;rw[zK];exact g3
   |_=>simp[leB,Kq] at J
  |mf es =>
    cases k0 with
   |mf bk =>
     simp only[leB,Kq,Blk.mf.injEq] at J;subst J;obtain⟨en,cl,g1,g2,g3,g4⟩:=h3;rw[FW] at g2;rw[FU] at g3;exact⟨en,cl,g1,g2,a6 _ _ (WR (an c _ hk)) g3,g4⟩
   |_=>simp[leB,Kq] at J
  |mg en cl es =>
    cases k0 with
   |mg ca b6 bk =>
     simp only[leB,Kq,Blk.mg.injEq] at J;obtain⟨rfl,rfl,rfl⟩:=J;obtain⟨g1,g2,g3,g4⟩:=h3;rw[FW] at g2;rw[FU] at g3;exact⟨g1,g2,a6 _ _ (WR (an c _ hk)) g3,g4⟩
   |_=>simp[leB,Kq] at J
  |it m cl sn =>
    cases k0 with
   |it m0 b6 b8 =>
     simp only[leB,Kq,Blk.it.injEq] at J;obtain⟨e1,rfl,rfl⟩:=J;obtain⟨g1,k1,g2,g3⟩:=h3;obtain⟨km,bp⟩:=Rb.1 (an c _ hk);obtain⟨k2,g4,g5⟩:=hsub m km bp;rw[←e1] at g1 g2;rw[g2] at g4;cases g4;exact⟨g1,km,bp,QdW (XJ g5 g3)⟩
   |_=>simp[leB,Kq] at J
  ·obtain⟨kc,ax⟩:=EM.1 ac;obtain⟨k0,e0,_⟩:=hsub c kc ax;rcases W with⟨⟨b,k,Y,J,_⟩|W,_⟩
   ·obtain⟨h4,h5⟩:=br b k Y;have:=r.hp.inj b (ρ c) (by rw[h4];simp) (by rw[e0];simp) J;exact h5 (by rw[this];exact List.mem_map_of_mem (ah c ac))
   ·exact r.hp.fr (ρ c) (by rw[e0];simp) o W
  ·exact W.2
 refine bg _ _ _ _ _ (hcall φc (MB φ hr w M0) w vs b0 (a6 _ _ hok (JG.2 _ _ _ bf ha))) ?_;rintro e w' ⟨ad,bl,h',hR,au,E,hE⟩;obtain⟨hc',H2,rfl,⟨hd1,hd2,bq⟩,b2,bb⟩:=bn bl h' hR;have bc:look H2=look (KD ρ hc' s.H):=funext b2
 have a7:∀b k,look s.H b=some k→b∉(hc.map (·.1)).map ρ→b∉(hc'.map (·.1)).map ρ:=by
  intro b k hb hn W;obtain⟨c,G,rfl⟩:=List.mem_map.1 W;rcases hd2 c G with Y|Y
  ·exact hn (List.mem_map_of_mem Y)
  ·rw[Y] at hb;cases hb
 have ao:∀b,b∉(hc'.map (·.1)).map ρ→b∉(hc.map (·.1)).map ρ:=by
  intro b hn W;obtain⟨c,G,rfl⟩:=List.mem_map.1 W;exact hn (List.mem_map_of_mem (hd1 c G))
 obtain⟨KK,cf⟩:∃KK,KK=w'.heap.size+((hc'.map (·.1)).map ad).foldr max 0+1:=⟨_,rfl⟩;have U:∀b,φ b<w.heap.size→KZ φ w.heap.size KK b=φ b:=fun b hb=>by simp[KZ,hb]
 have aa:∀b,¬φ b<w.heap.size→KZ φ w.heap.size KK b=φ b+KK:=fun b hb=>by simp[KZ,hb]
 have bm:∀b c,c∈hc'.map (·.1)→¬φ b<w.heap.size→ad c<KZ φ w.heap.size KK b:=by
  intro b c G hb;have:=HY ((hc'.map (·.1)).map ad) (ad c) (List.mem_map_of_mem G);rw[aa b hb];omega
 have ba:∀b d,KZ φ w.heap.size KK b=KZ φ w.heap.size KK d→φ b=φ d:=by
  intro b d e;by_cases e1:φ b<w.heap.size<;>by_cases e2:φ d<w.heap.size
  ·rw[U b e1,U d e2] at e;exact e
  ·rw[U b e1,aa d e2] at e;omega
  ·rw[aa b e1,U d e2] at e;omega
  ·rw[aa b e1,aa d e2] at e;omega
 have hex:∃φ':Nat→Nat,(∀c,c∈hc'.map (·.1)→φ' (ρ c)=ad c)∧(∀b,b∉(hc'.map (·.1)).map ρ→φ' b=KZ φ w.heap.size KK b):=by
  refine⟨fun b=>match (hc'.map (·.1)).find? (fun c=>ρ c==b) with|some c=>ad c|none=>KZ φ w.heap.size KK b,fun c ac=>?_,fun b hb=>?_⟩
  ·cases hf:(hc'.map (·.1)).find? (fun d=>ρ d==ρ c) with
  |none =>
    have:=List.find?_eq_none.1 hf c ac;simp at this
  |some d =>
    have Y:=List.find?_some hf;have J:=List.mem_of_find?_eq_some hf;simp only[beq_iff_eq] at Y;simp only[hf];rw[bq d J c ac Y]
  ·cases hf:(hc'.map (·.1)).find? (fun d=>ρ d==b) with
  |none=>simp only[hf]
  |some d =>
    have Y:=List.find?_some hf;have J:=List.mem_of_find?_eq_some hf;simp only[beq_iff_eq] at Y;exact absurd (by rw[←Y];exact List.mem_map_of_mem J) hb
 obtain⟨φ',O,ab⟩:=hex;have al:∀c k,look hc' c=some k→c∈hc'.map (·.1):=fun c k hk=>YA.1 (by rw[hk];simp)
 have Z:∀c k,look hc' c=some k→look (KD ρ hc' s.H) (ρ c)=some (Kq ρ k):=by
  intro c k hk;unfold KD;rw[TV,Ig (fun x y hx hy b7=>bq x hx y (by rcases List.mem_cons.1 hy with rfl|hy;exact al _ _ hk;exact hy) b7),hk];rfl
 have af:∀b,b∉(hc'.map (·.1)).map ρ→look (KD ρ hc' s.H) b=look s.H b:=by
  intro b hb;unfold KD;rw[TV,CP (fun c ac e=>hb (by rw[←e];exact List.mem_map_of_mem ac))]
 have ak:∀b k,look (KD ρ hc' s.H) b=some k→(∃c k',look hc' c=some k'∧ρ c=b∧k=Kq ρ k')∨(b∉(hc'.map (·.1)).map ρ∧look s.H b=some k):=by
  intro b k hb;by_cases W:b∈(hc'.map (·.1)).map ρ
  ·obtain⟨c,G,rfl⟩:=List.mem_map.1 W;obtain⟨k',bj⟩:=EM.1 (YA.2 G);rw[Z c k' bj] at hb;exact .inl ⟨c,k',bj,rfl,(Option.some.inj hb).symm⟩
  ·exact .inr ⟨W,by rw[←af b W];exact hb⟩
 have ay:∀x o,R4 φ' (look (KD ρ hc' s.H)) x o→R4 ad (look hc') x o∨(R4 φ hr x o∧x<w.heap.size)∨w'.heap.size≤x:=by
  rintro x o ⟨b,k,Y,J,h3⟩;rcases ak b k Y with⟨c,k',g1,rfl,rfl⟩|⟨g1,g2⟩
  ·left;refine⟨c,k',g1,?_,?_⟩
   ·rw[←O c (al _ _ g1)];exact J
   ·cases k'<;>exact h3
  ·right;rw[ab b g1] at J;by_cases hlt:φ b<w.heap.size
   ·rw[U b hlt] at J;exact .inl ⟨⟨b,k,by simp only[hr];rw[if_neg (ao b g1)];exact g2,J,h3⟩,by omega⟩
   ·rw[aa b hlt] at J;exact .inr zo
 have bo:∀x o v,w'.cell? ⟨x,o,none⟩=some v→MM φ' (look (KD ρ hc' s.H)) M0 x o→MM ad (look hc') (MB φ hr w M0) x o:=by
  rintro x o v be (Y|Y)
  ·rcases ay x o Y with J|J|J
   ·exact .inl J
   ·exact .inr ⟨.inl J.1,J.2⟩
   ·have:=DD be;omega
  ·exact .inr ⟨.inr Y,r.hp.lt x o Y⟩
 obtain⟨ar,av⟩:=wh (w:=w') (ρ:=ρ) (φ:=φ') (φc:=ad) (h:=look (KD ρ hc' s.H)) (hc:=look hc') (fun c ac=>O c (YA.1 ac)) bo Z
 have bx:Q8 φ (look s.H) w φ' (look (KD ρ hc' s.H)) w'∧YZ φ (look s.H) w φ' (look (KD ρ hc' s.H)) w':=by
  have hb:∀b ty cs,look s.H b=some (.box ty cs)→(∃cs',look (KD ρ hc' s.H) b=some (.box ty cs'))∧φ' b=φ b:=by
   intro b ty cs hb;by_cases W:b∈(hc.map (·.1)).map ρ
   ·obtain⟨c,G,rfl⟩:=List.mem_map.1 W;obtain⟨k,hk⟩:=EM.1 (YA.2 G);obtain⟨k0,e0,e1⟩:=hsub c k hk;rw[hb] at e0;cases e0;cases k with
   |box BK b5 =>
     simp only[leB,Kq,Blk.box.injEq] at e1;obtain⟨cc,⟨e2,_⟩,_⟩:=e1;obtain⟨⟨bu,e3⟩,e4⟩:=E.kb c BK b5 (aw c G) hk;refine⟨⟨VW ρ bu,by rw[Z c _ e3,e2];rfl⟩,by rw[O c (hd1 c G),e4]⟩
   |_=>simp[leB,Kq] at e1
   ·have ai:=a7 b _ hb W;exact⟨⟨cs,by rw[af b ai];exact hb⟩,(ab b ai).trans (GH r.hp KK hb (fun _ _ e=>by cases e))⟩
  have ht:∀t ty S n,look s.H t=some (.arr ty S n)→∃n',look (KD ρ hc' s.H) t=some (.arr ty S n')∧n≤n' ∧
    (n'=n→AKept w w' (φ t) (φ' t) ty):=by
   intro t ty S n ae;by_cases W:t∈(hc.map (·.1)).map ρ
   ·obtain⟨c,G,rfl⟩:=List.mem_map.1 W;obtain⟨k,hk⟩:=EM.1 (YA.2 G);obtain⟨k0,e0,e1⟩:=hsub c k hk;rw[ae] at e0;cases e0;cases k with
   |arr BK S1 n1 =>
     simp only[leB,Kq,Blk.arr.injEq] at e1;obtain⟨rfl,rfl,rfl⟩:=e1;obtain⟨n',e3,e4,e5⟩:=E.kt c BK S1 n1 (aw c G) hk;refine⟨n',by rw[Z c _ e3];rfl,e4,fun e6=>?_⟩;obtain⟨e9,bw⟩:=e5 e6;refine⟨fun h0=>by rw[O c (hd1 c G)];exact e9 h0,?_⟩;rcases bw with e7|⟨e7,e8⟩
     ·exact .inl e7
     exact .inr ⟨by rw[O c (hd1 c G),e7],e8⟩
   |_=>simp[leB,Kq] at e1
   ·have ai:=a7 t _ ae W;refine⟨n,by rw[af t ai];exact ae,Kz _,fun _=>?_⟩;by_cases hlt:φ t<w.heap.size;rotate_left
    ·exact Bh (Z6 zo) (by rw[ab t ai,aa t hlt];exact Z6 zo)
    refine Yy ((ab t ai).trans (U t hlt)) (E.same (φ t) hlt (fun d aj he=>?_))
    ·obtain⟨kd,am⟩:=EM.1 aj;obtain⟨k0,e0,_⟩:=hsub d kd am;have:=r.hp.inj (ρ d) t (by rw[e0];simp) (by rw[ae];simp) he;exact W (by rw[←this];exact List.mem_map_of_mem (ah d aj))
  have hv:∀t ty S n,look s.H t=some (.vec ty S n)→∃n',look (KD ρ hc' s.H) t=some (.vec ty S n')∧n.length≤n'.length ∧
    (n'.length=n.length→φ' t=φ t∧∀c,w.heap[φ t]?=some (.cells c ty (0,0))→∃c',w'.heap[φ t]?=some (.cells c' ty (0,0))∧c'.size=c.size):=by
   intro t ty S n ae;by_cases W:t∈(hc.map (·.1)).map ρ
   ·obtain⟨c,G,rfl⟩:=List.mem_map.1 W;obtain⟨k,hk⟩:=EM.1 (YA.2 G);obtain⟨k0,e0,e1⟩:=hsub c k hk;rw[ae] at e0;cases e0;cases k with
   |vec BK S1 n1 =>
     simp only[leB,Kq,Blk.vec.injEq] at e1;obtain⟨rfl,rfl,rfl⟩:=e1;obtain⟨n',e3,e4,e5⟩:=E.kv c BK S1 n1 (aw c G) hk;refine⟨n',by rw[Z c _ e3];rfl,e4,fun e6=>?_⟩;obtain⟨e7,e8⟩:=e5 e6;exact⟨by rw[O c (hd1 c G),e7],e8⟩
   |_=>simp[leB,Kq] at e1
   ·have ai:=a7 t _ ae W;refine⟨n,by rw[af t ai];exact ae,Kz _,fun _=>⟨(ab t ai).trans (U t (yZ r.hp ae)),fun c ac=>⟨c,?_,rfl⟩⟩⟩;rw[E.same (φ t) (yZ r.hp ae) (fun d aj he=>?_)]
    ·exact ac
    ·obtain⟨kd,am⟩:=EM.1 aj;obtain⟨k0,e0,_⟩:=hsub d kd am;have:=r.hp.inj (ρ d) t (by rw[e0];simp) (by rw[ae];simp) he;exact W (by rw[←this];exact List.mem_map_of_mem (ah d aj))
  have bt:∀b k x,look s.H b=some k→k.ob=some x→(∃k',look (KD ρ hc' s.H) b=some k'∧k'.ob=some x)∧φ' b=φ b:=by
   intro b k x hb ho;by_cases W:b∈(hc.map (·.1)).map ρ
   ·obtain⟨c,G,rfl⟩:=List.mem_map.1 W;obtain⟨k2,hk⟩:=EM.1 (YA.2 G);obtain⟨k0,e0,e1⟩:=hsub c k2 hk;rw[hb] at e0;cases e0;have e2:=XJ e1 ho;rw[J4] at e2;cases ho2:k2.ob with
   |none=>rw[ho2] at e2;cases e2
   |some x2 =>
     rw[ho2] at e2;obtain⟨⟨k',e3,e4⟩,e5⟩:=E.ko c k2 x2 (aw c G) hk ho2;exact⟨⟨Kq ρ k',Z c _ e3,by rw[J4,e4];exact e2⟩,by rw[O c (hd1 c G),e5]⟩
   ·have ai:=a7 b _ hb W;exact⟨⟨k,by rw[af b ai];exact hb,ho⟩,(ab b ai).trans (GH r.hp KK hb (fun ty S e=>by rw[e] at ho;cases ho))⟩
  refine⟨⟨E.os,E.tape,E.output,E.size,fun x hx bz=>E.same x hx (fun c ac he=>?_),fun x o hx W=>E.cell x o hx (fun Y=>W (aq x o Y)),fun x o hx W=>?_,fun b ty cs _ a8=>hb b ty cs a8,fun t ty S n _ ae=>ht t ty S n ae,fun t ty S n _ ae=>hv t ty S n ae,fun b k x _=>bt b k x⟩,
   fun b ty cs a8=>⟨(hb b ty cs a8).1.elim fun cs' h=>⟨ty,cs',h⟩,(hb b ty cs a8).2⟩,ht,hv,bt⟩
  ·obtain⟨kc,ax⟩:=EM.1 ac;obtain⟨k0,e0,_⟩:=hsub c kc ax;exact bz (ρ c) (by rw[e0];simp) he
  ·rcases ay x o W with Y|Y|Y
   ·exact aq x o (E.mu x o hx Y)
   ·exact az x o Y.1
   ·have:=E.size;omega
 obtain⟨E1,X1⟩:=bx
 have bv:ZQ φ' (look (KD ρ hc' s.H)) w' M0:=by
  refine⟨fun b d hb b1 he=>?_,fun b k hb=>?_,fun b hb o W=>?_,fun x o W=>Nat.lt_of_lt_of_le (r.hp.lt x o W) E.size,r.hp.gm.evol E1⟩
  ·obtain⟨kb,bh⟩:=EM.1 hb;obtain⟨kd,am⟩:=EM.1 b1
   have mixed:∀c k' b k,look hc' c=some k'→b∉(hc'.map (·.1)).map ρ→look s.H b=some k→ad c≠KZ φ w.heap.size KK b:=by
    intro c k' b k g1 g2 g3 g4;by_cases hlt:φ b<w.heap.size;rotate_left
    ·have:=bm b c (al _ _ g1) hlt;omega
    rw[U b hlt] at g4;have b4:hr b=some k:=by simp only[hr];rw[if_neg (ao b g2)];exact g3
    obtain⟨o,ho⟩:=ME (φ:=φ) b4;exact au.fr c (by rw[g1];simp) o (by rw[g4];exact⟨.inl ho,hlt⟩)
   rcases ak b kb bh with⟨c,k',g1,rfl,_⟩|⟨g1,g2⟩<;>rcases ak d kd am with⟨c2,k2,g3,rfl,_⟩|⟨g3,g4⟩
   ·rw[O c (al _ _ g1),O c2 (al _ _ g3)] at he;rw[au.inj c c2 (by rw[g1];simp) (by rw[g3];simp) he]
   ·rw[O c (al _ _ g1),ab d g3] at he;exact absurd he (mixed c k' d kd g1 g3 g4)
   ·rw[O c2 (al _ _ g3),ab b g1] at he;exact absurd he.symm (mixed c2 k2 b kb g3 g1 g2)
   ·rw[ab b g1,ab d g3] at he;exact r.hp.inj b d (by rw[g2];simp) (by rw[g4];simp) (ba b d he)
  ·rcases ak b k hb with⟨c,k',g1,rfl,rfl⟩|⟨g1,g2⟩
   ·rw[O c (al _ _ g1)];have:=au.blk c k' g1;cases k' with
   |box ty cs=>obtain⟨c0,Y,J⟩:=this;exact⟨c0,Y,av _ _ J⟩
   |arr ty S n=>exact this
   |vec ty S es=>obtain⟨c0,cap,q1,q2,q3,q4,q5,q6,q7⟩:=this;exact⟨c0,cap,q1,q2,q3,q4,q5,q6,Pz bo _ _ q7⟩
   |lp T nf st pd =>
     obtain⟨tmps,d,q1,q2,q3⟩:=this;refine⟨tmps,d,q1,q2,fun t x ht=>?_⟩;rw[DY] at ht;cases hl:look T t with
    |none=>rw[hl] at ht;cases ht
    |some y =>
      rw[hl] at ht;cases ht;exact⟨(q3 t y hl).1,ar _ _ (q3 t y hl).2⟩
   |mp es =>
     obtain⟨en,cl,q1,q2,q3⟩:=this;refine⟨en,cl,q1,q2,?_⟩;have:=av _ _ q3;rw[zK] at this;exact this
   |mf es =>
     obtain⟨en,cl,q1,q2,q3,q4⟩:=this;exact⟨en,cl,q1,by rw[FW];exact q2,by rw[FU];exact av _ _ q3,q4⟩
   |mg en cl es =>
     obtain⟨q1,q2,q3,q4⟩:=this;exact⟨q1,by rw[FW];exact q2,by rw[FU];exact av _ _ q3,q4⟩
   |it m cl sn =>
     obtain⟨q1,k2,q2,q3⟩:=this;exact⟨by rw[O m (al _ _ q2)];exact q1,Kq ρ k2,Z m _ q2,by rw[J4,q3];rfl⟩
   ·rw[ab b g1];by_cases hlt:φ b<w.heap.size;rotate_left
    ·refine Z4 (E1.keeps M0) X1 ?_ (r.hp.blk b k g2);rw[Z6 (by omega:w.heap.size≤φ b),Z6 (by rw[aa b hlt];omega)]
    rw[U b hlt];refine Z4 (E1.keeps M0) X1 (E.same (φ b) hlt (fun d aj he=>?_)) (r.hp.blk b k g2);obtain⟨kd,am⟩:=EM.1 aj;obtain⟨k0,e0,_⟩:=hsub d kd am;have:=r.hp.inj (ρ d) b (by rw[e0];simp) (by rw[g2];simp) he;exact ao b g1 (by rw[←this];exact List.mem_map_of_mem (ah d aj))
  ·obtain⟨kb,bh⟩:=EM.1 hb;rcases ak b kb bh with⟨c,k',g1,rfl,_⟩|⟨g1,g2⟩
   ·rw[O c (al _ _ g1)] at W;exact au.fr c (by rw[g1];simp) o ⟨.inr W,r.hp.lt _ _ W⟩
   ·rw[ab b g1] at W;by_cases hlt:φ b<w.heap.size
    ·rw[U b hlt] at W;exact r.hp.fr b (by rw[g2];simp) o W
    ·have:=r.hp.lt _ _ W;rw[aa b hlt] at this;omega
 have r1:Zo φ' M0 N D (look s.T) (look H2) a w':=by rw[bc];exact r.keep E1 X1 bv
 rw[←bc] at E1 ar;cases bl with
|ret x =>
  obtain⟨v,rfl,hv⟩:=hE;refine⟨φ',_,bb,Zo.put (s:=⟨s.T,H2⟩) r1 hd (ar _ _ hv),?_⟩;cases dst<;>exact E1
|panic x =>
  obtain⟨v,rfl,hv⟩:=hE;exact⟨φ',.panic (WW ρ x),_,bb,r1,E1,v,rfl,ar _ _ hv⟩
theorem Bt(ρ:Nat→Nat)(hcall:YV P f args' (look hc) R)(G:MW args (VW ρ args'))(hok:KF (look hc) args'=true)(O:∀c∈hc.map (·.1),1000≤c)(J:∀c k,look hc c=some k→okRefB (look hc) k=true)(hsub:∀c k,look hc c=some k→∃k0,look s.H (ρ c)=some k0∧leB k0 (Kq ρ k))(W:∀c∈hc.map (·.1),∀d∈hc.map (·.1),ρ c=ρ d→c=d)(hd:∀t,dst=some t→t<N)(U:∀r h',R r h'→∃hc' Y,h'=look hc'∧G5 ρ hc hc' s.H∧(∀b,look Y b=look (KD ρ hc' s.H) b) ∧
   (match r with|.ret x=>K (St.put ⟨s.T,Y⟩ dst (WW ρ x))|.panic x=>Q (.panic (WW ρ x)) ⟨s.T,Y⟩)):F5 P N f args dst s K Q :=
 fun φ M0 D a w Z r ha=>Br (C:=fun _ Z w R=>Calls P f Z w R) (fun _ _ _ _ _ h hq=>h.mono hq) ρ hcall G hok O J hsub W hd U φ M0 D a w Z r ha
theorem YAt.mono{l:Nat}{args:Array Value}{R G:Ending→World→Prop}(h:YAt P l args w R)(J:∀e w',R e w'→G e w'):YAt P l args w G:=by
 obtain⟨fn,tmps,assign,body,U,O⟩:=h;exact⟨fn,tmps,assign,body,U,O.mono J⟩
theorem wm(ρ:Nat→Nat)(hcall:lT P b args' (look hc) R)(G:MW args (VW ρ args'))(hok:KF (look hc) args'=true)(O:∀c∈hc.map (·.1),1000≤c)(J:∀c k,look hc c=some k→okRefB (look hc) k=true)(hsub:∀c k,look hc c=some k→∃k0,look s.H (ρ c)=some k0∧leB k0 (Kq ρ k))(W:∀c∈hc.map (·.1),∀d∈hc.map (·.1),ρ c=ρ d→c=d)(hd:∀t,dst=some t→t<N)(U:∀r h',R r h'→∃hc' Y,h'=look hc'∧G5 ρ hc hc' s.H∧(∀b,look Y b=look (KD ρ hc' s.H) b) ∧
   (match r with|.ret x=>K (St.put ⟨s.T,Y⟩ dst (WW ρ x))|.panic x=>Q (.panic (WW ρ x)) ⟨s.T,Y⟩)):YEx P N (ρ b) args dst s K Q :=
 fun φ M0 D a w Z r ha=>Br (C:=fun φ Z w R=>YAt P (φ b) Z w R) (fun _ _ _ _ _ h hq=>h.mono hq) ρ hcall G hok O J hsub W hd U φ M0 D a w Z r ha
def EP(P:Program)(fn:Func)(hc:List (Nat×Blk))(R:Ku→QO→Prop)(s:St):Prop :=∃x y hc',TT P fn (look s.T) (look s.H)=some x∧le x y∧Kr (look hc') y=true∧Cf (look s.H) (look hc') hc'∧Yh (look hc') hc=true∧R (.ret y) (look hc')
def fC(P:Program)(fn:Func)(hc:List (Nat×Blk))(R:Ku→QO→Prop):AX→St→Prop|.ret,s=>EP P fn hc R s|.normal,s=>EP P fn hc R s|.panic x,s=>∃y hc',le x y∧Kr (look hc') y=true∧Cf (look s.H) (look hc') hc'∧Yh (look hc') hc=true∧R (.panic y) (look hc')|.exit _,_=>False
theorem M9(r:Zo φ M0 N D (look s.T) (look s.H) a w)(E:Q8 φ0 (look hc) w0 φ (look s.H) w)(h1:Cf (look s.H) (look hc') hc')(h2:Yh (look hc') hc=true) :
  ZQ φ (look hc') w M0∧Q8 φ0 (look hc) w0 φ (look hc') w∧∀x v,Kr (look hc') x=true→Qe φ (look s.H) w (MM φ (look s.H) M0) x v→Qe φ (look hc') w (MM φ (look hc') M0) x v:=by
 have hh:∀b k',look hc' b=some k'→∃k,look s.H b=some k∧leB k k':=fun b k' hb=>(Jt h1 b k' hb).1
 have aa:∀r o,R4 φ (look hc') r o→R4 φ (look s.H) r o:=by
  rintro x o ⟨b,k',g1,g2,g3⟩;obtain⟨k,g4,g5⟩:=hh b k' g1;refine⟨b,k,g4,g2,?_⟩;cases k with
 |arr ty S n=>simp only[leB] at g5;subst g5;exact g3
 |_=>trivial
 have hM:∀r o,MM φ (look hc') M0 r o→MM φ (look s.H) M0 r o:=fun x o hx=>hx.elim (fun h=>.inl (aa x o h)) .inr
 have O:∀b,look hc' b≠none→look s.H b≠none:=fun b hb=>by
  cases hq:look hc' b with
 |none=>exact absurd hq hb
 |some k'=>obtain⟨k,h1,_⟩:=hh b k' hq;rw[h1];simp
 obtain⟨c1,c2⟩:=M7 (φ:=φ) (w:=w) hM hh;refine⟨⟨fun b c hb hc=>r.hp.inj b c (O b hb) (O c hc),fun b k' hb=>?_,fun b hb=>r.hp.fr b (O b hb),r.hp.lt,r.hp.gm.sub hM⟩,?_,fun x v hx hv=>c1 x v hx hv⟩
 ·obtain⟨⟨k,g1,g2⟩,g3⟩:=Jt h1 b k' hb;have g4:=r.hp.blk b k g1;cases k with
 |box ty cs =>
   simp only[leB] at g2;obtain⟨cs',rfl,g5⟩:=g2;obtain⟨c,g6,g7⟩:=g4;exact⟨c,g6,c2 _ _ g3 (JG.2 _ _ _ g5 g7)⟩
 |arr ty S n=>simp only[leB] at g2;subst g2;exact g4
 |vec ty S es=>simp only[leB] at g2;subst g2;obtain⟨c,cap,J,W,G,q4,q5,q6,q7⟩:=g4;exact⟨c,cap,J,W,G,q4,q5,q6,c2 _ _ (M6 _ _) q7⟩
 |lp T nf st pd=>simp only[leB] at g2;subst g2;obtain⟨tmps,d,J,W,G⟩:=g4;exact⟨tmps,d,J,W,fun t x Z=>⟨(G t x Z).1,c1 _ _ (UY g3 Z) (G t x Z).2⟩⟩
 |mp es=>simp only[leB] at g2;subst g2;obtain⟨en,cl,J,W,G⟩:=g4;exact⟨en,cl,J,W,c2 _ _ (LG _ _) G⟩
 |mf es=>simp only[leB] at g2;subst g2;obtain⟨en,cl,J,W,G,q4⟩:=g4;exact⟨en,cl,J,W,c2 _ _ (WR g3) G,q4⟩
 |mg en cl es=>simp only[leB] at g2;subst g2;obtain⟨J,W,G,q4⟩:=g4;exact⟨J,W,c2 _ _ (WR g3) G,q4⟩
 |it m cl sn =>
   simp only[leB] at g2;subst g2;obtain⟨J,k0,W,G⟩:=g4;obtain⟨km,ab⟩:=Rb.1 g3;obtain⟨k1,q5,q6⟩:=hh m km ab;rw[W] at q5;cases q5;exact⟨J,km,ab,XJ q6 G⟩
 ·refine⟨E.os,E.tape,E.output,E.size,E.same,E.cell,fun x o hx hm=>E.mu x o hx (aa x o hm),?_,?_,?_,?_⟩
  ·intro b ty cs hb Y;obtain⟨⟨ac,g1⟩,g2⟩:=E.kb b ty cs hb Y;obtain⟨k',g3⟩:=K3 h2 b _ hb Y;obtain⟨k,g4,g5⟩:=hh b k' g3;rw[g1] at g4;cases g4;simp only[leB] at g5;obtain⟨cs',g6,_⟩:=g5;exact⟨⟨cs',by rw[g3,g6]⟩,g2⟩
  ·intro t ty S n Z U;obtain⟨n',g1,g2,g3⟩:=E.kt t ty S n Z U;obtain⟨k',g4⟩:=K3 h2 t _ Z U;obtain⟨k,g5,g6⟩:=hh t k' g4;rw[g1] at g5;cases g5;simp only[leB] at g6;exact⟨n',by rw[g4,g6],g2,g3⟩
  ·intro t ty S n Z U;obtain⟨n',g1,g2,g3⟩:=E.kv t ty S n Z U;obtain⟨k',g4⟩:=K3 h2 t _ Z U;obtain⟨k,g5,g6⟩:=hh t k' g4;rw[g1] at g5;cases g5;simp only[leB] at g6;exact⟨n',by rw[g4,g6],g2,g3⟩
  ·intro b k x hb Y ho;obtain⟨⟨k1,g1,g2⟩,g3⟩:=E.ko b k x hb Y ho;obtain⟨k',g4⟩:=K3 h2 b _ hb Y;obtain⟨k2,g5,g6⟩:=hh b k' g4;rw[g1] at g5;cases g5;exact⟨⟨k',g4,XJ g6 g2⟩,g3⟩
theorem Ih(r:Zo φ M0 N D (look s.T) (look s.H) a w)(E:Q8 φ0 (look hc) w0 φ (look s.H) w)(h:EP P fn hc R s):∃v,(results fn a.tmps).run P w=.ok v w∧Out R φ0 (look hc) w0 M0 (.returned v) w:=by
 obtain⟨x,y,hc',Y,W,Z,U,G,J⟩:=h;obtain⟨v,g1,g2⟩:=fB r Y;obtain⟨k1,O,k3⟩:=M9 r E U G;exact⟨v,g1,φ,.ret y,look hc',J,k1,O,v,rfl,k3 _ _ Z (JG.1 _ _ _ W g2)⟩
theorem EA(hf:P.funcs[f]?=some fn)(hb:fn.body=some c)(Y:args.length≤fn.ntmps)(h:Ex P fn.ntmps none c ⟨Jc 0 args,hc⟩ (fC P fn hc R)):YV P f args (look hc) R:=by
 intro φ M0 w vs J O;refine Ez hf hb Y J O h ?_ ?_ ?_
 ·intro x s φ' a w' G U r E;exact Ih r E (by rcases U with rfl|rfl<;>exact G)
 ·intro x s φ' a w' v G r E Z;obtain⟨y,hc',g1,g2,g3,g4,g5⟩:=G;obtain⟨k1,k2,W⟩:=M9 r E g3 g4;exact⟨φ',.panic y,look hc',g5,k1,k2,v,rfl,W _ _ g2 (JG.1 _ _ _ g1 Z)⟩
 ·intro i s G;exact G
def xZ:AV:=.p (.val .nilIface)
theorem PD:∀{a b:List Nat},(a.map fun r=>({ target:=.collected r,args:=#[] }:Deferred))=(b.map fun r=>({ target:=.collected r,args:=#[] }:Deferred))→a=b
|[],[],_=>rfl
|[],_::_,h=>by cases h
|_::_,[],h=>by cases h
|x::a,y::b,h=>by
  simp only[WV,List.cons.injEq,Deferred.mk.injEq,Target.collected.injEq,and_true] at h;rw[h.1,PD h.2]
theorem Qbp{T:List (Nat×AV)}{st':LoopState}{pd':Option Code}{o:Obj}(hb:h b=some (.lp T nf st pd))(ab:∀c t f,w.heap[φ b]?≠some (.cells c t f))(r:ZQ φ h w M0)(ho:∀(φ':Nat→Nat) (h':QO) (w':World) (M:ZM),True) :
  Q8 φ h w φ (upd h b (.lp T nf st' pd')) (w.putObj (φ b) o)∧YZ φ h w φ (upd h b (.lp T nf st' pd')) (w.putObj (φ b) o):=by
 have hlt:=DI r hb (fun _ _ e=>by cases e);have G:∀x,x≠φ b→(w.putObj (φ b) o).heap[x]?=w.heap[x]?:=fun x hx=>World.putObj_heap_other hx
 have hne:∀c k,h c=some k→k.ob=none→¬b=c:=fun c k hc hk e=>by rw[←e,hb] at hc;cases hc;cases hk
 have W:∀c k,h c=some k→¬b=c→φ c≠φ b:=fun c k hc e h2=>e (r.inj c b (by rw[hc];simp) (by rw[hb];simp) h2).symm
 have U:∀c ty cs,h c=some (.box ty cs)→upd h b (.lp T nf st' pd') c=some (.box ty cs):=fun c ty cs hc=>by simp[upd,hne c _ hc rfl,hc]
 have O:∀t ty S n,h t=some (.arr ty S n)→∃n',upd h b (.lp T nf st' pd') t=some (.arr ty S n')∧n≤n'∧(n'=n→AKept w (w.putObj (φ b) o) (φ t) (φ t) ty):=by
  intro t ty S n J;have e:=hne t _ J rfl;exact⟨n,by simp[upd,e,J],Kz _,fun _=>Yy (rfl) (by rw[G _ (W t _ J e)])⟩
 have Z:∀t ty S es,h t=some (.vec ty S es)→∃es',upd h b (.lp T nf st' pd') t=some (.vec ty S es')∧es.length≤es'.length∧(es'.length=es.length→φ t=φ t∧∀c,w.heap[φ t]?=some (.cells c ty (0,0))→∃c',(w.putObj (φ b) o).heap[φ t]?=some (.cells c' ty (0,0))∧c'.size=c.size):=by
  intro t ty S n J;have e:=hne t _ J rfl;exact⟨n,by simp[upd,e,J],Kz _,fun _=>⟨rfl,fun c hc=>⟨c,by rw[G _ (W t _ J e)];exact hc,rfl⟩⟩⟩
 have Y:∀c k x,h c=some k→k.ob=some x→(∃k',upd h b (.lp T nf st' pd') c=some k'∧k'.ob=some x)∧φ c=φ c:=by
  intro c k x hc ho;by_cases e:b=c
  ·subst e;rw[hb] at hc;cases hc;exact⟨⟨.lp T nf st' pd',by simp[upd],ho⟩,rfl⟩
  ·exact⟨⟨k,by simp[upd,e,hc],ho⟩,rfl⟩
 refine⟨⟨rfl,rfl,rfl,by simp,?_,?_,?_,fun c ty cs _ hc=>⟨⟨cs,U c ty cs hc⟩,rfl⟩,fun t ty S n _=>O t ty S n,fun t ty S es _=>Z t ty S es,fun c k x _=>Y c k x⟩,fun c ty cs hc=>⟨⟨ty,cs,U c ty cs hc⟩,rfl⟩,O,Z,Y⟩
 ·intro x _ aa;exact G x (fun e=>aa b (by rw[hb];simp) e.symm)
 ·intro x y _ hm;have:x≠φ b:=fun e=>hm ⟨b,_,hb,e.symm,trivial⟩
  simp[World.cell?,G x this]
 ·rintro x y _ ⟨d,q,h1,h2,h3⟩;by_cases e:b=d
  ·exact⟨b,_,hb,by rw[e];exact h2,trivial⟩
  ·exact⟨d,q,by simpa [upd,e] using h1,h2,h3⟩
theorem uf{G:List (Nat×AV)}(r:Zo φ M0 N D T h a w)(hb:h b=some (.lp G nf st pd)) :
  ∃rec:Loop,w.heap[φ b]?=some (.loop rec)∧rec.state=st∧rec.pending=pd∧rec.fn=nf.fn∧rec.params=nf.ps∧rec.assign=nf.assign∧rec.body=nf.body∧rec.tmps.size=nf.N ∧
   (∀t x,look G t=some x→t<nf.N∧Qe φ h w (MM φ h M0) x (rec.tmps.getD t undef)) ∧
   ∀st' pd',Zo φ M0 N D T (upd h b (.lp G nf st' pd')) a (w.putObj (φ b) (.loop { rec with state:=st',pending:=pd' }))∧Q8 φ h w φ (upd h b (.lp G nf st' pd')) (w.putObj (φ b) (.loop { rec with state:=st',pending:=pd' })):=by
 obtain⟨tmps,d,Y,J,U⟩:=r.hp.blk b _ hb;refine⟨_,Y,rfl,rfl,rfl,rfl,rfl,rfl,J,U,fun st' pd'=>?_⟩;obtain⟨E,X⟩:=Qbp (st':=st') (pd':=pd') (o:=.loop { state:=st',pending:=pd',fn:=nf.fn,tmps:=tmps,params:=nf.ps,assign:=nf.assign,body:=nf.body,defers:=d }) hb (by rw[Y];simp) r.hp (fun _ _ _ _=>trivial);refine⟨r.keep E X ?_,E⟩;have hlt:=DI r.hp hb (fun _ _ e=>by cases e)
 have g:∀d,upd h b (.lp G nf st' pd') d≠none→h d≠none:=fun d O=>by
  by_cases e:b=d
  ·rw[←e,hb];simp
  ·simpa [upd,e] using O
 refine⟨fun c d hc O he=>r.hp.inj c d (g c hc) (g d O) he,fun c k hc=>?_,fun c hc=>r.hp.fr c (g c hc),fun x o Z=>by simpa using r.hp.lt x o Z,r.hp.gm.evol E⟩;by_cases e:b=c
 ·subst e;have:k=.lp G nf st' pd':=by simpa [upd] using hc.symm
  subst this;exact⟨tmps,d,World.putObj_heap_same hlt,J,fun t x W=>⟨(U t x W).1,(QH (E.keeps M0) X).1 _ _ (U t x W).2⟩⟩
 ·have hc':h c=some k:=by simpa [upd,e] using hc
  refine Z4 (E.keeps M0) X (World.putObj_heap_other fun J=>e (r.hp.inj c b (by rw[hc'];simp) (by rw[hb];simp) J).symm) (r.hp.blk c k hc')
def psT:List Tmp→List AV→List (Nat×AV)→List (Nat×AV)|p::ps,x::xs,T=>psT ps xs ((p,x)::T)|_,_,T=>T
theorem fD{φ:Nat→Nat}{h:QO}{w:World}{M:ZM}{N:Nat}:∀(ps:List Tmp) (xs:List AV) (G:List Value) (T:List (Nat×AV)) (tmps:Array Value),(∀p∈ps,p<N)→ps.length=xs.length→Qg φ h w M xs G→tmps.size=N →
  (∀t x,look T t=some x→t<N∧Qe φ h w M x (tmps.getD t undef)) →
  ((ps.zip G).foldl (fun tmps (p:Tmp×Value)=>tmps.setIfInBounds p.1 p.2) tmps).size=N∧∀t x,look (psT ps xs T) t=some x→t<N∧Qe φ h w M x (((ps.zip G).foldl (fun tmps (p:Tmp×Value)=>tmps.setIfInBounds p.1 p.2) tmps).getD t undef)
|[],xs,G,T,tmps,_,O,Y,hs,W=>by
  have:xs=[]:=List.eq_nil_of_length_eq_zero (by simpa using O.symm);subst this;simp only[List.zip_nil_left,List.foldl_nil,psT];exact⟨hs,W⟩
|p::ps,[],G,T,tmps,_,O,Y,hs,W=>by simp at O
|p::ps,x::xs,G,T,tmps,hp,O,Y,hs,W=>by
  simp only[Qg] at Y;obtain⟨v,Z,rfl,h1,h2⟩:=Y;simp only[List.zip_cons_cons,List.foldl_cons,psT];refine fD ps xs Z _ _ (fun q hq=>hp q (by simp[hq])) (by simpa using O) h2 (by simpa using hs) ?_;intro t y J;simp only[look] at J;have U:=hp p zq;by_cases e:p=t
  ·simp only[e,if_true,Q0] at J;subst J;refine⟨e▸U,?_⟩;have:(tmps.setIfInBounds p v).getD t undef=v:=by subst e;simp[hs,U]
   rw[this];exact h1
  ·simp only[e,if_false] at J;refine⟨(W t y J).1,?_⟩;have:(tmps.setIfInBounds p v).getD t undef=tmps.getD t undef:=by simp[Array.getElem?_setIfInBounds_ne e]
   rw[this];exact(W t y J).2
def TW(H:List (Nat×Blk))(b:Nat)(T:List (Nat×AV))(nf:R3)(R:Ku→QO→Prop)(O:Bool)(st:LoopState)(pd:Option Code)(s:St):Prop :=∃hc' J G,Cf (look s.H) (look hc') hc'∧Yh (look hc') H=true∧look hc' b=some (.lp T nf J G)∧R (.ret (.p (.val (.bool O)))) (look ((b,.lp T nf st pd)::hc'))
def l9(H:List (Nat×Blk))(b:Nat)(T:List (Nat×AV))(nf:R3)(R:Ku→QO→Prop):AX→St→Prop|.normal,s=>TW H b T nf R true .ready none s|.ret,s=>TW H b T nf R false .done (some .ret) s|.exit i,s=>TW H b T nf R false .done (some (.exit i)) s|.panic _,_=>False
theorem Qbq(r:Zo φ M0 N D (look s.T) (look s.H) a w)(E:Q8 φ0 (look hc) w0 φ (look s.H) w)(J:Cf (look s.H) (look hc') hc')(O:Yh (look hc') hc=true):Zo φ M0 N D (look []) (look hc') a w∧Q8 φ0 (look hc) w0 φ (look hc') w:=by
 obtain⟨k1,Y,_⟩:=M9 r E J O;refine⟨⟨?_,r.siz,k1,fun t x W=>by cases W⟩,Y⟩;obtain⟨h0,U,g1,g2,g3⟩:=r.dfs;refine⟨h0,U,g1,g2,fun x G=>⟨(g3 x G).1,(g3 x G).2.1,fun b hb=>(g3 x G).2.2 b ?_⟩⟩;cases hq:look hc' b with
|none=>exact absurd hq hb
|some k'=>obtain⟨⟨k,Z,_⟩,_⟩:=Jt J b k' hq;rw[Z];simp
theorem wo{T:List (Nat×AV)}(ae:1000≤b)(hb:look H b=some (.lp T nf .ready pd))(ad:nf.ps.size=args.length)(ai:∀p∈nf.ps.toList,p<nf.N)(h:∀l,Ex P nf.N (some l) nf.assign ⟨psT nf.ps.toList args T,H⟩ (fun x s1=>x=.normal∧∃U,look s1.H b=some (.lp T nf .ready U) ∧
   Ex P nf.N (some l) nf.body ⟨s1.T,(b,.lp T nf .busy U)::s1.H⟩ (l9 H b T nf R))):lT P b args (look H) R:=by
 intro φ M0 w vs hH ha;obtain⟨tmps,d,af,ak,hT⟩:=hH.blk b _ hb;have an:=ZR ha;have ah:=run_yield (P:=P) (args:=vs.toArray) af (by simp;omega);refine⟨_,_,_,_,ah,?_⟩;refine roundIn_of_wpIn trivial ?_
 have aa:(nf.ps.zip vs.toArray).foldl (fun tmps (x:Tmp×Value)=>match x with|(t,a)=>tmps.setIfInBounds t a) tmps=(nf.ps.toList.zip vs).foldl (fun tmps (p:Tmp×Value)=>tmps.setIfInBounds p.1 p.2) tmps:=by
  rw[←Array.foldl_toList];simp
 obtain⟨p1,p2⟩:=fD (φ:=φ) (h:=look H) (w:=w) (M:=MM φ (look H) M0) (N:=nf.N) nf.ps.toList args vs T tmps ai (by simpa using ad) ha ak hT
 have r:Zo φ M0 nf.N ⟨[],w.heap.size⟩ (look (psT nf.ps.toList args T)) (look H) { tmps:=(nf.ps.zip vs.toArray).foldl (fun tmps (x:Tmp×Value)=>match x with|(t,a)=>tmps.setIfInBounds t a) tmps,defers:=[] } w:=by
  refine⟨⟨Kz _,[],rfl,List.nodup_nil,fun r hr=>by cases hr⟩,?_,hH,?_⟩
  ·show Array.size _=_;rw[aa];exact p1
  ·intro t x ht;show _∧Qe _ _ _ _ x (Array.getD _ t undef);rw[aa];exact p2 t x ht
 refine wpIn_mono (h (φ b) φ M0 _ _ w r) ?_;rintro e a1 w1 ⟨J,k,s1,⟨rfl,U,al,O⟩,r1,E1,Y⟩;simp only[XF] at Y;subst Y;have G:J b=φ b:=(E1.ko b _ _ ae hb rfl).2;obtain⟨rec,g1,g2,g3,g4,g5,g6,g7,g8,g9,g10⟩:=uf r1 al;obtain⟨r2,E2⟩:=g10 .busy U;refine⟨_,by rw[←G];exact run_beginRound g1 g2,?_⟩;have aj:(w1.putObj (J b) (.loop { rec with state:=.busy }))=w1.putObj (J b) (.loop { rec with state:=.busy,pending:=U }):=by rw[←g3]
 rw[←G,aj];rw[←G] at O;refine wpIn_mono (O J M0 _ a1 _ r2) ?_;rintro e a3 w3 ⟨ab,k,s3,hq,r3,E3,Y⟩;have Z:=(E1.trans E2).trans E3
 have fin:∀(W:Bool) (jump:Option Code),jump.isNone=W→TW H b T nf R W (if jump.isNone then .ready else .done) jump s3 →
   ∃v w',(Instr.endRound (J b) jump).run P w3=.ok v w'∧∃φ' r h',R r h'∧ZQ φ' h' w' M0∧Q8 φ (look H) w φ' h' w'∧lS φ' h' w' (MM φ' h' M0) r (.returned v):=by
  rintro W jump hj ⟨hc',aq,ao,q1,q2,q3,q4⟩;obtain⟨r4,E4⟩:=Qbq r3 Z q1 q2;obtain⟨am,f1,f2,f3,f4,f5,f6,f7,f8,f9,f10⟩:=uf r4 q3;obtain⟨r5,E5⟩:=f10 (if jump.isNone then .ready else .done) jump
  have ac:ab b=J b:=by
   have e1:ab b=φ b:=by
    have:=Z.ko b _ _ ae hb rfl;exact this.2
   rw[e1,G]
  refine⟨.bool jump.isNone,_,by rw[←ac];exact run_endRound jump f1,ab,.ret (.p (.val (.bool W))),_,q4,r5.hp,E4.trans E5,.bool jump.isNone,rfl,by simp[Qe,QM,hj]⟩
 cases k with
|normal =>
  simp only[XF] at Y;subst Y;exact fin true none rfl hq
|ret =>
  simp only[XF] at Y;subst Y;exact fin false (some .ret) rfl hq
|exit i =>
  simp only[XF] at Y;subst Y;exact fin false (some (.exit i)) rfl hq
|panic x=>exact hq.elim
def eu(G:Nat)(T:List (Nat×AV))(nf:R3)(Q:AX→St→Prop)(s:St):Prop :=
  ∃st pd,look s.H G=some (.lp T nf st pd)∧st≠.busy ∧
    (match pd with
    |none=>Q .normal ⟨s.T,(G,.lp T nf .exhausted none)::s.H⟩
    |some .ret=>Q .ret ⟨s.T,(G,.lp T nf .exhausted (some .ret))::s.H⟩
    |some (.exit i)=>Q (.exit i) ⟨s.T,(G,.lp T nf .exhausted (some (.exit i)))::s.H⟩
    |some _=>False)
theorem zL{f:Operand}{ps:Array Tmp}{assign:Code}{l m:List AV}(G:Nat)(ar:1000≤G)(hf:Zp (look s.T) f=some (.fn (.func g) l m))(hok:Y1 P g=true)(hD:look s.H G=none)(hcall:∀fn,F5 P N g (l++[.yv G]++m) none ⟨s.T,(G,.lp s.T ⟨N,fn,ps,assign,body⟩ .ready none)::s.H⟩ (eu G s.T ⟨N,fn,ps,assign,body⟩ Q) Q):Ex P N none (.rangeFunc f ps assign body) s Q:=by
 intro φ0 M0 D a w r0;obtain⟨r,af,a6,hC⟩:=r0.lift 2;refine wpIn_mono ?_ (fun _ _ _ p=>Post.trans af p);generalize KZ φ0 w.heap.size 2=φ at r af a6 hC;refine wpIn_rangeFunc fun fn _=>?_
 have am:=r.ev hf;simp only[Qe] at am;obtain⟨l',m',ay,a7,aq⟩:=am
 let W:Loop:={ state:=.ready,pending:=none,fn:=fn,tmps:=a.tmps,params:=ps,assign:=assign,body:=body,defers:=w.heap.size }
 let O:World:=w.alloc (.deferred (some []))
 let Z:World:=O.alloc (.loop W)
 have ae:O.heap=w.heap.push (.deferred (some [])):=rfl;have an:O.heap.size=w.heap.size+1:=by rw[ae];simp
 obtain⟨Ea,Xa,Ha⟩:=Ul (w:=w) (w':=O) (φ:=φ) (h:=look s.H) (M0:=M0) rfl rfl rfl zo (fun x hx=>by rw[ae,Array.getElem?_push,if_neg zo]) r.hp (fun b hb=>(hC b hb).imp (fun h=>h) (fun h=>by omega));have ak:Clear φ (look s.H) O 1:=fun b hb=>(hC b hb).imp (fun h=>by omega) (fun h=>by omega)
 have ra:Zo φ M0 N D (look s.T) (look s.H) a O:=r.keep Ea Xa Ha;have hh:Z.heap=O.heap.push (.loop W):=rfl;obtain⟨E1,X1⟩:=JM (k:=.lp s.T ⟨N,fn,ps,assign,body⟩ .ready none) hh rfl rfl rfl hD Ha ak
 have H1:ZQ (Qy φ G O.heap.size) (upd (look s.H) G (.lp s.T ⟨N,fn,ps,assign,body⟩ .ready none)) Z M0:=by
  refine JN hh hD Ha ak E1 X1 ⟨a.tmps,w.heap.size,?_,r.siz,fun t x ht=>⟨(ra.tm t x ht).1,(QH (E1.keeps M0) X1).1 _ _ (ra.tm t x ht).2⟩⟩;rw[hh];simp[W]
 let a':Act:={ a with defers:=[{ target:=.collected w.heap.size,args:=#[] }]++a.defers }
 have r1:Zo (Qy φ G O.heap.size) M0 N D (look s.T) (look ((G,.lp s.T ⟨N,fn,ps,assign,body⟩ .ready none)::s.H)) a' Z:=by
  have ac:=ra.keep E1 X1 H1;refine⟨?_,ac.siz,H1,ac.tm⟩;obtain⟨h0,ms,g1,g2,g3⟩:=ac.dfs;obtain⟨av,az,al,a8,ao⟩:=r.dfs
  have au:ms=az:=by
   rw[g1] at al;exact PD (List.append_cancel_right al)
  refine⟨h0,w.heap.size::ms,by simp[a',g1],List.nodup_cons.2 ⟨fun hx=>?_,g2⟩,fun x hx=>?_⟩
  ·rw[au] at hx;have:=(FL.1 (ao _ hx).2.1).1;omega
  ·rcases List.mem_cons.1 hx with rfl|hx
   ·refine⟨av,?_,fun b hb he=>?_⟩
    ·rw[hh,Array.getElem?_push,if_neg zo,ae];simp
    ·by_cases e:G=b
     ·simp only[Qy,e,if_true] at he;omega
     ·have aj:look s.H b≠none:=by simpa [look,e] using hb
      simp only[Qy,e,if_false] at he;obtain⟨k,hk⟩:=EM.1 aj;rcases hC b aj with h7|h7<;>omega
   ·exact g3 x hx
 have ab:Qy φ G O.heap.size G=w.heap.size+1:=by simp[Qy,an]
 have aa:Q8 φ (look s.H) w (Qy φ G O.heap.size) (look ((G,.lp s.T ⟨N,fn,ps,assign,body⟩ .ready none)::s.H)) Z:=Ea.trans E1
 have ad:Qg (Qy φ G O.heap.size) (look ((G,.lp s.T ⟨N,fn,ps,assign,body⟩ .ready none)::s.H)) Z (MM (Qy φ G O.heap.size) (look ((G,.lp s.T ⟨N,fn,ps,assign,body⟩ .ready none)::s.H)) M0) (l++[.yv G]++m) (l'++[Value.func (.yield (w.heap.size+1)) #[] #[]]++m'):=by
  have k1:=(QH (E1.keeps M0) X1).2 _ _ ((QH (Ea.keeps M0) Xa).2 _ _ a7);have k2:=(QH (E1.keeps M0) X1).2 _ _ ((QH (Ea.keeps M0) Xa).2 _ _ aq);refine ZF (ZF k1 ?_) k2;simp only[Qg,Qe];exact⟨_,[],rfl,⟨by rw[ab],_,s.T,⟨N,fn,ps,assign,body⟩,by simp[look];rfl,rfl⟩,rfl⟩
 refine⟨w.heap.size+1,_,_,{ target:=.fn (.func g) m'.toArray,args:=l'.toArray++#[Value.func (.yield (w.heap.size+1)) #[] #[]] },Z,g,(l'++[Value.func (.yield (w.heap.size+1)) #[] #[]]++m').toArray,Z,run_enterLoop_outer fn a.tmps ps assign body,?_,fun _ _=>trivial,?_,(fun h=>by cases h),?_⟩
 ·have e1:Array.map a.eval #[Operand.const (Value.func (Fn.yield (w.heap.size+1)) #[] #[])]=#[Value.func (.yield (w.heap.size+1)) #[] #[]]:=by simp[Act.eval]
  simp only[resolve,ay,Deferred.ofValue,Sem.run_pure,e1];rfl
 ·simp only[invoke];rw[XH hok];congr 2;apply Array.ext';simp
 ·refine callsIn_wide.2 ((hcall fn _ M0 D a' Z _ r1 ad).mono ?_);intro e w3 he;cases e with
 |returned v =>
   obtain⟨J,s3,⟨st,pd,q1,q2,q3⟩,r3,E3⟩:=he;have aw:Zo J M0 N D (look s3.T) (look s3.H) a' w3:=r3
   have ah:J G=w.heap.size+1:=by
    have:=(E3.ko G _ _ ar (by simp[look];rfl) rfl).2;rw[this,ab]
   obtain⟨Y,f1,f2,f3,f4,f5,f6,f7,f8,f9,f10⟩:=uf aw q1;obtain⟨r4,E4⟩:=f10 .exhausted pd;have ax:w3.putObj (J G) (.loop { Y with state:=.exhausted })=w3.putObj (J G) (.loop { Y with state:=.exhausted,pending:=pd }):=by rw[←f3]
   have ai:(Instr.endLoop (w.heap.size+1)).run P w3=.ok pd (w3.putObj (J G) (.loop { Y with state:=.exhausted,pending:=pd })):=by
    rw[←ah,run_endLoop f1 (by rw[f2];exact q2),ax,f3]
   have U:=(aa.trans E3).trans E4;refine⟨pd,_,ai,?_⟩;cases pd with
  |none=>exact⟨J,.normal,⟨s3.T,(G,.lp s.T ⟨N,fn,ps,assign,body⟩ .exhausted none)::s3.H⟩,q3,r4,U,rfl⟩
  |some c =>
    cases c with
   |ret=>exact wpIn_ret ⟨J,.ret,⟨s3.T,(G,.lp s.T ⟨N,fn,ps,assign,body⟩ .exhausted (some .ret))::s3.H⟩,q3,r4,U,rfl⟩
   |exit i=>exact wpIn_exit ⟨J,.exit i,⟨s3.T,(G,.lp s.T ⟨N,fn,ps,assign,body⟩ .exhausted (some (.exit i)))::s3.H⟩,q3,r4,U,rfl⟩
   |_=>exact q3.elim
 |panicked chain=>exact Post.trans aa he
 |outgrown=>exact he.elim
theorem RG{φ:Nat→Nat}{h:QO}{w:World}{M:ZM}:∀{cs:List PV} {l:List Value},Qg φ h w M (cs.map .p) l→∀(j:Nat) (c:PV),cs[j]?=some c→∃v:Value,l[j]?=some v∧QM w M c v
|[],l,_,j,c,G=>by simp at G
|x::cs,l,J,j,c,G=>by
  simp only[WV,Qg,Qe] at J;obtain⟨y,ys,rfl,W,O⟩:=J;cases j with
 |zero=>simp at G;subst G;exact⟨y,by simp,W⟩
 |succ j =>
   obtain⟨v,Y,U⟩:=RG O j c (by simpa using G);exact⟨v,by simpa using Y,U⟩
structure Good(ks:List Nat)(H:List (Nat×Blk)):Prop where
 keys:H.map (·.1)=ks
 ok:∀c k,look H c=some k→okRefB (look H) k=true
theorem eB{ι:Type}(S:ι→St)(G:ι→Nat)(i0:ι)(hw:Weak N s (S i0))(round:∀i (K:St→Prop),(∀s',(∃j,G j<G i∧Weak N s' (S j))→K s')→Ex P N ro c (S i) (andThen K Q)):Ex P N ro (.loop c) s Q :=
 FN hw (gL S G i0 fun i=>round i _ fun _ h=>h)
attribute [go_sem] Yf Y0 WW VW QdV leB le MW Kr KF
mutual
def flat:AV→Bool|.p (.val _)=>true|.agg l=>Ii l|.tup l=>Ii l|.ifc _ x=>flat x|_=>false
def Ii:List AV→Bool|[]=>true|x::xs=>flat x&&Ii xs
end
theorem qz:(∀(x:AV) (v:Value),flat x=true→Qe φ h w M x v→Qe φ' h' w' M' x v)∧(∀(xs:List AV) (l:List Value),Ii xs=true→Qg φ h w M xs l→Qg φ' h' w' M' xs l):=by
 have key:∀n:Nat,(∀(x:AV),SizeOf.sizeOf x≤n→∀v,flat x=true→Qe φ h w M x v→Qe φ' h' w' M' x v)∧(∀(xs:List AV),SizeOf.sizeOf xs≤n→∀l,Ii xs=true→Qg φ h w M xs l→Qg φ' h' w' M' xs l):=by
  intro n
  induction n with
 |zero =>
   refine⟨fun x J=>?_,fun es J=>?_⟩
   ·cases x<;>simp at J
   ·cases es<;>simp at J
 |succ n Y =>
   obtain⟨W,i2⟩:=Y;refine⟨fun x J v hf G=>?_,fun xs J l hf G=>?_⟩
   ·cases x with
   |p x=>cases x with
    |val u=>simp only[Qe,QM] at G ⊢;exact G
    |sl S es=>simp[flat] at hf
   |agg l=>simp only[flat,Qe] at hf G ⊢;obtain⟨m,U,O⟩:=G;exact⟨m,U,i2 l (by simp at J;omega) m hf O⟩
   |tup l=>simp only[flat,Qe] at hf G ⊢;obtain⟨m,U,O⟩:=G;exact⟨m,U,i2 l (by simp at J;omega) m hf O⟩
   |ifc t x=>simp only[flat,Qe] at hf G ⊢;obtain⟨y,U,O⟩:=G;exact⟨y,U,W x (by simp at J;omega) y hf O⟩
   |_=>simp[flat] at hf
   ·cases xs with
   |nil=>simpa [Qg] using G
   |cons x xs =>
     simp only[Ii,Z8,Qg] at hf G ⊢;simp at J;obtain⟨y,ys,U,O,Z⟩:=G;exact⟨y,ys,U,W x zo y hf.1 O,i2 xs zo ys hf.2 Z⟩
 exact⟨fun x v=>(key (SizeOf.sizeOf x)).1 x (Kz _) v,fun xs l=>(key (SizeOf.sizeOf xs)).2 xs (Kz _) l⟩
def leR(H:QO)(x y:AV):Prop :=le x y∨∃(b off:Nat) (ty:TypeId) (l:List AV) (cs:List PV),x=.ptr b off∧y=.eptr (cs.drop off)∧H b=some (.box ty l)∧MW l (cs.map .p)∧Ug (cs.map .p)=true
def ug(H:QO):List AV→List AV→Prop|[],ys=>ys=[]|x::xs,ys=>∃z G,ys=z::G∧leR H x z∧ug H xs G
def roK(K:St→Prop)(Q:AX→St→Prop)(s:St)(dst:Option Tmp):Ku→Prop|.ret x=>flat x=true∧K (s.put dst x)|.panic x=>flat x=true∧Q (.panic x) s
theorem zM{X:Ku}(hc:Q9 P f args' X)(ac:ug (look s.H) args args')(hn:Y0 args'=true)(hd:∀t,dst=some t→t<N)(O:roK K Q s dst X):F5 P N f args dst s K Q:=by
 intro φ M0 D a w U r ha
 let Y:ZM:=fun x o=>MB φ (look s.H) w M0 x o∧¬∃b ty l,look s.H b=some (.box ty l)∧φ b=x
 have hH:ZQ φ Fz w Y:=UW (fun x o hm=>vJ hm.1) r.hp.gm.w (fun g hg o h=>r.hp.gm.m g hg o h.1.1);have hM:∀r o v,w.cell? ⟨r,o,none⟩=some v→¬MM φ (look s.H) M0 r o→w.cell? ⟨r,o,none⟩=some v∧¬MM φ Fz Y r o:=fun r o v G J=>⟨G,fun W=>W.elim Wu (fun h4=>J h4.1.1)⟩
 have hP:=(Z0 (w:=w) (w':=w) (M:=MM φ (look s.H) M0) (M':=MM φ Fz Y) hM)
 have conv:∀(xs ys:List AV) (U:List Value),ug (look s.H) xs ys→Y0 ys=true→Qg φ (look s.H) w (MM φ (look s.H) M0) xs U→Qg φ Fz w (MM φ Fz Y) ys U:=by
  intro xs
  induction xs with
 |nil=>intro ys U G _ J;simp only[ug] at G;subst G;simpa [Qg] using J
 |cons x xs ih =>
   intro ys U G h0 J;simp only[ug] at G;obtain⟨z,zs,rfl,W,h4⟩:=G;simp only[Y0,Z8] at h0;simp only[Qg] at J ⊢;obtain⟨v,aa,rfl,h5,h6⟩:=J;refine⟨v,aa,rfl,?_,ih zs aa h4 h0.2 h6⟩;rcases W with W|⟨b,off,ty,l,cs,rfl,rfl,hb,hl,G⟩
   ·exact(WQ hM).1 _ _ h0.1 (JG.1 _ _ _ W h5)
   ·simp only[Qe] at h5 ⊢;obtain⟨rfl,_⟩:=h5;refine⟨φ b,off,rfl,?_⟩;obtain⟨c0,ab,ad⟩:=r.hp.blk b _ hb;have Z:=JG.2 _ _ _ hl ad;rw[Gq];intro j c hj;rw[List.getElem?_drop] at hj;obtain⟨u,g1,g2⟩:=RG Z (off+j) c hj;refine⟨u,?_,?_,Rq G Z u (List.mem_of_getElem? g1),hP.1 _ _ g2⟩
    ·rw[Ke ab];simpa using g1
    ·rintro(h7|h7)
     ·exact Wu h7
     ·exact h7.2 ⟨b,ty,l,hb,rfl⟩
 refine(hc φ Y w U hH (conv _ _ _ ac hn ha)).mono ?_;rintro e w' ⟨φ',r',h',⟨rfl,rfl⟩,ae,E,he⟩;obtain⟨r,E1,X1,hC⟩:=r.lift (w'.heap.size-w.heap.size);obtain⟨E2,X2,H2⟩:=Ul E.os E.tape E.output E.size (fun x O=>E.same x O (fun b hb=>absurd rfl hb)) r.hp hC;have r2:Zo _ M0 N D (look s.T) (look s.H) a w':=r.keep E2 X2 H2;cases r' with
|ret x =>
  obtain⟨v,rfl,hv⟩:=he;exact⟨_,s.put dst x,O.2,r2.put hd (qz.1 _ _ O.1 hv),by cases dst<;>exact E1.trans E2⟩
|panic x =>
  obtain⟨v,rfl,hv⟩:=he;exact⟨_,.panic x,s,O.2,r2,E1.trans E2,v,rfl,qz.1 _ _ O.1 hv⟩
theorem Qbr{H:QO}{l:List AV}{cs ds:List PV}(hb:H b=some (.box ty l))(O:MW l (cs.map .p))(J:Ug (cs.map .p)=true)(G:ds=cs.drop off):leR H (.ptr b off) (.eptr ds) :=
 .inr ⟨b,off,ty,l,cs,rfl,by rw[G],hb,O,J⟩
theorem Qbs{op:Op}{rest:List Oper}{acc:List Yz}{s0:St}{x:AV}(hc:Q9 P f args' (.ret x))(hcall:Kg (look s.T) op=some (f,args))(hb:Y1 P f=true)(J:KA N o.dst=true)(G:MW args args')(U:Y0 args'=true)(O:Yf x=true)(h:K (s.put o.dst x)):xW P N ops Q o op rest acc s0 s K :=
 .inl ⟨f,args,args',x,hcall,hb,J,G,U,O,hc,h⟩
attribute [go_sem] flat Ii
mutual
def Ij(t S:Nat)(es:List (List PV)):AV→AV|.vsl J G n=>if G=t then .p (.sl S es) else .vsl J G n|.agg l=>.agg (Na t S es l)|.tup l=>.tup (Na t S es l)|.fn f l m=>.fn f (Na t S es l) (Na t S es m)|.ifc ty x=>.ifc ty (Ij t S es x)|x=>x
def Na(t S:Nat)(es:List (List PV)):List AV→List AV|[]=>[]|x::xs=>Ij t S es x::Na t S es xs
end
mutual
def eD(t:Nat):AV→Option (List Nat)
|.vsl _ G n=>if G=t then some [n] else some []
|.vptr G _ _ _=>if G=t then none else some []
|.agg l=>EQ t l
|.tup l=>EQ t l
|.fn _ l m=>match EQ t l,EQ t m with|some a,some b=>some (a++b)|_,_=>none
|.ifc _ x=>eD t x
|_=>some []
def EQ(t:Nat):List AV→Option (List Nat)
|[]=>some []
|x::xs=>match eD t x,EQ t xs with|some a,some b=>some (a++b)|_,_=>none
end
def Qbt(t S:Nat)(es:List (List PV)):Blk→Blk|.box ty l=>.box ty (Na t S es l)|k=>k
def QfC(t:Nat):Blk→Option (List Nat)|.box _ l=>EQ t l|_=>some []
def PE(t S:Nat)(es:List (List PV)):List (Nat×Blk)→List (Nat×Blk)|[]=>[]|(c,k)::l=>if c=t then PE t S es l else(c,Qbt t S es k)::PE t S es l
def Qbu(t:Nat):List (Nat×Blk)→Option (List Nat)
|[]=>some []
|(c,k)::l=>match QfC t k,Qbu t l with|some a,some b=>some (a++b)|_,_=>none
def QfD(t:Nat)(s:St):Option (List Nat):=match EQ t (s.T.map (·.2)),Qbu t s.H with|some a,some b=>some (a++b)|_,_=>none
theorem Xt(t S:Nat)(es:List (List PV)):∀(H:List (Nat×Blk)) (c:Nat),look (PE t S es H) c=if c=t then none else(look H c).map (Qbt t S es)
|[],c=>by simp[PE,look]
|(d,k)::H,c=>by
  simp only[PE];by_cases e:d=t
  ·simp only[e,if_true,Xt t S es H c,look];by_cases G:c=t
   ·simp[G]
   ·have:¬t=c:=fun h=>G h.symm
    simp[G,this]
  ·simp only[e,if_false,look,Xt t S es H c];by_cases G:d=c
   ·subst G;simp[e]
   ·simp[G]
theorem qA(t S:Nat)(es:List (List PV)):∀(T:List (Nat×AV)) (x:Nat),look (T.map fun p=>(p.1,Ij t S es p.2)) x=(look T x).map (Ij t S es)
|[],x=>rfl
|(k,v)::T,x=>by
  simp only[WV,look];by_cases e:k=x
  ·simp[e]
  ·simp only[e,if_false];exact qA t S es T x
theorem eF(t S:Nat)(es:List (List PV))(n0:Nat)(hM:∀r o,M' r o→M r o)(hh:∀c k,c≠t→h c=some k→h' c=some (Qbt t S es k))(hb:∃ty,h t=some (.vec ty S es))(ab:∀v,(∃cap c ty,v=.slice (some ⟨φ t,0,none⟩) es.length cap∧w.heap[φ t]?=some (.cells c ty (0,0))∧es.length≤cap)→QM w M' (.sl S es) v)(Y:∀c k,h c=some k→k.ob=none∨∃es,k=.mp es) :
  (∀(x:AV) (v:Value) (L:List Nat),eD t x=some L→(∀n∈L,n=es.length)→Qe φ h w M x v→Qe φ h' w M' (Ij t S es x) v)∧(∀(xs:List AV) (l:List Value) (L:List Nat),EQ t xs=some L→(∀n∈L,n=es.length)→Qg φ h w M xs l→Qg φ h' w M' (Na t S es xs) l):=by
 obtain⟨kp,ke,kc⟩:=Z0 (w:=w) (w':=w) (M:=M) (M':=M') (fun r o v O G=>⟨O,fun U=>G (hM r o U)⟩);obtain⟨kW,hb⟩:=hb
 have key:∀n:Nat,(∀(x:AV),SizeOf.sizeOf x≤n→∀v L,eD t x=some L→(∀n∈L,n=es.length)→Qe φ h w M x v→Qe φ h' w M' (Ij t S es x) v)∧(∀(xs:List AV),SizeOf.sizeOf xs≤n→∀l L,EQ t xs=some L→(∀n∈L,n=es.length)→Qg φ h w M xs l→Qg φ h' w M' (Na t S es xs) l):=by
  intro n
  induction n with
 |zero =>
   refine⟨fun x Z=>?_,fun es Z=>?_⟩
   ·cases x<;>simp at Z
   ·cases es<;>simp at Z
 |succ n ih =>
   obtain⟨i1,i2⟩:=ih;refine⟨fun x Z v L W hn J=>?_,fun xs Z l L W hn J=>?_⟩
   ·cases x with
   |p x=>simp only[Ij,Qe] at J ⊢;exact kp x v J
   |tsl S' es' t' =>
     simp only[Ij,Qe] at J ⊢;obtain⟨O,ty,m,G,U⟩:=J;have hne:t'≠t:=fun e=>by rw[e,hb] at G;cases G
     exact⟨kp _ _ O,ty,m,by rw[hh t' _ hne G];rfl,U⟩
   |ptr c off =>
     simp only[Ij,Qe] at J ⊢;obtain⟨O,ty,l,G⟩:=J;have hne:c≠t:=fun e=>by rw[e,hb] at G;cases G
     exact⟨O,ty,Na t S es l,by rw[hh c _ hne G];rfl⟩
   |bsl c off =>
     simp only[Ij,Qe] at J ⊢;obtain⟨O,ty,l,G⟩:=J;have hne:c≠t:=fun e=>by rw[e,hb] at G;cases G
     exact⟨O,ty,Na t S es l,by rw[hh c _ hne G];rfl⟩
   |sfp c =>
     simp only[Ij,Qe] at J ⊢;obtain⟨O,ty,l,G⟩:=J;have hne:c≠t:=fun e=>by rw[e,hb] at G;cases G
     exact⟨O,ty,Na t S es l,by rw[hh c _ hne G];rfl⟩
   |vnil=>simp only[Ij,Qe] at J ⊢;exact J
   |vsl S' t' m =>
     by_cases e:t'=t
     ·subst e;simp only[eD,if_true,Q0] at W;subst W;have hm:=hn m zq;simp only[Ij,if_true,Qe] at J ⊢;obtain⟨O,ty,es',G,U,h4⟩:=J;rw[hb] at G;cases G;obtain⟨cap,c,g1,g2,g3,g4,g5⟩:=h4 hm;exact ab v ⟨cap,c,_,by rw[←hm];exact g1,g2,by rw[←hm];exact g4⟩
     ·simp only[Ij,e,if_false,Qe] at J ⊢;obtain⟨O,ty,m',G,U⟩:=J;exact⟨O,ty,m',by rw[hh t' _ e G];rfl,U⟩
   |vptr t' m k f =>
     by_cases e:t'=t
     ·simp[eD,e] at W
     ·simp only[Ij,Qe] at J ⊢;obtain⟨O,ty,S',m',G,U⟩:=J;exact⟨O,ty,S',m',by rw[hh t' _ e G];rfl,U⟩
   |eptr l =>
     simp only[Ij,Qe] at J ⊢;obtain⟨r,o,O,G⟩:=J;exact⟨r,o,O,kc l r o G⟩
   |yv c =>
     simp only[Qe] at J;obtain⟨_,k,T,nf,G,U⟩:=J;rcases Y c k G with h4|⟨_,rfl⟩
     ·rw[h4] at U;cases U
     ·cases U
   |mv c =>
     simp only[Ij,Qe] at J ⊢;obtain⟨O,k,G,U⟩:=J;rcases Y c k G with h4|⟨es',rfl⟩
     ·rw[h4] at U;cases U
     ·have hne:c≠t:=fun e=>by rw[e,hb] at G;cases G
      exact⟨O,.mp es',by rw[hh c _ hne G];rfl,rfl⟩
   |iv c =>
     simp only[Ij,Qe] at J ⊢;obtain⟨O,k,G,U⟩:=J;rcases Y c k G with h4|⟨es',rfl⟩
     ·rw[h4] at U;cases U
     ·have hne:c≠t:=fun e=>by rw[e,hb] at G;cases G
      exact⟨O,.mp es',by rw[hh c _ hne G];rfl,rfl⟩
   |agg l =>
     simp only[Ij,eD,Qe] at J W ⊢;obtain⟨m,O,G⟩:=J;exact⟨m,O,i2 l (by simp at Z;omega) m L W hn G⟩
   |tup l =>
     simp only[Ij,eD,Qe] at J W ⊢;obtain⟨m,O,G⟩:=J;exact⟨m,O,i2 l (by simp at Z;omega) m L W hn G⟩
   |fn f p q =>
     simp only[Ij,eD,Qe] at J W ⊢;obtain⟨l,m,O,G,U⟩:=J;simp at Z;split at W
     ·rename_i La Lb ha aa;simp only[Q0] at W;subst W;exact⟨l,m,O,i2 p zo l La ha (fun n h=>hn n (by simp[h])) G,i2 q zo m Lb aa (fun n h=>hn n (by simp[h])) U⟩
     ·cases W
   |ifc ty x =>
     simp only[Ij,eD,Qe] at J W ⊢;obtain⟨y,O,G⟩:=J;exact⟨y,O,i1 x (by simp at Z;omega) y L W hn G⟩
   ·cases xs with
   |nil=>simpa [Na,Qg] using J
   |cons x xs =>
     simp only[Na,EQ,Qg] at J W ⊢;simp at Z;obtain⟨y,ys,O,G,U⟩:=J;split at W
     ·rename_i La Lb ha aa;simp only[Q0] at W;subst W;exact⟨y,ys,O,i1 x zo y La ha (fun n h=>hn n (by simp[h])) G,i2 xs zo ys Lb aa (fun n h=>hn n (by simp[h])) U⟩
     ·cases W
 exact⟨fun x v=>(key (SizeOf.sizeOf x)).1 x (Kz _) v,fun xs l=>(key (SizeOf.sizeOf xs)).2 xs (Kz _) l⟩
theorem qB{t:Nat}:∀{T:List (Nat×AV)} {L:List Nat} {x:Nat} {v:AV},EQ t (T.map (·.2))=some L→look T x=some v→∃J,eD t v=some J∧∀n∈J,n∈L
|[],L,x,v,_,h=>by simp[look] at h
|(k,y)::T,L,x,v,G,h=>by
  simp only[WV,EQ] at G;split at G
  ·rename_i Y Lb W hb;simp only[Q0] at G;subst G;simp only[look] at h;by_cases e:k=x
   ·simp only[e,if_true,Q0] at h;subst h;exact⟨Y,W,fun n O=>by simp[O]⟩
   ·simp only[e,if_false] at h;obtain⟨J,Z,U⟩:=qB hb h;exact⟨J,Z,fun n O=>by simp[U n O]⟩
  ·cases G
theorem qC{t:Nat}:∀{H:List (Nat×Blk)} {L:List Nat} {c:Nat} {k:Blk},Qbu t H=some L→look H c=some k→∃J,QfC t k=some J∧∀n∈J,n∈L
|[],L,x,v,_,h=>by simp[look] at h
|(b,y)::H,L,c,k,G,h=>by
  simp only[Qbu] at G;split at G
  ·rename_i Y Lb W hb;simp only[Q0] at G;subst G;simp only[look] at h;by_cases e:b=c
   ·simp only[e,if_true,Q0] at h;subst h;exact⟨Y,W,fun n O=>by simp[O]⟩
   ·simp only[e,if_false] at h;obtain⟨J,Z,U⟩:=qC hb h;exact⟨J,Z,fun n O=>by simp[U n O]⟩
  ·cases G
def fE:List (Nat×Blk)→Bool
|[]=>true
|(_,k)::l=>(match k with|.mp _=>true|k=>k.ob.isNone)&&fE l
theorem Xh:∀{H:List (Nat×Blk)},fE H=true→∀c k,look H c=some k→k.ob=none∨∃es,k=.mp es
|[],_,c,k,h=>by cases h
|(b,q)::H,G,c,k,h=>by
  simp only[fE,Z8] at G;simp only[look] at h;split at h
  ·cases h;have:=G.1;split at this
   ·exact .inr ⟨_,rfl⟩
   ·exact .inl (by simpa using this)
  ·exact Xh G.2 c k h
theorem eG(t:Nat)(ty:TypeId)(S:Nat)(es:List (List PV))(L:List Nat)(hb:look s.H t=some (.vec ty S es))(hL:QfD t s=some L)(hn:∀n∈L,n=es.length)(hlt:Nat.blt t 1000=true)(U:fE s.H=true) :
  Weak N s ⟨s.T.map fun p=>(p.1,Ij t S es p.2),PE t S es s.H⟩:=by
 have am:t<1000:=by simpa [Nat.blt_eq] using hlt
 unfold QfD at hL;split at hL;rotate_left
 ·cases hL
 rename_i L1 L2 ac ae;simp only[Q0] at hL;subst hL;intro φ M0 D a w r;refine⟨φ,?_⟩
 have J:∀c k',look (PE t S es s.H) c=some k'→c≠t∧∃k,look s.H c=some k∧k'=Qbt t S es k:=by
  intro c k' hc;rw[Xt] at hc;by_cases e:c=t
  ·simp[e] at hc
  ·simp only[e,if_false] at hc;cases hk:look s.H c with
  |none=>rw[hk] at hc;cases hc
  |some k=>rw[hk] at hc;cases hc;exact⟨e,k,rfl,rfl⟩
 have Y:∀x o,R4 φ (look (PE t S es s.H)) x o→R4 φ (look s.H) x o∧x≠φ t:=by
  rintro x o ⟨c,k',g1,g2,g3⟩;obtain⟨e,k,g4,rfl⟩:=J c k' g1;refine⟨⟨c,k,g4,g2,by cases k<;>exact g3⟩,fun hx=>e ?_⟩;exact r.hp.inj c t (by rw[g4];simp) (by rw[hb];simp) (by rw[g2,hx])
 have hM:∀x o,MM φ (look (PE t S es s.H)) M0 x o→MM φ (look s.H) M0 x o:=fun x o hx=>hx.elim (fun h=>.inl (Y x o h).1) .inr
 have aj:∀o,¬MM φ (look (PE t S es s.H)) M0 (φ t) o:=by
  rintro o (hx|hx)
  ·exact(Y _ _ hx).2 rfl
  ·exact r.hp.fr t (by rw[hb];simp) o hx
 obtain⟨c0,al,ad,ao,aq,an,hS,h1,ah⟩:=r.hp.blk t _ hb
 have ai:∀v,(∃cap c ty,v=.slice (some ⟨φ t,0,none⟩) es.length cap∧w.heap[φ t]?=some (.cells c ty (0,0))∧es.length≤cap)→QM w (MM φ (look (PE t S es s.H)) M0) (.sl S es) v:=by
  rintro v ⟨cap,c,O,rfl,hc,ab⟩;simp only[QM];refine .inl ⟨φ t,0,cap,rfl,ab,?_⟩;rw[KM];refine⟨hS,?_⟩;rw[Gq];intro j q hj;obtain⟨u,g1,g2⟩:=RG ah j q hj
  have g3:c0.toList[j]?=some u:=by
   rw[List.getElem?_take] at g1;split at g1
   ·exact g1
   ·cases g1
  refine⟨u,?_,aj _,h1 u (List.mem_of_getElem? g3),(Z0 (w:=w) (w':=w) (fun r o v h1 h2=>⟨h1,fun h3=>h2 (hM r o h3)⟩)).1 _ _ g2⟩;rw[Ke ad];simpa using g3
 obtain⟨k1,k2⟩:=eF (φ:=φ) (h:=look s.H) (h':=look (PE t S es s.H)) (w:=w) (M:=MM φ (look s.H) M0) t S es es.length hM
  (fun c k hne hk=>by rw[Xt,if_neg hne,hk];rfl) ⟨ty,hb⟩ ai (Xh U)
 have E:Q8 φ (look s.H) w φ (look (PE t S es s.H)) w:=by
  refine⟨rfl,rfl,rfl,Kz _,fun _ _ _=>rfl,fun _ _ _ _=>rfl,fun x o _ hx=>(Y x o hx).1,?_,?_,?_,?_⟩
  ·intro c O l hc G;have hne:c≠t:=by omega
   exact⟨⟨Na t S es l,by rw[Xt,if_neg hne,G];rfl⟩,rfl⟩
  ·intro c O S' n hc G;have hne:c≠t:=by omega
   exact⟨n,by rw[Xt,if_neg hne,G];rfl,Kz _,fun _=>Yy (rfl) rfl⟩
  ·intro c O S' n hc G;have hne:c≠t:=by omega
   exact⟨n,by rw[Xt,if_neg hne,G];rfl,Kz _,fun _=>⟨rfl,fun c hc=>⟨c,hc,rfl⟩⟩⟩
  ·intro c k x hc G ho;rcases Xh U c k G with W|⟨es',rfl⟩
   ·rw[W] at ho;cases ho
   ·have hne:c≠t:=by omega
    exact⟨⟨.mp es',by rw[Xt,if_neg hne,G];rfl,ho⟩,rfl⟩
 refine⟨⟨r.dfs.keep E,r.siz,⟨?_,?_,?_,r.hp.lt,r.hp.gm.evol E⟩,?_⟩,E⟩
 ·intro c d hc hd he;obtain⟨kc,aa⟩:=EM.1 hc;obtain⟨kd,ak⟩:=EM.1 hd;obtain⟨_,k1,Z,_⟩:=J c kc aa;obtain⟨_,k2,e2,_⟩:=J d kd ak;exact r.hp.inj c d (by rw[Z];simp) (by rw[e2];simp) he
 ·intro c k' af;obtain⟨_,k,Z,rfl⟩:=J c k' af;have:=r.hp.blk c k Z;cases k with
 |box O l =>
   obtain⟨c1,q1,q2⟩:=this;obtain⟨L',g1,g2⟩:=qC ae Z;exact⟨c1,q1,k2 _ _ L' g1 (fun n h=>hn n (by simp[g2 n h])) q2⟩
 |arr O S n=>exact this
 |vec O S es=>obtain⟨c1,cap,q1,q2,q3,q4,q5,q6,q7⟩:=this;exact⟨c1,cap,q1,q2,q3,q4,q5,q6,M8 hM _ _ q7⟩
 |lp T nf st pd=>rcases Xh U c _ Z with W|⟨_,W⟩<;>cases W
 |mp es =>
   obtain⟨en,cl,q1,q2,q3⟩:=this;have e:es.map (fun p=>AV.p p.2)=(es.map (·.2)).map .p:=by simp
   refine⟨en,cl,q1,q2,?_⟩;rw[e] at q3 ⊢;exact M8 hM _ _ q3
 |mf es=>rcases Xh U c _ Z with W|⟨_,W⟩<;>cases W
 |mg en cl es=>rcases Xh U c _ Z with W|⟨_,W⟩<;>cases W
 |it m cl sn=>rcases Xh U c _ Z with W|⟨_,W⟩<;>cases W
 ·intro c hc o hm;obtain⟨kc,aa⟩:=EM.1 hc;obtain⟨_,k1,Z,_⟩:=J c kc aa;exact r.hp.fr c (by rw[Z];simp) o hm
 ·intro x y hy;rw[qA] at hy;cases hq:look s.T x with
 |none=>rw[hq] at hy;cases hy
 |some z =>
   rw[hq] at hy;cases hy;obtain⟨L',g1,g2⟩:=qB ac hq;exact⟨(r.tm x z hq).1,k1 _ _ L' g1 (fun n h=>hn n (by simp[g2 n h])) (r.tm x z hq).2⟩
theorem Ik{P:Program}{cs:List Frame}:∀(O:List Nat) (fr:Frame) (w:World),fr.mode≠.run→O.Nodup→(∀r∈O,w.heap[r]?=some (.deferred (some []))) →
  fr.defers=(O.map fun r=>({ target:=.collected r,args:=#[] }:Deferred))→∃w',Hm O w w'∧Steps P (lone fr cs w) (lone { fr with defers:=[] } cs w')
|[],fr,w,_,_,_,U=>by
  refine⟨w,⟨rfl,rfl,rfl,rfl,fun _ _=>rfl,fun k G=>by cases G⟩,?_⟩;have:{ fr with defers:=[] }=fr:=by cases fr;simp only at U;subst U;rfl
  rw[this];exact Steps.refl _ _
|r::O,fr,w,Y,W,hb,U=>by
  have h0:=hb r zq;have hlt:r<w.heap.size:=(FL.1 h0).1;have J:∀k:Nat,(w.putObj r (.deferred none)).heap[k]?=(w.heap.setIfInBounds r (.deferred none))[k]?:=fun k=>rfl
  have Z:=step_collected (cs:=cs) Y U rfl (run_takeDeferred (P:=P) h0)
  obtain⟨w',t,hs⟩:=Ik (P:=P) (cs:=cs) O { fr with defers:=[]++(O.map fun r=>({ target:=.collected r,args:=#[] }:Deferred)) } (w.putObj r (.deferred none)) Y (List.nodup_cons.1 W).2 (fun k G=>by
   have:r≠k:=fun e=>(List.nodup_cons.1 W).1 (e▸G)
   rw[J,Array.getElem?_setIfInBounds_ne this];exact hb k (by simp[G])) rfl
  refine⟨w',⟨t.os,t.tape,t.output,by rw[t.size];simp[World.putObj],fun k G=>?_,fun k G=>?_⟩,.head Z hs⟩
  ·simp only[List.mem_cons,not_or] at G;rw[t.same k G.2,J,Array.getElem?_setIfInBounds_ne (Ne.symm G.1)]
  ·rcases List.mem_cons.1 G with e|e
   ·subst e;rw[t.same k (List.nodup_cons.1 W).1,J];simp[hlt]
   ·exact t.turn k e
theorem zN{args:Array Value}{u:FrameMode}{R:Ending→FrameMode→World→Prop}(hf:P.funcs[f]?=some fn)(hb:fn.body=some c)(h:∀(G:Frame) (cs:List Frame),G.mode=u→c.wpS P (fun e a cs' w'=>(e=.normal∨e=.ret)∧∃U W,a.defers=(U.map fun r=>({ target:=.collected r,args:=#[] }:Deferred))∧U.Nodup∧(∀r∈U,w'.heap[r]?=some (.deferred (some []))) ∧
   cs'={ G with mode:=W }::cs∧∀w'',Hm U w' w''→∃v,(results fn a.tmps).run P w''=.ok v w''∧R (.returned v) W w'') { tmps:=args++Array.replicate (fn.ntmps-args.size) undef,defers:=[] } (G::cs) w):CallsD P f args u w R:=by
 intro G cs hu
 let b:Frame:={ (default:Frame) with fn:=f,kind:=.deferred }
 have O:Frame.enter P f args .deferred=b.at { tmps:=args++Array.replicate (fn.ntmps-args.size) undef,defers:=[] } [.code c]:=by
  simp[Frame.enter,Frame.at,hf,hb,b]
 obtain⟨e,a',cs',w',⟨he,U,W,hd,hn,aa,rfl,hq⟩,J⟩:=h G cs hu b [] rfl rfl;rw[←O] at J
 have fin:∀todo,Steps P (lone (Frame.enter P f args .deferred) (G::cs) w) (lone { b.at a' todo with mode:=.returning } ({ G with mode:=W }::cs) w') →
   ∃e Y w'' fr,R e Y w''∧Comes P (lone (Frame.enter P f args .deferred) (G::cs) w) (lone fr ({ G with mode:=Y }::cs) w'') e∧fr.kind=.deferred∧fr.going P w'' e:=by
  intro todo hs;obtain⟨w'',t,Z⟩:=Ik (P:=P) (cs:={ G with mode:=W }::cs) U { b.at a' todo with mode:=.returning } w' zq hn aa hd;obtain⟨v,hr,hR⟩:=hq w'' t;exact⟨.returned v,W,w'',_,hR,Steps.trans hs Z,rfl,rfl,rfl,fn,hf,hr⟩
 rcases he with rfl|rfl
 ·exact fin [] (Steps.trans J (.one step_end))
 ·obtain⟨todo,hs⟩:=J;exact fin todo hs
structure KN(P:Program)(g:FuncId) where
 fn:Func
 id:Nat
 o1:Oper
 o2:Oper
 d1:Tmp
 d2:Tmp
 ts:Array TypeId
 rest:Code
 hf:P.funcs[g]?=some fn
 hb:fn.body=some (.seq (.region id #[o1,o2] false) rest)
 hop1:o1.op=.call ⟨.builtin .recover,#[],ts⟩
 hop2:o2.op=.assign (.tmp d1)
 hg1:o1.guard=none
 hg2:o2.guard=none
 hd1:o1.dst=some d1
 hd2:o2.dst=some d2
 hlt1:d1<fn.ntmps
 hlt2:d2<fn.ntmps
def QcU(u J:FrameMode)(v:Value):Prop:=∀(G:Frame) (cs:List Frame),G.mode=u→(recoverD (G::cs)=some (v,{ G with mode:=J }::cs))∨(recoverD (G::cs)=none∧v=.nilIface∧J=u)
def CD(P:Program)(g:FuncId)(U:Array Value)(w:World)(R:Ending→World→Prop):Prop:=∀u O v J,U=(v::J).toArray→QcU u O v→CallsD P g J.toArray u w fun e G w'=>G=O∧R e w'
def QcV(P:Program)(fn:Func)(hc:List (Nat×Blk))(R:Ku→QO→Prop):AX→St→Prop|.panic _,_=>False|x,s=>fC P fn hc R x s
theorem fF{T:List (Nat×AV)}{d:Tmp}{x:AV}(r:Zo φ M0 N D (look T) h a w)(J:d<N)(O:Qe φ h w (MM φ h M0) x v):Zo φ M0 N D (look ((d,x)::T)) h (a.put (some d) v) w:=by
 refine⟨r.dfs,by simp[Act.put,r.siz],r.hp,fun t y G=>?_⟩;simp only[look] at G;by_cases e:d=t
 ·simp only[e,if_true,Q0] at G;subst G;subst e;refine⟨J,?_⟩;have h0:d<a.tmps.size:=by rw[r.siz];exact J
  have:(a.put (some d) v).tmps.getD d undef=v:=by simp[Act.put,h0]
  rw[this];exact O
 ·simp only[e,if_false] at G;obtain⟨g1,g2⟩:=r.tm t y G;refine⟨g1,?_⟩;have:(a.put (some d) v).tmps.getD t undef=a.tmps.getD t undef:=by simp[Act.put,Array.getElem?_setIfInBounds_ne e]
  rw[this];exact g2
theorem ww(C:KN P g){rv:AV}{caps:List AV}(hl:caps.length≤C.fn.ntmps)(h:Ex P C.fn.ntmps none C.rest ⟨(C.d2,rv)::(C.d1,rv)::Jc 0 caps,hc⟩ (QcV P C.fn hc R)) :
  ∀φ M0 w vs,ZQ φ (look hc) w M0→Qg φ (look hc) w (MM φ (look hc) M0) (rv::caps) vs→CD P g vs.toArray w (Out R φ (look hc) w M0):=by
 intro φ M0 w vs hH ha u u' v vl am af;simp only[Qg] at ha;obtain⟨y,ys,rfl,ae,hcaps⟩:=ha
 have ah:y=v∧ys=vl:=by
  have:=congrArg Array.toList am;simpa using this
 obtain⟨rfl,rfl⟩:=ah;refine zN C.hf C.hb fun c0 cs hm=>wpS_seq (wpS_region ?_)
 have Y:List.range (#[C.o1,C.o2]:Array Oper).size=[0,1]:=rfl;rw[Y];have ai:∀y,Region.wanted C.o1 y=true:=fun y=>by simp[Region.wanted,C.hg1]
 have an:∀y,Region.wanted C.o2 y=true:=fun y=>by simp[Region.wanted,C.hg2]
 have W:∀(a:Act) (w:World),(execOp a.eval C.o1).run P w=.ok .recover w:=fun a w=>by simp[execOp,C.hop1,resolve,invoke,builtin]
 have r0:=Py hH hcaps hl;generalize ar:({ tmps:=ys.toArray++Array.replicate (C.fn.ntmps-ys.toArray.size) undef,defers:=[] }:Act)=a0 at r0;have r1:=fF (d:=C.d1) r0 C.hlt1 ae
 have aj:(a0.put C.o1.dst y).eval (.tmp C.d1)=y:=by
  have h0:C.d1<a0.tmps.size:=by rw[r0.siz];exact C.hlt1
  simp[Act.put,C.hd1,Act.eval,h0]
 have r2:=fF (d:=C.d2) r1 C.hlt2 ae
 have rest:∀(U:List Frame),U={ c0 with mode:=u' }::cs→wpOpsS P #[C.o1,C.o2] (Exit.thenS (C.rest.wpS P (fun e a cs' w'=>(e=.normal∨e=.ret)∧∃G J,a.defers=(G.map fun r=>({ target:=.collected r,args:=#[] }:Deferred))∧G.Nodup∧(∀r∈G,w'.heap[r]?=some (.deferred (some []))) ∧
   cs'={ c0 with mode:=J }::cs∧∀w'',Hm G w' w''→∃v,(results C.fn a.tmps).run P w''=.ok v w''∧(J=u'∧Out R φ (look hc) w M0 (.returned v) w''))) (fun e a cs' w'=>(e=.normal∨e=.ret)∧∃G J,a.defers=(G.map fun r=>({ target:=.collected r,args:=#[] }:Deferred))∧G.Nodup∧(∀r∈G,w'.heap[r]?=some (.deferred (some []))) ∧
   cs'={ c0 with mode:=J }::cs∧∀w'',Hm G w' w''→∃v,(results C.fn a.tmps).run P w''=.ok v w''∧(J=u'∧Out R φ (look hc) w M0 (.returned v) w''))) [1] (a0.put C.o1.dst y) U w:=by
  intro U ao;have O:(#[C.o1,C.o2]:Array Oper)[1]?=some C.o2:=rfl
  have ab:(execOp (a0.put C.o1.dst y).eval C.o2).run P w=.ok (.value y) w:=by
   generalize a0.put C.o1.dst y=A at aj;simp[execOp,C.hop2,aj]
  simp only[wpOpsS,O,an,if_true,ab,Oper.upon];show C.rest.wpS P _ ((a0.put C.o1.dst y).put C.o2.dst y) U w;rw[C.hd1,C.hd2];refine wpS_of_wp (wpIn_wide.1 (wpIn_mono (h φ M0 _ _ w r2) ?_));rintro e a' w' ⟨φ',k,s',Z,h2,h3,h4⟩;obtain⟨al,G,hd,ak,ac⟩:=h2.dfs;have aq:a'.defers=G.map fun r=>({ target:=.collected r,args:=#[] }:Deferred):=by rw[hd];simp
  have aa:∀r∈G,w'.heap[r]?=some (.deferred (some []))∧∀b,look s'.H b≠none→φ' b≠r:=fun r hr=>(ac r hr).2
  have go:EP P C.fn hc R s'→∃G J,a'.defers=(G.map fun r=>({ target:=.collected r,args:=#[] }:Deferred))∧G.Nodup∧(∀r∈G,w'.heap[r]?=some (.deferred (some []))) ∧
    U={ c0 with mode:=J }::cs∧∀w'',Hm G w' w''→∃v,(results C.fn a'.tmps).run P w''=.ok v w''∧(J=u'∧Out R φ (look hc) w M0 (.returned v) w''):=by
   intro ad;refine⟨G,u',aq,ak,fun r hr=>(aa r hr).1,ao,fun w'' t=>?_⟩;obtain⟨v,g1,g2⟩:=Ih (h2.turned t aa) (h3.turned t (fun r hr=>(ac r hr).1) aa) ad;exact⟨v,g1,rfl,g2⟩
  cases k with
 |normal =>
   simp only[XF] at h4;subst h4;exact⟨.inl rfl,go Z⟩
 |ret =>
   simp only[XF] at h4;subst h4;exact⟨.inr rfl,go Z⟩
 |exit i=>exact Z.elim
 |panic x=>exact Z.elim
 have O:(#[C.o1,C.o2]:Array Oper)[0]?=some C.o1:=rfl;rcases af c0 cs hm with Z|⟨Z,rfl,rfl⟩
 ·rw[wpOpsS];simp only[O,ai,if_true,W,Z];exact rest _ rfl
 ·rw[wpOpsS];simp only[O,ai,if_true,W,Z];exact rest _ (by subst hm;rfl)
def DEx(P:Program)(N:Nat)(g:FuncId)(args:List AV)(s:St)(K:St→Prop):Prop :=
 ∀φ M0 D a w G,Zo φ M0 N D (look s.T) (look s.H) a w→Qg φ (look s.H) w (MM φ (look s.H) M0) args G→CD P g G.toArray w fun e w' =>
  match e with
 |.returned v=>∃φ' s',K s'∧Zo φ' M0 N D (look s'.T) (look s'.H) a w'∧Q8 φ (look s.H) w φ' (look s'.H) w'
 |_=>False
theorem pQ(ρ:Nat→Nat)(hcall:∀φ M0 w J,ZQ φ (look hc) w M0→Qg φ (look hc) w (MM φ (look hc) M0) args' J→CD P g J.toArray w (Out R φ (look hc) w M0))(G:MW args (VW ρ args'))(hok:KF (look hc) args'=true)(W:∀c∈hc.map (·.1),1000≤c)(U:∀c k,look hc c=some k→okRefB (look hc) k=true)(hsub:∀c k,look hc c=some k→∃k0,look s.H (ρ c)=some k0∧leB k0 (Kq ρ k))(O:∀c∈hc.map (·.1),∀d∈hc.map (·.1),ρ c=ρ d→c=d)(Y:∀r h',R r h'→∃hc' H2,h'=look hc'∧G5 ρ hc hc' s.H∧(∀b,look H2 b=look (KD ρ hc' s.H) b) ∧
   (match r with|.ret x=>K (St.put ⟨s.T,H2⟩ none (WW ρ x))|.panic x=>False)):DEx P N g args s K:=by
 intro φ M0 D a w J r ha;have:=Br (C:=fun _ J w R=>CD P g J w R) (fun _ J w R R' h hq u u' v vl e hr=>(h u u' v vl e hr).mono (fun e Z w' p=>⟨p.1,hq _ _ p.2⟩)) (N:=N) (dst:=none) (K:=K) (Q:=fun _ _=>False) ρ hcall G hok W U hsub O (fun t ht=>by cases ht) Y φ M0 D a w J r ha;intro u u' v vl e hr;refine(this u u' v vl e hr).mono ?_;rintro e Z w' ⟨rfl,he⟩;refine⟨rfl,?_⟩;cases e with
|returned v=>exact he
|panicked c=>obtain⟨_,x,_,hF,_,_,hx⟩:=he;exact hF
|outgrown=>exact he
def sg(L:List (Nat×Nat))(x:Nat):Nat:=(look L x).getD x
def sgI(L:List (Nat×Nat))(x:Nat):Nat:=sg (L.map fun p=>(p.2,p.1)) x
def sgT(L:List (Nat×Nat))(T:List (Nat×AV)):List (Nat×AV):=T.map fun p=>(p.1,WW (sg L) p.2)
def wy(L:List (Nat×Nat))(H:List (Nat×Blk)):List (Nat×Blk):=H.map fun p=>(sg L p.1,Kq (sg L) p.2)
def QdZ(L:List (Nat×Nat))(H:List (Nat×Blk)):Bool:=H.all (fun p=>sgI L (sg L p.1)==p.1)&&L.all (fun p=>Nat.blt p.1 1000&&Nat.ble 1000 p.2&&sg L p.1==p.2&&(match look H p.1 with|some (.box _ _)=>true|_=>false))
def LH(L:List (Nat×Nat)):List AV:=L.map fun p=>.ptr p.2 0
theorem wz(L:List (Nat×Nat)):∀(T:List (Nat×AV)) (t:Nat),look (sgT L T) t=(look T t).map (WW (sg L))
|[],t=>rfl
|(k,v)::T,t=>by
  simp only[sgT,WV,look];by_cases e:k=t
  ·simp[e]
  ·simp only[e,if_false];exact wz L T t
structure LJ(fn:Func)(g:FuncId) where
 r1:Code
 rest:Code
 id:Nat
 o1:Oper
 o2:Oper
 caps:Array Operand
 tbs:List Tmp
 tc:Tmp
 ts:Array TypeId
 hb:fn.body=some (.seq r1 (.seq (.region id #[o1,o2] false) rest))
 hop1:o1.op=.makeFunc (.func g) #[] caps
 hcaps:caps.toList=tbs.map .tmp
 hop2:o2.op=.defer ⟨.value (.tmp tc),#[],ts⟩
 hg1:o1.guard=none
 hg2:o2.guard=none
 hd1:o1.dst=some tc
 hd2:o2.dst=none
 hlt:tc<fn.ntmps
def fG(P:Program)(fn:Func)(hc:List (Nat×Blk))(N:Nat)(g:FuncId)(caps:List AV)(R:Ku→QO→Prop):AX→St→Prop|.ret,s=>DEx P N g (xZ::caps) s (EP P fn hc R)|.normal,s=>DEx P N g (xZ::caps) s (EP P fn hc R)|.panic v,s=>DEx P N g (v::caps) s (EP P fn hc R)|.exit _,_=>False
theorem zO(F:LJ fn g)(L:List (Nat×Nat))(hf:P.funcs[f]?=some fn)(hl:args.length≤fn.ntmps)(bx:Y1 P g=true)(h:Ex P fn.ntmps none F.r1 ⟨Jc 0 args,hc⟩ (fun x s=>x=.normal∧F.tbs.map (look s.T)=L.map (fun p=>some (.ptr p.1 0))∧QdZ L s.H=true∧(∀c k x,look s.H c=some k→k.ob=some x→(some x).map (xY (sg L))=some x) ∧
   Ex P fn.ntmps none F.rest ⟨(F.tc,.fn (.func g) [] (LH L))::sgT L s.T,wy L s.H⟩ (fG P fn hc fn.ntmps g (LH L) R))):YV P f args (look hc) R:=by
 intro φ M0 w vs hH ha;refine M4 hf F.hb ?_;refine wpIn_seq (wpIn_mono (h φ M0 _ _ w (Py hH ha hl)) ?_);rintro e a1 w1 ⟨W,k,s,⟨rfl,be,bm,bk,ao⟩,r1,E1,U⟩;simp only[XF] at U;subst U;show Code.wpIn (wd none) 0 P (.seq (.region F.id #[F.o1,F.o2] false) F.rest) _ a1 w1;simp only[QdZ,Z8,X5,beq_iff_eq] at bm;obtain⟨bo,ad⟩:=bm
 have hL:∀p∈L,p.1<1000∧1000≤p.2∧∃ty cs,look s.H p.1=some (.box ty cs):=by
  intro p hp;have:=ad p hp;obtain⟨⟨⟨g1,g2⟩,_⟩,g3⟩:=this;refine⟨by simpa [Nat.blt_eq] using g1,Nat.le_of_ble_eq_true g2,?_⟩;split at g3
  ·rename_i ty cs he;exact⟨ty,cs,he⟩
  ·cases g3
 let ps:Array Value:=F.caps.map a1.eval
 have bv:ps.toList=F.tbs.map fun t=>a1.eval (.tmp t):=by simp[ps,F.hcaps,Function.comp_def]
 have bi:ps.toList=L.map fun p=>.pointer (some ⟨W p.1,0,none⟩):=by
  rw[bv]
  have:∀(ts:List Tmp) (L:List (Nat×Nat)),ts.map (look s.T)=L.map (fun p=>some (.ptr p.1 0))→ts.map (fun t=>a1.eval (.tmp t))=L.map fun p=>.pointer (some ⟨W p.1,0,none⟩):=by
   intro ts
   induction ts with
  |nil=>intro L hh;cases L with
   |nil=>rfl
   |cons p L=>cases hh
  |cons t ts ih=>intro L hh;cases L with
   |nil=>cases hh
   |cons p L =>
     simp only[WV,List.cons.injEq] at hh ⊢;refine⟨?_,ih L hh.2⟩;have:=(r1.tm t _ hh.1).2;simp only[Qe] at this;exact this.1
  exact this _ _ be
 let d:Deferred:={ target:=.fn (.func g) ps,args:=#[] }
 let a2:Act:={ tmps:=a1.tmps.setIfInBounds F.tc (.func (.func g) #[] ps),defers:=d::a1.defers }
 have ce:∀Q,Code.wpIn (wd none) 0 P F.rest Q a2 w1→Code.wpIn (wd none) 0 P (.seq (.region F.id #[F.o1,F.o2] false) F.rest) Q a1 w1:=by
  intro Q hq;refine wpIn_seq (wpIn_region ?_);have al:List.range (#[F.o1,F.o2]:Array Oper).size=[0,1]:=rfl;rw[al];have a6:(#[F.o1,F.o2]:Array Oper)[0]?=some F.o1:=rfl;have ax:(#[F.o1,F.o2]:Array Oper)[1]?=some F.o2:=rfl;have b1:∀y,Region.wanted F.o1 y=true:=fun y=>by simp[Region.wanted,F.hg1]
  have b9:∀y,Region.wanted F.o2 y=true:=fun y=>by simp[Region.wanted,F.hg2]
  have ba:(execOp a1.eval F.o1).run P w1=.ok (.value (.func (.func g) #[] ps)) w1:=by simp[execOp,F.hop1,Instr.makeFunc,ps]
  have b3:(a1.put F.o1.dst (.func (.func g) #[] ps)).eval (.tmp F.tc)=.func (.func g) #[] ps:=by
   have h0:F.tc<a1.tmps.size:=by rw[r1.siz];exact F.hlt
   simp[Act.put,F.hd1,Act.eval,h0]
  have a8:(execOp (a1.put F.o1.dst (.func (.func g) #[] ps)).eval F.o2).run P w1=.ok (.defer d) w1:=by
   simp[execOp,F.hop2,resolve,b3,Deferred.ofValue,d]
  simp only[wpOpsIn,a6,ax,b1,b9,if_true];refine⟨fun _ _=>trivial,?_⟩;show Oper.uponIn _ _ _ _ _ _ _ (Sem.run P (execOp a1.eval F.o1) w1);rw[ba];refine⟨fun _ _=>trivial,?_⟩;show Oper.uponIn _ _ _ _ _ _ _ (Sem.run P (execOp (a1.put F.o1.dst (.func (.func g) #[] ps)).eval F.o2) w1);rw[a8];show Code.wpIn (wd none) 0 P F.rest Q _ w1
  have:({ (a1.put F.o1.dst (.func (.func g) #[] ps)) with defers:=d::(a1.put F.o1.dst (.func (.func g) #[] ps)).defers }:Act).put F.o2.dst undef=a2:=by
   simp[Act.put,F.hd1,F.hd2,a2]
  rw[this];exact hq
 refine ce _ ?_
 have af:∀c∈s.H.map (·.1),sgI L (sg L c)=c:=by
  intro c hc;obtain⟨p,hp,rfl⟩:=List.mem_map.1 hc;exact bo p hp
 have au:∀c,1000≤c→sg L c=c:=by
  intro c hc;unfold sg;cases hq:look L c with
 |none=>rfl
 |some d =>
   have:c∈L.map (·.1):=YA.1 (by rw[hq];simp);obtain⟨p,hp,rfl⟩:=List.mem_map.1 this;have:=(hL p hp).1;omega
 let O:Nat→Nat:=fun x=>W (sgI L x)
 have G:∀c,look s.H c≠none→O (sg L c)=W c:=fun c hc=>by simp only[O];rw[af c (YA.1 hc)]
 have az:∀c d,c∈s.H.map (·.1)→d∈s.H.map (·.1)→sg L c=sg L d→c=d:=fun c d hc hd he=>by rw[←af c hc,he,af d hd]
 have Z:∀c k,look s.H c=some k→look (wy L s.H) (sg L c)=some (Kq (sg L) k):=by
  intro c k hk;have cg:c∈s.H.map (·.1):=YA.1 (by rw[hk];simp);unfold wy;rw[Ig (fun x y U hy cf=>az x y U (by rcases List.mem_cons.1 hy with rfl|hy;exact cg;exact hy) cf),hk];rfl
 have Y:∀x k,look (wy L s.H) x=some k→∃c k',look s.H c=some k'∧sg L c=x∧k=Kq (sg L) k':=by
  intro x k U;have:x∈(wy L s.H).map (·.1):=YA.1 (by rw[U];simp);simp only[wy,List.map_map,List.mem_map,Function.comp] at this;obtain⟨q,hq,rfl⟩:=this;have cd:q.1∈s.H.map (·.1):=List.mem_map_of_mem hq;obtain⟨k',bf⟩:=EM.1 (YA.2 cd);rw[Z q.1 k' bf] at U;exact⟨q.1,k',bf,rfl,(Option.some.inj U).symm⟩
 have am:∀x o,R4 O (look (wy L s.H)) x o→R4 W (look s.H) x o:=by
  rintro x o ⟨y,k,g1,g2,g3⟩;obtain⟨c,k',g4,rfl,rfl⟩:=Y y k g1;refine⟨c,k',g4,?_,?_⟩
  ·rw[←G c (by rw[g4];simp)];exact g2
  ·cases k'<;>exact g3
 have hM:∀x o,MM O (look (wy L s.H)) M0 x o→MM W (look s.H) M0 x o:=fun x o U=>U.elim (fun h=>.inl (am x o h)) .inr
 obtain⟨o1,o2⟩:=Qbo (w:=w1) (ρ:=sg L) (φ:=O) (φc:=W) (h:=look (wy L s.H)) (hc:=look s.H) G hM Z
 have b2:ZQ O (look (wy L s.H)) w1 M0:=by
  refine⟨fun x y U hy he=>?_,fun x k U=>?_,fun x U o hm=>?_,r1.hp.lt,r1.hp.gm.sub hM⟩
  ·obtain⟨kx,aw⟩:=EM.1 U;obtain⟨ky,b5⟩:=EM.1 hy;obtain⟨c,k1,g1,rfl,_⟩:=Y x kx aw;obtain⟨c',k2,g2,rfl,_⟩:=Y y ky b5;rw[G c (by rw[g1];simp),G c' (by rw[g2];simp)] at he;rw[r1.hp.inj c c' (by rw[g1];simp) (by rw[g2];simp) he]
  ·obtain⟨c,k',g1,rfl,rfl⟩:=Y x k U;rw[G c (by rw[g1];simp)];have:=r1.hp.blk c k' g1;cases k' with
  |box ty cs=>obtain⟨c0,q1,q2⟩:=this;exact⟨c0,q1,o2 _ _ q2⟩
  |arr ty S n=>exact this
  |vec ty S es=>obtain⟨c0,cap,q1,q2,q3,q4,q5,q6,q7⟩:=this;exact⟨c0,cap,q1,q2,q3,q4,q5,q6,M8 hM _ _ q7⟩
  |lp T nf st pd =>
    obtain⟨tmps,d,q1,q2,q3⟩:=this;refine⟨tmps,d,q1,q2,fun t x ht=>?_⟩;rw[DY] at ht;cases hl:look T t with
   |none=>rw[hl] at ht;cases ht
   |some y =>
     rw[hl] at ht;cases ht;exact⟨(q3 t y hl).1,o1 _ _ (q3 t y hl).2⟩
  |mp es =>
    obtain⟨en,cl,q1,q2,q3⟩:=this;refine⟨en,cl,q1,q2,?_⟩;have:=o2 _ _ q3;rw[zK] at this;exact this
  |mf es =>
    obtain⟨en,cl,q1,q2,q3,q4⟩:=this;exact⟨en,cl,q1,by rw[FW];exact q2,by rw[FU];exact o2 _ _ q3,q4⟩
  |mg en cl es =>
    obtain⟨q1,q2,q3,q4⟩:=this;exact⟨q1,by rw[FW];exact q2,by rw[FU];exact o2 _ _ q3,q4⟩
  |it m cl sn =>
    obtain⟨q1,k2,q2,q3⟩:=this;exact⟨by rw[G m (by rw[q2];simp)];exact q1,_,Z m _ q2,by rw[J4,q3];rfl⟩
  ·obtain⟨kx,aw⟩:=EM.1 U;obtain⟨c,k1,g1,rfl,_⟩:=Y x kx aw;rw[G c (by rw[g1];simp)] at hm;exact r1.hp.fr c (by rw[g1];simp) o hm
 have bl:Q8 W (look s.H) w1 O (look (wy L s.H)) w1:=by
  have aa:∀c k,1000≤c→look s.H c=some k→look (wy L s.H) c=some (Kq (sg L) k)∧O c=W c:=by
   intro c k hc ac;have h1:=Z c _ ac;have h2:=G c (by rw[ac];simp);rw[au c hc] at h1 h2;exact⟨h1,h2⟩
  refine⟨rfl,rfl,rfl,Kz _,fun _ _ _=>rfl,fun _ _ _ _=>rfl,fun x o _ hm=>am x o hm,?_,?_,?_,?_⟩
  ·intro c ty cs hc ac;obtain⟨h1,h2⟩:=aa c _ hc ac;exact⟨⟨VW (sg L) cs,h1⟩,h2⟩
  ·intro t ty S n ht bb;obtain⟨h1,h2⟩:=aa t _ ht bb;exact⟨n,h1,Kz _,fun _=>Yy (h2) rfl⟩
  ·intro t ty S n ht bb;obtain⟨h1,h2⟩:=aa t _ ht bb;exact⟨n,h1,Kz _,fun _=>⟨h2,fun c hc=>⟨c,hc,rfl⟩⟩⟩
  ·intro c k x hc ac ho;obtain⟨h1,h2⟩:=aa c _ hc ac;exact⟨⟨_,h1,by rw[J4,ho];exact bk c k x ac ho⟩,h2⟩
 have ai:(L.map fun p=>AV.ptr (sg L p.1) 0)=LH L:=List.map_congr_left fun p hp=>by rw[(ad p hp).1.2]
 have ae:∀p∈L,∃ty cs,look (wy L s.H) (sg L p.1)=some (.box ty cs):=by
  intro p hp;obtain⟨_,_,ty,cs,hb⟩:=hL p hp;exact⟨ty,VW (sg L) cs,Z _ _ hb⟩
 have r2:Zo O M0 fn.ntmps ⟨d::a1.defers,w1.heap.size⟩ (look ((F.tc,.fn (.func g) [] (L.map fun p=>.ptr (sg L p.1) 0))::sgT L s.T)) (look (wy L s.H)) a2 w1:=by
  refine⟨⟨Kz _,[],rfl,List.nodup_nil,fun r hr=>by cases hr⟩,by simp[a2,r1.siz],b2,fun t x ht=>?_⟩;simp only[look] at ht;by_cases e:F.tc=t
  ·simp only[e,if_true,Q0] at ht;subst ht;refine⟨e▸F.hlt,?_⟩;have h0:t<a1.tmps.size:=by rw[r1.siz];exact e▸F.hlt
   have:a2.tmps.getD t undef=.func (.func g) #[] ps:=by simp[a2,e,h0]
   rw[this];simp only[Qe,Qg];refine⟨[],ps.toList,by simp,rfl,?_⟩;rw[bi]
   have:∀l:List (Nat×Nat),(∀p∈l,p∈L)→Qg O (look (wy L s.H)) w1 (MM O (look (wy L s.H)) M0) (l.map fun p=>.ptr (sg L p.1) 0) (l.map fun p=>.pointer (some ⟨W p.1,0,none⟩)):=by
    intro l
    induction l with
   |nil=>intro _;simp[Qg]
   |cons p l ih =>
     intro hh;simp only[WV,Qg];refine⟨_,_,rfl,?_,ih fun q hq=>hh q (by simp[hq])⟩;simp only[Qe];obtain⟨_,_,ty,cs,hb⟩:=hL p (hh p zq);exact⟨by rw[G p.1 (by rw[hb];simp)],ae p (hh p zq)⟩
   exact this L fun p hp=>hp
  ·simp only[e,if_false] at ht;rw[wz] at ht;cases hq:look s.T t with
  |none=>rw[hq] at ht;cases ht
  |some y =>
    rw[hq] at ht;simp only[Option.map_some,Q0] at ht;subst ht;obtain⟨g1,g2⟩:=r1.tm t y hq;refine⟨g1,?_⟩;have:a2.tmps.getD t undef=a1.tmps.getD t undef:=by simp[a2,Array.getElem?_setIfInBounds_ne e]
    rw[this];exact o1 _ _ g2
 rw[ai] at r2;refine wpIn_mono (ao O M0 _ a2 w1 r2) ?_;rintro e a3 w3 ⟨J,k,s3,hq,r3,E3,U⟩;have bn:=(E1.trans bl).trans E3
 have ay:∀w,(invoke (.fn (.func g) ps) #[]).run P w=.ok (.enter g ps) w:=fun w=>by
  simp only[invoke];rw[XH bx];simp
 obtain⟨b7,ms,hd,b6,aj⟩:=r3.dfs;have ak:∀r∈ms,w3.heap[r]?=some (.deferred (some []))∧∀b,look s3.H b≠none→J b≠r:=fun r hr=>(aj r hr).2
 have a7:∀ab:List Nat,a1.defers=(ab.map fun r=>({ target:=.collected r,args:=#[] }:Deferred))→∀r∈ab,r<w1.heap.size:=by
  intro ab h1 r hr;obtain⟨_,b4,h2,_,h3⟩:=r1.dfs
  have e:ab=b4:=by
   rw[h1] at h2;simp only[List.append_nil] at h2;exact PD h2
  rw[e] at hr;exact(FL.1 (h3 r hr).2.1).1
 have bz:Marks J ⟨[],w.heap.size⟩ (look s3.H) a1 w3:=(r1.dfs.keep bl).keep E3
 have ar:Qg J (look s3.H) w3 (MM J (look s3.H) M0) (LH L) ps.toList:=by
  rw[bi]
  have:∀l:List (Nat×Nat),(∀p∈l,p∈L)→Qg J (look s3.H) w3 (MM J (look s3.H) M0) (LH l) (l.map fun p=>.pointer (some ⟨W p.1,0,none⟩)):=by
   intro l
   induction l with
  |nil=>intro _;simp[LH,Qg]
  |cons p l ih =>
    intro hh;have hp:=hh p zq;simp only[LH,WV,Qg];refine⟨_,_,rfl,?_,ih fun q hq=>hh q (by simp[hq])⟩;simp only[Qe];obtain⟨_,av,ty,cs,hb⟩:=hL p hp;obtain⟨VG,ch,bt⟩:=ae p hp;rw[(ad p hp).1.2] at bt;obtain⟨⟨bu,bw⟩,bd⟩:=E3.kb p.2 VG _ av bt;refine⟨?_,VG,bu,bw⟩;rw[bd,←(ad p hp).1.2,G p.1 (by rw[hb];simp)]
  exact this L fun p hp=>hp
 have go:∀(u u':FrameMode) (rv:AV),u≠.run→settle u'=.returning→DEx P fn.ntmps g (rv::LH L) s3 (EP P fn hc R) →
   (∀w',Hm ms w3 w'→∃v,Qe J (look s3.H) w' (MM J (look s3.H) M0) rv v∧QcU u u' v) →
   J3 P fn a3.tmps (Out R φ (look hc) w M0) a3.defers u w3:=by
  intro u u' rv hu bc hcall bj;rw[hd];refine M5 hu _ ms w3 b6 (fun r hr=>(aj r hr).2.1) fun w4 t=>?_
  have r4:=r3.turned t ak;have E4:=bn.turned t (fun r hr=>Nat.le_trans E1.size (aj r hr).1) ak;obtain⟨v,hv,hm⟩:=bj w4 t
  have aq:Qg J (look s3.H) w4 (MM J (look s3.H) M0) (rv::LH L) (v::ps.toList):=by
   simp only[Qg];refine⟨v,ps.toList,rfl,hv,?_⟩
   have:∀(xs:List AV) (l:List Value),Qg J (look s3.H) w3 (MM J (look s3.H) M0) xs l→Qg J (look s3.H) w4 (MM J (look s3.H) M0) xs l:=by
    intro xs
    induction xs with
   |nil=>intro l hl;simpa [Qg] using hl
   |cons x xs ih =>
     intro l hl;simp only[Qg] at hl ⊢;obtain⟨y,ys,rfl,h1,h2⟩:=hl;exact⟨y,ys,rfl,TU t ak _ _ h1,ih _ h2⟩
   exact this _ _ ar
  have br:=hcall J M0 _ _ w4 (v::ps.toList) r4 aq u u' v ps.toList rfl hm;rw[Array.toArray_toList] at br;refine⟨hu,.inr ⟨.func g,ps,g,ps,rfl,ay w4,br.mono ?_⟩⟩;rintro e b8 w5 ⟨rfl,he⟩;cases e with
 |panicked c=>exact he.elim
 |outgrown=>exact he.elim
 |returned x =>
  obtain⟨bp,s5,g1,g2,g3⟩:=he;show J3 P fn a3.tmps (Out R φ (look hc) w M0) a1.defers (settle b8) w5;rw[bc];obtain⟨_,ab,hd1,bh,an⟩:=bz;have bg:a1.defers=(ab.map fun r=>({ target:=.collected r,args:=#[] }:Deferred))++[]:=hd1
  have ah:∀r∈ab,w5.heap[r]?=some (.deferred (some []))∧∀b,look s5.H b≠none→bp b≠r:=by
   intro r hr;have h3:=an r hr
   have bq:r∉ms:=fun U=>by
    have h6:w1.heap.size≤r:=(aj r U).1;have h7:=a7 ab (by simpa using hd1) r hr;omega
   have h4:w4.heap[r]?=some (.deferred (some [])):=by rw[t.same r bq];exact h3.2.1
   have hlt:r<w4.heap.size:=(FL.1 h4).1;refine⟨(g3.same r hlt h3.2.2).trans h4,fun b hb e=>?_⟩;cases hk:look s5.H b with
  |none=>exact hb hk
  |some k =>
    obtain⟨o,ho⟩:=ME (φ:=bp) hk;rw[e] at ho;obtain⟨b0,k0,cc,ca,_⟩:=g3.mu r o hlt ho;exact h3.2.2 b0 (by rw[cc];simp) ca
  rw[bg];refine M5 zq _ ab w5 bh (fun r hr=>(ah r hr).1) fun w6 t6=>?_
  have r6:=g2.turned t6 ah;have E6:=(E4.trans g3).turned t6 (fun r hr=>(an r hr).1) ah;obtain⟨y,q1,q2⟩:=Ih r6 E6 g1;exact⟨y,q1,q2⟩
 cases k with
|normal =>
  simp only[XF] at U;subst U;exact go .returning .returning xZ zq rfl hq fun w' t=>⟨.nilIface,by simp[xZ,Qe,QM],fun c0 cs hm=>.inr ⟨by simp[recoverD,hm],rfl,rfl⟩⟩
|ret =>
  simp only[XF] at U;subst U;exact go .returning .returning xZ zq rfl hq fun w' t=>⟨.nilIface,by simp[xZ,Qe,QM],fun c0 cs hm=>.inr ⟨by simp[recoverD,hm],rfl,rfl⟩⟩
|exit i=>exact hq.elim
|panic x =>
  obtain⟨v,rfl,hv⟩:=U;refine go (.panicking [{ v:=v,recovered:=false }]) (.panicking [{ v:=v,recovered:=true }]) x zq rfl hq fun w' t=>⟨v,?_,fun c0 cs hm=>.inl (by simp[recoverD,hm])⟩
  exact TU t ak _ _ hv
theorem Qc{a b:α}(h:a=b:=by kernel_rfl):a=b:=h
theorem QP{f g:α→β}(h:∀x,f x=g x:=by intro _;kernel_rfl):∀x,f x=g x:=h
def Yj(cs:List PV):List AV:=cs.map .p
def ag(cs:List PV):AV:=.agg (cs.map .p)
inductive Conv where
|id
|sl (S:Nat)
|vn
|agg (l:List Conv)
mutual
def cv:Conv→AV→AV|.sl _,.tsl S es _=>.p (.sl S es)|.sl S,.p (.val (.slice none 0 0))=>.p (.sl S [])|.vn,.p (.val (.slice none 0 0))=>.vnil|.sl S,.vnil=>.p (.sl S [])|.agg cs,.agg xs=>.agg (ER cs xs)|.agg cs,.tup xs=>.tup (ER cs xs)|_,x=>x
def ER:List Conv→List AV→List AV|_,[]=>[]|[],x::xs=>x::xs|c::cs,x::xs=>cv c x::ER cs xs
end
theorem eH:∀n:Nat,(∀(x:AV),SizeOf.sizeOf x≤n→∀c,le x (cv c x))∧(∀(xs:List AV),SizeOf.sizeOf xs≤n→∀cs,MW xs (ER cs xs)):=by
 intro n
 induction n with
|zero =>
  refine⟨fun x G=>?_,fun es G=>?_⟩
  ·cases x<;>simp at G
  ·cases es<;>simp at G
|succ n J =>
  obtain⟨O,i2⟩:=J;refine⟨fun x G c=>?_,fun xs G cs=>?_⟩
  ·unfold cv;split
   ·simp[le]
   ·simp[le]
   ·simp[le]
   ·simp[le]
   ·rename_i cs xs;simp only[le];simp at G;exact⟨_,rfl,i2 xs zo cs⟩
   ·rename_i cs xs;simp only[le];simp at G;exact⟨_,rfl,i2 xs zo cs⟩
   ·exact le_refl x
  ·cases xs with
  |nil=>simp[ER,MW]
  |cons x xs =>
    simp at G;cases cs with
   |nil=>simp only[ER];exact vY _
   |cons c cs=>simp only[ER,MW];exact⟨_,_,rfl,O x zo c,i2 xs zo cs⟩
theorem wB(c:Conv)(x:AV):le x (cv c x):=(eH (SizeOf.sizeOf x)).1 x (Kz _) c
theorem XK(cs:List Conv)(xs:List AV):MW xs (ER cs xs):=(eH (SizeOf.sizeOf xs)).2 xs (Kz _) cs
def Qd0(C:List (Nat×Conv))(t:Nat):Conv:=(look C t).getD .id
def Il(C:List (Nat×Conv))(T:List (Nat×AV)):List Nat→List (Nat×AV)
|[]=>[]
|t::L=>match look T t with|some x=>(t,cv (Qd0 C t) x)::Il C T L|none=>Il C T L
def cvB(cs:List Conv):Blk→Blk|.box ty xs=>.box ty (ER cs xs)|k=>k
def Yu(C:List (Nat×List Conv))(H:List (Nat×Blk)):List Nat→List (Nat×Blk)
|[]=>[]
|b::L=>match look H b with|some k=>(b,cvB ((look C b).getD []) k)::Yu C H L|none=>Yu C H L
structure HZ where
 ts:List Nat
 bs:List Nat
 ct:List (Nat×Conv):=[]
 cb:List (Nat×List Conv):=[]
def shr(K:HZ)(s:St):St:=⟨Il K.ct s.T K.ts,Yu K.cb s.H K.bs⟩
def okT(h:QO):List (Nat×AV)→Bool|[]=>true|(_,x)::l=>Kr h x&&okT h l
def dU(h:QO):List (Nat×Blk)→Bool|[]=>true|(_,k)::l=>okRefB h k&&dU h l
def eO(s s':St):Bool:=okT (look s'.H) s'.T&&dU (look s'.H) s'.H&&Yh (look s'.H) s.H
def G6(K:HZ)(s:St):Option St:=if eO s (shr K s) then some (shr K s) else none
theorem eP(cs:List Conv)(k:Blk):leB k (cvB cs k):=by
 cases k with
|box ty xs=>exact⟨_,rfl,XK cs xs⟩
|arr ty S n=>rfl
|vec ty S es=>rfl
|lp T nf st pd=>rfl
|mp es=>rfl
|mf es=>rfl
|mg en G es=>rfl
|it m G sn=>rfl
theorem Gu{T:List (Nat×AV)}{h':QO}{C:List (Nat×Conv)}:∀{L:List Nat},okT h' (Il C T L)=true→Ie (look T) h' (Il C T L)
|[],_=>by simp[Il,Ie]
|t::L,h=>by
  simp only[Il] at h ⊢;cases ht:look T t with
 |none=>simp only[ht] at h ⊢;exact Gu h
 |some x =>
   simp only[ht,okT,Z8] at h ⊢;simp only[Ie,ht,leO];exact⟨wB _ _,h.1,Gu h.2⟩
theorem Vh{H:List (Nat×Blk)}{h':QO}{C:List (Nat×List Conv)}:∀{L:List Nat},dU h' (Yu C H L)=true→Cf (look H) h' (Yu C H L)
|[],_=>by simp[Yu,Cf]
|b::L,h=>by
  simp only[Yu] at h ⊢;cases hb:look H b with
 |none=>simp only[hb] at h ⊢;exact Vh h
 |some k =>
   simp only[hb,dU,Z8] at h ⊢;simp only[Cf,hb,QdV];exact⟨eP _ _,h.1,Vh h.2⟩
theorem Qbv{K:HZ}(h:G6 K s=some s')(r:Zo φ M0 N D (look s.T) (look s.H) a w):Zo φ M0 N D (look s'.T) (look s'.H) a w∧Q8 φ (look s.H) w φ (look s'.H) w:=by
 unfold G6 at h;split at h
 ·rename_i hok;simp only[Q0] at h;subst h;simp only[eO,Z8] at hok;exact vZ (Gu hok.1.1) (Vh hok.1.2) hok.2 r
 ·cases h
theorem XL{K:HZ}(h:G6 K s=some s'):Weak N s s':=by
 unfold G6 at h;split at h
 ·rename_i hok;simp only[Q0] at h;subst h;simp only[eO,Z8] at hok;exact l5 (Gu hok.1.1) (Vh hok.1.2) hok.2
 ·cases h
structure Q4{R:Type}(o:Option R)(P:Program)(N:Nat)(ro:Option Nat)(c:Code)(s:St)(Q:R→AX→St→Prop):Prop where
 intro ::
 h:∀r,o=some r→Ex P N ro c s (Q r)
structure ZI{R:Type}(o:Option R)(Q:R→AX→St→Prop)(x:AX)(s:St):Prop where
 intro ::
 h:∀r,o=some r→Q r x s
def OH{R:Type}(P:Program)(N:Nat)(ro:Option Nat)(y:Code)(Q:R→AX→St→Prop):R→AX→St→Prop:=fun r=>andThen (fun s'=>Ex P N ro y s' (Q r)) (Q r)
def wC{R:Type}(id:Nat)(Q:R→AX→St→Prop):R→AX→St→Prop:=fun r=>inBlock id (Q r)
def kQ{V R:Type}(N:Nat)(k:V→Option R)(S:V→St)(Q:R→AX→St→Prop):R→AX→St→Prop:=fun r=>andThen (fun s'=>∃v,k v=some r∧Weak N s' (S v)) (Q r)
def eQ{V:Type}(N:Nat)(S:V→St):V→AX→St→Prop:=fun v x s'=>x=.normal∧Weak N s' (S v)
section
variable {R V:Type}{o o1 o2:Option R}{P:Program}{N:Nat}{ro:Option Nat}{x y c:Code}{s s':St}{Q:R→AX→St→Prop}
theorem sS(h:Q4 o P N ro x s (OH P N ro y Q)):Q4 o P N ro (.seq x y) s Q:=⟨fun r G=>zk (h.h r G)⟩
theorem sK(h:ZI o Q .normal s):Q4 o P N ro .skip s Q:=⟨fun r G=>Qa4 (h.h r G)⟩
theorem pR{l:Nat}(h:ZI o Q .normal s):Q4 o P N ro (.label l) s Q:=⟨fun r G=>lc (h.h r G)⟩
theorem sT(h:ZI o Q .ret s):Q4 o P N ro .ret s Q:=⟨fun r G=>QdO (h.h r G)⟩
theorem Qu(h:ZI o Q (.exit id) s):Q4 o P N ro (.exit id) s Q:=⟨fun r G=>Qa5 (h.h r G)⟩
theorem sB(h:Q4 o P N ro c s (wC id Q)):Q4 o P N ro (.block id c) s Q:=⟨fun r G=>lg (h.h r G)⟩
theorem pU(h:Q4 o P N ro c s Q):Q4 o P N ro (.scope c) s Q:=⟨fun r G=>lh (h.h r G)⟩
theorem Zr(hw:Weak N s s')(h:Q4 o P N ro c s' Q):Q4 o P N ro c s Q:=⟨fun r G=>FN hw (h.h r G)⟩
theorem sP(K:HZ)(s':St)(hw:G6 K s=some s')(h:Q4 o P N ro c s' Q):Q4 o P N ro c s Q:=⟨fun r G=>FN (XL hw) (h.h r G)⟩
theorem sC{a:Operand}(b:Bool)(J:Q4 o1 P N ro x s Q)(O:Q4 o2 P N ro y s Q)(hb:Zp (look s.T) a=some (.p (.val (.bool b))):=by kernel_rfl):Q4 (cond b o1 o2) P N ro (.cond a x y) s Q:=by
 refine⟨fun r G=>?_⟩;refine zl b hb (fun e=>?_) (fun e=>?_)
 ·subst e;exact J.h r G
 ·subst e;exact O.h r G
theorem Q7{a:Operand}(J:Q4 o P N ro x s Q)(hb:Zp (look s.T) a=some (.p (.val (.bool true))):=by kernel_rfl):Q4 o P N ro (.cond a x y) s Q:=⟨fun r G=>zl true hb (fun _=>J.h r G) (fun e=>by cases e)⟩
theorem QU{a:Operand}(J:Q4 o P N ro y s Q)(hb:Zp (look s.T) a=some (.p (.val (.bool false))):=by kernel_rfl):Q4 o P N ro (.cond a x y) s Q:=⟨fun r G=>zl false hb (fun e=>by cases e) (fun _=>J.h r G)⟩
theorem sN(K:HZ)(s':St)(hw:G6 K s=some s')(h:Q4 o P N ro y s' Q):ZI o (OH P N ro y Q) .normal s:=⟨fun r G=>(sP (Q:=Q) K s' hw h).h r G⟩
theorem QT(h:ZI o Q .ret s):ZI o (OH P N ro y Q) .ret s:=⟨fun r G=>h.h r G⟩
theorem Ko(h:ZI o Q (.exit i) s):ZI o (OH P N ro y Q) (.exit i) s:=⟨fun r G=>h.h r G⟩
theorem KG(h:ZI o Q (.panic p) s):ZI o (OH P N ro y Q) (.panic p) s:=⟨fun r G=>h.h r G⟩
theorem Q5(h:ZI o Q .normal s):ZI o (wC id Q) .normal s:=⟨fun r G=>h.h r G⟩
theorem Zd(h:ZI o Q .ret s):ZI o (wC id Q) .ret s:=⟨fun r G=>h.h r G⟩
theorem Ze(h:ZI o Q (.panic p) s):ZI o (wC id Q) (.panic p) s:=⟨fun r G=>h.h r G⟩
theorem QX(h:ZI o Q .normal s):ZI o (wC id Q) (.exit id) s:=by
 refine⟨fun r G=>?_⟩;have:=h.h r G;simp only[wC,inBlock,if_true];exact this
theorem Sr(hi:(i==id)=false)(h:ZI o Q (.exit i) s):ZI o (wC id Q) (.exit i) s:=by
 refine⟨fun r G=>?_⟩;have:=h.h r G;have hne:¬i=id:=by simpa using hi
 simp only[wC,inBlock,hne,if_false];exact this
theorem QfF{k:V→Option R}{S:V→St}(v:V)(K:HZ)(hw:G6 K s=some (S v)):ZI (k v) (kQ N k S Q) .normal s:=⟨fun r G=>⟨v,G,XL hw⟩⟩
theorem Vg{k:V→Option R}{S:V→St}(h:ZI o Q .ret s):ZI o (kQ N k S Q) .ret s:=⟨fun r G=>h.h r G⟩
theorem Y2{k:V→Option R}{S:V→St}(h:ZI o Q (.exit i) s):ZI o (kQ N k S Q) (.exit i) s:=⟨fun r G=>h.h r G⟩
theorem Zi{k:V→Option R}{S:V→St}(h:ZI o Q (.panic p) s):ZI o (kQ N k S Q) (.panic p) s:=⟨fun r G=>h.h r G⟩
theorem eT{S:V→St}(v:V)(K:HZ)(hw:G6 K s=some (S v)):ZI (some v) (eQ N S) .normal s:=⟨fun r G=>by cases G;exact⟨rfl,XL hw⟩⟩
theorem QhB{S:V→St}(v:V)(hw:Weak N s (S v)):ZI (some v) (eQ N S) .normal s:=⟨fun r G=>by cases G;exact⟨rfl,hw⟩⟩
theorem Ye(S:V→St)(k:V→Option R)(O:∀v,Q4 (k v) P N ro y (S v) Q)(W:Q4 o P N ro x s (kQ N k S Q)):Q4 o P N ro (.seq x y) s Q:=by
 refine⟨fun r U=>?_⟩;refine zk (Sl (W.h r U) ?_);intro e s' G;cases e with
|normal=>obtain⟨v,J,hw⟩:=G;exact FN hw ((O v).h r J)
|exit i=>exact G
|ret=>exact G
|panic p=>exact G
theorem Yw(S:V→St){m:Option V}{k:V→Option R}(W:Q4 m P N ro x s (eQ N S))(J:∀v,Q4 (k v) P N ro y (S v) Q):Q4 (m.bind k) P N ro (.seq x y) s Q:=by
 refine⟨fun r U=>?_⟩;obtain⟨v,G,O⟩:=NS.1 U;refine zk (Sl (W.h v G) ?_);rintro e s' ⟨rfl,hw⟩;exact FN hw ((J v).h r O)
end
def QB{V R:Type}(B:(V→Option R)→V→Option R):Nat→V→Option R|0,_=>none|k+1,v=>B (QB B k) v
theorem QQ{R V:Type}{Q:R→AX→St→Prop}(S:V→St){B:(V→Option R)→V→Option R}{v0:V}(hw:Weak N s (S v0))(Y:∀rec v,Q4 (B rec v) P N ro c (S v) (kQ N rec S Q)):Q4 (QB B n v0) P N ro (.loop c) s Q:=by
 refine⟨fun r W=>?_⟩;refine FN hw (gL (ι:={ p:Nat×V // QB B p.1 p.2=some r }) (fun p=>S p.1.2) (fun p=>p.1.1) ⟨(n,v0),W⟩ ?_);rintro⟨⟨k,v⟩,U⟩;cases k with
|zero=>cases U
|succ k =>
  refine Sl ((Y (QB B k) v).h r U) ?_;intro e s' G;cases e with
 |normal=>obtain⟨v',J,O⟩:=G;exact⟨⟨(k,v'),J⟩,by simp,O⟩
 |exit i=>exact G
 |ret=>exact G
 |panic p=>exact G
def plain:Op→Bool|.pick _ _ _=>false|.panic _=>false|.call ⟨.value _,_,_⟩=>false|_=>true
theorem CQ{op:Op}(h:plain op=true):yieldOf T op=none:=by
 unfold yieldOf;split
 ·simp[plain] at h
 ·rfl
def XR(P:Program)(N:Nat)(ops:Array Oper)(Q:AX→St→Prop)(d:Option (List Yz))(l:List Oper)(s:St):Prop :=
 match d with
|none=>Yg P N ops Q l s
|some acc=>KT P N ops Q l acc s
def Io(u:KL):Yz:=(u.2.1.map (·.1),u.2.2)
def more(d:Option (List Yz))(f:Yz):Option (List Yz):=d.map (f::·)
def nxt(ops:Array Oper)(o:Oper)(s:St)(u:KL):St:=JH ⟨Zm ops o s.T true,s.H⟩ o.dst u
def mk(ops:Array Oper)(o:Oper)(s:St)(b:Bool):St:=⟨Zm ops o s.T b,s.H⟩
section
variable {P:Program}{N:Nat}{ops:Array Oper}{o:Oper}{l:List Oper}{d:Option (List Yz)}{s:St}{Q:AX→St→Prop}
theorem DZ(hw:ZH ops o (look s.T)=some true)(hp:plain o.op=true){u:KL}(hu:Jb P o (look (Zm ops o s.T true)) (look s.H)=some u)(J:KA N o.dst=true)(h:XR P N ops Q (more d (Io u)) l (nxt ops o s u)):XR P N ops Q d (o::l) s:=by
 cases d with
|none =>
  show Yg P N ops Q (o::l) s;simp only[Yg,hw,ZX,CQ hp];show XG P N o _ _ _;unfold XG;split
  ·rename_i G;rw[G] at hp;cases hp
  ·rename_i G;rw[G] at hp;cases hp
  ·rename_i G;rw[G] at hp;cases hp
  ·rw[hu];exact .inl ⟨J,h⟩
|some acc =>
  show KT P N ops Q (o::l) acc s;simp only[KT,hw,ZX];split
  ·rename_i G;rw[G] at hp;cases hp
  ·rename_i G;rw[G] at hp;cases hp
  ·rename_i G;rw[G] at hp;cases hp
  ·rw[hu];exact .inl ⟨J,h⟩
theorem wD(hw:ZH ops o (look s.T)=some false)(G:KA N o.dst=true)(h:XR P N ops Q (more d (none,[])) l (St.put (mk ops o s false) o.dst (.p (.val undef)))):XR P N ops Q d (o::l) s:=by
 cases d with
|none =>
  show Yg P N ops Q (o::l) s;simp only[Yg,hw,HV];exact⟨G,h⟩
|some acc =>
  show KT P N ops Q (o::l) acc s;simp only[KT,hw,HV];exact⟨G,h⟩
theorem fH{c:Operand}(hw:ZH ops o (look s.T)=some true)(O:o.op=.pick c x y)(b:Bool)(hc:Zp (look (Zm ops o s.T true)) c=some (.p (.val (.bool b)))){v:AV}(W:Zp (look (Zm ops o s.T true)) (cond b x y)=some v)(J:KA N o.dst=true)(h:XR P N ops Q (more d (none,[])) l (St.put (mk ops o s true) o.dst v)):XR P N ops Q d (o::l) s:=by
 have G:∀z,cond b x y=z→V4 (look (Zm ops o s.T true)) z=some (v,none,[]):=by
  rintro z rfl;simp[V4,W]
 cases d with
|none =>
  show Yg P N ops Q (o::l) s;have U:yieldOf (look (Zm ops o s.T true)) o.op=none:=by simp[yieldOf,O]
  simp only[Yg,hw,ZX,U];show XG P N o _ _ _;unfold XG;simp only[O,hc];have e:∀s:St,JH s o.dst (v,none,[])=St.put s o.dst v:=fun s=>by unfold JH St.put;cases o.dst<;>rfl
  cases b
  ·refine⟨(fun h=>by cases h),fun _=>?_⟩;rw[G y rfl];exact⟨J,by rw[e];exact h⟩
  ·refine⟨fun _=>?_,fun h=>by cases h⟩;rw[G x rfl];exact⟨J,by rw[e];exact h⟩
|some acc =>
  show KT P N ops Q (o::l) acc s;simp only[KT,hw,ZX,O,hc];cases b
  ·refine⟨(fun h=>by cases h),fun _=>?_⟩;rw[G y rfl];exact⟨J,h⟩
  ·refine⟨fun _=>?_,fun h=>by cases h⟩;rw[G x rfl];exact⟨J,h⟩
end
def step1(P:Program)(N:Nat)(ops:Array Oper)(o:Oper)(s:St):Option (St×Yz) :=
 match ZH ops o (look s.T) with
|some true =>
  if KA N o.dst then
   match o.op with
  |.pick c x y =>
    match Zp (look (Zm ops o s.T true)) c with
   |some (.p (.val (.bool true)))=>match Zp (look (Zm ops o s.T true)) x with|some v=>some (St.put (mk ops o s true) o.dst v,(none,[]))|none=>none
   |some (.p (.val (.bool false)))=>match Zp (look (Zm ops o s.T true)) y with|some v=>some (St.put (mk ops o s true) o.dst v,(none,[]))|none=>none
   |_=>none
  |op=>if plain op then(match Jb P o (look (Zm ops o s.T true)) (look s.H) with|some u=>some (nxt ops o s u,Io u)|none=>none) else none
  else none
|some false=>if KA N o.dst then some (St.put (mk ops o s false) o.dst (.p (.val undef)),(none,[])) else none
|none=>none
def runs(P:Program)(N:Nat)(ops:Array Oper):Nat→List Oper→St→List Yz→Option (St×List Yz)
|0,_,s,acc=>some (s,acc)
|_+1,[],s,acc=>none
|k+1,o::l,s,acc=>match step1 P N ops o s with|some (s',f)=>runs P N ops k l s' (f::acc)|none=>none
def Ip(P:Program)(N:Nat)(ops:Array Oper):List Oper→St→List Yz→Option (St×List Yz)
|[],s,acc=>some (s,acc)
|o::l,s,acc=>match step1 P N ops o s with|some (s',f)=>Ip P N ops l s' (f::acc)|none=>none
def TY(P:Program)(N:Nat)(ops:Array Oper)(draw:Bool)(s:St):Option St :=
 match Ip P N ops ops.toList s [] with
|some (s',acc)=>if draw then(if KC ops acc.reverse&&UC ops then some s' else none) else some s'
|none=>none
section
variable {P:Program}{N:Nat}{ops:Array Oper}{s:St}{Q:AX→St→Prop}
theorem fI{l:List Oper}{d:Option (List Yz)}{f:Yz}(G:step1 P N ops o s=some (s',f))(h:XR P N ops Q (more d f) l s'):XR P N ops Q d (o::l) s:=by
 unfold step1 at G;split at G
 ·rename_i hw;split at G
  ·rename_i J;split at G
   ·rename_i c x y U;split at G
    ·rename_i hc;split at G
     ·rename_i v O;simp only[Q0,XA] at G;obtain⟨rfl,rfl⟩:=G;exact fH hw U true hc O J h
     ·cases G
    ·rename_i hc;split at G
     ·rename_i v O;simp only[Q0,XA] at G;obtain⟨rfl,rfl⟩:=G;exact fH hw U false hc O J h
     ·cases G
    ·cases G
   ·split at G
    ·rename_i hp;split at G
     ·rename_i u hu;simp only[Q0,XA] at G;obtain⟨rfl,rfl⟩:=G;exact DZ hw hp hu J h
     ·cases G
    ·cases G
  ·cases G
 ·rename_i hw;split at G
  ·rename_i J;simp only[Q0,XA] at G;obtain⟨rfl,rfl⟩:=G;exact wD hw J h
  ·cases G
 ·cases G
theorem PG:∀{l:List Oper} {s:St} {acc G:List Yz} {s':St} {b:Bool},Ip P N ops l s acc=some (s',G)→XR P N ops Q (if b then some G else none) [] s'→XR P N ops Q (if b then some acc else none) l s
|[],s,acc,G,s',b,J,h=>by
  simp only[Ip,Q0,XA] at J;obtain⟨rfl,rfl⟩:=J;exact h
|o::l,s,acc,G,s',b,J,h=>by
  simp only[Ip] at J;split at J
  ·rename_i s1 f hs;refine fI hs ?_;have:=PG (b:=b) J h;cases b
   ·exact this
   ·exact this
  ·cases J
theorem Su{d:Option (List Yz)}:∀{k:Nat} {l:List Oper} {s:St} {acc G:List Yz} {s':St},runs P N ops k l s acc=some (s',G)→(d=none∨d=some acc)→XR P N ops Q (d.map fun _=>G) (l.drop k) s'→XR P N ops Q d l s
|0,l,s,acc,G,s',J,O,h=>by
  simp only[runs,Q0,XA] at J;obtain⟨rfl,rfl⟩:=J;rcases O with rfl|rfl
  ·exact h
  ·exact h
|k+1,[],s,acc,G,s',J,O,h=>by cases J
|k+1,o::l,s,acc,G,s',J,O,h=>by
  simp only[runs] at J;split at J
  ·rename_i s1 f hs;refine fI hs ?_;rcases O with rfl|rfl
   ·exact Su (d:=none) J (.inl rfl) h
   ·exact Su (d:=some (f::acc)) J (.inr rfl) h
  ·cases J
theorem PH{draw:Bool}(O:P.follows .mixedOrders=true)(G:TY P N ops draw s=some s')(h:Q .normal s'):Ex P N ro (.region id ops draw) s Q:=by
 unfold TY at G;split at G
 ·rename_i s1 acc J;cases draw with
 |false =>
   simp only[Bool.false_eq_true,if_false,Q0] at G;subst G;exact qp (PG (b:=false) J (show Yg P N ops Q [] s1 from h))
 |true =>
   simp only[if_true] at G;split at G
   ·rename_i hc;simp only[Z8] at hc;simp only[Q0] at G;subst G;exact fA O hc.2 (PG (b:=true) J (show KT P N ops Q [] acc s1 from⟨hc.1,h⟩))
   ·cases G
 ·cases G
end
def dOf(dr:Bool)(acc:List Yz):Option (List Yz):=cond dr (some acc) none
structure KR{R:Type}(o:Option R)(P:Program)(N:Nat)(ops:Array Oper)(Q:R→AX→St→Prop)(dr:Bool)(acc:List Yz)(l:List Oper)(s:St):Prop where
 intro ::
 h:∀r,o=some r→XR P N ops (Q r) (dOf dr acc) l s
def Qd2(P:Program)(N:Nat)(ops:Array Oper)(k:Nat)(l:List Oper)(s:St):St:=match runs P N ops k l s [] with|some (s',_)=>s'|none=>s
def runF(P:Program)(N:Nat)(ops:Array Oper)(k:Nat)(l:List Oper)(s:St)(acc:List Yz):List Yz:=match runs P N ops k l s acc with|some (_,a)=>a|none=>[]
def QfG(P:Program)(N:Nat)(ops:Array Oper)(k:Nat)(l:List Oper)(s:St):Bool:=(runs P N ops k l s []).isSome
theorem Iq{P:Program}{N:Nat}{ops:Array Oper}:∀(k:Nat) (l:List Oper) (s:St) (acc:List Yz),runs P N ops k l s acc=(runs P N ops k l s []).map fun p=>(p.1,p.2++acc)
|0,l,s,acc=>by simp[runs]
|k+1,[],s,acc=>by simp[runs]
|k+1,o::l,s,acc=>by
  simp only[runs];cases step1 P N ops o s with
 |none=>rfl
 |some p =>
   obtain⟨s',f⟩:=p;simp only;rw[Iq k l s' (f::acc),Iq k l s' [f]];simp[Option.map_map,Function.comp_def]
theorem LK(dr:Bool)(acc:List Yz)(f:Yz):more (dOf dr acc) f=dOf dr (f::acc):=by cases dr<;>rfl
section
variable {R V:Type}{a a1 a2:Option R}{P:Program}{N:Nat}{ro:Option Nat}{ops:Array Oper}{o:Oper}{l:List Oper}{dr:Bool}{acc:List Yz}{s s':St}{Q:R→AX→St→Prop}{y:Code}{id:Nat}{draw:Bool}
theorem sR(G:P.follows .mixedOrders=true)(K:HZ)(s':St)(U:(TY P N ops draw s).bind (G6 K)=some s')(h:Q4 a P N ro y s' Q):Q4 a P N ro (.seq (.region id ops draw) y) s Q:=by
 obtain⟨s1,J,W⟩:=NS.1 U;refine⟨fun r O=>?_⟩;exact zk (PH G J (FN (XL W) (h.h r O)))
theorem eU(O:P.follows .mixedOrders=true)(J:TY P N ops draw s=some s1)(h:ZI a Q .normal s1):Q4 a P N ro (.region id ops draw) s Q:=⟨fun r G=>PH O J (h.h r G)⟩
def EB(P:Program)(N:Nat)(ops:Array Oper)(draw:Bool)(s:St):St:=(TY P N ops draw s).getD s
theorem sL(O:P.follows .mixedOrders=true)(h:ZI a Q .normal (EB P N ops draw s))(J:(TY P N ops draw s).isSome=true:=by kernel_rfl):Q4 a P N ro (.region id ops draw) s Q:=by
 obtain⟨s1,G⟩:=Rb.1 J;refine eU O G ?_;have e:EB P N ops draw s=s1:=by simp[EB,G]
 rw[←e];exact h
theorem sG(h:KR a P N ops Q false [] ops.toList s):Q4 a P N ro (.region id ops false) s Q:=⟨fun r G=>qp (h.h r G)⟩
theorem Y6(O:P.follows .mixedOrders=true)(J:UC ops=true)(h:KR a P N ops Q true [] ops.toList s):Q4 a P N ro (.region id ops true) s Q:=⟨fun r G=>fA O J (h.h r G)⟩
theorem xR(k:Nat)(h:KR a P N ops Q dr (runF P N ops k l s acc) (l.drop k) (Qd2 P N ops k l s))(Y:QfG P N ops k l s=true:=by kernel_rfl):KR a P N ops Q dr acc l s:=by
 refine⟨fun r W=>?_⟩;obtain⟨⟨s1,f⟩,O⟩:=Rb.1 Y;have G:=h.h r W;have Z:Qd2 P N ops k l s=s1:=by simp[Qd2,O]
 rw[Z] at G;have J:=Iq (P:=P) (N:=N) (ops:=ops) k l s acc;rw[O] at J;have U:runF P N ops k l s acc=f++acc:=by simp[runF,J]
 rw[U] at G;cases dr with
|false=>exact Su (d:=none) O (.inl rfl) G
|true=>exact Su (d:=some acc) J (.inr rfl) G
theorem xE(h:ZI a Q .normal s):KR a P N ops Q false acc [] s:=⟨fun r G=>h.h r G⟩
theorem YI(h:ZI a Q .normal s)(hc:KC ops acc.reverse=true:=by kernel_rfl):KR a P N ops Q true acc [] s:=⟨fun r G=>⟨hc,h.h r G⟩⟩
theorem xS(b:Bool)(J:b=true→KR a1 P N ops Q dr acc l s)(G:b=false→KR a2 P N ops Q dr acc l s):KR (cond b a1 a2) P N ops Q dr acc l s:=by
 cases b
 ·exact G rfl
 ·exact J rfl
def Qbw(P:Program)(ops:Array Oper)(o:Oper)(s:St):KL:=(Jb P o (look (Zm ops o s.T true)) (look s.H)).getD (.p (.val undef),none,[])
theorem xO(hw:ZH ops o (look s.T)=some true)(h:KR a P N ops Q dr (Io (Qbw P ops o s)::acc) l (nxt ops o s (Qbw P ops o s)))(hp:(plain o.op&&(Jb P o (look (Zm ops o s.T true)) (look s.H)).isSome&&KA N o.dst)=true:=by kernel_rfl):KR a P N ops Q dr acc (o::l) s:=by
 simp only[Z8] at hp;obtain⟨u,hu⟩:=Rb.1 hp.1.2;have e:Qbw P ops o s=u:=by simp[Qbw,hu]
 rw[e] at h;exact⟨fun r G=>DZ hw hp.1.1 hu hp.2 (LK dr acc _▸h.h r G)⟩
theorem xN(hw:ZH ops o (look s.T)=some false)(h:KR a P N ops Q dr ((none,[])::acc) l (St.put (mk ops o s false) o.dst (.p (.val undef))))(J:KA N o.dst=true:=by kernel_rfl):KR a P N ops Q dr acc (o::l) s :=
 ⟨fun r G=>wD hw J (LK dr acc _▸h.h r G)⟩
theorem QC{b:Bool}(J:b=true)(G:ZH ops o (look s.T)=some (b==true):=by kernel_rfl):ZH ops o (look s.T)=some true:=by rw[G,J];rfl
theorem QR{b:Bool}(J:b=false)(G:ZH ops o (look s.T)=some (b==false):=by kernel_rfl):ZH ops o (look s.T)=some true:=by rw[G,J];rfl
theorem QD{b:Bool}(J:b=false)(G:ZH ops o (look s.T)=some (b==true):=by kernel_rfl):ZH ops o (look s.T)=some false:=by rw[G,J];rfl
theorem QS{b:Bool}(J:b=true)(G:ZH ops o (look s.T)=some (b==false):=by kernel_rfl):ZH ops o (look s.T)=some false:=by rw[G,J];rfl
theorem xF{c:Bool}{u:KL}(hu:c=true→Jb P o (look (Zm ops o s.T true)) (look s.H)=some u)(h:KR a P N ops Q dr (Io u::acc) l (nxt ops o s u))(hw:ZH ops o (look s.T)=some true:=by kernel_rfl)(hp:(plain o.op&&KA N o.dst)=true:=by kernel_rfl):KR (cond c a none) P N ops Q dr acc (o::l) s:=by
 simp only[Z8] at hp;refine⟨fun r G=>?_⟩;cases c with
|false=>cases G
|true=>exact DZ hw hp.1 (hu rfl) hp.2 (LK dr acc _▸h.h r G)
theorem xG{m:Option V}{k:V→Option R}{u:V→KL}(hu:∀v,m=some v→Jb P o (look (Zm ops o s.T true)) (look s.H)=some (u v))(h:∀v,KR (k v) P N ops Q dr (Io (u v)::acc) l (nxt ops o s (u v)))(hw:ZH ops o (look s.T)=some true:=by kernel_rfl)(hp:(plain o.op&&KA N o.dst)=true:=by kernel_rfl):KR (m.bind k) P N ops Q dr acc (o::l) s:=by
 simp only[Z8] at hp;refine⟨fun r O=>?_⟩;obtain⟨v,G,J⟩:=NS.1 O;exact DZ hw hp.1 (hu v G) hp.2 (LK dr acc _▸(h v).h r J)
theorem Ka{u:KL}(hu:Jb P o (look (Zm ops o s.T true)) (look s.H)=some u)(h:KR a P N ops Q dr (Io u::acc) l (nxt ops o s u))(hw:ZH ops o (look s.T)=some true:=by kernel_rfl)(hp:(plain o.op&&KA N o.dst)=true:=by kernel_rfl):KR a P N ops Q dr acc (o::l) s:=by
 simp only[Z8] at hp;exact⟨fun r G=>DZ hw hp.1 hu hp.2 (LK dr acc _▸h.h r G)⟩
end
structure Tf{R:Type}(a:Option R)(K:R→St→Prop)(s:St):Prop where
 intro ::
 h:∀r,a=some r→K r s
structure Ci{R:Type}(a:Option R)(P:Program)(N:Nat)(f:FuncId)(args:List AV)(dst:Option Tmp)(s:St)(K:R→St→Prop)(Q:R→AX→St→Prop):Prop where
 intro ::
 h:∀r,a=some r→F5 P N f args dst s (K r) (Q r)
def fKr{R:Type}(P:Program)(N:Nat)(ops:Array Oper)(Q:R→AX→St→Prop)(l:List Oper):R→St→Prop:=fun r s=>XR P N ops (Q r) none l s
def fKq{R:Type}(Q:R→AX→St→Prop):R→St→Prop:=fun r s=>Q r .normal s
section
variable {R V E:Type}{a a1 a2:Option R}{P:Program}{N:Nat}{ro:Option Nat}{ops:Array Oper}{o:Oper}{l:List Oper}{dr:Bool}{acc:List Yz}{s s':St}{Q:R→AX→St→Prop}{K:R→St→Prop}{f:FuncId}{args args':List AV}{dst:Option Tmp}
theorem kr(h:KR a P N ops Q false acc l s):Tf a (fKr P N ops Q l) s:=⟨fun r G=>h.h r G⟩
theorem YW(h:KR a P N ops Q false [] l s):Tf a (fKr P N ops Q l) s:=⟨fun r G=>h.h r G⟩
theorem kqn(h:ZI a Q .normal s):Tf a (fKq Q) s:=⟨fun r G=>h.h r G⟩
def TZ:Op→Bool|.call ⟨.value _,_,_⟩=>true|_=>false
theorem F8{op:Op}{p:FuncId×List AV}(h:Kg T op=some p):TZ op=true:=by
 unfold Kg at h;split at h
 ·rfl
 ·rfl
 ·cases h
theorem Jd{op:Op}{p:FuncId×List AV}(h:Kg T op=some p):yieldOf T op=none:=by
 unfold yieldOf;split
 ·rename_i t G ts;split
  ·rename_i b hb;simp[Kg,hb] at h
  ·rfl
 ·rfl
theorem Xu{P:Program}{N:Nat}{o:Oper}{s:St}{K:St→Prop}{Q:AX→St→Prop}{f:FuncId}{args:List AV}(hf:Kg (look s.T) o.op=some (f,args))(hb:Y1 P f=true)(h:F5 P N f args o.dst s K Q):XG P N o s K Q:=by
 unfold XG;split
 ·rename_i G;rw[G] at hf;simp[Kg] at hf
 ·rename_i G;rw[G] at hf;simp[Kg] at hf
 ·rename_i g J ts G;rw[G] at hf;rw[hf];exact⟨hb,h⟩
 ·rename_i W U O;have:=F8 hf;unfold TZ at this;split at this
  ·rename_i G;exact absurd G (O _ _ _)
  ·cases this
theorem ZU(hw:ZH ops o (look s.T)=some true)(hf:Kg (look (Zm ops o s.T true)) o.op=some (f,args))(hb:Y1 P f=true)(h:Ci a P N f args o.dst (mk ops o s true) (fKr P N ops Q l) Q):KR a P N ops Q false acc (o::l) s:=by
 refine⟨fun r G=>?_⟩;show Yg P N ops (Q r) (o::l) s;simp only[Yg,hw,ZX,Jd hf];exact Xu hf hb (h.h r G)
theorem pV(hw:ZH ops o (look s.T)=some true)(hf:Kg (look (Zm ops o s.T true)) o.op=some (f,args))(hb:(Y1 P f&&J2 ops acc.length&&KC ops acc.reverse)=true)(h:Ci a P N f args o.dst (mk ops o s true) (fKq Q) Q):KR a P N ops Q true acc [o] s:=by
 refine⟨fun r O=>?_⟩;simp only[Z8] at hb;show KT P N ops (Q r) [o] acc s;simp only[KT,hw,ZX];split
 ·rename_i G;rw[G] at hf;simp[Kg] at hf
 ·rename_i g U ts G;exact .inr (.inl ⟨rfl,hb.1.2,hb.2,Xu hf hb.1.1 (h.h r O)⟩)
 ·rename_i G;rw[G] at hf;simp[Kg] at hf
 ·rename_i W J Y;have:=F8 hf;unfold TZ at this;split at this
  ·rename_i G;exact absurd G (J _ _ _)
  ·cases this
theorem RH(hi:TZ o.op=true)(h:KR a P N ops Q false [] (o::l) s)(hw:ZH ops o (look s.T)=some true:=by kernel_rfl)(hb:(J2 ops acc.length&&KC ops acc.reverse&&FT ops acc.length&&vQ ops s (o::l))=true:=by kernel_rfl):KR a P N ops Q true acc (o::l) s:=by
 refine⟨fun r U=>?_⟩;simp only[Z8] at hb;have J:Yg P N ops (Q r) (o::l) s:=h.h r U;show KT P N ops (Q r) (o::l) acc s;simp only[KT,hw,ZX];split
 ·rename_i G;rw[G] at hi;simp[TZ] at hi
 ·exact .inr (.inr (.inl ⟨hb.1.1.1,hb.1.1.2,hb.1.2,hb.2,J⟩))
 ·rename_i G;rw[G] at hi;simp[TZ] at hi
 ·rename_i J O W;unfold TZ at hi;split at hi
  ·rename_i G;exact absurd G (O _ _ _)
  ·cases hi
theorem xC{m:Option V}{k:V→Option R}{X:V→AV}(C:List Conv)(hc:∀v,m=some v→Q9 P f args' (.ret (X v)))(J:∀v,Yf (X v)=true)(h:∀v,KR (k v) P N ops Q dr ((none,[])::acc) l (St.put (mk ops o s true) o.dst (X v)))(hw:ZH ops o (look s.T)=some true:=by kernel_rfl)(hf:(Kg (look (Zm ops o s.T true)) o.op).map (fun p=>(p.1,ER C p.2))=some (f,args'):=by kernel_rfl)(hb:(Y1 P f&&KA N o.dst&&Y0 args')=true:=by kernel_rfl):KR (m.bind k) P N ops Q dr acc (o::l) s:=by
 refine⟨fun r Y=>?_⟩;obtain⟨v,O,U⟩:=NS.1 Y;obtain⟨⟨f0,args⟩,hcall,hp⟩:=Gn.1 hf;simp only[XA] at hp;obtain⟨rfl,rfl⟩:=hp;simp only[Z8] at hb;cases dr with
|false =>
  show Yg P N ops (Q r) (o::l) s;simp only[Yg,hw,ZX,Jd hcall];exact Xu hcall hb.1.1 (Pv (hc v O) (XK C args) hb.2 (J v) (Z7 hb.1.2) ((h v).h r U))
|true =>
  show KT P N ops (Q r) (o::l) acc s;simp only[KT,hw,ZX];split
  ·rename_i G;rw[G] at hcall;simp[Kg] at hcall
  ·rename_i g Z ts G;rw[G] at hcall;exact Qbs (hc v O) hcall hb.1.1 hb.1.2 (XK C args) hb.2 (J v) ((h v).h r U)
  ·rename_i G;rw[G] at hcall;simp[Kg] at hcall
  ·rename_i h1 W h3;have:=F8 hcall;unfold TZ at this;split at this
   ·rename_i G;exact absurd G (W _ _ _)
   ·cases this
def uh(X:V→AV)(Y:E→AV):Except E V→Ku|.ok v=>.ret (X v)|.error e=>.panic (Y e)
theorem Nb{m:Option V}{k:V→Option R}{X:V→AV}(C:List Conv)(hc:∀v,m=some v→Q9 P f args' (.ret (X v)))(G:ER C args=args')(hb:(KA N dst&&Y0 args')=true)(O:∀v,Yf (X v)=true)(h:∀v,Tf (k v) K (s.put dst (X v))):Ci (m.bind k) P N f args dst s K Q:=by
 refine⟨fun r W=>?_⟩;obtain⟨v,J,U⟩:=NS.1 W;simp only[Z8] at hb;subst G;exact Pv (hc v J) (XK C args) hb.2 (O v) (Z7 hb.1) ((h v).h r U)
theorem Qd3{m:Option (Except E V)}{k:Except E V→Option R}{X:V→AV}{Y:E→AV}(C:List Conv)(hc:∀v,m=some v→Q9 P f args' (uh X Y v))(O:ER C args=args')(hb:(KA N dst&&Y0 args')=true)(W:∀v,Yf (X v)=true)(U:∀e,Yf (Y e)=true)(h:∀v,Tf (k (.ok v)) K (s.put dst (X v)))(he:∀e,ZI (k (.error e)) Q (.panic (Y e)) s):Ci (m.bind k) P N f args dst s K Q:=by
 refine⟨fun r hr=>?_⟩;obtain⟨v,Z,G⟩:=NS.1 hr;simp only[Z8] at hb;subst O;have J:=hc v Z;cases v with
|ok v=>exact Pv J (XK C args) hb.2 (W v) (Z7 hb.1) ((h v).h r G)
|error e=>exact EN J (XK C args) hb.2 (U e) ((he e).h r G)
def FE{E V R:Type}(k:V→Option R)(e:E→Option R):Except E V→Option R|.ok v=>k v|.error x=>e x
theorem F9{m:Option (Except E V)}{k:V→Option R}{ke:E→Option R}{X:V→AV}{Y:E→AV}(C:List Conv)(hc:∀v,m=some v→Q9 P f args' (uh X Y v))(J:∀v,Yf (X v)=true)(G:∀e,Yf (Y e)=true)(h:∀v,KR (k v) P N ops Q false ((none,[])::acc) l (St.put (mk ops o s true) o.dst (X v)))(O:∀e,ZI (ke e) Q (.panic (Y e)) (mk ops o s true))(hw:ZH ops o (look s.T)=some true:=by kernel_rfl)(hf:(Kg (look (Zm ops o s.T true)) o.op).map (fun p=>(p.1,ER C p.2))=some (f,args'):=by kernel_rfl)(hb:(Y1 P f&&KA N o.dst&&Y0 args')=true:=by kernel_rfl):KR (m.bind (FE k ke)) P N ops Q false acc (o::l) s:=by
 obtain⟨⟨f0,args⟩,hcall,hp⟩:=Gn.1 hf;simp only[XA] at hp;obtain⟨rfl,hp⟩:=hp;simp only[Z8] at hb;exact ZU hw hcall hb.1.1 (Qd3 C hc hp (by simp[hb]) J G (fun v=>kr (h v)) O)
theorem xPa(t:TypeId)(v:AV)(hw:ZH ops o (look s.T)=some true)(G:o.op=.panic x)(J:Zp (look (Zm ops o s.T true)) x=some (.ifc t v))(h:ZI a Q (.panic (.ifc t v)) (mk ops o s true)):KR a P N ops Q false acc (o::l) s:=by
 refine⟨fun r O=>?_⟩;show Yg P N ops (Q r) (o::l) s;have U:yieldOf (look (Zm ops o s.T true)) o.op=none:=by simp[yieldOf,G]
 simp only[Yg,hw,ZX,U];show XG P N o _ _ _;unfold XG;simp only[G,J];exact h.h r O
def Qd4(P:Program)(fn:Func)(X:R→Ku):R→AX→St→Prop:=fun r=>lZ P fn (·=X r)
def Wv:Ku→AV|.ret y=>y|.panic y=>y
theorem qR{X:V→Ku}{v:V}(C:Conv)(h:(TT P fn (look s.T) (look s.H)).map (cv C)=some (Wv (X v)):=by kernel_rfl)(W:X v=.ret (Wv (X v)):=by kernel_rfl)(G:Yf (Wv (X v))=true:=by kernel_rfl):ZI (some v) (Qd4 P fn X) .ret s:=by
 refine⟨fun r O=>?_⟩;cases O;obtain⟨x,U,J⟩:=Gn.1 h;exact⟨x,Wv (X v),U,J▸wB C x,G,W.symm⟩
theorem wE{X:V→Ku}{v:V}(J:X v=.panic p:=by kernel_rfl)(O:Yf p=true:=by kernel_rfl):ZI (some v) (Qd4 P fn X) (.panic p) s:=by
 refine⟨fun r G=>?_⟩;cases G;exact⟨O,J.symm⟩
theorem Qv{X:R→Ku}(hf:P.funcs[f]?=some fn)(hb:fn.body=some c)(O:fn.ntmps=n)(J:Nat.ble args.length n=true)(h:Q4 a P n none c ⟨Jc 0 args,[]⟩ (Qd4 P fn X))(r:R)(G:a=some r):Q9 P f args (X r):=by
 subst O;exact vW hf hb (Nat.le_of_ble_eq_true J) (h.h r G)
end
def Q3{α:Type}(l:List α)(i:Int):Option α:=if i<0 then none else l[i.toNat]?
section
variable {P:Program}{o:Oper}{T:Nat→Option AV}{h:QO}
theorem Qbx{k k':IntKind}{a b:Int}(G:o.op=.binOp .shl tx x y ty)(O:Zp T x=some (.p (.val (.int k a))))(J:Zp T y=some (.p (.val (.int k' b))))(hc:(!QV b 0)=true) :
  Jb P o T h=some (.p (.val (.int k (zw k a b))),none,[]):=by
 have hb:¬b<0:=by simpa [QV] using hc
 simp[Jb,G,Ap,O,J,Ru,ML,hb,R5]
abbrev wi(x:Int):Int:=IntKind.i64.wrap x
abbrev wu(x:Int):Int:=IntKind.u64.wrap x
abbrev w8(x:Int):Int:=IntKind.u8.wrap x
abbrev Qb{α:Type}(l:List α):Int:=(l.length:Int)
abbrev Z5(x:UInt8):Int:=(x.toNat:Int)
theorem Zh{t:TypeId}{S:Nat}{l:List α}{k:IntKind}{n:Int}(Z:o.op=.indexAddr t x ix)(hn:Zp T ix=some (.p (.val (.int k n))))(Y:Zp T x=some sv)(hs:elems sv=some (S,List.map enc l))(ht:P.underlying t=some (.slice e))(hi:(P.info? e).map (·.size)=some S)(v:α)(G:Q3 l n=some v):Jb P o T h=some (.eptr (enc v),none,[]):=by
 unfold Q3 at G;split at G
 ·cases G
 ·rename_i W;obtain⟨i,J,O⟩:=Gn.1 hi
  have U:gX (some sv)=false:=by
   cases sv with
  |p x=>rfl
  |tsl S es t=>rfl
  |_=>cases hs
  have h0:0≤n:=by omega
  simp[Jb,Z,R5,Y,U,Ui,hn,ht,hs,J,O,h0,G]
def Zn(x:List PV):List PV:=x
theorem zP(l:List (List PV)):List.map Zn l=l:=List.map_id l
theorem Zz{t:TypeId}{S:Nat}{dec:List PV→Option α}{l:List (List PV)}{k:IntKind}{n:Int}(O:∀r v,dec r=some v→enc v=r)(U:o.op=.indexAddr t x ix)(Z:Zp T ix=some (.p (.val (.int k n))))(J:Zp T x=some sv)(hs:elems sv=some (S,List.map Zn l))(W:P.underlying t=some (.slice e))(hi:(P.info? e).map (·.size)=some S)(v:α)(Y:(Q3 l n).bind dec=some v):Jb P o T h=some (.eptr (enc v),none,[]):=by
 obtain⟨r,h1,G⟩:=NS.1 Y;rw[O r v G];exact Zh U Z J hs W hi r h1
theorem JP{t:TypeId}{l:List UInt8}{k:IntKind}{n:Int}(O:o.op=.index t x ix)(W:Zp T ix=some (.p (.val (.int k n))))(Y:Zp T x=some (.p (.val (.string (WN l)))))(U:P.underlying t=some .string)(v:UInt8)(G:Q3 l n=some v):Jb P o T h=some (.p (.val (.int .u8 v.toNat)),none,[]):=by
 unfold Q3 at G;split at G
 ·cases G
 ·rename_i J;have h0:0≤n:=by omega
  simp[Jb,O,R5,Pi,DN,Y,W,U,h0,Rt,G]
end
end Go.Abs
