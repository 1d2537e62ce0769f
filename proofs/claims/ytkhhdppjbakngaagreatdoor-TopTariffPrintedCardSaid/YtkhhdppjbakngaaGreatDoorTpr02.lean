/-
  A part of the proof of a statement of the seat YtkhhdppjbakngaaGreatDoor.
-/
import Derived.Test.YtkhhdppjbakngaaGreatDoorTpr01
set_option linter.unusedVariables false
namespace Go.Abs
open Go
variable {D:DB}{H:List (Nat × Blk)}{K:St→Prop}{M M' M0:Zn}{N:Nat}{P:Program}{Q:AX→St→Prop}{Q':Exit→Act→World→Prop}{R:Zz→QG→Prop}{T T':Nat→Option AV}{a:Act}{args args':List AV}{b:Nat}{body c:Code}{cf:FuncId}{d:Nat}{dst:Option Tmp}{f:FuncId}{fn:Func}{g:FuncId}{h h' h0:QG}{hc hc':List (Nat × Blk)}{i id n:Nat}{nf:Di}{o:Oper}{off:Nat}{ok:Bool}{ops:Array Oper}{p:AV}{pd:Option Code}{ro:Option Nat}{s s' s1:St}{st:LoopState}{t ty:TypeId}{u:Xe}{v:Value}{w w' w'' w0:World}{x y:Operand}{α β:Type}{ρ φ φ' φ0:Nat→Nat}
theorem A8 {x:AV}
  (hc:QB P f args' (.panic x)) (U:PR args args') (hn:YQ args'=true) (Z:KS x=true) (hk:Q (.panic x) s):Xl P N f args dst s K Q:=by
 intro φ M0 D a w vs r ha;have hH:Zw φ GL w (MB φ (look s.H) w M0):=He (fun x o hm=>xn hm) r.hp.gm.w r.hp.gm.mb;have hM:∀ r o v,w.cell? ⟨r,o,none⟩=some v→¬ MM φ (look s.H) M0 r o→w.cell? ⟨r,o,none⟩=some v∧¬ MM φ GL (MB φ (look s.H) w M0) r o:=fun r o v G Y=>⟨G,fun O=>O.elim VY (fun h4=>Y h4.1)⟩
 refine (hc φ (MB φ (look s.H) w M0) w vs hH ((WE hM).2 _ _ hn (JJ.2 _ _ _ U ha))).mono ?_;rintro e w' ⟨φ',r',h',⟨rfl,rfl⟩,aa,E,v,rfl,hv⟩;have J:∀ ro o v,w'.cell? ⟨ro,o,none⟩=some v→¬ MM φ' GL (MB φ (look s.H) w M0) ro o→w'.cell? ⟨ro,o,none⟩=some v∧¬ MM (Kv φ w.heap.size (w'.heap.size - w.heap.size)) (look s.H) M0 ro o:=fun ro o v G Y=>⟨G,IQ r.hp E.size G (fun O=>Y (.inr O))⟩
 obtain ⟨r,E1,X1,hC⟩:=r.lift (w'.heap.size - w.heap.size);obtain ⟨E2,X2,H2⟩:=Uy E.os E.tape E.output E.size (fun x Z=>E.same x Z (fun b hb=>absurd rfl hb)) r.hp hC;have r2:Q6 _ M0 N D (look s.T) (look s.H) a w':=r.keep E2 X2 H2;exact ⟨_, .panic x,s,hk,r2,E1.trans E2,v,rfl,(WE J).1 _ _ Z hv⟩
def ZA (ops:Array Oper) (o:Oper) (T:Nat→Option AV):Option Bool :=
 match o.guard with
 | none=>some true
 | some (j,want) =>
  match ops[j]? with
  | some G=>match G.dst with
   | some d=>match T d with
    | some (.p (.val (.bool b)))=>some (b == want)
    | some (.p (.val (.tuple _)))=>some false
    | _=>none
   | none=>some false
  | none=>some false
theorem Fv (r:Q6 φ M0 N D T h a w) {t:Bool} (G:ZA ops o T=some t) :
  Region.wanted o (yielded ops a.tmps)=t:=by
 unfold ZA at G;unfold Region.wanted;split at G
 ·simp only [QN] at G; subst G; simp [*]
 ·rename_i j want hg;simp only [hg];split at G
  ·rename_i oj O;split at G
   ·rename_i d U;split at G
    ·rename_i b hb;simp only [QN] at G;subst G;obtain ⟨Z,J⟩:=r.tm d _ hb;simp only [Qe,QH] at J;have hlt:d < a.tmps.size:=by rw [r.siz]; exact Z
     have Y:a.tmps[d]?=some (.bool b):=by
      rw [Array.getElem?_eq_getElem hlt];rw [Array.getD_eq_getD_getElem?,Array.getElem?_eq_getElem hlt] at J;simpa using J
     simp [yielded,O,U,Y]
    ·rename_i vs hb;simp only [QN] at G;subst G;obtain ⟨Z,J⟩:=r.tm d _ hb;simp only [Qe,QH] at J;have hlt:d < a.tmps.size:=by rw [r.siz]; exact Z
     have Y:a.tmps[d]?=some (.tuple vs):=by
      rw [Array.getElem?_eq_getElem hlt];rw [Array.getD_eq_getD_getElem?,Array.getElem?_eq_getElem hlt] at J;simpa using J
     simp [yielded,O,U,Y]
    ·cases G
   ·rename_i U;simp only [QN] at G;subst G;simp [yielded,O,U]
  ·rename_i O;simp only [QN] at G;subst G;simp [yielded,O]
def Zb (ops:Array Oper) (o:Oper) (T:List (Nat × AV)) (t:Bool):List (Nat × AV) :=
 match o.guard with
 | none=>T
 | some (j,want) =>
  match ops[j]? with
  | some G=>match G.dst with
   | some d=>match look T d with
    | some (.p (.val (.bool _)))=>(d, .p (.val (.bool (if t then want else !want)))) :: T
    | _=>T
   | none=>T
  | none=>T
theorem Uz {T:List (Nat × AV)} {t:Bool} (G:ZA ops o (look T)=some t):look (Zb ops o T t)=look T:=by
 unfold ZA at G;unfold Zb;cases hg:o.guard with
 | none=>rfl
 | some p =>
  obtain ⟨j,want⟩:=p;simp only [hg] at G;cases hj:ops[j]? with
  | none=>simp only [hj]
  | some J =>
   simp only [hj] at G ⊢;cases hd:J.dst with
   | none=>simp only
   | some d =>
    simp only [hd] at G ⊢;split at G
    ·rename_i b hb;simp only [QN] at G;subst G;simp only [hb];funext x;simp only [look];by_cases e:d=x
     ·subst e;simp only [if_true,hb];cases b <;> cases want <;> rfl
     ·simp [e]
    ·rename_i O hb;simp only [hb]
    ·cases G
def ZO (T:Nat→Option AV):Op→Option (FuncId × List AV)
 | .call ⟨.value (.func f),args,_⟩=>match Sj T args.toList with | some G=>some (f,G) | none=>none
 | .call ⟨.value (.tmp t),args,_⟩ =>
  match T t,Sj T args.toList with
  | some (.fn (.func f) l m),some G=>some (f,l++G++m)
  | some (.p (.val (.func (.func f) l m))),some G=>some (f,(l.toList.map fun c=>.p (.val c))++G++(m.toList.map fun c=>.p (.val c)))
  | _,_=>none
 | _=>none
def LB (b:Bool) (A B:Prop):Prop:=(b=true→A)∧(b=false→B)
theorem ZB (A B:Prop):LB true A B=A:=by simp [LB]
theorem Gw (A B:Prop):LB false A B=B:=by simp [LB]
theorem Hf {b:Bool} {A B C:Prop} (h:LB b A B) (G:b=true→A→C) (J:b=false→B→C):C:=by
 cases b
 ·exact J rfl (h.2 rfl)
 ·exact G rfl (h.1 rfl)
def XK (s:St) (dst:Option Tmp) (u:Xe):St:=⟨match dst with | some d=>(d,u.1) :: s.T | none=>s.T,match u.2.1 with | some G=>G :: s.H | none=>s.H⟩
def Ky (N:Nat):Option Tmp→Bool
 | none=>true
 | some d=>decide (d < N)
def O1 (N:Nat) (o:Oper) (s:St) (K:St→Prop):Option Xe→Prop
 | some u=>Ky N o.dst=true∧K (XK s o.dst u)
 | none=>False
def K7 (P:Program) (f:FuncId):Bool:=(P.funcs[f]?).any (fun fn=>fn.body.isSome&&fn.name != "runtime.NumGoroutine")
def pX (P:Program) (N:Nat) (o:Oper) (s:St) (K:St→Prop):Prop :=
 (∀ c,o.op ≠ .defer c)∧Ky N o.dst=true∧∀ φ M0 D a w,Q6 φ M0 N D (look s.T) (look s.H) a w→∃ x s',look s'.T=look s.T∧K (St.put s' o.dst x)∧Yield P o φ M0 (look s.H) a w x (look s'.H)
def XP (P:Program) (N:Nat) (o:Oper) (s:St) (K:St→Prop) (Q:AX→St→Prop):Prop :=
 match o.op with
 | .pick c x y=>match Za (look s.T) c with
  | some (.p (.val (.bool b)))=>LB b (O1 N o s K (VM (look s.T) x)) (O1 N o s K (VM (look s.T) y))
  | _=>False
 | .panic x=>match Za (look s.T) x with | some (.ifc t v)=>Q (.panic (.ifc t v)) s | _=>False
 | .call ⟨.value f,args,ts⟩=>match ZO (look s.T) (.call ⟨.value f,args,ts⟩) with
  | some (f,args)=>K7 P f=true∧Xl P N f args o.dst s K Q
  | none=>False
 | _=>O1 N o s K (WW P o (look s.T) (look s.H))∨pX P N o s K
def YAt (P:Program) (l:Nat) (args:Array Value) (w:World) (R:Ending→World→Prop):Prop:=YieldAt Fence.wide 0 P l args w R
def iX (P:Program) (b:Nat) (args:List AV) (h:QG) (R:Zz→QG→Prop):Prop :=
 ∀ φ M0 w G,Zw φ h w M0→Qi φ h w (MM φ h M0) args G→YAt P (φ b) G.toArray w fun e w' =>
  ∃ φ' r h',R r h'∧Zw φ' h' w' M0∧QT φ h w φ' h' w'∧iW φ' h' w' (MM φ' h' M0) r e
def YEx (P:Program) (N:Nat) (b:Nat) (args:List AV) (dst:Option Tmp) (s:St) (K:St→Prop) (Q:AX→St→Prop):Prop :=
 ∀ φ M0 D a w G,Q6 φ M0 N D (look s.T) (look s.H) a w→Qi φ (look s.H) w (MM φ (look s.H) M0) args G→YAt P (φ b) G.toArray w fun e w' =>
  match e with
  | .returned v=>∃ φ' s',K s'∧Q6 φ' M0 N D (look s'.T) (look s'.H) (a.put dst v) w'∧QT φ (look s.H) w φ' (look s'.H) w'
  | .panicked chain=>Post N D Q φ M0 (look s.H) w (.panic chain) a w'
  | .outgrown=>False
def yieldOf (T:Nat→Option AV):Op→Option (Nat × List AV)
 | .call ⟨.value (.tmp t),args,_⟩ =>
  match T t with
  | some (.yv b)=>match Sj T args.toList with | some G=>some (b,G) | none=>none
  | _=>none
 | _=>none
def YOp (P:Program) (N:Nat) (o:Oper) (s:St) (K:St→Prop) (Q:AX→St→Prop):Option (Nat × List AV)→Prop
 | some (b,args)=>YEx P N b args o.dst s K Q
 | none=>XP P N o s K Q
def KT (P:Program) (N:Nat) (ops:Array Oper) (Q:AX→St→Prop):List Oper→St→Prop
 | [],s=>Q .normal s
 | o :: rest,s =>
  match ZA ops o (look s.T) with
  | some b=>LB b (YOp P N o ⟨Zb ops o s.T true,s.H⟩ (KT P N ops Q rest) Q (yieldOf (look (Zb ops o s.T true)) o.op)) (Ky N o.dst=true∧KT P N ops Q rest (St.put ⟨Zb ops o s.T false,s.H⟩ o.dst (.p (.val undef))))
  | none=>False
theorem ZL {d:Option Tmp} (G:Ky N d=true):∀ t,d=some t→t < N:=by
 rintro t rfl;simpa [Ky] using G
theorem We {args:Array Value} (hf:(P.funcs[f]?).any (fun fn=>fn.body.isSome&&fn.name != "runtime.NumGoroutine")=true):(callFunc f args).run P w=.ok (.enter f args) w:=by
 cases hq:P.funcs[f]? with
 | none=>simp [hq] at hf
 | some fn =>
  simp only [hq,Option.any_some,Ze,bne_iff_ne] at hf;have G:¬ fn.body=none:=by intro hb; simp [hb] at hf
  simp [callFunc,program,Sem.run,hq,G,hf.2]
theorem Oper.wp_mono2 {K K':Act→World→Prop} {Q:Exit→Act→World→Prop} (G:o.wp P a w K Q) (h:∀ a w,K a w→K' a w)
  (O:∀ e a w,Q e a w→Q' e a w):o.wp P a w K' Q':=by
 unfold Oper.wp at *;generalize (execOp a.eval o).run P w=r at *;cases r with
 | ok n w' =>
  cases n <;> simp only [Oper.upon] at G ⊢ <;>
   first
    | exact h _ _ G
    | exact Calls.mono G (fun e w'' J=>by cases e <;> first | exact h _ _ J | exact O _ _ _ J | exact ⟨_,_,O _ _ _ J.choose_spec.choose_spec⟩)
    | exact Rows.mono G (fun _ _ J=>h _ _ J)
 | halt x w'=>cases x <;> simp only [Oper.upon] at G ⊢ <;> exact O _ _ _ G
theorem Nv (r:Q6 φ M0 N D T h a w) (hf:ZO T o.op=some (f,args))
  (hb:K7 P f=true):∃ U:List Value,Qi φ h w (MM φ h M0) args U∧(execOp a.eval o).run P w=.ok (.enter f U.toArray) w:=by
 unfold ZO at hf;split at hf
 ·rename_i f0 G ts Z;split at hf
  ·rename_i U J;simp only [QN,Prod.mk.injEq] at hf;obtain ⟨rfl,rfl⟩:=hf;refine ⟨G.toList.map a.eval,Fh r J,?_⟩;have e1:G.map a.eval=(G.toList.map a.eval).toArray:=by apply Array.ext'; simp
   simp only [execOp,Z,resolve,Act.eval,Deferred.ofValue,Sem.run_bind,Sem.run_pure,Result.andThen_ok,invoke];rw [We hb];congr 2;rw [← e1];simp
  ·cases hf
 ·rename_i t G ts Z;split at hf
  ·rename_i f0 l m U ht J;simp only [QN,Prod.mk.injEq] at hf;obtain ⟨rfl,rfl⟩:=hf;have Y:=(r.tm t _ ht).2;simp only [Qe] at Y;obtain ⟨l',m',h3,h4,h5⟩:=Y;refine ⟨l'++G.toList.map a.eval++m',Zi (Zi h4 (Fh r J)) h5,?_⟩;have O:a.eval (.tmp t)=.func (.func f0) l'.toArray m'.toArray:=h3;simp only [execOp,Z,resolve,O,Deferred.ofValue,Sem.run_bind,Sem.run_pure,Result.andThen_ok,invoke];rw [We hb];congr 2;apply Array.ext';simp
  ·rename_i f0 l m U ht J;simp only [QN,Prod.mk.injEq] at hf;obtain ⟨rfl,rfl⟩:=hf;have Y:=(r.tm t _ ht).2;simp only [Qe,QH] at Y;refine ⟨l.toList++G.toList.map a.eval++m.toList,Zi (Zi (Fe _) (Fh r J)) (Fe _),?_⟩;have O:a.eval (.tmp t)=.func (.func f0) l m:=Y;simp only [execOp,Z,resolve,O,Deferred.ofValue,Sem.run_bind,Sem.run_pure,Result.andThen_ok,invoke];rw [We hb];congr 2;apply Array.ext';simp
  ·cases hf
 ·cases hf
theorem xq (hd:Ky N o.dst=true) (O:K (XK s o.dst u))
  (Y:Yield P o φ M0 (look s.H) a w u.1 (ap (look s.H) u.2.1)) (r:Q6 φ M0 N D (look s.T) (look s.H) a w) :
  o.wp P a w (fun a' w'=>∃ φ' s',K s'∧Q6 φ' M0 N D (look s'.T) (look s'.H) a' w'∧QT φ (look s.H) w φ' (look s'.H) w') (Post N D Q φ M0 (look s.H) w):=by
 obtain ⟨nx,v,w',φ',h1,h2,Z,h4,J,h6⟩:=Y
 have G:look (XK s o.dst u).H=ap (look s.H) u.2.1:=by
  unfold XK ap;cases hq:u.2.1 with
  | none=>rfl
  | some bk=>rfl
 have U:Q6 φ' M0 N D (look (XK s o.dst u).T) (look (XK s o.dst u).H) (a.put o.dst v) w':=by
  have r3:Q6 φ' M0 N D (look s.T) (ap (look s.H) u.2.1) a w':=r.keep J h6 h4;rw [G];have:=Q6.put (s:=⟨s.T,(XK s o.dst u).H⟩) (d:=o.dst) (x:=u.1) (v:=v) (by rw [G]; exact r3) (ZL hd) (by rw [G]; exact Z);rw [← G];cases hq:o.dst with
  | none=>rw [hq] at this; exact this
  | some d=>rw [hq] at this; exact this
 unfold Oper.wp;rw [h1];rcases h2 with rfl | ⟨rfl,rfl⟩
 ·exact ⟨φ',_,O,U,by rw [G]; exact J⟩
 ·exact ⟨φ',_,O,U,by rw [G]; exact J⟩
theorem iY (h:pX P N o s K) (r:Q6 φ M0 N D (look s.T) (look s.H) a w) :
  o.wp P a w (fun a' w'=>∃ φ' s',K s'∧Q6 φ' M0 N D (look s'.T) (look s'.H) a' w'∧QT φ (look s.H) w φ' (look s'.H) w') (Post N D Q φ M0 (look s.H) w):=by
 obtain ⟨_,hd,h⟩:=h;obtain ⟨x,s1,hT,J,nx,v,w',φ',h1,h2,Y,h4,G,h6⟩:=h φ M0 D a w r;have Z:Q6 φ' M0 N D (look s1.T) (look s1.H) a w':=by rw [hT]; exact r.keep G h6 h4
 have U:Q6 φ' M0 N D (look (s1.put o.dst x).T) (look (s1.put o.dst x).H) (a.put o.dst v) w':=Q6.put (s:=s1) (d:=o.dst) (x:=x) (v:=v) Z (ZL hd) Y;have O:(s1.put o.dst x).H=s1.H:=by cases hq:o.dst <;> rfl
 unfold Oper.wp;rw [h1];rcases h2 with rfl | ⟨rfl,rfl⟩
 ·exact ⟨φ',_,J,U,by rw [O]; exact G⟩
 ·exact ⟨φ',_,J,U,by rw [O]; exact G⟩
theorem BO (h:XP P N o s K Q) (r:Q6 φ M0 N D (look s.T) (look s.H) a w) :
  o.wp P a w (fun a' w'=>∃ φ' s',K s'∧Q6 φ' M0 N D (look s'.T) (look s'.H) a' w'∧QT φ (look s.H) w φ' (look s'.H) w') (Post N D Q φ M0 (look s.H) w):=by
 unfold XP at h;split at h
 ·rename_i c x y U;split at h
  ·rename_i b hc
   have G:∀ z,O1 N o s K (VM (look s.T) z)→MR (look s.T) c x y=VM (look s.T) z →
     o.wp P a w (fun a' w'=>∃ φ' s',K s'∧Q6 φ' M0 N D (look s'.T) (look s'.H) a' w'∧QT φ (look s.H) w φ' (look s'.H) w') (Post N D Q φ M0 (look s.H) w):=by
    intro z J hp;cases hm:VM (look s.T) z with
    | none=>rw [hm] at J; exact J.elim
    | some u =>
     rw [hm] at J hp;have:=pO (P:=P) r U hp;exact xq J.1 J.2 (by rw [this.1]; exact this.2.2) r
   refine Hf h (fun hb J=>G x J ?_) (fun hb J=>G y J ?_)
   ·subst hb; simp [MR,hc]
   ·subst hb; simp [MR,hc]
  ·exact h.elim
 ·rename_i y U;split at h
  ·rename_i t v hv;have Z:=r.ev hv;have Y:=Z;simp only [Qe] at Y;obtain ⟨z,h3,h4⟩:=Y;unfold Oper.wp
   have:(execOp a.eval o).run P w=.halt (.panic (a.eval y)) w:=by
    simp [execOp,U,h3,Instr.panic,goPanic]
   rw [this];exact ⟨φ, .panic (.ifc t v),s,h,r,QT.refl _ _ _,_,rfl,Z⟩
  ·exact h.elim
 ·rename_i f aa ts U;split at h
  ·rename_i f0 args hf;obtain ⟨hb,O⟩:=h;obtain ⟨vs,h1,Z⟩:=Nv (o:=o) r (by rw [U]; exact hf) hb;unfold Oper.wp;rw [Z];simp only [Oper.upon];refine (O φ M0 D a w vs r h1).mono ?_;intro e w' he;cases e with
   | returned v=>exact he
   | panicked chain=>exact he
   | outgrown=>exact he.elim
  ·exact h.elim
 ·rcases h with h | h
  ·cases hu:WW P o (look s.T) (look s.H) with
   | none=>rw [hu] at h; exact h.elim
   | some u=>rw [hu] at h; exact xq h.1 h.2 (iV r hu) r
  ·exact iY h r
theorem Qep {K:Act→World→Prop} {Q:Exit→Act→World→Prop} (h:o.wp P a w K Q) (J:∀ c,o.op ≠ .defer c):o.wpIn (wd ro) 0 P a w K Q:=by
 refine ⟨fun _ _=>trivial,?_⟩;rw [Oper.semAt_eq _ _ _ J];unfold Oper.wp at h;generalize (execOp a.eval o).run P w=r at *;cases r with
 | ok n w' =>
  cases n with
  | enter f args=>exact ⟨(fun h=>by cases h),callsIn_wide.2 h⟩
  | row row args =>
   refine ⟨(fun h=>by cases h),fun c cs _=>?_⟩;obtain ⟨v,G,U,O⟩:=(h:Rows P row args w' _) c cs;exact ⟨v,G,U,stepsIn_wide.2 O⟩
  | value v=>exact h
  | skip=>exact h
  | defer d=>exact h
  | _=>exact h.elim
 | halt x w'=>cases x <;> first | exact h | exact h.elim
theorem iZ (h:XP P N o s K Q):∀ c,o.op ≠ .defer c:=by
 intro c G;unfold XP at h;simp only [G,WW] at h;rcases h with h | h
 ·exact h
 ·exact h.1 _ G
theorem Qaa {K:Act→World→Prop} {Q:Exit→Act→World→Prop} {l:Nat} {args:Array Value} (J:(execOp a.eval o).run P w=(Instr.yield l args).run P w) (G:∀ c,o.op ≠ .defer c)
  (h:YAt P l args w fun
   | .returned v,w''=>K (a.put o.dst v) w''
   | .panicked chain,w''=>Q (.panic chain) a w''
   | .outgrown,_=>LetsOut Q):o.wpIn (wd ro) 0 P a w K Q:=by
 refine ⟨fun _ _=>trivial,?_⟩;rw [Oper.semAt_eq _ _ _ G,J];obtain ⟨fn,tmps,assign,body,U,O⟩:=h;rw [U];exact ⟨(fun h=>by cases h),O⟩
theorem xu (r:Q6 φ M0 N D T h a w) (hf:yieldOf T o.op=some (b,args)) :
  ∃ O:List Value,Qi φ h w (MM φ h M0) args O∧(execOp a.eval o).run P w=(Instr.yield (φ b) O.toArray).run P w∧∀ c,o.op ≠ .defer c:=by
 unfold yieldOf at hf;split at hf
 ·rename_i t G ts Y;split at hf
  ·rename_i b0 ht;split at hf
   ·rename_i O U;simp only [QN,Prod.mk.injEq] at hf;obtain ⟨rfl,rfl⟩:=hf;have Z:=(r.tm t _ ht).2;simp only [Qe] at Z;have J:a.eval (.tmp t)=.func (.yield (φ b0)) #[] #[]:=Z.1;refine ⟨G.toList.map a.eval,Fh r U,?_,fun c hc=>by rw [Y] at hc; cases hc⟩;have e1:G.map a.eval=(G.toList.map a.eval).toArray:=by apply Array.ext'; simp
    simp only [execOp,Y,resolve,J,Deferred.ofValue,Sem.run_bind,Sem.run_pure,Result.andThen_ok,invoke];rw [← e1];simp
   ·cases hf
  ·cases hf
 ·cases hf
theorem Oper.wpIn_mono2 {F:Fence} {K K':Act→World→Prop} {Q:Exit→Act→World→Prop} (G:o.wpIn F n P a w K Q) (h:∀ a w,K a w→K' a w)
  (O:∀ e a w,Q e a w→Q' e a w):o.wpIn F n P a w K' Q':=by
 unfold Oper.wpIn at *;refine ⟨G.1,?_⟩;have G:=G.2;generalize (o.semAt F.round a.eval).run P w=r at *;cases r with
 | ok x w' =>
  cases x <;> simp only [Oper.uponIn] at G ⊢ <;>
   first
    | exact h _ _ G
    | exact ⟨G.1,CallsIn.mono G.2 (fun e w'' J=>by cases e <;> first | exact h _ _ J | exact O _ _ _ J | exact ⟨_,_,O _ _ _ J.choose_spec.choose_spec⟩)⟩
    | exact ⟨G.1,RowsIn.mono G.2 (fun _ _ J=>h _ _ J)⟩
    | exact ⟨G.1,RoundIn.mono G.2 (fun e w'' J=>by cases e <;> first | exact h _ _ J | exact O _ _ _ J | exact ⟨_,_,O _ _ _ J.choose_spec.choose_spec⟩)⟩
 | halt x w'=>cases x <;> simp only [Oper.uponIn] at G ⊢ <;> exact O _ _ _ G
theorem QfE (h:YOp P N o s K Q (yieldOf (look s.T) o.op)) (r:Q6 φ M0 N D (look s.T) (look s.H) a w) :
  o.wpIn (wd ro) 0 P a w (fun Z w'=>∃ φ' s',K s'∧Q6 φ' M0 N D (look s'.T) (look s'.H) Z w'∧QT φ (look s.H) w φ' (look s'.H) w') (Post N D Q φ M0 (look s.H) w):=by
 cases hy:yieldOf (look s.T) o.op with
 | none=>rw [hy] at h; exact Qep (BO h r) (iZ h)
 | some p =>
  obtain ⟨b,args⟩:=p;rw [hy] at h;obtain ⟨J,Y,U,O⟩:=xu (P:=P) (w:=w) r hy;refine Qaa U O ?_;obtain ⟨fn,tmps,assign,body,g1,g2⟩:=h φ M0 D a w J r Y;refine ⟨fn,tmps,assign,body,g1,g2.mono ?_⟩;intro e w' G;cases e with
  | returned v=>exact G
  | panicked chain=>exact G
  | outgrown=>exact G.elim
theorem O3 {P:Program} {N:Nat} {ro:Option Nat} {D:DB} {ops:Array Oper} {Q:AX→St→Prop}:∀ (l:List Oper) (k:Nat) (s:St) (φ0:Nat→Nat) (h0:QG) (w0:World) (φ:Nat→Nat) (M0:Zn) (a:Act) (w:World),
  (∀ j,l[j]?=ops[k+j]?)→QT φ0 h0 w0 φ (look s.H) w→Q6 φ M0 N D (look s.T) (look s.H) a w→KT P N ops Q l s →
  wpOpsIn (wd ro) 0 P ops (Post N D Q φ0 M0 h0 w0) ((List.range l.length).map (k+·)) a w
 | [],k,s,φ0,h0,w0,φ,M0,a,w,J,E,r,h=>⟨φ, .normal,s,h,r,E,rfl⟩
 | o :: l,k,s,φ0,h0,w0,φ,M0,a,w,J,E,r,h=>by
  have h1:ops[k]?=some o:=by simpa using (J 0).symm
  have hr:(List.range (o :: l).length).map (k+·)=k :: (List.range l.length).map (k+1+·):=by
   simp only [Y9,List.range_succ_eq_map,List.map_cons,List.map_map,Nat.add_zero,List.cons.injEq,true_and];apply List.map_congr_left;intro j _;simp; omega
  rw [hr];simp only [wpOpsIn,h1];have G:∀ j,l[j]?=ops[k+1+j]?:=fun j=>by have:=J (j+1); rwa [show k+(j+1)=k+1+j from by omega] at this
  simp only [KT] at h;split at h
  ·rename_i b O;rw [Fv r O];refine Hf h (fun hb g=>?_) (fun hb g=>?_)
   ·subst hb;simp only [if_true];have U:=Uz O;have r1:Q6 φ M0 N D (look (Zb ops o s.T true)) (look s.H) a w:=by rw [U]; exact r
    refine Go.Abs.Oper.wpIn_mono2 (QfE (s:=⟨Zb ops o s.T true,s.H⟩) g r1) ?_ ?_
    ·rintro Y w' ⟨φ',s',h2,Z,h4⟩;exact O3 l (k+1) s' φ0 h0 w0 φ' M0 Y w' G (E.trans h4) Z h2
    ·intro e Y w' p;exact p.trans E
   ·subst hb;simp only [Bool.false_eq_true,if_false];have U:=Uz O;have r1:Q6 φ M0 N D (look (Zb ops o s.T false)) (look s.H) a w:=by rw [U]; exact r
    refine ⟨fun _ _=>trivial,O3 l (k+1) _ φ0 h0 w0 φ M0 _ w G ?_ (Q6.put (s:=⟨Zb ops o s.T false,s.H⟩) r1 (ZL g.1) (by simp [Qe,QH])) g.2⟩;cases o.dst <;> exact E
  ·exact h.elim
def UO (ops:Array Oper):Bool:=ops.toList.all fun o=>match o.op with | .defer _=>false | _=>true
theorem Nw {P:Program} {ro:Option Nat} {ops:Array Oper} {Q:Exit→Act→World→Prop} (O:UO ops=true) (U:¬ LetsOut Q):∀ (G:Nat) (listed:Array Bool) (a:Act) (w:World),wpAny P .any ops Q G listed a w→wpAnyIn (wd ro) 0 P .any ops Q G listed a w
 | 0,listed,a,w,h=>h
 | G+1,listed,a,w,h=>by
  refine ⟨h.1,fun i hi=>?_⟩;have J:=h.2 i hi;unfold wpOp at J;unfold wpOpIn;cases ho:ops[i]? with
  | none=>simp only [ho] at J ⊢; exact Nw O U G _ a w J
  | some o =>
   simp only [ho] at J ⊢
   have Y:∀ c,o.op ≠ .defer c:=by
    intro c hc;have:=List.all_eq_true.1 O o (by have:=Array.mem_of_getElem? ho; simpa using this);simp [hc] at this
   split at J
   ·rename_i hw;simp only [hw,if_true];rcases J with Z | Z
    ·exact Qep (Oper.wp_mono (fun a w=>Nw O U G _ a w) Z) Y
    ·exact absurd Z.2 U
   ·rename_i hw;simp only [hw];exact ⟨fun _ _=>trivial,Nw O U G _ _ w J⟩
theorem Wh:¬ LetsOut (Post N D Q φ M0 h w):=by
 rintro ⟨a,w',φ',x,s',Y,O,U,G⟩;cases x with
 | normal=>cases G
 | exit i=>cases G
 | ret=>cases G
 | panic v=>obtain ⟨u,J,_⟩:=G; cases J
theorem kW (h:KT P N ops Q ops.toList s):Ex P N ro (.region id ops false) s Q:=by
 intro φ M0 D a w r;refine wpIn_region ?_;have:=O3 (ro:=ro) ops.toList 0 s φ (look s.H) w φ M0 a w zq (QT.refl _ _ _) r h;simpa using this
section
variable {P:Program} {o:Oper} {T T':Nat→Option AV} {h h':QG}
theorem Fw:∀ {l:List Operand},(∀ x ∈ l,Za T' x=Za T x)→Sj T' l=Sj T l
 | [],_=>rfl
 | x :: l,G=>by simp only [Sj,G x zq,Fw (l:=l) (fun y J=>G y (by simp [J]))]
theorem TF:∀ {l:List (Nat × Operand)},(∀ x ∈ l.map (·.2),Za T' x=Za T x)→OE T' l=OE T l
 | [],_=>rfl
 | (i,x) :: l,G=>by simp only [OE,G x zq,TF (l:=l) (fun y J=>G y (by simp at J ⊢; exact .inr J))]
theorem xw (hs:∀ x ∈ o.op.operands,Za T' x=Za T x):Gm P T' o=Gm P T o:=by
 have J:∀ x ∈ o.op.operands.toList,known T' x=known T x:=fun x G=>by unfold known; rw [hs x (by simpa using G)]
 have Z:allKnown T' o.op.operands.toList=allKnown T o.op.operands.toList:=by
  have:∀ l:List Operand,(∀ x ∈ l,known T' x=known T x)→allKnown T' l=allKnown T l:=by
   intro l
   induction l with
   | nil=>intro _; rfl
   | cons x l Y=>intro O; simp only [allKnown,O x zq,Y (fun y U=>O y (by simp [U]))]
  exact this _ J
 unfold Gm;rw [Z];split
 ·rename_i hc;simp only [Ze] at hc
  rw [execOp_congr (ρ:=fun x=>(known T' x).getD undef) (ρ':=fun x=>(known T x).getD undef) o (fun cs b e=>by rw [e] at hc; simp [Xw] at hc) (fun x G=>by
   show (known T' x).getD undef=(known T x).getD undef;rw [J x (by simpa using G)])]
 ·rfl
theorem CG {x:Option Operand} (G:∀ y,x=some y→Za T' y=Za T y):Xx T' d x=Xx T d x:=by
 cases x with
 | none=>rfl
 | some y=>simp only [Xx,G y rfl]
theorem O4 {i:Operand} (G:Jq P T h t x i ok=some u) (hx:Za T' x=Za T x) (hi:Za T' i=Za T i) (hh:∀ b ∈ u.2.2,h' b=h b) :
  Jq P T' h' t x i ok=some u∧J4 P T' h' t x i ok=none:=by
 unfold Jq at G;split at G;rotate_left
 ·cases G
 rename_i kt e b s Z J O;split at G;rotate_left
 ·cases G
 rename_i es hb Y
 have hu:u.2.2=[b]:=by
  split at G
  ·simp only [QN] at G; subst G; rfl
  ·split at G
   ·simp only [QN] at G; subst G; rfl
   ·cases G
 have U:h' b=some (.mf es):=by rw [hh b (by rw [hu]; simp)]; exact hb
 constructor
 ·simp only [Jq,Z,hx,hi,J,O,U,Y]; exact G
 ·simp [J4,Z,hx,hi,J,O,U]
theorem O5 {i:Operand} (G:Uw P T h t x i y=some u) (hn:YO P T h t x i y=none) (hx:Za T' x=Za T x) (hi:Za T' i=Za T i) (hy:Za T' y=Za T y) (hh:∀ b ∈ u.2.2,h' b=h b) :
  Uw P T' h' t x i y=some u∧YO P T' h' t x i y=none:=by
 unfold Uw at G;split at G;rotate_left
 ·cases G
 rename_i kt e b s v ht J U O;split at G;rotate_left
 ·cases G
 rename_i es hb Z
 have hu:u.2.2=[b]:=by
  split at G
  ·simp only [QN] at G; subst G; rfl
  ·cases G
 have Y:h' b=h b:=hh b (by rw [hu]; simp);constructor
 ·simp only [Uw,ht,hx,hi,hy,J,U,O,Y,Z,hb]; exact G
 ·rw [← hn]; simp only [YO,ht,hx,hi,hy,J,U,O,Y]
theorem O6 {i:Operand} (G:Ux P T h t x i=some u) (hx:Za T' x=Za T x) (hi:Za T' i=Za T i) (Z:∀ b ∈ u.2.2,h' b=h b):Ux P T' h' t x i=some u:=by
 unfold Ux at G;split at G;rotate_left
 ·cases G
 rename_i kt e b s ht J O;split at G;rotate_left
 ·cases G
 rename_i es hb U
 have hu:u.2.2=[b]:=by
  split at G
  ·simp only [QN] at G; subst G; rfl
  ·cases G
 have Y:h' b=some (.mf es):=by rw [Z b (by rw [hu]; simp)]; exact hb
 simp only [Ux,ht,hx,hi,J,O,Y,U]; exact G
theorem vJ {i:Operand} (G:J4 P T h t x i ok=some u) (hx:Za T' x=Za T x) (hi:Za T' i=Za T i) (U:∀ b ∈ u.2.2,h' b=h b):J4 P T' h' t x i ok=some u:=by
 simp only [J4,hx,hi] at G ⊢;split at G
 ·rename_i kt e b kv _ _ _;have hb:∀ es,h b=some (.mp es)→u.2.2=[b]→h' b=some (.mp es):=fun es Z Y=>by rw [U b (by rw [Y]; simp)]; exact Z
  split at G
  ·rename_i es k kd J _ _;split at G
   ·rename_i O
    have:u.2.2=[b]:=by
     split at G
     ·simp only [QN] at G; subst G; rfl
     ·split at G
      ·simp only [QN] at G; subst G; rfl
      ·cases G
     ·cases G
    simp only [hb es J this, *,if_true]
   ·cases G
  ·cases G
 ·cases G
theorem A9 {i:Operand} (G:YO P T h t x i y=some u) (hx:Za T' x=Za T x) (hi:Za T' i=Za T i) (U:Za T' y=Za T y) (Y:∀ b ∈ u.2.2,h' b=h b):YO P T' h' t x i y=some u:=by
 simp only [YO,hx,hi,U] at G ⊢;split at G
 ·rename_i kt e b kv y0 _ _ _ _;have hb:∀ es,h b=some (.mp es)→u.2.2=[b]→h' b=some (.mp es):=fun es h1 Z=>by rw [Y b (by rw [Z]; simp)]; exact h1
  split at G
  ·rename_i es k kd v J _ _ _;split at G
   ·rename_i O
    have:u.2.2=[b]:=by
     split at G
     ·simp only [QN] at G; subst G; rfl
     ·simp only [QN] at G; subst G; rfl
     ·cases G
    simp only [hb es J this, *,if_true]
   ·cases G
  ·cases G
 ·cases G
theorem kX {x y:Option Xe} (G:Ti x y=some u):x=some u∨x=none∧y=some u:=by
 unfold Ti at G;split at G
 ·exact .inl G
 ·exact .inr ⟨rfl,G⟩
theorem rU (G:WW P o T h=some u) (hs:∀ x ∈ o.op.operands,Za T' x=Za T x) (U:∀ b ∈ u.2.2,h' b=h b):WW P o T' h'=some u:=by
 have hp:=xw (P:=P) hs;unfold WW at G ⊢;generalize aq:o.op=q at G hs ⊢;cases q
 case move x=>simp only [VM,hs x (by simp [Op.operands])] at G ⊢; exact G
 case assign x=>simp only [VM,hs x (by simp [Op.operands])] at G ⊢; exact G
 case pick c x y=>simp only [MR,VM,hs c (by simp [Op.operands]),hs x (by simp [Op.operands]),hs y (by simp [Op.operands])] at G ⊢; exact G
 case alloc ty =>
  simp only at G ⊢;split at G
  ·split at G
   ·unfold zz at G ⊢;split at G
    ·rename_i d cs hd ao;split at G
     ·rename_i Z;simp only [QN] at G;subst G;rw [U d zq,Z]
     ·cases G
    ·cases G
   ·cases G
  ·cases G
 case box ty x =>
  simp only [hs x (by simp [Op.operands])] at G ⊢;split at G
  ·unfold zz at G ⊢;split at G
   ·rename_i d cs hd ao;split at G
    ·rename_i Z;simp only [QN] at G;subst G;rw [U d zq,Z]
    ·cases G
   ·cases G
  ·cases G
 case build t ps =>
  simp only [OG,TF (T':=T') (T:=T) (l:=ps.toList) (fun x J=>hs x (by simpa [Op.operands] using J))] at G ⊢;exact G
 case makeMap t rsv =>
  simp only [CB] at G ⊢;split at G
  ·rename_i d hd;split at G
   ·rename_i Z;simp only [QN] at G;subst G;have:h' d=none:=by rw [U d zq]; exact Z
    simp [this]
   ·cases G
  ·cases G
 case lookup t x i ok =>
  have J:=hs x (by simp [Op.operands]);have hi:=hs i (by simp [Op.operands]);rcases kX G with h1 | ⟨_,h1⟩
  ·simp only [Ti,vJ h1 J hi U]
  ·obtain ⟨h2,h3⟩:=O4 h1 J hi U;simp only [Ti,h2,h3]
 case mapUpdate t x i y =>
  have J:=hs x (by simp [Op.operands]);have hi:=hs i (by simp [Op.operands]);have Y:=hs y (by simp [Op.operands]);rcases kX G with h1 | ⟨h0,h1⟩
  ·simp only [Ti,A9 h1 J hi Y U]
  ·obtain ⟨h2,h3⟩:=O5 h1 h0 J hi Y U;simp only [Ti,h2,h3]
 case makeSlice t x y=>exact jZ G (hs x (by simp [Op.operands])) (hs y (by simp [Op.operands])) U
 case buildSlice t n ps =>
  simp only at G ⊢;split at G
  ·rename_i hn; rw [if_pos hn]; exact mh G U
  rename_i hn;rw [if_neg hn];rw [rT (T:=T) (l:=ps.toList) (fun x J=>hs x (by simpa [Op.operands] using J))];split at G
  ·rename_i hB;rw [if_pos hB];simp only [U9,TF (T':=T') (T:=T) (l:=ps.toList) (fun x J=>hs x (by simpa [Op.operands] using J))] at G ⊢;split at G
   ·rename_i e d qs _ _ _;split at G
    ·rename_i i _;split at G
     ·rename_i z Z hd;split at G
      ·rename_i zs ab;split at G
       ·rename_i ac;split at G
        ·rename_i rs ad;split at G
         ·rename_i hc;simp only [QN] at G;subst G;simp only [U d zq,hd,Z,ab];rw [if_pos ac];simp only [ad];rw [if_pos hc]
         ·cases G
        ·cases G
       ·cases G
      ·cases G
     ·cases G
    ·cases G
   ·cases G
  rename_i hB;rw [if_neg hB];simp only [U8,TF (T':=T') (T:=T) (l:=ps.toList) (fun x J=>hs x (by simpa [Op.operands] using J))] at G ⊢;split at G
  ·rename_i e d qs _ _ _;split at G
   ·rename_i i _;split at G
    ·rename_i z Z hd;split at G
     ·rename_i zs ab;split at G
      ·rename_i ac;split at G
       ·rename_i rs ad;split at G
        ·rename_i pvs am;split at G
         ·rename_i hc;simp only [QN] at G;subst G;simp only [U d zq,hd,Z,ab];rw [if_pos ac];simp only [ad,am];rw [if_pos hc]
         ·cases G
        ·cases G
       ·cases G
      ·cases G
     ·cases G
    ·cases G
   ·cases G
  ·cases G
 case load ty x =>
  have J:=hs x (by simp [Op.operands]);simp only at G ⊢;rw [J];split at G
  ·rename_i O; rw [if_pos O]; exact jY G J U
  rename_i O;rw [if_neg O];simp only [Pz,hs x (by simp [Op.operands])] at G ⊢;split at G
  ·split at G
   ·rename_i b off J;split at G
    ·rename_i tb cs hb
     have an:h' b=some (.box tb cs):=by
      rw [← hb];refine U b ?_;split at G
      ·split at G
       ·simp only [QN] at G; subst G; simp
       ·cases G
      ·split at G
       ·simp only [QN] at G; subst G; simp
       ·cases G
     simp only [an];exact G
    ·cases G
   ·exact G
   ·cases G
  ·cases G
 case store ty x y =>
  have J:=hs x (by simp [Op.operands]);have Y:=hs y (by simp [Op.operands]);simp only at G ⊢;rw [J];split at G
  ·rename_i O; rw [if_pos O]; exact vD G J Y U
  rename_i O;rw [if_neg O];simp only [OC,hs x (by simp [Op.operands]),hs y (by simp [Op.operands])] at G ⊢;split at G
  ·rename_i i b off v _ _ _;split at G
   ·rename_i tb cs vs hb ai;split at G
    ·rename_i hc;simp only [QN] at G;subst G;simp only [U b zq,hb,ai];rw [if_pos hc]
    ·cases G
   ·cases G
  ·cases G
 case nilCheck x =>
  have J:=hs x (by simp [Op.operands]);simp only at G ⊢;rw [J];split at G
  ·rename_i O; rw [if_pos O]; exact fV G J U
  rename_i O;rw [if_neg O];simp only [Uu,J] at G ⊢; rw [hp]; exact G
 case fieldAddr t x f =>
  have J:=hs x (by simp [Op.operands]);simp only at G ⊢;rw [J];split at G
  ·rename_i O; rw [if_pos O]; exact Sq G J U
  rename_i O;rw [if_neg O];simp only [Xf,J] at G ⊢; exact G
 case field t x f=>simp only [OD,hs x (by simp [Op.operands])] at G ⊢; exact G
 case indexAddr t x i =>
  have J:=hs x (by simp [Op.operands]);have hi:=hs i (by simp [Op.operands]);simp only at G ⊢;rw [J];split at G
  ·rename_i O; rw [if_pos O]; exact Sn G J hi U
  rename_i O;rw [if_neg O];simp only [Xg,Fu,J,hi] at G ⊢; exact G
 case index t x i=>simp only [Si,BK,hs x (by simp [Op.operands]),hs i (by simp [Op.operands])] at G ⊢; rw [hp]; exact G
 case slice t x lo hi mx =>
  have e1:∀ d,Xx T' d lo=Xx T d lo:=fun d=>CG (fun y Y=>hs y (by simp [Op.operands,Y]))
  have e2:∀ d,Xx T' d hi=Xx T d hi:=fun d=>CG (fun y Y=>hs y (by simp [Op.operands,Y]))
  have e3:∀ d,Xx T' d mx=Xx T d mx:=fun d=>CG (fun y Y=>hs y (by simp [Op.operands,Y]))
  simp only [Tz,hs x (by simp [Op.operands]),e1,e2,e3] at G ⊢;rw [hp];exact G
 case extract x i=>simp only [Fg,hs x (by simp [Op.operands])] at G ⊢; exact G
 case makeFunc f a b =>
  simp only [Rk,Fw (T':=T') (T:=T) (l:=a.toList) (fun x J=>hs x (by simp [Op.operands] at J ⊢; exact .inl J)),Fw (T':=T') (T:=T) (l:=b.toList) (fun x J=>hs x (by simp [Op.operands] at J ⊢; exact .inr J))] at G ⊢;exact G
 case makeInterface t x=>simp only [WZ,hs x (by simp [Op.operands])] at G ⊢; exact G
 case typeAssert x xt t ok=>simp only [U7,hs x (by simp [Op.operands])] at G ⊢; exact G
 case binOp op tx x y ty =>
  have J:=hs x (by simp [Op.operands]);have Y:=hs y (by simp [Op.operands]);have e1:Sm T' op x y=Sm T op x y:=by simp only [Sm,J,Y]
  have e2:aEq P T' op tx x y=aEq P T op tx x y:=by simp only [aEq,mi,J,Y]
  simp only [e1,e2,hp] at G ⊢
  have last:Sr P T h op tx x y=some u→Sr P T' h' op tx x y=some u:=by
   intro G;unfold Sr at G ⊢;rw [J,Y];split at G
   ·rename_i e S es t m k _ _ _;split at G
    ·rename_i ta Sa n hb;split at G
     ·rename_i ae
      have:h' t=some (.arr ta Sa n):=by
       rw [U t ?_]
       ·exact hb
       ·split at G
        ·simp only [QN] at G; subst G; simp
        ·simp only [QN] at G; subst G; simp
        ·cases G
      simp only [this,ae];exact G
     ·cases G
    ·cases G
   ·cases G
  cases q1:Sm T op x y with
  | some z=>rw [q1] at G; exact G
  | none =>
   rw [q1] at G;cases q2:aEq P T op tx x y with
   | some z=>rw [q2] at G; exact G
   | none =>
    rw [q2] at G;cases q3:Gm P T o with
    | some z=>rw [q3] at G; exact G
    | none =>
     rw [q3] at G;exact last G
 case unOp op tx x=>simp only [aUn,hs x (by simp [Op.operands])] at G ⊢; rw [hp]; exact G
 case convert src dst x=>simp only [jW,hs x (by simp [Op.operands])] at G ⊢; rw [hp]; exact G
 case call c =>
  obtain ⟨callee,args,types⟩:=c;cases callee
  case builtin b =>
   cases b
   case len =>
    simp only at G ⊢;split at G
    ·rename_i x t;have J:=hs x (by simp [Op.operands,Call.operands]);rw [J];split at G
     ·rename_i O; rw [if_pos O]; exact fZ G J U
     rename_i O;rw [if_neg O];simp only [iI,xc,iU,J] at G ⊢;rw [hp];exact G
    ·cases G
   case delete =>
    simp only at G ⊢;split at G
    ·exact O6 G (hs _ (by simp [Op.operands,Call.operands])) (hs _ (by simp [Op.operands,Call.operands])) U
    ·cases G
   case append =>
    simp only at G ⊢;split at G
    ·rename_i s x t t';split at G
     ·rename_i ht;subst ht;simp only [if_true];have af:=hs s (by simp [Op.operands,Call.operands]);have ak:=hs x (by simp [Op.operands,Call.operands]);rw [af];split at G
      ·rename_i O; rw [if_pos O]; exact zH G af ak U
      rename_i O;rw [if_neg O];simp only [F8,hs s (by simp [Op.operands,Call.operands]),hs x (by simp [Op.operands,Call.operands])] at G ⊢;split at G
      ·split at G
       ·split at G
        ·split at G
         ·rename_i aj;simp only [aj,and_self,if_true];split at G
          ·rename_i hn;simp only [hn,if_true];split at G
           ·rename_i aa; simp only [aa,if_true] at G ⊢; exact G
           ·rename_i aa;simp only [aa,if_false];split at G
            ·rename_i d hd;split at G
             ·rename_i hc;simp only [QN] at G;subst G;have:h' d=none:=by rw [U d zq]; exact hc.1
              simp [this,hc.2]
             ·cases G
            ·cases G
          ·rename_i hn;simp only [hn];split at G
           ·rename_i S es tk _;split at G
            ·rename_i ty S' n al
             have ah:h' tk=some (.arr ty S' n):=by
              rw [← al];refine U tk ?_;split at G
              ·simp only [QN] at G; subst G; simp
              ·split at G
               ·simp only [QN] at G; subst G; simp
               ·cases G
             simp only [ah];exact G
            ·cases G
           ·cases G
         ·cases G
        ·cases G
       ·cases G
      ·cases G
     ·cases G
    ·cases G
   case max=>simp only at G ⊢; rw [hp]; exact G
   case min=>simp only at G ⊢; rw [hp]; exact G
   all_goals cases G
  all_goals cases G
 all_goals cases G
end
def XL {α:Type} (F:Nat→Option α):Option (Nat × α)→Nat→Option α
 | none=>F
 | some (b,v)=>fun t=>if b=t then some v else F t
def vF {α:Type}:List (Option (Nat × α))→(Nat→Bool)→(Nat→Option α)→Nat→Option α
 | [],_,F=>F
 | c :: G,L,F=>vF G (fun j=>L (j+1)) (if L 0 then XL F c else F)
theorem XQ {α:Type} {t:Nat}:∀ (G:List (Option (Nat × α))) (L U:Nat→Bool) (F O:Nat→Option α),F t=O t→(∀ (j:Nat) v,G[j]?=some (some (t,v))→L j=U j)→vF G L F t=vF G U O t
 | [],_,_,_,_,J,_=>J
 | c :: G,L,U,F,O,J,Y=>by
  simp only [vF];refine XQ G _ _ _ _ ?_ (fun j v hj=>Y (j+1) v (by simpa using hj));cases c with
  | none=>simp only [XL]; split <;> split <;> exact J
  | some Z =>
   obtain ⟨b,v⟩:=Z;by_cases e:b=t
   ·have:=Y 0 v (by simp [e]);rw [this];split
    ·simp [XL,e]
    ·exact J
   ·split <;> split <;> simp [XL,e,J]
theorem pY {α:Type} {t:Nat} {v:α}:∀ (G:List (Option (Nat × α))) (L:Nat→Bool) (F:Nat→Option α) (i:Nat),G[i]?=some (some (t,v))→L i=true→(∀ (j:Nat) u,i < j→G[j]?=some (some (t,u))→L j=false)→vF G L F t=some v
 | [],_,_,i,hi,_,_=>by simp at hi
 | c :: G,L,F,0,hi,J,O=>by
  simp only [List.getElem?_cons_zero,QN] at hi;subst hi;simp only [vF,J,if_true];rw [XQ G (fun j=>L (j+1)) (fun _=>false) _ (fun _=>some v) (by simp [XL]) (fun j u U=>O (j+1) u zo (by simpa using U))]
  have:∀ (G:List (Option (Nat × α))) (F:Nat→Option α),vF G (fun _=>false) F=F:=by
   intro G
   induction G with
   | nil=>intro F; rfl
   | cons c G Y=>intro F; simp only [vF,Bool.false_eq_true,if_false]; exact Y F
  rw [this]
 | c :: G,L,F,i+1,hi,J,O=>by
  simp only [vF];exact pY G (fun j=>L (j+1)) _ i (by simpa using hi) J (fun j u Z U=>O (j+1) u zo (by simpa using U))
theorem vK (G:List (Option (Nat × α))) (L:Nat→Bool) (F:Nat→Option α) (i:Nat) (c:Option (Nat × α)) (hi:G[i]?=some c)
  (Z:∀ b v,c=some (b,v)→∀ (j:Nat) u,i < j→G[j]?=some (some (b,u))→L j=false) :
  vF G (fun j=>L j||decide (j=i)) F=XL (vF G L F) c:=by
 funext t;cases c with
 | none =>
  refine XQ G _ _ _ _ rfl (fun j v J=>?_);have:j ≠ i:=fun e=>by rw [e,hi] at J; cases J
  simp [this]
 | some Y =>
  obtain ⟨b,v⟩:=Y;by_cases e:b=t
  ·subst e;simp only [XL,if_true];refine pY G _ F i hi zq (fun j u O J=>?_);have:=Z b v rfl j u O J;have h2:j ≠ i:=by omega
   simp [this,h2]
  ·simp only [XL,e,if_false];refine XQ G _ _ _ _ rfl (fun j u J=>?_);have:j ≠ i:=fun U=>by rw [U,hi] at J; cases J; exact e rfl
   simp [this]
theorem vL (G:List (Option (Nat × α))) (L J:Nat→Bool) (F:Nat→Option α) (O:∀ j,j < G.length→L j=J j):vF G L F=vF G J F:=by
 funext t;exact XQ G L J F F rfl (fun j v U=>O j (List.getElem?_eq_some_iff.1 U).1)
theorem J5 {α:Type}:∀ (G:List (Option (Nat × α))) (L:Nat→Bool) (F:Nat→Option α),(∀ j,j < G.length→L j=false)→vF G L F=F
 | [],_,_,_=>rfl
 | c :: G,L,F,J=>by
  simp only [vF,J 0 zq,Bool.false_eq_true,if_false];exact J5 G _ F (fun j O=>J (j+1) (by simp; omega))
structure Ev where
 x:AV
 wr:Option (Nat × Blk)
 rd:List Nat
def wT (o:Oper) (e:Ev):Option (Nat × AV):=o.dst.map fun d=>(d,e.x)
def pvs (G:List Value):List AV:=G.map fun v=>.p (.val v)
def Qhp (J:List AV→AV):Prop:=∀ (φ:Nat→Nat) (h:QG) (w:World) (M:Zn) (args:List AV) (G:List Value) (v:Value),Qi φ h w M args G→Qe φ h w M (J (pvs G)) v→Qe φ h w M (J args) v
def Qab:AV→Bool | .tsl _ _ _=>true | .p (.sl _ _)=>true | _=>false
def SlV (G:List Value):Prop:=∀ v ∈ G,∃ a l c,v=Value.slice a l c
theorem p8 {φ:Nat→Nat} {h:QG} {w:World} {M:Zn}:∀ {xs:List AV} {O:List Value},xs.all Qab=true→Qi φ h w M xs O→SlV O
 | [],O,_,G=>by simp only [Qi] at G; subst G; intro v J; cases J
 | x :: xs,O,U,G=>by
  simp only [Qi] at G;obtain ⟨y,ys,rfl,Y,Z⟩:=G;simp only [List.all_cons,Ze] at U;intro v J;rcases List.mem_cons.1 J with rfl | J
  ·have hp:∀ S es,QH w M (.sl S es) v→∃ a l c,v=Value.slice a l c:=by
    intro S es hp;simp only [QH] at hp;rcases hp with ⟨r,o,cap,e,_⟩ | ⟨_,a,cap,e⟩
    ·exact ⟨_,_,_,e⟩
    ·exact ⟨_,_,_,e⟩
   cases x with
   | tsl S es t=>simp only [Qe] at Y; exact hp S es Y.1
   | p q =>
    cases q with
    | sl S es=>simp only [Qe] at Y; exact hp S es Y
    | _=>simp [Qab] at U
   | _=>simp [Qab] at U
  ·exact p8 U.2 Z v J
def Step1 (P:Program) (N:Nat) (ops:Array Oper) (o:Oper) (T:Nat→Option AV) (h:QG) (e:Ev):Prop :=
  Ky N o.dst=true ∧
  ((ZA ops o T=some false∧e=⟨.p (.val undef),none,[]⟩) ∨
   (ZA ops o T=some true∧WW P o T h=some (e.x,e.wr,e.rd)) ∨
   (ZA ops o T=some true∧∃ f args args',ZO T o.op=some (f,args)∧(P.funcs[f]?).any (fun fn=>fn.body.isSome&&fn.name != "runtime.NumGoroutine")=true∧PR args args'∧YQ args'=true ∧
     QB P f args' (.ret e.x)∧KS e.x=true∧e.wr=none∧e.rd=[]) ∨
   (ZA ops o T=some true∧∃ (f:FuncId) (args:List AV) (J:List AV→AV),ZO T o.op=some (f,args)∧(P.funcs[f]?).any (fun fn=>fn.body.isSome&&fn.name != "runtime.NumGoroutine")=true ∧
     args.all Qab=true∧(∀ G:List Value,SlV G→G.length=args.length→QB P f (pvs G) (.ret (J (pvs G))))∧(∀ G,KS (J (pvs G))=true)∧Qhp J∧e.x=J args∧e.wr=none∧e.rd=[]))
theorem rV (G:∀ t ∈ o.looksAt ops,T' t=T t):∀ x ∈ o.op.operands,Za T' x=Za T x:=by
 intro x J;cases x with
 | tmp t=>exact G t (List.mem_append_left _ (List.mem_filterMap.2 ⟨.tmp t,by simpa using J,rfl⟩))
 | _=>rfl
theorem xx (O:∀ t ∈ o.looksAt ops,T' t=T t):ZA ops o T'=ZA ops o T:=by
 unfold ZA;cases hg:o.guard with
 | none=>rfl
 | some G =>
  obtain ⟨g,want⟩:=G;simp only;cases hj:ops[g]? with
  | none=>rfl
  | some J =>
   simp only;cases hd:J.dst with
   | none=>rfl
   | some d =>
    simp only;rw [O d (by simp [Oper.looksAt,hg,hj,hd])]
theorem vM (hs:∀ x ∈ o.op.operands,Za T' x=Za T x):ZO T' o.op=ZO T o.op:=by
 unfold ZO;split
 ·rename_i f args ts J;rw [Fw (fun x G=>hs x (by rw [J]; simp [Op.operands,Call.operands] at G ⊢; exact .inr G))]
 ·rename_i t args ts J;have O:T' t=T t:=hs (.tmp t) (by rw [J]; simp [Op.operands,Call.operands]);rw [O,Fw (fun x G=>hs x (by rw [J]; simp [Op.operands,Call.operands] at G ⊢; exact .inr G))]
 ·rfl
theorem Step1.loc {e:Ev} (s:Step1 P N ops o T h e) (J:∀ t ∈ o.looksAt ops,T' t=T t) (O:∀ b ∈ e.rd,h' b=h b) :
  Step1 P N ops o T' h' e:=by
 have hs:=rV J;refine ⟨s.1,?_⟩;rw [xx J,vM hs];rcases s.2 with G | ⟨G,U⟩ | G | G
 ·exact .inl G
 ·exact .inr (.inl ⟨G,rU U hs O⟩)
 ·exact .inr (.inr (.inl G))
 ·exact .inr (.inr (.inr G))
theorem Q6.putT (r:Q6 φ M0 N D T h a w) {d:Option Tmp} {x:AV}
  (J:∀ t,d=some t→t < N) (O:Qe φ h w (MM φ h M0) x v):Q6 φ M0 N D (XL T (d.map fun d=>(d,x))) h (a.put d v) w:=by
 cases d with
 | none=>exact r
 | some d =>
  have hlt:=J d rfl;refine ⟨r.dfs,by simp [Act.put,r.siz],r.hp,fun t y G=>?_⟩;simp only [Option.map_some,XL] at G;by_cases e:d=t
  ·simp only [e,if_true,QN] at G;subst G;refine ⟨e ▸ hlt,?_⟩;have:(a.put (some d) v).tmps.getD t undef=v:=by subst e; simp [Act.put,r.siz,hlt]
   rw [this]; exact O
  ·simp only [e,if_false] at G;refine ⟨(r.tm t y G).1,?_⟩;have:(a.put (some d) v).tmps.getD t undef=a.tmps.getD t undef:=by simp [Act.put,Array.getElem?_setIfInBounds_ne e]
   rw [this]; exact (r.tm t y G).2
theorem QcA (h:QG) (c:Option (Nat × Blk)):ap h c=XL h c:=by
 cases c with
 | none=>rfl
 | some G=>rfl
theorem Step1.wp {e:Ev} {Q:Exit→Act→World→Prop} (hi:ops[i]?=some o)
  (s:Step1 P N ops o T h e) (r:Q6 φ M0 N D T h a w) {K:Act→World→Prop}
  (hK:∀ φ' a' w',Q6 φ' M0 N D (XL T (wT o e)) (XL h e.wr) a' w'→QT φ h w φ' (XL h e.wr) w'→K a' w'):wpOp P ops Q i K a w:=by
 unfold wpOp;simp only [hi];obtain ⟨hd,hs⟩:=s;rcases hs with ⟨G,rfl⟩ | ⟨G,J⟩ | ⟨G,f,args,args',J,O,h4,h5,h6,h7,h8,h9⟩ | ⟨G,f,args,τ,J,O,ac,h6,h7,h5,h4,h8,h9⟩
 ·rw [Fv r G];simp only [Bool.false_eq_true,if_false];exact hK φ _ w (r.putT (ZL hd) (by simp [Qe,QH])) (QT.refl _ _ _)
 ·rw [Fv r G];simp only [if_true];refine .inl ?_;obtain ⟨nx,v,w',φ',g1,g2,g3,g4,g5,g6⟩:=iV r J;simp only [QcA] at g3 g4 g5 g6;have r3:Q6 φ' M0 N D T (XL h e.wr) a w':=r.keep g5 g6 g4;have Z:=r3.putT (d:=o.dst) (x:=e.x) (v:=v) (ZL hd) g3;unfold Oper.wp;rw [g1];rcases g2 with rfl | ⟨rfl,rfl⟩
  ·exact hK φ' _ w' Z g5
  ·exact hK φ' _ w' Z g5
 ·rw [Fv r G];simp only [if_true];refine .inl ?_;obtain ⟨Y,g1,g2⟩:=Nv r J O;unfold Oper.wp;rw [g2];simp only [Oper.upon];have hH:Zw φ GL w (MB φ h w M0):=He (fun x o hm=>xn hm) r.hp.gm.w r.hp.gm.mb;have hM:∀ r o v,w.cell? ⟨r,o,none⟩=some v→¬ MM φ h M0 r o→w.cell? ⟨r,o,none⟩=some v∧¬ MM φ GL (MB φ h w M0) r o:=fun r o v G J=>⟨G,fun O=>O.elim VY (fun h4=>J h4.1)⟩
  refine (h6 φ (MB φ h w M0) w Y hH ((WE hM).2 _ _ h5 (JJ.2 _ _ _ h4 g1))).mono ?_;rintro e1 w' ⟨φ',r',h',⟨rfl,rfl⟩,aa,E,v,rfl,hv⟩;have U:∀ ro o v,w'.cell? ⟨ro,o,none⟩=some v→¬ MM φ' GL (MB φ h w M0) ro o→w'.cell? ⟨ro,o,none⟩=some v∧¬ MM (Kv φ w.heap.size (w'.heap.size - w.heap.size)) h M0 ro o:=fun ro o v G J=>⟨G,IQ r.hp E.size G (fun O=>J (.inr O))⟩
  obtain ⟨r,E1,X1,hC⟩:=r.lift (w'.heap.size - w.heap.size);obtain ⟨E2,X2,H2⟩:=Uy E.os E.tape E.output E.size (fun x hx=>E.same x hx (fun b hb=>absurd rfl hb)) r.hp hC;have Z:Q6 _ M0 N D T h a w':=r.keep E2 X2 H2;have r3:=Z.putT (d:=o.dst) (x:=e.x) (v:=v) (ZL hd) ((WE U).1 _ _ h7 hv);have e8:XL h e.wr=h:=by rw [h8]; rfl
  exact hK _ _ w' (by rw [e8]; exact r3) (by rw [e8]; exact E1.trans E2)
 ·rw [Fv r G];simp only [if_true];refine .inl ?_;obtain ⟨Y,g1,g2⟩:=Nv r J O;unfold Oper.wp;rw [g2];simp only [Oper.upon];have hH:Zw φ GL w (MB φ h w M0):=He (fun x o hm=>xn hm) r.hp.gm.w r.hp.gm.mb;refine (h6 Y (p8 ac g1) (Zp g1).symm φ (MB φ h w M0) w Y hH (Fe Y)).mono ?_;rintro e1 w' ⟨φ',r',h',⟨rfl,rfl⟩,aa,E,v,rfl,hv⟩;have U:∀ ro o v,w'.cell? ⟨ro,o,none⟩=some v→¬ MM φ' GL (MB φ h w M0) ro o→w'.cell? ⟨ro,o,none⟩=some v∧¬ MM (Kv φ w.heap.size (w'.heap.size - w.heap.size)) h M0 ro o:=fun ro o v G J=>⟨G,IQ r.hp E.size G (fun O=>J (.inr O))⟩
  obtain ⟨r,E1,X1,hC⟩:=r.lift (w'.heap.size - w.heap.size);obtain ⟨E2,X2,H2⟩:=Uy E.os E.tape E.output E.size (fun x hx=>E.same x hx (fun b hb=>absurd rfl hb)) r.hp hC;have Z:Q6 _ M0 N D T h a w':=r.keep E2 X2 H2;have ab:=(WE (φ':=Kv φ w.heap.size (w'.heap.size - w.heap.size)) (h':=h) U).1 _ _ (h7 Y) hv;have r3:=Z.putT (d:=o.dst) (x:=e.x) (v:=v) (ZL hd) (by rw [h4]; exact h5 _ _ _ _ _ _ _ ((QI (E2.keeps M0) X2).2 _ _ ((QI (E1.keeps M0) X1).2 _ _ g1)) ab);have e8:XL h e.wr=h:=by rw [h8]; rfl
  exact hK _ _ w' (by rw [e8]; exact r3) (by rw [e8]; exact E1.trans E2)
abbrev Yg:=Option Nat × List Nat
def KX (a b:Yg):Bool :=
 (match a.1 with | some x=>!b.2.contains x&&b.1 != some x | none=>true)&&(match b.1 with | some y=>!a.2.contains y | none=>true)
def waits (G:Oper) (i:Nat):Bool:=G.after.toList.any fun e=>Region.binds .any e&&e.on == i
def O7 (ops:Array Oper) (G:Oper) (i:Nat):Bool:=waits G i||G.after.toList.any fun e=>Region.binds .any e&&(ops[e.on]?).any (waits · i)
theorem La {U:Oper} (h:O7 ops U i=true) :
  (∃ G,G ∈ U.after∧Region.binds .any G=true∧G.on=i)∨(∃ G ok J,G ∈ U.after∧Region.binds .any G=true∧ops[G.on]?=some ok∧J ∈ ok.after∧Region.binds .any J=true∧J.on=i):=by
 have key:∀ (o:Oper),waits o i=true→∃ G,G ∈ o.after∧Region.binds .any G=true∧G.on=i:=by
  intro o hw;simp only [waits,List.any_eq_true,Ze,beq_iff_eq] at hw;obtain ⟨G,Z,Y,O⟩:=hw;exact ⟨G,by simpa using Z,Y,O⟩
 simp only [O7,Bool.or_eq_true] at h;rcases h with h | h
 ·exact .inl (key U h)
 ·simp only [List.any_eq_true,Ze] at h;obtain ⟨G,Z,Y,O⟩:=h;cases hok:ops[G.on]? with
  | none=>rw [hok] at O; cases O
  | some ok =>
   rw [hok] at O;obtain ⟨J,g1,g2,g3⟩:=key ok (by simpa using O);exact .inr ⟨G,ok,J,by simpa using Z,Y,hok,g1,g2,g3⟩
def BP (ops:Array Oper) (G:Oper) (i:Nat) (O:Yg):List Oper→List Yg→Bool
 | J :: l,Y :: U=>(O7 ops J i||(G.apart ops J&&KX O Y))&&BP ops G i O l U
 | _,_=>true
def p9 (ops:Array Oper):Nat→List Oper→List Yg→Bool
 | i,J :: l,O :: G=>BP ops J i O l G&&p9 ops (i+1) l G
 | _,_,_=>true
def GQ:Nat→List Oper→Bool
 | _,[]=>true
 | j,o :: l=>(o.after.toList.all fun e=>!Region.binds .any e||decide (e.on < j))&&GQ (j+1) l
def ZY (ops:Array Oper) (G:List Yg):Bool:=p9 ops 0 ops.toList G&&GQ 0 ops.toList
theorem CJ {ops:Array Oper} {Y:Oper} {i:Nat} {Z:Yg}:∀ {l:List Oper} {U:List Yg},BP ops Y i Z l U=true→∀ (j:Nat) G J,l[j]?=some G→U[j]?=some J→O7 ops G i=true∨(Y.apart ops G=true∧KX Z J=true)
 | [],U,_,j,G,J,O,_=>by simp at O
 | o :: l,[],_,j,G,J,_,hf=>by simp at hf
 | o :: l,f :: U,hp,j,G,J,O,hf=>by
  simp only [BP,Ze,Bool.or_eq_true] at hp;cases j with
  | zero=>simp at O hf; subst O hf; exact hp.1
  | succ j=>exact CJ hp.2 j G J (by simpa using O) (by simpa using hf)
theorem Fx {ops:Array Oper}:∀ {l:List Oper} {Z:List Yg} {k:Nat},p9 ops k l Z=true→∀ (i j:Nat) U G Y J,i < j→l[i]?=some U→l[j]?=some G→Z[i]?=some Y→Z[j]?=some J →
  O7 ops G (k+i)=true∨(U.apart ops G=true∧KX Y J=true)
 | [],Z,k,_,i,j,U,G,Y,J,_,hi,_,_,_=>by simp at hi
 | o :: l,[],k,_,i,j,U,G,Y,J,_,_,_,hf,_=>by simp at hf
 | o :: l,f :: Z,k,hp,i,j,U,G,Y,J,ab,hi,hj,O,aa=>by
  simp only [p9,Ze] at hp;cases j with
  | zero=>omega
  | succ j =>
   cases i with
   | zero =>
    simp at hi O;subst hi O;exact CJ hp.1 j G J (by simpa using hj) (by simpa using aa)
   | succ i =>
    have:=Fx hp.2 i j U G Y J zo (by simpa using hi) (by simpa using hj) (by simpa using O) (by simpa using aa)
    rwa [show k+1+i=k+(i+1) from by omega] at this
theorem VN:∀ {l:List Oper} {k:Nat},GQ k l=true→∀ (j:Nat) o,l[j]?=some o→∀ e ∈ o.after,Region.binds .any e=true→e.on < k+j
 | [],k,_,j,o,G=>by simp at G
 | o :: l,k,hp,j,O,G=>by
  simp only [GQ,Ze] at hp;cases j with
  | zero =>
   simp at G;subst G;intro e J hb;have:=List.all_eq_true.1 hp.1 e (by simpa using J);simpa [hb] using this
  | succ j =>
   intro e J hb;have:=VN hp.2 j O (by simpa using G) e J hb;omega
def IR (listed:Array Bool):Nat→Nat
 | 0=>0
 | n+1=>IR listed n+(if listed.getD n true then 0 else 1)
theorem PS {listed:Array Bool} {i:Nat} (hi:listed.getD i true=false):∀ n,IR (listed.setIfInBounds i true) n+(if i < n then 1 else 0)=IR listed n
 | 0=>by simp [IR]
 | n+1=>by
  have G:=PS hi n;simp only [IR]
  have hlt:i < listed.size:=by
   rcases Nat.lt_or_ge i listed.size with h | h
   ·exact h
   ·simp [Array.getElem?_eq_none h] at hi
  by_cases e:i=n
  ·subst e;have J:(listed.setIfInBounds i true).getD i true=true:=by simp [hlt]
   rw [J,hi];simp at G ⊢;omega
  ·rw [getD_set_ne true e];have:(i < n+1)↔(i < n):=by omega
   simp only [this];omega
theorem CK {listed:Array Bool}:∀ {n:Nat},IR listed n=0→∀ i,i < n→listed.getD i true=true
 | 0,_,i,hi=>by omega
 | n+1,hu,i,hi=>by
  simp only [IR] at hu;by_cases e:i=n
  ·subst e;cases hq:listed.getD i true with
   | true=>rfl
   | false=>rw [hq] at hu; simp at hu
  ·exact CK (n:=n) (Nat.eq_zero_of_add_eq_zero_right hu) i zo
theorem Qac {Q:Exit→Act→World→Prop} {T0:Nat→Option AV} (es:List Ev) (aq:es.length=ops.size)
  (bb:∀ (i:Nat) o e,ops[i]?=some o→es[i]?=some e→Step1 P N ops o (vF ((ops.toList.zip es).map fun p=>wT p.1 p.2) (fun j=>decide (j < i)) T0) (vF (es.map (·.wr)) (fun j=>decide (j < i)) h0) e)
  (az:ZY ops (es.map fun e=>(e.wr.map (·.1),e.rd))=true)
  (hQ:∀ φ a w,Q6 φ M0 N D (vF ((ops.toList.zip es).map fun p=>wT p.1 p.2) (fun _=>true) T0) (vF (es.map (·.wr)) (fun _=>true) h0) a w→QT φ0 h0 w0 φ (vF (es.map (·.wr)) (fun _=>true) h0) w→Q .normal a w) :
  ∀ (ad:Nat) (listed:Array Bool) (a:Act) (w:World) (φ:Nat→Nat),listed.size=ops.size→IR listed ops.size≤ad →
   (∀ (j:Nat) o,ops[j]?=some o→listed.getD j false=true→∀ e ∈ o.after,Region.binds .any e=true→listed.getD e.on false=true) →
   Q6 φ M0 N D (vF ((ops.toList.zip es).map fun p=>wT p.1 p.2) (fun j=>listed.getD j false) T0) (vF (es.map (·.wr)) (fun j=>listed.getD j false) h0) a w →
   QT φ0 h0 w0 φ (vF (es.map (·.wr)) (fun j=>listed.getD j false) h0) w→wpAny P .any ops Q ad listed a w:=by
 simp only [ZY,Ze] at az;obtain ⟨ai,a6⟩:=az;have ay:∀ (listed:Array Bool) (i:Nat),i < listed.size→listed.getD i true=listed.getD i false:=fun listed i hi=>by simp [hi]
 have bh:((ops.toList.zip es).map fun p=>wT p.1 p.2).length=ops.size:=by simp [aq]
 have ao:∀ (listed:Array Bool) (a:Act) (w:World) (φ:Nat→Nat),listed.size=ops.size→(∀ i,i < ops.size→listed.getD i true=true) →
   Q6 φ M0 N D (vF ((ops.toList.zip es).map fun p=>wT p.1 p.2) (fun j=>listed.getD j false) T0) (vF (es.map (·.wr)) (fun j=>listed.getD j false) h0) a w →
   QT φ0 h0 w0 φ (vF (es.map (·.wr)) (fun j=>listed.getD j false) h0) w→Q .normal a w:=by
  intro listed a w φ af O r E
  have e1:vF ((ops.toList.zip es).map fun p=>wT p.1 p.2) (fun j=>listed.getD j false) T0=vF ((ops.toList.zip es).map fun p=>wT p.1 p.2) (fun _=>true) T0 :=
   vL _ _ _ _ (fun j U=>by rw [bh] at U; rw [← ay listed j zo]; exact O j U)
  have e2:vF (es.map (·.wr)) (fun j=>listed.getD j false) h0=vF (es.map (·.wr)) (fun _=>true) h0 :=
   vL _ _ _ _ (fun j U=>by simp only [List.length_map,aq] at U; rw [← ay listed j zo]; exact O j U)
  rw [e1,e2] at r;rw [e2] at E;exact hQ φ a w r E
 have aw:∀ (listed:Array Bool),listed.size=ops.size→Region.ready .any ops listed=[]→∀ i,i < ops.size→listed.getD i true=true:=by
  intro listed af hr i
  induction i using Nat.strongRecOn with
  | _ i ih =>
   intro hi;cases hq:listed.getD i true with
   | true=>rfl
   | false =>
    have:i ∈ Region.ready .any ops listed:=by
     rw [mem_ready];refine ⟨hq,ops[i],Array.getElem?_eq_getElem hi,fun e he hb=>?_⟩;have h1:=VN a6 i ops[i] (by simp [hi]) e he hb;have h2:e.on < i:=by omega
     rw [← ay listed e.on zo];exact ih e.on h2 zo
    rw [hr] at this;cases this
 intro ad
 induction ad with
 | zero =>
  intro listed a w φ af hu ak r E;have O:=CK (n:=ops.size) (listed:=listed) zo;refine ⟨?_,ao listed a w φ af O r E⟩;apply List.eq_nil_iff_forall_not_mem.2;intro i hi;rw [mem_ready] at hi;obtain ⟨h1,o,ho,_⟩:=hi;rw [O i (FY.1 ho).1] at h1;cases h1
 | succ ad ih =>
  intro listed a w φ af hu ak r E;refine ⟨fun hr=>ao listed a w φ af (aw listed af hr) r E,fun i hi=>?_⟩;rw [mem_ready] at hi;obtain ⟨bg,o,ho,O⟩:=hi;have be:i < ops.size:=(FY.1 ho).1;have aj:listed.getD i false=false:=by rw [← ay listed i zo]; exact bg
  obtain ⟨e,he⟩:∃ e,es[i]?=some e:=⟨es[i],List.getElem?_eq_getElem zo⟩
  have ah:∀ (j:Nat) Z Y,ops[j]?=some Z→es[j]?=some Y→j ≠ i→¬ (listed.getD j false=decide (j < i))→Z.apart ops o=true∧KX (Y.wr.map (·.1),Y.rd) (e.wr.map (·.1),e.rd)=true∨(o.apart ops Z=true∧KX (e.wr.map (·.1),e.rd) (Y.wr.map (·.1),Y.rd)=true):=by
   intro j Z Y J aa hne G;rcases Nat.lt_or_ge j i with hlt | bj
   ·have:=Fx ai j i Z o (Y.wr.map (·.1),Y.rd) (e.wr.map (·.1),e.rd) hlt (by simpa using J) (by simpa using ho) (by simp [aa]) (by simp [he]);rcases this with hw | bd
    ·exfalso;simp only [Nat.zero_add] at hw;rcases La hw with ⟨ed,ab,hb,ae⟩ | ⟨ed,ok,a7,ab,hb,hok,an,bc,ae⟩
     ·have:=O ed ab hb;rw [ae] at this;exact G (by rw [this]; simp [hlt])
     ·have:=ak ed.on ok hok (O ed ab hb) a7 an bc;rw [ae] at this;exact G (by rw [this]; simp [hlt])
    ·exact .inl bd
   ·have ba:i < j:=by omega
    have:=Fx ai i j o Z (e.wr.map (·.1),e.rd) (Y.wr.map (·.1),Y.rd) ba (by simpa using ho) (by simpa using J) (by simp [he]) (by simp [aa]);rcases this with hw | bd
    ·exfalso;simp only [Nat.zero_add] at hw;cases hq:listed.getD j false with
     | true =>
      rcases La hw with ⟨ed,ab,hb,ae⟩ | ⟨ed,ok,a7,ab,hb,hok,an,bc,ae⟩
      ·have:=ak j Z J hq ed ab hb;rw [ae,aj] at this;cases this
      ·have:=ak ed.on ok hok (ak j Z J hq ed ab hb) a7 an bc;rw [ae,aj] at this;cases this
     | false =>
      have h3:¬ j < i:=by omega
      exact G (by rw [hq]; simp [h3])
    ·exact .inr bd
  have av:∀ (j:Nat) t v,((ops.toList.zip es).map fun p=>wT p.1 p.2)[j]?=some (some (t,v))→∃ Z Y,ops[j]?=some Z∧es[j]?=some Y∧Z.dst=some t:=by
   intro j t v U;simp only [List.getElem?_map,GK] at U;obtain ⟨p,hp,hw⟩:=U;rw [List.getElem?_zip_eq_some] at hp;refine ⟨p.1,p.2,by simpa using hp.1,hp.2,?_⟩;unfold wT at hw;cases hd:p.1.dst with
   | none=>rw [hd] at hw; cases hw
   | some d=>rw [hd] at hw; simp only [Option.map_some,QN,Prod.mk.injEq] at hw; rw [hw.1]
  have am:∀ (j:Nat) b k,(es.map (·.wr))[j]?=some (some (b,k))→∃ Z Y,ops[j]?=some Z∧es[j]?=some Y∧Y.wr=some (b,k):=by
   intro j b k U;simp only [List.getElem?_map,GK] at U;obtain ⟨p,hp,hw⟩:=U;have bi:j < ops.size:=by rw [← aq]; exact (List.getElem?_eq_some_iff.1 hp).1
   exact ⟨ops[j],p,Array.getElem?_eq_getElem bi,hp,hw⟩
  have ax:=(bb i o e ho he).loc (T':=vF ((ops.toList.zip es).map fun p=>wT p.1 p.2) (fun j=>listed.getD j false) T0) (h':=vF (es.map (·.wr)) (fun j=>listed.getD j false) h0) (by
   intro t ht;refine XQ _ _ _ _ _ rfl (fun j v U=>?_);obtain ⟨Z,Y,J,aa,ac⟩:=av j t v U;apply Classical.byContradiction;intro G;by_cases hne:j=i
   ·subst hne; exact G (by rw [aj]; simp)
   ·rcases ah j Z Y J aa hne G with ⟨h1,_⟩ | ⟨h1,_⟩
    ·exact (Oper.apart_spec h1).1 t ac ht
    ·exact (Oper.apart_spec h1).2.2 t ac ht) (by
   intro b hb;refine XQ _ _ _ _ _ rfl (fun j k U=>?_);obtain ⟨Z,Y,J,aa,ar⟩:=am j b k U;apply Classical.byContradiction;intro G;by_cases hne:j=i
   ·subst hne; exact G (by rw [aj]; simp)
   ·rcases ah j Z Y J aa hne G with ⟨_,h1⟩ | ⟨_,h1⟩
    ·simp only [KX,ar,Option.map_some,Ze,Bool.not_eq_true'] at h1;have:=h1.1.1;simp [hb] at this
    ·simp only [KX,ar,Option.map_some,Ze,Bool.not_eq_true'] at h1;have:=h1.2;simp [hb] at this)
  refine ax.wp ho r ?_;intro φ' a' w' r' E'
  have eL:∀ j,(listed.setIfInBounds i true).getD j false=(listed.getD j false||decide (j=i)):=by
   intro j;by_cases a8:j=i
   ·subst a8;have:j < listed.size:=by omega
    simp [this]
   ·rw [getD_set_ne false (Ne.symm a8)];simp [a8]
  have hT:vF ((ops.toList.zip es).map fun p=>wT p.1 p.2) (fun j=>(listed.setIfInBounds i true).getD j false) T0=XL (vF ((ops.toList.zip es).map fun p=>wT p.1 p.2) (fun j=>listed.getD j false) T0) (wT o e):=by
   simp only [eL];refine vK _ _ _ i (wT o e) ?_ ?_
   ·rw [List.getElem?_map,List.getElem?_zip_eq_some.2 (show ops.toList[i]?=some (o,e).1∧es[i]?=some (o,e).2 from ⟨by simpa using ho,he⟩)];rfl
   ·intro b v al j u ba U;obtain ⟨Z,Y,J,aa,ac⟩:=av j b u U
    have au:o.dst=some b:=by
     unfold wT at al;cases hd:o.dst with
     | none=>rw [hd] at al; cases al
     | some d=>rw [hd] at al; simp only [Option.map_some,QN,Prod.mk.injEq] at al; rw [al.1]
    cases hq:listed.getD j false with
    | false=>rfl
    | true =>
     exfalso;rcases ah j Z Y J aa zo (by rw [hq]; simp [show ¬ j < i by omega]) with ⟨h1,_⟩ | ⟨h1,_⟩
     ·exact (Oper.apart_spec h1).2.1 b ac au
     ·exact (Oper.apart_spec h1).2.1 b au ac
  have hH:vF (es.map (·.wr)) (fun j=>(listed.setIfInBounds i true).getD j false) h0=XL (vF (es.map (·.wr)) (fun j=>listed.getD j false) h0) e.wr:=by
   simp only [eL];refine vK _ _ _ i e.wr (by simp [he]) ?_;intro b k bf j u ba U;obtain ⟨Z,Y,J,aa,ar⟩:=am j b u U;cases hq:listed.getD j false with
   | false=>rfl
   | true =>
    exfalso;rcases ah j Z Y J aa zo (by rw [hq]; simp [show ¬ j < i by omega]) with ⟨_,h1⟩ | ⟨_,h1⟩
    ·simp only [KX,ar,bf,Option.map_some,Ze,bne_iff_ne] at h1;exact h1.1.2 rfl
    ·simp only [KX,ar,bf,Option.map_some,Ze,bne_iff_ne] at h1;exact h1.1.2 rfl
  refine ih (listed.setIfInBounds i true) a' w' φ' (by simpa using af) ?_ ?_ (by rw [hT,hH]; exact r') (by rw [hH]; exact E.trans E')
  ·have:=PS bg ops.size;rw [if_pos be] at this;omega
  ·intro j Z J U ed ab hb;rw [eL] at U ⊢;simp only [Bool.or_eq_true,decide_eq_true_eq] at U ⊢;rcases U with U | rfl
   ·exact .inl (ak j Z J U ed ab hb)
   ·rw [ho] at J;cases J;exact .inl (O ed ab hb)
def J6 (ops:Array Oper) (m:Nat):Bool:=(List.range m).all fun j=>(List.range (m+1)).any fun k=>decide (j < k)&&(ops[k]?).any (waits · j)
def GR (o:Oper):Bool:=match o.op with | .call ⟨.value (.tmp _),_,_⟩=>false | _=>true
def Lc (ops:Array Oper) (m:Nat):Bool:=(List.range ops.size).all fun k=>decide (k≤m)||(ops[k]?).any (waits · (k - 1))
theorem mr {Q:Exit→Act→World→Prop} (m:Nat) (U:∀ i,(hi:i < ops.size)→∀ e ∈ (ops[i]).after,Region.binds .any e=true→e.on < i) (ab:Lc ops m=true) :
  ∀ (d k G:Nat) (listed:Array Bool) (a:Act) (w:World),k+d=ops.size→m≤k→d≤G→listed.size=ops.size→(∀ i,i < k→listed.getD i false=true)→(∀ i,k≤i→listed.getD i false=false) →
   wpOps P ops Q ((List.range d).map (k+·)) a w→wpAny P .any ops Q G listed a w:=by
 have Z:∀ (listed:Array Bool) (i:Nat),i < listed.size→listed.getD i true=listed.getD i false:=fun listed i hi=>by simp [hi]
 intro d
 induction d with
 | zero =>
  intro k G listed a w hk ai hf aa h1 h2 h
  have J:Region.ready .any ops listed=[]:=by
   apply List.eq_nil_iff_forall_not_mem.2;intro i hi;rw [mem_ready] at hi;obtain ⟨h3,o,ho,_⟩:=hi;have ak:=(FY.1 ho).1;rw [Z listed i zo,h1 i zo] at h3;cases h3
  cases G with
  | zero=>exact ⟨J,h⟩
  | succ G=>exact ⟨fun _=>h,fun i hi=>by rw [J] at hi; cases hi⟩
 | succ d ih =>
  intro k G listed a w hk ai hf aa h1 h2 h;obtain ⟨G,rfl⟩:∃ f,G=f+1:=⟨G - 1,by omega⟩;have O:k < ops.size:=by omega
  have hr:(List.range (d+1)).map (k+·)=k :: (List.range d).map (k+1+·):=by
   simp only [List.range_succ_eq_map,List.map_cons,List.map_map,Nat.add_zero,List.cons.injEq,true_and];apply List.map_congr_left;intro j _;simp; omega
  rw [hr,wpOps_cons] at h;refine ⟨fun J=>?_,fun i hi=>?_⟩
  ·exfalso
   have:k ∈ Region.ready .any ops listed:=by
    rw [mem_ready];refine ⟨by rw [Z listed k zo]; exact h2 k (Nat.le_refl _),ops[k],Array.getElem?_eq_getElem O,fun e he hb=>?_⟩;exact h1 e.on (U k O e he hb)
   rw [J] at this;cases this
  ·rw [mem_ready] at hi;obtain ⟨h3,o,ho,ac⟩:=hi;have aj:i < ops.size:=(FY.1 ho).1;rw [Z listed i zo] at h3
   have ad:i=k:=by
    rcases Nat.lt_trichotomy i k with hlt | ah | al
    ·rw [h1 i hlt] at h3; cases h3
    ·exact ah
    ·exfalso;have Y:=List.all_eq_true.1 ab i (by simp; omega);simp only [Bool.or_eq_true,decide_eq_true_eq] at Y;rcases Y with Y | Y
     ·omega
     ·rw [ho] at Y;simp only [Option.any_some,waits,List.any_eq_true,Ze,beq_iff_eq] at Y;obtain ⟨ed,ae,hb,af⟩:=Y;have:=ac ed (by simpa using ae) hb;rw [af,h2 (i - 1) zo] at this;cases this
   subst ad;refine wpOp_mono (fun a' w' hq=>ih (i+1) G _ a' w' zo zo zo (by simpa using aa) ?_ ?_ hq) h
   ·intro j hj;by_cases e:i=j
    ·subst e;have:i < listed.size:=by omega
     simp [this]
    ·rw [getD_set_ne false e];exact h1 j zo
   ·intro j hj;rw [getD_set_ne false zo];exact h2 j zo
theorem kY {Q:Exit→Act→World→Prop} {T0:Nat→Option AV} (es:List Ev) (m:Nat) (hm:m < ops.size) (az:es.length=m)
  (be:∀ (i:Nat) o e,ops[i]?=some o→es[i]?=some e→Step1 P N ops o (vF ((ops.toList.zip es).map fun p=>wT p.1 p.2) (fun j=>decide (j < i)) T0) (vF (es.map (·.wr)) (fun j=>decide (j < i)) h0) e)
  (ay:ZY ops (es.map fun e=>(e.wr.map (·.1),e.rd))=true)
  (bq:J6 ops m=true) (a6:Lc ops m=true)
  (hQ:∀ φ a w,Q6 φ M0 N D (vF ((ops.toList.zip es).map fun p=>wT p.1 p.2) (fun _=>true) T0) (vF (es.map (·.wr)) (fun _=>true) h0) a w→QT φ0 h0 w0 φ (vF (es.map (·.wr)) (fun _=>true) h0) w→wpOps P ops Q ((List.range (ops.size - m)).map (m+·)) a w) :
  ∀ (ac:Nat) (listed:Array Bool) (a:Act) (w:World) (φ:Nat→Nat),listed.size=ops.size→IR listed ops.size≤ac→(∀ j,m≤j→listed.getD j false=false) →
   (∀ (j:Nat) o,ops[j]?=some o→listed.getD j false=true→∀ e ∈ o.after,Region.binds .any e=true→listed.getD e.on false=true) →
   Q6 φ M0 N D (vF ((ops.toList.zip es).map fun p=>wT p.1 p.2) (fun j=>listed.getD j false) T0) (vF (es.map (·.wr)) (fun j=>listed.getD j false) h0) a w →
   QT φ0 h0 w0 φ (vF (es.map (·.wr)) (fun j=>listed.getD j false) h0) w→wpAny P .any ops Q ac listed a w:=by
 simp only [ZY,Ze] at ay;obtain ⟨aj,am⟩:=ay;have av:∀ (listed:Array Bool) (i:Nat),i < listed.size→listed.getD i true=listed.getD i false:=fun listed i hi=>by simp [hi]
 have bn:((ops.toList.zip es).map fun p=>wT p.1 p.2).length=m:=by simp [az]; omega
 have ba:∀ (listed:Array Bool) (a:Act) (w:World) (φ:Nat→Nat),listed.size=ops.size→(∀ i,i < m→listed.getD i false=true) →
   Q6 φ M0 N D (vF ((ops.toList.zip es).map fun p=>wT p.1 p.2) (fun j=>listed.getD j false) T0) (vF (es.map (·.wr)) (fun j=>listed.getD j false) h0) a w →
   QT φ0 h0 w0 φ (vF (es.map (·.wr)) (fun j=>listed.getD j false) h0) w→wpOps P ops Q ((List.range (ops.size - m)).map (m+·)) a w:=by
  intro listed a w φ af O r E
  have e1:vF ((ops.toList.zip es).map fun p=>wT p.1 p.2) (fun j=>listed.getD j false) T0=vF ((ops.toList.zip es).map fun p=>wT p.1 p.2) (fun _=>true) T0 :=
   vL _ _ _ _ (fun j Y=>by rw [bn] at Y; exact O j Y)
  have e2:vF (es.map (·.wr)) (fun j=>listed.getD j false) h0=vF (es.map (·.wr)) (fun _=>true) h0 :=
   vL _ _ _ _ (fun j Y=>by simp only [List.length_map,az] at Y; exact O j Y)
  rw [e1,e2] at r;rw [e2] at E;exact hQ φ a w r E
 have aw:∀ (listed:Array Bool),listed.size=ops.size→Region.ready .any ops listed=[]→∀ i,i < ops.size→listed.getD i true=true:=by
  intro listed af hr i
  induction i using Nat.strongRecOn with
  | _ i ih =>
   intro hi;cases hq:listed.getD i true with
   | true=>rfl
   | false =>
    have:i ∈ Region.ready .any ops listed:=by
     rw [mem_ready];refine ⟨hq,ops[i],Array.getElem?_eq_getElem hi,fun e he hb=>?_⟩;have Z:=VN am i ops[i] (by simp [hi]) e he hb;have h2:e.on < i:=by omega
     rw [← av listed e.on zo];exact ih e.on h2 zo
    rw [hr] at this;cases this
 intro ac
 induction ac with
 | zero =>
  intro listed a w φ af hu ah ae r E;have O:=CK (n:=ops.size) (listed:=listed) zo;have:=O m zo;rw [av listed m zo,ah m (Nat.le_refl _)] at this;cases this
 | succ ac ih =>
  intro listed a w φ af hu ah ae r E
  have bh:∀ n,n≤ops.size→(∀ i,m≤i→i < n→listed.getD i true=false)→n - m≤IR listed n:=by
   intro n
   induction n with
   | zero=>intro _ _; simp
   | succ n bp =>
    intro hn hh;simp only [IR];have:=bp zo (fun i Z h2=>hh i Z zo);by_cases br:m≤n
    ·rw [hh n br zo];simp;omega
    ·split <;> omega
  by_cases bd:∀ i,i < m→listed.getD i false=true
  ·have hf:=bh ops.size (Nat.le_refl _) (fun i Z h2=>by rw [av listed i zo]; exact ah i Z);exact mr m (fun i hi e he hb=>by have:=VN am i ops[i] (by simp [hi]) e he hb; omega) a6 (ops.size - m) m (ac+1) listed a w zo (Nat.le_refl _) zo af bd ah (ba listed a w φ af bd r E)
  refine ⟨fun hr=>?_,fun i hi=>?_⟩
  ·have:=aw listed af hr m zo;rw [av listed m zo,ah m (Nat.le_refl _)] at this;cases this
  rw [mem_ready] at hi;obtain ⟨bk,o,ho,O⟩:=hi;have bi:i < ops.size:=(FY.1 ho).1;have ak:listed.getD i false=false:=by rw [← av listed i zo]; exact bk
  by_cases bw:m≤i
  ·exfalso
   have bm:i=m:=by
    apply Classical.byContradiction;intro hne;have h4:=List.all_eq_true.1 a6 i (by simp; omega);simp only [Bool.or_eq_true,decide_eq_true_eq] at h4;rcases h4 with h4 | h4
    ·omega
    ·rw [ho] at h4;simp only [Option.any_some,waits,List.any_eq_true,Ze,beq_iff_eq] at h4;obtain ⟨ed,U,hb,aa⟩:=h4;have:=O ed (by simpa using U) hb;rw [aa,ah (i - 1) zo] at this;cases this
   subst bm
   have bc:∀ d j,j+d+1=i→listed.getD j false=true:=by
    intro d
    induction d using Nat.strongRecOn with
    | _ d bl =>
     intro j Y;have Z:=List.all_eq_true.1 bq j (by simp; omega);simp only [List.any_eq_true,List.mem_range,Ze,decide_eq_true_eq] at Z;obtain ⟨k,hk,bv,hw⟩:=Z;cases hok:ops[k]? with
     | none=>rw [hok] at hw; cases hw
     | some ok =>
      rw [hok] at hw;simp only [Option.any_some,waits,List.any_eq_true,Ze,beq_iff_eq] at hw;obtain ⟨ed,U,hb,aa⟩:=hw;by_cases bo:k=i
      ·subst bo;rw [ho] at hok;cases hok;have:=O ed (by simpa using U) hb
       rwa [aa] at this
      ·have:=ae k ok hok (bl (i - k - 1) zo k zo) ed (by simpa using U) hb
       rwa [aa] at this
   exact bd (fun j Y=>bc (i - j - 1) j zo)
  obtain ⟨e,he⟩:∃ e,es[i]?=some e:=⟨es[i],List.getElem?_eq_getElem zo⟩
  have ai:∀ (j:Nat) oj ej,ops[j]?=some oj→es[j]?=some ej→j ≠ i→¬ (listed.getD j false=decide (j < i))→oj.apart ops o=true∧KX (ej.wr.map (·.1),ej.rd) (e.wr.map (·.1),e.rd)=true∨(o.apart ops oj=true∧KX (e.wr.map (·.1),e.rd) (ej.wr.map (·.1),ej.rd)=true):=by
   intro j oj ej J ab hne G;rcases Nat.lt_or_ge j i with hlt | bu
   ·have:=Fx aj j i oj o (ej.wr.map (·.1),ej.rd) (e.wr.map (·.1),e.rd) hlt (by simpa using J) (by simpa using ho) (by simp [ab]) (by simp [he]);rcases this with hw | bg
    ·exfalso;simp only [Nat.zero_add] at hw;rcases La hw with ⟨ed,U,hb,aa⟩ | ⟨ed,ok,a7,U,hb,hok,ao,bf,aa⟩
     ·have:=O ed U hb;rw [aa] at this;exact G (by rw [this]; simp [hlt])
     ·have:=ae ed.on ok hok (O ed U hb) a7 ao bf;rw [aa] at this;exact G (by rw [this]; simp [hlt])
    ·exact .inl bg
   ·have bb:i < j:=by omega
    have:=Fx aj i j o oj (e.wr.map (·.1),e.rd) (ej.wr.map (·.1),ej.rd) bb (by simpa using ho) (by simpa using J) (by simp [he]) (by simp [ab]);rcases this with hw | bg
    ·exfalso;simp only [Nat.zero_add] at hw;cases hq:listed.getD j false with
     | true =>
      rcases La hw with ⟨ed,U,hb,aa⟩ | ⟨ed,ok,a7,U,hb,hok,ao,bf,aa⟩
      ·have:=ae j oj J hq ed U hb;rw [aa,ak] at this;cases this
      ·have:=ae ed.on ok hok (ae j oj J hq ed U hb) a7 ao bf;rw [aa,ak] at this;cases this
     | false =>
      have h3:¬ j < i:=by omega
      exact G (by rw [hq]; simp [h3])
    ·exact .inr bg
  have au:∀ (j:Nat) t v,((ops.toList.zip es).map fun p=>wT p.1 p.2)[j]?=some (some (t,v))→∃ oj ej,ops[j]?=some oj∧es[j]?=some ej∧oj.dst=some t:=by
   intro j t v Y;simp only [List.getElem?_map,GK] at Y;obtain ⟨p,hp,hw⟩:=Y;rw [List.getElem?_zip_eq_some] at hp;refine ⟨p.1,p.2,by simpa using hp.1,hp.2,?_⟩;unfold wT at hw;cases hd:p.1.dst with
   | none=>rw [hd] at hw; cases hw
   | some d=>rw [hd] at hw; simp only [Option.map_some,QN,Prod.mk.injEq] at hw; rw [hw.1]
  have an:∀ (j:Nat) b k,(es.map (·.wr))[j]?=some (some (b,k))→∃ oj ej,ops[j]?=some oj∧es[j]?=some ej∧ej.wr=some (b,k):=by
   intro j b k Y;simp only [List.getElem?_map,GK] at Y;obtain ⟨p,hp,hw⟩:=Y;have bt:j < ops.size:=by have:=(List.getElem?_eq_some_iff.1 hp).1; omega
   exact ⟨ops[j],p,Array.getElem?_eq_getElem bt,hp,hw⟩
  have ax:=(be i o e ho he).loc (T':=vF ((ops.toList.zip es).map fun p=>wT p.1 p.2) (fun j=>listed.getD j false) T0) (h':=vF (es.map (·.wr)) (fun j=>listed.getD j false) h0) (by
   intro t ht;refine XQ _ _ _ _ _ rfl (fun j v Y=>?_);obtain ⟨oj,ej,J,ab,ad⟩:=au j t v Y;apply Classical.byContradiction;intro G;by_cases hne:j=i
   ·subst hne; exact G (by rw [ak]; simp)
   ·rcases ai j oj ej J ab hne G with ⟨Z,_⟩ | ⟨Z,_⟩
    ·exact (Oper.apart_spec Z).1 t ad ht
    ·exact (Oper.apart_spec Z).2.2 t ad ht) (by
   intro b hb;refine XQ _ _ _ _ _ rfl (fun j k Y=>?_);obtain ⟨oj,ej,J,ab,aq⟩:=an j b k Y;apply Classical.byContradiction;intro G;by_cases hne:j=i
   ·subst hne; exact G (by rw [ak]; simp)
   ·rcases ai j oj ej J ab hne G with ⟨_,Z⟩ | ⟨_,Z⟩
    ·simp only [KX,aq,Option.map_some,Ze,Bool.not_eq_true'] at Z;have:=Z.1.1;simp [hb] at this
    ·simp only [KX,aq,Option.map_some,Ze,Bool.not_eq_true'] at Z;have:=Z.2;simp [hb] at this)
  refine ax.wp ho r ?_;intro φ' a' w' r' E'
  have eL:∀ j,(listed.setIfInBounds i true).getD j false=(listed.getD j false||decide (j=i)):=by
   intro j;by_cases a8:j=i
   ·subst a8;have:j < listed.size:=by omega
    simp [this]
   ·rw [getD_set_ne false (Ne.symm a8)];simp [a8]
  have hT:vF ((ops.toList.zip es).map fun p=>wT p.1 p.2) (fun j=>(listed.setIfInBounds i true).getD j false) T0=XL (vF ((ops.toList.zip es).map fun p=>wT p.1 p.2) (fun j=>listed.getD j false) T0) (wT o e):=by
   simp only [eL];refine vK _ _ _ i (wT o e) ?_ ?_
   ·rw [List.getElem?_map,List.getElem?_zip_eq_some.2 (show ops.toList[i]?=some (o,e).1∧es[i]?=some (o,e).2 from ⟨by simpa using ho,he⟩)];rfl
   ·intro b v al j u bb Y;obtain ⟨oj,ej,J,ab,ad⟩:=au j b u Y
    have ar:o.dst=some b:=by
     unfold wT at al;cases hd:o.dst with
     | none=>rw [hd] at al; cases al
     | some d=>rw [hd] at al; simp only [Option.map_some,QN,Prod.mk.injEq] at al; rw [al.1]
    cases hq:listed.getD j false with
    | false=>rfl
    | true =>
     exfalso;rcases ai j oj ej J ab zo (by rw [hq]; simp [show ¬ j < i by omega]) with ⟨Z,_⟩ | ⟨Z,_⟩
     ·exact (Oper.apart_spec Z).2.1 b ad ar
     ·exact (Oper.apart_spec Z).2.1 b ar ad
  have hH:vF (es.map (·.wr)) (fun j=>(listed.setIfInBounds i true).getD j false) h0=XL (vF (es.map (·.wr)) (fun j=>listed.getD j false) h0) e.wr:=by
   simp only [eL];refine vK _ _ _ i e.wr (by simp [he]) ?_;intro b k bj j u bb Y;obtain ⟨oj,ej,J,ab,aq⟩:=an j b u Y;cases hq:listed.getD j false with
   | false=>rfl
   | true =>
    exfalso;rcases ai j oj ej J ab zo (by rw [hq]; simp [show ¬ j < i by omega]) with ⟨_,Z⟩ | ⟨_,Z⟩
    ·simp only [KX,aq,bj,Option.map_some,Ze,bne_iff_ne] at Z;exact Z.1.2 rfl
    ·simp only [KX,aq,bj,Option.map_some,Ze,bne_iff_ne] at Z;exact Z.1.2 rfl
  refine ih (listed.setIfInBounds i true) a' w' φ' (by simpa using af) ?_ (fun j Y=>by rw [getD_set_ne false zo]; exact ah j Y) ?_ (by rw [hT,hH]; exact r') (by rw [hH]; exact E.trans E')
  ·have:=PS bk ops.size;rw [if_pos bi] at this;omega
  ·intro j oj J Y ed U hb;rw [eL] at Y ⊢;simp only [Bool.or_eq_true,decide_eq_true_eq] at Y ⊢;rcases Y with Y | rfl
   ·exact .inl (ae j oj J Y ed U hb)
   ·rw [ho] at J;cases J;exact .inl (O ed U hb)
def xy (N:Nat) (o:Oper) (s:St) (K:St→Prop):Option Xe→Prop
 | some u=>Ky N o.dst=true∧K (s.put o.dst u.1)
 | none=>False
def Qhq (N:Nat) (o:Oper) (s:St) (acc:List Yg) (K:List Yg→St→Prop):Option Xe→Prop
 | some u=>Ky N o.dst=true∧K ((u.2.1.map (·.1),u.2.2) :: acc) (XK s o.dst u)
 | none=>False
def xz (ops:Array Oper) (s:St):List Oper→Bool
 | []=>true
 | o :: rest=>(GR o||(yieldOf (look (Zb ops o s.T true)) o.op).isNone)&&rest.all GR
theorem xA {l:List Oper} (h:l.all GR=true):xz ops s l=true:=by
 cases l with
 | nil=>rfl
 | cons o l =>
  simp only [List.all_cons,Ze] at h;simp [xz,h.1,h.2]
def mD (P:Program) (N:Nat) (ops:Array Oper) (Q:AX→St→Prop) (o:Oper) (op:Op) (rest:List Oper) (acc:List Yg) (s0 s:St) (K:St→Prop):Prop :=
 (∃ f args args' x,ZO (look s.T) op=some (f,args)∧K7 P f=true∧Ky N o.dst=true∧PR args args'∧YQ args'=true∧KS x=true∧QB P f args' (.ret x)∧K (s.put o.dst x)) ∨
 (rest=[]∧J6 ops acc.length=true∧ZY ops acc.reverse=true∧XP P N o s (Q .normal) Q) ∨
 (J6 ops acc.length=true∧ZY ops acc.reverse=true∧Lc ops acc.length=true∧xz ops s0 (o :: rest)=true∧KT P N ops Q (o :: rest) s0) ∨
 (∃ (f:FuncId) (args:List AV) (J:List AV→AV),ZO (look s.T) op=some (f,args)∧K7 P f=true∧Ky N o.dst=true∧args.all Qab=true∧(∀ G:List Value,SlV G→G.length=args.length→QB P f (pvs G) (.ret (J (pvs G))))∧(∀ G,KS (J (pvs G))=true)∧Qhp J∧K (s.put o.dst (J args)))
def Qeq (P:Program) (N:Nat) (ops:Array Oper) (Q:AX→St→Prop) (o:Oper) (rest:List Oper) (acc:List Yg) (s0:St):Prop :=
 J6 ops acc.length=true∧ZY ops acc.reverse=true∧Lc ops acc.length=true∧xz ops s0 (o :: rest)=true∧KT P N ops Q (o :: rest) s0
def Ki (P:Program) (N:Nat) (ops:Array Oper) (Q:AX→St→Prop):List Oper→List Yg→St→Prop
  | [],acc,s=>ZY ops acc.reverse=true∧Q .normal s
  | o :: rest,acc,s =>
    match ZA ops o (look s.T) with
    | some b=>LB b
        (match o.op with
         | .pick c x y=>match Za (look (Zb ops o s.T true)) c with
           | some (.p (.val (.bool t)))=>LB t (xy N o ⟨Zb ops o s.T true,s.H⟩ (Ki P N ops Q rest ((none,[]) :: acc)) (VM (look (Zb ops o s.T true)) x)) (xy N o ⟨Zb ops o s.T true,s.H⟩ (Ki P N ops Q rest ((none,[]) :: acc)) (VM (look (Zb ops o s.T true)) y))
           | _=>False
         | .call ⟨.value f,args,ts⟩=>mD P N ops Q o (.call ⟨.value f,args,ts⟩) rest acc s ⟨Zb ops o s.T true,s.H⟩ (Ki P N ops Q rest ((none,[]) :: acc))
         | .panic x=>rest=[]∧J6 ops acc.length=true∧ZY ops acc.reverse=true∧XP P N o ⟨Zb ops o s.T true,s.H⟩ (Q .normal) Q
         | _=>Qhq N o ⟨Zb ops o s.T true,s.H⟩ acc (Ki P N ops Q rest) (WW P o (look (Zb ops o s.T true)) (look s.H))∨Qeq P N ops Q o rest acc s)
        (Ky N o.dst=true∧Ki P N ops Q rest ((none,[]) :: acc) (St.put ⟨Zb ops o s.T false,s.H⟩ o.dst (.p (.val undef))))
    | none=>False
def zJ (e:Ev):Yg:=(e.wr.map (·.1),e.rd)
theorem QcB (c:Option (Nat × α)) (G:List (Option (Nat × α))) (i:Nat) (F:Nat→Option α):vF (c :: G) (fun j=>decide (j < i+1)) F=vF G (fun j=>decide (j < i)) (XL F c):=by
 simp only [vF,Nat.zero_lt_succ,decide_true,if_true];congr 1;funext j;simp
def PT (P:Program) (N:Nat) (ops:Array Oper) (l:List Oper) (es:List Ev) (T0:Nat→Option AV) (h0:QG):Prop :=
 ∀ (i:Nat) o e,l[i]?=some o→es[i]?=some e→Step1 P N ops o (vF ((l.zip es).map fun p=>wT p.1 p.2) (fun j=>decide (j < i)) T0) (vF (es.map (·.wr)) (fun j=>decide (j < i)) h0) e
theorem TG {l:List Oper} {e:Ev} {es:List Ev} {T0:Nat→Option AV} (Z:Step1 P N ops o T0 h0 e)
  (U:PT P N ops l es (XL T0 (wT o e)) (XL h0 e.wr)):PT P N ops (o :: l) (e :: es) T0 h0:=by
 intro i Y O G J;cases i with
 | zero =>
  simp at G J;subst G J;rw [J5 _ _ _ zq,J5 _ _ _ zq];exact Z
 | succ i =>
  simp only [List.zip_cons_cons,List.map_cons,QcB];exact U i Y O (by simpa using G) (by simpa using J)
theorem rW (s:St) (o:Oper) (u:Xe):look (XK s o.dst u).T=XL (look s.T) (wT o ⟨u.1,u.2.1,u.2.2⟩)∧look (XK s o.dst u).H=XL (look s.H) u.2.1:=by
 constructor
 ·unfold XK wT;cases o.dst <;> rfl
 ·unfold XK;cases hq:u.2.1 with
  | none=>rfl
  | some G=>rfl
theorem PU (s:St) (o:Oper) (e:Ev) (G:e.wr=none):look (s.put o.dst e.x).T=XL (look s.T) (wT o e)∧look (s.put o.dst e.x).H=XL (look s.H) e.wr:=by
 rw [G];unfold wT St.put;cases o.dst <;> exact ⟨rfl,rfl⟩
def Ar (P:Program) (N:Nat) (ops:Array Oper) (Q:AX→St→Prop) (l:List Oper) (acc:List Yg) (s:St):Prop :=
  (∃ (es:List Ev) (s':St),es.length=l.length∧PT P N ops l es (look s.T) (look s.H)∧ZY ops (acc.reverse++es.map zJ)=true ∧
   look s'.T=vF ((l.zip es).map fun p=>wT p.1 p.2) (fun _=>true) (look s.T)∧look s'.H=vF (es.map (·.wr)) (fun _=>true) (look s.H)∧Q .normal s') ∨
  (∃ (pre:List Oper) (o:Oper) (es:List Ev) (s':St),l=pre++[o]∧es.length=pre.length∧PT P N ops l es (look s.T) (look s.H)∧ZY ops (acc.reverse++es.map zJ)=true∧J6 ops (acc.length+pre.length)=true ∧
   look s'.T=vF ((l.zip es).map fun p=>wT p.1 p.2) (fun _=>true) (look s.T)∧look s'.H=vF (es.map (·.wr)) (fun _=>true) (look s.H)∧ZA ops o (look s'.T)=some true∧XP P N o s' (Q .normal) Q) ∨
  (∃ (pre:List Oper) (o:Oper) (rest:List Oper) (es:List Ev) (s':St),l=pre++o :: rest∧es.length=pre.length∧PT P N ops l es (look s.T) (look s.H)∧ZY ops (acc.reverse++es.map zJ)=true∧J6 ops (acc.length+pre.length)=true∧Lc ops (acc.length+pre.length)=true∧xz ops s' (o :: rest)=true ∧
   look s'.T=vF ((l.zip es).map fun p=>wT p.1 p.2) (fun _=>true) (look s.T)∧look s'.H=vF (es.map (·.wr)) (fun _=>true) (look s.H)∧KT P N ops Q (o :: rest) s')
theorem Au {l:List Oper} {acc:List Yg} (J:look s1.T=look s.T) (G:look s1.H=look s.H) (h:Ar P N ops Q l acc s1):Ar P N ops Q l acc s:=by
 unfold Ar at h ⊢;rw [J,G] at h;exact h
theorem O8 {P:Program} {N:Nat} {ops:Array Oper} {Q:AX→St→Prop}:∀ (l:List Oper) (acc:List Yg) (s:St),Ki P N ops Q l acc s→Ar P N ops Q l acc s
  | [],acc,s,h=>.inl ⟨[],s,rfl,fun i o e ho=>by simp at ho,by simpa using h.1,rfl,rfl,h.2⟩
  | o :: l,acc,s,h=>by
    have step:∀ (s:St) (e:Ev) (s1:St),Step1 P N ops o (look s.T) (look s.H) e→look s1.T=XL (look s.T) (wT o e)→look s1.H=XL (look s.H) e.wr→Ki P N ops Q l (zJ e :: acc) s1→Ar P N ops Q (o :: l) acc s:=by
      intro s e s1 hs hT hH hd;rcases O8 l (zJ e :: acc) s1 hd with ⟨es,s',G,U,J,O,Y,h6⟩ | ⟨pre,o',es,s',h0,G,U,J,O,Y,h6,h7,h8⟩ | ⟨pre,o',rest,es,s',h0,G,U,J,O,ai,ab,Y,h6,h8⟩
      · refine .inl ⟨e :: es,s',by simp [G],TG hs (by rw [← hT,← hH]; exact U),by simpa using J,?_,?_,h6⟩
        · rw [O,hT]; rfl
        · rw [Y,hH]; rfl
      · refine .inr (.inl ⟨o :: pre,o',e :: es,s',by simp [h0],by simp [G],TG hs (by rw [← hT,← hH]; exact U),by simpa using J,?_,?_,?_,h7,h8⟩)
        · have:(zJ e :: acc).length+pre.length=acc.length+(o :: pre).length:=by simp; omega
          rw [← this]; exact O
        · rw [Y,hT]; rfl
        · rw [h6,hH]; rfl
      · have this:(zJ e :: acc).length+pre.length=acc.length+(o :: pre).length:=by simp; omega
        refine .inr (.inr ⟨o :: pre,o',rest,e :: es,s',by simp [h0],by simp [G],TG hs (by rw [← hT,← hH]; exact U),by simpa using J,by rw [← this]; exact O,by rw [← this]; exact ai,ab,?_,?_,h8⟩)
        · rw [Y,hT]; rfl
        · rw [h6,hH]; rfl
    have tail:∀ (s:St),ZA ops o (look s.T)=some true→(l=[]∧J6 ops acc.length=true∧ZY ops acc.reverse=true∧XP P N o s (Q .normal) Q)→Ar P N ops Q (o :: l) acc s:=by
      rintro s Z ⟨G,U,J,O⟩;subst G;exact .inr (.inl ⟨[],o,[],s,rfl,rfl,fun i o e _ he=>by simp at he,by simpa using J,by simpa using U,rfl,rfl,Z,O⟩)
    have af:∀ s0 s:St,look s.T=look s0.T→s.H=s0.H→ZA ops o (look s.T)=some true→(match o.op with
         | .pick c x y=>match Za (look s.T) c with
           | some (.p (.val (.bool t)))=>LB t (xy N o s (Ki P N ops Q l ((none,[]) :: acc)) (VM (look s.T) x)) (xy N o s (Ki P N ops Q l ((none,[]) :: acc)) (VM (look s.T) y))
           | _=>False
         | .call ⟨.value f,args,ts⟩=>mD P N ops Q o (.call ⟨.value f,args,ts⟩) l acc s0 s (Ki P N ops Q l ((none,[]) :: acc))
         | .panic x=>l=[]∧J6 ops acc.length=true∧ZY ops acc.reverse=true∧XP P N o s (Q .normal) Q
         | _=>Qhq N o s acc (Ki P N ops Q l) (WW P o (look s.T) (look s.H))∨Qeq P N ops Q o l acc s0)→Ar P N ops Q (o :: l) acc s:=by
        intro s0 s ad ae Z g;split at g
        · rename_i c x y ho
          split at g
          · rename_i t hc
            have aa:∀ z,xy N o s (Ki P N ops Q l ((none,[]) :: acc)) (VM (look s.T) z)→MR (look s.T) c x y=VM (look s.T) z→Ar P N ops Q (o :: l) acc s:=by
              intro z hz hp;cases hm:VM (look s.T) z with
              | none=>rw [hm] at hz; exact hz.elim
              | some u =>
                rw [hm] at hz hp
                have hu:u.2=(none,[]):=by
                  unfold VM at hm;split at hm
                  · simp only [QN] at hm; subst hm; rfl
                  · cases hm
                have ah:WW P o (look s.T) (look s.H)=some (u.1,none,[]):=by
                  unfold WW;simp only [ho];rw [hp];congr 1;rw [← hu]
                have ac:=PU s o ⟨u.1,none,[]⟩ rfl;exact step s ⟨u.1,none,[]⟩ _ ⟨hz.1, .inr (.inl ⟨Z,ah⟩)⟩ ac.1 ac.2 hz.2
            refine Hf g (fun ht hz=>aa x hz ?_) (fun ht hz=>aa y hz ?_)
            · subst ht; simp [MR,hc]
            · subst ht; simp [MR,hc]
          · exact g.elim
        · rename_i f aj ts ho
          rcases g with ⟨f,args,args',x,G,U,J,O,Y,h6,h7,h8⟩ | G | ⟨G,U,J,O,Y⟩ | ⟨f,args,τ,G,U,J,h8,O,Y,h6,h7⟩
          · have hp:=PU s o ⟨x,none,[]⟩ rfl
            exact step s ⟨x,none,[]⟩ _ ⟨J, .inr (.inr (.inl ⟨Z,f,args,args',by rw [ho]; exact G,U,O,Y,h7,h6,rfl,rfl⟩))⟩ hp.1 hp.2 h8
          · exact tail s Z G
          · exact .inr (.inr ⟨[],o,l,[],s0,rfl,rfl,fun i o e _ he=>by simp at he,by simpa using U,by simpa using G,by simpa using J,O,ad.symm,by rw [ae]; rfl,Y⟩)
          · have hp:=PU s o ⟨τ args,none,[]⟩ rfl
            exact step s ⟨τ args,none,[]⟩ _ ⟨J, .inr (.inr (.inr ⟨Z,f,args,τ,by rw [ho]; exact G,U,h8,O,Y,h6,rfl,rfl,rfl⟩))⟩ hp.1 hp.2 h7
        · exact tail s Z g
        · rcases g with g | ⟨G,U,J,O,Y⟩
          rotate_left
          · exact .inr (.inr ⟨[],o,l,[],s0,rfl,rfl,fun i o e _ he=>by simp at he,by simpa using U,by simpa using G,by simpa using J,O,ad.symm,by rw [ae]; rfl,Y⟩)
          cases hu:WW P o (look s.T) (look s.H) with
          | none=>rw [hu] at g; exact g.elim
          | some u =>
            rw [hu] at g;have hp:=rW s o u;exact step s ⟨u.1,u.2.1,u.2.2⟩ _ ⟨g.1, .inr (.inl ⟨Z,hu⟩)⟩ hp.1 hp.2 g.2
    simp only [Ki] at h;split at h
    · rename_i b Z
      refine Hf h (fun hb g=>?_) (fun hb g=>?_)
      · subst hb
        have em:=Uz Z;exact Au (s1:=⟨Zb ops o s.T true,s.H⟩) em rfl (af s ⟨Zb ops o s.T true,s.H⟩ em rfl (by show ZA ops o (look (Zb ops o s.T true))=some true; rw [em]; exact Z) g)
      · subst hb
        have em:=Uz Z;refine Au (s1:=⟨Zb ops o s.T false,s.H⟩) em rfl ?_;have hp:=PU ⟨Zb ops o s.T false,s.H⟩ o ⟨.p (.val undef),none,[]⟩ rfl;exact step ⟨Zb ops o s.T false,s.H⟩ ⟨.p (.val undef),none,[]⟩ _ ⟨g.1, .inl ⟨by show ZA ops o (look (Zb ops o s.T false))=some false; rw [em]; exact Z,rfl⟩⟩ hp.1 hp.2 g.2
    · exact h.elim
theorem xB (h:GR o=true):yieldOf T o.op=none:=by
 unfold GR at h;unfold yieldOf;split
 ·rename_i G; rw [G] at h; cases h
 ·rfl
theorem mE (h:(GR o||(yieldOf (look (Zb ops o s.T true)) o.op).isNone)=true):yieldOf (look (Zb ops o s.T true)) o.op=none:=by
 rcases Bool.or_eq_true _ _ |>.mp h with h | h
 ·exact xB h
 ·simpa using h
theorem Sv {P:Program} {N:Nat} {D:DB} {ops:Array Oper} {Q:AX→St→Prop}:∀ (l:List Oper) (k:Nat) (s:St) (φ0:Nat→Nat) (h0:QG) (w0:World) (φ:Nat→Nat) (M0:Zn) (a:Act) (w:World),
  (∀ j,l[j]?=ops[k+j]?)→xz ops s l=true→QT φ0 h0 w0 φ (look s.H) w→Q6 φ M0 N D (look s.T) (look s.H) a w→KT P N ops Q l s →
  wpOps P ops (Post N D Q φ0 M0 h0 w0) ((List.range l.length).map (k+·)) a w
 | [],k,s,φ0,h0,w0,φ,M0,a,w,O,J,E,r,h=>⟨φ, .normal,s,h,r,E,rfl⟩
 | o :: l,k,s,φ0,h0,w0,φ,M0,a,w,O,J,E,r,h=>by
  have h1:ops[k]?=some o:=by simpa using (O 0).symm
  have hr:(List.range (o :: l).length).map (k+·)=k :: (List.range l.length).map (k+1+·):=by
   simp only [Y9,List.range_succ_eq_map,List.map_cons,List.map_map,Nat.add_zero,List.cons.injEq,true_and];apply List.map_congr_left;intro j _;simp; omega
  rw [hr,wpOps_cons];unfold wpOp;simp only [h1];simp only [xz,Ze] at J;have G:∀ j,l[j]?=ops[k+1+j]?:=fun j=>by have:=O (j+1); rwa [show k+(j+1)=k+1+j from by omega] at this
  simp only [KT] at h;split at h
  ·rename_i b U;rw [Fv r U];refine Hf h (fun hb g=>?_) (fun hb g=>?_)
   ·subst hb;simp only [if_true];have Y:=Uz U;have r1:Q6 φ M0 N D (look (Zb ops o s.T true)) (look s.H) a w:=by rw [Y]; exact r
    rw [mE J.1] at g;refine .inl (Go.Abs.Oper.wp_mono2 (BO (s:=⟨Zb ops o s.T true,s.H⟩) g r1) ?_ ?_)
    ·rintro Z w' ⟨φ',s',h2,h3,h4⟩;exact Sv l (k+1) s' φ0 h0 w0 φ' M0 Z w' G (xA J.2) (E.trans h4) h3 h2
    ·intro e Z w' p;exact p.trans E
   ·subst hb;simp only [Bool.false_eq_true,if_false];have Y:=Uz U;have r1:Q6 φ M0 N D (look (Zb ops o s.T false)) (look s.H) a w:=by rw [Y]; exact r
    refine Sv l (k+1) _ φ0 h0 w0 φ M0 _ w G (xA J.2) ?_ (Q6.put (s:=⟨Zb ops o s.T false,s.H⟩) r1 (ZL g.1) (by simp [Qe,QH])) g.2;cases o.dst <;> exact E
  ·exact h.elim
theorem O9 (h:Ki P N ops Q ops.toList [] s) (r:Q6 φ M0 N D (look s.T) (look s.H) a w) :
  wpAny P .any ops (Post N D Q φ M0 (look s.H) w) ops.size (Array.replicate ops.size false) a { w with drawn:=w.drawn+1 }:=by
 have hd:QT φ (look s.H) w φ (look s.H) { w with drawn:=w.drawn+1 }:=BD rfl rfl rfl rfl;have r1:Q6 φ M0 N D (look s.T) (look s.H) a { w with drawn:=w.drawn+1 }:=r.keep hd (Ri rfl) (Sd (w:=w) rfl hd r.hp)
 have G:∀ (j:Nat),(Array.replicate ops.size false).getD j false=false:=by
  intro j;rcases Nat.lt_or_ge j ops.size with h | h
  ·simp [h]
  ·simp [h]
 have J:∀ n,IR (Array.replicate ops.size false) n≤n:=by
  intro n
  induction n with
  | zero=>simp [IR]
  | succ n ih=>simp only [IR]; split <;> omega
 rcases O8 _ _ _ h with ⟨es,s',h1,h2,h3,h4,Z,Y⟩ | ⟨pre,o,es,s',h0,h1,h2,h3,h4,Z,Y,h7,h8⟩ | ⟨pre,o,rest,es,s',h0,h1,h2,h3,h4,ae,aa,Z,Y,h8⟩
 ·refine Qac (D:=D) (T0:=look s.T) (h0:=look s.H) (φ0:=φ) (w0:=w) (M0:=M0) (N:=N) es (by simpa using h1) (fun i o e ho he=>h2 i o e (by simpa using ho) he) (by show ZY ops (es.map zJ)=true; simpa using h3) ?_ ops.size _ a _ φ zq (J _) (fun j o _ U=>by rw [G] at U; cases U) ?_ ?_
  ·intro φ' a' w' r' O;rw [← h4,← Z] at r';rw [← Z] at O;exact ⟨φ', .normal,s',Y,r',O,rfl⟩
  ·rw [J5 _ _ _ (fun j _=>G j),J5 _ _ _ (fun j _=>G j)]; exact r1
  ·rw [J5 _ _ _ (fun j _=>G j)]; exact hd
 ·have ad:ops.size=pre.length+1:=by have:=congrArg List.length h0; simpa using this
  have af:ops[pre.length]?=some o:=by
   have:ops.toList[pre.length]?=some o:=by rw [h0]; simp
   simpa using this
  have ac:Lc ops pre.length=true:=by
   unfold Lc;rw [List.all_eq_true];intro k hk;simp only [List.mem_range,Bool.or_eq_true,decide_eq_true_eq] at hk ⊢;exact .inl zo
  refine kY (D:=D) (T0:=look s.T) (h0:=look s.H) (φ0:=φ) (w0:=w) (M0:=M0) (N:=N) es pre.length zo h1 (fun i o e ho he=>h2 i o e (by simpa using ho) he) (by show ZY ops (es.map zJ)=true; simpa using h3) (by simpa using h4) ac ?_ ops.size _ a _ φ zq (J _) (fun j _=>G j) (fun j o _ U=>by rw [G] at U; cases U) ?_ ?_
  ·intro φ' a' w' r' O;rw [← Z,← Y] at r';rw [← Y] at O;rw [show ops.size - pre.length=1 from by omega];show wpOps _ _ _ [pre.length+0] _ _;rw [wpOps_cons,Nat.add_zero];unfold wpOp;simp only [af,Fv r' h7,if_true];refine .inl (Go.Abs.Oper.wp_mono2 (BO h8 r') ?_ ?_)
   ·rintro ai w'' ⟨ab,ah,g1,g2,g3⟩;exact ⟨ab, .normal,ah,g1,g2,O.trans g3,rfl⟩
   ·intro e ai w'' p;exact p.trans O
  ·rw [J5 _ _ _ (fun j _=>G j),J5 _ _ _ (fun j _=>G j)]; exact r1
  ·rw [J5 _ _ _ (fun j _=>G j)]; exact hd
 ·have ad:ops.size=pre.length+(rest.length+1):=by have:=congrArg List.length h0; simpa using this
  refine kY (D:=D) (T0:=look s.T) (h0:=look s.H) (φ0:=φ) (w0:=w) (M0:=M0) (N:=N) es pre.length zo h1 (fun i o e ho he=>h2 i o e (by simpa using ho) he) (by show ZY ops (es.map zJ)=true; simpa using h3) (by simpa using h4) (by simpa using ae) ?_ ops.size _ a _ φ zq (J _) (fun j _=>G j) (fun j o _ U=>by rw [G] at U; cases U) ?_ ?_
  ·intro φ' a' w' r' O;rw [← Z,← Y] at r';rw [← Y] at O
   have:=Sv (o :: rest) pre.length s' φ (look s.H) w φ' M0 a' w' (fun j=>by
    have e1:ops[pre.length+j]?=ops.toList[pre.length+j]?:=by simp
    rw [e1,h0,List.getElem?_append_right zo];congr 1;omega) aa O r' h8
   rw [show ops.size - pre.length=(o :: rest).length from by simp; omega];exact this
  ·rw [J5 _ _ _ (fun j _=>G j),J5 _ _ _ (fun j _=>G j)]; exact r1
  ·rw [J5 _ _ _ (fun j _=>G j)]; exact hd
theorem bA (J:P.follows .mixedOrders=true) (G:UO ops=true) (h:Ki P N ops Q ops.toList [] s):Ex P N ro (.region id ops true) s Q :=
 fun _ _ _ _ _ r=>wpIn_region_any J (Nw G Wh _ _ _ _ (O9 h r))
def YR:Nat→List AV→List (Nat × AV)
 | _,[]=>[]
 | k,x :: xs=>(k,x) :: YR (k+1) xs
theorem qa:∀ (xs:List AV) (k t:Nat) (x:AV),look (YR k xs) t=some x→k≤t∧xs[t - k]?=some x
 | [],k,t,x,h=>by simp [YR,look] at h
 | y :: xs,k,t,x,h=>by
  simp only [YR,look] at h;by_cases e:k=t
  ·subst e;simp at h;subst h;simp
  ·simp only [e,if_false] at h;obtain ⟨J,G⟩:=qa xs (k+1) t x h;refine ⟨by omega,?_⟩;have:t - k=(t - (k+1))+1:=by omega
   rw [this];simpa using G
def QcC (P:Program) (T:Nat→Option AV) (h:QG):ResultVar→Option AV
 | .tmp t=>T t
 | .cell t ty=>match Pz P T h ty (.tmp t) with | some u=>some u.1 | none=>none
def kZ (P:Program) (T:Nat→Option AV) (h:QG):List ResultVar→Option (List AV)
 | []=>some []
 | x :: xs=>match QcC P T h x,kZ P T h xs with | some v,some G=>some (v :: G) | _,_=>none
def TH (P:Program) (fn:Func) (T:Nat→Option AV) (h:QG):Option AV :=
 match kZ P T h fn.results.toList with
 | some [x]=>some x
 | some xs=>some (.tup xs)
 | none=>none
theorem qb {x:Value} (h:(Instr.loadAt ty v).run P w=.ok x w'):(do loadVar ty (← asAddr v):Sem Value).run P w=.ok x w':=by
 cases v with
 | pointer q =>
  cases q with
  | none=>simp [Instr.loadAt,Instr.sureAddr,stuck] at h
  | some a=>simpa [Instr.loadAt,Instr.sureAddr,asAddr] using h
 | _=>simp [Instr.loadAt,Instr.sureAddr,stuck] at h
def rX (tmps:Array Value):ResultVar→Sem Value
 | .tmp t=>pure (tmps.getD t undef)
 | .cell t ty=>do loadVar ty (← asAddr (tmps.getD t undef))
theorem QcD (r:Q6 φ M0 N D T h a w) {x:ResultVar} {v:AV} (G:QcC P T h x=some v) :
  ∃ y,(rX a.tmps x).run P w=.ok y w∧Qe φ h w (MM φ h M0) v y:=by
 cases x with
 | tmp t=>exact ⟨_,rfl,(r.tm t v G).2⟩
 | cell t ty =>
  simp only [QcC] at G;split at G
  ·rename_i u hu;simp only [QN] at G;subst G;obtain ⟨_,y,O,J⟩:=OA (P:=P) r hu;exact ⟨y,qb O,J⟩
  ·cases G
theorem qc {P:Program} {φ:Nat→Nat} {M0:Zn} {N:Nat} {D:DB} {T:Nat→Option AV} {h:QG} {a:Act} {w:World} (r:Q6 φ M0 N D T h a w):∀ {l:List ResultVar} {J:List AV},kZ P T h l=some J →
  ∃ ys,(l.mapM (rX a.tmps)).run P w=.ok ys w∧Qi φ h w (MM φ h M0) J ys
 | [],J,G=>by simp only [kZ,QN] at G; subst G; exact ⟨[],by simp,by simp [Qi]⟩
 | x :: l,J,G=>by
  simp only [kZ] at G;split at G
  ·rename_i v O Y U;simp only [QN] at G;subst G;obtain ⟨y,g1,g2⟩:=QcD r Y;obtain ⟨ys,g3,g4⟩:=qc r U;exact ⟨y :: ys,by simp [List.mapM_cons,g1,g3],by simp only [Qi]; exact ⟨y,ys,rfl,g2,g4⟩⟩
  ·cases G
theorem bB (r:Q6 φ M0 N D T h a w) {x:AV} (J:TH P fn T h=some x) :
  ∃ v,(results fn a.tmps).run P w=.ok v w∧Qe φ h w (MM φ h M0) x v:=by
 have G:∀ ys:List Value,(fn.results.toList.mapM (rX a.tmps)).run P w=.ok ys w→(results fn a.tmps).run P w=.ok (if hh:ys.toArray.size=1 then ys.toArray[0] else .tuple ys.toArray) w:=by
  intro ys Z;have e1:fn.results.mapM (rX a.tmps)=Functor.map List.toArray (fn.results.toList.mapM (rX a.tmps)):=Array.mapM_eq_mapM_toList ..
  have e2:results fn a.tmps=(do let O ← fn.results.mapM (rX a.tmps); pure (if hh:O.size=1 then O[0] else .tuple O)):=by
   unfold results;congr 1
  rw [e2];simp only [Sem.run_bind,e1,Sem.run_map,Z,Result.andThen_ok,Sem.run_pure]
 unfold TH at J;split at J
 ·rename_i y Z;simp only [QN] at J;subst J;obtain ⟨ys,g1,g2⟩:=qc r Z;simp only [Qi] at g2;obtain ⟨v,O,rfl,U,rfl⟩:=g2;exact ⟨v,by rw [G _ g1]; simp,U⟩
 ·rename_i xs hne aa;simp only [QN] at J;subst J;obtain ⟨ys,g1,g2⟩:=qc r aa;have hl:=Zp g2
  have Y:¬ ys.toArray.size=1:=by
   intro U;simp only [List.size_toArray] at U;rw [U] at hl
   match xs,hl with
   | [x],_=>exact hne x rfl
  refine ⟨.tuple ys.toArray,by rw [G _ g1,dif_neg Y],?_⟩;simp only [Qe];exact ⟨ys,rfl,g2⟩
 ·cases J
def Qhr (P:Program) (f:FuncId) (args:List AV) (R:Zz→Prop):Prop:=Kw P f args GL fun r h'=>R r∧h'=GL
def Qad (P:Program) (fn:Func) (R:Zz→Prop):AX→St→Prop
 | .ret,s=>∃ x y,TH P fn (look s.T) (look s.H)=some x∧le x y∧KS y=true∧R (.ret y)
 | .normal,s=>∃ x y,TH P fn (look s.T) (look s.H)=some x∧le x y∧KS y=true∧R (.ret y)
 | .panic x,s=>KS x=true∧R (.panic x)
 | .exit _,_=>False
theorem rY (E:QT φ GL w φ' h w'):QT φ GL w φ' GL w' :=
 ⟨E.os,E.tape,E.output,E.size,E.same,E.cell,fun _ _ _ x=>absurd x VY,(fun _ _ _ _ x=>by cases x),(fun _ _ _ _ _ x=>by cases x),(fun _ _ _ _ _ x=>by cases x),(fun _ _ _ _ x=>by cases x)⟩
structure UA (ms:List Nat) (w w':World):Prop where
 os:w'.os=w.os
 tape:w'.tape=w.tape
 output:w'.output=w.output
 size:w'.heap.size=w.heap.size
 same:∀ k,k ∉ ms→w'.heap[k]?=w.heap[k]?
 turn:∀ k,k ∈ ms→w'.heap[k]?=some (.deferred none)
def WR (P:Program) (fn:Func) (tmps:Array Value) (R:Ending→World→Prop):List Deferred→FrameMode→World→Prop
  | [],u,w=>Leaves P fn tmps R [] u w
  | d :: ds,u,w=>u ≠ .run ∧
      ((∃ r w',d.target=.collected r∧(Instr.takeDeferred r).run P w=.ok [] w'∧WR P fn tmps R ds u w') ∨
       (∃ fv cap f args,d.target=.fn fv cap∧(invoke d.target d.args).run P w=.ok (.enter f args) w ∧
        CallsD P f args u w fun
          | .returned _,u',w'=>WR P fn tmps R ds (settle u') w'
          | .panicked chain,u',w'=>WR P fn tmps R ds (raised u' chain) w'
          | .outgrown,_,w'=>R .outgrown w'))
theorem LC {tmps:Array Value} {R:Ending→World→Prop}:∀ (ds:List Deferred) (u:FrameMode) (w:World) (fr:Frame)
  (cs:List Frame),fr.mode=u→fr.defers=ds→fr.tmps=tmps→P.funcs[fr.fn]?=some fn→fr.kind=.normal→WR P fn tmps R ds u w →
  ∃ e w' J,R e w'∧Comes P (lone fr cs w) (lone J cs w') e∧J.fn=fr.fn∧J.leaving P w' e:=by
 intro ds
 induction ds with
 | nil=>exact fun u w fr cs hu hd ht hf hk h=>leaves_steps [] u w fr cs hu hd ht hf hk h
 | cons d ds ih =>
  intro u w fr cs hu hd ht hf hk h;obtain ⟨ab,h⟩:=h;rcases h with ⟨r,w',aa,ac,ae⟩ | ⟨fv,cap,f,args,aa,af,ad⟩
  ·have h1:=step_collected (cs:=cs) (hu ▸ ab) hd aa ac;obtain ⟨e',w'',J,Z,U,O,Y⟩:=ih u w' { fr with defers:=[]++ds } cs hu rfl ht hf hk ae;exact ⟨e',w'',J,Z,Comes.of_steps (.one h1) U,O,Y⟩
  ·have h1:=step_defer (cs:=cs) (hu ▸ ab) hd aa af;obtain ⟨e,u',w',aj,hR,G,ai,ah⟩:=ad { fr with defers:=ds } cs hu;cases e with
   | outgrown=>exact ⟨.outgrown,w',fr,hR,Outgrown.of_steps (.one h1) G,rfl,trivial⟩
   | returned v =>
    have h2:=step_going_returned (c:={ { fr with defers:=ds } with mode:=u' }) (cs:=cs) ai ah;obtain ⟨e',w'',J,Z,U,O,Y⟩:=ih (settle u') w' { { { fr with defers:=ds } with mode:=u' } with mode:=settle u' } cs rfl rfl ht hf hk hR;exact ⟨e',w'',J,Z,Comes.of_steps (.head h1 (Steps.trans G (.one h2))) U,O,Y⟩
   | panicked chain =>
    have h2:=step_going_panicked (c:={ { fr with defers:=ds } with mode:=u' }) (cs:=cs) ah;obtain ⟨e',w'',J,Z,U,O,Y⟩:=ih (raised u' chain) w' { { { fr with defers:=ds } with mode:=u' } with mode:=raised u' chain } cs rfl rfl ht hf hk hR;exact ⟨e',w'',J,Z,Comes.of_steps (.head h1 (Steps.trans G (.one h2))) U,O,Y⟩
def rZ (P:Program) (fn:Func) (R:Ending→World→Prop):Exit→Act→World→Prop
 | .normal,a,w | .ret,a,w=>WR P fn a.tmps R a.defers .returning w
 | .panic chain,a,w=>WR P fn a.tmps R a.defers (.panicking chain) w
 | .outgrown,_,w=>R .outgrown w
 | _,_,_=>False
theorem TI {args:Array Value} {R:Ending→World→Prop} (hf:P.funcs[f]?=some fn) (hb:fn.body=some c)
  (h:c.wpIn (wd none) 0 P (rZ P fn R) { tmps:=args++Array.replicate (fn.ntmps - args.size) undef,defers:=[] } w):Calls P f args w R:=by
 have h:=wpIn_wide.1 h;intro cs
 let b:Frame:={ (default:Frame) with fn:=f,kind:=.normal }
 have Y:Frame.enter P f args .normal=b.at { tmps:=args++Array.replicate (fn.ntmps - args.size) undef,defers:=[] } [.code c]:=by
  simp [Frame.enter,Frame.at,hf,hb,b]
 obtain ⟨e,a',w',Z,G⟩:=h b [] cs;rw [← Y] at G;cases e with
 | normal =>
  obtain ⟨e',w'',U,hR,hs,O,hl⟩:=LC a'.defers .returning w' { b.at a' [] with mode:=.returning } cs rfl rfl rfl hf rfl Z;exact ⟨e',w'',U,hR,Comes.of_steps (Steps.trans G (.one step_end)) hs,O,hl⟩
 | ret =>
  obtain ⟨todo,J⟩:=G;obtain ⟨e',w'',U,hR,hs,O,hl⟩:=LC a'.defers .returning w' { b.at a' todo with mode:=.returning } cs rfl rfl rfl hf rfl Z;exact ⟨e',w'',U,hR,Comes.of_steps J hs,O,hl⟩
 | panic chain =>
  obtain ⟨todo,J⟩:=G;obtain ⟨e',w'',U,hR,hs,O,hl⟩:=LC a'.defers (.panicking chain) w' { b.at a' todo with mode:=.panicking chain } cs rfl rfl rfl hf rfl Z;exact ⟨e',w'',U,hR,Comes.of_steps J hs,O,hl⟩
 | exit id=>exact Z.elim
 | goto l=>exact Z.elim
 | outgrown=>exact ⟨.outgrown,w',b,Z,G.resolve_left (by simp [b]),rfl,trivial⟩
theorem Ro {P:Program} {fn:Func} {tmps:Array Value} {R:Ending→World→Prop} {u:FrameMode} (hu:u ≠ .run) (ds:List Deferred):∀ (O:List Nat) (w:World),O.Nodup→(∀ r ∈ O,w.heap[r]?=some (.deferred (some []))) →
  (∀ w',UA O w w'→WR P fn tmps R ds u w')→WR P fn tmps R ((O.map fun r=>({ target:=.collected r,args:=#[] }:Deferred))++ds) u w
 | [],w,_,_,h=>h w ⟨rfl,rfl,rfl,rfl,fun _ _=>rfl,fun k G=>by cases G⟩
 | r :: O,w,Z,hb,h=>by
  have h0:=hb r zq;have hlt:r < w.heap.size:=(FY.1 h0).1
  let U:World:=w.putObj r (.deferred none)
  have J:∀ k:Nat,U.heap[k]?=(w.heap.setIfInBounds r (.deferred none))[k]?:=fun k=>rfl
  have Y:(Instr.takeDeferred r).run P w=.ok [] U:=run_takeDeferred h0;refine ⟨hu, .inl ⟨r,U,rfl,Y,Ro hu ds O U (List.nodup_cons.1 Z).2 ?_ ?_⟩⟩
  ·intro k G;have:r ≠ k:=fun e=>(List.nodup_cons.1 Z).1 (e ▸ G)
   rw [J,Array.getElem?_setIfInBounds_ne this];exact hb k (by simp [G])
  ·intro w' t;refine h w' ⟨t.os,t.tape,t.output,by rw [t.size]; simp [U,World.putObj],fun k G=>?_,fun k G=>?_⟩
   ·simp only [List.mem_cons,not_or] at G;rw [t.same k G.2,J,Array.getElem?_setIfInBounds_ne (Ne.symm G.1)]
   ·rcases List.mem_cons.1 G with e | e
    ·subst e;rw [t.same k (List.nodup_cons.1 Z).1,J];simp [hlt]
    ·exact t.turn k e
theorem QcE {tmps:Array Value} {R:Ending→World→Prop} {u:FrameMode} (hu:u ≠ .run) (G:List Nat) (w:World) (J:G.Nodup) (hb:∀ r ∈ G,w.heap[r]?=some (.deferred (some [])))
  (h:∀ w',UA G w w'→Leaves P fn tmps R [] u w'):WR P fn tmps R (G.map fun r=>({ target:=.collected r,args:=#[] }:Deferred)) u w:=by
 have:=Ro (P:=P) (fn:=fn) (tmps:=tmps) (R:=R) hu [] G w J hb h;simpa using this
theorem Q6.turned {U:List Nat} (r:Q6 φ M0 N D T h a w) (t:UA U w w')
  (Z:∀ r ∈ U,w.heap[r]?=some (.deferred (some []))∧∀ b,h b ≠ none→φ b ≠ r):Q6 φ M0 N ⟨[],0⟩ T h { a with defers:=[] } w':=by
 have G:∀ b k,h b=some k→w'.heap[φ b]?=w.heap[φ b]?:=fun b k hb=>t.same _ fun J=>(Z _ J).2 b (by rw [hb]; simp) rfl
 have X:VL φ h w φ h w':=⟨fun _ _ _ x=>⟨⟨_,_,x⟩,rfl⟩,fun b ty S n x=>⟨_,x,Nat.le_refl _,fun _=>Yi (rfl) (by rw [G _ _ x])⟩,
  fun b ty S n x=>⟨_,x,Nat.le_refl _,fun _=>⟨rfl,fun c hc=>⟨c,by rw [G _ _ x]; exact hc,rfl⟩⟩⟩,fun _ _ _ O Y=>⟨⟨_,O,Y⟩,rfl⟩⟩
 have hk:∀ r o v,w.cell? ⟨r,o,none⟩=some v→¬ MM φ h M0 r o→w'.cell? ⟨r,o,none⟩=some v∧¬ MM φ h M0 r o:=by
  intro x o v O Y;refine ⟨?_,Y⟩
  have:x ∉ U:=fun J=>by
   have:=(Z x J).1;simp [World.cell?,this] at O
  rw [← O];simp [World.cell?,t.same x this]
 refine ⟨⟨Nat.zero_le _,[],rfl,List.nodup_nil,fun r hr=>by cases hr⟩,r.siz,⟨r.hp.inj,fun b k hb=>ZI hk X (G b k hb) (r.hp.blk b k hb),r.hp.fr,fun x o J=>by rw [t.size]; exact r.hp.lt x o J,jL (fun g hg=>t.same g fun J=>Qfx r.hp.gm.w g hg _ (Z g J).1) r.hp.gm.w,r.hp.gm.m⟩,
  fun x y J=>⟨(r.tm x y J).1,(QI hk X).1 _ _ (r.tm x y J).2⟩⟩
theorem Ld {O:List Nat} (t:UA O w w') (Z:∀ r ∈ O,w.heap[r]?=some (.deferred (some []))∧∀ b,h b ≠ none→φ b ≠ r) (x:AV) (v:Value)
  (hv:Qe φ h w (MM φ h M0) x v):Qe φ h w' (MM φ h M0) x v:=by
 have G:∀ b k,h b=some k→w'.heap[φ b]?=w.heap[φ b]?:=fun b k hb=>t.same _ fun Y=>(Z _ Y).2 b (by rw [hb]; simp) rfl
 have X:VL φ h w φ h w':=⟨fun _ _ _ x=>⟨⟨_,_,x⟩,rfl⟩,fun b ty S n x=>⟨_,x,Nat.le_refl _,fun _=>Yi (rfl) (by rw [G _ _ x])⟩,
  fun b ty S n x=>⟨_,x,Nat.le_refl _,fun _=>⟨rfl,fun c hc=>⟨c,by rw [G _ _ x]; exact hc,rfl⟩⟩⟩,fun _ _ _ J U=>⟨⟨_,J,U⟩,rfl⟩⟩
 refine (QI (fun r o v J U=>⟨?_,U⟩) X).1 _ _ hv
 have:r ∉ O:=fun Y=>by
  have:=(Z r Y).1;simp [World.cell?,this] at J
 rw [← J];simp [World.cell?,t.same r this]
theorem QT.turned {ms:List Nat} (E:QT φ h w φ' h' w') (t:UA ms w' w'') (aa:∀ r ∈ ms,w.heap.size≤r)
  (hm:∀ r ∈ ms,w'.heap[r]?=some (.deferred (some []))∧∀ b,h' b ≠ none→φ' b ≠ r):QT φ h w φ' h' w'':=by
 have O:∀ r,r < w.heap.size→w''.heap[r]?=w'.heap[r]?:=fun r Y=>t.same r fun U=>by have:=aa r U; omega
 have G:∀ b k,h' b=some k→w''.heap[φ' b]?=w'.heap[φ' b]?:=fun b k hb=>t.same _ fun U=>(hm _ U).2 b (by rw [hb]; simp) rfl
 refine ⟨t.os.trans E.os,t.tape.trans E.tape,t.output.trans E.output,by rw [t.size]; exact E.size,fun r Y ab=>(O r Y).trans (E.same r Y ab),fun r o Y hm=>?_,E.mu,E.kb,?_,?_,E.ko⟩
 ·rw [← E.cell r o Y hm]; simp [World.cell?,O r Y]
 ·intro b ty S n hb U;obtain ⟨n',Z,h2,J⟩:=E.kt b ty S n hb U;refine ⟨n',Z,h2,fun e=>⟨fun h=>by rw [G b _ Z]; exact (J e).1 h,(J e).2.imp (fun h=>h) fun J=>⟨J.1,fun c hc=>?_⟩⟩⟩;obtain ⟨c',h4,h5⟩:=J.2 c hc;exact ⟨c',by rw [← J.1,G b _ Z,J.1]; exact h4,h5⟩
 ·intro b ty S n hb U;obtain ⟨n',Z,h2,J⟩:=E.kv b ty S n hb U;refine ⟨n',Z,h2,fun e=>⟨(J e).1,fun c hc=>?_⟩⟩;obtain ⟨c',h4,h5⟩:=(J e).2 c hc;exact ⟨c',by rw [← (J e).1,G b _ Z,(J e).1]; exact h4,h5⟩
def Out (R:Zz→QG→Prop) (φ:Nat→Nat) (h:QG) (w:World) (M0:Zn) (e:Ending) (w':World):Prop :=
 ∃ φ' r h',R r h'∧Zw φ' h' w' M0∧QT φ h w φ' h' w'∧iW φ' h' w' (MM φ' h' M0) r e
theorem BQ {G:List Value} (Z:Zw φ h w M0) (U:Qi φ h w (MM φ h M0) args G) (hl:args.length≤n) :
  Q6 φ M0 n ⟨[],w.heap.size⟩ (look (YR 0 args)) h { tmps:=G.toArray++Array.replicate (n - G.toArray.size) undef,defers:=[] } w:=by
 have O:=Zp U;refine ⟨⟨Nat.le_refl _,[],rfl,List.nodup_nil,fun r Y=>by cases Y⟩,by simp; omega,Z,fun t x ht=>?_⟩;obtain ⟨_,J⟩:=qa args 0 t x ht;simp only [Nat.sub_zero] at J;have hlt:t < args.length:=(List.getElem?_eq_some_iff.1 J).1;obtain ⟨v,h3,h4⟩:=Un U J;refine ⟨by omega,?_⟩
 have:(G.toArray++Array.replicate (n - G.toArray.size) undef).getD t undef=v:=by
  rw [Array.getD_eq_getD_getElem?,Array.getElem?_append_left (by simp; omega)];simp [h3]
 rw [this];exact h4
theorem Av {vs:List Value} {h:List (Nat × Blk)} (hf:P.funcs[f]?=some fn) (hb:fn.body=some c)
  (hl:args.length≤fn.ntmps) (hH:Zw φ (look h) w M0) (ha:Qi φ (look h) w (MM φ (look h) M0) args vs) (hx:Ex P fn.ntmps none c ⟨YR 0 args,h⟩ Q)
  (O:∀ x s φ' a w',Q x s→x=.normal∨x=.ret→Q6 φ' M0 fn.ntmps ⟨[],0⟩ (look s.T) (look s.H) a w'→QT φ (look h) w φ' (look s.H) w'→∃ v,(results fn a.tmps).run P w'=.ok v w'∧Out R φ (look h) w M0 (.returned v) w')
  (aa:∀ x s φ' a w' v,Q (.panic x) s→Q6 φ' M0 fn.ntmps ⟨[],0⟩ (look s.T) (look s.H) a w'→QT φ (look h) w φ' (look s.H) w'→Qe φ' (look s.H) w' (MM φ' (look s.H) M0) x v→Out R φ (look h) w M0 (.panicked [{ v:=v,recovered:=false }]) w')
  (U:∀ i s,¬ Q (.exit i) s):Calls P f vs.toArray w (Out R φ (look h) w M0):=by
 refine TI hf hb (wpIn_mono (hx φ M0 _ _ w (BQ hH ha hl)) ?_);rintro e a' w' ⟨φ',k,s',h1,h2,h3,h4⟩;obtain ⟨ad,ms,hd,ac,Y⟩:=h2.dfs;have ab:a'.defers=ms.map fun r=>({ target:=.collected r,args:=#[] }:Deferred):=by rw [hd]; simp
 have Z:∀ r ∈ ms,w'.heap[r]?=some (.deferred (some []))∧∀ b,look s'.H b ≠ none→φ' b ≠ r:=fun r hr=>(Y r hr).2
 have go:∀ (u:FrameMode),u ≠ .run→(∀ w'',UA ms w' w''→Q6 φ' M0 fn.ntmps ⟨[],0⟩ (look s'.T) (look s'.H) { a' with defers:=[] } w''→QT φ (look h) w φ' (look s'.H) w''→Leaves P fn a'.tmps (Out R φ (look h) w M0) [] u w'') →
   WR P fn a'.tmps (Out R φ (look h) w M0) a'.defers u w':=by
  intro u hu g;rw [ab];exact QcE hu ms w' ac (fun r hr=>(Y r hr).2.1) (fun w'' t=>g w'' t (h2.turned t Z) (h3.turned t (fun r hr=>(Y r hr).1) Z))
 cases k with
 | normal =>
  simp only [JR] at h4;subst h4;exact go .returning zq fun w'' t J G=>O _ _ _ { a' with defers:=[] } _ h1 (.inl rfl) J G
 | ret =>
  simp only [JR] at h4;subst h4;exact go .returning zq fun w'' t J G=>O _ _ _ { a' with defers:=[] } _ h1 (.inr rfl) J G
 | exit i=>exact absurd h1 (U i s')
 | panic x =>
  obtain ⟨v,rfl,h5⟩:=h4;refine go (.panicking [{ v:=v,recovered:=false }]) zq fun w'' t J G=>aa _ _ _ _ _ _ h1 J G ?_
  exact Ld t Z _ _ h5
theorem xD {R:Zz→Prop} (hf:P.funcs[f]?=some fn) (hb:fn.body=some c) (hl:args.length≤fn.ntmps)
  (h:Ex P fn.ntmps none c ⟨YR 0 args,[]⟩ (Qad P fn R)):Qhr P f args R:=by
 intro φ M0 w vs hH ha;have Z:∀ {φ':Nat→Nat} {s:St} {w':World},QT φ GL w φ' (look s.H) w'→QT φ GL w φ' GL w':=fun E=>rY E
 have Y:∀ {φ':Nat→Nat} {s:St} {w':World},∀ r o v,w'.cell? ⟨r,o,none⟩=some v→¬ MM φ' (look s.H) M0 r o→w'.cell? ⟨r,o,none⟩=some v∧¬ MM φ' GL M0 r o:=fun r o v g1 g2=>⟨g1,fun g3=>g3.elim VY (fun g4=>g2 (.inr g4))⟩
 refine Av (h:=[]) hf hb hl hH ha h ?_ ?_ ?_
 ·intro x s φ' a w' G hx r E;have O:∃ x y,TH P fn (look s.T) (look s.H)=some x∧le x y∧KS y=true∧R (.ret y):=by rcases hx with rfl | rfl <;> exact G
  obtain ⟨x,y,g1,g2,g3,g4⟩:=O;obtain ⟨v,g5,g6⟩:=bB r g1;exact ⟨v,g5,φ', .ret y,GL,⟨g4,rfl⟩,He (fun x o U=>r.hp.lt x o U) r.hp.gm.w (fun g J o h=>r.hp.gm.m g J o (.inr h)),Z E,v,rfl,(WE Y).1 _ _ g3 (JJ.1 _ _ _ g2 g6)⟩
 ·intro x s φ' a w' v G r E hv;exact ⟨φ', .panic x,GL,⟨G.2,rfl⟩,He (fun x o U=>r.hp.lt x o U) r.hp.gm.w (fun g J o h=>r.hp.gm.m g J o (.inr h)),Z E,v,rfl,(WE Y).1 _ _ G.1 hv⟩
 ·intro i s G;exact G
theorem xH {X:Zz} (hf:P.funcs[f]?=some fn) (hb:fn.body=some c) (G:args.length≤fn.ntmps)
  (h:Ex P fn.ntmps none c ⟨YR 0 args,[]⟩ (Qad P fn (·=X))):QB P f args X:=xD hf hb G h
theorem xI:(∀ x:AV,le x x)∧(∀ xs:List AV,PR xs xs):=by
 have key:∀ n:Nat,(∀ (x:AV),SizeOf.sizeOf x≤n→le x x)∧(∀ (xs:List AV),SizeOf.sizeOf xs≤n→PR xs xs):=by
  intro n
  induction n with
  | zero =>
   refine ⟨fun x G=>?_,fun es G=>?_⟩
   ·cases x <;> simp at G
   ·cases es <;> simp at G
  | succ n O =>
   obtain ⟨J,i2⟩:=O;refine ⟨fun x G=>?_,fun xs G=>?_⟩
   ·cases x with
    | p x=>cases x <;> simp [le]
    | agg cs=>simp only [le]; exact ⟨cs,rfl,i2 cs (by simp at G; omega)⟩
    | tup cs=>simp only [le]; exact ⟨cs,rfl,i2 cs (by simp at G; omega)⟩
    | _=>simp [le]
   ·cases xs with
    | nil=>simp [PR]
    | cons x xs=>simp only [PR]; simp at G; exact ⟨x,xs,rfl,J x zo,i2 xs zo⟩
 exact ⟨fun x=>(key (SizeOf.sizeOf x)).1 x (Nat.le_refl _),fun xs=>(key (SizeOf.sizeOf xs)).2 xs (Nat.le_refl _)⟩
theorem le_refl (x:AV):le x x:=xI.1 x
theorem xJ (xs:List AV):PR xs xs:=xI.2 xs
mutual
def ZW (h:QG):AV→Bool
 | .p _=>true
 | .eptr _=>true
 | .tsl _ _ t=>(h t).isSome
 | .ptr b _=>(h b).isSome
 | .vnil=>true
 | .vsl _ t _=>(h t).isSome
 | .vptr t _ _ _=>(h t).isSome
 | .yv b=>(h b).isSome
 | .mv b=>(h b).isSome
 | .bsl b _=>(h b).isSome
 | .sfp b=>(h b).isSome
 | .iv b=>(h b).isSome
 | .agg cs=>Z0 h cs
 | .tup cs=>Z0 h cs
 | .fn _ a b=>Z0 h a&&Z0 h b
 | .ifc _ x=>ZW h x
def Z0 (h:QG):List AV→Bool
 | []=>true
 | x :: xs=>ZW h x&&Z0 h xs
end
theorem PW (h:QG):∀ l:List PV,Z0 h (l.map .p)=true
 | []=>by simp [Z0]
 | x :: l=>by simp [Z0,ZW,PW h l]
def leB:Blk→Blk→Prop
 | .box ty cs,k=>∃ cs',k=.box ty cs'∧PR cs cs'
 | .arr ty S n,k=>k=.arr ty S n
 | .vec ty S es,k=>k=.vec ty S es
 | .lp T nf st pd,k=>k=.lp T nf st pd
 | .mp es,k=>k=.mp es
 | .mf es,k=>k=.mf es
 | .mg O G es,k=>k=.mg O G es
 | .it m G J,k=>k=.it m G J
theorem XT {k k':Blk} {x:OB} (h:leB k k') (G:k.ob=some x):k'.ob=some x:=by
 cases k with
 | box ty cs=>cases G
 | arr ty S n=>cases G
 | vec ty S es=>cases G
 | lp T nf st pd=>simp only [leB] at h; subst h; exact G
 | mp es=>simp only [leB] at h; subst h; exact G
 | mf es=>simp only [leB] at h; subst h; exact G
 | mg U J es=>simp only [leB] at h; subst h; exact G
 | it m J O=>simp only [leB] at h; subst h; exact G
theorem PX (hM:∀ r o,M' r o→M r o) (hh:∀ b k',h' b=some k'→∃ k,h b=some k∧leB k k') :
  (∀ (x:AV) (v:Value),ZW h' x=true→Qe φ h w M x v→Qe φ h' w M' x v)∧(∀ (xs:List AV) (l:List Value),Z0 h' xs=true→Qi φ h w M xs l→Qi φ h' w M' xs l):=by
 obtain ⟨kp,ke,kc⟩:=ZP (w:=w) (w':=w) (M:=M) (M':=M') (fun r o v Y O=>⟨Y,fun h3=>O (hM r o h3)⟩)
 have key:∀ n:Nat,(∀ (x:AV),SizeOf.sizeOf x≤n→∀ v,ZW h' x=true→Qe φ h w M x v→Qe φ h' w M' x v)∧(∀ (xs:List AV),SizeOf.sizeOf xs≤n→∀ l,Z0 h' xs=true→Qi φ h w M xs l→Qi φ h' w M' xs l):=by
  intro n
  induction n with
  | zero =>
   refine ⟨fun x hx=>?_,fun es hx=>?_⟩
   ·cases x <;> simp at hx
   ·cases es <;> simp at hx
  | succ n ih =>
   obtain ⟨i1,i2⟩:=ih;refine ⟨fun x hx v U J=>?_,fun xs hx l U J=>?_⟩
   ·cases x with
    | p x=>simp only [Qe] at J ⊢; exact kp x v J
    | tsl S es t =>
     simp only [ZW] at U;obtain ⟨k',G⟩:=Td.1 U;simp only [Qe] at J ⊢;obtain ⟨Y,ty,m,O,h3⟩:=J;obtain ⟨k,Z,e2⟩:=hh t k' G;rw [O] at Z;cases Z;simp only [leB] at e2;exact ⟨kp _ _ Y,ty,m,by rw [G,e2],h3⟩
    | ptr b off =>
     simp only [ZW] at U;obtain ⟨k',G⟩:=Td.1 U;simp only [Qe] at J ⊢;obtain ⟨Y,ty,cs,O⟩:=J;obtain ⟨k,Z,e2⟩:=hh b k' G;rw [O] at Z;cases Z;simp only [leB] at e2;obtain ⟨cs',e3,_⟩:=e2;exact ⟨Y,ty,cs',by rw [G,e3]⟩
    | bsl b n =>
     simp only [ZW] at U;obtain ⟨k',G⟩:=Td.1 U;simp only [Qe] at J ⊢;obtain ⟨Y,ty,cs,O⟩:=J;obtain ⟨k,Z,e2⟩:=hh b k' G;rw [O] at Z;cases Z;simp only [leB] at e2;obtain ⟨cs',e3,_⟩:=e2;exact ⟨Y,ty,cs',by rw [G,e3]⟩
    | sfp b =>
     simp only [ZW] at U;obtain ⟨k',G⟩:=Td.1 U;simp only [Qe] at J ⊢;obtain ⟨Y,ty,cs,O⟩:=J;obtain ⟨k,Z,e2⟩:=hh b k' G;rw [O] at Z;cases Z;simp only [leB] at e2;obtain ⟨cs',e3,_⟩:=e2;exact ⟨Y,ty,cs',by rw [G,e3]⟩
    | vnil=>simp only [Qe] at J ⊢; exact J
    | vsl S t n =>
     simp only [ZW] at U;obtain ⟨k',G⟩:=Td.1 U;simp only [Qe] at J ⊢;obtain ⟨Y,ty,m,O,h3⟩:=J;obtain ⟨k,Z,e2⟩:=hh t k' G;rw [O] at Z;cases Z;simp only [leB] at e2;exact ⟨Y,ty,m,by rw [G,e2],h3⟩
    | vptr t n k f =>
     simp only [ZW] at U;obtain ⟨k',G⟩:=Td.1 U;simp only [Qe] at J ⊢;obtain ⟨Y,ty,S,m,O,h3⟩:=J;obtain ⟨k,Z,e2⟩:=hh t k' G;rw [O] at Z;cases Z;simp only [leB] at e2;exact ⟨Y,ty,S,m,by rw [G,e2],h3⟩
    | yv b =>
     simp only [ZW] at U;obtain ⟨k',G⟩:=Td.1 U;simp only [Qe] at J ⊢;obtain ⟨Y,k,T,nf,O,h3⟩:=J;obtain ⟨k2,Z,e2⟩:=hh b k' G;rw [O] at Z;cases Z;exact ⟨Y,k',T,nf,G,XT e2 h3⟩
    | mv b =>
     simp only [ZW] at U;obtain ⟨k',G⟩:=Td.1 U;simp only [Qe] at J ⊢;obtain ⟨Y,k,O,h3⟩:=J;obtain ⟨k2,Z,e2⟩:=hh b k' G;rw [O] at Z;cases Z;exact ⟨Y,k',G,XT e2 h3⟩
    | iv b =>
     simp only [ZW] at U;obtain ⟨k',G⟩:=Td.1 U;simp only [Qe] at J ⊢;obtain ⟨Y,k,O,h3⟩:=J;obtain ⟨k2,Z,e2⟩:=hh b k' G;rw [O] at Z;cases Z;exact ⟨Y,k',G,XT e2 h3⟩
    | eptr cs =>
     simp only [Qe] at J ⊢;obtain ⟨r,o,Y,O⟩:=J;exact ⟨r,o,Y,kc cs r o O⟩
    | agg cs =>
     simp only [Qe,ZW] at J U ⊢;obtain ⟨l,Y,O⟩:=J;exact ⟨l,Y,i2 cs (by simp at hx; omega) l U O⟩
    | tup cs =>
     simp only [Qe,ZW] at J U ⊢;obtain ⟨l,Y,O⟩:=J;exact ⟨l,Y,i2 cs (by simp at hx; omega) l U O⟩
    | fn f a b =>
     simp only [Qe,ZW,Ze] at J U ⊢;obtain ⟨l,m,Y,O,h3⟩:=J;simp at hx;exact ⟨l,m,Y,i2 a zo l U.1 O,i2 b zo m U.2 h3⟩
    | ifc t x =>
     simp only [Qe,ZW] at J U ⊢;obtain ⟨y,Y,O⟩:=J;exact ⟨y,Y,i1 x (by simp at hx; omega) y U O⟩
   ·cases xs with
    | nil=>simpa [Qi] using J
    | cons x xs =>
     simp only [Qi,Z0,Ze] at J U ⊢;simp at hx;obtain ⟨y,ys,Y,O,h3⟩:=J;exact ⟨y,ys,Y,i1 x zo y U.1 O,i2 xs zo ys U.2 h3⟩
 exact ⟨fun x v=>(key (SizeOf.sizeOf x)).1 x (Nat.le_refl _) v,fun xs l=>(key (SizeOf.sizeOf xs)).2 xs (Nat.le_refl _) l⟩
def leO:Option AV→AV→Prop
 | some y,x=>le y x
 | none,_=>False
def QfF:Option Blk→Blk→Prop
 | some k,k'=>leB k k'
 | none,_=>False
def qf (T:Nat→Option AV) (h':QG):List (Nat × AV)→Prop
 | []=>True
 | (t,x) :: l=>leO (T t) x∧ZW h' x=true∧qf T h' l
def okRefB (h:QG):Blk→Bool
 | .box _ cs=>Z0 h cs
 | .arr _ _ _=>true
 | .vec _ _ _=>true
 | .lp T _ _ _=>Z0 h (T.map (·.2))
 | .mp es=>true
 | .mf es=>Z0 h (es.map (·.2.2))
 | .mg _ _ es=>Z0 h (es.map (·.2.2))
 | .it m _ _=>(h m).isSome
def MH (h h':QG):List (Nat × Blk)→Prop
 | []=>True
 | (b,k) :: l=>QfF (h b) k∧okRefB h' k=true∧MH h h' l
def KU (h':QG):List (Nat × Blk)→Bool
 | []=>true
 | (b,_) :: l=>(decide (b < 1000)||(h' b).isSome)&&KU h' l
theorem BR {T:Nat→Option AV} {h':QG}:∀ {l:List (Nat × AV)},qf T h' l→∀ t x,look l t=some x→∃ y,T t=some y∧le y x∧ZW h' x=true
 | [],_,t,x,G=>by simp [look] at G
 | (t0,J) :: l,hs,t,x,G=>by
  simp only [qf] at hs;simp only [look] at G;by_cases e:t0=t
  ·simp only [e,if_true,QN] at G;subst G e;cases hq:T t0 with
   | none=>rw [hq] at hs; exact hs.1.elim
   | some y=>rw [hq] at hs; exact ⟨y,rfl,hs.1,hs.2.1⟩
  ·simp only [e,if_false] at G;exact BR hs.2.2 t x G
theorem Jr {h h':QG}:∀ {l:List (Nat × Blk)},MH h h' l→∀ b k',look l b=some k'→(∃ k,h b=some k∧leB k k')∧okRefB h' k'=true
 | [],_,t,x,G=>by simp [look] at G
 | (t0,J) :: l,hs,t,x,G=>by
  simp only [MH] at hs;simp only [look] at G;by_cases e:t0=t
  ·simp only [e,if_true,QN] at G;subst G e;cases hq:h t0 with
   | none=>rw [hq] at hs; exact hs.1.elim
   | some y=>rw [hq] at hs; exact ⟨⟨y,rfl,hs.1⟩,hs.2.1⟩
  ·simp only [e,if_false] at G;exact Jr hs.2.2 t x G
theorem Kt {h':QG}:∀ {l:List (Nat × Blk)},KU h' l=true→∀ b k,1000≤b→look l b=some k→∃ k',h' b=some k'
 | [],_,b,k,_,G=>by simp [look] at G
 | (O,U) :: l,hs,b,k,hb,G=>by
  simp only [KU,Ze,Bool.or_eq_true,decide_eq_true_eq] at hs;simp only [look] at G;by_cases e:O=b
  ·subst e;rcases hs.1 with J | J
   ·omega
   ·exact Td.1 J
  ·simp only [e,if_false] at G;exact Kt hs.2 b k hb G
theorem Rq (h:QG):∀ (es:List (Value × PV)),Z0 h (es.map fun p=>.p p.2)=true
 | []=>rfl
 | x :: es=>by simp only [List.map_cons,Z0,ZW,Bool.true_and]; exact Rq h es
theorem WF {h:QG}:∀ {es:List (Bool × List UInt8 × AV)},Z0 h (es.map (·.2.2))=true→Z0 h ((Tf es).map (·.2.2))=true
 | [],_=>rfl
 | (f,k,x) :: es,G=>by
  simp only [List.map_cons,Z0,Ze] at G;cases f with
  | false=>exact WF (es:=es) G.2
  | true=>simp only [Tf,List.filter_cons_of_pos,List.map_cons,Z0,Ze]; exact ⟨G.1,WF (es:=es) G.2⟩
theorem Hg {h:QG}:∀ {T:List (Nat × AV)} {t:Nat} {x:AV},Z0 h (T.map (·.2))=true→look T t=some x→ZW h x=true
 | [],t,x,_,G=>by simp [look] at G
 | (k,y) :: T,t,x,J,G=>by
  simp only [List.map_cons,Z0,Ze] at J;simp only [look] at G;by_cases e:k=t
  ·simp only [e,if_true,QN] at G;subst G;exact J.1
  ·simp only [e,if_false] at G;exact Hg J.2 G
theorem xK (hT:qf (look s.T) (look s'.H) s'.T) (hH:MH (look s.H) (look s'.H) s'.H) (hK:KU (look s'.H) s.H=true) (r:Q6 φ M0 N D (look s.T) (look s.H) a w):Q6 φ M0 N D (look s'.T) (look s'.H) a w∧QT φ (look s.H) w φ (look s'.H) w:=by
 have hh:∀ b k',look s'.H b=some k'→∃ k,look s.H b=some k∧leB k k':=fun b k' hb=>(Jr hH b k' hb).1
 have ab:∀ r o,DJ φ (look s'.H) r o→DJ φ (look s.H) r o:=by
  rintro x o ⟨b,k',O,G,J⟩;obtain ⟨k,Y,h5⟩:=hh b k' O;refine ⟨b,k,Y,G,?_⟩;cases k with
  | box ty cs=>trivial
  | arr ty S n=>simp only [leB] at h5; subst h5; exact J
  | vec ty S es=>trivial
  | lp T nf st pd=>trivial
  | mp es=>trivial
  | mf es=>trivial
  | mg en cl es=>trivial
  | it m cl sn=>trivial
 have hM:∀ r o,MM φ (look s'.H) M0 r o→MM φ (look s.H) M0 r o:=fun x o hx=>hx.elim (fun h=>.inl (ab x o h)) .inr
 have U:∀ b,look s'.H b ≠ none→look s.H b ≠ none:=fun b hb=>by
  cases hq:look s'.H b with
  | none=>exact absurd hq hb
  | some k'=>obtain ⟨k,O,_⟩:=hh b k' hq; rw [O]; simp
 obtain ⟨c1,c2⟩:=PX (φ:=φ) (w:=w) hM hh
 have ae:Zw φ (look s'.H) w M0:=by
  refine ⟨fun b c hb hc=>r.hp.inj b c (U b hb) (U c hc),fun b k' hb=>?_,fun b hb=>r.hp.fr b (U b hb),r.hp.lt,r.hp.gm.sub hM⟩;obtain ⟨⟨k,O,G⟩,J⟩:=Jr hH b k' hb;have Y:=r.hp.blk b k O;cases k with
  | box ty cs =>
   simp only [leB] at G;obtain ⟨cs',rfl,h5⟩:=G;obtain ⟨c,h6,h7⟩:=Y;exact ⟨c,h6,c2 _ _ J (JJ.2 _ _ _ h5 h7)⟩
  | arr ty S n=>simp only [leB] at G; subst G; exact Y
  | vec ty S es =>
   simp only [leB] at G;subst G;obtain ⟨c,cap,g1,g2,g3,g4,g5,g6,g7⟩:=Y;exact ⟨c,cap,g1,g2,g3,g4,g5,g6,c2 _ _ (PW _ _) g7⟩
  | lp T nf st pd =>
   simp only [leB] at G;subst G;obtain ⟨tmps,d,g1,g2,g3⟩:=Y;exact ⟨tmps,d,g1,g2,fun t x ht=>⟨(g3 t x ht).1,c1 _ _ (Hg J ht) (g3 t x ht).2⟩⟩
  | mp es =>
   simp only [leB] at G;subst G;obtain ⟨en,cl,g1,g2,g3⟩:=Y;exact ⟨en,cl,g1,g2,c2 _ _ (Rq _ _) g3⟩
  | mf es =>
   simp only [leB] at G;subst G;obtain ⟨en,cl,g1,g2,g3,g5⟩:=Y;exact ⟨en,cl,g1,g2,c2 _ _ (WF J) g3,g5⟩
  | mg en cl es =>
   simp only [leB] at G;subst G;obtain ⟨g1,g2,g3,g5⟩:=Y;exact ⟨g1,g2,c2 _ _ (WF J) g3,g5⟩
  | it m cl sn =>
   simp only [leB] at G;subst G;obtain ⟨g1,k0,g2,g3⟩:=Y;obtain ⟨km,ad⟩:=Td.1 J;obtain ⟨k1,g5,g6⟩:=hh m km ad;rw [g2] at g5;cases g5;exact ⟨g1,km,ad,XT g6 g3⟩
 have ac:Marks φ D (look s'.H) a w:=by
  obtain ⟨h0,ms,O,G,J⟩:=r.dfs;exact ⟨h0,ms,O,G,fun x hx=>⟨(J x hx).1,(J x hx).2.1,fun b hb=>(J x hx).2.2 b (U b hb)⟩⟩
 refine ⟨⟨ac,r.siz,ae,fun t x ht=>?_⟩,⟨rfl,rfl,rfl,Nat.le_refl _,fun _ _ _=>rfl,fun _ _ _ _=>rfl,fun x o _ hx=>ab x o hx,?_,?_,?_,?_⟩⟩
 ·obtain ⟨y,O,G,J⟩:=BR hT t x ht;exact ⟨(r.tm t y O).1,c1 _ _ J (JJ.1 _ _ _ G (r.tm t y O).2)⟩
 ·intro b ty cs hb aa;obtain ⟨k',O⟩:=Kt hK b _ hb aa;obtain ⟨k,G,J⟩:=hh b k' O;rw [aa] at G;cases G;simp only [leB] at J;obtain ⟨cs',Y,_⟩:=J;exact ⟨⟨cs',by rw [O,Y]⟩,rfl⟩
 ·intro t ty S n ht Z;obtain ⟨k',O⟩:=Kt hK t _ ht Z;obtain ⟨k,G,J⟩:=hh t k' O;rw [Z] at G;cases G;simp only [leB] at J;exact ⟨n,by rw [O,J],Nat.le_refl _,fun _=>Yi (rfl) rfl⟩
 ·intro t ty S n ht Z;obtain ⟨k',O⟩:=Kt hK t _ ht Z;obtain ⟨k,G,J⟩:=hh t k' O;rw [Z] at G;cases G;simp only [leB] at J;exact ⟨n,by rw [O,J],Nat.le_refl _,fun _=>⟨rfl,fun c hc=>⟨c,hc,rfl⟩⟩⟩
 ·intro b k x hb aa ho;obtain ⟨k',O⟩:=Kt hK b _ hb aa;obtain ⟨k2,G,J⟩:=hh b k' O;rw [aa] at G;cases G;exact ⟨⟨k',O,XT J ho⟩,rfl⟩
theorem Qae (J:qf (look s.T) (look s'.H) s'.T) (G:MH (look s.H) (look s'.H) s'.H) (O:KU (look s'.H) s.H=true):Weak N s s' :=
 fun φ _ _ _ _ r=>⟨φ,xK J G O r⟩
attribute [go_sem] Tv OH jU jV
attribute [go_sem ↓] KT XP Ki ZB Gw
attribute [go_sem] yieldOf ZA Zb WW VM Za Sj OE look YR XK St.put zu Ky Ti Sm aUn jW Nq Gu PK vz Pz OC zz cellsOf Us AV.one H9 Xf Xg Fu iU U9 isB elems jQ OD Si Fg Rk WZ U7 Uu iI xc BK aEq mi eqV eqV.eqFs Cj isConst Sg Nn OG PD vk U8 Tz Xx F8 Nr isNil ZO pR OP Ns Xj Xi fQ TD OQ fU BJ Value.oneCell' TH kZ QcC ZB Gw rE Dj Ce iK MS
mutual
def WG (ρ:Nat→Nat):AV→AV
 | .p x=>.p x
 | .eptr cs=>.eptr cs
 | .tsl S es t=>.tsl S es (ρ t)
 | .ptr b off=>.ptr (ρ b) off
 | .vnil=>.vnil
 | .vsl S t n=>.vsl S (ρ t) n
 | .vptr t n k f=>.vptr (ρ t) n k f
 | .yv b=>.yv (ρ b)
 | .mv b=>.mv (ρ b)
 | .bsl b n=>.bsl (ρ b) n
 | .sfp b=>.sfp (ρ b)
 | .iv b=>.iv (ρ b)
 | .agg cs=>.agg (Vu ρ cs)
 | .tup cs=>.tup (Vu ρ cs)
 | .fn f a b=>.fn f (Vu ρ a) (Vu ρ b)
 | .ifc t x=>.ifc t (WG ρ x)
def Vu (ρ:Nat→Nat):List AV→List AV
 | []=>[]
 | x :: xs=>WG ρ x :: Vu ρ xs
end
def ZM (ρ:Nat→Nat):Blk→Blk
 | .box ty cs=>.box ty (Vu ρ cs)
 | .arr ty S n=>.arr ty S n
 | .vec ty S es=>.vec ty S es
 | .lp T nf st pd=>.lp (T.map fun p=>(p.1,WG ρ p.2)) nf st pd
 | .mp es=>.mp es
 | .mf es=>.mf (es.map fun e=>(e.1,e.2.1,WG ρ e.2.2))
 | .mg O G es=>.mg O G (es.map fun e=>(e.1,e.2.1,WG ρ e.2.2))
 | .it m G J=>.it (ρ m) G J
def zK (ρ:Nat→Nat):OB→OB
 | .lp T nf=>.lp (T.map fun p=>(p.1,WG ρ p.2)) nf
 | .mp=>.mp
theorem WS (ρ:Nat→Nat) (k:Blk):(ZM ρ k).ob=k.ob.map (zK ρ):=by cases k <;> rfl
theorem QfG {k:Blk} (h:(ZM ρ k).ob=some .mp):k.ob=some .mp:=by
 rw [WS] at h;cases hk:k.ob with
 | none=>rw [hk] at h; cases h
 | some x =>
  rw [hk] at h;cases x with
  | mp=>rfl
  | lp T nf=>simp [zK] at h
theorem Rt (ρ:Nat→Nat):∀ (T:List (Nat × AV)) (t:Nat),look (T.map fun p=>(p.1,WG ρ p.2)) t=(look T t).map (WG ρ)
 | [],t=>rfl
 | (k,v) :: T,t=>by
  simp only [List.map_cons,look];by_cases e:k=t
  ·simp [e]
  ·simp only [e,if_false]; exact Rt ρ T t
theorem qg (ρ:Nat→Nat):∀ (es:List (Value × PV)),Vu ρ (es.map fun p=>.p p.2)=es.map fun p=>.p p.2
 | []=>rfl
 | x :: es=>by simp only [List.map_cons,Vu,WG]; rw [qg ρ es]
theorem UQ (ρ:Nat→Nat):∀ (es:List (Bool × List UInt8 × AV)),(Tf (es.map fun e=>(e.1,e.2.1,WG ρ e.2.2))).map (·.2.2)=Vu ρ ((Tf es).map (·.2.2))
 | []=>rfl
 | (f,k,x) :: es=>by
  cases f with
  | false=>exact UQ ρ es
  | true =>
   have:=UQ ρ es;simp only [Tf] at this ⊢;simp only [List.map_cons,List.filter_cons_of_pos,Vu,this]
theorem UR (ρ:Nat→Nat):∀ (es:List (Bool × List UInt8 × AV)),(Tf (es.map fun e=>(e.1,e.2.1,WG ρ e.2.2))).map (fun e=>A7 e.2.1)=(Tf es).map (fun e=>A7 e.2.1)
 | []=>rfl
 | (f,k,x) :: es=>by
  cases f with
  | false=>exact UR ρ es
  | true =>
   have:=UR ρ es;simp only [Tf] at this ⊢;simp only [List.map_cons,List.filter_cons_of_pos,this]
section
variable {ρ φ φc:Nat→Nat} {h hc:QG} {w:World} {M Mc:Zn}
theorem QfH (aa:∀ c,hc c ≠ none→φc c=φ (ρ c)) (hM:∀ r o,Mc r o→M r o) (hh:∀ c k,hc c=some k→∃ k0,h (ρ c)=some k0∧leB k0 (ZM ρ k)) :
  (∀ (x:AV) (v:Value),ZW hc x=true→Qe φ h w M (WG ρ x) v→Qe φc hc w Mc x v)∧(∀ (xs:List AV) (l:List Value),Z0 hc xs=true→Qi φ h w M (Vu ρ xs) l→Qi φc hc w Mc xs l):=by
 obtain ⟨kp,ke,kc⟩:=ZP (w:=w) (w':=w) (M:=M) (M':=Mc) (fun r o v Y O=>⟨Y,fun h3=>O (hM r o h3)⟩)
 have key:∀ n:Nat,(∀ (x:AV),SizeOf.sizeOf x≤n→∀ v,ZW hc x=true→Qe φ h w M (WG ρ x) v→Qe φc hc w Mc x v)∧(∀ (xs:List AV),SizeOf.sizeOf xs≤n→∀ l,Z0 hc xs=true→Qi φ h w M (Vu ρ xs) l→Qi φc hc w Mc xs l):=by
  intro n
  induction n with
  | zero =>
   refine ⟨fun x hx=>?_,fun es hx=>?_⟩
   ·cases x <;> simp at hx
   ·cases es <;> simp at hx
  | succ n ih =>
   obtain ⟨i1,i2⟩:=ih;refine ⟨fun x hx v U J=>?_,fun xs hx l U J=>?_⟩
   ·cases x with
    | p x=>simp only [WG,Qe] at J ⊢; exact kp x v J
    | tsl S es t =>
     simp only [ZW] at U;obtain ⟨k,G⟩:=Td.1 U;simp only [WG,Qe] at J ⊢;obtain ⟨Y,ty,m,O,h3⟩:=J;obtain ⟨k0,Z,e2⟩:=hh t k G;rw [O] at Z;cases Z
     have ab:k=.arr ty S m:=by
      cases k with
      | arr _ _ _=>simpa [leB,ZM] using e2
      | _=>simp [leB,ZM] at e2
     refine ⟨kp _ _ Y,ty,m,by rw [G,ab],?_⟩;rw [aa t (by rw [G]; simp)];exact h3
    | ptr b off =>
     simp only [ZW] at U;obtain ⟨k,G⟩:=Td.1 U;simp only [WG,Qe] at J ⊢;obtain ⟨Y,ty,cs,O⟩:=J;obtain ⟨k0,Z,e2⟩:=hh b k G;rw [O] at Z;cases Z;cases k with
     | box ac cs'=>exact ⟨by rw [aa b (by rw [G]; simp)]; exact Y,ac,cs',G⟩
     | _=>simp [leB,ZM] at e2
    | bsl b n =>
     simp only [ZW] at U;obtain ⟨k,G⟩:=Td.1 U;simp only [WG,Qe] at J ⊢;obtain ⟨Y,ty,cs,O⟩:=J;obtain ⟨k0,Z,e2⟩:=hh b k G;rw [O] at Z;cases Z;cases k with
     | box ac cs'=>exact ⟨by rw [aa b (by rw [G]; simp)]; exact Y,ac,cs',G⟩
     | _=>simp [leB,ZM] at e2
    | sfp b =>
     simp only [ZW] at U;obtain ⟨k,G⟩:=Td.1 U;simp only [WG,Qe] at J ⊢;obtain ⟨Y,ty,cs,O⟩:=J;obtain ⟨k0,Z,e2⟩:=hh b k G;rw [O] at Z;cases Z;cases k with
     | box ac cs'=>exact ⟨by rw [aa b (by rw [G]; simp)]; exact Y,ac,cs',G⟩
     | _=>simp [leB,ZM] at e2
    | vnil=>simp only [WG,Qe] at J ⊢; exact J
    | vsl S t n =>
     simp only [ZW] at U;obtain ⟨k,G⟩:=Td.1 U;simp only [WG,Qe] at J ⊢;obtain ⟨Y,ty,m,O,h3⟩:=J;obtain ⟨k0,Z,e2⟩:=hh t k G;rw [O] at Z;cases Z
     have ab:k=.vec ty S m:=by
      cases k with
      | vec _ _ _=>simpa [leB,ZM] using e2
      | _=>simp [leB,ZM] at e2
     refine ⟨Y,ty,m,by rw [G,ab],?_⟩;rw [aa t (by rw [G]; simp)];exact h3
    | vptr t n k f =>
     simp only [ZW] at U;obtain ⟨k,G⟩:=Td.1 U;simp only [WG,Qe] at J ⊢;obtain ⟨Y,ty,S,m,O,h3⟩:=J;obtain ⟨k0,Z,e2⟩:=hh t k G;rw [O] at Z;cases Z
     have ab:k=.vec ty S m:=by
      cases k with
      | vec _ _ _=>simpa [leB,ZM] using e2
      | _=>simp [leB,ZM] at e2
     refine ⟨Y,ty,S,m,by rw [G,ab],?_⟩;rw [aa t (by rw [G]; simp)];exact h3
    | yv b =>
     simp only [ZW] at U;obtain ⟨k,G⟩:=Td.1 U;simp only [WG,Qe] at J ⊢;obtain ⟨Y,k1,T,nf,O,h3⟩:=J;obtain ⟨k0,Z,e2⟩:=hh b k G;rw [O] at Z;cases Z;have e3:=XT e2 h3;rw [WS] at e3;refine ⟨by rw [aa b (by rw [G]; simp)]; exact Y,k,?_⟩;cases k with
     | lp T' ad st pd=>exact ⟨T',ad,G,rfl⟩
     | _=>simp [Blk.ob,zK] at e3
    | mv b =>
     simp only [ZW] at U;obtain ⟨k,G⟩:=Td.1 U;simp only [WG,Qe] at J ⊢;obtain ⟨Y,k1,O,h3⟩:=J;obtain ⟨k0,Z,e2⟩:=hh b k G;rw [O] at Z;cases Z;have e3:=XT e2 h3;rw [WS] at e3;refine ⟨by rw [aa b (by rw [G]; simp)]; exact Y,k,?_⟩;cases k with
     | mp es=>exact ⟨G,rfl⟩
     | mf es=>exact ⟨G,rfl⟩
     | mg en cl es=>exact ⟨G,rfl⟩
     | it m cl sn=>exact ⟨G,rfl⟩
     | _=>simp [Blk.ob,zK] at e3
    | iv b =>
     simp only [ZW] at U;obtain ⟨k,G⟩:=Td.1 U;simp only [WG,Qe] at J ⊢;obtain ⟨Y,k1,O,h3⟩:=J;obtain ⟨k0,Z,e2⟩:=hh b k G;rw [O] at Z;cases Z;have e3:=XT e2 h3;rw [WS] at e3;refine ⟨by rw [aa b (by rw [G]; simp)]; exact Y,k,?_⟩;cases k with
     | mp es=>exact ⟨G,rfl⟩
     | mf es=>exact ⟨G,rfl⟩
     | mg en cl es=>exact ⟨G,rfl⟩
     | it m cl sn=>exact ⟨G,rfl⟩
     | _=>simp [Blk.ob,zK] at e3
    | eptr cs =>
     simp only [WG,Qe] at J ⊢;obtain ⟨r,o,Y,O⟩:=J;exact ⟨r,o,Y,kc cs r o O⟩
    | agg cs =>
     simp only [WG,Qe,ZW] at J U ⊢;obtain ⟨l,Y,O⟩:=J;exact ⟨l,Y,i2 cs (by simp at hx; omega) l U O⟩
    | tup cs =>
     simp only [WG,Qe,ZW] at J U ⊢;obtain ⟨l,Y,O⟩:=J;exact ⟨l,Y,i2 cs (by simp at hx; omega) l U O⟩
    | fn f a b =>
     simp only [WG,Qe,ZW,Ze] at J U ⊢;obtain ⟨l,m,Y,O,h3⟩:=J;simp at hx;exact ⟨l,m,Y,i2 a zo l U.1 O,i2 b zo m U.2 h3⟩
    | ifc t x =>
     simp only [WG,Qe,ZW] at J U ⊢;obtain ⟨y,Y,O⟩:=J;exact ⟨y,Y,i1 x (by simp at hx; omega) y U O⟩
   ·cases xs with
    | nil=>simpa [Vu,Qi] using J
    | cons x xs =>
     simp only [Vu,Qi,Z0,Ze] at J U ⊢;simp at hx;obtain ⟨y,ys,Y,O,h3⟩:=J;exact ⟨y,ys,Y,i1 x zo y U.1 O,i2 xs zo ys U.2 h3⟩
 exact ⟨fun x v=>(key (SizeOf.sizeOf x)).1 x (Nat.le_refl _) v,fun xs l=>(key (SizeOf.sizeOf xs)).2 xs (Nat.le_refl _) l⟩
theorem xL (U:∀ c,hc c ≠ none→φ (ρ c)=φc c) (hM:∀ r o v,w.cell? ⟨r,o,none⟩=some v→M r o→Mc r o) (hh:∀ c k,hc c=some k→h (ρ c)=some (ZM ρ k)) :
  (∀ (x:AV) (v:Value),Qe φc hc w Mc x v→Qe φ h w M (WG ρ x) v)∧(∀ (xs:List AV) (l:List Value),Qi φc hc w Mc xs l→Qi φ h w M (Vu ρ xs) l):=by
 obtain ⟨kp,ke,kc⟩:=ZP (w:=w) (w':=w) (M:=Mc) (M':=M) (fun r o v O G=>⟨O,fun Y=>G (hM r o v O Y)⟩)
 have key:∀ n:Nat,(∀ (x:AV),SizeOf.sizeOf x≤n→∀ v,Qe φc hc w Mc x v→Qe φ h w M (WG ρ x) v)∧(∀ (xs:List AV),SizeOf.sizeOf xs≤n→∀ l,Qi φc hc w Mc xs l→Qi φ h w M (Vu ρ xs) l):=by
  intro n
  induction n with
  | zero =>
   refine ⟨fun x Z=>?_,fun es Z=>?_⟩
   ·cases x <;> simp at Z
   ·cases es <;> simp at Z
  | succ n ih =>
   obtain ⟨i1,i2⟩:=ih;refine ⟨fun x Z v J=>?_,fun xs Z l J=>?_⟩
   ·cases x with
    | p x=>simp only [WG,Qe] at J ⊢; exact kp x v J
    | tsl S es t =>
     simp only [WG,Qe] at J ⊢;obtain ⟨O,ty,m,G,Y⟩:=J;refine ⟨kp _ _ O,ty,m,by rw [hh t _ G]; rfl,?_⟩;rw [U t (by rw [G]; simp)];exact Y
    | ptr b off =>
     simp only [WG,Qe] at J ⊢;obtain ⟨O,ty,cs,G⟩:=J;exact ⟨by rw [U b (by rw [G]; simp)]; exact O,ty,Vu ρ cs,by rw [hh b _ G]; rfl⟩
    | bsl b n =>
     simp only [WG,Qe] at J ⊢;obtain ⟨O,ty,cs,G⟩:=J;exact ⟨by rw [U b (by rw [G]; simp)]; exact O,ty,Vu ρ cs,by rw [hh b _ G]; rfl⟩
    | sfp b =>
     simp only [WG,Qe] at J ⊢;obtain ⟨O,ty,cs,G⟩:=J;exact ⟨by rw [U b (by rw [G]; simp)]; exact O,ty,Vu ρ cs,by rw [hh b _ G]; rfl⟩
    | vnil=>simp only [WG,Qe] at J ⊢; exact J
    | vsl S t n =>
     simp only [WG,Qe] at J ⊢;obtain ⟨O,ty,m,G,Y⟩:=J;refine ⟨O,ty,m,by rw [hh t _ G]; rfl,?_⟩;rw [U t (by rw [G]; simp)];exact Y
    | vptr t n k f =>
     simp only [WG,Qe] at J ⊢;obtain ⟨O,ty,S,m,G,Y⟩:=J;refine ⟨O,ty,S,m,by rw [hh t _ G]; rfl,?_⟩;rw [U t (by rw [G]; simp)];exact Y
    | yv b =>
     simp only [WG,Qe] at J ⊢;obtain ⟨O,k,T,nf,G,Y⟩:=J;exact ⟨by rw [U b (by rw [G]; simp)]; exact O,ZM ρ k,_,nf,hh b _ G,by rw [WS,Y]; rfl⟩
    | mv b =>
     simp only [WG,Qe] at J ⊢;obtain ⟨O,k,G,Y⟩:=J;exact ⟨by rw [U b (by rw [G]; simp)]; exact O,ZM ρ k,hh b _ G,by rw [WS,Y]; rfl⟩
    | iv b =>
     simp only [WG,Qe] at J ⊢;obtain ⟨O,k,G,Y⟩:=J;exact ⟨by rw [U b (by rw [G]; simp)]; exact O,ZM ρ k,hh b _ G,by rw [WS,Y]; rfl⟩
    | eptr cs =>
     simp only [WG,Qe] at J ⊢;obtain ⟨r,o,O,G⟩:=J;exact ⟨r,o,O,kc cs r o G⟩
    | agg cs =>
     simp only [WG,Qe] at J ⊢;obtain ⟨l,O,G⟩:=J;exact ⟨l,O,i2 cs (by simp at Z; omega) l G⟩
    | tup cs =>
     simp only [WG,Qe] at J ⊢;obtain ⟨l,O,G⟩:=J;exact ⟨l,O,i2 cs (by simp at Z; omega) l G⟩
    | fn f a b =>
     simp only [WG,Qe] at J ⊢;obtain ⟨l,m,O,G,Y⟩:=J;simp at Z;exact ⟨l,m,O,i2 a zo l G,i2 b zo m Y⟩
    | ifc t x =>
     simp only [WG,Qe] at J ⊢;obtain ⟨y,O,G⟩:=J;exact ⟨y,O,i1 x (by simp at Z; omega) y G⟩
   ·cases xs with
    | nil=>simpa [Vu,Qi] using J
    | cons x xs =>
     simp only [Vu,Qi] at J ⊢;simp at Z;obtain ⟨y,ys,O,G,Y⟩:=J;exact ⟨y,ys,O,i1 x zo y G,i2 xs zo ys Y⟩
 exact ⟨fun x v=>(key (SizeOf.sizeOf x)).1 x (Nat.le_refl _) v,fun xs l=>(key (SizeOf.sizeOf xs)).2 xs (Nat.le_refl _) l⟩
theorem bC (G:∀ c,hc c ≠ none→φ (ρ c)=φc c) (O:∀ r o,M r o→Mc r o) (J:∀ c k,hc c=some k→h (ρ c)=some (ZM ρ k)) :
  (∀ (x:AV) (v:Value),Qe φc hc w Mc x v→Qe φ h w M (WG ρ x) v)∧(∀ (xs:List AV) (l:List Value),Qi φc hc w Mc xs l→Qi φ h w M (Vu ρ xs) l) :=
 xL G (fun r o _ _=>O r o) J
end
def Z6 (ρ:Nat→Nat) (hc':List (Nat × Blk)) (H:List (Nat × Blk)):List (Nat × Blk):=hc'.map (fun p=>(ρ p.1,ZM ρ p.2))++H
def Fy (ρ:Nat→Nat) (hc hc' H:List (Nat × Blk)):Prop :=
 (∀ c ∈ hc.map (·.1),c ∈ hc'.map (·.1))∧(∀ c ∈ hc'.map (·.1),c ∈ hc.map (·.1)∨look H (ρ c)=none)∧(∀ c ∈ hc'.map (·.1),∀ d ∈ hc'.map (·.1),ρ c=ρ d→c=d)
theorem Sz {φ φ':Nat→Nat} {h h':QG} {w:World} {M M':Zn} (Z:∀ r o v,w.cell? ⟨r,o,none⟩=some v→M' r o→M r o):∀ (l:List PV) (G:List Value),Qi φ h w M (l.map .p) G→Qi φ' h' w M' (l.map .p) G
 | [],G,J=>by simpa [Qi] using J
 | x :: l,G,J=>by
  simp only [List.map_cons,Qi,Qe] at J ⊢;obtain ⟨y,ys,O,Y,U⟩:=J;exact ⟨y,ys,O,(ZP (w:=w) (w':=w) (M:=M) (M':=M') (fun r o v O Y=>⟨O,fun U=>Y (Z r o v O U)⟩)).1 x y Y,Sz Z l ys U⟩
theorem qi (J:∀ r o,M' r o→M r o) (l:List PV) (G:List Value):Qi φ h w M (l.map .p) G→Qi φ' h' w M' (l.map .p) G :=
 Sz (fun r o _ _=>J r o) l G
theorem CL {α:Type}:∀ (a b:List (Nat × α)) (t:Nat),look (a++b) t=match look a t with | some v=>some v | none=>look b t
 | [],b,t=>rfl
 | (k,v) :: a,b,t=>by
  simp only [List.cons_append,look];by_cases e:k=t
  ·simp [e]
  ·simp only [e,if_false]; exact CL a b t
theorem Z8 {α:Type}:∀ {a:List (Nat × α)} {t:Nat},look a t ≠ none↔t ∈ a.map (·.1)
 | [],t=>by simp [look]
 | (k,v) :: a,t=>by
  simp only [look,List.map_cons,List.mem_cons];by_cases e:k=t
  ·simp [e]
  ·simp only [e,if_false,Z8];constructor
   ·exact .inr
   ·rintro (h | h)
    ·exact absurd h.symm e
    ·exact h
theorem PY {ρ:Nat→Nat}:∀ {hc:List (Nat × Blk)} {t:Nat},(∀ c d,c ∈ hc.map (·.1)→d ∈ t :: hc.map (·.1)→ρ c=ρ d→c=d)→look (hc.map (fun p=>(ρ p.1,ZM ρ p.2))) (ρ t)=(look hc t).map (ZM ρ)
 | [],t,_=>rfl
 | (k,v) :: hc,t,hi=>by
  simp only [List.map_cons,look];by_cases e:k=t
  ·simp [e]
  ·have:¬ ρ k=ρ t:=fun h=>e (hi k t zq zq h)
   simp only [e,this,if_false];refine PY (fun c d hc G h=>hi c d (by simp at hc ⊢; exact .inr hc) ?_ h);simp at G ⊢;rcases G with G | G
   ·exact .inl G
   ·exact .inr (.inr G)
theorem MW {ρ:Nat→Nat}:∀ {hc:List (Nat × Blk)} {b:Nat},(∀ c,c ∈ hc.map (·.1)→ρ c ≠ b)→look (hc.map (fun p=>(ρ p.1,ZM ρ p.2))) b=none
 | [],b,_=>rfl
 | (k,v) :: hc,b,hi=>by
  simp only [List.map_cons,look];have:¬ ρ k=b:=hi k zq;simp only [this,if_false];exact MW (fun c hc=>hi c (by simp at hc ⊢; exact .inr hc))
theorem Gx:∀ (l:List Nat) (x:Nat),x ∈ l→x≤l.foldr max 0
 | a :: l,x,h=>by
  simp only [List.foldr_cons];rcases List.mem_cons.1 h with e | e
  ·subst e; exact Nat.le_max_left _ _
  ·exact Nat.le_trans (Gx l x e) (Nat.le_max_right _ _)
theorem Ny {C:(Nat→Nat)→Array Value→World→(Ending→World→Prop)→Prop} (be:∀ φ vs w R R',C φ vs w R→(∀ e w',R e w'→R' e w')→C φ vs w R')
  (ρ:Nat→Nat)
  (bg:∀ φ M0 w vs,Zw φ (look hc) w M0→Qi φ (look hc) w (MM φ (look hc) M0) args' vs→C φ vs.toArray w fun e w'=>∃ φ' r h',R r h'∧Zw φ' h' w' M0∧QT φ (look hc) w φ' h' w'∧iW φ' h' w' (MM φ' h' M0) r e)
  (bf:PR args (Vu ρ args')) (hok:Z0 (look hc) args'=true)
  (aw:∀ c ∈ hc.map (·.1),1000≤c) (ao:∀ c k,look hc c=some k→okRefB (look hc) k=true)
  (O:∀ c k,look hc c=some k→∃ k0,look s.H (ρ c)=some k0∧leB k0 (ZM ρ k))
  (bu:∀ c ∈ hc.map (·.1),∀ d ∈ hc.map (·.1),ρ c=ρ d→c=d) (hd:∀ t,dst=some t→t < N)
  (bv:∀ r h',R r h'→∃ hc' H2,h'=look hc'∧Fy ρ hc hc' s.H∧(∀ b,look H2 b=look (Z6 ρ hc' s.H) b) ∧
   (match r with | .ret x=>K (St.put ⟨s.T,H2⟩ dst (WG ρ x)) | .panic x=>Q (.panic (WG ρ x)) ⟨s.T,H2⟩)) :
  ∀ φ M0 D a w vs,Q6 φ M0 N D (look s.T) (look s.H) a w→Qi φ (look s.H) w (MM φ (look s.H) M0) args vs→C (fun c=>φ (ρ c)) vs.toArray w fun e w' =>
   match e with
   | .returned v=>∃ φ' s',K s'∧Q6 φ' M0 N D (look s'.T) (look s'.H) (a.put dst v) w'∧QT φ (look s.H) w φ' (look s'.H) w'
   | .panicked chain=>Post N D Q φ M0 (look s.H) w (.panic chain) a w'
   | .outgrown=>False:=by
 intro φ M0 D a w vs r ha
 let hr:QG:=fun b=>if b ∈ (hc.map (·.1)).map ρ then none else look s.H b
 let φc:Nat→Nat:=fun c=>φ (ρ c)
 have bn:∀ b k,hr b=some k→look s.H b=some k∧b ∉ (hc.map (·.1)).map ρ:=by
  intro b k hb;simp only [hr] at hb;split at hb
  ·cases hb
  ·rename_i hn; exact ⟨hb,hn⟩
 have ay:∀ x o,DJ φ hr x o→DJ φ (look s.H) x o:=by
  rintro x o ⟨b,k,h1,J,h3⟩;exact ⟨b,k,(bn b k h1).1,J,h3⟩
 have ai:∀ c,look hc c ≠ none→c ∈ hc.map (·.1):=fun c h=>Z8.1 h
 have ar:∀ x o,DJ φc (look hc) x o→DJ φ (look s.H) x o:=by
  rintro x o ⟨c,k,h1,J,h3⟩;obtain ⟨k0,h4,h5⟩:=O c k h1;refine ⟨ρ c,k0,h4,J,?_⟩;cases k0 with
  | arr ty S n =>
   cases k with
   | arr cj S' n'=>simp only [leB,ZM,Blk.arr.injEq] at h5; obtain ⟨rfl,rfl,rfl⟩:=h5; exact h3
   | _=>simp [leB,ZM] at h5
  | _=>trivial
 have bh:∀ x o,MM φc (look hc) (MB φ hr w M0) x o→MM φ (look s.H) M0 x o:=by
  rintro x o (h1 | ⟨h1 | h1,_⟩)
  ·exact .inl (ar x o h1)
  ·exact .inl (ay x o h1)
  ·exact .inr h1
 obtain ⟨b8,a7⟩:=QfH (w:=w) (ρ:=ρ) (φ:=φ) (φc:=φc) (h:=look s.H) (hc:=look hc) (fun _ _=>rfl) bh O
 have b1:Zw φc (look hc) w (MB φ hr w M0):=by
  refine ⟨fun c d ad ak he=>?_,fun c k hk=>?_,fun c ad o Z=>?_,fun x o Z=>?_,r.hp.gm.sub bh⟩
  ·obtain ⟨kc,az⟩:=Ah.1 ad;obtain ⟨kd,an⟩:=Ah.1 ak;obtain ⟨k0,e0,_⟩:=O c kc az;obtain ⟨k1,e1,_⟩:=O d kd an;exact bu c (ai c ad) d (ai d ak) (r.hp.inj (ρ c) (ρ d) (by rw [e0]; simp) (by rw [e1]; simp) he)
  ·obtain ⟨k0,h1,J⟩:=O c k hk;have h3:=r.hp.blk (ρ c) k0 h1;cases k with
   | box ty cs =>
    cases k0 with
    | box AP cc =>
     simp only [leB,ZM,Blk.box.injEq] at J;obtain ⟨cs',⟨e1,e2⟩,h5⟩:=J;obtain ⟨c0,h6,h7⟩:=h3;refine ⟨c0,by rw [e1]; exact h6,a7 _ _ (ao c _ hk) ?_⟩;rw [e2];exact JJ.2 _ _ _ h5 h7
    | _=>simp [leB,ZM] at J
   | arr ty S n =>
    cases k0 with
    | arr AP S0 n0=>simp only [leB,ZM,Blk.arr.injEq] at J; obtain ⟨rfl,rfl,rfl⟩:=J; exact h3
    | _=>simp [leB,ZM] at J
   | vec ty S es =>
    cases k0 with
    | vec AP S0 n0 =>
     simp only [leB,ZM,Blk.vec.injEq] at J;obtain ⟨rfl,rfl,rfl⟩:=J;obtain ⟨c0,cap,g1,g2,g3,g4,g5,g6,g7⟩:=h3;exact ⟨c0,cap,g1,g2,g3,g4,g5,g6,qi bh _ _ g7⟩
    | _=>simp [leB,ZM] at J
   | lp T nf st pd =>
    cases k0 with
    | lp T0 cg ck ce =>
     simp only [leB,ZM,Blk.lp.injEq] at J;obtain ⟨rfl,rfl,rfl,rfl⟩:=J;obtain ⟨tmps,d,g1,g2,g3⟩:=h3;refine ⟨tmps,d,g1,g2,fun t x ht=>?_⟩;have g4:=g3 t (WG ρ x) (by rw [Rt,ht]; rfl);exact ⟨g4.1,b8 _ _ (Hg (ao c _ hk) ht) g4.2⟩
    | _=>simp [leB,ZM] at J
   | mp es =>
    cases k0 with
    | mp bq =>
     simp only [leB,ZM,Blk.mp.injEq] at J;subst J;obtain ⟨en,cl,g1,g2,g3⟩:=h3;refine ⟨en,cl,g1,g2,a7 _ _ (Rq _ _) ?_⟩;rw [qg]; exact g3
    | _=>simp [leB,ZM] at J
   | mf es =>
    cases k0 with
    | mf bq =>
     simp only [leB,ZM,Blk.mf.injEq] at J;subst J;obtain ⟨en,cl,g1,g2,g3,g4⟩:=h3;rw [UR] at g2;rw [UQ] at g3;exact ⟨en,cl,g1,g2,a7 _ _ (WF (ao c _ hk)) g3,g4⟩
    | _=>simp [leB,ZM] at J
   | mg en cl es =>
    cases k0 with
    | mg ca b4 bq =>
     simp only [leB,ZM,Blk.mg.injEq] at J;obtain ⟨rfl,rfl,rfl⟩:=J;obtain ⟨g1,g2,g3,g4⟩:=h3;rw [UR] at g2;rw [UQ] at g3;exact ⟨g1,g2,a7 _ _ (WF (ao c _ hk)) g3,g4⟩
    | _=>simp [leB,ZM] at J
   | it m cl sn =>
    cases k0 with
    | it m0 b4 cd =>
     simp only [leB,ZM,Blk.it.injEq] at J;obtain ⟨e1,rfl,rfl⟩:=J;obtain ⟨g1,k1,g2,g3⟩:=h3;obtain ⟨km,bl⟩:=Td.1 (ao c _ hk);obtain ⟨k2,g4,g5⟩:=O m km bl;rw [← e1] at g1 g2;rw [g2] at g4;cases g4;exact ⟨g1,km,bl,QfG (XT g5 g3)⟩
    | _=>simp [leB,ZM] at J
  ·obtain ⟨kc,az⟩:=Ah.1 ad;obtain ⟨k0,e0,_⟩:=O c kc az;rcases Z with ⟨⟨b,k,h1,J,_⟩ | Z,_⟩
   ·obtain ⟨h4,h5⟩:=bn b k h1;have:=r.hp.inj b (ρ c) (by rw [h4]; simp) (by rw [e0]; simp) J;exact h5 (by rw [this]; exact List.mem_map_of_mem (ai c ad))
   ·exact r.hp.fr (ρ c) (by rw [e0]; simp) o Z
  ·exact Z.2
 refine be _ _ _ _ _ (bg φc (MB φ hr w M0) w vs b1 (a7 _ _ hok (JJ.2 _ _ _ bf ha))) ?_;rintro e w' ⟨ae,bp,h',hR,au,E,hE⟩;obtain ⟨hc',H2,rfl,⟨hd1,hd2,br⟩,bz,bc⟩:=bv bp h' hR;have bd:look H2=look (Z6 ρ hc' s.H):=funext bz
 have ba:∀ b k,look s.H b=some k→b ∉ (hc.map (·.1)).map ρ→b ∉ (hc'.map (·.1)).map ρ:=by
  intro b k hb hn Z;obtain ⟨c,G,rfl⟩:=List.mem_map.1 Z;rcases hd2 c G with h1 | h1
  ·exact hn (List.mem_map_of_mem h1)
  ·rw [h1] at hb; cases hb
 have aq:∀ b,b ∉ (hc'.map (·.1)).map ρ→b ∉ (hc.map (·.1)).map ρ:=by
  intro b hn Z;obtain ⟨c,G,rfl⟩:=List.mem_map.1 Z;exact hn (List.mem_map_of_mem (hd1 c G))
 obtain ⟨KK,ch⟩:∃ KK,KK=w'.heap.size+((hc'.map (·.1)).map ae).foldr max 0+1:=⟨_,rfl⟩;have Y:∀ b,φ b < w.heap.size→Kv φ w.heap.size KK b=φ b:=fun b hb=>by simp [Kv,hb]
 have ab:∀ b,¬ φ b < w.heap.size→Kv φ w.heap.size KK b=φ b+KK:=fun b hb=>by simp [Kv,hb]
 have bk:∀ b c,c ∈ hc'.map (·.1)→¬ φ b < w.heap.size→ae c < Kv φ w.heap.size KK b:=by
  intro b c G hb;have:=Gx ((hc'.map (·.1)).map ae) (ae c) (List.mem_map_of_mem G);rw [ab b hb]; omega
 have bb:∀ b d,Kv φ w.heap.size KK b=Kv φ w.heap.size KK d→φ b=φ d:=by
  intro b d e;by_cases e1:φ b < w.heap.size <;> by_cases e2:φ d < w.heap.size
  ·rw [Y b e1,Y d e2] at e; exact e
  ·rw [Y b e1,ab d e2] at e; omega
  ·rw [ab b e1,Y d e2] at e; omega
  ·rw [ab b e1,ab d e2] at e; omega
 have hex:∃ φ':Nat→Nat,(∀ c,c ∈ hc'.map (·.1)→φ' (ρ c)=ae c)∧(∀ b,b ∉ (hc'.map (·.1)).map ρ→φ' b=Kv φ w.heap.size KK b):=by
  refine ⟨fun b=>match (hc'.map (·.1)).find? (fun c=>ρ c == b) with | some c=>ae c | none=>Kv φ w.heap.size KK b,fun c ad=>?_,fun b hb=>?_⟩
  ·cases hf:(hc'.map (·.1)).find? (fun d=>ρ d == ρ c) with
   | none =>
    have:=List.find?_eq_none.1 hf c ad;simp at this
   | some d =>
    have h1:=List.find?_some hf;have J:=List.mem_of_find?_eq_some hf;simp only [beq_iff_eq] at h1;simp only [hf];rw [br d J c ad h1]
  ·cases hf:(hc'.map (·.1)).find? (fun d=>ρ d == b) with
   | none=>simp only [hf]
   | some d =>
    have h1:=List.find?_some hf;have J:=List.mem_of_find?_eq_some hf;simp only [beq_iff_eq] at h1;exact absurd (by rw [← h1]; exact List.mem_map_of_mem J) hb
 obtain ⟨φ',U,ac⟩:=hex;have am:∀ c k,look hc' c=some k→c ∈ hc'.map (·.1):=fun c k hk=>Z8.1 (by rw [hk]; simp)
 have aa:∀ c k,look hc' c=some k→look (Z6 ρ hc' s.H) (ρ c)=some (ZM ρ k):=by
  intro c k hk;unfold Z6;rw [CL,PY (fun x y hx hy b9=>br x hx y (by rcases List.mem_cons.1 hy with rfl | hy; exact am _ _ hk; exact hy) b9),hk];rfl
 have ah:∀ b,b ∉ (hc'.map (·.1)).map ρ→look (Z6 ρ hc' s.H) b=look s.H b:=by
  intro b hb;unfold Z6;rw [CL,MW (fun c ad e=>hb (by rw [← e]; exact List.mem_map_of_mem ad))]
 have al:∀ b k,look (Z6 ρ hc' s.H) b=some k→(∃ c k',look hc' c=some k'∧ρ c=b∧k=ZM ρ k')∨(b ∉ (hc'.map (·.1)).map ρ∧look s.H b=some k):=by
  intro b k hb;by_cases Z:b ∈ (hc'.map (·.1)).map ρ
  ·obtain ⟨c,G,rfl⟩:=List.mem_map.1 Z;obtain ⟨k',bo⟩:=Ah.1 (Z8.2 G);rw [aa c k' bo] at hb;exact .inl ⟨c,k',bo,rfl,(Option.some.inj hb).symm⟩
  ·exact .inr ⟨Z,by rw [← ah b Z]; exact hb⟩
 have a6:∀ x o,DJ φ' (look (Z6 ρ hc' s.H)) x o→DJ ae (look hc') x o∨(DJ φ hr x o∧x < w.heap.size)∨w'.heap.size≤x:=by
  rintro x o ⟨b,k,h1,J,h3⟩;rcases al b k h1 with ⟨c,k',g1,rfl,rfl⟩ | ⟨g1,g2⟩
  ·left;refine ⟨c,k',g1,?_,?_⟩
   ·rw [← U c (am _ _ g1)]; exact J
   ·cases k' <;> exact h3
  ·right;rw [ac b g1] at J;by_cases hlt:φ b < w.heap.size
   ·rw [Y b hlt] at J;exact .inl ⟨⟨b,k,by simp only [hr]; rw [if_neg (aq b g1)]; exact g2,J,h3⟩,by omega⟩
   ·rw [ab b hlt] at J;exact .inr zo
 have bm:∀ x o v,w'.cell? ⟨x,o,none⟩=some v→MM φ' (look (Z6 ρ hc' s.H)) M0 x o→MM ae (look hc') (MB φ hr w M0) x o:=by
  rintro x o v bj (h1 | h1)
  ·rcases a6 x o h1 with J | J | J
   ·exact .inl J
   ·exact .inr ⟨.inl J.1,J.2⟩
   ·have:=BC bj; omega
  ·exact .inr ⟨.inr h1,r.hp.lt x o h1⟩
 obtain ⟨ax,av⟩:=xL (w:=w') (ρ:=ρ) (φ:=φ') (φc:=ae) (h:=look (Z6 ρ hc' s.H)) (hc:=look hc') (fun c ad=>U c (Z8.1 ad)) bm aa
 have bw:QT φ (look s.H) w φ' (look (Z6 ρ hc' s.H)) w'∧VL φ (look s.H) w φ' (look (Z6 ρ hc' s.H)) w':=by
  have hb:∀ b ty cs,look s.H b=some (.box ty cs)→(∃ cs',look (Z6 ρ hc' s.H) b=some (.box ty cs'))∧φ' b=φ b:=by
   intro b ty cs hb;by_cases Z:b ∈ (hc.map (·.1)).map ρ
   ·obtain ⟨c,G,rfl⟩:=List.mem_map.1 Z;obtain ⟨k,hk⟩:=Ah.1 (Z8.2 G);obtain ⟨k0,e0,e1⟩:=O c k hk;rw [hb] at e0;cases e0;cases k with
    | box SL b2 =>
     simp only [leB,ZM,Blk.box.injEq] at e1;obtain ⟨cm,⟨e2,_⟩,_⟩:=e1;obtain ⟨⟨bx,e3⟩,e4⟩:=E.kb c SL b2 (aw c G) hk;refine ⟨⟨Vu ρ bx,by rw [aa c _ e3,e2]; rfl⟩,by rw [U c (hd1 c G),e4]⟩
    | _=>simp [leB,ZM] at e1
   ·have aj:=ba b _ hb Z;exact ⟨⟨cs,by rw [ah b aj]; exact hb⟩,(ac b aj).trans (Ff r.hp KK hb (fun _ _ e=>by cases e))⟩
  have ht:∀ t ty S n,look s.H t=some (.arr ty S n)→∃ n',look (Z6 ρ hc' s.H) t=some (.arr ty S n')∧n≤n' ∧
    (n'=n→AKept w w' (φ t) (φ' t) ty):=by
   intro t ty S n af;by_cases Z:t ∈ (hc.map (·.1)).map ρ
   ·obtain ⟨c,G,rfl⟩:=List.mem_map.1 Z;obtain ⟨k,hk⟩:=Ah.1 (Z8.2 G);obtain ⟨k0,e0,e1⟩:=O c k hk;rw [af] at e0;cases e0;cases k with
    | arr SL S1 n1 =>
     simp only [leB,ZM,Blk.arr.injEq] at e1;obtain ⟨rfl,rfl,rfl⟩:=e1;obtain ⟨n',e3,e4,e5⟩:=E.kt c SL S1 n1 (aw c G) hk;refine ⟨n',by rw [aa c _ e3]; rfl,e4,fun e6=>?_⟩;obtain ⟨e9,b5⟩:=e5 e6;refine ⟨fun h0=>by rw [U c (hd1 c G)]; exact e9 h0,?_⟩;rcases b5 with e7 | ⟨e7,e8⟩
     ·exact .inl e7
     exact .inr ⟨by rw [U c (hd1 c G),e7],e8⟩
    | _=>simp [leB,ZM] at e1
   ·have aj:=ba t _ af Z;refine ⟨n,by rw [ah t aj]; exact af,Nat.le_refl _,fun _=>?_⟩;by_cases hlt:φ t < w.heap.size;rotate_left
    ·exact Nl (ZE zo) (by rw [ac t aj,ab t hlt]; exact ZE zo)
    refine Yi ((ac t aj).trans (Y t hlt)) (E.same (φ t) hlt (fun d ak he=>?_))
    ·obtain ⟨kd,an⟩:=Ah.1 ak;obtain ⟨k0,e0,_⟩:=O d kd an;have:=r.hp.inj (ρ d) t (by rw [e0]; simp) (by rw [af]; simp) he;exact Z (by rw [← this]; exact List.mem_map_of_mem (ai d ak))
  have hv:∀ t ty S n,look s.H t=some (.vec ty S n)→∃ n',look (Z6 ρ hc' s.H) t=some (.vec ty S n')∧n.length≤n'.length ∧
    (n'.length=n.length→φ' t=φ t∧∀ c,w.heap[φ t]?=some (.cells c ty (0,0))→∃ c',w'.heap[φ t]?=some (.cells c' ty (0,0))∧c'.size=c.size):=by
   intro t ty S n af;by_cases Z:t ∈ (hc.map (·.1)).map ρ
   ·obtain ⟨c,G,rfl⟩:=List.mem_map.1 Z;obtain ⟨k,hk⟩:=Ah.1 (Z8.2 G);obtain ⟨k0,e0,e1⟩:=O c k hk;rw [af] at e0;cases e0;cases k with
    | vec SL S1 n1 =>
     simp only [leB,ZM,Blk.vec.injEq] at e1;obtain ⟨rfl,rfl,rfl⟩:=e1;obtain ⟨n',e3,e4,e5⟩:=E.kv c SL S1 n1 (aw c G) hk;refine ⟨n',by rw [aa c _ e3]; rfl,e4,fun e6=>?_⟩;obtain ⟨e7,e8⟩:=e5 e6;exact ⟨by rw [U c (hd1 c G),e7],e8⟩
    | _=>simp [leB,ZM] at e1
   ·have aj:=ba t _ af Z;refine ⟨n,by rw [ah t aj]; exact af,Nat.le_refl _,fun _=>⟨(ac t aj).trans (Y t (jM r.hp af)),fun c ad=>⟨c,?_,rfl⟩⟩⟩;rw [E.same (φ t) (jM r.hp af) (fun d ak he=>?_)]
    ·exact ad
    ·obtain ⟨kd,an⟩:=Ah.1 ak;obtain ⟨k0,e0,_⟩:=O d kd an;have:=r.hp.inj (ρ d) t (by rw [e0]; simp) (by rw [af]; simp) he;exact Z (by rw [← this]; exact List.mem_map_of_mem (ai d ak))
  have bt:∀ b k x,look s.H b=some k→k.ob=some x→(∃ k',look (Z6 ρ hc' s.H) b=some k'∧k'.ob=some x)∧φ' b=φ b:=by
   intro b k x hb ho;by_cases Z:b ∈ (hc.map (·.1)).map ρ
   ·obtain ⟨c,G,rfl⟩:=List.mem_map.1 Z;obtain ⟨k2,hk⟩:=Ah.1 (Z8.2 G);obtain ⟨k0,e0,e1⟩:=O c k2 hk;rw [hb] at e0;cases e0;have e2:=XT e1 ho;rw [WS] at e2;cases ho2:k2.ob with
    | none=>rw [ho2] at e2; cases e2
    | some x2 =>
     rw [ho2] at e2;obtain ⟨⟨k',e3,e4⟩,e5⟩:=E.ko c k2 x2 (aw c G) hk ho2;exact ⟨⟨ZM ρ k',aa c _ e3,by rw [WS,e4]; exact e2⟩,by rw [U c (hd1 c G),e5]⟩
   ·have aj:=ba b _ hb Z;exact ⟨⟨k,by rw [ah b aj]; exact hb,ho⟩,(ac b aj).trans (Ff r.hp KK hb (fun ty S e=>by rw [e] at ho; cases ho))⟩
  refine ⟨⟨E.os,E.tape,E.output,E.size,fun x hx b3=>E.same x hx (fun c ad he=>?_),fun x o hx Z=>E.cell x o hx (fun h1=>Z (ar x o h1)),fun x o hx Z=>?_,fun b ty cs _ a8=>hb b ty cs a8,fun t ty S n _ af=>ht t ty S n af,fun t ty S n _ af=>hv t ty S n af,fun b k x _=>bt b k x⟩,
   fun b ty cs a8=>⟨(hb b ty cs a8).1.elim fun cs' h=>⟨ty,cs',h⟩,(hb b ty cs a8).2⟩,ht,hv,bt⟩
  ·obtain ⟨kc,az⟩:=Ah.1 ad;obtain ⟨k0,e0,_⟩:=O c kc az;exact b3 (ρ c) (by rw [e0]; simp) he
  ·rcases a6 x o Z with h1 | h1 | h1
   ·exact ar x o (E.mu x o hx h1)
   ·exact ay x o h1.1
   ·have:=E.size; omega
 obtain ⟨E1,X1⟩:=bw
 have b0:Zw φ' (look (Z6 ρ hc' s.H)) w' M0:=by
  refine ⟨fun b d hb b6 he=>?_,fun b k hb=>?_,fun b hb o Z=>?_,fun x o Z=>Nat.lt_of_lt_of_le (r.hp.lt x o Z) E.size,r.hp.gm.evol E1⟩
  ·obtain ⟨kb,bi⟩:=Ah.1 hb;obtain ⟨kd,an⟩:=Ah.1 b6
   have mixed:∀ c k' b k,look hc' c=some k'→b ∉ (hc'.map (·.1)).map ρ→look s.H b=some k→ae c ≠ Kv φ w.heap.size KK b:=by
    intro c k' b k g1 g2 g3 g4;by_cases hlt:φ b < w.heap.size;rotate_left
    ·have:=bk b c (am _ _ g1) hlt; omega
    rw [Y b hlt] at g4;have b7:hr b=some k:=by simp only [hr]; rw [if_neg (aq b g2)]; exact g3
    obtain ⟨o,ho⟩:=BB (φ:=φ) b7;exact au.fr c (by rw [g1]; simp) o (by rw [g4]; exact ⟨.inl ho,hlt⟩)
   rcases al b kb bi with ⟨c,k',g1,rfl,_⟩ | ⟨g1,g2⟩ <;> rcases al d kd an with ⟨c2,k2,g3,rfl,_⟩ | ⟨g3,g4⟩
   ·rw [U c (am _ _ g1),U c2 (am _ _ g3)] at he;rw [au.inj c c2 (by rw [g1]; simp) (by rw [g3]; simp) he]
   ·rw [U c (am _ _ g1),ac d g3] at he;exact absurd he (mixed c k' d kd g1 g3 g4)
   ·rw [U c2 (am _ _ g3),ac b g1] at he;exact absurd he.symm (mixed c2 k2 b kb g3 g1 g2)
   ·rw [ac b g1,ac d g3] at he;exact r.hp.inj b d (by rw [g2]; simp) (by rw [g4]; simp) (bb b d he)
  ·rcases al b k hb with ⟨c,k',g1,rfl,rfl⟩ | ⟨g1,g2⟩
   ·rw [U c (am _ _ g1)];have:=au.blk c k' g1;cases k' with
    | box ty cs=>obtain ⟨c0,h1,J⟩:=this; exact ⟨c0,h1,av _ _ J⟩
    | arr ty S n=>exact this
    | vec ty S es=>obtain ⟨c0,cap,q1,q2,q3,q4,q5,q6,q7⟩:=this; exact ⟨c0,cap,q1,q2,q3,q4,q5,q6,Sz bm _ _ q7⟩
    | lp T nf st pd =>
     obtain ⟨tmps,d,q1,q2,q3⟩:=this;refine ⟨tmps,d,q1,q2,fun t x ht=>?_⟩;rw [Rt] at ht;cases hl:look T t with
     | none=>rw [hl] at ht; cases ht
     | some y =>
      rw [hl] at ht;cases ht;exact ⟨(q3 t y hl).1,ax _ _ (q3 t y hl).2⟩
    | mp es =>
     obtain ⟨en,cl,q1,q2,q3⟩:=this;refine ⟨en,cl,q1,q2,?_⟩;have:=av _ _ q3;rw [qg] at this; exact this
    | mf es =>
     obtain ⟨en,cl,q1,q2,q3,q4⟩:=this;exact ⟨en,cl,q1,by rw [UR]; exact q2,by rw [UQ]; exact av _ _ q3,q4⟩
    | mg en cl es =>
     obtain ⟨q1,q2,q3,q4⟩:=this;exact ⟨q1,by rw [UR]; exact q2,by rw [UQ]; exact av _ _ q3,q4⟩
    | it m cl sn =>
     obtain ⟨q1,k2,q2,q3⟩:=this;exact ⟨by rw [U m (am _ _ q2)]; exact q1,ZM ρ k2,aa m _ q2,by rw [WS,q3]; rfl⟩
   ·rw [ac b g1];by_cases hlt:φ b < w.heap.size;rotate_left
    ·refine ZI (E1.keeps M0) X1 ?_ (r.hp.blk b k g2);rw [ZE (by omega:w.heap.size≤φ b),ZE (by rw [ab b hlt]; omega)]
    rw [Y b hlt];refine ZI (E1.keeps M0) X1 (E.same (φ b) hlt (fun d ak he=>?_)) (r.hp.blk b k g2);obtain ⟨kd,an⟩:=Ah.1 ak;obtain ⟨k0,e0,_⟩:=O d kd an;have:=r.hp.inj (ρ d) b (by rw [e0]; simp) (by rw [g2]; simp) he;exact aq b g1 (by rw [← this]; exact List.mem_map_of_mem (ai d ak))
  ·obtain ⟨kb,bi⟩:=Ah.1 hb;rcases al b kb bi with ⟨c,k',g1,rfl,_⟩ | ⟨g1,g2⟩
   ·rw [U c (am _ _ g1)] at Z;exact au.fr c (by rw [g1]; simp) o ⟨.inr Z,r.hp.lt _ _ Z⟩
   ·rw [ac b g1] at Z;by_cases hlt:φ b < w.heap.size
    ·rw [Y b hlt] at Z;exact r.hp.fr b (by rw [g2]; simp) o Z
    ·have:=r.hp.lt _ _ Z;rw [ab b hlt] at this;omega
 have r1:Q6 φ' M0 N D (look s.T) (look H2) a w':=by rw [bd]; exact r.keep E1 X1 b0
 rw [← bd] at E1 ax;cases bp with
 | ret x =>
  obtain ⟨v,rfl,hv⟩:=hE;refine ⟨φ',_,bc,Q6.put (s:=⟨s.T,H2⟩) r1 hd (ax _ _ hv),?_⟩;cases dst <;> exact E1
 | panic x =>
  obtain ⟨v,rfl,hv⟩:=hE;exact ⟨φ', .panic (WG ρ x),_,bc,r1,E1,v,rfl,ax _ _ hv⟩
theorem Nz (ρ:Nat→Nat)
  (G:Kw P f args' (look hc) R) (J:PR args (Vu ρ args')) (hok:Z0 (look hc) args'=true)
  (O:∀ c ∈ hc.map (·.1),1000≤c) (U:∀ c k,look hc c=some k→okRefB (look hc) k=true)
  (Z:∀ c k,look hc c=some k→∃ k0,look s.H (ρ c)=some k0∧leB k0 (ZM ρ k))
  (Y:∀ c ∈ hc.map (·.1),∀ d ∈ hc.map (·.1),ρ c=ρ d→c=d) (hd:∀ t,dst=some t→t < N)
  (aa:∀ r h',R r h'→∃ hc' H2,h'=look hc'∧Fy ρ hc hc' s.H∧(∀ b,look H2 b=look (Z6 ρ hc' s.H) b) ∧
   (match r with | .ret x=>K (St.put ⟨s.T,H2⟩ dst (WG ρ x)) | .panic x=>Q (.panic (WG ρ x)) ⟨s.T,H2⟩)):Xl P N f args dst s K Q :=
 fun φ M0 D a w vs r ha=>Ny (C:=fun _ vs w R=>Calls P f vs w R) (fun _ _ _ _ _ h hq=>h.mono hq) ρ G J hok O U Z Y hd aa φ M0 D a w vs r ha
theorem YAt.mono {l:Nat} {args:Array Value} {R G:Ending→World→Prop} (h:YAt P l args w R) (J:∀ e w',R e w'→G e w'):YAt P l args w G:=by
 obtain ⟨fn,tmps,assign,body,U,O⟩:=h;exact ⟨fn,tmps,assign,body,U,O.mono J⟩
theorem xM (ρ:Nat→Nat)
  (G:iX P b args' (look hc) R) (J:PR args (Vu ρ args')) (hok:Z0 (look hc) args'=true)
  (O:∀ c ∈ hc.map (·.1),1000≤c) (U:∀ c k,look hc c=some k→okRefB (look hc) k=true)
  (Z:∀ c k,look hc c=some k→∃ k0,look s.H (ρ c)=some k0∧leB k0 (ZM ρ k))
  (Y:∀ c ∈ hc.map (·.1),∀ d ∈ hc.map (·.1),ρ c=ρ d→c=d) (hd:∀ t,dst=some t→t < N)
  (aa:∀ r h',R r h'→∃ hc' H2,h'=look hc'∧Fy ρ hc hc' s.H∧(∀ b,look H2 b=look (Z6 ρ hc' s.H) b) ∧
   (match r with | .ret x=>K (St.put ⟨s.T,H2⟩ dst (WG ρ x)) | .panic x=>Q (.panic (WG ρ x)) ⟨s.T,H2⟩)):YEx P N (ρ b) args dst s K Q :=
 fun φ M0 D a w vs r ha=>Ny (C:=fun φ vs w R=>YAt P (φ b) vs w R) (fun _ _ _ _ _ h hq=>h.mono hq) ρ G J hok O U Z Y hd aa φ M0 D a w vs r ha
def CO (P:Program) (fn:Func) (hc:List (Nat × Blk)) (R:Zz→QG→Prop) (s:St):Prop :=
 ∃ x y hc',TH P fn (look s.T) (look s.H)=some x∧le x y∧ZW (look hc') y=true∧MH (look s.H) (look hc') hc'∧KU (look hc') hc=true∧R (.ret y) (look hc')
def bD (P:Program) (fn:Func) (hc:List (Nat × Blk)) (R:Zz→QG→Prop):AX→St→Prop
 | .ret,s=>CO P fn hc R s
 | .normal,s=>CO P fn hc R s
 | .panic x,s=>∃ y hc',le x y∧ZW (look hc') y=true∧MH (look s.H) (look hc') hc'∧KU (look hc') hc=true∧R (.panic y) (look hc')
 | .exit _,_=>False
theorem PZ (r:Q6 φ M0 N D (look s.T) (look s.H) a w) (E:QT φ0 (look hc) w0 φ (look s.H) w)
  (h1:MH (look s.H) (look hc') hc') (h2:KU (look hc') hc=true) :
  Zw φ (look hc') w M0∧QT φ0 (look hc) w0 φ (look hc') w∧∀ x v,ZW (look hc') x=true→Qe φ (look s.H) w (MM φ (look s.H) M0) x v→Qe φ (look hc') w (MM φ (look hc') M0) x v:=by
 have hh:∀ b k',look hc' b=some k'→∃ k,look s.H b=some k∧leB k k':=fun b k' hb=>(Jr h1 b k' hb).1
 have aa:∀ r o,DJ φ (look hc') r o→DJ φ (look s.H) r o:=by
  rintro x o ⟨b,k',g1,g2,g3⟩;obtain ⟨k,g4,g5⟩:=hh b k' g1;refine ⟨b,k,g4,g2,?_⟩;cases k with
  | arr ty S n=>simp only [leB] at g5; subst g5; exact g3
  | _=>trivial
 have hM:∀ r o,MM φ (look hc') M0 r o→MM φ (look s.H) M0 r o:=fun x o hx=>hx.elim (fun h=>.inl (aa x o h)) .inr
 have J:∀ b,look hc' b ≠ none→look s.H b ≠ none:=fun b hb=>by
  cases hq:look hc' b with
  | none=>exact absurd hq hb
  | some k'=>obtain ⟨k,h1,_⟩:=hh b k' hq; rw [h1]; simp
 obtain ⟨c1,c2⟩:=PX (φ:=φ) (w:=w) hM hh;refine ⟨⟨fun b c hb hc=>r.hp.inj b c (J b hb) (J c hc),fun b k' hb=>?_,fun b hb=>r.hp.fr b (J b hb),r.hp.lt,r.hp.gm.sub hM⟩,?_,fun x v hx hv=>c1 x v hx hv⟩
 ·obtain ⟨⟨k,g1,g2⟩,g3⟩:=Jr h1 b k' hb;have g4:=r.hp.blk b k g1;cases k with
  | box ty cs =>
   simp only [leB] at g2;obtain ⟨cs',rfl,g5⟩:=g2;obtain ⟨c,g6,g7⟩:=g4;exact ⟨c,g6,c2 _ _ g3 (JJ.2 _ _ _ g5 g7)⟩
  | arr ty S n=>simp only [leB] at g2; subst g2; exact g4
  | vec ty S es=>simp only [leB] at g2; subst g2; obtain ⟨c,cap,U,Z,G,q4,q5,q6,q7⟩:=g4; exact ⟨c,cap,U,Z,G,q4,q5,q6,c2 _ _ (PW _ _) q7⟩
  | lp T nf st pd=>simp only [leB] at g2; subst g2; obtain ⟨tmps,d,U,Z,G⟩:=g4; exact ⟨tmps,d,U,Z,fun t x ht=>⟨(G t x ht).1,c1 _ _ (Hg g3 ht) (G t x ht).2⟩⟩
  | mp es=>simp only [leB] at g2; subst g2; obtain ⟨en,cl,U,Z,G⟩:=g4; exact ⟨en,cl,U,Z,c2 _ _ (Rq _ _) G⟩
  | mf es=>simp only [leB] at g2; subst g2; obtain ⟨en,cl,U,Z,G,q4⟩:=g4; exact ⟨en,cl,U,Z,c2 _ _ (WF g3) G,q4⟩
  | mg en cl es=>simp only [leB] at g2; subst g2; obtain ⟨U,Z,G,q4⟩:=g4; exact ⟨U,Z,c2 _ _ (WF g3) G,q4⟩
  | it m cl sn =>
   simp only [leB] at g2;subst g2;obtain ⟨U,k0,Z,G⟩:=g4;obtain ⟨km,ab⟩:=Td.1 g3;obtain ⟨k1,q5,q6⟩:=hh m km ab;rw [Z] at q5;cases q5;exact ⟨U,km,ab,XT q6 G⟩
 ·refine ⟨E.os,E.tape,E.output,E.size,E.same,E.cell,fun x o hx hm=>E.mu x o hx (aa x o hm),?_,?_,?_,?_⟩
  ·intro b ty cs hb Y;obtain ⟨⟨ac,g1⟩,g2⟩:=E.kb b ty cs hb Y;obtain ⟨k',g3⟩:=Kt h2 b _ hb Y;obtain ⟨k,g4,g5⟩:=hh b k' g3;rw [g1] at g4;cases g4;simp only [leB] at g5;obtain ⟨cs',g6,_⟩:=g5;exact ⟨⟨cs',by rw [g3,g6]⟩,g2⟩
  ·intro t ty S n ht O;obtain ⟨n',g1,g2,g3⟩:=E.kt t ty S n ht O;obtain ⟨k',g4⟩:=Kt h2 t _ ht O;obtain ⟨k,g5,g6⟩:=hh t k' g4;rw [g1] at g5;cases g5;simp only [leB] at g6;exact ⟨n',by rw [g4,g6],g2,g3⟩
  ·intro t ty S n ht O;obtain ⟨n',g1,g2,g3⟩:=E.kv t ty S n ht O;obtain ⟨k',g4⟩:=Kt h2 t _ ht O;obtain ⟨k,g5,g6⟩:=hh t k' g4;rw [g1] at g5;cases g5;simp only [leB] at g6;exact ⟨n',by rw [g4,g6],g2,g3⟩
  ·intro b k x hb Y ho;obtain ⟨⟨k1,g1,g2⟩,g3⟩:=E.ko b k x hb Y ho;obtain ⟨k',g4⟩:=Kt h2 b _ hb Y;obtain ⟨k2,g5,g6⟩:=hh b k' g4;rw [g1] at g5;cases g5;exact ⟨⟨k',g4,XT g6 g2⟩,g3⟩
theorem P5 (r:Q6 φ M0 N D (look s.T) (look s.H) a w)
  (E:QT φ0 (look hc) w0 φ (look s.H) w) (h:CO P fn hc R s):∃ v,(results fn a.tmps).run P w=.ok v w∧Out R φ0 (look hc) w0 M0 (.returned v) w:=by
 obtain ⟨x,y,hc',h1,O,Y,G,J,Z⟩:=h;obtain ⟨v,g1,g2⟩:=bB r h1;obtain ⟨k1,k2,U⟩:=PZ r E G J;exact ⟨v,g1,φ, .ret y,look hc',Z,k1,k2,v,rfl,U _ _ Y (JJ.1 _ _ _ O g2)⟩
theorem Aw (hf:P.funcs[f]?=some fn) (hb:fn.body=some c) (O:args.length≤fn.ntmps)
  (h:Ex P fn.ntmps none c ⟨YR 0 args,hc⟩ (bD P fn hc R)):Kw P f args (look hc) R:=by
 intro φ M0 w vs J Z;refine Av hf hb O J Z h ?_ ?_ ?_
 ·intro x s φ' a w' G hx r E;exact P5 r E (by rcases hx with rfl | rfl <;> exact G)
 ·intro x s φ' a w' v G r E U;obtain ⟨y,hc',g1,g2,g3,g4,g5⟩:=G;obtain ⟨k1,k2,Y⟩:=PZ r E g3 g4;exact ⟨φ', .panic y,look hc',g5,k1,k2,v,rfl,Y _ _ g2 (JJ.1 _ _ _ g1 U)⟩
 ·intro i s G;exact G
def SA:AV:=.p (.val .nilIface)
structure Lh (P:Program) (g cf:FuncId) where
 fn:Func
 id:Nat
 o1:Oper
 o2:Oper
 d1:Tmp
 ts:Array TypeId
 ts2:Array TypeId
 hf:P.funcs[g]?=some fn
 hb:fn.body=some (.region id #[o1,o2] false)
 hop1:o1.op=.call ⟨.builtin .recover,#[],ts⟩
 hop2:o2.op=.call ⟨.value (.func cf),#[.tmp d1, .tmp 0],ts2⟩
 hg1:o1.guard=none
 hg2:o2.guard=none
 hd1:o1.dst=some d1
 hne:d1 ≠ 0
 hlt:d1 < fn.ntmps
 hres:fn.results=#[]
 hok:K7 P cf=true
theorem Lh.calls (C:Lh P g cf) {rv:AV} {p:Value} {u u':FrameMode}
  (hc:Xl P N cf [rv, .ptr b 0] none s K (fun _ _=>False)) (r:Q6 φ M0 N D (look s.T) (look s.H) a w) (hp:Qe φ (look s.H) w (MM φ (look s.H) M0) (.ptr b 0) p)
  (hv:Qe φ (look s.H) w (MM φ (look s.H) M0) rv v)
  (hu:∀ (U:Frame) (cs:List Frame),U.mode=u→(recoverD (U :: cs)=some (v,{ U with mode:=u' } :: cs))∨(recoverD (U :: cs)=none∧v=.nilIface∧u'=u)) :
  CallsD P g #[p] u w fun e aa w'=>aa=u'∧∃ x,e=.returned x∧∃ φ' s',K s'∧Q6 φ' M0 N D (look s'.T) (look s'.H) a w'∧QT φ (look s.H) w φ' (look s'.H) w':=by
 refine callsD_of_wpS C.hf C.hb fun U cs hm=>?_
 refine wpS_region ?_;have ah:0 < C.fn.ntmps:=Nat.lt_of_le_of_lt (Nat.zero_le _) C.hlt;have O:List.range (#[C.o1,C.o2]:Array Oper).size=[0,1]:=rfl;rw [O];have ad:∀ y,Region.wanted C.o1 y=true:=fun y=>by simp [Region.wanted,C.hg1]
 have ae:∀ y,Region.wanted C.o2 y=true:=fun y=>by simp [Region.wanted,C.hg2]
 have J:∀ (a:Act) (w:World),(execOp a.eval C.o1).run P w=.ok .recover w:=fun a w=>by simp [execOp,C.hop1,resolve,invoke,builtin]
 have rest:∀ (Z:List Frame),Z={ U with mode:=u' } :: cs→wpOpsS P #[C.o1,C.o2] (bodyPostS P C.fn U cs fun e aa w'=>aa=u'∧∃ x,e=.returned x∧∃ φ' s',K s'∧Q6 φ' M0 N D (look s'.T) (look s'.H) a w'∧QT φ (look s.H) w φ' (look s'.H) w') [1]
   (({ tmps:=#[p]++Array.replicate (C.fn.ntmps - (#[p]:Array Value).size) undef,defers:=[] }:Act).put C.o1.dst v) Z w:=by
  intro Z af
  have ac:(({ tmps:=#[p]++Array.replicate (C.fn.ntmps - (#[p]:Array Value).size) undef,defers:=[] }:Act).put C.o1.dst v).eval (.tmp C.d1)=v:=by
   have h0:C.d1 < C.fn.ntmps:=C.hlt;have:C.d1 < 1+(C.fn.ntmps - 1):=Nat.lt_of_lt_of_le h0 zo;simp [Act.put,C.hd1,Act.eval,this]
  have ab:(({ tmps:=#[p]++Array.replicate (C.fn.ntmps - (#[p]:Array Value).size) undef,defers:=[] }:Act).put C.o1.dst v).eval (.tmp 0)=p:=by
   simp only [Act.put,C.hd1,Act.eval,Array.getD_eq_getD_getElem?];rw [Array.getElem?_setIfInBounds_ne C.hne,Array.getElem?_append_left zq];simp
  have Y:(execOp (({ tmps:=#[p]++Array.replicate (C.fn.ntmps - (#[p]:Array Value).size) undef,defers:=[] }:Act).put C.o1.dst v).eval C.o2).run P w=.ok (.enter cf #[v,p]) w:=by
   generalize (({ tmps:=#[p]++Array.replicate (C.fn.ntmps - (#[p]:Array Value).size) undef,defers:=[] }:Act).put C.o1.dst v)=A at ac ab;simp only [execOp,C.hop2,resolve,Deferred.ofValue,Sem.run_bind,invoke];have e0:A.eval (.func cf)=.func (.func cf) #[] #[]:=rfl;simp only [e0,Sem.run_pure,Result.andThen_ok];rw [We C.hok];simp [ac,ab]
  have G:(#[C.o1,C.o2]:Array Oper)[1]?=some C.o2:=rfl;simp only [wpOpsS,G,ae,if_true,Y,Oper.upon];refine (hc φ M0 D a w [v,p] r (by simp only [Qi]; exact ⟨v,[p],rfl,hv,p,[],rfl,hp,rfl⟩)).mono ?_;intro e w' he;cases e with
  | returned x =>
   obtain ⟨φ',s',g1,g2,g3⟩:=he;refine ⟨?_,u',af, .tuple #[],?_,rfl,_,rfl,φ',s',g1,g2,g3⟩
   ·cases C.o1.dst <;> cases C.o2.dst <;> rfl
   ·simp [results,C.hres]
  | panicked chain =>
   obtain ⟨_,_,_,hF,_⟩:=he;exact hF.elim
  | outgrown=>exact he.elim
 have G:(#[C.o1,C.o2]:Array Oper)[0]?=some C.o1:=rfl;rcases hu U cs hm with h1 | ⟨h1,rfl,rfl⟩
 ·rw [wpOpsS];simp only [G,ad,if_true,J,h1];exact rest _ rfl
 ·rw [wpOpsS];simp only [G,ad,if_true,J,h1];exact rest _ (by subst hm; rfl)
def Qaf (P:Program) (fn:Func) (hc:List (Nat × Blk)) (N:Nat) (cf:FuncId) (R:Zz→QG→Prop):AX→St→Prop
 | .ret,s=>Xl P N cf [SA, .ptr 2000 0] none s (CO P fn hc R) (fun _ _=>False)
 | .normal,s=>Xl P N cf [SA, .ptr 2000 0] none s (CO P fn hc R) (fun _ _=>False)
 | .panic v,s=>Xl P N cf [v, .ptr 2000 0] none s (CO P fn hc R) (fun _ _=>False)
 | .exit _,_=>False
def P6 (b:Nat):Nat→Nat:=fun x=>if x=b then 2000 else x
def Qag (b:Nat) (T:List (Nat × AV)):List (Nat × AV):=T.map fun p=>(p.1,WG (P6 b) p.2)
def P7 (b:Nat) (H:List (Nat × Blk)):List (Nat × Blk):=H.map fun p=>(P6 b p.1,ZM (P6 b) p.2)
theorem yc (b:Nat):∀ (T:List (Nat × AV)) (t:Nat),look (Qag b T) t=(look T t).map (WG (P6 b))
 | [],t=>rfl
 | (k,v) :: T,t=>by
  simp only [Qag,List.map_cons,look];by_cases e:k=t
  ·simp [e]
  ·simp only [e,if_false]; exact yc b T t
structure Ru (fn:Func) (g:FuncId) where
 r1:Code
 rest:Code
 id:Nat
 o1:Oper
 o2:Oper
 tb:Tmp
 tc:Tmp
 ts:Array TypeId
 hb:fn.body=some (.seq r1 (.seq (.region id #[o1,o2] false) rest))
 hop1:o1.op=.makeFunc (.func g) #[] #[.tmp tb]
 hop2:o2.op=.defer ⟨.value (.tmp tc),#[],ts⟩
 hg1:o1.guard=none
 hg2:o2.guard=none
 hd1:o1.dst=some tc
 hd2:o2.dst=none
 hlt:tc < fn.ntmps
theorem BS:∀ {a b:List Nat},(a.map fun r=>({ target:=.collected r,args:=#[] }:Deferred))=(b.map fun r=>({ target:=.collected r,args:=#[] }:Deferred))→a=b
 | [],[],_=>rfl
 | [],_ :: _,h=>by cases h
 | _ :: _,[],h=>by cases h
 | x :: a,y :: b,h=>by
  simp only [List.map_cons,List.cons.injEq,Deferred.mk.injEq,Target.collected.injEq,and_true] at h;rw [h.1,BS h.2]
theorem xP (C:Lh P g cf) (F:Ru fn g) (b:Nat) (hf:P.funcs[f]?=some fn) (hl:args.length≤fn.ntmps)
  (b3:K7 P g=true) (cj:b < 1000)
  (h:Ex P fn.ntmps none F.r1 ⟨YR 0 args,hc⟩ (fun x s=>x=.normal∧look s.T F.tb=some (.ptr b 0)∧look s.H 2000=none∧(∀ c k x,look s.H c=some k→k.ob=some x→(some x).map (zK (P6 b))=some x) ∧
   Ex P fn.ntmps none F.rest ⟨(F.tc, .fn (.func g) [] [.ptr 2000 0]) :: Qag b s.T,P7 b s.H⟩ (Qaf P fn hc fn.ntmps cf R))):Kw P f args (look hc) R:=by
 intro φ M0 w vs hH ha;refine TI hf F.hb ?_;refine wpIn_seq (wpIn_mono (h φ M0 _ _ w (BQ hH ha hl)) ?_);rintro e a1 Z ⟨ab,k,s,⟨rfl,b5,ac,bg,a7⟩,r1,E1,O⟩;simp only [JR] at O;subst O;show Code.wpIn (wd none) 0 P (.seq (.region F.id #[F.o1,F.o2] false) F.rest) _ a1 Z;obtain ⟨ch,ao⟩:=r1.tm F.tb _ b5;simp only [Qe] at ao;obtain ⟨b9,AP,bb,be⟩:=ao
 let p:Value:=.pointer (some ⟨ab b,0,none⟩)
 let d:Deferred:={ target:=.fn (.func g) #[p],args:=#[] }
 let a2:Act:={ tmps:=a1.tmps.setIfInBounds F.tc (.func (.func g) #[] #[p]),defers:=d :: a1.defers }
 have bt:∀ Q,Code.wpIn (wd none) 0 P F.rest Q a2 Z→Code.wpIn (wd none) 0 P (.seq (.region F.id #[F.o1,F.o2] false) F.rest) Q a1 Z:=by
  intro Q hq;refine wpIn_seq (wpIn_region ?_);have ak:List.range (#[F.o1,F.o2]:Array Oper).size=[0,1]:=rfl;rw [ak];have aq:(#[F.o1,F.o2]:Array Oper)[0]?=some F.o1:=rfl;have a6:(#[F.o1,F.o2]:Array Oper)[1]?=some F.o2:=rfl;have b6:∀ y,Region.wanted F.o1 y=true:=fun y=>by simp [Region.wanted,F.hg1]
  have b1:∀ y,Region.wanted F.o2 y=true:=fun y=>by simp [Region.wanted,F.hg2]
  have he:a1.eval (.tmp F.tb)=p:=b9;have ax:(execOp a1.eval F.o1).run P Z=.ok (.value (.func (.func g) #[] #[p])) Z:=by simp [execOp,F.hop1,Instr.makeFunc,he]
  have b4:(a1.put F.o1.dst (.func (.func g) #[] #[p])).eval (.tmp F.tc)=.func (.func g) #[] #[p]:=by
   have h0:F.tc < a1.tmps.size:=by rw [r1.siz]; exact F.hlt
   simp [Act.put,F.hd1,Act.eval,h0]
  have ay:(execOp (a1.put F.o1.dst (.func (.func g) #[] #[p])).eval F.o2).run P Z=.ok (.defer d) Z:=by
   simp [execOp,F.hop2,resolve,b4,Deferred.ofValue,d]
  simp only [wpOpsIn,aq,a6,b6,b1,if_true];refine ⟨fun _ _=>trivial,?_⟩;show Oper.uponIn _ _ _ _ _ _ _ (Sem.run P (execOp a1.eval F.o1) Z);rw [ax];refine ⟨fun _ _=>trivial,?_⟩;show Oper.uponIn _ _ _ _ _ _ _ (Sem.run P (execOp (a1.put F.o1.dst (.func (.func g) #[] #[p])).eval F.o2) Z);rw [ay];show Code.wpIn (wd none) 0 P F.rest Q _ Z
  have:({ (a1.put F.o1.dst (.func (.func g) #[] #[p])) with defers:=d :: (a1.put F.o1.dst (.func (.func g) #[] #[p])).defers }:Act).put F.o2.dst undef=a2:=by
   simp [Act.put,F.hd1,F.hd2,a2]
  rw [this];exact hq
 refine bt _ ?_;have cg:∀ c k,look s.H c=some k→c ≠ 2000:=fun c k hc e=>by rw [e,ac] at hc; cases hc
 have au:∀ c c',c ≠ 2000→c' ≠ 2000→P6 b c=P6 b c'→c=c':=by
  intro c c' h1 h2 he;simp only [P6] at he;by_cases e1:c=b <;> by_cases e2:c'=b
  ·rw [e1,e2]
  ·simp only [e1,e2,if_true,if_false] at he; exact absurd he.symm h2
  ·simp only [e1,e2,if_true,if_false] at he; exact absurd he h1
  ·simpa only [e1,e2,if_false] using he
 let Y:Nat→Nat:=fun x=>if x=2000 then ab b else ab x
 have G:∀ c,look s.H c ≠ none→Y (P6 b c)=ab c:=by
  intro c hc;have bp:c ≠ 2000:=fun e=>hc (by rw [e,ac])
  simp only [Y,P6];by_cases e:c=b
  ·simp [e]
  ·simp [e,bp]
 have ad:∀ c ∈ s.H.map (·.1),c ≠ 2000:=fun c hc e=>by
  have:=Z8.2 hc;rw [e,ac] at this;exact this rfl
 have J:∀ c k,look s.H c=some k→look (P7 b s.H) (P6 b c)=some (ZM (P6 b) k):=by
  intro c k hk;have cc:c ∈ s.H.map (·.1):=Z8.1 (by rw [hk]; simp);unfold P7;rw [PY (fun x y O hy cd=>au x y (ad x O) (by rcases List.mem_cons.1 hy with rfl | hy; exact ad _ cc; exact ad y hy) cd),hk];rfl
 have U:∀ x k,look (P7 b s.H) x=some k→∃ c k',look s.H c=some k'∧P6 b c=x∧k=ZM (P6 b) k':=by
  intro x k O;have:x ∈ (P7 b s.H).map (·.1):=Z8.1 (by rw [O]; simp);simp only [P7,List.map_map,List.mem_map,Function.comp] at this;obtain ⟨q,hq,rfl⟩:=this;have ca:q.1 ∈ s.H.map (·.1):=List.mem_map_of_mem hq;obtain ⟨k',bd⟩:=Ah.1 (Z8.2 ca);rw [J q.1 k' bd] at O;exact ⟨q.1,k',bd,rfl,(Option.some.inj O).symm⟩
 have an:∀ x o,DJ Y (look (P7 b s.H)) x o→DJ ab (look s.H) x o:=by
  rintro x o ⟨y,k,g1,g2,g3⟩;obtain ⟨c,k',g4,rfl,rfl⟩:=U y k g1;refine ⟨c,k',g4,?_,?_⟩
  ·rw [← G c (by rw [g4]; simp)]; exact g2
  ·cases k' <;> exact g3
 have hM:∀ x o,MM Y (look (P7 b s.H)) M0 x o→MM ab (look s.H) M0 x o:=fun x o O=>O.elim (fun h=>.inl (an x o h)) .inr
 obtain ⟨o1,o2⟩:=bC (w:=Z) (ρ:=P6 b) (φ:=Y) (φc:=ab) (h:=look (P7 b s.H)) (hc:=look s.H) G hM J
 have bq:Zw Y (look (P7 b s.H)) Z M0:=by
  refine ⟨fun x y O hy he=>?_,fun x k O=>?_,fun x O o hm=>?_,r1.hp.lt,r1.hp.gm.sub hM⟩
  ·obtain ⟨kx,ar⟩:=Ah.1 O;obtain ⟨ky,b8⟩:=Ah.1 hy;obtain ⟨c,k1,g1,rfl,_⟩:=U x kx ar;obtain ⟨c',k2,g2,rfl,_⟩:=U y ky b8;rw [G c (by rw [g1]; simp),G c' (by rw [g2]; simp)] at he;rw [r1.hp.inj c c' (by rw [g1]; simp) (by rw [g2]; simp) he]
  ·obtain ⟨c,k',g1,rfl,rfl⟩:=U x k O;rw [G c (by rw [g1]; simp)];have:=r1.hp.blk c k' g1;cases k' with
   | box ty cs=>obtain ⟨c0,q1,q2⟩:=this; exact ⟨c0,q1,o2 _ _ q2⟩
   | arr ty S n=>exact this
   | vec ty S es=>obtain ⟨c0,cap,q1,q2,q3,q4,q5,q6,q7⟩:=this; exact ⟨c0,cap,q1,q2,q3,q4,q5,q6,qi hM _ _ q7⟩
   | lp T nf st pd =>
    obtain ⟨tmps,d,q1,q2,q3⟩:=this;refine ⟨tmps,d,q1,q2,fun t x ht=>?_⟩;rw [Rt] at ht;cases hl:look T t with
    | none=>rw [hl] at ht; cases ht
    | some y =>
     rw [hl] at ht;cases ht;exact ⟨(q3 t y hl).1,o1 _ _ (q3 t y hl).2⟩
   | mp es =>
    obtain ⟨en,cl,q1,q2,q3⟩:=this;refine ⟨en,cl,q1,q2,?_⟩;have:=o2 _ _ q3;rw [qg] at this; exact this
   | mf es =>
    obtain ⟨en,cl,q1,q2,q3,q4⟩:=this;exact ⟨en,cl,q1,by rw [UR]; exact q2,by rw [UQ]; exact o2 _ _ q3,q4⟩
   | mg en cl es =>
    obtain ⟨q1,q2,q3,q4⟩:=this;exact ⟨q1,by rw [UR]; exact q2,by rw [UQ]; exact o2 _ _ q3,q4⟩
   | it m cl sn =>
    obtain ⟨q1,k2,q2,q3⟩:=this;exact ⟨by rw [G m (by rw [q2]; simp)]; exact q1,_,J m _ q2,by rw [WS,q3]; rfl⟩
  ·obtain ⟨kx,ar⟩:=Ah.1 O;obtain ⟨c,k1,g1,rfl,_⟩:=U x kx ar;rw [G c (by rw [g1]; simp)] at hm;exact r1.hp.fr c (by rw [g1]; simp) o hm
 have a8:∀ c k x,look s.H c=some k→k.ob=some x→(some x).map (zK (P6 b))=some x:=bg
 have bn:QT ab (look s.H) Z Y (look (P7 b s.H)) Z:=by
  refine ⟨rfl,rfl,rfl,Nat.le_refl _,fun _ _ _=>rfl,fun _ _ _ _=>rfl,fun x o _ hm=>an x o hm,?_,?_,?_,?_⟩
  ·intro c ty cs hc ae;have hne:c ≠ b:=by omega
   have hs:P6 b c=c:=by simp [P6,hne]
   have:=J c _ ae;rw [hs] at this;exact ⟨⟨Vu (P6 b) cs,this⟩,by have:=G c (by rw [ae]; simp); rwa [hs] at this⟩
  ·intro t ty S n ht ah;have hne:t ≠ b:=by omega
   have hs:P6 b t=t:=by simp [P6,hne]
   have h1:=J t _ ah;rw [hs] at h1;exact ⟨n,h1,Nat.le_refl _,fun _=>Yi (by have:=G t (by rw [ah]; simp); rwa [hs] at this) rfl⟩
  ·intro t ty S n ht ah;have hne:t ≠ b:=by omega
   have hs:P6 b t=t:=by simp [P6,hne]
   have h1:=J t _ ah;rw [hs] at h1;exact ⟨n,h1,Nat.le_refl _,fun _=>⟨by have:=G t (by rw [ah]; simp); rwa [hs] at this,fun c hc=>⟨c,hc,rfl⟩⟩⟩
  ·intro c k x hc ae ho;have hne:c ≠ b:=by omega
   have hs:P6 b c=c:=by simp [P6,hne]
   have h1:=J c _ ae;rw [hs] at h1;exact ⟨⟨_,h1,by rw [WS,ho]; exact a8 c k x ae ho⟩,by have:=G c (by rw [ae]; simp); rwa [hs] at this⟩
 have aj:look (P7 b s.H) 2000=some (ZM (P6 b) (.box AP bb)):=by
  have:=J b _ be;simpa [P6] using this
 have r2:Q6 Y M0 fn.ntmps ⟨d :: a1.defers,Z.heap.size⟩ (look ((F.tc, .fn (.func g) [] [.ptr 2000 0]) :: Qag b s.T)) (look (P7 b s.H)) a2 Z:=by
  refine ⟨⟨Nat.le_refl _,[],rfl,List.nodup_nil,fun r hr=>by cases hr⟩,by simp [a2,r1.siz],bq,fun t x ht=>?_⟩;simp only [look] at ht;by_cases e:F.tc=t
  ·simp only [e,if_true,QN] at ht;subst ht;refine ⟨e ▸ F.hlt,?_⟩;have h0:t < a1.tmps.size:=by rw [r1.siz]; exact e ▸ F.hlt
   have:a2.tmps.getD t undef=.func (.func g) #[] #[p]:=by simp [a2,e,h0]
   rw [this];simp only [Qe,Qi];refine ⟨[],[p],rfl,rfl,p,[],rfl,⟨?_,AP,Vu (P6 b) bb,aj⟩,rfl⟩;simp [p,Y]
  ·simp only [e,if_false] at ht;rw [yc] at ht;cases hq:look s.T t with
   | none=>rw [hq] at ht; cases ht
   | some y =>
    rw [hq] at ht;simp only [Option.map_some,QN] at ht;subst ht;obtain ⟨g1,g2⟩:=r1.tm t y hq;refine ⟨g1,?_⟩;have:a2.tmps.getD t undef=a1.tmps.getD t undef:=by simp [a2,Array.getElem?_setIfInBounds_ne e]
    rw [this];exact o1 _ _ g2
 refine wpIn_mono (a7 Y M0 _ a2 Z r2) ?_;rintro e a3 w3 ⟨af,k,s3,hq,r3,E3,O⟩;have bl:=(E1.trans bn).trans E3;obtain ⟨⟨bo,b7⟩,bc⟩:=E3.kb 2000 AP _ zo aj
 have bi:∀ w,(invoke (.fn (.func g) #[p]) #[]).run P w=.ok (.enter g #[p]) w:=fun w=>by
  simp only [invoke];rw [We b3];rfl
 obtain ⟨bu,ms,hd,br,al⟩:=r3.dfs;have av:∀ r ∈ ms,w3.heap[r]?=some (.deferred (some []))∧∀ b,look s3.H b ≠ none→af b ≠ r:=fun r hr=>(al r hr).2
 have bz:Marks af ⟨[],w.heap.size⟩ (look s3.H) a1 w3∧∀ aa:List Nat,a1.defers=(aa.map fun r=>({ target:=.collected r,args:=#[] }:Deferred))→∀ r ∈ aa,r < Z.heap.size:=by
  refine ⟨(r1.dfs.keep bn).keep E3,fun aa h1 r hr=>?_⟩;obtain ⟨_,ce,h2,_,h3⟩:=r1.dfs
  have e:aa=ce:=by
   rw [h1] at h2;simp only [List.append_nil] at h2;exact BS h2
  rw [e] at hr;exact (FY.1 (h3 r hr).2.1).1
 have go:∀ (u u':FrameMode) (rv:AV),u ≠ .run→settle u'=.returning→Xl P fn.ntmps cf [rv, .ptr 2000 0] none s3 (CO P fn hc R) (fun _ _=>False) →
   (∀ w',UA ms w3 w'→∃ v,Qe af (look s3.H) w' (MM af (look s3.H) M0) rv v∧∀ (c0:Frame) (cs:List Frame),c0.mode=u→(recoverD (c0 :: cs)=some (v,{ c0 with mode:=u' } :: cs))∨(recoverD (c0 :: cs)=none∧v=.nilIface∧u'=u)) →
   WR P fn a3.tmps (Out R φ (look hc) w M0) a3.defers u w3:=by
  intro u u' rv hu ba az bh;rw [hd];refine Ro hu _ ms w3 br (fun r hr=>(al r hr).2.1) fun w4 t=>?_
  have r4:=r3.turned t av;have E4:=bl.turned t (fun r hr=>Nat.le_trans E1.size (al r hr).1) av;obtain ⟨v,hv,hm⟩:=bh w4 t
  have b2:Qe af (look s3.H) w4 (MM af (look s3.H) M0) (.ptr 2000 0) p:=by
   simp only [Qe];exact ⟨by rw [bc]; simp [p,Y],AP,bo,b7⟩
  refine ⟨hu, .inr ⟨.func g,#[p],g,#[p],rfl,bi w4,(C.calls (rv:=rv) (v:=v) (u:=u) (u':=u') az r4 b2 hv hm).mono ?_⟩⟩;rintro e bx w5 ⟨rfl,x,rfl,bm,s5,g1,g2,g3⟩;show WR P fn a3.tmps (Out R φ (look hc) w M0) a1.defers (settle bx) w5;rw [ba];obtain ⟨⟨_,aa,hd1,bf,am⟩,aw⟩:=bz;have bk:a1.defers=(aa.map fun r=>({ target:=.collected r,args:=#[] }:Deferred))++[]:=hd1
  have ai:∀ r ∈ aa,w5.heap[r]?=some (.deferred (some []))∧∀ b,look s5.H b ≠ none→bm b ≠ r:=by
   intro r hr;have h3:=am r hr
   have bj:r ∉ ms:=fun O=>by
    have h6:Z.heap.size≤r:=(al r O).1;have h7:=aw aa (by simpa using hd1) r hr;omega
   have h4:w4.heap[r]?=some (.deferred (some [])):=by rw [t.same r bj]; exact h3.2.1
   have hlt:r < w4.heap.size:=(FY.1 h4).1;refine ⟨(g3.same r hlt h3.2.2).trans h4,fun b hb e=>?_⟩;cases hk:look s5.H b with
   | none=>exact hb hk
   | some k =>
    obtain ⟨o,ho⟩:=BB (φ:=bm) hk;rw [e] at ho;obtain ⟨b0,k0,bv,bw,_⟩:=g3.mu r o hlt ho;exact h3.2.2 b0 (by rw [bv]; simp) bw
  rw [bk];refine Ro zq _ aa w5 bf (fun r hr=>(ai r hr).1) fun w6 t6=>?_
  have r6:=g2.turned t6 ai;have E6:=(E4.trans g3).turned t6 (fun r hr=>(am r hr).1) ai;obtain ⟨y,q1,q2⟩:=P5 r6 E6 g1;exact ⟨y,q1,q2⟩
 cases k with
 | normal =>
  simp only [JR] at O;subst O;exact go .returning .returning SA zq rfl hq fun w' t=>⟨.nilIface,by simp [SA,Qe,QH],fun c0 cs hm=>.inr ⟨by simp [recoverD,hm],rfl,rfl⟩⟩
 | ret =>
  simp only [JR] at O;subst O;exact go .returning .returning SA zq rfl hq fun w' t=>⟨.nilIface,by simp [SA,Qe,QH],fun c0 cs hm=>.inr ⟨by simp [recoverD,hm],rfl,rfl⟩⟩
 | exit i=>exact hq.elim
 | panic x =>
  obtain ⟨v,rfl,hv⟩:=O;refine go (.panicking [{ v:=v,recovered:=false }]) (.panicking [{ v:=v,recovered:=true }]) x zq rfl hq fun w' t=>⟨v,?_,fun c0 cs hm=>.inl (by simp [recoverD,hm])⟩
  exact Ld t av _ _ hv
def Qah:List (Nat × Blk)→Bool
 | []=>true
 | (_,k) :: l=>k.ob.isNone&&Qah l
theorem yf:∀ {H:List (Nat × Blk)},Qah H=true→∀ c k,look H c=some k→k.ob=none
 | [],_,c,k,G=>by simp [look] at G
 | (b,O) :: H,J,c,k,G=>by
  simp only [Qah,Ze,Option.isNone_iff_eq_none] at J;simp only [look] at G;by_cases e:b=c
  ·simp only [e,if_true,QN] at G;subst G;exact J.1
  ·simp only [e,if_false] at G;exact yf J.2 c k G
theorem QcF {T:List (Nat × AV)} {st':LoopState} {pd':Option Code} {o:Obj} (hb:h b=some (.lp T nf st pd)) (ac:∀ c t f,w.heap[φ b]? ≠ some (.cells c t f)) (r:Zw φ h w M0)
  (ho:∀ (φ':Nat→Nat) (h':QG) (w':World) (M:Zn),True) :
  QT φ h w φ (upd h b (.lp T nf st' pd')) (w.putObj (φ b) o)∧VL φ h w φ (upd h b (.lp T nf st' pd')) (w.putObj (φ b) o):=by
 have hlt:=BF r hb (fun _ _ e=>by cases e);have G:∀ x,x ≠ φ b→(w.putObj (φ b) o).heap[x]?=w.heap[x]?:=fun x hx=>World.putObj_heap_other hx
 have hne:∀ c k,h c=some k→k.ob=none→¬ b=c:=fun c k hc hk e=>by rw [← e,hb] at hc; cases hc; cases hk
 have O:∀ c k,h c=some k→¬ b=c→φ c ≠ φ b:=fun c k hc e h2=>e (r.inj c b (by rw [hc]; simp) (by rw [hb]; simp) h2).symm
 have aa:∀ c ty cs,h c=some (.box ty cs)→upd h b (.lp T nf st' pd') c=some (.box ty cs):=fun c ty cs hc=>by simp [upd,hne c _ hc rfl,hc]
 have Y:∀ t ty S n,h t=some (.arr ty S n)→∃ n',upd h b (.lp T nf st' pd') t=some (.arr ty S n')∧n≤n'∧(n'=n→AKept w (w.putObj (φ b) o) (φ t) (φ t) ty):=by
  intro t ty S n J;have e:=hne t _ J rfl;exact ⟨n,by simp [upd,e,J],Nat.le_refl _,fun _=>Yi (rfl) (by rw [G _ (O t _ J e)])⟩
 have U:∀ t ty S es,h t=some (.vec ty S es)→∃ es',upd h b (.lp T nf st' pd') t=some (.vec ty S es')∧es.length≤es'.length∧(es'.length=es.length→φ t=φ t∧∀ c,w.heap[φ t]?=some (.cells c ty (0,0))→∃ c',(w.putObj (φ b) o).heap[φ t]?=some (.cells c' ty (0,0))∧c'.size=c.size):=by
  intro t ty S n J;have e:=hne t _ J rfl;exact ⟨n,by simp [upd,e,J],Nat.le_refl _,fun _=>⟨rfl,fun c hc=>⟨c,by rw [G _ (O t _ J e)]; exact hc,rfl⟩⟩⟩
 have Z:∀ c k x,h c=some k→k.ob=some x→(∃ k',upd h b (.lp T nf st' pd') c=some k'∧k'.ob=some x)∧φ c=φ c:=by
  intro c k x hc ho;by_cases e:b=c
  ·subst e;rw [hb] at hc;cases hc;exact ⟨⟨.lp T nf st' pd',by simp [upd],ho⟩,rfl⟩
  ·exact ⟨⟨k,by simp [upd,e,hc],ho⟩,rfl⟩
 refine ⟨⟨rfl,rfl,rfl,by simp,?_,?_,?_,fun c ty cs _ hc=>⟨⟨cs,aa c ty cs hc⟩,rfl⟩,fun t ty S n _=>Y t ty S n,fun t ty S es _=>U t ty S es,fun c k x _=>Z c k x⟩,fun c ty cs hc=>⟨⟨ty,cs,aa c ty cs hc⟩,rfl⟩,Y,U,Z⟩
 ·intro x _ ab;exact G x (fun e=>ab b (by rw [hb]; simp) e.symm)
 ·intro x y _ hm;have:x ≠ φ b:=fun e=>hm ⟨b,_,hb,e.symm,trivial⟩
  simp [World.cell?,G x this]
 ·rintro x y _ ⟨d,q,h1,h2,h3⟩;by_cases e:b=d
  ·exact ⟨b,_,hb,by rw [e]; exact h2,trivial⟩
  ·exact ⟨d,q,by simpa [upd,e] using h1,h2,h3⟩
theorem mF {G:List (Nat × AV)} (r:Q6 φ M0 N D T h a w) (hb:h b=some (.lp G nf st pd)) :
  ∃ rec:Loop,w.heap[φ b]?=some (.loop rec)∧rec.state=st∧rec.pending=pd∧rec.fn=nf.fn∧rec.params=nf.ps∧rec.assign=nf.assign∧rec.body=nf.body∧rec.tmps.size=nf.N ∧
   (∀ t x,look G t=some x→t < nf.N∧Qe φ h w (MM φ h M0) x (rec.tmps.getD t undef)) ∧
   ∀ st' pd',Q6 φ M0 N D T (upd h b (.lp G nf st' pd')) a (w.putObj (φ b) (.loop { rec with state:=st',pending:=pd' }))∧QT φ h w φ (upd h b (.lp G nf st' pd')) (w.putObj (φ b) (.loop { rec with state:=st',pending:=pd' })):=by
 obtain ⟨tmps,d,Z,J,O⟩:=r.hp.blk b _ hb;refine ⟨_,Z,rfl,rfl,rfl,rfl,rfl,rfl,J,O,fun st' pd'=>?_⟩;obtain ⟨E,X⟩:=QcF (st':=st') (pd':=pd') (o:=.loop { state:=st',pending:=pd',fn:=nf.fn,tmps:=tmps,params:=nf.ps,assign:=nf.assign,body:=nf.body,defers:=d }) hb (by rw [Z]; simp) r.hp (fun _ _ _ _=>trivial);refine ⟨r.keep E X ?_,E⟩;have hlt:=BF r.hp hb (fun _ _ e=>by cases e)
 have g:∀ d,upd h b (.lp G nf st' pd') d ≠ none→h d ≠ none:=fun d U=>by
  by_cases e:b=d
  ·rw [← e,hb]; simp
  ·simpa [upd,e] using U
 refine ⟨fun c d hc U he=>r.hp.inj c d (g c hc) (g d U) he,fun c k hc=>?_,fun c hc=>r.hp.fr c (g c hc),fun x o hx=>by simpa using r.hp.lt x o hx,r.hp.gm.evol E⟩;by_cases e:b=c
 ·subst e;have:k=.lp G nf st' pd':=by simpa [upd] using hc.symm
  subst this;exact ⟨tmps,d,World.putObj_heap_same hlt,J,fun t x Y=>⟨(O t x Y).1,(QI (E.keeps M0) X).1 _ _ (O t x Y).2⟩⟩
 ·have hc':h c=some k:=by simpa [upd,e] using hc
  refine ZI (E.keeps M0) X (World.putObj_heap_other fun J=>e (r.hp.inj c b (by rw [hc']; simp) (by rw [hb]; simp) J).symm) (r.hp.blk c k hc')
def psT:List Tmp→List AV→List (Nat × AV)→List (Nat × AV)
 | p :: ps,x :: xs,T=>psT ps xs ((p,x) :: T)
 | _,_,T=>T
theorem bE {φ:Nat→Nat} {h:QG} {w:World} {M:Zn} {N:Nat}:∀ (ps:List Tmp) (xs:List AV) (G:List Value) (T:List (Nat × AV)) (tmps:Array Value),(∀ p ∈ ps,p < N)→ps.length=xs.length→Qi φ h w M xs G→tmps.size=N →
  (∀ t x,look T t=some x→t < N∧Qe φ h w M x (tmps.getD t undef)) →
  ((ps.zip G).foldl (fun tmps (p:Tmp × Value)=>tmps.setIfInBounds p.1 p.2) tmps).size=N∧∀ t x,look (psT ps xs T) t=some x→t < N∧Qe φ h w M x (((ps.zip G).foldl (fun tmps (p:Tmp × Value)=>tmps.setIfInBounds p.1 p.2) tmps).getD t undef)
 | [],xs,G,T,tmps,_,O,Z,hs,U=>by
  have:xs=[]:=List.eq_nil_of_length_eq_zero (by simpa using O.symm);subst this;simp only [List.zip_nil_left,List.foldl_nil,psT];exact ⟨hs,U⟩
 | p :: ps,[],G,T,tmps,_,O,Z,hs,U=>by simp at O
 | p :: ps,x :: xs,G,T,tmps,hp,O,Z,hs,U=>by
  simp only [Qi] at Z;obtain ⟨v,aa,rfl,h1,h2⟩:=Z;simp only [List.zip_cons_cons,List.foldl_cons,psT];refine bE ps xs aa _ _ (fun q hq=>hp q (by simp [hq])) (by simpa using O) h2 (by simpa using hs) ?_;intro t y J;simp only [look] at J;have Y:=hp p zq;by_cases e:p=t
  ·simp only [e,if_true,QN] at J;subst J;refine ⟨e ▸ Y,?_⟩;have:(tmps.setIfInBounds p v).getD t undef=v:=by subst e; simp [hs,Y]
   rw [this]; exact h1
  ·simp only [e,if_false] at J;refine ⟨(U t y J).1,?_⟩;have:(tmps.setIfInBounds p v).getD t undef=tmps.getD t undef:=by simp [Array.getElem?_setIfInBounds_ne e]
   rw [this]; exact (U t y J).2
def CP (H:List (Nat × Blk)) (b:Nat) (T:List (Nat × AV)) (nf:Di) (R:Zz→QG→Prop) (J:Bool) (st:LoopState) (pd:Option Code) (s:St):Prop :=
 ∃ hc' G O,MH (look s.H) (look hc') hc'∧KU (look hc') H=true∧look hc' b=some (.lp T nf G O)∧R (.ret (.p (.val (.bool J)))) (look ((b, .lp T nf st pd) :: hc'))
def Qai (H:List (Nat × Blk)) (b:Nat) (T:List (Nat × AV)) (nf:Di) (R:Zz→QG→Prop):AX→St→Prop
 | .normal,s=>CP H b T nf R true .ready none s
 | .ret,s=>CP H b T nf R false .done (some .ret) s
 | .exit i,s=>CP H b T nf R false .done (some (.exit i)) s
 | .panic _,_=>False
theorem QcG (r:Q6 φ M0 N D (look s.T) (look s.H) a w) (E:QT φ0 (look hc) w0 φ (look s.H) w)
  (J:MH (look s.H) (look hc') hc') (Y:KU (look hc') hc=true):Q6 φ M0 N D (look []) (look hc') a w∧QT φ0 (look hc) w0 φ (look hc') w:=by
 obtain ⟨k1,k2,_⟩:=PZ r E J Y;refine ⟨⟨?_,r.siz,k1,fun t x Z=>by cases Z⟩,k2⟩;obtain ⟨h0,O,g1,g2,g3⟩:=r.dfs;refine ⟨h0,O,g1,g2,fun x G=>⟨(g3 x G).1,(g3 x G).2.1,fun b hb=>(g3 x G).2.2 b ?_⟩⟩;cases hq:look hc' b with
 | none=>exact absurd hq hb
 | some k'=>obtain ⟨⟨k,U,_⟩,_⟩:=Jr J b k' hq; rw [U]; simp
theorem xQ {T:List (Nat × AV)} (ad:1000≤b) (hb:look H b=some (.lp T nf .ready pd)) (af:nf.ps.size=args.length) (aj:∀ p ∈ nf.ps.toList,p < nf.N)
  (h:∀ l,Ex P nf.N (some l) nf.assign ⟨psT nf.ps.toList args T,H⟩ (fun x s1=>x=.normal∧∃ O,look s1.H b=some (.lp T nf .ready O) ∧
   Ex P nf.N (some l) nf.body ⟨s1.T,(b, .lp T nf .busy O) :: s1.H⟩ (Qai H b T nf R))):iX P b args (look H) R:=by
 intro φ M0 w vs hH ha;obtain ⟨tmps,d,ae,ak,hT⟩:=hH.blk b _ hb;have ao:=Zp ha;have ai:=run_yield (P:=P) (args:=vs.toArray) ae (by simp; omega);refine ⟨_,_,_,_,ai,?_⟩;refine roundIn_of_wpIn trivial ?_
 have ab:(nf.ps.zip vs.toArray).foldl (fun tmps (x:Tmp × Value)=>match x with | (t,a)=>tmps.setIfInBounds t a) tmps=(nf.ps.toList.zip vs).foldl (fun tmps (p:Tmp × Value)=>tmps.setIfInBounds p.1 p.2) tmps:=by
  rw [← Array.foldl_toList];simp
 obtain ⟨p1,p2⟩:=bE (φ:=φ) (h:=look H) (w:=w) (M:=MM φ (look H) M0) (N:=nf.N) nf.ps.toList args vs T tmps aj (by simpa using af) ha ak hT
 have r:Q6 φ M0 nf.N ⟨[],w.heap.size⟩ (look (psT nf.ps.toList args T)) (look H) { tmps:=(nf.ps.zip vs.toArray).foldl (fun tmps (x:Tmp × Value)=>match x with | (t,a)=>tmps.setIfInBounds t a) tmps,defers:=[] } w:=by
  refine ⟨⟨Nat.le_refl _,[],rfl,List.nodup_nil,fun r hr=>by cases hr⟩,?_,hH,?_⟩
  ·show Array.size _=_;rw [ab]; exact p1
  ·intro t x ht;show _∧Qe _ _ _ _ x (Array.getD _ t undef);rw [ab]; exact p2 t x ht
 refine wpIn_mono (h (φ b) φ M0 _ _ w r) ?_;rintro e a1 w1 ⟨J,k,s1,⟨rfl,O,am,U⟩,r1,E1,Z⟩;simp only [JR] at Z;subst Z;have G:J b=φ b:=(E1.ko b _ _ ad hb rfl).2;obtain ⟨rec,g1,g2,g3,g4,g5,g6,g7,g8,g9,g10⟩:=mF r1 am;obtain ⟨r2,E2⟩:=g10 .busy O;refine ⟨_,by rw [← G]; exact run_beginRound g1 g2,?_⟩;have al:(w1.putObj (J b) (.loop { rec with state:=.busy }))=w1.putObj (J b) (.loop { rec with state:=.busy,pending:=O }):=by rw [← g3]
 rw [← G,al];rw [← G] at U;refine wpIn_mono (U J M0 _ a1 _ r2) ?_;rintro e a3 w3 ⟨ac,k,s3,hq,r3,E3,Z⟩;have aa:=(E1.trans E2).trans E3
 have fin:∀ (Y:Bool) (jump:Option Code),jump.isNone=Y→CP H b T nf R Y (if jump.isNone then .ready else .done) jump s3 →
   ∃ v w',(Instr.endRound (J b) jump).run P w3=.ok v w'∧∃ φ' r h',R r h'∧Zw φ' h' w' M0∧QT φ (look H) w φ' h' w'∧iW φ' h' w' (MM φ' h' M0) r (.returned v):=by
  rintro Y jump hj ⟨hc',ar,aq,q1,q2,q3,q4⟩;obtain ⟨r4,E4⟩:=QcG r3 aa q1 q2;obtain ⟨an,f1,f2,f3,f4,f5,f6,f7,f8,f9,f10⟩:=mF r4 q3;obtain ⟨r5,E5⟩:=f10 (if jump.isNone then .ready else .done) jump
  have ah:ac b=J b:=by
   have e1:ac b=φ b:=by
    have:=aa.ko b _ _ ad hb rfl;exact this.2
   rw [e1,G]
  refine ⟨.bool jump.isNone,_,by rw [← ah]; exact run_endRound jump f1,ac, .ret (.p (.val (.bool Y))),_,q4,r5.hp,E4.trans E5, .bool jump.isNone,rfl,by simp [Qe,QH,hj]⟩
 cases k with
 | normal =>
  simp only [JR] at Z;subst Z;exact fin true none rfl hq
 | ret =>
  simp only [JR] at Z;subst Z;exact fin false (some .ret) rfl hq
 | exit i =>
  simp only [JR] at Z;subst Z;exact fin false (some (.exit i)) rfl hq
 | panic x=>exact hq.elim
def Qaj (G:Nat) (T:List (Nat × AV)) (nf:Di) (Q:AX→St→Prop) (s:St):Prop :=
  ∃ st pd,look s.H G=some (.lp T nf st pd)∧st ≠ .busy ∧
    (match pd with
     | none=>Q .normal ⟨s.T,(G, .lp T nf .exhausted none) :: s.H⟩
     | some .ret=>Q .ret ⟨s.T,(G, .lp T nf .exhausted (some .ret)) :: s.H⟩
     | some (.exit i)=>Q (.exit i) ⟨s.T,(G, .lp T nf .exhausted (some (.exit i))) :: s.H⟩
     | some _=>False)
theorem vN {f:Operand} {ps:Array Tmp} {assign:Code} {l m:List AV} (G:Nat) (a6:1000≤G) (hf:Za (look s.T) f=some (.fn (.func g) l m)) (hok:K7 P g=true) (hD:look s.H G=none)
  (ae:∀ fn,Xl P N g (l++[.yv G]++m) none ⟨s.T,(G, .lp s.T ⟨N,fn,ps,assign,body⟩ .ready none) :: s.H⟩ (Qaj G s.T ⟨N,fn,ps,assign,body⟩ Q) Q):Ex P N none (.rangeFunc f ps assign body) s Q:=by
 intro φ0 M0 D a w r0;obtain ⟨r,am,a7,hC⟩:=r0.lift 2;refine wpIn_mono ?_ (fun _ _ _ p=>Post.trans am p);generalize Kv φ0 w.heap.size 2=φ at r am a7 hC;refine wpIn_rangeFunc fun fn _=>?_
 have ak:=r.ev hf;simp only [Qe] at ak;obtain ⟨l',m',ar,az,au⟩:=ak
 let Z:Loop:={ state:=.ready,pending:=none,fn:=fn,tmps:=a.tmps,params:=ps,assign:=assign,body:=body,defers:=w.heap.size }
 let O:World:=w.alloc (.deferred (some []))
 let w1:World:=O.alloc (.loop Z)
 have ad:O.heap=w.heap.push (.deferred (some [])):=rfl;have aw:O.heap.size=w.heap.size+1:=by rw [ad]; simp
 obtain ⟨Ea,Xa,Ha⟩:=Uy (w:=w) (w':=O) (φ:=φ) (h:=look s.H) (M0:=M0) rfl rfl rfl zo (fun x hx=>by rw [ad,Array.getElem?_push,if_neg zo]) r.hp (fun b hb=>(hC b hb).imp (fun h=>h) (fun h=>by omega));have ai:Clear φ (look s.H) O 1:=fun b hb=>(hC b hb).imp (fun h=>by omega) (fun h=>by omega)
 have ra:Q6 φ M0 N D (look s.T) (look s.H) a O:=r.keep Ea Xa Ha;have hh:w1.heap=O.heap.push (.loop Z):=rfl;obtain ⟨E1,X1⟩:=XN (k:=.lp s.T ⟨N,fn,ps,assign,body⟩ .ready none) hh rfl rfl rfl hD Ha ai
 have H1:Zw (Qu φ G O.heap.size) (upd (look s.H) G (.lp s.T ⟨N,fn,ps,assign,body⟩ .ready none)) w1 M0:=by
  refine XO hh hD Ha ai E1 X1 ⟨a.tmps,w.heap.size,?_,r.siz,fun t x ht=>⟨(ra.tm t x ht).1,(QI (E1.keeps M0) X1).1 _ _ (ra.tm t x ht).2⟩⟩;rw [hh];simp [Z]
 let a':Act:={ a with defers:=[{ target:=.collected w.heap.size,args:=#[] }]++a.defers }
 have r1:Q6 (Qu φ G O.heap.size) M0 N D (look s.T) (look ((G, .lp s.T ⟨N,fn,ps,assign,body⟩ .ready none) :: s.H)) a' w1:=by
  have ac:=ra.keep E1 X1 H1;refine ⟨?_,ac.siz,H1,ac.tm⟩;obtain ⟨h0,ms,g1,g2,g3⟩:=ac.dfs;obtain ⟨ax,aq,aj,ba,ao⟩:=r.dfs
  have ay:ms=aq:=by
   rw [g1] at aj;exact BS (List.append_cancel_right aj)
  refine ⟨h0,w.heap.size :: ms,by simp [a',g1],List.nodup_cons.2 ⟨fun hx=>?_,g2⟩,fun x hx=>?_⟩
  ·rw [ay] at hx;have:=(FY.1 (ao _ hx).2.1).1;omega
  ·rcases List.mem_cons.1 hx with rfl | hx
   ·refine ⟨ax,?_,fun b hb he=>?_⟩
    ·rw [hh,Array.getElem?_push,if_neg zo,ad];simp
    ·by_cases e:G=b
     ·simp only [Qu,e,if_true] at he; omega
     ·have al:look s.H b ≠ none:=by simpa [look,e] using hb
      simp only [Qu,e,if_false] at he;obtain ⟨k,hk⟩:=Ah.1 al;rcases hC b al with h7 | h7 <;> omega
   ·exact g3 x hx
 have aa:Qu φ G O.heap.size G=w.heap.size+1:=by simp [Qu,aw]
 have ab:QT φ (look s.H) w (Qu φ G O.heap.size) (look ((G, .lp s.T ⟨N,fn,ps,assign,body⟩ .ready none) :: s.H)) w1:=Ea.trans E1
 have af:Qi (Qu φ G O.heap.size) (look ((G, .lp s.T ⟨N,fn,ps,assign,body⟩ .ready none) :: s.H)) w1 (MM (Qu φ G O.heap.size) (look ((G, .lp s.T ⟨N,fn,ps,assign,body⟩ .ready none) :: s.H)) M0) (l++[.yv G]++m) (l'++[Value.func (.yield (w.heap.size+1)) #[] #[]]++m'):=by
  have k1:=(QI (E1.keeps M0) X1).2 _ _ ((QI (Ea.keeps M0) Xa).2 _ _ az);have k2:=(QI (E1.keeps M0) X1).2 _ _ ((QI (Ea.keeps M0) Xa).2 _ _ au);refine Zi (Zi k1 ?_) k2;simp only [Qi,Qe];exact ⟨_,[],rfl,⟨by rw [aa],_,s.T,⟨N,fn,ps,assign,body⟩,by simp [look]; rfl,rfl⟩,rfl⟩
 refine ⟨w.heap.size+1,_,_,{ target:=.fn (.func g) m'.toArray,args:=l'.toArray++#[Value.func (.yield (w.heap.size+1)) #[] #[]] },w1,g,(l'++[Value.func (.yield (w.heap.size+1)) #[] #[]]++m').toArray,w1,run_enterLoop_outer fn a.tmps ps assign body,?_,fun _ _=>trivial,?_,(fun h=>by cases h),?_⟩
 ·have e1:Array.map a.eval #[Operand.const (Value.func (Fn.yield (w.heap.size+1)) #[] #[])]=#[Value.func (.yield (w.heap.size+1)) #[] #[]]:=by simp [Act.eval]
  simp only [resolve,ar,Deferred.ofValue,Sem.run_pure,e1];rfl
 ·simp only [invoke];rw [We hok];congr 2;apply Array.ext';simp
 ·refine callsIn_wide.2 ((ae fn _ M0 D a' w1 _ r1 af).mono ?_);intro e w3 he;cases e with
  | returned v =>
   obtain ⟨J,s3,⟨st,pd,q1,q2,q3⟩,r3,E3⟩:=he;have av:Q6 J M0 N D (look s3.T) (look s3.H) a' w3:=r3
   have an:J G=w.heap.size+1:=by
    have:=(E3.ko G _ _ a6 (by simp [look]; rfl) rfl).2;rw [this,aa]
   obtain ⟨Y,f1,f2,f3,f4,f5,f6,f7,f8,f9,f10⟩:=mF av q1;obtain ⟨r4,E4⟩:=f10 .exhausted pd;have a8:w3.putObj (J G) (.loop { Y with state:=.exhausted })=w3.putObj (J G) (.loop { Y with state:=.exhausted,pending:=pd }):=by rw [← f3]
   have ah:(Instr.endLoop (w.heap.size+1)).run P w3=.ok pd (w3.putObj (J G) (.loop { Y with state:=.exhausted,pending:=pd })):=by
    rw [← an,run_endLoop f1 (by rw [f2]; exact q2),a8,f3]
   have U:=(ab.trans E3).trans E4;refine ⟨pd,_,ah,?_⟩;cases pd with
   | none=>exact ⟨J, .normal,⟨s3.T,(G, .lp s.T ⟨N,fn,ps,assign,body⟩ .exhausted none) :: s3.H⟩,q3,r4,U,rfl⟩
   | some c =>
    cases c with
    | ret=>exact wpIn_ret ⟨J, .ret,⟨s3.T,(G, .lp s.T ⟨N,fn,ps,assign,body⟩ .exhausted (some .ret)) :: s3.H⟩,q3,r4,U,rfl⟩
    | exit i=>exact wpIn_exit ⟨J, .exit i,⟨s3.T,(G, .lp s.T ⟨N,fn,ps,assign,body⟩ .exhausted (some (.exit i))) :: s3.H⟩,q3,r4,U,rfl⟩
    | _=>exact q3.elim
  | panicked chain=>exact Post.trans ab he
  | outgrown=>exact he.elim
theorem NA {φ:Nat→Nat} {h:QG} {w:World} {M:Zn}:∀ {cs:List PV} {l:List Value},Qi φ h w M (cs.map .p) l→∀ (j:Nat) (c:PV),cs[j]?=some c→∃ v:Value,l[j]?=some v∧QH w M c v
 | [],l,_,j,c,G=>by simp at G
 | x :: cs,l,J,j,c,G=>by
  simp only [List.map_cons,Qi,Qe] at J;obtain ⟨y,ys,rfl,Z,Y⟩:=J;cases j with
  | zero=>simp at G; subst G; exact ⟨y,by simp,Z⟩
  | succ j =>
   obtain ⟨v,O,U⟩:=NA Y j c (by simpa using G);exact ⟨v,by simpa using O,U⟩
structure Good (ks:List Nat) (H:List (Nat × Blk)):Prop where
 keys:H.map (·.1)=ks
 ok:∀ c k,look H c=some k→okRefB (look H) k=true
attribute [go_sem] KS YQ WG Vu QfF leB le PR ZW Z0
mutual
def flat:AV→Bool
 | .p (.val _)=>true
 | .agg l=>qj l
 | .tup l=>qj l
 | .ifc _ x=>flat x
 | _=>false
def qj:List AV→Bool
 | []=>true
 | x :: xs=>flat x&&qj xs
end
theorem yg:(∀ (x:AV) (v:Value),flat x=true→Qe φ h w M x v→Qe φ' h' w' M' x v)∧(∀ (xs:List AV) (l:List Value),qj xs=true→Qi φ h w M xs l→Qi φ' h' w' M' xs l):=by
 have key:∀ n:Nat,(∀ (x:AV),SizeOf.sizeOf x≤n→∀ v,flat x=true→Qe φ h w M x v→Qe φ' h' w' M' x v)∧(∀ (xs:List AV),SizeOf.sizeOf xs≤n→∀ l,qj xs=true→Qi φ h w M xs l→Qi φ' h' w' M' xs l):=by
  intro n
  induction n with
  | zero =>
   refine ⟨fun x J=>?_,fun es J=>?_⟩
   ·cases x <;> simp at J
   ·cases es <;> simp at J
  | succ n ih =>
   obtain ⟨Y,i2⟩:=ih;refine ⟨fun x J v hf G=>?_,fun xs J l hf G=>?_⟩
   ·cases x with
    | p x=>cases x with
     | val u=>simp only [Qe,QH] at G ⊢; exact G
     | sl S es=>simp [flat] at hf
    | agg l=>simp only [flat,Qe] at hf G ⊢; obtain ⟨m,U,O⟩:=G; exact ⟨m,U,i2 l (by simp at J; omega) m hf O⟩
    | tup l=>simp only [flat,Qe] at hf G ⊢; obtain ⟨m,U,O⟩:=G; exact ⟨m,U,i2 l (by simp at J; omega) m hf O⟩
    | ifc t x=>simp only [flat,Qe] at hf G ⊢; obtain ⟨y,U,O⟩:=G; exact ⟨y,U,Y x (by simp at J; omega) y hf O⟩
    | _=>simp [flat] at hf
   ·cases xs with
    | nil=>simpa [Qi] using G
    | cons x xs =>
     simp only [qj,Ze,Qi] at hf G ⊢;simp at J;obtain ⟨y,ys,U,O,Z⟩:=G;exact ⟨y,ys,U,Y x zo y hf.1 O,i2 xs zo ys hf.2 Z⟩
 exact ⟨fun x v=>(key (SizeOf.sizeOf x)).1 x (Nat.le_refl _) v,fun xs l=>(key (SizeOf.sizeOf xs)).2 xs (Nat.le_refl _) l⟩
def leR (H:QG) (x y:AV):Prop :=
 le x y∨∃ (b off:Nat) (ty:TypeId) (l:List AV) (cs:List PV),x=.ptr b off∧y=.eptr (cs.drop off)∧H b=some (.box ty l)∧PR l (cs.map .p)∧Us (cs.map .p)=true
def mG (H:QG):List AV→List AV→Prop
 | [],ys=>ys=[]
 | x :: xs,ys=>∃ z G,ys=z :: G∧leR H x z∧mG H xs G
def roK (K:St→Prop) (Q:AX→St→Prop) (s:St) (dst:Option Tmp):Zz→Prop
 | .ret x=>flat x=true∧K (s.put dst x)
 | .panic x=>flat x=true∧Q (.panic x) s
theorem vO {X:Zz}
  (hc:QB P f args' X) (ad:mG (look s.H) args args') (hn:YQ args'=true) (hd:∀ t,dst=some t→t < N) (U:roK K Q s dst X):Xl P N f args dst s K Q:=by
 intro φ M0 D a w J r ha
 let M1:Zn:=fun x o=>MB φ (look s.H) w M0 x o∧¬ ∃ b ty l,look s.H b=some (.box ty l)∧φ b=x
 have hH:Zw φ GL w M1:=He (fun x o hm=>xn hm.1) r.hp.gm.w (fun g hg o h=>r.hp.gm.m g hg o h.1.1);have hM:∀ r o v,w.cell? ⟨r,o,none⟩=some v→¬ MM φ (look s.H) M0 r o→w.cell? ⟨r,o,none⟩=some v∧¬ MM φ GL M1 r o:=fun r o v G O=>⟨G,fun Y=>Y.elim VY (fun h4=>O h4.1.1)⟩
 have hP:=(ZP (w:=w) (w':=w) (M:=MM φ (look s.H) M0) (M':=MM φ GL M1) hM)
 have conv:∀ (xs ys:List AV) (J:List Value),mG (look s.H) xs ys→YQ ys=true→Qi φ (look s.H) w (MM φ (look s.H) M0) xs J→Qi φ GL w (MM φ GL M1) ys J:=by
  intro xs
  induction xs with
  | nil=>intro ys J G _ O; simp only [mG] at G; subst G; simpa [Qi] using O
  | cons x xs ih =>
   intro ys J G h0 O;simp only [mG] at G;obtain ⟨z,zs,rfl,Y,h4⟩:=G;simp only [YQ,Ze] at h0;simp only [Qi] at O ⊢;obtain ⟨v,Z,rfl,h5,h6⟩:=O;refine ⟨v,Z,rfl,?_,ih zs Z h4 h0.2 h6⟩;rcases Y with Y | ⟨b,off,ty,l,cs,rfl,rfl,hb,hl,G⟩
   ·exact (WE hM).1 _ _ h0.1 (JJ.1 _ _ _ Y h5)
   ·simp only [Qe] at h5 ⊢;obtain ⟨rfl,_⟩:=h5;refine ⟨φ b,off,rfl,?_⟩;obtain ⟨c0,ab,ac⟩:=r.hp.blk b _ hb;have aa:=JJ.2 _ _ _ hl ac;rw [Rj];intro j c hj;rw [List.getElem?_drop] at hj;obtain ⟨u,g1,g2⟩:=NA aa (off+j) c hj;refine ⟨u,?_,?_,Tu G aa u (List.mem_of_getElem? g1),hP.1 _ _ g2⟩
    ·rw [ZU ab]; simpa using g1
    ·rintro (h7 | h7)
     ·exact VY h7
     ·exact h7.2 ⟨b,ty,l,hb,rfl⟩
 refine (hc φ M1 w J hH (conv _ _ _ ad hn ha)).mono ?_;rintro e w' ⟨φ',r',h',⟨rfl,rfl⟩,ae,E,he⟩;obtain ⟨r,E1,X1,hC⟩:=r.lift (w'.heap.size - w.heap.size);obtain ⟨E2,X2,H2⟩:=Uy E.os E.tape E.output E.size (fun x U=>E.same x U (fun b hb=>absurd rfl hb)) r.hp hC;have r2:Q6 _ M0 N D (look s.T) (look s.H) a w':=r.keep E2 X2 H2;cases r' with
 | ret x =>
  obtain ⟨v,rfl,hv⟩:=he;exact ⟨_,s.put dst x,U.2,r2.put hd (yg.1 _ _ U.1 hv),by cases dst <;> exact E1.trans E2⟩
 | panic x =>
  obtain ⟨v,rfl,hv⟩:=he;exact ⟨_, .panic x,s,U.2,r2,E1.trans E2,v,rfl,yg.1 _ _ U.1 hv⟩
theorem QcH {H:QG} {l:List AV} {cs ds:List PV} (hb:H b=some (.box ty l)) (J:PR l (cs.map .p)) (O:Us (cs.map .p)=true) (G:ds=cs.drop off):leR H (.ptr b off) (.eptr ds) :=
 .inr ⟨b,off,ty,l,cs,rfl,by rw [G],hb,J,O⟩
theorem QcI {op:Op} {rest:List Oper} {acc:List Yg} {s0:St} {x:AV}
  (hc:QB P f args' (.ret x)) (G:ZO (look s.T) op=some (f,args)) (hb:K7 P f=true) (U:Ky N o.dst=true) (J:PR args args') (O:YQ args'=true) (Y:KS x=true) (h:K (s.put o.dst x)):mD P N ops Q o op rest acc s0 s K :=
 .inl ⟨f,args,args',x,G,hb,U,J,O,Y,hc,h⟩
attribute [go_sem] flat qj
theorem ql {P:Program} {cs:List Frame}:∀ (J:List Nat) (fr:Frame) (w:World),fr.mode ≠ .run→J.Nodup→(∀ r ∈ J,w.heap[r]?=some (.deferred (some []))) →
  fr.defers=(J.map fun r=>({ target:=.collected r,args:=#[] }:Deferred))→∃ w',UA J w w'∧Steps P (lone fr cs w) (lone { fr with defers:=[] } cs w')
 | [],fr,w,_,_,_,U=>by
  refine ⟨w,⟨rfl,rfl,rfl,rfl,fun _ _=>rfl,fun k G=>by cases G⟩,?_⟩;have:{ fr with defers:=[] }=fr:=by cases fr; simp only at U; subst U; rfl
  rw [this];exact Steps.refl _ _
 | r :: J,fr,w,Z,Y,hb,U=>by
  have h0:=hb r zq;have hlt:r < w.heap.size:=(FY.1 h0).1;have O:∀ k:Nat,(w.putObj r (.deferred none)).heap[k]?=(w.heap.setIfInBounds r (.deferred none))[k]?:=fun k=>rfl
  have h1:=step_collected (cs:=cs) Z U rfl (run_takeDeferred (P:=P) h0)
  obtain ⟨w',t,hs⟩:=ql (P:=P) (cs:=cs) J { fr with defers:=[]++(J.map fun r=>({ target:=.collected r,args:=#[] }:Deferred)) } (w.putObj r (.deferred none)) Z (List.nodup_cons.1 Y).2 (fun k G=>by
   have:r ≠ k:=fun e=>(List.nodup_cons.1 Y).1 (e ▸ G)
   rw [O,Array.getElem?_setIfInBounds_ne this];exact hb k (by simp [G])) rfl
  refine ⟨w',⟨t.os,t.tape,t.output,by rw [t.size]; simp [World.putObj],fun k G=>?_,fun k G=>?_⟩, .head h1 hs⟩
  ·simp only [List.mem_cons,not_or] at G;rw [t.same k G.2,O,Array.getElem?_setIfInBounds_ne (Ne.symm G.1)]
  ·rcases List.mem_cons.1 G with e | e
   ·subst e;rw [t.same k (List.nodup_cons.1 Y).1,O];simp [hlt]
   ·exact t.turn k e
theorem vP {args:Array Value} {u:FrameMode} {R:Ending→FrameMode→World→Prop} (hf:P.funcs[f]?=some fn) (hb:fn.body=some c)
  (h:∀ (G:Frame) (cs:List Frame),G.mode=u→c.wpS P (fun e a cs' w'=>(e=.normal∨e=.ret)∧∃ U u',a.defers=(U.map fun r=>({ target:=.collected r,args:=#[] }:Deferred))∧U.Nodup∧(∀ r ∈ U,w'.heap[r]?=some (.deferred (some []))) ∧
   cs'={ G with mode:=u' } :: cs∧∀ w'',UA U w' w''→∃ v,(results fn a.tmps).run P w''=.ok v w''∧R (.returned v) u' w'') { tmps:=args++Array.replicate (fn.ntmps - args.size) undef,defers:=[] } (G :: cs) w):CallsD P f args u w R:=by
 intro G cs hu
 let b:Frame:={ (default:Frame) with fn:=f,kind:=.deferred }
 have O:Frame.enter P f args .deferred=b.at { tmps:=args++Array.replicate (fn.ntmps - args.size) undef,defers:=[] } [.code c]:=by
  simp [Frame.enter,Frame.at,hf,hb,b]
 obtain ⟨e,a',cs',w',⟨he,U,u',hd,hn,aa,rfl,hq⟩,J⟩:=h G cs hu b [] rfl rfl;rw [← O] at J
 have fin:∀ todo,Steps P (lone (Frame.enter P f args .deferred) (G :: cs) w) (lone { b.at a' todo with mode:=.returning } ({ G with mode:=u' } :: cs) w') →
   ∃ e Y w'' fr,R e Y w''∧Comes P (lone (Frame.enter P f args .deferred) (G :: cs) w) (lone fr ({ G with mode:=Y } :: cs) w'') e∧fr.kind=.deferred∧fr.going P w'' e:=by
  intro todo hs;obtain ⟨w'',t,Z⟩:=ql (P:=P) (cs:={ G with mode:=u' } :: cs) U { b.at a' todo with mode:=.returning } w' zq hn aa hd;obtain ⟨v,hr,hR⟩:=hq w'' t;exact ⟨.returned v,u',w'',_,hR,Steps.trans hs Z,rfl,rfl,rfl,fn,hf,hr⟩
 rcases he with rfl | rfl
 ·exact fin [] (Steps.trans J (.one step_end))
 ·obtain ⟨todo,hs⟩:=J;exact fin todo hs
structure GU (P:Program) (g:FuncId) where
 fn:Func
 id:Nat
 o1:Oper
 o2:Oper
 d1:Tmp
 d2:Tmp
 ts:Array TypeId
 rest:Code
 hf:P.funcs[g]?=some fn
 hb:fn.body=some (.seq (.region id #[o1,o2] false) rest)
 hop1:o1.op=.call ⟨.builtin .recover,#[],ts⟩
 hop2:o2.op=.assign (.tmp d1)
 hg1:o1.guard=none
 hg2:o2.guard=none
 hd1:o1.dst=some d1
 hd2:o2.dst=some d2
 hlt1:d1 < fn.ntmps
 hlt2:d2 < fn.ntmps
def Qer (u u':FrameMode) (v:Value):Prop:=∀ (G:Frame) (cs:List Frame),G.mode=u→(recoverD (G :: cs)=some (v,{ G with mode:=u' } :: cs))∨(recoverD (G :: cs)=none∧v=.nilIface∧u'=u)
def CD (P:Program) (g:FuncId) (O:Array Value) (w:World) (R:Ending→World→Prop):Prop:=∀ u u' v J,O=(v :: J).toArray→Qer u u' v→CallsD P g J.toArray u w fun e G w'=>G=u'∧R e w'
def Qes (P:Program) (fn:Func) (hc:List (Nat × Blk)) (R:Zz→QG→Prop):AX→St→Prop
 | .panic _,_=>False
 | x,s=>bD P fn hc R x s
theorem bF {T:List (Nat × AV)} {d:Tmp} {x:AV} (r:Q6 φ M0 N D (look T) h a w) (J:d < N) (O:Qe φ h w (MM φ h M0) x v):Q6 φ M0 N D (look ((d,x) :: T)) h (a.put (some d) v) w:=by
 refine ⟨r.dfs,by simp [Act.put,r.siz],r.hp,fun t y G=>?_⟩;simp only [look] at G;by_cases e:d=t
 ·simp only [e,if_true,QN] at G;subst G;subst e;refine ⟨J,?_⟩;have h0:d < a.tmps.size:=by rw [r.siz]; exact J
  have:(a.put (some d) v).tmps.getD d undef=v:=by simp [Act.put,h0]
  rw [this];exact O
 ·simp only [e,if_false] at G;obtain ⟨g1,g2⟩:=r.tm t y G;refine ⟨g1,?_⟩;have:(a.put (some d) v).tmps.getD t undef=a.tmps.getD t undef:=by simp [Act.put,Array.getElem?_setIfInBounds_ne e]
  rw [this];exact g2
theorem xU (C:GU P g) {rv:AV} {caps:List AV} (hl:caps.length≤C.fn.ntmps)
  (h:Ex P C.fn.ntmps none C.rest ⟨(C.d2,rv) :: (C.d1,rv) :: YR 0 caps,hc⟩ (Qes P C.fn hc R)) :
  ∀ φ M0 w vs,Zw φ (look hc) w M0→Qi φ (look hc) w (MM φ (look hc) M0) (rv :: caps) vs→CD P g vs.toArray w (Out R φ (look hc) w M0):=by
 intro φ M0 w vs hH ha u u' v vl ak ac;simp only [Qi] at ha;obtain ⟨y,ys,rfl,ah,hcaps⟩:=ha
 have ae:y=v∧ys=vl:=by
  have:=congrArg Array.toList ak;simpa using this
 obtain ⟨rfl,rfl⟩:=ae;refine vP C.hf C.hb fun c0 cs hm=>wpS_seq (wpS_region ?_)
 have Z:List.range (#[C.o1,C.o2]:Array Oper).size=[0,1]:=rfl;rw [Z];have af:∀ y,Region.wanted C.o1 y=true:=fun y=>by simp [Region.wanted,C.hg1]
 have ao:∀ y,Region.wanted C.o2 y=true:=fun y=>by simp [Region.wanted,C.hg2]
 have Y:∀ (a:Act) (w:World),(execOp a.eval C.o1).run P w=.ok .recover w:=fun a w=>by simp [execOp,C.hop1,resolve,invoke,builtin]
 have r0:=BQ hH hcaps hl;generalize ar:({ tmps:=ys.toArray++Array.replicate (C.fn.ntmps - ys.toArray.size) undef,defers:=[] }:Act)=a0 at r0;have r1:=bF (d:=C.d1) r0 C.hlt1 ah
 have aj:(a0.put C.o1.dst y).eval (.tmp C.d1)=y:=by
  have h0:C.d1 < a0.tmps.size:=by rw [r0.siz]; exact C.hlt1
  simp [Act.put,C.hd1,Act.eval,h0]
 have r2:=bF (d:=C.d2) r1 C.hlt2 ah
 have rest:∀ (U:List Frame),U={ c0 with mode:=u' } :: cs→wpOpsS P #[C.o1,C.o2] (Exit.thenS (C.rest.wpS P (fun e a cs' w'=>(e=.normal∨e=.ret)∧∃ G J,a.defers=(G.map fun r=>({ target:=.collected r,args:=#[] }:Deferred))∧G.Nodup∧(∀ r ∈ G,w'.heap[r]?=some (.deferred (some []))) ∧
   cs'={ c0 with mode:=J } :: cs∧∀ w'',UA G w' w''→∃ v,(results C.fn a.tmps).run P w''=.ok v w''∧(J=u'∧Out R φ (look hc) w M0 (.returned v) w''))) (fun e a cs' w'=>(e=.normal∨e=.ret)∧∃ G J,a.defers=(G.map fun r=>({ target:=.collected r,args:=#[] }:Deferred))∧G.Nodup∧(∀ r ∈ G,w'.heap[r]?=some (.deferred (some []))) ∧
   cs'={ c0 with mode:=J } :: cs∧∀ w'',UA G w' w''→∃ v,(results C.fn a.tmps).run P w''=.ok v w''∧(J=u'∧Out R φ (look hc) w M0 (.returned v) w''))) [1] (a0.put C.o1.dst y) U w:=by
  intro U aq;have O:(#[C.o1,C.o2]:Array Oper)[1]?=some C.o2:=rfl
  have aa:(execOp (a0.put C.o1.dst y).eval C.o2).run P w=.ok (.value y) w:=by
   generalize a0.put C.o1.dst y=A at aj;simp [execOp,C.hop2,aj]
  simp only [wpOpsS,O,ao,if_true,aa,Oper.upon];show C.rest.wpS P _ ((a0.put C.o1.dst y).put C.o2.dst y) U w;rw [C.hd1,C.hd2];refine wpS_of_wp (wpIn_wide.1 (wpIn_mono (h φ M0 _ _ w r2) ?_));rintro e a' w' ⟨φ',k,s',h1,h2,h3,h4⟩;obtain ⟨am,G,hd,al,ai⟩:=h2.dfs;have an:a'.defers=G.map fun r=>({ target:=.collected r,args:=#[] }:Deferred):=by rw [hd]; simp
  have ab:∀ r ∈ G,w'.heap[r]?=some (.deferred (some []))∧∀ b,look s'.H b ≠ none→φ' b ≠ r:=fun r hr=>(ai r hr).2
  have go:CO P C.fn hc R s'→∃ G J,a'.defers=(G.map fun r=>({ target:=.collected r,args:=#[] }:Deferred))∧G.Nodup∧(∀ r ∈ G,w'.heap[r]?=some (.deferred (some []))) ∧
    U={ c0 with mode:=J } :: cs∧∀ w'',UA G w' w''→∃ v,(results C.fn a'.tmps).run P w''=.ok v w''∧(J=u'∧Out R φ (look hc) w M0 (.returned v) w''):=by
   intro ad;refine ⟨G,u',an,al,fun r hr=>(ab r hr).1,aq,fun w'' t=>?_⟩;obtain ⟨v,g1,g2⟩:=P5 (h2.turned t ab) (h3.turned t (fun r hr=>(ai r hr).1) ab) ad;exact ⟨v,g1,rfl,g2⟩
  cases k with
  | normal =>
   simp only [JR] at h4;subst h4;exact ⟨.inl rfl,go h1⟩
  | ret =>
   simp only [JR] at h4;subst h4;exact ⟨.inr rfl,go h1⟩
  | exit i=>exact h1.elim
  | panic x=>exact h1.elim
 have O:(#[C.o1,C.o2]:Array Oper)[0]?=some C.o1:=rfl;rcases ac c0 cs hm with h1 | ⟨h1,rfl,rfl⟩
 ·rw [wpOpsS];simp only [O,af,if_true,Y,h1];exact rest _ rfl
 ·rw [wpOpsS];simp only [O,af,if_true,Y,h1];exact rest _ (by subst hm; rfl)
def DEx (P:Program) (N:Nat) (g:FuncId) (args:List AV) (s:St) (K:St→Prop):Prop :=
 ∀ φ M0 D a w G,Q6 φ M0 N D (look s.T) (look s.H) a w→Qi φ (look s.H) w (MM φ (look s.H) M0) args G→CD P g G.toArray w fun e w' =>
  match e with
  | .returned v=>∃ φ' s',K s'∧Q6 φ' M0 N D (look s'.T) (look s'.H) a w'∧QT φ (look s.H) w φ' (look s'.H) w'
  | _=>False
theorem si (ρ:Nat→Nat)
  (J:∀ φ M0 w G,Zw φ (look hc) w M0→Qi φ (look hc) w (MM φ (look hc) M0) args' G→CD P g G.toArray w (Out R φ (look hc) w M0))
  (O:PR args (Vu ρ args')) (hok:Z0 (look hc) args'=true)
  (U:∀ c ∈ hc.map (·.1),1000≤c) (Y:∀ c k,look hc c=some k→okRefB (look hc) k=true)
  (aa:∀ c k,look hc c=some k→∃ k0,look s.H (ρ c)=some k0∧leB k0 (ZM ρ k))
  (ab:∀ c ∈ hc.map (·.1),∀ d ∈ hc.map (·.1),ρ c=ρ d→c=d)
  (Z:∀ r h',R r h'→∃ hc' H2,h'=look hc'∧Fy ρ hc hc' s.H∧(∀ b,look H2 b=look (Z6 ρ hc' s.H) b) ∧
   (match r with | .ret x=>K (St.put ⟨s.T,H2⟩ none (WG ρ x)) | .panic x=>False)):DEx P N g args s K:=by
 intro φ M0 D a w G r ha;have:=Ny (C:=fun _ G w R=>CD P g G w R) (fun _ G w R R' h hq u u' v vl e hr=>(h u u' v vl e hr).mono (fun e ac w' p=>⟨p.1,hq _ _ p.2⟩)) (N:=N) (dst:=none) (K:=K) (Q:=fun _ _=>False) ρ J O hok U Y aa ab (fun t ht=>by cases ht) Z φ M0 D a w G r ha;intro u u' v vl e hr;refine (this u u' v vl e hr).mono ?_;rintro e ac w' ⟨rfl,he⟩;refine ⟨rfl,?_⟩;cases e with
 | returned v=>exact he
 | panicked c=>obtain ⟨_,x,_,hF,_,_,hx⟩:=he; exact hF
 | outgrown=>exact he
def sg (L:List (Nat × Nat)) (x:Nat):Nat:=(look L x).getD x
def sgI (L:List (Nat × Nat)) (x:Nat):Nat:=sg (L.map fun p=>(p.2,p.1)) x
def sgT (L:List (Nat × Nat)) (T:List (Nat × AV)):List (Nat × AV):=T.map fun p=>(p.1,WG (sg L) p.2)
def xV (L:List (Nat × Nat)) (H:List (Nat × Blk)):List (Nat × Blk):=H.map fun p=>(sg L p.1,ZM (sg L) p.2)
def QfJ (L:List (Nat × Nat)) (H:List (Nat × Blk)):Bool:=H.all (fun p=>sgI L (sg L p.1) == p.1)&&L.all (fun p=>Nat.blt p.1 1000&&Nat.ble 1000 p.2&&sg L p.1 == p.2&&(match look H p.1 with | some (.box _ _)=>true | _=>false))
def Rw (L:List (Nat × Nat)):List AV:=L.map fun p=>.ptr p.2 0
theorem xW (L:List (Nat × Nat)):∀ (T:List (Nat × AV)) (t:Nat),look (sgT L T) t=(look T t).map (WG (sg L))
 | [],t=>rfl
 | (k,v) :: T,t=>by
  simp only [sgT,List.map_cons,look];by_cases e:k=t
  ·simp [e]
  ·simp only [e,if_false]; exact xW L T t
structure BU (fn:Func) (g:FuncId) where
 r1:Code
 rest:Code
 id:Nat
 o1:Oper
 o2:Oper
 caps:Array Operand
 tbs:List Tmp
 tc:Tmp
 ts:Array TypeId
 hb:fn.body=some (.seq r1 (.seq (.region id #[o1,o2] false) rest))
 hop1:o1.op=.makeFunc (.func g) #[] caps
 hcaps:caps.toList=tbs.map .tmp
 hop2:o2.op=.defer ⟨.value (.tmp tc),#[],ts⟩
 hg1:o1.guard=none
 hg2:o2.guard=none
 hd1:o1.dst=some tc
 hd2:o2.dst=none
 hlt:tc < fn.ntmps
def bG (P:Program) (fn:Func) (hc:List (Nat × Blk)) (N:Nat) (g:FuncId) (caps:List AV) (R:Zz→QG→Prop):AX→St→Prop
 | .ret,s=>DEx P N g (SA :: caps) s (CO P fn hc R)
 | .normal,s=>DEx P N g (SA :: caps) s (CO P fn hc R)
 | .panic v,s=>DEx P N g (v :: caps) s (CO P fn hc R)
 | .exit _,_=>False
theorem vQ (F:BU fn g) (L:List (Nat × Nat)) (hf:P.funcs[f]?=some fn) (hl:args.length≤fn.ntmps)
  (b9:K7 P g=true)
  (h:Ex P fn.ntmps none F.r1 ⟨YR 0 args,hc⟩ (fun x s=>x=.normal∧F.tbs.map (look s.T)=L.map (fun p=>some (.ptr p.1 0))∧QfJ L s.H=true∧(∀ c k x,look s.H c=some k→k.ob=some x→(some x).map (zK (sg L))=some x) ∧
   Ex P fn.ntmps none F.rest ⟨(F.tc, .fn (.func g) [] (Rw L)) :: sgT L s.T,xV L s.H⟩ (bG P fn hc fn.ntmps g (Rw L) R))):Kw P f args (look hc) R:=by
 intro φ M0 w vs hH ha;refine TI hf F.hb ?_;refine wpIn_seq (wpIn_mono (h φ M0 _ _ w (BQ hH ha hl)) ?_);rintro e a1 w1 ⟨aa,k,s,⟨rfl,bp,bq,bj,bd⟩,r1,E1,U⟩;simp only [JR] at U;subst U;show Code.wpIn (wd none) 0 P (.seq (.region F.id #[F.o1,F.o2] false) F.rest) _ a1 w1;simp only [QfJ,Ze,List.all_eq_true,beq_iff_eq] at bq;obtain ⟨bk,ae⟩:=bq
 have hL:∀ p ∈ L,p.1 < 1000∧1000≤p.2∧∃ ty cs,look s.H p.1=some (.box ty cs):=by
  intro p hp;have:=ae p hp;obtain ⟨⟨⟨g1,g2⟩,_⟩,g3⟩:=this;refine ⟨by simpa [Nat.blt_eq] using g1,Nat.le_of_ble_eq_true g2,?_⟩;split at g3
  ·rename_i ty cs he; exact ⟨ty,cs,he⟩
  ·cases g3
 let ps:Array Value:=F.caps.map a1.eval
 have b7:ps.toList=F.tbs.map fun t=>a1.eval (.tmp t):=by simp [ps,F.hcaps,Function.comp_def]
 have bt:ps.toList=L.map fun p=>.pointer (some ⟨aa p.1,0,none⟩):=by
  rw [b7]
  have:∀ (ts:List Tmp) (L:List (Nat × Nat)),ts.map (look s.T)=L.map (fun p=>some (.ptr p.1 0))→ts.map (fun t=>a1.eval (.tmp t))=L.map fun p=>.pointer (some ⟨aa p.1,0,none⟩):=by
   intro ts
   induction ts with
   | nil=>intro L hh; cases L with
    | nil=>rfl
    | cons p L=>cases hh
   | cons t ts ih=>intro L hh; cases L with
    | nil=>cases hh
    | cons p L =>
     simp only [List.map_cons,List.cons.injEq] at hh ⊢;refine ⟨?_,ih L hh.2⟩;have:=(r1.tm t _ hh.1).2;simp only [Qe] at this;exact this.1
  exact this _ _ bp
 let d:Deferred:={ target:=.fn (.func g) ps,args:=#[] }
 let a2:Act:={ tmps:=a1.tmps.setIfInBounds F.tc (.func (.func g) #[] ps),defers:=d :: a1.defers }
 have b1:∀ Q,Code.wpIn (wd none) 0 P F.rest Q a2 w1→Code.wpIn (wd none) 0 P (.seq (.region F.id #[F.o1,F.o2] false) F.rest) Q a1 w1:=by
  intro Q hq;refine wpIn_seq (wpIn_region ?_);have aj:List.range (#[F.o1,F.o2]:Array Oper).size=[0,1]:=rfl;rw [aj];have ar:(#[F.o1,F.o2]:Array Oper)[0]?=some F.o1:=rfl;have bb:(#[F.o1,F.o2]:Array Oper)[1]?=some F.o2:=rfl;have cc:∀ y,Region.wanted F.o1 y=true:=fun y=>by simp [Region.wanted,F.hg1]
  have b8:∀ y,Region.wanted F.o2 y=true:=fun y=>by simp [Region.wanted,F.hg2]
  have a6:(execOp a1.eval F.o1).run P w1=.ok (.value (.func (.func g) #[] ps)) w1:=by simp [execOp,F.hop1,Instr.makeFunc,ps]
  have ca:(a1.put F.o1.dst (.func (.func g) #[] ps)).eval (.tmp F.tc)=.func (.func g) #[] ps:=by
   have h0:F.tc < a1.tmps.size:=by rw [r1.siz]; exact F.hlt
   simp [Act.put,F.hd1,Act.eval,h0]
  have a7:(execOp (a1.put F.o1.dst (.func (.func g) #[] ps)).eval F.o2).run P w1=.ok (.defer d) w1:=by
   simp [execOp,F.hop2,resolve,ca,Deferred.ofValue,d]
  simp only [wpOpsIn,ar,bb,cc,b8,if_true];refine ⟨fun _ _=>trivial,?_⟩;show Oper.uponIn _ _ _ _ _ _ _ (Sem.run P (execOp a1.eval F.o1) w1);rw [a6];refine ⟨fun _ _=>trivial,?_⟩;show Oper.uponIn _ _ _ _ _ _ _ (Sem.run P (execOp (a1.put F.o1.dst (.func (.func g) #[] ps)).eval F.o2) w1);rw [a7];show Code.wpIn (wd none) 0 P F.rest Q _ w1
  have:({ (a1.put F.o1.dst (.func (.func g) #[] ps)) with defers:=d :: (a1.put F.o1.dst (.func (.func g) #[] ps)).defers }:Act).put F.o2.dst undef=a2:=by
   simp [Act.put,F.hd1,F.hd2,a2]
  rw [this];exact hq
 refine b1 _ ?_
 have ai:∀ c ∈ s.H.map (·.1),sgI L (sg L c)=c:=by
  intro c hc;obtain ⟨p,hp,rfl⟩:=List.mem_map.1 hc;exact bk p hp
 have au:∀ c,1000≤c→sg L c=c:=by
  intro c hc;unfold sg;cases hq:look L c with
  | none=>rfl
  | some d =>
   have:c ∈ L.map (·.1):=Z8.1 (by rw [hq]; simp);obtain ⟨p,hp,rfl⟩:=List.mem_map.1 this;have:=(hL p hp).1;omega
 let O:Nat→Nat:=fun x=>aa (sgI L x)
 have G:∀ c,look s.H c ≠ none→O (sg L c)=aa c:=fun c hc=>by simp only [O]; rw [ai c (Z8.1 hc)]
 have ax:∀ c d,c ∈ s.H.map (·.1)→d ∈ s.H.map (·.1)→sg L c=sg L d→c=d:=fun c d hc hd he=>by rw [← ai c hc,he,ai d hd]
 have Y:∀ c k,look s.H c=some k→look (xV L s.H) (sg L c)=some (ZM (sg L) k):=by
  intro c k hk;have ch:c ∈ s.H.map (·.1):=Z8.1 (by rw [hk]; simp);unfold xV;rw [PY (fun x y U hy cj=>ax x y U (by rcases List.mem_cons.1 hy with rfl | hy; exact ch; exact hy) cj),hk];rfl
 have Z:∀ x k,look (xV L s.H) x=some k→∃ c k',look s.H c=some k'∧sg L c=x∧k=ZM (sg L) k':=by
  intro x k U;have:x ∈ (xV L s.H).map (·.1):=Z8.1 (by rw [U]; simp);simp only [xV,List.map_map,List.mem_map,Function.comp] at this;obtain ⟨q,hq,rfl⟩:=this;have cg:q.1 ∈ s.H.map (·.1):=List.mem_map_of_mem hq;obtain ⟨k',bh⟩:=Ah.1 (Z8.2 cg);rw [Y q.1 k' bh] at U;exact ⟨q.1,k',bh,rfl,(Option.some.inj U).symm⟩
 have ao:∀ x o,DJ O (look (xV L s.H)) x o→DJ aa (look s.H) x o:=by
  rintro x o ⟨y,k,g1,g2,g3⟩;obtain ⟨c,k',g4,rfl,rfl⟩:=Z y k g1;refine ⟨c,k',g4,?_,?_⟩
  ·rw [← G c (by rw [g4]; simp)]; exact g2
  ·cases k' <;> exact g3
 have hM:∀ x o,MM O (look (xV L s.H)) M0 x o→MM aa (look s.H) M0 x o:=fun x o U=>U.elim (fun h=>.inl (ao x o h)) .inr
 obtain ⟨o1,o2⟩:=bC (w:=w1) (ρ:=sg L) (φ:=O) (φc:=aa) (h:=look (xV L s.H)) (hc:=look s.H) G hM Y
 have bx:Zw O (look (xV L s.H)) w1 M0:=by
  refine ⟨fun x y U hy he=>?_,fun x k U=>?_,fun x U o hm=>?_,r1.hp.lt,r1.hp.gm.sub hM⟩
  ·obtain ⟨kx,av⟩:=Ah.1 U;obtain ⟨ky,ce⟩:=Ah.1 hy;obtain ⟨c,k1,g1,rfl,_⟩:=Z x kx av;obtain ⟨c',k2,g2,rfl,_⟩:=Z y ky ce;rw [G c (by rw [g1]; simp),G c' (by rw [g2]; simp)] at he;rw [r1.hp.inj c c' (by rw [g1]; simp) (by rw [g2]; simp) he]
  ·obtain ⟨c,k',g1,rfl,rfl⟩:=Z x k U;rw [G c (by rw [g1]; simp)];have:=r1.hp.blk c k' g1;cases k' with
   | box ty cs=>obtain ⟨c0,q1,q2⟩:=this; exact ⟨c0,q1,o2 _ _ q2⟩
   | arr ty S n=>exact this
   | vec ty S es=>obtain ⟨c0,cap,q1,q2,q3,q4,q5,q6,q7⟩:=this; exact ⟨c0,cap,q1,q2,q3,q4,q5,q6,qi hM _ _ q7⟩
   | lp T nf st pd =>
    obtain ⟨tmps,d,q1,q2,q3⟩:=this;refine ⟨tmps,d,q1,q2,fun t x ht=>?_⟩;rw [Rt] at ht;cases hl:look T t with
    | none=>rw [hl] at ht; cases ht
    | some y =>
     rw [hl] at ht;cases ht;exact ⟨(q3 t y hl).1,o1 _ _ (q3 t y hl).2⟩
   | mp es =>
    obtain ⟨en,cl,q1,q2,q3⟩:=this;refine ⟨en,cl,q1,q2,?_⟩;have:=o2 _ _ q3;rw [qg] at this; exact this
   | mf es =>
    obtain ⟨en,cl,q1,q2,q3,q4⟩:=this;exact ⟨en,cl,q1,by rw [UR]; exact q2,by rw [UQ]; exact o2 _ _ q3,q4⟩
   | mg en cl es =>
    obtain ⟨q1,q2,q3,q4⟩:=this;exact ⟨q1,by rw [UR]; exact q2,by rw [UQ]; exact o2 _ _ q3,q4⟩
   | it m cl sn =>
    obtain ⟨q1,k2,q2,q3⟩:=this;exact ⟨by rw [G m (by rw [q2]; simp)]; exact q1,_,Y m _ q2,by rw [WS,q3]; rfl⟩
  ·obtain ⟨kx,av⟩:=Ah.1 U;obtain ⟨c,k1,g1,rfl,_⟩:=Z x kx av;rw [G c (by rw [g1]; simp)] at hm;exact r1.hp.fr c (by rw [g1]; simp) o hm
 have bu:QT aa (look s.H) w1 O (look (xV L s.H)) w1:=by
  have ab:∀ c k,1000≤c→look s.H c=some k→look (xV L s.H) c=some (ZM (sg L) k)∧O c=aa c:=by
   intro c k hc ad;have h1:=Y c _ ad;have h2:=G c (by rw [ad]; simp);rw [au c hc] at h1 h2;exact ⟨h1,h2⟩
  refine ⟨rfl,rfl,rfl,Nat.le_refl _,fun _ _ _=>rfl,fun _ _ _ _=>rfl,fun x o _ hm=>ao x o hm,?_,?_,?_,?_⟩
  ·intro c ty cs hc ad;obtain ⟨h1,h2⟩:=ab c _ hc ad;exact ⟨⟨Vu (sg L) cs,h1⟩,h2⟩
  ·intro t ty S n ht aw;obtain ⟨h1,h2⟩:=ab t _ ht aw;exact ⟨n,h1,Nat.le_refl _,fun _=>Yi (h2) rfl⟩
  ·intro t ty S n ht aw;obtain ⟨h1,h2⟩:=ab t _ ht aw;exact ⟨n,h1,Nat.le_refl _,fun _=>⟨h2,fun c hc=>⟨c,hc,rfl⟩⟩⟩
  ·intro c k x hc ad ho;obtain ⟨h1,h2⟩:=ab c _ hc ad;exact ⟨⟨_,h1,by rw [WS,ho]; exact bj c k x ad ho⟩,h2⟩
 have am:(L.map fun p=>AV.ptr (sg L p.1) 0)=Rw L:=List.map_congr_left fun p hp=>by rw [(ae p hp).1.2]
 have af:∀ p ∈ L,∃ ty cs,look (xV L s.H) (sg L p.1)=some (.box ty cs):=by
  intro p hp;obtain ⟨_,_,ty,cs,hb⟩:=hL p hp;exact ⟨ty,Vu (sg L) cs,Y _ _ hb⟩
 have r2:Q6 O M0 fn.ntmps ⟨d :: a1.defers,w1.heap.size⟩ (look ((F.tc, .fn (.func g) [] (L.map fun p=>.ptr (sg L p.1) 0)) :: sgT L s.T)) (look (xV L s.H)) a2 w1:=by
  refine ⟨⟨Nat.le_refl _,[],rfl,List.nodup_nil,fun r hr=>by cases hr⟩,by simp [a2,r1.siz],bx,fun t x ht=>?_⟩;simp only [look] at ht;by_cases e:F.tc=t
  ·simp only [e,if_true,QN] at ht;subst ht;refine ⟨e ▸ F.hlt,?_⟩;have h0:t < a1.tmps.size:=by rw [r1.siz]; exact e ▸ F.hlt
   have:a2.tmps.getD t undef=.func (.func g) #[] ps:=by simp [a2,e,h0]
   rw [this];simp only [Qe,Qi];refine ⟨[],ps.toList,by simp,rfl,?_⟩;rw [bt]
   have:∀ l:List (Nat × Nat),(∀ p ∈ l,p ∈ L)→Qi O (look (xV L s.H)) w1 (MM O (look (xV L s.H)) M0) (l.map fun p=>.ptr (sg L p.1) 0) (l.map fun p=>.pointer (some ⟨aa p.1,0,none⟩)):=by
    intro l
    induction l with
    | nil=>intro _; simp [Qi]
    | cons p l ih =>
     intro hh;simp only [List.map_cons,Qi];refine ⟨_,_,rfl,?_,ih fun q hq=>hh q (by simp [hq])⟩;simp only [Qe];obtain ⟨_,_,ty,cs,hb⟩:=hL p (hh p zq);exact ⟨by rw [G p.1 (by rw [hb]; simp)],af p (hh p zq)⟩
   exact this L fun p hp=>hp
  ·simp only [e,if_false] at ht;rw [xW] at ht;cases hq:look s.T t with
   | none=>rw [hq] at ht; cases ht
   | some y =>
    rw [hq] at ht;simp only [Option.map_some,QN] at ht;subst ht;obtain ⟨g1,g2⟩:=r1.tm t y hq;refine ⟨g1,?_⟩;have:a2.tmps.getD t undef=a1.tmps.getD t undef:=by simp [a2,Array.getElem?_setIfInBounds_ne e]
    rw [this];exact o1 _ _ g2
 rw [am] at r2;refine wpIn_mono (bd O M0 _ a2 w1 r2) ?_;rintro e a3 w3 ⟨J,k,s3,hq,r3,E3,U⟩;have bo:=(E1.trans bu).trans E3
 have aq:∀ w,(invoke (.fn (.func g) ps) #[]).run P w=.ok (.enter g ps) w:=fun w=>by
  simp only [invoke];rw [We b9];simp
 obtain ⟨b2,ms,hd,bz,al⟩:=r3.dfs;have ak:∀ r ∈ ms,w3.heap[r]?=some (.deferred (some []))∧∀ b,look s3.H b ≠ none→J b ≠ r:=fun r hr=>(al r hr).2
 have az:∀ ac:List Nat,a1.defers=(ac.map fun r=>({ target:=.collected r,args:=#[] }:Deferred))→∀ r ∈ ac,r < w1.heap.size:=by
  intro ac h1 r hr;obtain ⟨_,ck,h2,_,h3⟩:=r1.dfs
  have e:ac=ck:=by
   rw [h1] at h2;simp only [List.append_nil] at h2;exact BS h2
  rw [e] at hr;exact (FY.1 (h3 r hr).2.1).1
 have b6:Marks J ⟨[],w.heap.size⟩ (look s3.H) a1 w3:=(r1.dfs.keep bu).keep E3
 have ba:Qi J (look s3.H) w3 (MM J (look s3.H) M0) (Rw L) ps.toList:=by
  rw [bt]
  have:∀ l:List (Nat × Nat),(∀ p ∈ l,p ∈ L)→Qi J (look s3.H) w3 (MM J (look s3.H) M0) (Rw l) (l.map fun p=>.pointer (some ⟨aa p.1,0,none⟩)):=by
   intro l
   induction l with
   | nil=>intro _; simp [Rw,Qi]
   | cons p l ih =>
    intro hh;have hp:=hh p zq;simp only [Rw,List.map_cons,Qi];refine ⟨_,_,rfl,?_,ih fun q hq=>hh q (by simp [hq])⟩;simp only [Qe];obtain ⟨_,bc,ty,cs,hb⟩:=hL p hp;obtain ⟨Vs,cm,bv⟩:=af p hp;rw [(ae p hp).1.2] at bv;obtain ⟨⟨bw,cd⟩,bg⟩:=E3.kb p.2 Vs _ bc bv;refine ⟨?_,Vs,bw,cd⟩;rw [bg,← (ae p hp).1.2,G p.1 (by rw [hb]; simp)]
  exact this L fun p hp=>hp
 have go:∀ (u u':FrameMode) (rv:AV),u ≠ .run→settle u'=.returning→DEx P fn.ntmps g (rv :: Rw L) s3 (CO P fn hc R) →
   (∀ w',UA ms w3 w'→∃ v,Qe J (look s3.H) w' (MM J (look s3.H) M0) rv v∧Qer u u' v) →
   WR P fn a3.tmps (Out R φ (look hc) w M0) a3.defers u w3:=by
  intro u u' rv hu bf a8 bl;rw [hd];refine Ro hu _ ms w3 bz (fun r hr=>(al r hr).2.1) fun w4 t=>?_
  have r4:=r3.turned t ak;have E4:=bo.turned t (fun r hr=>Nat.le_trans E1.size (al r hr).1) ak;obtain ⟨v,hv,hm⟩:=bl w4 t
  have ay:Qi J (look s3.H) w4 (MM J (look s3.H) M0) (rv :: Rw L) (v :: ps.toList):=by
   simp only [Qi];refine ⟨v,ps.toList,rfl,hv,?_⟩
   have:∀ (xs:List AV) (l:List Value),Qi J (look s3.H) w3 (MM J (look s3.H) M0) xs l→Qi J (look s3.H) w4 (MM J (look s3.H) M0) xs l:=by
    intro xs
    induction xs with
    | nil=>intro l hl; simpa [Qi] using hl
    | cons x xs ih =>
     intro l hl;simp only [Qi] at hl ⊢;obtain ⟨y,ys,rfl,h1,h2⟩:=hl;exact ⟨y,ys,rfl,Ld t ak _ _ h1,ih _ h2⟩
   exact this _ _ ba
  have be:=a8 J M0 _ _ w4 (v :: ps.toList) r4 ay u u' v ps.toList rfl hm;rw [Array.toArray_toList] at be;refine ⟨hu, .inr ⟨.func g,ps,g,ps,rfl,aq w4,be.mono ?_⟩⟩;rintro e b5 w5 ⟨rfl,he⟩;cases e with
  | panicked c=>exact he.elim
  | outgrown=>exact he.elim
  | returned x =>
  obtain ⟨br,s5,g1,g2,g3⟩:=he;show WR P fn a3.tmps (Out R φ (look hc) w M0) a1.defers (settle b5) w5;rw [bf];obtain ⟨_,ac,hd1,bi,an⟩:=b6;have bn:a1.defers=(ac.map fun r=>({ target:=.collected r,args:=#[] }:Deferred))++[]:=hd1
  have ah:∀ r ∈ ac,w5.heap[r]?=some (.deferred (some []))∧∀ b,look s5.H b ≠ none→br b ≠ r:=by
   intro r hr;have h3:=an r hr
   have bm:r ∉ ms:=fun U=>by
    have h6:w1.heap.size≤r:=(al r U).1;have h7:=az ac (by simpa using hd1) r hr;omega
   have h4:w4.heap[r]?=some (.deferred (some [])):=by rw [t.same r bm]; exact h3.2.1
   have hlt:r < w4.heap.size:=(FY.1 h4).1;refine ⟨(g3.same r hlt h3.2.2).trans h4,fun b hb e=>?_⟩;cases hk:look s5.H b with
   | none=>exact hb hk
   | some k =>
    obtain ⟨o,ho⟩:=BB (φ:=br) hk;rw [e] at ho;obtain ⟨b0,k0,b3,b4,_⟩:=g3.mu r o hlt ho;exact h3.2.2 b0 (by rw [b3]; simp) b4
  rw [bn];refine Ro zq _ ac w5 bi (fun r hr=>(ah r hr).1) fun w6 t6=>?_
  have r6:=g2.turned t6 ah;have E6:=(E4.trans g3).turned t6 (fun r hr=>(an r hr).1) ah;obtain ⟨y,q1,q2⟩:=P5 r6 E6 g1;exact ⟨y,q1,q2⟩
 cases k with
 | normal =>
  simp only [JR] at U;subst U;exact go .returning .returning SA zq rfl hq fun w' t=>⟨.nilIface,by simp [SA,Qe,QH],fun c0 cs hm=>.inr ⟨by simp [recoverD,hm],rfl,rfl⟩⟩
 | ret =>
  simp only [JR] at U;subst U;exact go .returning .returning SA zq rfl hq fun w' t=>⟨.nilIface,by simp [SA,Qe,QH],fun c0 cs hm=>.inr ⟨by simp [recoverD,hm],rfl,rfl⟩⟩
 | exit i=>exact hq.elim
 | panic x =>
  obtain ⟨v,rfl,hv⟩:=U;refine go (.panicking [{ v:=v,recovered:=false }]) (.panicking [{ v:=v,recovered:=true }]) x zq rfl hq fun w' t=>⟨v,?_,fun c0 cs hm=>.inl (by simp [recoverD,hm])⟩
  exact Ld t ak _ _ hv
theorem Qc {a b:α} (h:a=b:=by kernel_rfl):a=b:=h
theorem QE {f g:α→β} (h:∀ x,f x=g x:=by intro _; kernel_rfl):∀ x,f x=g x:=h
def Yx (cs:List PV):List AV:=cs.map .p
def ag (cs:List PV):AV:=.agg (cs.map .p)
inductive Conv where
 | id
 | sl (S:Nat)
 | vn
 | agg (l:List Conv)
mutual
def cv:Conv→AV→AV
 | .sl _, .tsl S es _=>.p (.sl S es)
 | .sl S, .p (.val (.slice none 0 0))=>.p (.sl S [])
 | .vn, .p (.val (.slice none 0 0))=>.vnil
 | .sl S, .vnil=>.p (.sl S [])
 | .agg cs, .agg xs=>.agg (qm cs xs)
 | .agg cs, .tup xs=>.tup (qm cs xs)
 | _,x=>x
def qm:List Conv→List AV→List AV
 | _,[]=>[]
 | [],x :: xs=>x :: xs
 | c :: cs,x :: xs=>cv c x :: qm cs xs
end
theorem Qak:∀ n:Nat,(∀ (x:AV),SizeOf.sizeOf x≤n→∀ c,le x (cv c x))∧(∀ (xs:List AV),SizeOf.sizeOf xs≤n→∀ cs,PR xs (qm cs xs)):=by
 intro n
 induction n with
 | zero =>
  refine ⟨fun x G=>?_,fun es G=>?_⟩
  ·cases x <;> simp at G
  ·cases es <;> simp at G
 | succ n O =>
  obtain ⟨J,i2⟩:=O;refine ⟨fun x G c=>?_,fun xs G cs=>?_⟩
  ·unfold cv;split
   ·simp [le]
   ·simp [le]
   ·simp [le]
   ·simp [le]
   ·rename_i cs xs;simp only [le];simp at G;exact ⟨_,rfl,i2 xs zo cs⟩
   ·rename_i cs xs;simp only [le];simp at G;exact ⟨_,rfl,i2 xs zo cs⟩
   ·exact le_refl x
  ·cases xs with
   | nil=>simp [qm,PR]
   | cons x xs =>
    simp at G;cases cs with
    | nil=>simp only [qm]; exact xJ _
    | cons c cs=>simp only [qm,PR]; exact ⟨_,_,rfl,J x zo c,i2 xs zo cs⟩
theorem yj (c:Conv) (x:AV):le x (cv c x):=(Qak (SizeOf.sizeOf x)).1 x (Nat.le_refl _) c
theorem UT (cs:List Conv) (xs:List AV):PR xs (qm cs xs):=(Qak (SizeOf.sizeOf xs)).2 xs (Nat.le_refl _) cs
def QfK (C:List (Nat × Conv)) (t:Nat):Conv:=(look C t).getD .id
def qo (C:List (Nat × Conv)) (T:List (Nat × AV)):List Nat→List (Nat × AV)
 | []=>[]
 | t :: L=>match look T t with | some x=>(t,cv (QfK C t) x) :: qo C T L | none=>qo C T L
def cvB (cs:List Conv):Blk→Blk
 | .box ty xs=>.box ty (qm cs xs)
 | k=>k
def KW (C:List (Nat × List Conv)) (H:List (Nat × Blk)):List Nat→List (Nat × Blk)
 | []=>[]
 | b :: L=>match look H b with | some k=>(b,cvB ((look C b).getD []) k) :: KW C H L | none=>KW C H L
structure FZ where
 ts:List Nat
 bs:List Nat
 ct:List (Nat × Conv):=[]
 cb:List (Nat × List Conv):=[]
def shr (K:FZ) (s:St):St:=⟨qo K.ct s.T K.ts,KW K.cb s.H K.bs⟩
def okT (h:QG):List (Nat × AV)→Bool
 | []=>true
 | (_,x) :: l=>ZW h x&&okT h l
def lQ (h:QG):List (Nat × Blk)→Bool
 | []=>true
 | (_,k) :: l=>okRefB h k&&lQ h l
def Qal (s s':St):Bool:=okT (look s'.H) s'.T&&lQ (look s'.H) s'.H&&KU (look s'.H) s.H
def LF (K:FZ) (s:St):Option St:=if Qal s (shr K s) then some (shr K s) else none
theorem Qam (cs:List Conv) (k:Blk):leB k (cvB cs k):=by
 cases k with
 | box ty xs=>exact ⟨_,rfl,UT cs xs⟩
 | arr ty S n=>rfl
 | vec ty S es=>rfl
 | lp T nf st pd=>rfl
 | mp es=>rfl
 | mf es=>rfl
 | mg O G es=>rfl
 | it m G J=>rfl
theorem GV {T:List (Nat × AV)} {h':QG} {C:List (Nat × Conv)}:∀ {L:List Nat},okT h' (qo C T L)=true→qf (look T) h' (qo C T L)
 | [],_=>by simp [qo,qf]
 | t :: L,h=>by
  simp only [qo] at h ⊢;cases ht:look T t with
  | none=>simp only [ht] at h ⊢; exact GV h
  | some x =>
   simp only [ht,okT,Ze] at h ⊢;simp only [qf,ht,leO];exact ⟨yj _ _,h.1,GV h.2⟩
theorem Y1 {H:List (Nat × Blk)} {h':QG} {C:List (Nat × List Conv)}:∀ {L:List Nat},lQ h' (KW C H L)=true→MH (look H) h' (KW C H L)
 | [],_=>by simp [KW,MH]
 | b :: L,h=>by
  simp only [KW] at h ⊢;cases hb:look H b with
  | none=>simp only [hb] at h ⊢; exact Y1 h
  | some k =>
   simp only [hb,lQ,Ze] at h ⊢;simp only [MH,hb,QfF];exact ⟨Qam _ _,h.1,Y1 h.2⟩
theorem QcJ {K:FZ} (h:LF K s=some s') (r:Q6 φ M0 N D (look s.T) (look s.H) a w):Q6 φ M0 N D (look s'.T) (look s'.H) a w∧QT φ (look s.H) w φ (look s'.H) w:=by
 unfold LF at h;split at h
 ·rename_i hok;simp only [QN] at h;subst h;simp only [Qal,Ze] at hok;exact xK (GV hok.1.1) (Y1 hok.1.2) hok.2 r
 ·cases h
theorem Hl {K:FZ} (h:LF K s=some s'):Weak N s s':=by
 unfold LF at h;split at h
 ·rename_i hok;simp only [QN] at h;subst h;simp only [Qal,Ze] at hok;exact Qae (GV hok.1.1) (Y1 hok.1.2) hok.2
 ·cases h
structure QO {R:Type} (o:Option R) (P:Program) (N:Nat) (ro:Option Nat) (c:Code) (s:St) (Q:R→AX→St→Prop):Prop where
 intro ::
 h:∀ r,o=some r→Ex P N ro c s (Q r)
structure Zt {R:Type} (o:Option R) (Q:R→AX→St→Prop) (x:AX) (s:St):Prop where
 intro ::
 h:∀ r,o=some r→Q r x s
def sj {R:Type} (P:Program) (N:Nat) (ro:Option Nat) (y:Code) (Q:R→AX→St→Prop):R→AX→St→Prop:=fun r=>andThen (fun s'=>Ex P N ro y s' (Q r)) (Q r)
def xX {R:Type} (id:Nat) (Q:R→AX→St→Prop):R→AX→St→Prop:=fun r=>inBlock id (Q r)
def kQ {V R:Type} (N:Nat) (k:V→Option R) (S:V→St) (Q:R→AX→St→Prop):R→AX→St→Prop:=fun r=>andThen (fun s'=>∃ v,k v=some r∧Weak N s' (S v)) (Q r)
def Qan {V:Type} (N:Nat) (S:V→St):V→AX→St→Prop:=fun v x s'=>x=.normal∧Weak N s' (S v)
section
variable {R V:Type} {o o1 o2:Option R} {P:Program} {N:Nat} {ro:Option Nat} {x y c:Code} {s s':St} {Q:R→AX→St→Prop}
theorem sS (h:QO o P N ro x s (sj P N ro y Q)):QO o P N ro (.seq x y) s Q:=⟨fun r G=>y7 (h.h r G)⟩
theorem sK (h:Zt o Q .normal s):QO o P N ro .skip s Q:=⟨fun r G=>Qcj (h.h r G)⟩
theorem su {l:Nat} (h:Zt o Q .normal s):QO o P N ro (.label l) s Q:=⟨fun r G=>iA (h.h r G)⟩
theorem sT (h:Zt o Q .ret s):QO o P N ro .ret s Q:=⟨fun r G=>Qfy (h.h r G)⟩
theorem Qq (h:Zt o Q (.exit id) s):QO o P N ro (.exit id) s Q:=⟨fun r G=>Qck (h.h r G)⟩
theorem sB (h:QO o P N ro c s (xX id Q)):QO o P N ro (.block id c) s Q:=⟨fun r G=>iB (h.h r G)⟩
theorem sw (h:QO o P N ro c s Q):QO o P N ro (.scope c) s Q:=⟨fun r G=>iC (h.h r G)⟩
theorem Kz (J:Weak N s s') (h:QO o P N ro c s' Q):QO o P N ro c s Q:=⟨fun r G=>Tq J (h.h r G)⟩
theorem sP (K:FZ) (s':St) (J:LF K s=some s') (h:QO o P N ro c s' Q):QO o P N ro c s Q:=⟨fun r G=>Tq (Hl J) (h.h r G)⟩
theorem sC {a:Operand} (b:Bool)  (J:QO o1 P N ro x s Q) (O:QO o2 P N ro y s Q)(hb:Za (look s.T) a=some (.p (.val (.bool b))):=by kernel_rfl):QO (cond b o1 o2) P N ro (.cond a x y) s Q:=by
 refine ⟨fun r G=>?_⟩;refine y8 b hb (fun e=>?_) (fun e=>?_)
 ·subst e; exact J.h r G
 ·subst e; exact O.h r G
theorem ZQ {a:Operand}  (J:QO o P N ro x s Q)(hb:Za (look s.T) a=some (.p (.val (.bool true))):=by kernel_rfl):QO o P N ro (.cond a x y) s Q:=⟨fun r G=>y8 true hb (fun _=>J.h r G) (fun e=>by cases e)⟩
theorem QW {a:Operand}  (J:QO o P N ro y s Q)(hb:Za (look s.T) a=some (.p (.val (.bool false))):=by kernel_rfl):QO o P N ro (.cond a x y) s Q:=⟨fun r G=>y8 false hb (fun e=>by cases e) (fun _=>J.h r G)⟩
theorem sN (K:FZ) (s':St) (J:LF K s=some s') (h:QO o P N ro y s' Q):Zt o (sj P N ro y Q) .normal s:=⟨fun r G=>(sP (Q:=Q) K s' J h).h r G⟩
theorem QA (h:Zt o Q .ret s):Zt o (sj P N ro y Q) .ret s:=⟨fun r G=>h.h r G⟩
theorem ZR (h:Zt o Q (.exit i) s):Zt o (sj P N ro y Q) (.exit i) s:=⟨fun r G=>h.h r G⟩
theorem Uf (h:Zt o Q (.panic p) s):Zt o (sj P N ro y Q) (.panic p) s:=⟨fun r G=>h.h r G⟩
theorem QR (h:Zt o Q .normal s):Zt o (xX id Q) .normal s:=⟨fun r G=>h.h r G⟩
theorem Q4 (h:Zt o Q .ret s):Zt o (xX id Q) .ret s:=⟨fun r G=>h.h r G⟩
theorem SB (h:Zt o Q (.panic p) s):Zt o (xX id Q) (.panic p) s:=⟨fun r G=>h.h r G⟩
theorem QL (h:Zt o Q .normal s):Zt o (xX id Q) (.exit id) s:=by
 refine ⟨fun r G=>?_⟩;have:=h.h r G;simp only [xX,inBlock,if_true]; exact this
theorem vR (hi:(i == id)=false) (h:Zt o Q (.exit i) s):Zt o (xX id Q) (.exit i) s:=by
 refine ⟨fun r G=>?_⟩;have:=h.h r G;have hne:¬ i=id:=by simpa using hi
 simp only [xX,inBlock,hne,if_false]; exact this
theorem Qjs {k:V→Option R} {S:V→St} (v:V) (K:FZ) (J:LF K s=some (S v)):Zt (k v) (kQ N k S Q) .normal s:=⟨fun r G=>⟨v,G,Hl J⟩⟩
theorem VX {k:V→Option R} {S:V→St} (h:Zt o Q .ret s):Zt o (kQ N k S Q) .ret s:=⟨fun r G=>h.h r G⟩
theorem Yp {k:V→Option R} {S:V→St} (h:Zt o Q (.exit i) s):Zt o (kQ N k S Q) (.exit i) s:=⟨fun r G=>h.h r G⟩
theorem Ga {k:V→Option R} {S:V→St} (h:Zt o Q (.panic p) s):Zt o (kQ N k S Q) (.panic p) s:=⟨fun r G=>h.h r G⟩
theorem Qao {S:V→St} (v:V) (K:FZ) (J:LF K s=some (S v)):Zt (some v) (Qan N S) .normal s:=⟨fun r G=>by cases G; exact ⟨rfl,Hl J⟩⟩
theorem Qjt {S:V→St} (v:V) (J:Weak N s (S v)):Zt (some v) (Qan N S) .normal s:=⟨fun r G=>by cases G; exact ⟨rfl,J⟩⟩
theorem K4 (S:V→St) (k:V→Option R) (Y:∀ v,QO (k v) P N ro y (S v) Q) (Z:QO o P N ro x s (kQ N k S Q)):QO o P N ro (.seq x y) s Q:=by
 refine ⟨fun r J=>?_⟩;refine y7 (y5 (Z.h r J) ?_);intro e s' G;cases e with
 | normal=>obtain ⟨v,O,U⟩:=G; exact Tq U ((Y v).h r O)
 | exit i=>exact G
 | ret=>exact G
 | panic p=>exact G
theorem KI (S:V→St) {m:Option V} {k:V→Option R} (Z:QO m P N ro x s (Qan N S)) (Y:∀ v,QO (k v) P N ro y (S v) Q):QO (m.bind k) P N ro (.seq x y) s Q:=by
 refine ⟨fun r J=>?_⟩;obtain ⟨v,O,G⟩:=Option.bind_eq_some_iff.1 J;refine y7 (y5 (Z.h v O) ?_);rintro e s' ⟨rfl,U⟩;exact Tq U ((Y v).h r G)
end
def Qo {V R:Type} (B:(V→Option R)→V→Option R):Nat→V→Option R
 | 0,_=>none
 | k+1,v=>B (Qo B k) v
theorem QF {R V:Type} {Q:R→AX→St→Prop} (S:V→St) {B:(V→Option R)→V→Option R} {v0:V} (Z:Weak N s (S v0))
  (hB:∀ rec v,QO (B rec v) P N ro c (S v) (kQ N rec S Q)):QO (Qo B n v0) P N ro (.loop c) s Q:=by
 refine ⟨fun r Y=>?_⟩;refine Tq Z (Qcl (ι:={ p:Nat × V // Qo B p.1 p.2=some r }) (fun p=>S p.1.2) (fun p=>p.1.1) ⟨(n,v0),Y⟩ ?_);rintro ⟨⟨k,v⟩,U⟩;cases k with
 | zero=>cases U
 | succ k =>
  refine y5 ((hB (Qo B k) v).h r U) ?_;intro e s' G;cases e with
  | normal=>obtain ⟨v',O,J⟩:=G; exact ⟨⟨(k,v'),O⟩,by simp,J⟩
  | exit i=>exact G
  | ret=>exact G
  | panic p=>exact G
def plain:Op→Bool
 | .pick _ _ _=>false
 | .panic _=>false
 | .call ⟨.value _,_,_⟩=>false
 | _=>true
theorem MX {op:Op} (h:plain op=true):yieldOf T op=none:=by
 unfold yieldOf;split
 ·simp [plain] at h
 ·rfl
def XR (P:Program) (N:Nat) (ops:Array Oper) (Q:AX→St→Prop) (d:Option (List Yg)) (l:List Oper) (s:St):Prop :=
 match d with
 | none=>KT P N ops Q l s
 | some acc=>Ki P N ops Q l acc s
def qp (u:Xe):Yg:=(u.2.1.map (·.1),u.2.2)
def more (d:Option (List Yg)) (f:Yg):Option (List Yg):=d.map (f :: ·)
def nxt (ops:Array Oper) (o:Oper) (s:St) (u:Xe):St:=XK ⟨Zb ops o s.T true,s.H⟩ o.dst u
def mk (ops:Array Oper) (o:Oper) (s:St) (b:Bool):St:=⟨Zb ops o s.T b,s.H⟩
section
variable {P:Program} {N:Nat} {ops:Array Oper} {o:Oper} {l:List Oper} {d:Option (List Yg)} {s:St} {Q:AX→St→Prop}
theorem BV (J:ZA ops o (look s.T)=some true) (hp:plain o.op=true) (hu:WW P o (look (Zb ops o s.T true)) (look s.H)=some u) (O:Ky N o.dst=true)
  (h:XR P N ops Q (more d (qp u)) l (nxt ops o s u)):XR P N ops Q d (o :: l) s:=by
 cases d with
 | none =>
  show KT P N ops Q (o :: l) s;simp only [KT,J,ZB,MX hp];show XP P N o _ _ _;unfold XP;split
  ·rename_i G; rw [G] at hp; cases hp
  ·rename_i G; rw [G] at hp; cases hp
  ·rename_i G; rw [G] at hp; cases hp
  ·rw [hu]; exact .inl ⟨O,h⟩
 | some acc =>
  show Ki P N ops Q (o :: l) acc s;simp only [Ki,J,ZB];split
  ·rename_i G; rw [G] at hp; cases hp
  ·rename_i G; rw [G] at hp; cases hp
  ·rename_i G; rw [G] at hp; cases hp
  ·rw [hu]; exact .inl ⟨O,h⟩
theorem xY (J:ZA ops o (look s.T)=some false) (G:Ky N o.dst=true) (h:XR P N ops Q (more d (none,[])) l (St.put (mk ops o s false) o.dst (.p (.val undef)))):XR P N ops Q d (o :: l) s:=by
 cases d with
 | none =>
  show KT P N ops Q (o :: l) s;simp only [KT,J,Gw];exact ⟨G,h⟩
 | some acc =>
  show Ki P N ops Q (o :: l) acc s;simp only [Ki,J,Gw];exact ⟨G,h⟩
theorem bH {c:Operand} (U:ZA ops o (look s.T)=some true) (O:o.op=.pick c x y) (b:Bool) (hc:Za (look (Zb ops o s.T true)) c=some (.p (.val (.bool b)))) {v:AV}
  (Z:Za (look (Zb ops o s.T true)) (cond b x y)=some v) (G:Ky N o.dst=true) (h:XR P N ops Q (more d (none,[])) l (St.put (mk ops o s true) o.dst v)):XR P N ops Q d (o :: l) s:=by
 have J:∀ z,cond b x y=z→VM (look (Zb ops o s.T true)) z=some (v,none,[]):=by
  rintro z rfl; simp [VM,Z]
 cases d with
 | none =>
  show KT P N ops Q (o :: l) s;have Y:yieldOf (look (Zb ops o s.T true)) o.op=none:=by simp [yieldOf,O]
  simp only [KT,U,ZB,Y];show XP P N o _ _ _;unfold XP;simp only [O,hc];have e:∀ s:St,XK s o.dst (v,none,[])=St.put s o.dst v:=fun s=>by unfold XK St.put; cases o.dst <;> rfl
  cases b
  ·refine ⟨(fun h=>by cases h),fun _=>?_⟩; rw [J y rfl]; exact ⟨G,by rw [e]; exact h⟩
  ·refine ⟨fun _=>?_,fun h=>by cases h⟩; rw [J x rfl]; exact ⟨G,by rw [e]; exact h⟩
 | some acc =>
  show Ki P N ops Q (o :: l) acc s;simp only [Ki,U,ZB,O,hc];cases b
  ·refine ⟨(fun h=>by cases h),fun _=>?_⟩; rw [J y rfl]; exact ⟨G,h⟩
  ·refine ⟨fun _=>?_,fun h=>by cases h⟩; rw [J x rfl]; exact ⟨G,h⟩
end
def step1 (P:Program) (N:Nat) (ops:Array Oper) (o:Oper) (s:St):Option (St × Yg) :=
 match ZA ops o (look s.T) with
 | some true =>
  if Ky N o.dst then
   match o.op with
   | .pick c x y =>
    match Za (look (Zb ops o s.T true)) c with
    | some (.p (.val (.bool true)))=>match Za (look (Zb ops o s.T true)) x with | some v=>some (St.put (mk ops o s true) o.dst v,(none,[])) | none=>none
    | some (.p (.val (.bool false)))=>match Za (look (Zb ops o s.T true)) y with | some v=>some (St.put (mk ops o s true) o.dst v,(none,[])) | none=>none
    | _=>none
   | op=>if plain op then (match WW P o (look (Zb ops o s.T true)) (look s.H) with | some u=>some (nxt ops o s u,qp u) | none=>none) else none
  else none
 | some false=>if Ky N o.dst then some (St.put (mk ops o s false) o.dst (.p (.val undef)),(none,[])) else none
 | none=>none
def runs (P:Program) (N:Nat) (ops:Array Oper):Nat→List Oper→St→List Yg→Option (St × List Yg)
 | 0,_,s,acc=>some (s,acc)
 | _+1,[],s,acc=>none
 | k+1,o :: l,s,acc=>match step1 P N ops o s with | some (s',f)=>runs P N ops k l s' (f :: acc) | none=>none
def qw (P:Program) (N:Nat) (ops:Array Oper):List Oper→St→List Yg→Option (St × List Yg)
 | [],s,acc=>some (s,acc)
 | o :: l,s,acc=>match step1 P N ops o s with | some (s',f)=>qw P N ops l s' (f :: acc) | none=>none
def TJ (P:Program) (N:Nat) (ops:Array Oper) (draw:Bool) (s:St):Option St :=
 match qw P N ops ops.toList s [] with
 | some (s',acc)=>if draw then (if ZY ops acc.reverse&&UO ops then some s' else none) else some s'
 | none=>none
section
variable {P:Program} {N:Nat} {ops:Array Oper} {s:St} {Q:AX→St→Prop}
theorem bI {l:List Oper} {d:Option (List Yg)} {f:Yg} (G:step1 P N ops o s=some (s',f)) (h:XR P N ops Q (more d f) l s'):XR P N ops Q d (o :: l) s:=by
 unfold step1 at G;split at G
 ·rename_i O;split at G
  ·rename_i J;split at G
   ·rename_i c x y Y;split at G
    ·rename_i hc;split at G
     ·rename_i v U;simp only [QN,Prod.mk.injEq] at G;obtain ⟨rfl,rfl⟩:=G;exact bH O Y true hc U J h
     ·cases G
    ·rename_i hc;split at G
     ·rename_i v U;simp only [QN,Prod.mk.injEq] at G;obtain ⟨rfl,rfl⟩:=G;exact bH O Y false hc U J h
     ·cases G
    ·cases G
   ·split at G
    ·rename_i hp;split at G
     ·rename_i u hu;simp only [QN,Prod.mk.injEq] at G;obtain ⟨rfl,rfl⟩:=G;exact BV O hp hu J h
     ·cases G
    ·cases G
  ·cases G
 ·rename_i O;split at G
  ·rename_i J;simp only [QN,Prod.mk.injEq] at G;obtain ⟨rfl,rfl⟩:=G;exact xY O J h
  ·cases G
 ·cases G
theorem SC:∀ {l:List Oper} {s:St} {acc G:List Yg} {s':St} {b:Bool},qw P N ops l s acc=some (s',G)→XR P N ops Q (if b then some G else none) [] s'→XR P N ops Q (if b then some acc else none) l s
 | [],s,acc,G,s',b,J,h=>by
  simp only [qw,QN,Prod.mk.injEq] at J;obtain ⟨rfl,rfl⟩:=J;exact h
 | o :: l,s,acc,G,s',b,J,h=>by
  simp only [qw] at J;split at J
  ·rename_i s1 f hs;refine bI hs ?_;have:=SC (b:=b) J h;cases b
   ·exact this
   ·exact this
  ·cases J
theorem IU {d:Option (List Yg)}:∀ {k:Nat} {l:List Oper} {s:St} {acc G:List Yg} {s':St},runs P N ops k l s acc=some (s',G)→(d=none∨d=some acc)→XR P N ops Q (d.map fun _=>G) (l.drop k) s'→XR P N ops Q d l s
 | 0,l,s,acc,G,s',J,O,h=>by
  simp only [runs,QN,Prod.mk.injEq] at J;obtain ⟨rfl,rfl⟩:=J;rcases O with rfl | rfl
  ·exact h
  ·exact h
 | k+1,[],s,acc,G,s',J,O,h=>by cases J
 | k+1,o :: l,s,acc,G,s',J,O,h=>by
  simp only [runs] at J;split at J
  ·rename_i s1 f hs;refine bI hs ?_;rcases O with rfl | rfl
   ·exact IU (d:=none) J (.inl rfl) h
   ·exact IU (d:=some (f :: acc)) J (.inr rfl) h
  ·cases J
theorem BX {draw:Bool} (O:P.follows .mixedOrders=true) (G:TJ P N ops draw s=some s') (h:Q .normal s'):Ex P N ro (.region id ops draw) s Q:=by
 unfold TJ at G;split at G
 ·rename_i s1 acc J;cases draw with
  | false =>
   simp only [Bool.false_eq_true,if_false,QN] at G;subst G;exact kW (SC (b:=false) J (show KT P N ops Q [] s1 from h))
  | true =>
   simp only [if_true] at G;split at G
   ·rename_i hc;simp only [Ze] at hc;simp only [QN] at G;subst G;exact bA O hc.2 (SC (b:=true) J (show Ki P N ops Q [] acc s1 from ⟨hc.1,h⟩))
   ·cases G
 ·cases G
end
def dOf (dr:Bool) (acc:List Yg):Option (List Yg):=cond dr (some acc) none
structure K8 {R:Type} (o:Option R) (P:Program) (N:Nat) (ops:Array Oper) (Q:R→AX→St→Prop) (dr:Bool) (acc:List Yg) (l:List Oper) (s:St):Prop where
 intro ::
 h:∀ r,o=some r→XR P N ops (Q r) (dOf dr acc) l s
def QfM (P:Program) (N:Nat) (ops:Array Oper) (k:Nat) (l:List Oper) (s:St):St:=match runs P N ops k l s [] with | some (s',_)=>s' | none=>s
def QfN (P:Program) (N:Nat) (ops:Array Oper) (k:Nat) (l:List Oper) (s:St) (acc:List Yg):List Yg:=match runs P N ops k l s acc with | some (_,a)=>a | none=>[]
def Qht (P:Program) (N:Nat) (ops:Array Oper) (k:Nat) (l:List Oper) (s:St):Bool:=(runs P N ops k l s []).isSome
theorem qx {P:Program} {N:Nat} {ops:Array Oper}:∀ (k:Nat) (l:List Oper) (s:St) (acc:List Yg),runs P N ops k l s acc=(runs P N ops k l s []).map fun p=>(p.1,p.2++acc)
 | 0,l,s,acc=>by simp [runs]
 | k+1,[],s,acc=>by simp [runs]
 | k+1,o :: l,s,acc=>by
  simp only [runs];cases step1 P N ops o s with
  | none=>rfl
  | some p =>
   obtain ⟨s',f⟩:=p;simp only;rw [qx k l s' (f :: acc),qx k l s' [f]];simp [Option.map_map,Function.comp_def]
theorem Rx (dr:Bool) (acc:List Yg) (f:Yg):more (dOf dr acc) f=dOf dr (f :: acc):=by cases dr <;> rfl
section
variable {R V:Type} {a a1 a2:Option R} {P:Program} {N:Nat} {ro:Option Nat} {ops:Array Oper} {o:Oper} {l:List Oper} {dr:Bool} {acc:List Yg} {s s':St} {Q:R→AX→St→Prop} {y:Code} {id:Nat} {draw:Bool}
theorem sR (Y:P.follows .mixedOrders=true) (K:FZ) (s':St) (U:(TJ P N ops draw s).bind (LF K)=some s') (h:QO a P N ro y s' Q):QO a P N ro (.seq (.region id ops draw) y) s Q:=by
 obtain ⟨s1,J,O⟩:=Option.bind_eq_some_iff.1 U;refine ⟨fun r G=>?_⟩;exact y7 (BX Y J (Tq (Hl O) (h.h r G)))
theorem Qap (O:P.follows .mixedOrders=true) (J:TJ P N ops draw s=some s1) (h:Zt a Q .normal s1):QO a P N ro (.region id ops draw) s Q:=⟨fun r G=>BX O J (h.h r G)⟩
def Fz (P:Program) (N:Nat) (ops:Array Oper) (draw:Bool) (s:St):St:=(TJ P N ops draw s).getD s
theorem sL (J:P.follows .mixedOrders=true)  (h:Zt a Q .normal (Fz P N ops draw s))(O:(TJ P N ops draw s).isSome=true:=by kernel_rfl):QO a P N ro (.region id ops draw) s Q:=by
 obtain ⟨s1,G⟩:=Td.1 O;refine Qap J G ?_;have e:Fz P N ops draw s=s1:=by simp [Fz,G]
 rw [← e]; exact h
theorem sG (h:K8 a P N ops Q false [] ops.toList s):QO a P N ro (.region id ops false) s Q:=⟨fun r G=>kW (h.h r G)⟩
theorem CQ (O:P.follows .mixedOrders=true) (J:UO ops=true) (h:K8 a P N ops Q true [] ops.toList s):QO a P N ro (.region id ops true) s Q:=⟨fun r G=>bA O J (h.h r G)⟩
theorem xR (k:Nat)  (h:K8 a P N ops Q dr (QfN P N ops k l s acc) (l.drop k) (QfM P N ops k l s))(h1:Qht P N ops k l s=true:=by kernel_rfl):K8 a P N ops Q dr acc l s:=by
 refine ⟨fun r U=>?_⟩;obtain ⟨⟨s1,f⟩,O⟩:=Td.1 h1;have G:=h.h r U;have Z:QfM P N ops k l s=s1:=by simp [QfM,O]
 rw [Z] at G;have J:=qx (P:=P) (N:=N) (ops:=ops) k l s acc;rw [O] at J;have Y:QfN P N ops k l s acc=f++acc:=by simp [QfN,J]
 rw [Y] at G;cases dr with
 | false=>exact IU (d:=none) O (.inl rfl) G
 | true=>exact IU (d:=some acc) J (.inr rfl) G
theorem xE (h:Zt a Q .normal s):K8 a P N ops Q false acc [] s:=⟨fun r G=>h.h r G⟩
theorem BZ  (h:Zt a Q .normal s)(hc:ZY ops acc.reverse=true:=by kernel_rfl):K8 a P N ops Q true acc [] s:=⟨fun r G=>⟨hc,h.h r G⟩⟩
theorem xS (b:Bool) (G:b=true→K8 a1 P N ops Q dr acc l s) (J:b=false→K8 a2 P N ops Q dr acc l s):K8 (cond b a1 a2) P N ops Q dr acc l s:=by
 cases b
 ·exact J rfl
 ·exact G rfl
def QcK (P:Program) (ops:Array Oper) (o:Oper) (s:St):Xe:=(WW P o (look (Zb ops o s.T true)) (look s.H)).getD (.p (.val undef),none,[])
theorem xO (J:ZA ops o (look s.T)=some true) 
  (h:K8 a P N ops Q dr (qp (QcK P ops o s) :: acc) l (nxt ops o s (QcK P ops o s)))(hp:(plain o.op&&(WW P o (look (Zb ops o s.T true)) (look s.H)).isSome&&Ky N o.dst)=true:=by kernel_rfl):K8 a P N ops Q dr acc (o :: l) s:=by
 simp only [Ze] at hp;obtain ⟨u,hu⟩:=Td.1 hp.1.2;have e:QcK P ops o s=u:=by simp [QcK,hu]
 rw [e] at h;exact ⟨fun r G=>BV J hp.1.1 hu hp.2 (Rx dr acc _ ▸ h.h r G)⟩
theorem xN (O:ZA ops o (look s.T)=some false)  (h:K8 a P N ops Q dr ((none,[]) :: acc) l (St.put (mk ops o s false) o.dst (.p (.val undef))))(J:Ky N o.dst=true:=by kernel_rfl):K8 a P N ops Q dr acc (o :: l) s :=
 ⟨fun r G=>xY O J (Rx dr acc _ ▸ h.h r G)⟩
theorem Qv {b:Bool}  (J:b=true)(G:ZA ops o (look s.T)=some (b == true):=by kernel_rfl):ZA ops o (look s.T)=some true:=by rw [G,J]; rfl
theorem Qw {b:Bool}  (J:b=false)(G:ZA ops o (look s.T)=some (b == false):=by kernel_rfl):ZA ops o (look s.T)=some true:=by rw [G,J]; rfl
theorem Qx {b:Bool}  (J:b=false)(G:ZA ops o (look s.T)=some (b == true):=by kernel_rfl):ZA ops o (look s.T)=some false:=by rw [G,J]; rfl
theorem Qy {b:Bool}  (J:b=true)(G:ZA ops o (look s.T)=some (b == false):=by kernel_rfl):ZA ops o (look s.T)=some false:=by rw [G,J]; rfl
theorem xF {c:Bool}   (hu:c=true→WW P o (look (Zb ops o s.T true)) (look s.H)=some u)
  (h:K8 a P N ops Q dr (qp u :: acc) l (nxt ops o s u))(J:ZA ops o (look s.T)=some true:=by kernel_rfl)(hp:(plain o.op&&Ky N o.dst)=true:=by kernel_rfl):K8 (cond c a none) P N ops Q dr acc (o :: l) s:=by
 simp only [Ze] at hp;refine ⟨fun r G=>?_⟩;cases c with
 | false=>cases G
 | true=>exact BV J hp.1 (hu rfl) hp.2 (Rx dr acc _ ▸ h.h r G)
theorem xG {m:Option V} {k:V→Option R} {u:V→Xe}   (hu:∀ v,m=some v→WW P o (look (Zb ops o s.T true)) (look s.H)=some (u v))
  (h:∀ v,K8 (k v) P N ops Q dr (qp (u v) :: acc) l (nxt ops o s (u v)))(U:ZA ops o (look s.T)=some true:=by kernel_rfl)(hp:(plain o.op&&Ky N o.dst)=true:=by kernel_rfl):K8 (m.bind k) P N ops Q dr acc (o :: l) s:=by
 simp only [Ze] at hp;refine ⟨fun r J=>?_⟩;obtain ⟨v,O,G⟩:=Option.bind_eq_some_iff.1 J;exact BV U hp.1 (hu v O) hp.2 (Rx dr acc _ ▸ (h v).h r G)
theorem zL   (hu:WW P o (look (Zb ops o s.T true)) (look s.H)=some u)
  (h:K8 a P N ops Q dr (qp u :: acc) l (nxt ops o s u))(J:ZA ops o (look s.T)=some true:=by kernel_rfl)(hp:(plain o.op&&Ky N o.dst)=true:=by kernel_rfl):K8 a P N ops Q dr acc (o :: l) s:=by
 simp only [Ze] at hp;exact ⟨fun r G=>BV J hp.1 hu hp.2 (Rx dr acc _ ▸ h.h r G)⟩
end
structure Dv {R:Type} (a:Option R) (K:R→St→Prop) (s:St):Prop where
 intro ::
 h:∀ r,a=some r→K r s
structure NB {R:Type} (a:Option R) (P:Program) (N:Nat) (f:FuncId) (args:List AV) (dst:Option Tmp) (s:St) (K:R→St→Prop) (Q:R→AX→St→Prop):Prop where
 intro ::
 h:∀ r,a=some r→Xl P N f args dst s (K r) (Q r)
def fKr {R:Type} (P:Program) (N:Nat) (ops:Array Oper) (Q:R→AX→St→Prop) (l:List Oper):R→St→Prop:=fun r s=>XR P N ops (Q r) none l s
def fKq {R:Type} (Q:R→AX→St→Prop):R→St→Prop:=fun r s=>Q r .normal s
section
variable {R V E:Type} {a a1 a2:Option R} {P:Program} {N:Nat} {ro:Option Nat} {ops:Array Oper} {o:Oper} {l:List Oper} {dr:Bool} {acc:List Yg} {s s':St} {Q:R→AX→St→Prop} {K:R→St→Prop} {f:FuncId} {args args':List AV} {dst:Option Tmp}
theorem kr (h:K8 a P N ops Q false acc l s):Dv a (fKr P N ops Q l) s:=⟨fun r G=>h.h r G⟩
theorem VZ (h:K8 a P N ops Q false [] l s):Dv a (fKr P N ops Q l) s:=⟨fun r G=>h.h r G⟩
theorem kqn (h:Zt a Q .normal s):Dv a (fKq Q) s:=⟨fun r G=>h.h r G⟩
def CR:Op→Bool
 | .call ⟨.value _,_,_⟩=>true
 | _=>false
theorem LG {op:Op} {p:FuncId × List AV} (h:ZO T op=some p):CR op=true:=by
 unfold ZO at h;split at h
 ·rfl
 ·rfl
 ·cases h
theorem Ja {op:Op} {p:FuncId × List AV} (h:ZO T op=some p):yieldOf T op=none:=by
 unfold yieldOf;split
 ·rename_i t G ts;split
  ·rename_i b hb; simp [ZO,hb] at h
  ·rfl
 ·rfl
theorem Xy {P:Program} {N:Nat} {o:Oper} {s:St} {K:St→Prop} {Q:AX→St→Prop} {f:FuncId} {args:List AV} (hf:ZO (look s.T) o.op=some (f,args)) (hb:K7 P f=true) (h:Xl P N f args o.dst s K Q):XP P N o s K Q:=by
 unfold XP;split
 ·rename_i G; rw [G] at hf; simp [ZO] at hf
 ·rename_i G; rw [G] at hf; simp [ZO] at hf
 ·rename_i g O ts G;rw [G] at hf;rw [hf];exact ⟨hb,h⟩
 ·rename_i Y U J;have:=LG hf;unfold CR at this;split at this
  ·rename_i G; exact absurd G (J _ _ _)
  ·cases this
theorem Z9 (J:ZA ops o (look s.T)=some true) (hf:ZO (look (Zb ops o s.T true)) o.op=some (f,args)) (hb:K7 P f=true) (h:NB a P N f args o.dst (mk ops o s true) (fKr P N ops Q l) Q):K8 a P N ops Q false acc (o :: l) s:=by
 refine ⟨fun r G=>?_⟩;show KT P N ops (Q r) (o :: l) s;simp only [KT,J,ZB,Ja hf];exact Xy hf hb (h.h r G)
theorem sD (U:ZA ops o (look s.T)=some true) (hf:ZO (look (Zb ops o s.T true)) o.op=some (f,args)) (hb:(K7 P f&&J6 ops acc.length&&ZY ops acc.reverse)=true)
  (h:NB a P N f args o.dst (mk ops o s true) (fKq Q) Q):K8 a P N ops Q true acc [o] s:=by
 refine ⟨fun r J=>?_⟩;simp only [Ze] at hb;show Ki P N ops (Q r) [o] acc s;simp only [Ki,U,ZB];split
 ·rename_i G; rw [G] at hf; simp [ZO] at hf
 ·rename_i g Y ts G;exact .inr (.inl ⟨rfl,hb.1.2,hb.2,Xy hf hb.1.1 (h.h r J)⟩)
 ·rename_i G; rw [G] at hf; simp [ZO] at hf
 ·rename_i h1 O Z;have:=LG hf;unfold CR at this;split at this
  ·rename_i G; exact absurd G (O _ _ _)
  ·cases this
theorem P8 (hi:CR o.op=true) (U:ZA ops o (look s.T)=some true) (hb:(J6 ops acc.length&&ZY ops acc.reverse&&Lc ops acc.length&&xz ops s (o :: l))=true) (h:K8 a P N ops Q false [] (o :: l) s):K8 a P N ops Q true acc (o :: l) s:=by
 refine ⟨fun r O=>?_⟩;simp only [Ze] at hb;have J:KT P N ops (Q r) (o :: l) s:=h.h r O;show Ki P N ops (Q r) (o :: l) acc s;simp only [Ki,U,ZB];split
 ·rename_i G; rw [G] at hi; simp [CR] at hi
 ·exact .inr (.inr (.inl ⟨hb.1.1.1,hb.1.1.2,hb.1.2,hb.2,J⟩))
 ·rename_i G; rw [G] at hi; simp [CR] at hi
 ·rename_i J Y Z;unfold CR at hi;split at hi
  ·rename_i G; exact absurd G (Y _ _ _)
  ·cases hi
theorem xC {m:Option V} {k:V→Option R} {X:V→AV} (C:List Conv)  (hc:∀ v,m=some v→QB P f args' (.ret (X v)))
    (Z:∀ v,KS (X v)=true)
  (h:∀ v,K8 (k v) P N ops Q dr ((none,[]) :: acc) l (St.put (mk ops o s true) o.dst (X v)))(Y:ZA ops o (look s.T)=some true:=by kernel_rfl)(hf:(ZO (look (Zb ops o s.T true)) o.op).map (fun p=>(p.1,qm C p.2))=some (f,args'):=by kernel_rfl)(hb:(K7 P f&&Ky N o.dst&&YQ args')=true:=by kernel_rfl):K8 (m.bind k) P N ops Q dr acc (o :: l) s:=by
 refine ⟨fun r hr=>?_⟩;obtain ⟨v,U,O⟩:=Option.bind_eq_some_iff.1 hr;obtain ⟨⟨f0,args⟩,G,hp⟩:=GK.1 hf;simp only [Prod.mk.injEq] at hp;obtain ⟨rfl,rfl⟩:=hp;simp only [Ze] at hb;cases dr with
 | false =>
  show KT P N ops (Q r) (o :: l) s;simp only [KT,Y,ZB,Ja G];exact Xy G hb.1.1 (kV (hc v U) (UT C args) hb.2 (Z v) (ZL hb.1.2) ((h v).h r O))
 | true =>
  show Ki P N ops (Q r) (o :: l) acc s;simp only [Ki,Y,ZB];split
  ·rename_i J; rw [J] at G; simp [ZO] at G
  ·rename_i g aa ts J;rw [J] at G;exact QcI (hc v U) G hb.1.1 hb.1.2 (UT C args) hb.2 (Z v) ((h v).h r O)
  ·rename_i J; rw [J] at G; simp [ZO] at G
  ·rename_i h1 h2 h3;have:=LG G;unfold CR at this;split at this
   ·rename_i J; exact absurd J (h2 _ _ _)
   ·cases this
def zM (X:V→AV) (Y:E→AV):Except E V→Zz
 | .ok v=>.ret (X v)
 | .error e=>.panic (Y e)
theorem QfO {m:Option (Except E V)} {k:Except E V→Option R} {X:V→AV} {Y:E→AV} (C:List Conv) (hc:∀ v,m=some v→QB P f args' (zM X Y v)) (ha:qm C args=args') (hb:(Ky N dst&&YQ args')=true) (hx:∀ v,KS (X v)=true) (U:∀ e,KS (Y e)=true)
  (h:∀ v,Dv (k (.ok v)) K (s.put dst (X v))) (O:∀ e,Zt (k (.error e)) Q (.panic (Y e)) s):NB (m.bind k) P N f args dst s K Q:=by
 refine ⟨fun r Z=>?_⟩;obtain ⟨v,hv,G⟩:=Option.bind_eq_some_iff.1 Z;simp only [Ze] at hb;subst ha;have J:=hc v hv;cases v with
 | ok v=>exact kV J (UT C args) hb.2 (hx v) (ZL hb.1) ((h v).h r G)
 | error e=>exact A8 J (UT C args) hb.2 (U e) ((O e).h r G)
def F3 {E V R:Type} (k:V→Option R) (e:E→Option R):Except E V→Option R
 | .ok v=>k v
 | .error x=>e x
end
end Go.Abs
