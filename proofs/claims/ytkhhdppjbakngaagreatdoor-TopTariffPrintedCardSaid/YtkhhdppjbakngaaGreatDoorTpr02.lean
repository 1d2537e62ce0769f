/-
  A part of the proof of a statement of the seat YtkhhdppjbakngaaGreatDoor.
-/
import Derived.Test.YtkhhdppjbakngaaGreatDoorTpr01
set_option linter.unusedVariables false
namespace Go.Abs
open Go
variable {D:DB}{H:List (Nat × Blk)}{K:St→Prop}{M M' M0:Zr}{N:Nat}{P:Program}{Q:AX→St→Prop}{Q':Exit→Act→World→Prop}{R:ZB→QH→Prop}{T T':Nat→Option AV}{a:Act}{args args':List AV}{b:Nat}{body c:Code}{cf:FuncId}{d:Nat}{dst:Option Tmp}{f:FuncId}{fn:Func}{g:FuncId}{h h' h0:QH}{hc hc':List (Nat × Blk)}{i id n:Nat}{nf:Dz}{o:Oper}{off:Nat}{ok:Bool}{ops:Array Oper}{p:AV}{pd:Option Code}{ro:Option Nat}{s s' s1:St}{st:LoopState}{t ty:TypeId}{u:Xq}{v:Value}{w w' w'' w0:World}{x y:Operand}{α β:Type}{ρ φ φ' φ0:Nat→Nat}
theorem IA {x:AV}
  (hc:QC P f args' (.panic x)) (Y:Ef args args') (hn:YV args'=true) (O:KZ x=true) (hk:Q (.panic x) s):Xy P N f args dst s K Q:=by
 intro φ M0 D a w vs r ha;have hH:Zz φ Ff w (MB φ (look s.H) w M0):=Hw (fun x o hm=>uh hm) r.hp.gm.w r.hp.gm.mb;have hM:∀ r o v,w.cell? ⟨r,o,none⟩=some v→¬ MM φ (look s.H) M0 r o→w.cell? ⟨r,o,none⟩=some v∧¬ MM φ Ff (MB φ (look s.H) w M0) r o:=fun r o v G h2=>⟨G,fun Z=>Z.elim We (fun h4=>h2 h4.1)⟩
 refine (hc φ (MB φ (look s.H) w M0) w vs hH ((WR hM).2 _ _ hn (JX.2 _ _ _ Y ha))).mono ?_;rintro e w' ⟨φ',r',h',⟨rfl,rfl⟩,aa,E,v,rfl,hv⟩;have J:∀ ro o v,w'.cell? ⟨ro,o,none⟩=some v→¬ MM φ' Ff (MB φ (look s.H) w M0) ro o→w'.cell? ⟨ro,o,none⟩=some v∧¬ MM (KC φ w.heap.size (w'.heap.size - w.heap.size)) (look s.H) M0 ro o:=fun ro o v G h2=>⟨G,Oe r.hp E.size G (fun Z=>h2 (.inr Z))⟩
 obtain ⟨r,E1,X1,hC⟩:=r.lift (w'.heap.size - w.heap.size);obtain ⟨E2,X2,H2⟩:=UG E.os E.tape E.output E.size (fun x O=>E.same x O (fun b hb=>absurd rfl hb)) r.hp hC;have r2:Q8 _ M0 N D (look s.T) (look s.H) a w':=r.keep E2 X2 H2;exact ⟨_, .panic x,s,hk,r2,E1.trans E2,v,rfl,(WR J).1 _ _ O hv⟩
def ZC (ops:Array Oper) (o:Oper) (T:Nat→Option AV):Option Bool :=
 match o.guard with
 | none=>some true
 | some (j,want) =>
  match ops[j]? with
  | some G=>match G.dst with
   | some d=>match T d with
    | some (.p (.val (.bool b)))=>some (b == want)
    | some (.p (.val (.tuple _)))=>some false
    | _=>none
   | none=>some false
  | none=>some false
theorem FN (r:Q8 φ M0 N D T h a w) {t:Bool} (G:ZC ops o T=some t) :
  Region.wanted o (yielded ops a.tmps)=t:=by
 unfold ZC at G;unfold Region.wanted;split at G
 ·simp only [QO] at G; subst G; simp [*]
 ·rename_i j want hg;simp only [hg];split at G
  ·rename_i oj O;split at G
   ·rename_i d Y;split at G
    ·rename_i b hb;simp only [QO] at G;subst G;obtain ⟨Z,J⟩:=r.tm d _ hb;simp only [Qe,QI] at J;have hlt:d < a.tmps.size:=by rw [r.siz]; exact Z
     have h3:a.tmps[d]?=some (.bool b):=by
      rw [Array.getElem?_eq_getElem hlt];rw [Array.getD_eq_getD_getElem?,Array.getElem?_eq_getElem hlt] at J;simpa using J
     simp [yielded,O,Y,h3]
    ·rename_i vs hb;simp only [QO] at G;subst G;obtain ⟨Z,J⟩:=r.tm d _ hb;simp only [Qe,QI] at J;have hlt:d < a.tmps.size:=by rw [r.siz]; exact Z
     have h3:a.tmps[d]?=some (.tuple vs):=by
      rw [Array.getElem?_eq_getElem hlt];rw [Array.getD_eq_getD_getElem?,Array.getElem?_eq_getElem hlt] at J;simpa using J
     simp [yielded,O,Y,h3]
    ·cases G
   ·rename_i Y;simp only [QO] at G;subst G;simp [yielded,O,Y]
  ·rename_i O;simp only [QO] at G;subst G;simp [yielded,O]
def Zd (ops:Array Oper) (o:Oper) (T:List (Nat × AV)) (t:Bool):List (Nat × AV) :=
 match o.guard with
 | none=>T
 | some (j,want) =>
  match ops[j]? with
  | some G=>match G.dst with
   | some d=>match look T d with
    | some (.p (.val (.bool _)))=>(d, .p (.val (.bool (if t then want else !want)))) :: T
    | _=>T
   | none=>T
  | none=>T
theorem UH {T:List (Nat × AV)} {t:Bool} (G:ZC ops o (look T)=some t):look (Zd ops o T t)=look T:=by
 unfold ZC at G;unfold Zd;cases hg:o.guard with
 | none=>rfl
 | some p =>
  obtain ⟨j,want⟩:=p;simp only [hg] at G;cases hj:ops[j]? with
  | none=>simp only [hj]
  | some J =>
   simp only [hj] at G ⊢;cases hd:J.dst with
   | none=>simp only
   | some d =>
    simp only [hd] at G ⊢;split at G
    ·rename_i b hb;simp only [QO] at G;subst G;simp only [hb];funext x;simp only [look];by_cases e:d=x
     ·subst e;simp only [if_true,hb];cases b <;> cases want <;> rfl
     ·simp [e]
    ·rename_i O hb;simp only [hb]
    ·cases G
def ZO (T:Nat→Option AV):Op→Option (FuncId × List AV)
 | .call ⟨.value (.func f),args,_⟩=>match SK T args.toList with | some G=>some (f,G) | none=>none
 | .call ⟨.value (.tmp t),args,_⟩ =>
  match T t,SK T args.toList with
  | some (.fn (.func f) l m),some G=>some (f,l++G++m)
  | some (.p (.val (.func (.func f) l m))),some G=>some (f,(l.toList.map fun c=>.p (.val c))++G++(m.toList.map fun c=>.p (.val c)))
  | _,_=>none
 | _=>none
def LZ (b:Bool) (A B:Prop):Prop:=(b=true→A)∧(b=false→B)
theorem ZE (A B:Prop):LZ true A B=A:=by simp [LZ]
theorem GV (A B:Prop):LZ false A B=B:=by simp [LZ]
theorem Hy {b:Bool} {A B C:Prop} (h:LZ b A B) (G:b=true→A→C) (J:b=false→B→C):C:=by
 cases b
 ·exact J rfl (h.2 rfl)
 ·exact G rfl (h.1 rfl)
def XV (s:St) (dst:Option Tmp) (u:Xq):St:=⟨match dst with | some d=>(d,u.1) :: s.T | none=>s.T,match u.2.1 with | some G=>G :: s.H | none=>s.H⟩
def KE (N:Nat):Option Tmp→Bool
 | none=>true
 | some d=>decide (d < N)
def qw (N:Nat) (o:Oper) (s:St) (K:St→Prop):Option Xq→Prop
 | some u=>KE N o.dst=true∧K (XV s o.dst u)
 | none=>False
def Ye (P:Program) (f:FuncId):Bool:=(P.funcs[f]?).any (fun fn=>fn.body.isSome&&fn.name != "runtime.NumGoroutine")
def dE (P:Program) (N:Nat) (o:Oper) (s:St) (K:St→Prop):Prop :=
 (∀ c,o.op ≠ .defer c)∧KE N o.dst=true∧∀ φ M0 D a w,Q8 φ M0 N D (look s.T) (look s.H) a w→∃ x s',look s'.T=look s.T∧K (St.put s' o.dst x)∧Yield P o φ M0 (look s.H) a w x (look s'.H)
def X3 (P:Program) (N:Nat) (o:Oper) (s:St) (K:St→Prop) (Q:AX→St→Prop):Prop :=
 match o.op with
 | .pick c x y=>match Zc (look s.T) c with
  | some (.p (.val (.bool b)))=>LZ b (qw N o s K (VT (look s.T) x)) (qw N o s K (VT (look s.T) y))
  | _=>False
 | .panic x=>match Zc (look s.T) x with | some (.ifc t v)=>Q (.panic (.ifc t v)) s | _=>False
 | .call ⟨.value f,args,ts⟩=>match ZO (look s.T) (.call ⟨.value f,args,ts⟩) with
  | some (f,args)=>Ye P f=true∧Xy P N f args o.dst s K Q
  | none=>False
 | _=>qw N o s K (Jk P o (look s.T) (look s.H))∨dE P N o s K
def YAt (P:Program) (l:Nat) (args:Array Value) (w:World) (R:Ending→World→Prop):Prop:=YieldAt Fence.wide 0 P l args w R
def QaL (P:Program) (b:Nat) (args:List AV) (h:QH) (R:ZB→QH→Prop):Prop :=
 ∀ φ M0 w G,Zz φ h w M0→Qi φ h w (MM φ h M0) args G→YAt P (φ b) G.toArray w fun e w' =>
  ∃ φ' r h',R r h'∧Zz φ' h' w' M0∧QW φ h w φ' h' w'∧QaK φ' h' w' (MM φ' h' M0) r e
def YEx (P:Program) (N:Nat) (b:Nat) (args:List AV) (dst:Option Tmp) (s:St) (K:St→Prop) (Q:AX→St→Prop):Prop :=
 ∀ φ M0 D a w G,Q8 φ M0 N D (look s.T) (look s.H) a w→Qi φ (look s.H) w (MM φ (look s.H) M0) args G→YAt P (φ b) G.toArray w fun e w' =>
  match e with
  | .returned v=>∃ φ' s',K s'∧Q8 φ' M0 N D (look s'.T) (look s'.H) (a.put dst v) w'∧QW φ (look s.H) w φ' (look s'.H) w'
  | .panicked chain=>Post N D Q φ M0 (look s.H) w (.panic chain) a w'
  | .outgrown=>False
def yieldOf (T:Nat→Option AV):Op→Option (Nat × List AV)
 | .call ⟨.value (.tmp t),args,_⟩ =>
  match T t with
  | some (.yv b)=>match SK T args.toList with | some G=>some (b,G) | none=>none
  | _=>none
 | _=>none
def YOp (P:Program) (N:Nat) (o:Oper) (s:St) (K:St→Prop) (Q:AX→St→Prop):Option (Nat × List AV)→Prop
 | some (b,args)=>YEx P N b args o.dst s K Q
 | none=>X3 P N o s K Q
def K3 (P:Program) (N:Nat) (ops:Array Oper) (Q:AX→St→Prop):List Oper→St→Prop
 | [],s=>Q .normal s
 | o :: rest,s =>
  match ZC ops o (look s.T) with
  | some b=>LZ b (YOp P N o ⟨Zd ops o s.T true,s.H⟩ (K3 P N ops Q rest) Q (yieldOf (look (Zd ops o s.T true)) o.op)) (KE N o.dst=true∧K3 P N ops Q rest (St.put ⟨Zd ops o s.T false,s.H⟩ o.dst (.p (.val undef))))
  | none=>False
theorem ZL {d:Option Tmp} (G:KE N d=true):∀ t,d=some t→t < N:=by
 rintro t rfl;simpa [KE] using G
theorem Wq {args:Array Value} (hf:(P.funcs[f]?).any (fun fn=>fn.body.isSome&&fn.name != "runtime.NumGoroutine")=true):(callFunc f args).run P w=.ok (.enter f args) w:=by
 cases hq:P.funcs[f]? with
 | none=>simp [hq] at hf
 | some fn =>
  simp only [hq,Option.any_some,Zf,bne_iff_ne] at hf;have G:¬ fn.body=none:=by intro hb; simp [hb] at hf
  simp [callFunc,program,Sem.run,hq,G,hf.2]
theorem Oper.wp_mono2 {K K':Act→World→Prop} {Q:Exit→Act→World→Prop} (G:o.wp P a w K Q) (h:∀ a w,K a w→K' a w)
  (O:∀ e a w,Q e a w→Q' e a w):o.wp P a w K' Q':=by
 unfold Oper.wp at *;generalize (execOp a.eval o).run P w=r at *;cases r with
 | ok n w' =>
  cases n <;> simp only [Oper.upon] at G ⊢ <;>
   first
    | exact h _ _ G
    | exact Calls.mono G (fun e w'' J=>by cases e <;> first | exact h _ _ J | exact O _ _ _ J | exact ⟨_,_,O _ _ _ J.choose_spec.choose_spec⟩)
    | exact Rows.mono G (fun _ _ J=>h _ _ J)
 | halt x w'=>cases x <;> simp only [Oper.upon] at G ⊢ <;> exact O _ _ _ G
theorem NM (r:Q8 φ M0 N D T h a w) (hf:ZO T o.op=some (f,args))
  (hb:Ye P f=true):∃ Y:List Value,Qi φ h w (MM φ h M0) args Y∧(execOp a.eval o).run P w=.ok (.enter f Y.toArray) w:=by
 unfold ZO at hf;split at hf
 ·rename_i f0 G ts ho;split at hf
  ·rename_i Y J;simp only [QO,Prod.mk.injEq] at hf;obtain ⟨rfl,rfl⟩:=hf;refine ⟨G.toList.map a.eval,FI r J,?_⟩;have e1:G.map a.eval=(G.toList.map a.eval).toArray:=by apply Array.ext'; simp
   simp only [execOp,ho,resolve,Act.eval,Deferred.ofValue,Sem.run_bind,Sem.run_pure,Result.andThen_ok,invoke];rw [Wq hb];congr 2;rw [← e1];simp
  ·cases hf
 ·rename_i t G ts ho;split at hf
  ·rename_i f0 l m Y ht J;simp only [QO,Prod.mk.injEq] at hf;obtain ⟨rfl,rfl⟩:=hf;have Z:=(r.tm t _ ht).2;simp only [Qe] at Z;obtain ⟨l',m',h3,h4,h5⟩:=Z;refine ⟨l'++G.toList.map a.eval++m',Zl (Zl h4 (FI r J)) h5,?_⟩;have O:a.eval (.tmp t)=.func (.func f0) l'.toArray m'.toArray:=h3;simp only [execOp,ho,resolve,O,Deferred.ofValue,Sem.run_bind,Sem.run_pure,Result.andThen_ok,invoke];rw [Wq hb];congr 2;apply Array.ext';simp
  ·rename_i f0 l m Y ht J;simp only [QO,Prod.mk.injEq] at hf;obtain ⟨rfl,rfl⟩:=hf;have Z:=(r.tm t _ ht).2;simp only [Qe,QI] at Z;refine ⟨l.toList++G.toList.map a.eval++m.toList,Zl (Zl (FD _) (FI r J)) (FD _),?_⟩;have O:a.eval (.tmp t)=.func (.func f0) l m:=Z;simp only [execOp,ho,resolve,O,Deferred.ofValue,Sem.run_bind,Sem.run_pure,Result.andThen_ok,invoke];rw [Wq hb];congr 2;apply Array.ext';simp
  ·cases hf
 ·cases hf
theorem ui (hd:KE N o.dst=true) (Y:K (XV s o.dst u))
  (hy:Yield P o φ M0 (look s.H) a w u.1 (ap (look s.H) u.2.1)) (r:Q8 φ M0 N D (look s.T) (look s.H) a w) :
  o.wp P a w (fun a' w'=>∃ φ' s',K s'∧Q8 φ' M0 N D (look s'.T) (look s'.H) a' w'∧QW φ (look s.H) w φ' (look s'.H) w') (Post N D Q φ M0 (look s.H) w):=by
 obtain ⟨nx,v,w',φ',h1,h2,h3,h4,J,h6⟩:=hy
 have G:look (XV s o.dst u).H=ap (look s.H) u.2.1:=by
  unfold XV ap;cases hq:u.2.1 with
  | none=>rfl
  | some bk=>rfl
 have O:Q8 φ' M0 N D (look (XV s o.dst u).T) (look (XV s o.dst u).H) (a.put o.dst v) w':=by
  have Z:Q8 φ' M0 N D (look s.T) (ap (look s.H) u.2.1) a w':=r.keep J h6 h4;rw [G];have:=Q8.put (s:=⟨s.T,(XV s o.dst u).H⟩) (d:=o.dst) (x:=u.1) (v:=v) (by rw [G]; exact Z) (ZL hd) (by rw [G]; exact h3);rw [← G];cases hq:o.dst with
  | none=>rw [hq] at this; exact this
  | some d=>rw [hq] at this; exact this
 unfold Oper.wp;rw [h1];rcases h2 with rfl | ⟨rfl,rfl⟩
 ·exact ⟨φ',_,Y,O,by rw [G]; exact J⟩
 ·exact ⟨φ',_,Y,O,by rw [G]; exact J⟩
theorem QaM (h:dE P N o s K) (r:Q8 φ M0 N D (look s.T) (look s.H) a w) :
  o.wp P a w (fun a' w'=>∃ φ' s',K s'∧Q8 φ' M0 N D (look s'.T) (look s'.H) a' w'∧QW φ (look s.H) w φ' (look s'.H) w') (Post N D Q φ M0 (look s.H) w):=by
 obtain ⟨_,hd,h⟩:=h;obtain ⟨x,s1,hT,O,nx,v,w',φ',h1,h2,h3,h4,G,h6⟩:=h φ M0 D a w r;have Z:Q8 φ' M0 N D (look s1.T) (look s1.H) a w':=by rw [hT]; exact r.keep G h6 h4
 have J:Q8 φ' M0 N D (look (s1.put o.dst x).T) (look (s1.put o.dst x).H) (a.put o.dst v) w':=Q8.put (s:=s1) (d:=o.dst) (x:=x) (v:=v) Z (ZL hd) h3;have Y:(s1.put o.dst x).H=s1.H:=by cases hq:o.dst <;> rfl
 unfold Oper.wp;rw [h1];rcases h2 with rfl | ⟨rfl,rfl⟩
 ·exact ⟨φ',_,O,J,by rw [Y]; exact G⟩
 ·exact ⟨φ',_,O,J,by rw [Y]; exact G⟩
theorem ME (h:X3 P N o s K Q) (r:Q8 φ M0 N D (look s.T) (look s.H) a w) :
  o.wp P a w (fun a' w'=>∃ φ' s',K s'∧Q8 φ' M0 N D (look s'.T) (look s'.H) a' w'∧QW φ (look s.H) w φ' (look s'.H) w') (Post N D Q φ M0 (look s.H) w):=by
 unfold X3 at h;split at h
 ·rename_i c x y Y;split at h
  ·rename_i b hc
   have G:∀ z,qw N o s K (VT (look s.T) z)→Nh (look s.T) c x y=VT (look s.T) z →
     o.wp P a w (fun a' w'=>∃ φ' s',K s'∧Q8 φ' M0 N D (look s'.T) (look s'.H) a' w'∧QW φ (look s.H) w φ' (look s'.H) w') (Post N D Q φ M0 (look s.H) w):=by
    intro z J hp;cases hm:VT (look s.T) z with
    | none=>rw [hm] at J; exact J.elim
    | some u =>
     rw [hm] at J hp;have:=bY (P:=P) r Y hp;exact ui J.1 J.2 (by rw [this.1]; exact this.2.2) r
   refine Hy h (fun hb J=>G x J ?_) (fun hb J=>G y J ?_)
   ·subst hb; simp [Nh,hc]
   ·subst hb; simp [Nh,hc]
  ·exact h.elim
 ·rename_i y Y;split at h
  ·rename_i t v hv;have h2:=r.ev hv;have Z:=h2;simp only [Qe] at Z;obtain ⟨z,h3,h4⟩:=Z;unfold Oper.wp
   have:(execOp a.eval o).run P w=.halt (.panic (a.eval y)) w:=by
    simp [execOp,Y,h3,Instr.panic,goPanic]
   rw [this];exact ⟨φ, .panic (.ifc t v),s,h,r,QW.refl _ _ _,_,rfl,h2⟩
  ·exact h.elim
 ·rename_i f aa ts Y;split at h
  ·rename_i f0 args hf;obtain ⟨hb,O⟩:=h;obtain ⟨vs,h1,h2⟩:=NM (o:=o) r (by rw [Y]; exact hf) hb;unfold Oper.wp;rw [h2];simp only [Oper.upon];refine (O φ M0 D a w vs r h1).mono ?_;intro e w' he;cases e with
   | returned v=>exact he
   | panicked chain=>exact he
   | outgrown=>exact he.elim
  ·exact h.elim
 ·rcases h with h | h
  ·cases hu:Jk P o (look s.T) (look s.H) with
   | none=>rw [hu] at h; exact h.elim
   | some u=>rw [hu] at h; exact ui h.1 h.2 (QaJ r hu) r
  ·exact QaM h r
theorem Qe9 {K:Act→World→Prop} {Q:Exit→Act→World→Prop} (h:o.wp P a w K Q) (Y:∀ c,o.op ≠ .defer c):o.wpIn (wd ro) 0 P a w K Q:=by
 refine ⟨fun _ _=>trivial,?_⟩;rw [Oper.semAt_eq _ _ _ Y];unfold Oper.wp at h;generalize (execOp a.eval o).run P w=r at *;cases r with
 | ok n w' =>
  cases n with
  | enter f args=>exact ⟨(fun h=>by cases h),callsIn_wide.2 h⟩
  | row row args =>
   refine ⟨(fun h=>by cases h),fun c cs _=>?_⟩;obtain ⟨v,J,G,O⟩:=(h:Rows P row args w' _) c cs;exact ⟨v,J,G,stepsIn_wide.2 O⟩
  | value v=>exact h
  | skip=>exact h
  | defer d=>exact h
  | _=>exact h.elim
 | halt x w'=>cases x <;> first | exact h | exact h.elim
theorem QaN (h:X3 P N o s K Q):∀ c,o.op ≠ .defer c:=by
 intro c G;unfold X3 at h;simp only [G,Jk] at h;rcases h with h | h
 ·exact h
 ·exact h.1 _ G
theorem QaO {K:Act→World→Prop} {Q:Exit→Act→World→Prop} {l:Nat} {args:Array Value} (O:(execOp a.eval o).run P w=(Instr.yield l args).run P w) (Y:∀ c,o.op ≠ .defer c)
  (h:YAt P l args w fun
   | .returned v,w''=>K (a.put o.dst v) w''
   | .panicked chain,w''=>Q (.panic chain) a w''
   | .outgrown,_=>LetsOut Q):o.wpIn (wd ro) 0 P a w K Q:=by
 refine ⟨fun _ _=>trivial,?_⟩;rw [Oper.semAt_eq _ _ _ Y,O];obtain ⟨fn,tmps,assign,body,G,J⟩:=h;rw [G];exact ⟨(fun h=>by cases h),J⟩
theorem uj (r:Q8 φ M0 N D T h a w) (hf:yieldOf T o.op=some (b,args)) :
  ∃ O:List Value,Qi φ h w (MM φ h M0) args O∧(execOp a.eval o).run P w=(Instr.yield (φ b) O.toArray).run P w∧∀ c,o.op ≠ .defer c:=by
 unfold yieldOf at hf;split at hf
 ·rename_i t G ts Z;split at hf
  ·rename_i b0 ht;split at hf
   ·rename_i O Y;simp only [QO,Prod.mk.injEq] at hf;obtain ⟨rfl,rfl⟩:=hf;have h2:=(r.tm t _ ht).2;simp only [Qe] at h2;have J:a.eval (.tmp t)=.func (.yield (φ b0)) #[] #[]:=h2.1;refine ⟨G.toList.map a.eval,FI r Y,?_,fun c hc=>by rw [Z] at hc; cases hc⟩;have e1:G.map a.eval=(G.toList.map a.eval).toArray:=by apply Array.ext'; simp
    simp only [execOp,Z,resolve,J,Deferred.ofValue,Sem.run_bind,Sem.run_pure,Result.andThen_ok,invoke];rw [← e1];simp
   ·cases hf
  ·cases hf
 ·cases hf
theorem Oper.wpIn_mono2 {F:Fence} {K K':Act→World→Prop} {Q:Exit→Act→World→Prop} (G:o.wpIn F n P a w K Q) (h:∀ a w,K a w→K' a w)
  (O:∀ e a w,Q e a w→Q' e a w):o.wpIn F n P a w K' Q':=by
 unfold Oper.wpIn at *;refine ⟨G.1,?_⟩;have G:=G.2;generalize (o.semAt F.round a.eval).run P w=r at *;cases r with
 | ok x w' =>
  cases x <;> simp only [Oper.uponIn] at G ⊢ <;>
   first
    | exact h _ _ G
    | exact ⟨G.1,CallsIn.mono G.2 (fun e w'' J=>by cases e <;> first | exact h _ _ J | exact O _ _ _ J | exact ⟨_,_,O _ _ _ J.choose_spec.choose_spec⟩)⟩
    | exact ⟨G.1,RowsIn.mono G.2 (fun _ _ J=>h _ _ J)⟩
    | exact ⟨G.1,RoundIn.mono G.2 (fun e w'' J=>by cases e <;> first | exact h _ _ J | exact O _ _ _ J | exact ⟨_,_,O _ _ _ J.choose_spec.choose_spec⟩)⟩
 | halt x w'=>cases x <;> simp only [Oper.uponIn] at G ⊢ <;> exact O _ _ _ G
theorem Qgu (h:YOp P N o s K Q (yieldOf (look s.T) o.op)) (r:Q8 φ M0 N D (look s.T) (look s.H) a w) :
  o.wpIn (wd ro) 0 P a w (fun Z w'=>∃ φ' s',K s'∧Q8 φ' M0 N D (look s'.T) (look s'.H) Z w'∧QW φ (look s.H) w φ' (look s'.H) w') (Post N D Q φ M0 (look s.H) w):=by
 cases hy:yieldOf (look s.T) o.op with
 | none=>rw [hy] at h; exact Qe9 (ME h r) (QaN h)
 | some p =>
  obtain ⟨b,args⟩:=p;rw [hy] at h;obtain ⟨O,J,h2,Y⟩:=uj (P:=P) (w:=w) r hy;refine QaO h2 Y ?_;obtain ⟨fn,tmps,assign,body,g1,g2⟩:=h φ M0 D a w O r J;refine ⟨fn,tmps,assign,body,g1,g2.mono ?_⟩;intro e w' G;cases e with
  | returned v=>exact G
  | panicked chain=>exact G
  | outgrown=>exact G.elim
theorem qx {P:Program} {N:Nat} {ro:Option Nat} {D:DB} {ops:Array Oper} {Q:AX→St→Prop}:∀ (l:List Oper) (k:Nat) (s:St) (φ0:Nat→Nat) (h0:QH) (w0:World) (φ:Nat→Nat) (M0:Zr) (a:Act) (w:World),
  (∀ j,l[j]?=ops[k+j]?)→QW φ0 h0 w0 φ (look s.H) w→Q8 φ M0 N D (look s.T) (look s.H) a w→K3 P N ops Q l s →
  wpOpsIn (wd ro) 0 P ops (Post N D Q φ0 M0 h0 w0) ((List.range l.length).map (k+·)) a w
 | [],k,s,φ0,h0,w0,φ,M0,a,w,O,E,r,h=>⟨φ, .normal,s,h,r,E,rfl⟩
 | o :: l,k,s,φ0,h0,w0,φ,M0,a,w,O,E,r,h=>by
  have h1:ops[k]?=some o:=by simpa using (O 0).symm
  have hr:(List.range (o :: l).length).map (k+·)=k :: (List.range l.length).map (k+1+·):=by
   simp only [Y6,List.range_succ_eq_map,List.map_cons,List.map_map,Nat.add_zero,List.cons.injEq,true_and];apply List.map_congr_left;intro j _;simp; omega
  rw [hr];simp only [wpOpsIn,h1];have G:∀ j,l[j]?=ops[k+1+j]?:=fun j=>by have:=O (j+1); rwa [show k+(j+1)=k+1+j from by omega] at this
  simp only [K3] at h;split at h
  ·rename_i b Y;rw [FN r Y];refine Hy h (fun hb g=>?_) (fun hb g=>?_)
   ·subst hb;simp only [if_true];have J:=UH Y;have r1:Q8 φ M0 N D (look (Zd ops o s.T true)) (look s.H) a w:=by rw [J]; exact r
    refine Go.Abs.Oper.wpIn_mono2 (Qgu (s:=⟨Zd ops o s.T true,s.H⟩) g r1) ?_ ?_
    ·rintro Z w' ⟨φ',s',h2,h3,h4⟩;exact qx l (k+1) s' φ0 h0 w0 φ' M0 Z w' G (E.trans h4) h3 h2
    ·intro e Z w' p;exact p.trans E
   ·subst hb;simp only [Bool.false_eq_true,if_false];have J:=UH Y;have r1:Q8 φ M0 N D (look (Zd ops o s.T false)) (look s.H) a w:=by rw [J]; exact r
    refine ⟨fun _ _=>trivial,qx l (k+1) _ φ0 h0 w0 φ M0 _ w G ?_ (Q8.put (s:=⟨Zd ops o s.T false,s.H⟩) r1 (ZL g.1) (by simp [Qe,QI])) g.2⟩;cases o.dst <;> exact E
  ·exact h.elim
def UY (ops:Array Oper):Bool:=ops.toList.all fun o=>match o.op with | .defer _=>false | _=>true
theorem NN {P:Program} {ro:Option Nat} {ops:Array Oper} {Q:Exit→Act→World→Prop} (Y:UY ops=true) (O:¬ LetsOut Q):∀ (G:Nat) (listed:Array Bool) (a:Act) (w:World),wpAny P .any ops Q G listed a w→wpAnyIn (wd ro) 0 P .any ops Q G listed a w
 | 0,listed,a,w,h=>h
 | G+1,listed,a,w,h=>by
  refine ⟨h.1,fun i hi=>?_⟩;have J:=h.2 i hi;unfold wpOp at J;unfold wpOpIn;cases ho:ops[i]? with
  | none=>simp only [ho] at J ⊢; exact NN Y O G _ a w J
  | some o =>
   simp only [ho] at J ⊢
   have Z:∀ c,o.op ≠ .defer c:=by
    intro c hc;have:=List.all_eq_true.1 Y o (by have:=Array.mem_of_getElem? ho; simpa using this);simp [hc] at this
   split at J
   ·rename_i hw;simp only [hw,if_true];rcases J with h3 | h3
    ·exact Qe9 (Oper.wp_mono (fun a w=>NN Y O G _ a w) h3) Z
    ·exact absurd h3.2 O
   ·rename_i hw;simp only [hw];exact ⟨fun _ _=>trivial,NN Y O G _ _ w J⟩
theorem Ws:¬ LetsOut (Post N D Q φ M0 h w):=by
 rintro ⟨a,w',φ',x,s',O,Z,Y,G⟩;cases x with
 | normal=>cases G
 | exit i=>cases G
 | ret=>cases G
 | panic v=>obtain ⟨u,J,_⟩:=G; cases J
theorem yH (h:K3 P N ops Q ops.toList s):Ex P N ro (.region id ops false) s Q:=by
 intro φ M0 D a w r;refine wpIn_region ?_;have:=qx (ro:=ro) ops.toList 0 s φ (look s.H) w φ M0 a w zq (QW.refl _ _ _) r h;simpa using this
section
variable {P:Program} {o:Oper} {T T':Nat→Option AV} {h h':QH}
theorem FO:∀ {l:List Operand},(∀ x ∈ l,Zc T' x=Zc T x)→SK T' l=SK T l
 | [],_=>rfl
 | x :: l,G=>by simp only [SK,G x zq,FO (l:=l) (fun y J=>G y (by simp [J]))]
theorem TV:∀ {l:List (Nat × Operand)},(∀ x ∈ l.map (·.2),Zc T' x=Zc T x)→O4 T' l=O4 T l
 | [],_=>rfl
 | (i,x) :: l,G=>by simp only [O4,G x zq,TV (l:=l) (fun y J=>G y (by simp at J ⊢; exact .inr J))]
theorem uk (hs:∀ x ∈ o.op.operands,Zc T' x=Zc T x):GA P T' o=GA P T o:=by
 have O:∀ x ∈ o.op.operands.toList,known T' x=known T x:=fun x G=>by unfold known; rw [hs x (by simpa using G)]
 have ha:allKnown T' o.op.operands.toList=allKnown T o.op.operands.toList:=by
  have:∀ l:List Operand,(∀ x ∈ l,known T' x=known T x)→allKnown T' l=allKnown T l:=by
   intro l
   induction l with
   | nil=>intro _; rfl
   | cons x l Y=>intro J; simp only [allKnown,J x zq,Y (fun y Z=>J y (by simp [Z]))]
  exact this _ O
 unfold GA;rw [ha];split
 ·rename_i hc;simp only [Zf] at hc
  rw [execOp_congr (ρ:=fun x=>(known T' x).getD undef) (ρ':=fun x=>(known T x).getD undef) o (fun cs b e=>by rw [e] at hc; simp [XH] at hc) (fun x G=>by
   show (known T' x).getD undef=(known T x).getD undef;rw [O x (by simpa using G)])]
 ·rfl
theorem Ba {x:Option Operand} (G:∀ y,x=some y→Zc T' y=Zc T y):XI T' d x=XI T d x:=by
 cases x with
 | none=>rfl
 | some y=>simp only [XI,G y rfl]
theorem qy {i:Operand} (G:JI P T h t x i ok=some u) (hx:Zc T' x=Zc T x) (hi:Zc T' i=Zc T i) (hh:∀ b ∈ u.2.2,h' b=h b) :
  JI P T' h' t x i ok=some u∧Xi P T' h' t x i ok=none:=by
 unfold JI at G;split at G;rotate_left
 ·cases G
 rename_i kt e b s ht J O;split at G;rotate_left
 ·cases G
 rename_i es hb Z
 have hu:u.2.2=[b]:=by
  split at G
  ·simp only [QO] at G; subst G; rfl
  ·split at G
   ·simp only [QO] at G; subst G; rfl
   ·cases G
 have Y:h' b=some (.mf es):=by rw [hh b (by rw [hu]; simp)]; exact hb
 constructor
 ·simp only [JI,ht,hx,hi,J,O,Y,Z]; exact G
 ·simp [Xi,ht,hx,hi,J,O,Y]
theorem qz {i:Operand} (G:UE P T h t x i y=some u) (hn:YT P T h t x i y=none) (hx:Zc T' x=Zc T x) (hi:Zc T' i=Zc T i) (hy:Zc T' y=Zc T y) (hh:∀ b ∈ u.2.2,h' b=h b) :
  UE P T' h' t x i y=some u∧YT P T' h' t x i y=none:=by
 unfold UE at G;split at G;rotate_left
 ·cases G
 rename_i kt e b s v ht O Y J;split at G;rotate_left
 ·cases G
 rename_i es hb aa
 have hu:u.2.2=[b]:=by
  split at G
  ·simp only [QO] at G; subst G; rfl
  ·cases G
 have Z:h' b=h b:=hh b (by rw [hu]; simp);constructor
 ·simp only [UE,ht,hx,hi,hy,O,Y,J,Z,aa,hb]; exact G
 ·rw [← hn]; simp only [YT,ht,hx,hi,hy,O,Y,J,Z]
theorem qA {i:Operand} (G:UF P T h t x i=some u) (hx:Zc T' x=Zc T x) (hi:Zc T' i=Zc T i) (hh:∀ b ∈ u.2.2,h' b=h b):UF P T' h' t x i=some u:=by
 unfold UF at G;split at G;rotate_left
 ·cases G
 rename_i kt e b s ht J Y;split at G;rotate_left
 ·cases G
 rename_i es hb O
 have hu:u.2.2=[b]:=by
  split at G
  ·simp only [QO] at G; subst G; rfl
  ·cases G
 have Z:h' b=some (.mf es):=by rw [hh b (by rw [hu]; simp)]; exact hb
 simp only [UF,ht,hx,hi,J,Y,Z,O]; exact G
theorem wG {i:Operand} (G:Xi P T h t x i ok=some u) (hx:Zc T' x=Zc T x) (hi:Zc T' i=Zc T i) (Z:∀ b ∈ u.2.2,h' b=h b):Xi P T' h' t x i ok=some u:=by
 simp only [Xi,hx,hi] at G ⊢;split at G
 ·rename_i kt e b kv _ _ _;have hb:∀ es,h b=some (.mp es)→u.2.2=[b]→h' b=some (.mp es):=fun es Y h2=>by rw [Z b (by rw [h2]; simp)]; exact Y
  split at G
  ·rename_i es k kd J _ _;split at G
   ·rename_i O
    have:u.2.2=[b]:=by
     split at G
     ·simp only [QO] at G; subst G; rfl
     ·split at G
      ·simp only [QO] at G; subst G; rfl
      ·cases G
     ·cases G
    simp only [hb es J this, *,if_true]
   ·cases G
  ·cases G
 ·cases G
theorem IB {i:Operand} (G:YT P T h t x i y=some u) (hx:Zc T' x=Zc T x) (hi:Zc T' i=Zc T i) (hy:Zc T' y=Zc T y) (Z:∀ b ∈ u.2.2,h' b=h b):YT P T' h' t x i y=some u:=by
 simp only [YT,hx,hi,hy] at G ⊢;split at G
 ·rename_i kt e b kv y0 _ _ _ _;have hb:∀ es,h b=some (.mp es)→u.2.2=[b]→h' b=some (.mp es):=fun es Y h2=>by rw [Z b (by rw [h2]; simp)]; exact Y
  split at G
  ·rename_i es k kd v J _ _ _;split at G
   ·rename_i O
    have:u.2.2=[b]:=by
     split at G
     ·simp only [QO] at G; subst G; rfl
     ·simp only [QO] at G; subst G; rfl
     ·cases G
    simp only [hb es J this, *,if_true]
   ·cases G
  ·cases G
 ·cases G
theorem yI {x y:Option Xq} (G:TF x y=some u):x=some u∨x=none∧y=some u:=by
 unfold TF at G;split at G
 ·exact .inl G
 ·exact .inr ⟨rfl,G⟩
theorem tZ (G:Jk P o T h=some u) (hs:∀ x ∈ o.op.operands,Zc T' x=Zc T x) (Y:∀ b ∈ u.2.2,h' b=h b):Jk P o T' h'=some u:=by
 have hp:=uk (P:=P) hs;unfold Jk at G ⊢;generalize aq:o.op=q at G hs ⊢;cases q
 case move x=>simp only [VT,hs x (by simp [Op.operands])] at G ⊢; exact G
 case assign x=>simp only [VT,hs x (by simp [Op.operands])] at G ⊢; exact G
 case pick c x y=>simp only [Nh,VT,hs c (by simp [Op.operands]),hs x (by simp [Op.operands]),hs y (by simp [Op.operands])] at G ⊢; exact G
 case alloc ty =>
  simp only at G ⊢;split at G
  ·split at G
   ·unfold zX at G ⊢;split at G
    ·rename_i d cs hd ao;split at G
     ·rename_i hz;simp only [QO] at G;subst G;rw [Y d zq,hz]
     ·cases G
    ·cases G
   ·cases G
  ·cases G
 case box ty x =>
  simp only [hs x (by simp [Op.operands])] at G ⊢;split at G
  ·unfold zX at G ⊢;split at G
   ·rename_i d cs hd ao;split at G
    ·rename_i hz;simp only [QO] at G;subst G;rw [Y d zq,hz]
    ·cases G
   ·cases G
  ·cases G
 case build t ps =>
  simp only [O5,TV (T':=T') (T:=T) (l:=ps.toList) (fun x J=>hs x (by simpa [Op.operands] using J))] at G ⊢;exact G
 case makeMap t rsv =>
  simp only [CZ] at G ⊢;split at G
  ·rename_i d hd;split at G
   ·rename_i hz;simp only [QO] at G;subst G;have:h' d=none:=by rw [Y d zq]; exact hz
    simp [this]
   ·cases G
  ·cases G
 case lookup t x i ok =>
  have J:=hs x (by simp [Op.operands]);have hi:=hs i (by simp [Op.operands]);rcases yI G with h1 | ⟨_,h1⟩
  ·simp only [TF,wG h1 J hi Y]
  ·obtain ⟨h2,h3⟩:=qy h1 J hi Y;simp only [TF,h2,h3]
 case mapUpdate t x i y =>
  have J:=hs x (by simp [Op.operands]);have hi:=hs i (by simp [Op.operands]);have Z:=hs y (by simp [Op.operands]);rcases yI G with h1 | ⟨h0,h1⟩
  ·simp only [TF,IB h1 J hi Z Y]
  ·obtain ⟨h2,h3⟩:=qz h1 h0 J hi Z Y;simp only [TF,h2,h3]
 case makeSlice t x y=>exact xV G (hs x (by simp [Op.operands])) (hs y (by simp [Op.operands])) Y
 case buildSlice t n ps =>
  simp only at G ⊢;split at G
  ·rename_i hn; rw [if_pos hn]; exact nE G Y
  rename_i hn;rw [if_neg hn];rw [tY (T:=T) (l:=ps.toList) (fun x J=>hs x (by simpa [Op.operands] using J))];split at G
  ·rename_i hB;rw [if_pos hB];simp only [Hu,TV (T':=T') (T:=T) (l:=ps.toList) (fun x J=>hs x (by simpa [Op.operands] using J))] at G ⊢;split at G
   ·rename_i e d qs _ _ _;split at G
    ·rename_i i _;split at G
     ·rename_i z hz hd;split at G
      ·rename_i zs aa;split at G
       ·rename_i ad;split at G
        ·rename_i rs ab;split at G
         ·rename_i hc;simp only [QO] at G;subst G;simp only [Y d zq,hd,hz,aa];rw [if_pos ad];simp only [ab];rw [if_pos hc]
         ·cases G
        ·cases G
       ·cases G
      ·cases G
     ·cases G
    ·cases G
   ·cases G
  rename_i hB;rw [if_neg hB];simp only [Ht,TV (T':=T') (T:=T) (l:=ps.toList) (fun x J=>hs x (by simpa [Op.operands] using J))] at G ⊢;split at G
  ·rename_i e d qs _ _ _;split at G
   ·rename_i i _;split at G
    ·rename_i z hz hd;split at G
     ·rename_i zs aa;split at G
      ·rename_i ad;split at G
       ·rename_i rs ab;split at G
        ·rename_i pvs al;split at G
         ·rename_i hc;simp only [QO] at G;subst G;simp only [Y d zq,hd,hz,aa];rw [if_pos ad];simp only [ab,al];rw [if_pos hc]
         ·cases G
        ·cases G
       ·cases G
      ·cases G
     ·cases G
    ·cases G
   ·cases G
  ·cases G
 case load ty x =>
  have J:=hs x (by simp [Op.operands]);simp only at G ⊢;rw [J];split at G
  ·rename_i O; rw [if_pos O]; exact xU G J Y
  rename_i O;rw [if_neg O];simp only [PW,hs x (by simp [Op.operands])] at G ⊢;split at G
  ·split at G
   ·rename_i b off J;split at G
    ·rename_i tb cs hb
     have am:h' b=some (.box tb cs):=by
      rw [← hb];refine Y b ?_;split at G
      ·split at G
       ·simp only [QO] at G; subst G; simp
       ·cases G
      ·split at G
       ·simp only [QO] at G; subst G; simp
       ·cases G
     simp only [am];exact G
    ·cases G
   ·exact G
   ·cases G
  ·cases G
 case store ty x y =>
  have J:=hs x (by simp [Op.operands]);have Z:=hs y (by simp [Op.operands]);simp only at G ⊢;rw [J];split at G
  ·rename_i O; rw [if_pos O]; exact wB G J Z Y
  rename_i O;rw [if_neg O];simp only [O1,hs x (by simp [Op.operands]),hs y (by simp [Op.operands])] at G ⊢;split at G
  ·rename_i i b off v _ _ _;split at G
   ·rename_i tb cs vs hb aj;split at G
    ·rename_i hc;simp only [QO] at G;subst G;simp only [Y b zq,hb,aj];rw [if_pos hc]
    ·cases G
   ·cases G
  ·cases G
 case nilCheck x =>
  have J:=hs x (by simp [Op.operands]);simp only at G ⊢;rw [J];split at G
  ·rename_i O; rw [if_pos O]; exact nC G J Y
  rename_i O;rw [if_neg O];simp only [UD,J] at G ⊢; rw [hp]; exact G
 case fieldAddr t x f =>
  have J:=hs x (by simp [Op.operands]);simp only at G ⊢;rw [J];split at G
  ·rename_i O; rw [if_pos O]; exact SS G J Y
  rename_i O;rw [if_neg O];simp only [Xr,J] at G ⊢; exact G
 case field t x f=>simp only [O3,hs x (by simp [Op.operands])] at G ⊢; exact G
 case indexAddr t x i =>
  have J:=hs x (by simp [Op.operands]);have hi:=hs i (by simp [Op.operands]);simp only at G ⊢;rw [J];split at G
  ·rename_i O; rw [if_pos O]; exact SQ G J hi Y
  rename_i O;rw [if_neg O];simp only [Xt,FM,J,hi] at G ⊢; exact G
 case index t x i=>simp only [SI,Mo,hs x (by simp [Op.operands]),hs i (by simp [Op.operands])] at G ⊢; rw [hp]; exact G
 case slice t x lo hi mx =>
  have e1:∀ d,XI T' d lo=XI T d lo:=fun d=>Ba (fun y Z=>hs y (by simp [Op.operands,Z]))
  have e2:∀ d,XI T' d hi=XI T d hi:=fun d=>Ba (fun y Z=>hs y (by simp [Op.operands,Z]))
  have e3:∀ d,XI T' d mx=XI T d mx:=fun d=>Ba (fun y Z=>hs y (by simp [Op.operands,Z]))
  simp only [TP,hs x (by simp [Op.operands]),e1,e2,e3] at G ⊢;rw [hp];exact G
 case extract x i=>simp only [FH,hs x (by simp [Op.operands])] at G ⊢; exact G
 case makeFunc f a b =>
  simp only [RF,FO (T':=T') (T:=T) (l:=a.toList) (fun x J=>hs x (by simp [Op.operands] at J ⊢; exact .inl J)),FO (T':=T') (T:=T) (l:=b.toList) (fun x J=>hs x (by simp [Op.operands] at J ⊢; exact .inr J))] at G ⊢;exact G
 case makeInterface t x=>simp only [Jn,hs x (by simp [Op.operands])] at G ⊢; exact G
 case typeAssert x xt t ok=>simp only [Hr,hs x (by simp [Op.operands])] at G ⊢; exact G
 case binOp op tx x y ty =>
  have J:=hs x (by simp [Op.operands]);have Z:=hs y (by simp [Op.operands]);have e1:SN T' op x y=SN T op x y:=by simp only [SN,J,Z]
  have e2:aEq P T' op tx x y=aEq P T op tx x y:=by simp only [aEq,nG,J,Z]
  simp only [e1,e2,hp] at G ⊢
  have last:SV P T h op tx x y=some u→SV P T' h' op tx x y=some u:=by
   intro G;unfold SV at G ⊢;rw [J,Z];split at G
   ·rename_i e S es t m k _ _ _;split at G
    ·rename_i ta Sa n hb;split at G
     ·rename_i ah
      have:h' t=some (.arr ta Sa n):=by
       rw [Y t ?_]
       ·exact hb
       ·split at G
        ·simp only [QO] at G; subst G; simp
        ·simp only [QO] at G; subst G; simp
        ·cases G
      simp only [this,ah];exact G
     ·cases G
    ·cases G
   ·cases G
  cases q1:SN T op x y with
  | some z=>rw [q1] at G; exact G
  | none =>
   rw [q1] at G;cases q2:aEq P T op tx x y with
   | some z=>rw [q2] at G; exact G
   | none =>
    rw [q2] at G;cases q3:GA P T o with
    | some z=>rw [q3] at G; exact G
    | none =>
     rw [q3] at G;exact last G
 case unOp op tx x=>simp only [aUn,hs x (by simp [Op.operands])] at G ⊢; rw [hp]; exact G
 case convert src dst x=>simp only [xP,hs x (by simp [Op.operands])] at G ⊢; rw [hp]; exact G
 case call c =>
  obtain ⟨callee,args,types⟩:=c;cases callee
  case builtin b =>
   cases b
   case len =>
    simp only at G ⊢;split at G
    ·rename_i x t;have J:=hs x (by simp [Op.operands,Call.operands]);rw [J];split at G
     ·rename_i O; rw [if_pos O]; exact nD G J Y
     rename_i O;rw [if_neg O];simp only [Qaz,xW,QaI,J] at G ⊢;rw [hp];exact G
    ·cases G
   case delete =>
    simp only at G ⊢;split at G
    ·exact qA G (hs _ (by simp [Op.operands,Call.operands])) (hs _ (by simp [Op.operands,Call.operands])) Y
    ·cases G
   case append =>
    simp only at G ⊢;split at G
    ·rename_i s x t t';split at G
     ·rename_i ht;subst ht;simp only [if_true];have af:=hs s (by simp [Op.operands,Call.operands]);have ai:=hs x (by simp [Op.operands,Call.operands]);rw [af];split at G
      ·rename_i O; rw [if_pos O]; exact kz G af ai Y
      rename_i O;rw [if_neg O];simp only [LC,hs s (by simp [Op.operands,Call.operands]),hs x (by simp [Op.operands,Call.operands])] at G ⊢;split at G
      ·split at G
       ·split at G
        ·split at G
         ·rename_i ak;simp only [ak,and_self,if_true];split at G
          ·rename_i hn;simp only [hn,if_true];split at G
           ·rename_i ac; simp only [ac,if_true] at G ⊢; exact G
           ·rename_i ac;simp only [ac,if_false];split at G
            ·rename_i d hd;split at G
             ·rename_i hc;simp only [QO] at G;subst G;have:h' d=none:=by rw [Y d zq]; exact hc.1
              simp [this,hc.2]
             ·cases G
            ·cases G
          ·rename_i hn;simp only [hn];split at G
           ·rename_i S es tk _;split at G
            ·rename_i ty S' n an
             have ae:h' tk=some (.arr ty S' n):=by
              rw [← an];refine Y tk ?_;split at G
              ·simp only [QO] at G; subst G; simp
              ·split at G
               ·simp only [QO] at G; subst G; simp
               ·cases G
             simp only [ae];exact G
            ·cases G
           ·cases G
         ·cases G
        ·cases G
       ·cases G
      ·cases G
     ·cases G
    ·cases G
   case max=>simp only at G ⊢; rw [hp]; exact G
   case min=>simp only at G ⊢; rw [hp]; exact G
   all_goals cases G
  all_goals cases G
 all_goals cases G
end
def XW {α:Type} (F:Nat→Option α):Option (Nat × α)→Nat→Option α
 | none=>F
 | some (b,v)=>fun t=>if b=t then some v else F t
def vF {α:Type}:List (Option (Nat × α))→(Nat→Bool)→(Nat→Option α)→Nat→Option α
 | [],_,F=>F
 | c :: G,L,F=>vF G (fun j=>L (j+1)) (if L 0 then XW F c else F)
theorem X4 {α:Type} {t:Nat}:∀ (G:List (Option (Nat × α))) (L O:Nat→Bool) (F Y:Nat→Option α),F t=Y t→(∀ (j:Nat) v,G[j]?=some (some (t,v))→L j=O j)→vF G L F t=vF G O Y t
 | [],_,_,_,_,J,_=>J
 | c :: G,L,O,F,Y,J,Z=>by
  simp only [vF];refine X4 G _ _ _ _ ?_ (fun j v hj=>Z (j+1) v (by simpa using hj));cases c with
  | none=>simp only [XW]; split <;> split <;> exact J
  | some bv =>
   obtain ⟨b,v⟩:=bv;by_cases e:b=t
   ·have:=Z 0 v (by simp [e]);rw [this];split
    ·simp [XW,e]
    ·exact J
   ·split <;> split <;> simp [XW,e,J]
theorem dF {α:Type} {t:Nat} {v:α}:∀ (G:List (Option (Nat × α))) (L:Nat→Bool) (F:Nat→Option α) (i:Nat),G[i]?=some (some (t,v))→L i=true→(∀ (j:Nat) u,i < j→G[j]?=some (some (t,u))→L j=false)→vF G L F t=some v
 | [],_,_,i,hi,_,_=>by simp at hi
 | c :: G,L,F,0,hi,Y,J=>by
  simp only [List.getElem?_cons_zero,QO] at hi;subst hi;simp only [vF,Y,if_true];rw [X4 G (fun j=>L (j+1)) (fun _=>false) _ (fun _=>some v) (by simp [XW]) (fun j u O=>J (j+1) u zo (by simpa using O))]
  have:∀ (G:List (Option (Nat × α))) (F:Nat→Option α),vF G (fun _=>false) F=F:=by
   intro G
   induction G with
   | nil=>intro F; rfl
   | cons c G ih=>intro F; simp only [vF,Bool.false_eq_true,if_false]; exact ih F
  rw [this]
 | c :: G,L,F,i+1,hi,Y,J=>by
  simp only [vF];exact dF G (fun j=>L (j+1)) _ i (by simpa using hi) Y (fun j u Z O=>J (j+1) u zo (by simpa using O))
theorem wH (G:List (Option (Nat × α))) (L:Nat→Bool) (F:Nat→Option α) (i:Nat) (c:Option (Nat × α)) (hi:G[i]?=some c)
  (Y:∀ b v,c=some (b,v)→∀ (j:Nat) u,i < j→G[j]?=some (some (b,u))→L j=false) :
  vF G (fun j=>L j||decide (j=i)) F=XW (vF G L F) c:=by
 funext t;cases c with
 | none =>
  refine X4 G _ _ _ _ rfl (fun j v J=>?_);have:j ≠ i:=fun e=>by rw [e,hi] at J; cases J
  simp [this]
 | some bv =>
  obtain ⟨b,v⟩:=bv;by_cases e:b=t
  ·subst e;simp only [XW,if_true];refine dF G _ F i hi zq (fun j u O J=>?_);have:=Y b v rfl j u O J;have h2:j ≠ i:=by omega
   simp [this,h2]
  ·simp only [XW,e,if_false];refine X4 G _ _ _ _ rfl (fun j u J=>?_);have:j ≠ i:=fun Z=>by rw [Z,hi] at J; cases J; exact e rfl
   simp [this]
theorem wI (G:List (Option (Nat × α))) (L J:Nat→Bool) (F:Nat→Option α) (Y:∀ j,j < G.length→L j=J j):vF G L F=vF G J F:=by
 funext t;exact X4 G L J F F rfl (fun j v O=>Y j (List.getElem?_eq_some_iff.1 O).1)
theorem Xj {α:Type}:∀ (G:List (Option (Nat × α))) (L:Nat→Bool) (F:Nat→Option α),(∀ j,j < G.length→L j=false)→vF G L F=F
 | [],_,_,_=>rfl
 | c :: G,L,F,J=>by
  simp only [vF,J 0 zq,Bool.false_eq_true,if_false];exact Xj G _ F (fun j O=>J (j+1) (by simp; omega))
structure Ev where
 x:AV
 wr:Option (Nat × Blk)
 rd:List Nat
def wT (o:Oper) (e:Ev):Option (Nat × AV):=o.dst.map fun d=>(d,e.x)
def pvs (G:List Value):List AV:=G.map fun v=>.p (.val v)
def Qib (J:List AV→AV):Prop:=∀ (φ:Nat→Nat) (h:QH) (w:World) (M:Zr) (args:List AV) (G:List Value) (v:Value),Qi φ h w M args G→Qe φ h w M (J (pvs G)) v→Qe φ h w M (J args) v
def QaP:AV→Bool | .tsl _ _ _=>true | .p (.sl _ _)=>true | _=>false
def SlV (G:List Value):Prop:=∀ v ∈ G,∃ a l c,v=Value.slice a l c
theorem dG {φ:Nat→Nat} {h:QH} {w:World} {M:Zr}:∀ {xs:List AV} {Y:List Value},xs.all QaP=true→Qi φ h w M xs Y→SlV Y
 | [],Y,_,G=>by simp only [Qi] at G; subst G; intro v J; cases J
 | x :: xs,Y,Z,G=>by
  simp only [Qi] at G;obtain ⟨y,ys,rfl,O,h2⟩:=G;simp only [List.all_cons,Zf] at Z;intro v J;rcases List.mem_cons.1 J with rfl | J
  ·have hp:∀ S es,QI w M (.sl S es) v→∃ a l c,v=Value.slice a l c:=by
    intro S es hp;simp only [QI] at hp;rcases hp with ⟨r,o,cap,e,_⟩ | ⟨_,a,cap,e⟩
    ·exact ⟨_,_,_,e⟩
    ·exact ⟨_,_,_,e⟩
   cases x with
   | tsl S es t=>simp only [Qe] at O; exact hp S es O.1
   | p q =>
    cases q with
    | sl S es=>simp only [Qe] at O; exact hp S es O
    | _=>simp [QaP] at Z
   | _=>simp [QaP] at Z
  ·exact dG Z.2 h2 v J
def Step1 (P:Program) (N:Nat) (ops:Array Oper) (o:Oper) (T:Nat→Option AV) (h:QH) (e:Ev):Prop :=
  KE N o.dst=true ∧
  ((ZC ops o T=some false∧e=⟨.p (.val undef),none,[]⟩) ∨
   (ZC ops o T=some true∧Jk P o T h=some (e.x,e.wr,e.rd)) ∨
   (ZC ops o T=some true∧∃ f args args',ZO T o.op=some (f,args)∧(P.funcs[f]?).any (fun fn=>fn.body.isSome&&fn.name != "runtime.NumGoroutine")=true∧Ef args args'∧YV args'=true ∧
     QC P f args' (.ret e.x)∧KZ e.x=true∧e.wr=none∧e.rd=[]) ∨
   (ZC ops o T=some true∧∃ (f:FuncId) (args:List AV) (J:List AV→AV),ZO T o.op=some (f,args)∧(P.funcs[f]?).any (fun fn=>fn.body.isSome&&fn.name != "runtime.NumGoroutine")=true ∧
     args.all QaP=true∧(∀ G:List Value,SlV G→G.length=args.length→QC P f (pvs G) (.ret (J (pvs G))))∧(∀ G,KZ (J (pvs G))=true)∧Qib J∧e.x=J args∧e.wr=none∧e.rd=[]))
theorem lc (G:∀ t ∈ o.looksAt ops,T' t=T t):∀ x ∈ o.op.operands,Zc T' x=Zc T x:=by
 intro x J;cases x with
 | tmp t=>exact G t (List.mem_append_left _ (List.mem_filterMap.2 ⟨.tmp t,by simpa using J,rfl⟩))
 | _=>rfl
theorem ul (G:∀ t ∈ o.looksAt ops,T' t=T t):ZC ops o T'=ZC ops o T:=by
 unfold ZC;cases hg:o.guard with
 | none=>rfl
 | some J =>
  obtain ⟨g,want⟩:=J;simp only;cases hj:ops[g]? with
  | none=>rfl
  | some O =>
   simp only;cases hd:O.dst with
   | none=>rfl
   | some d =>
    simp only;rw [G d (by simp [Oper.looksAt,hg,hj,hd])]
theorem wJ (hs:∀ x ∈ o.op.operands,Zc T' x=Zc T x):ZO T' o.op=ZO T o.op:=by
 unfold ZO;split
 ·rename_i f args ts J;rw [FO (fun x G=>hs x (by rw [J]; simp [Op.operands,Call.operands] at G ⊢; exact .inr G))]
 ·rename_i t args ts J;have O:T' t=T t:=hs (.tmp t) (by rw [J]; simp [Op.operands,Call.operands]);rw [O,FO (fun x G=>hs x (by rw [J]; simp [Op.operands,Call.operands] at G ⊢; exact .inr G))]
 ·rfl
theorem Step1.loc {e:Ev} (s:Step1 P N ops o T h e) (J:∀ t ∈ o.looksAt ops,T' t=T t) (Y:∀ b ∈ e.rd,h' b=h b) :
  Step1 P N ops o T' h' e:=by
 have hs:=lc J;refine ⟨s.1,?_⟩;rw [ul J,wJ hs];rcases s.2 with G | ⟨G,O⟩ | G | G
 ·exact .inl G
 ·exact .inr (.inl ⟨G,tZ O hs Y⟩)
 ·exact .inr (.inr (.inl G))
 ·exact .inr (.inr (.inr G))
theorem Q8.putT (r:Q8 φ M0 N D T h a w) {d:Option Tmp} {x:AV}
  (J:∀ t,d=some t→t < N) (O:Qe φ h w (MM φ h M0) x v):Q8 φ M0 N D (XW T (d.map fun d=>(d,x))) h (a.put d v) w:=by
 cases d with
 | none=>exact r
 | some d =>
  have hlt:=J d rfl;refine ⟨r.dfs,by simp [Act.put,r.siz],r.hp,fun t y G=>?_⟩;simp only [Option.map_some,XW] at G;by_cases e:d=t
  ·simp only [e,if_true,QO] at G;subst G;refine ⟨e ▸ hlt,?_⟩;have:(a.put (some d) v).tmps.getD t undef=v:=by subst e; simp [Act.put,r.siz,hlt]
   rw [this]; exact O
  ·simp only [e,if_false] at G;refine ⟨(r.tm t y G).1,?_⟩;have:(a.put (some d) v).tmps.getD t undef=a.tmps.getD t undef:=by simp [Act.put,Array.getElem?_setIfInBounds_ne e]
   rw [this]; exact (r.tm t y G).2
theorem Qdo (h:QH) (c:Option (Nat × Blk)):ap h c=XW h c:=by
 cases c with
 | none=>rfl
 | some G=>rfl
theorem Step1.wp {e:Ev} {Q:Exit→Act→World→Prop} (hi:ops[i]?=some o)
  (s:Step1 P N ops o T h e) (r:Q8 φ M0 N D T h a w) {K:Act→World→Prop}
  (hK:∀ φ' a' w',Q8 φ' M0 N D (XW T (wT o e)) (XW h e.wr) a' w'→QW φ h w φ' (XW h e.wr) w'→K a' w'):wpOp P ops Q i K a w:=by
 unfold wpOp;simp only [hi];obtain ⟨hd,hs⟩:=s;rcases hs with ⟨G,rfl⟩ | ⟨G,J⟩ | ⟨G,f,args,args',J,O,h4,h5,h6,h7,h8,h9⟩ | ⟨G,f,args,τ,J,O,ab,h6,h7,h5,h4,h8,h9⟩
 ·rw [FN r G];simp only [Bool.false_eq_true,if_false];exact hK φ _ w (r.putT (ZL hd) (by simp [Qe,QI])) (QW.refl _ _ _)
 ·rw [FN r G];simp only [if_true];refine .inl ?_;obtain ⟨nx,v,w',φ',g1,g2,g3,g4,g5,g6⟩:=QaJ r J;simp only [Qdo] at g3 g4 g5 g6;have r3:Q8 φ' M0 N D T (XW h e.wr) a w':=r.keep g5 g6 g4;have r2:=r3.putT (d:=o.dst) (x:=e.x) (v:=v) (ZL hd) g3;unfold Oper.wp;rw [g1];rcases g2 with rfl | ⟨rfl,rfl⟩
  ·exact hK φ' _ w' r2 g5
  ·exact hK φ' _ w' r2 g5
 ·rw [FN r G];simp only [if_true];refine .inl ?_;obtain ⟨vs,g1,g2⟩:=NM r J O;unfold Oper.wp;rw [g2];simp only [Oper.upon];have hH:Zz φ Ff w (MB φ h w M0):=Hw (fun x o hm=>uh hm) r.hp.gm.w r.hp.gm.mb;have hM:∀ r o v,w.cell? ⟨r,o,none⟩=some v→¬ MM φ h M0 r o→w.cell? ⟨r,o,none⟩=some v∧¬ MM φ Ff (MB φ h w M0) r o:=fun r o v G J=>⟨G,fun O=>O.elim We (fun h4=>J h4.1)⟩
  refine (h6 φ (MB φ h w M0) w vs hH ((WR hM).2 _ _ h5 (JX.2 _ _ _ h4 g1))).mono ?_;rintro e1 w' ⟨φ',r',h',⟨rfl,rfl⟩,ac,E,v,rfl,hv⟩;have Y:∀ ro o v,w'.cell? ⟨ro,o,none⟩=some v→¬ MM φ' Ff (MB φ h w M0) ro o→w'.cell? ⟨ro,o,none⟩=some v∧¬ MM (KC φ w.heap.size (w'.heap.size - w.heap.size)) h M0 ro o:=fun ro o v G J=>⟨G,Oe r.hp E.size G (fun O=>J (.inr O))⟩
  obtain ⟨r,E1,X1,hC⟩:=r.lift (w'.heap.size - w.heap.size);obtain ⟨Z,X2,H2⟩:=UG E.os E.tape E.output E.size (fun x hx=>E.same x hx (fun b hb=>absurd rfl hb)) r.hp hC;have r2:Q8 _ M0 N D T h a w':=r.keep Z X2 H2;have r3:=r2.putT (d:=o.dst) (x:=e.x) (v:=v) (ZL hd) ((WR Y).1 _ _ h7 hv);have e8:XW h e.wr=h:=by rw [h8]; rfl
  exact hK _ _ w' (by rw [e8]; exact r3) (by rw [e8]; exact E1.trans Z)
 ·rw [FN r G];simp only [if_true];refine .inl ?_;obtain ⟨vs,g1,g2⟩:=NM r J O;unfold Oper.wp;rw [g2];simp only [Oper.upon];have hH:Zz φ Ff w (MB φ h w M0):=Hw (fun x o hm=>uh hm) r.hp.gm.w r.hp.gm.mb;refine (h6 vs (dG ab g1) (Zt g1).symm φ (MB φ h w M0) w vs hH (FD vs)).mono ?_;rintro e1 w' ⟨φ',r',h',⟨rfl,rfl⟩,ac,E,v,rfl,hv⟩;have Y:∀ ro o v,w'.cell? ⟨ro,o,none⟩=some v→¬ MM φ' Ff (MB φ h w M0) ro o→w'.cell? ⟨ro,o,none⟩=some v∧¬ MM (KC φ w.heap.size (w'.heap.size - w.heap.size)) h M0 ro o:=fun ro o v G J=>⟨G,Oe r.hp E.size G (fun O=>J (.inr O))⟩
  obtain ⟨r,E1,X1,hC⟩:=r.lift (w'.heap.size - w.heap.size);obtain ⟨Z,X2,H2⟩:=UG E.os E.tape E.output E.size (fun x hx=>E.same x hx (fun b hb=>absurd rfl hb)) r.hp hC;have r2:Q8 _ M0 N D T h a w':=r.keep Z X2 H2;have aa:=(WR (φ':=KC φ w.heap.size (w'.heap.size - w.heap.size)) (h':=h) Y).1 _ _ (h7 vs) hv;have r3:=r2.putT (d:=o.dst) (x:=e.x) (v:=v) (ZL hd) (by rw [h4]; exact h5 _ _ _ _ _ _ _ ((QJ (Z.keeps M0) X2).2 _ _ ((QJ (E1.keeps M0) X1).2 _ _ g1)) aa);have e8:XW h e.wr=h:=by rw [h8]; rfl
  exact hK _ _ w' (by rw [e8]; exact r3) (by rw [e8]; exact E1.trans Z)
abbrev Yn:=Option Nat × List Nat
def K6 (a b:Yn):Bool :=
 (match a.1 with | some x=>!b.2.contains x&&b.1 != some x | none=>true)&&(match b.1 with | some y=>!a.2.contains y | none=>true)
def waits (G:Oper) (i:Nat):Bool:=G.after.toList.any fun e=>Region.binds .any e&&e.on == i
def qB (ops:Array Oper) (G:Oper) (i:Nat):Bool:=waits G i||G.after.toList.any fun e=>Region.binds .any e&&(ops[e.on]?).any (waits · i)
theorem LG {Y:Oper} (h:qB ops Y i=true) :
  (∃ G,G ∈ Y.after∧Region.binds .any G=true∧G.on=i)∨(∃ G ok J,G ∈ Y.after∧Region.binds .any G=true∧ops[G.on]?=some ok∧J ∈ ok.after∧Region.binds .any J=true∧J.on=i):=by
 have key:∀ (o:Oper),waits o i=true→∃ G,G ∈ o.after∧Region.binds .any G=true∧G.on=i:=by
  intro o hw;simp only [waits,List.any_eq_true,Zf,beq_iff_eq] at hw;obtain ⟨G,Z,h2,O⟩:=hw;exact ⟨G,by simpa using Z,h2,O⟩
 simp only [qB,Bool.or_eq_true] at h;rcases h with h | h
 ·exact .inl (key Y h)
 ·simp only [List.any_eq_true,Zf] at h;obtain ⟨G,Z,h2,O⟩:=h;cases hok:ops[G.on]? with
  | none=>rw [hok] at O; cases O
  | some ok =>
   rw [hok] at O;obtain ⟨J,g1,g2,g3⟩:=key ok (by simpa using O);exact .inr ⟨G,ok,J,by simpa using Z,h2,hok,g1,g2,g3⟩
def MF (ops:Array Oper) (G:Oper) (i:Nat) (J:Yn):List Oper→List Yn→Bool
 | O :: l,Z :: Y=>(qB ops O i||(G.apart ops O&&K6 J Z))&&MF ops G i J l Y
 | _,_=>true
def dH (ops:Array Oper):Nat→List Oper→List Yn→Bool
 | i,J :: l,O :: G=>MF ops J i O l G&&dH ops (i+1) l G
 | _,_,_=>true
def Fg:Nat→List Oper→Bool
 | _,[]=>true
 | j,o :: l=>(o.after.toList.all fun e=>!Region.binds .any e||decide (e.on < j))&&Fg (j+1) l
def Z0 (ops:Array Oper) (G:List Yn):Bool:=dH ops 0 ops.toList G&&Fg 0 ops.toList
theorem Bc {ops:Array Oper} {oi:Oper} {i:Nat} {Z:Yn}:∀ {l:List Oper} {Y:List Yn},MF ops oi i Z l Y=true→∀ (j:Nat) G J,l[j]?=some G→Y[j]?=some J→qB ops G i=true∨(oi.apart ops G=true∧K6 Z J=true)
 | [],Y,_,j,G,J,O,_=>by simp at O
 | o :: l,[],_,j,G,J,_,hf=>by simp at hf
 | o :: l,f :: Y,hp,j,G,J,O,hf=>by
  simp only [MF,Zf,Bool.or_eq_true] at hp;cases j with
  | zero=>simp at O hf; subst O hf; exact hp.1
  | succ j=>exact Bc hp.2 j G J (by simpa using O) (by simpa using hf)
theorem FP {ops:Array Oper}:∀ {l:List Oper} {fs:List Yn} {k:Nat},dH ops k l fs=true→∀ (i j:Nat) Z G Y J,i < j→l[i]?=some Z→l[j]?=some G→fs[i]?=some Y→fs[j]?=some J →
  qB ops G (k+i)=true∨(Z.apart ops G=true∧K6 Y J=true)
 | [],fs,k,_,i,j,Z,G,Y,J,_,hi,_,_,_=>by simp at hi
 | o :: l,[],k,_,i,j,Z,G,Y,J,_,_,_,hf,_=>by simp at hf
 | o :: l,f :: fs,k,hp,i,j,Z,G,Y,J,ab,hi,hj,O,aa=>by
  simp only [dH,Zf] at hp;cases j with
  | zero=>omega
  | succ j =>
   cases i with
   | zero =>
    simp at hi O;subst hi O;exact Bc hp.1 j G J (by simpa using hj) (by simpa using aa)
   | succ i =>
    have:=FP hp.2 i j Z G Y J zo (by simpa using hi) (by simpa using hj) (by simpa using O) (by simpa using aa)
    rwa [show k+1+i=k+(i+1) from by omega] at this
theorem VV:∀ {l:List Oper} {k:Nat},Fg k l=true→∀ (j:Nat) o,l[j]?=some o→∀ e ∈ o.after,Region.binds .any e=true→e.on < k+j
 | [],k,_,j,o,G=>by simp at G
 | o :: l,k,hp,j,O,G=>by
  simp only [Fg,Zf] at hp;cases j with
  | zero =>
   simp at G;subst G;intro e J hb;have:=List.all_eq_true.1 hp.1 e (by simpa using J);simpa [hb] using this
  | succ j =>
   intro e J hb;have:=VV hp.2 j O (by simpa using G) e J hb;omega
def Og (listed:Array Bool):Nat→Nat
 | 0=>0
 | n+1=>Og listed n+(if listed.getD n true then 0 else 1)
theorem Eg {listed:Array Bool} {i:Nat} (hi:listed.getD i true=false):∀ n,Og (listed.setIfInBounds i true) n+(if i < n then 1 else 0)=Og listed n
 | 0=>by simp [Og]
 | n+1=>by
  have J:=Eg hi n;simp only [Og]
  have hlt:i < listed.size:=by
   rcases Nat.lt_or_ge i listed.size with h | h
   ·exact h
   ·simp [Array.getElem?_eq_none h] at hi
  by_cases e:i=n
  ·subst e;have G:(listed.setIfInBounds i true).getD i true=true:=by simp [hlt]
   rw [G,hi];simp at J ⊢;omega
  ·rw [getD_set_ne true e];have:(i < n+1)↔(i < n):=by omega
   simp only [this];omega
theorem Bd {listed:Array Bool}:∀ {n:Nat},Og listed n=0→∀ i,i < n→listed.getD i true=true
 | 0,_,i,hi=>by omega
 | n+1,hu,i,hi=>by
  simp only [Og] at hu;by_cases e:i=n
  ·subst e;cases hq:listed.getD i true with
   | true=>rfl
   | false=>rw [hq] at hu; simp at hu
  ·exact Bd (n:=n) (Nat.eq_zero_of_add_eq_zero_right hu) i zo
theorem QaQ {Q:Exit→Act→World→Prop} {T0:Nat→Option AV} (es:List Ev) (au:es.length=ops.size)
  (bc:∀ (i:Nat) o e,ops[i]?=some o→es[i]?=some e→Step1 P N ops o (vF ((ops.toList.zip es).map fun p=>wT p.1 p.2) (fun j=>decide (j < i)) T0) (vF (es.map (·.wr)) (fun j=>decide (j < i)) h0) e)
  (az:Z0 ops (es.map fun e=>(e.wr.map (·.1),e.rd))=true)
  (hQ:∀ φ a w,Q8 φ M0 N D (vF ((ops.toList.zip es).map fun p=>wT p.1 p.2) (fun _=>true) T0) (vF (es.map (·.wr)) (fun _=>true) h0) a w→QW φ0 h0 w0 φ (vF (es.map (·.wr)) (fun _=>true) h0) w→Q .normal a w) :
  ∀ (ac:Nat) (listed:Array Bool) (a:Act) (w:World) (φ:Nat→Nat),listed.size=ops.size→Og listed ops.size≤ac →
   (∀ (j:Nat) o,ops[j]?=some o→listed.getD j false=true→∀ e ∈ o.after,Region.binds .any e=true→listed.getD e.on false=true) →
   Q8 φ M0 N D (vF ((ops.toList.zip es).map fun p=>wT p.1 p.2) (fun j=>listed.getD j false) T0) (vF (es.map (·.wr)) (fun j=>listed.getD j false) h0) a w →
   QW φ0 h0 w0 φ (vF (es.map (·.wr)) (fun j=>listed.getD j false) h0) w→wpAny P .any ops Q ac listed a w:=by
 simp only [Z0,Zf] at az;obtain ⟨ah,a7⟩:=az;have ay:∀ (listed:Array Bool) (i:Nat),i < listed.size→listed.getD i true=listed.getD i false:=fun listed i hi=>by simp [hi]
 have bi:((ops.toList.zip es).map fun p=>wT p.1 p.2).length=ops.size:=by simp [au]
 have aq:∀ (listed:Array Bool) (a:Act) (w:World) (φ:Nat→Nat),listed.size=ops.size→(∀ i,i < ops.size→listed.getD i true=true) →
   Q8 φ M0 N D (vF ((ops.toList.zip es).map fun p=>wT p.1 p.2) (fun j=>listed.getD j false) T0) (vF (es.map (·.wr)) (fun j=>listed.getD j false) h0) a w →
   QW φ0 h0 w0 φ (vF (es.map (·.wr)) (fun j=>listed.getD j false) h0) w→Q .normal a w:=by
  intro listed a w φ af O r E
  have e1:vF ((ops.toList.zip es).map fun p=>wT p.1 p.2) (fun j=>listed.getD j false) T0=vF ((ops.toList.zip es).map fun p=>wT p.1 p.2) (fun _=>true) T0 :=
   wI _ _ _ _ (fun j Y=>by rw [bi] at Y; rw [← ay listed j zo]; exact O j Y)
  have e2:vF (es.map (·.wr)) (fun j=>listed.getD j false) h0=vF (es.map (·.wr)) (fun _=>true) h0 :=
   wI _ _ _ _ (fun j Y=>by simp only [List.length_map,au] at Y; rw [← ay listed j zo]; exact O j Y)
  rw [e1,e2] at r;rw [e2] at E;exact hQ φ a w r E
 have aw:∀ (listed:Array Bool),listed.size=ops.size→Region.ready .any ops listed=[]→∀ i,i < ops.size→listed.getD i true=true:=by
  intro listed af hr i
  induction i using Nat.strongRecOn with
  | _ i ih =>
   intro hi;cases hq:listed.getD i true with
   | true=>rfl
   | false =>
    have:i ∈ Region.ready .any ops listed:=by
     rw [mem_ready];refine ⟨hq,ops[i],Array.getElem?_eq_getElem hi,fun e he hb=>?_⟩;have Z:=VV a7 i ops[i] (by simp [hi]) e he hb;have h2:e.on < i:=by omega
     rw [← ay listed e.on zo];exact ih e.on h2 zo
    rw [hr] at this;cases this
 intro ac
 induction ac with
 | zero =>
  intro listed a w φ af hu ak r E;have O:=Bd (n:=ops.size) (listed:=listed) zo;refine ⟨?_,aq listed a w φ af O r E⟩;apply List.eq_nil_iff_forall_not_mem.2;intro i hi;rw [mem_ready] at hi;obtain ⟨Z,o,ho,_⟩:=hi;rw [O i (Ll.1 ho).1] at Z;cases Z
 | succ ac ih =>
  intro listed a w φ af hu ak r E;refine ⟨fun hr=>aq listed a w φ af (aw listed af hr) r E,fun i hi=>?_⟩;rw [mem_ready] at hi;obtain ⟨bg,o,ho,O⟩:=hi;have bf:i < ops.size:=(Ll.1 ho).1;have aj:listed.getD i false=false:=by rw [← ay listed i zo]; exact bg
  obtain ⟨e,he⟩:∃ e,es[i]?=some e:=⟨es[i],List.getElem?_eq_getElem zo⟩
  have ai:∀ (j:Nat) oj ej,ops[j]?=some oj→es[j]?=some ej→j ≠ i→¬ (listed.getD j false=decide (j < i))→oj.apart ops o=true∧K6 (ej.wr.map (·.1),ej.rd) (e.wr.map (·.1),e.rd)=true∨(o.apart ops oj=true∧K6 (e.wr.map (·.1),e.rd) (ej.wr.map (·.1),ej.rd)=true):=by
   intro j oj ej J aa hne G;rcases Nat.lt_or_ge j i with hlt | bj
   ·have:=FP ah j i oj o (ej.wr.map (·.1),ej.rd) (e.wr.map (·.1),e.rd) hlt (by simpa using J) (by simpa using ho) (by simp [aa]) (by simp [he]);rcases this with hw | a6
    ·exfalso;simp only [Nat.zero_add] at hw;rcases LG hw with ⟨ed,ab,hb,ae⟩ | ⟨ed,ok,ba,ab,hb,hok,av,bb,ae⟩
     ·have:=O ed ab hb;rw [ae] at this;exact G (by rw [this]; simp [hlt])
     ·have:=ak ed.on ok hok (O ed ab hb) ba av bb;rw [ae] at this;exact G (by rw [this]; simp [hlt])
    ·exact .inl a6
   ·have bd:i < j:=by omega
    have:=FP ah i j o oj (e.wr.map (·.1),e.rd) (ej.wr.map (·.1),ej.rd) bd (by simpa using ho) (by simpa using J) (by simp [he]) (by simp [aa]);rcases this with hw | a6
    ·exfalso;simp only [Nat.zero_add] at hw;cases hq:listed.getD j false with
     | true =>
      rcases LG hw with ⟨ed,ab,hb,ae⟩ | ⟨ed,ok,ba,ab,hb,hok,av,bb,ae⟩
      ·have:=ak j oj J hq ed ab hb;rw [ae,aj] at this;cases this
      ·have:=ak ed.on ok hok (ak j oj J hq ed ab hb) ba av bb;rw [ae,aj] at this;cases this
     | false =>
      have h3:¬ j < i:=by omega
      exact G (by rw [hq]; simp [h3])
    ·exact .inr a6
  have an:∀ (j:Nat) t v,((ops.toList.zip es).map fun p=>wT p.1 p.2)[j]?=some (some (t,v))→∃ oj ej,ops[j]?=some oj∧es[j]?=some ej∧oj.dst=some t:=by
   intro j t v Y;simp only [List.getElem?_map,Fe] at Y;obtain ⟨p,hp,hw⟩:=Y;rw [List.getElem?_zip_eq_some] at hp;refine ⟨p.1,p.2,by simpa using hp.1,hp.2,?_⟩;unfold wT at hw;cases hd:p.1.dst with
   | none=>rw [hd] at hw; cases hw
   | some d=>rw [hd] at hw; simp only [Option.map_some,QO,Prod.mk.injEq] at hw; rw [hw.1]
  have ar:∀ (j:Nat) b k,(es.map (·.wr))[j]?=some (some (b,k))→∃ oj ej,ops[j]?=some oj∧es[j]?=some ej∧ej.wr=some (b,k):=by
   intro j b k Y;simp only [List.getElem?_map,Fe] at Y;obtain ⟨p,hp,hw⟩:=Y;have bh:j < ops.size:=by rw [← au]; exact (List.getElem?_eq_some_iff.1 hp).1
   exact ⟨ops[j],p,Array.getElem?_eq_getElem bh,hp,hw⟩
  have ax:=(bc i o e ho he).loc (T':=vF ((ops.toList.zip es).map fun p=>wT p.1 p.2) (fun j=>listed.getD j false) T0) (h':=vF (es.map (·.wr)) (fun j=>listed.getD j false) h0) (by
   intro t ht;refine X4 _ _ _ _ _ rfl (fun j v Y=>?_);obtain ⟨oj,ej,J,aa,ad⟩:=an j t v Y;apply Classical.byContradiction;intro G;by_cases hne:j=i
   ·subst hne; exact G (by rw [aj]; simp)
   ·rcases ai j oj ej J aa hne G with ⟨Z,_⟩ | ⟨Z,_⟩
    ·exact (Oper.apart_spec Z).1 t ad ht
    ·exact (Oper.apart_spec Z).2.2 t ad ht) (by
   intro b hb;refine X4 _ _ _ _ _ rfl (fun j k Y=>?_);obtain ⟨oj,ej,J,aa,ao⟩:=ar j b k Y;apply Classical.byContradiction;intro G;by_cases hne:j=i
   ·subst hne; exact G (by rw [aj]; simp)
   ·rcases ai j oj ej J aa hne G with ⟨_,Z⟩ | ⟨_,Z⟩
    ·simp only [K6,ao,Option.map_some,Zf,Bool.not_eq_true'] at Z;have:=Z.1.1;simp [hb] at this
    ·simp only [K6,ao,Option.map_some,Zf,Bool.not_eq_true'] at Z;have:=Z.2;simp [hb] at this)
  refine ax.wp ho r ?_;intro φ' a' w' r' E'
  have eL:∀ j,(listed.setIfInBounds i true).getD j false=(listed.getD j false||decide (j=i)):=by
   intro j;by_cases a8:j=i
   ·subst a8;have:j < listed.size:=by omega
    simp [this]
   ·rw [getD_set_ne false (Ne.symm a8)];simp [a8]
  have hT:vF ((ops.toList.zip es).map fun p=>wT p.1 p.2) (fun j=>(listed.setIfInBounds i true).getD j false) T0=XW (vF ((ops.toList.zip es).map fun p=>wT p.1 p.2) (fun j=>listed.getD j false) T0) (wT o e):=by
   simp only [eL];refine wH _ _ _ i (wT o e) ?_ ?_
   ·rw [List.getElem?_map,List.getElem?_zip_eq_some.2 (show ops.toList[i]?=some (o,e).1∧es[i]?=some (o,e).2 from ⟨by simpa using ho,he⟩)];rfl
   ·intro b v al j u bd Y;obtain ⟨oj,ej,J,aa,ad⟩:=an j b u Y
    have am:o.dst=some b:=by
     unfold wT at al;cases hd:o.dst with
     | none=>rw [hd] at al; cases al
     | some d=>rw [hd] at al; simp only [Option.map_some,QO,Prod.mk.injEq] at al; rw [al.1]
    cases hq:listed.getD j false with
    | false=>rfl
    | true =>
     exfalso;rcases ai j oj ej J aa zo (by rw [hq]; simp [show ¬ j < i by omega]) with ⟨Z,_⟩ | ⟨Z,_⟩
     ·exact (Oper.apart_spec Z).2.1 b ad am
     ·exact (Oper.apart_spec Z).2.1 b am ad
  have hH:vF (es.map (·.wr)) (fun j=>(listed.setIfInBounds i true).getD j false) h0=XW (vF (es.map (·.wr)) (fun j=>listed.getD j false) h0) e.wr:=by
   simp only [eL];refine wH _ _ _ i e.wr (by simp [he]) ?_;intro b k be j u bd Y;obtain ⟨oj,ej,J,aa,ao⟩:=ar j b u Y;cases hq:listed.getD j false with
   | false=>rfl
   | true =>
    exfalso;rcases ai j oj ej J aa zo (by rw [hq]; simp [show ¬ j < i by omega]) with ⟨_,Z⟩ | ⟨_,Z⟩
    ·simp only [K6,ao,be,Option.map_some,Zf,bne_iff_ne] at Z;exact Z.1.2 rfl
    ·simp only [K6,ao,be,Option.map_some,Zf,bne_iff_ne] at Z;exact Z.1.2 rfl
  refine ih (listed.setIfInBounds i true) a' w' φ' (by simpa using af) ?_ ?_ (by rw [hT,hH]; exact r') (by rw [hH]; exact E.trans E')
  ·have:=Eg bg ops.size;rw [if_pos bf] at this;omega
  ·intro j oj J Y ed ab hb;rw [eL] at Y ⊢;simp only [Bool.or_eq_true,decide_eq_true_eq] at Y ⊢;rcases Y with Y | rfl
   ·exact .inl (ak j oj J Y ed ab hb)
   ·rw [ho] at J;cases J;exact .inl (O ed ab hb)
def Xk (ops:Array Oper) (m:Nat):Bool:=(List.range m).all fun j=>(List.range (m+1)).any fun k=>decide (j < k)&&(ops[k]?).any (waits · j)
def Fh (o:Oper):Bool:=match o.op with | .call ⟨.value (.tmp _),_,_⟩=>false | _=>true
def LH (ops:Array Oper) (m:Nat):Bool:=(List.range ops.size).all fun k=>decide (k≤m)||(ops[k]?).any (waits · (k - 1))
theorem nJ {Q:Exit→Act→World→Prop} (m:Nat) (Y:∀ i,(hi:i < ops.size)→∀ e ∈ (ops[i]).after,Region.binds .any e=true→e.on < i) (ab:LH ops m=true) :
  ∀ (d k G:Nat) (listed:Array Bool) (a:Act) (w:World),k+d=ops.size→m≤k→d≤G→listed.size=ops.size→(∀ i,i < k→listed.getD i false=true)→(∀ i,k≤i→listed.getD i false=false) →
   wpOps P ops Q ((List.range d).map (k+·)) a w→wpAny P .any ops Q G listed a w:=by
 have aa:∀ (listed:Array Bool) (i:Nat),i < listed.size→listed.getD i true=listed.getD i false:=fun listed i hi=>by simp [hi]
 intro d
 induction d with
 | zero =>
  intro k G listed a w hk ai hf ac h1 h2 h
  have J:Region.ready .any ops listed=[]:=by
   apply List.eq_nil_iff_forall_not_mem.2;intro i hi;rw [mem_ready] at hi;obtain ⟨h3,o,ho,_⟩:=hi;have al:=(Ll.1 ho).1;rw [aa listed i zo,h1 i zo] at h3;cases h3
  cases G with
  | zero=>exact ⟨J,h⟩
  | succ G=>exact ⟨fun _=>h,fun i hi=>by rw [J] at hi; cases hi⟩
 | succ d ih =>
  intro k G listed a w hk ai hf ac h1 h2 h;obtain ⟨G,rfl⟩:∃ f,G=f+1:=⟨G - 1,by omega⟩;have O:k < ops.size:=by omega
  have hr:(List.range (d+1)).map (k+·)=k :: (List.range d).map (k+1+·):=by
   simp only [List.range_succ_eq_map,List.map_cons,List.map_map,Nat.add_zero,List.cons.injEq,true_and];apply List.map_congr_left;intro j _;simp; omega
  rw [hr,wpOps_cons] at h;refine ⟨fun J=>?_,fun i hi=>?_⟩
  ·exfalso
   have:k ∈ Region.ready .any ops listed:=by
    rw [mem_ready];refine ⟨by rw [aa listed k zo]; exact h2 k (Nat.le_refl _),ops[k],Array.getElem?_eq_getElem O,fun e he hb=>?_⟩;exact h1 e.on (Y k O e he hb)
   rw [J] at this;cases this
  ·rw [mem_ready] at hi;obtain ⟨h3,o,ho,ad⟩:=hi;have ak:i < ops.size:=(Ll.1 ho).1;rw [aa listed i zo] at h3
   have af:i=k:=by
    rcases Nat.lt_trichotomy i k with hlt | ae | am
    ·rw [h1 i hlt] at h3; cases h3
    ·exact ae
    ·exfalso;have Z:=List.all_eq_true.1 ab i (by simp; omega);simp only [Bool.or_eq_true,decide_eq_true_eq] at Z;rcases Z with Z | Z
     ·omega
     ·rw [ho] at Z;simp only [Option.any_some,waits,List.any_eq_true,Zf,beq_iff_eq] at Z;obtain ⟨ed,aj,hb,ah⟩:=Z;have:=ad ed (by simpa using aj) hb;rw [ah,h2 (i - 1) zo] at this;cases this
   subst af;refine wpOp_mono (fun a' w' hq=>ih (i+1) G _ a' w' zo zo zo (by simpa using ac) ?_ ?_ hq) h
   ·intro j hj;by_cases e:i=j
    ·subst e;have:i < listed.size:=by omega
     simp [this]
    ·rw [getD_set_ne false e];exact h1 j zo
   ·intro j hj;rw [getD_set_ne false zo];exact h2 j zo
theorem yJ {Q:Exit→Act→World→Prop} {T0:Nat→Option AV} (es:List Ev) (m:Nat) (hm:m < ops.size) (az:es.length=m)
  (bf:∀ (i:Nat) o e,ops[i]?=some o→es[i]?=some e→Step1 P N ops o (vF ((ops.toList.zip es).map fun p=>wT p.1 p.2) (fun j=>decide (j < i)) T0) (vF (es.map (·.wr)) (fun j=>decide (j < i)) h0) e)
  (a6:Z0 ops (es.map fun e=>(e.wr.map (·.1),e.rd))=true)
  (bl:Xk ops m=true) (ay:LH ops m=true)
  (hQ:∀ φ a w,Q8 φ M0 N D (vF ((ops.toList.zip es).map fun p=>wT p.1 p.2) (fun _=>true) T0) (vF (es.map (·.wr)) (fun _=>true) h0) a w→QW φ0 h0 w0 φ (vF (es.map (·.wr)) (fun _=>true) h0) w→wpOps P ops Q ((List.range (ops.size - m)).map (m+·)) a w) :
  ∀ (ac:Nat) (listed:Array Bool) (a:Act) (w:World) (φ:Nat→Nat),listed.size=ops.size→Og listed ops.size≤ac→(∀ j,m≤j→listed.getD j false=false) →
   (∀ (j:Nat) o,ops[j]?=some o→listed.getD j false=true→∀ e ∈ o.after,Region.binds .any e=true→listed.getD e.on false=true) →
   Q8 φ M0 N D (vF ((ops.toList.zip es).map fun p=>wT p.1 p.2) (fun j=>listed.getD j false) T0) (vF (es.map (·.wr)) (fun j=>listed.getD j false) h0) a w →
   QW φ0 h0 w0 φ (vF (es.map (·.wr)) (fun j=>listed.getD j false) h0) w→wpAny P .any ops Q ac listed a w:=by
 simp only [Z0,Zf] at a6;obtain ⟨ai,am⟩:=a6;have av:∀ (listed:Array Bool) (i:Nat),i < listed.size→listed.getD i true=listed.getD i false:=fun listed i hi=>by simp [hi]
 have br:((ops.toList.zip es).map fun p=>wT p.1 p.2).length=m:=by simp [az]; omega
 have bd:∀ (listed:Array Bool) (a:Act) (w:World) (φ:Nat→Nat),listed.size=ops.size→(∀ i,i < m→listed.getD i false=true) →
   Q8 φ M0 N D (vF ((ops.toList.zip es).map fun p=>wT p.1 p.2) (fun j=>listed.getD j false) T0) (vF (es.map (·.wr)) (fun j=>listed.getD j false) h0) a w →
   QW φ0 h0 w0 φ (vF (es.map (·.wr)) (fun j=>listed.getD j false) h0) w→wpOps P ops Q ((List.range (ops.size - m)).map (m+·)) a w:=by
  intro listed a w φ af O r E
  have e1:vF ((ops.toList.zip es).map fun p=>wT p.1 p.2) (fun j=>listed.getD j false) T0=vF ((ops.toList.zip es).map fun p=>wT p.1 p.2) (fun _=>true) T0 :=
   wI _ _ _ _ (fun j Z=>by rw [br] at Z; exact O j Z)
  have e2:vF (es.map (·.wr)) (fun j=>listed.getD j false) h0=vF (es.map (·.wr)) (fun _=>true) h0 :=
   wI _ _ _ _ (fun j Z=>by simp only [List.length_map,az] at Z; exact O j Z)
  rw [e1,e2] at r;rw [e2] at E;exact hQ φ a w r E
 have aw:∀ (listed:Array Bool),listed.size=ops.size→Region.ready .any ops listed=[]→∀ i,i < ops.size→listed.getD i true=true:=by
  intro listed af hr i
  induction i using Nat.strongRecOn with
  | _ i ih =>
   intro hi;cases hq:listed.getD i true with
   | true=>rfl
   | false =>
    have:i ∈ Region.ready .any ops listed:=by
     rw [mem_ready];refine ⟨hq,ops[i],Array.getElem?_eq_getElem hi,fun e he hb=>?_⟩;have h1:=VV am i ops[i] (by simp [hi]) e he hb;have h2:e.on < i:=by omega
     rw [← av listed e.on zo];exact ih e.on h2 zo
    rw [hr] at this;cases this
 intro ac
 induction ac with
 | zero =>
  intro listed a w φ af hu ah ae r E;have O:=Bd (n:=ops.size) (listed:=listed) zo;have:=O m zo;rw [av listed m zo,ah m (Nat.le_refl _)] at this;cases this
 | succ ac ih =>
  intro listed a w φ af hu ah ae r E
  have bj:∀ n,n≤ops.size→(∀ i,m≤i→i < n→listed.getD i true=false)→n - m≤Og listed n:=by
   intro n
   induction n with
   | zero=>intro _ _; simp
   | succ n bn =>
    intro hn hh;simp only [Og];have:=bn zo (fun i h1 h2=>hh i h1 zo);by_cases bm:m≤n
    ·rw [hh n bm zo];simp;omega
    ·split <;> omega
  by_cases ba:∀ i,i < m→listed.getD i false=true
  ·have hf:=bj ops.size (Nat.le_refl _) (fun i h1 h2=>by rw [av listed i zo]; exact ah i h1);exact nJ m (fun i hi e he hb=>by have:=VV am i ops[i] (by simp [hi]) e he hb; omega) ay (ops.size - m) m (ac+1) listed a w zo (Nat.le_refl _) zo af ba ah (bd listed a w φ af ba r E)
  refine ⟨fun hr=>?_,fun i hi=>?_⟩
  ·have:=aw listed af hr m zo;rw [av listed m zo,ah m (Nat.le_refl _)] at this;cases this
  rw [mem_ready] at hi;obtain ⟨bk,o,ho,O⟩:=hi;have bi:i < ops.size:=(Ll.1 ho).1;have ak:listed.getD i false=false:=by rw [← av listed i zo]; exact bk
  by_cases bw:m≤i
  ·exfalso
   have bt:i=m:=by
    apply Classical.byContradiction;intro hne;have h4:=List.all_eq_true.1 ay i (by simp; omega);simp only [Bool.or_eq_true,decide_eq_true_eq] at h4;rcases h4 with h4 | h4
    ·omega
    ·rw [ho] at h4;simp only [Option.any_some,waits,List.any_eq_true,Zf,beq_iff_eq] at h4;obtain ⟨ed,Y,hb,aa⟩:=h4;have:=O ed (by simpa using Y) hb;rw [aa,ah (i - 1) zo] at this;cases this
   subst bt
   have a8:∀ d j,j+d+1=i→listed.getD j false=true:=by
    intro d
    induction d using Nat.strongRecOn with
    | _ d bp =>
     intro j Z;have h1:=List.all_eq_true.1 bl j (by simp; omega);simp only [List.any_eq_true,List.mem_range,Zf,decide_eq_true_eq] at h1;obtain ⟨k,hk,bv,hw⟩:=h1;cases hok:ops[k]? with
     | none=>rw [hok] at hw; cases hw
     | some ok =>
      rw [hok] at hw;simp only [Option.any_some,waits,List.any_eq_true,Zf,beq_iff_eq] at hw;obtain ⟨ed,Y,hb,aa⟩:=hw;by_cases bq:k=i
      ·subst bq;rw [ho] at hok;cases hok;have:=O ed (by simpa using Y) hb
       rwa [aa] at this
      ·have:=ae k ok hok (bp (i - k - 1) zo k zo) ed (by simpa using Y) hb
       rwa [aa] at this
   exact ba (fun j Z=>a8 (i - j - 1) j zo)
  obtain ⟨e,he⟩:∃ e,es[i]?=some e:=⟨es[i],List.getElem?_eq_getElem zo⟩
  have aj:∀ (j:Nat) oj ej,ops[j]?=some oj→es[j]?=some ej→j ≠ i→¬ (listed.getD j false=decide (j < i))→oj.apart ops o=true∧K6 (ej.wr.map (·.1),ej.rd) (e.wr.map (·.1),e.rd)=true∨(o.apart ops oj=true∧K6 (e.wr.map (·.1),e.rd) (ej.wr.map (·.1),ej.rd)=true):=by
   intro j oj ej J ab hne G;rcases Nat.lt_or_ge j i with hlt | bu
   ·have:=FP ai j i oj o (ej.wr.map (·.1),ej.rd) (e.wr.map (·.1),e.rd) hlt (by simpa using J) (by simpa using ho) (by simp [ab]) (by simp [he]);rcases this with hw | a7
    ·exfalso;simp only [Nat.zero_add] at hw;rcases LG hw with ⟨ed,Y,hb,aa⟩ | ⟨ed,ok,bc,Y,hb,hok,au,be,aa⟩
     ·have:=O ed Y hb;rw [aa] at this;exact G (by rw [this]; simp [hlt])
     ·have:=ae ed.on ok hok (O ed Y hb) bc au be;rw [aa] at this;exact G (by rw [this]; simp [hlt])
    ·exact .inl a7
   ·have bg:i < j:=by omega
    have:=FP ai i j o oj (e.wr.map (·.1),e.rd) (ej.wr.map (·.1),ej.rd) bg (by simpa using ho) (by simpa using J) (by simp [he]) (by simp [ab]);rcases this with hw | a7
    ·exfalso;simp only [Nat.zero_add] at hw;cases hq:listed.getD j false with
     | true =>
      rcases LG hw with ⟨ed,Y,hb,aa⟩ | ⟨ed,ok,bc,Y,hb,hok,au,be,aa⟩
      ·have:=ae j oj J hq ed Y hb;rw [aa,ak] at this;cases this
      ·have:=ae ed.on ok hok (ae j oj J hq ed Y hb) bc au be;rw [aa,ak] at this;cases this
     | false =>
      have h3:¬ j < i:=by omega
      exact G (by rw [hq]; simp [h3])
    ·exact .inr a7
  have ao:∀ (j:Nat) t v,((ops.toList.zip es).map fun p=>wT p.1 p.2)[j]?=some (some (t,v))→∃ oj ej,ops[j]?=some oj∧es[j]?=some ej∧oj.dst=some t:=by
   intro j t v Z;simp only [List.getElem?_map,Fe] at Z;obtain ⟨p,hp,hw⟩:=Z;rw [List.getElem?_zip_eq_some] at hp;refine ⟨p.1,p.2,by simpa using hp.1,hp.2,?_⟩;unfold wT at hw;cases hd:p.1.dst with
   | none=>rw [hd] at hw; cases hw
   | some d=>rw [hd] at hw; simp only [Option.map_some,QO,Prod.mk.injEq] at hw; rw [hw.1]
  have ar:∀ (j:Nat) b k,(es.map (·.wr))[j]?=some (some (b,k))→∃ oj ej,ops[j]?=some oj∧es[j]?=some ej∧ej.wr=some (b,k):=by
   intro j b k Z;simp only [List.getElem?_map,Fe] at Z;obtain ⟨p,hp,hw⟩:=Z;have bo:j < ops.size:=by have:=(List.getElem?_eq_some_iff.1 hp).1; omega
   exact ⟨ops[j],p,Array.getElem?_eq_getElem bo,hp,hw⟩
  have ax:=(bf i o e ho he).loc (T':=vF ((ops.toList.zip es).map fun p=>wT p.1 p.2) (fun j=>listed.getD j false) T0) (h':=vF (es.map (·.wr)) (fun j=>listed.getD j false) h0) (by
   intro t ht;refine X4 _ _ _ _ _ rfl (fun j v Z=>?_);obtain ⟨oj,ej,J,ab,ad⟩:=ao j t v Z;apply Classical.byContradiction;intro G;by_cases hne:j=i
   ·subst hne; exact G (by rw [ak]; simp)
   ·rcases aj j oj ej J ab hne G with ⟨h1,_⟩ | ⟨h1,_⟩
    ·exact (Oper.apart_spec h1).1 t ad ht
    ·exact (Oper.apart_spec h1).2.2 t ad ht) (by
   intro b hb;refine X4 _ _ _ _ _ rfl (fun j k Z=>?_);obtain ⟨oj,ej,J,ab,aq⟩:=ar j b k Z;apply Classical.byContradiction;intro G;by_cases hne:j=i
   ·subst hne; exact G (by rw [ak]; simp)
   ·rcases aj j oj ej J ab hne G with ⟨_,h1⟩ | ⟨_,h1⟩
    ·simp only [K6,aq,Option.map_some,Zf,Bool.not_eq_true'] at h1;have:=h1.1.1;simp [hb] at this
    ·simp only [K6,aq,Option.map_some,Zf,Bool.not_eq_true'] at h1;have:=h1.2;simp [hb] at this)
  refine ax.wp ho r ?_;intro φ' a' w' r' E'
  have eL:∀ j,(listed.setIfInBounds i true).getD j false=(listed.getD j false||decide (j=i)):=by
   intro j;by_cases bb:j=i
   ·subst bb;have:j < listed.size:=by omega
    simp [this]
   ·rw [getD_set_ne false (Ne.symm bb)];simp [bb]
  have hT:vF ((ops.toList.zip es).map fun p=>wT p.1 p.2) (fun j=>(listed.setIfInBounds i true).getD j false) T0=XW (vF ((ops.toList.zip es).map fun p=>wT p.1 p.2) (fun j=>listed.getD j false) T0) (wT o e):=by
   simp only [eL];refine wH _ _ _ i (wT o e) ?_ ?_
   ·rw [List.getElem?_map,List.getElem?_zip_eq_some.2 (show ops.toList[i]?=some (o,e).1∧es[i]?=some (o,e).2 from ⟨by simpa using ho,he⟩)];rfl
   ·intro b v al j u bg Z;obtain ⟨oj,ej,J,ab,ad⟩:=ao j b u Z
    have an:o.dst=some b:=by
     unfold wT at al;cases hd:o.dst with
     | none=>rw [hd] at al; cases al
     | some d=>rw [hd] at al; simp only [Option.map_some,QO,Prod.mk.injEq] at al; rw [al.1]
    cases hq:listed.getD j false with
    | false=>rfl
    | true =>
     exfalso;rcases aj j oj ej J ab zo (by rw [hq]; simp [show ¬ j < i by omega]) with ⟨h1,_⟩ | ⟨h1,_⟩
     ·exact (Oper.apart_spec h1).2.1 b ad an
     ·exact (Oper.apart_spec h1).2.1 b an ad
  have hH:vF (es.map (·.wr)) (fun j=>(listed.setIfInBounds i true).getD j false) h0=XW (vF (es.map (·.wr)) (fun j=>listed.getD j false) h0) e.wr:=by
   simp only [eL];refine wH _ _ _ i e.wr (by simp [he]) ?_;intro b k bh j u bg Z;obtain ⟨oj,ej,J,ab,aq⟩:=ar j b u Z;cases hq:listed.getD j false with
   | false=>rfl
   | true =>
    exfalso;rcases aj j oj ej J ab zo (by rw [hq]; simp [show ¬ j < i by omega]) with ⟨_,h1⟩ | ⟨_,h1⟩
    ·simp only [K6,aq,bh,Option.map_some,Zf,bne_iff_ne] at h1;exact h1.1.2 rfl
    ·simp only [K6,aq,bh,Option.map_some,Zf,bne_iff_ne] at h1;exact h1.1.2 rfl
  refine ih (listed.setIfInBounds i true) a' w' φ' (by simpa using af) ?_ (fun j Z=>by rw [getD_set_ne false zo]; exact ah j Z) ?_ (by rw [hT,hH]; exact r') (by rw [hH]; exact E.trans E')
  ·have:=Eg bk ops.size;rw [if_pos bi] at this;omega
  ·intro j oj J Z ed Y hb;rw [eL] at Z ⊢;simp only [Bool.or_eq_true,decide_eq_true_eq] at Z ⊢;rcases Z with Z | rfl
   ·exact .inl (ae j oj J Z ed Y hb)
   ·rw [ho] at J;cases J;exact .inl (O ed Y hb)
def um (N:Nat) (o:Oper) (s:St) (K:St→Prop):Option Xq→Prop
 | some u=>KE N o.dst=true∧K (s.put o.dst u.1)
 | none=>False
def Qic (N:Nat) (o:Oper) (s:St) (acc:List Yn) (K:List Yn→St→Prop):Option Xq→Prop
 | some u=>KE N o.dst=true∧K ((u.2.1.map (·.1),u.2.2) :: acc) (XV s o.dst u)
 | none=>False
def uo (ops:Array Oper) (s:St):List Oper→Bool
 | []=>true
 | o :: rest=>(Fh o||(yieldOf (look (Zd ops o s.T true)) o.op).isNone)&&rest.all Fh
theorem uq {l:List Oper} (h:l.all Fh=true):uo ops s l=true:=by
 cases l with
 | nil=>rfl
 | cons o l =>
  simp only [List.all_cons,Zf] at h;simp [uo,h.1,h.2]
def nK (P:Program) (N:Nat) (ops:Array Oper) (Q:AX→St→Prop) (o:Oper) (op:Op) (rest:List Oper) (acc:List Yn) (s0 s:St) (K:St→Prop):Prop :=
 (∃ f args args' x,ZO (look s.T) op=some (f,args)∧Ye P f=true∧KE N o.dst=true∧Ef args args'∧YV args'=true∧KZ x=true∧QC P f args' (.ret x)∧K (s.put o.dst x)) ∨
 (rest=[]∧Xk ops acc.length=true∧Z0 ops acc.reverse=true∧X3 P N o s (Q .normal) Q) ∨
 (Xk ops acc.length=true∧Z0 ops acc.reverse=true∧LH ops acc.length=true∧uo ops s0 (o :: rest)=true∧K3 P N ops Q (o :: rest) s0) ∨
 (∃ (f:FuncId) (args:List AV) (J:List AV→AV),ZO (look s.T) op=some (f,args)∧Ye P f=true∧KE N o.dst=true∧args.all QaP=true∧(∀ G:List Value,SlV G→G.length=args.length→QC P f (pvs G) (.ret (J (pvs G))))∧(∀ G,KZ (J (pvs G))=true)∧Qib J∧K (s.put o.dst (J args)))
def Qfa (P:Program) (N:Nat) (ops:Array Oper) (Q:AX→St→Prop) (o:Oper) (rest:List Oper) (acc:List Yn) (s0:St):Prop :=
 Xk ops acc.length=true∧Z0 ops acc.reverse=true∧LH ops acc.length=true∧uo ops s0 (o :: rest)=true∧K3 P N ops Q (o :: rest) s0
def Km (P:Program) (N:Nat) (ops:Array Oper) (Q:AX→St→Prop):List Oper→List Yn→St→Prop
  | [],acc,s=>Z0 ops acc.reverse=true∧Q .normal s
  | o :: rest,acc,s =>
    match ZC ops o (look s.T) with
    | some b=>LZ b
        (match o.op with
         | .pick c x y=>match Zc (look (Zd ops o s.T true)) c with
           | some (.p (.val (.bool t)))=>LZ t (um N o ⟨Zd ops o s.T true,s.H⟩ (Km P N ops Q rest ((none,[]) :: acc)) (VT (look (Zd ops o s.T true)) x)) (um N o ⟨Zd ops o s.T true,s.H⟩ (Km P N ops Q rest ((none,[]) :: acc)) (VT (look (Zd ops o s.T true)) y))
           | _=>False
         | .call ⟨.value f,args,ts⟩=>nK P N ops Q o (.call ⟨.value f,args,ts⟩) rest acc s ⟨Zd ops o s.T true,s.H⟩ (Km P N ops Q rest ((none,[]) :: acc))
         | .panic x=>rest=[]∧Xk ops acc.length=true∧Z0 ops acc.reverse=true∧X3 P N o ⟨Zd ops o s.T true,s.H⟩ (Q .normal) Q
         | _=>Qic N o ⟨Zd ops o s.T true,s.H⟩ acc (Km P N ops Q rest) (Jk P o (look (Zd ops o s.T true)) (look s.H))∨Qfa P N ops Q o rest acc s)
        (KE N o.dst=true∧Km P N ops Q rest ((none,[]) :: acc) (St.put ⟨Zd ops o s.T false,s.H⟩ o.dst (.p (.val undef))))
    | none=>False
def kD (e:Ev):Yn:=(e.wr.map (·.1),e.rd)
theorem Qdp (c:Option (Nat × α)) (G:List (Option (Nat × α))) (i:Nat) (F:Nat→Option α):vF (c :: G) (fun j=>decide (j < i+1)) F=vF G (fun j=>decide (j < i)) (XW F c):=by
 simp only [vF,Nat.zero_lt_succ,decide_true,if_true];congr 1;funext j;simp
def Eh (P:Program) (N:Nat) (ops:Array Oper) (l:List Oper) (es:List Ev) (T0:Nat→Option AV) (h0:QH):Prop :=
 ∀ (i:Nat) o e,l[i]?=some o→es[i]?=some e→Step1 P N ops o (vF ((l.zip es).map fun p=>wT p.1 p.2) (fun j=>decide (j < i)) T0) (vF (es.map (·.wr)) (fun j=>decide (j < i)) h0) e
theorem TW {l:List Oper} {e:Ev} {es:List Ev} {T0:Nat→Option AV} (O:Step1 P N ops o T0 h0 e)
  (Z:Eh P N ops l es (XW T0 (wT o e)) (XW h0 e.wr)):Eh P N ops (o :: l) (e :: es) T0 h0:=by
 intro i Y e' G J;cases i with
 | zero =>
  simp at G J;subst G J;rw [Xj _ _ _ zq,Xj _ _ _ zq];exact O
 | succ i =>
  simp only [List.zip_cons_cons,List.map_cons,Qdp];exact Z i Y e' (by simpa using G) (by simpa using J)
theorem lh (s:St) (o:Oper) (u:Xq):look (XV s o.dst u).T=XW (look s.T) (wT o ⟨u.1,u.2.1,u.2.2⟩)∧look (XV s o.dst u).H=XW (look s.H) u.2.1:=by
 constructor
 ·unfold XV wT;cases o.dst <;> rfl
 ·unfold XV;cases hq:u.2.1 with
  | none=>rfl
  | some G=>rfl
theorem Ei (s:St) (o:Oper) (e:Ev) (G:e.wr=none):look (s.put o.dst e.x).T=XW (look s.T) (wT o e)∧look (s.put o.dst e.x).H=XW (look s.H) e.wr:=by
 rw [G];unfold wT St.put;cases o.dst <;> exact ⟨rfl,rfl⟩
def Ia (P:Program) (N:Nat) (ops:Array Oper) (Q:AX→St→Prop) (l:List Oper) (acc:List Yn) (s:St):Prop :=
  (∃ (es:List Ev) (s':St),es.length=l.length∧Eh P N ops l es (look s.T) (look s.H)∧Z0 ops (acc.reverse++es.map kD)=true ∧
   look s'.T=vF ((l.zip es).map fun p=>wT p.1 p.2) (fun _=>true) (look s.T)∧look s'.H=vF (es.map (·.wr)) (fun _=>true) (look s.H)∧Q .normal s') ∨
  (∃ (pre:List Oper) (o:Oper) (es:List Ev) (s':St),l=pre++[o]∧es.length=pre.length∧Eh P N ops l es (look s.T) (look s.H)∧Z0 ops (acc.reverse++es.map kD)=true∧Xk ops (acc.length+pre.length)=true ∧
   look s'.T=vF ((l.zip es).map fun p=>wT p.1 p.2) (fun _=>true) (look s.T)∧look s'.H=vF (es.map (·.wr)) (fun _=>true) (look s.H)∧ZC ops o (look s'.T)=some true∧X3 P N o s' (Q .normal) Q) ∨
  (∃ (pre:List Oper) (o:Oper) (rest:List Oper) (es:List Ev) (s':St),l=pre++o :: rest∧es.length=pre.length∧Eh P N ops l es (look s.T) (look s.H)∧Z0 ops (acc.reverse++es.map kD)=true∧Xk ops (acc.length+pre.length)=true∧LH ops (acc.length+pre.length)=true∧uo ops s' (o :: rest)=true ∧
   look s'.T=vF ((l.zip es).map fun p=>wT p.1 p.2) (fun _=>true) (look s.T)∧look s'.H=vF (es.map (·.wr)) (fun _=>true) (look s.H)∧K3 P N ops Q (o :: rest) s')
theorem Ib {l:List Oper} {acc:List Yn} (G:look s1.T=look s.T) (J:look s1.H=look s.H) (h:Ia P N ops Q l acc s1):Ia P N ops Q l acc s:=by
 unfold Ia at h ⊢;rw [G,J] at h;exact h
theorem qC {P:Program} {N:Nat} {ops:Array Oper} {Q:AX→St→Prop}:∀ (l:List Oper) (acc:List Yn) (s:St),Km P N ops Q l acc s→Ia P N ops Q l acc s
  | [],acc,s,h=>.inl ⟨[],s,rfl,fun i o e ho=>by simp at ho,by simpa using h.1,rfl,rfl,h.2⟩
  | o :: l,acc,s,h=>by
    have step:∀ (s:St) (e:Ev) (s1:St),Step1 P N ops o (look s.T) (look s.H) e→look s1.T=XW (look s.T) (wT o e)→look s1.H=XW (look s.H) e.wr→Km P N ops Q l (kD e :: acc) s1→Ia P N ops Q (o :: l) acc s:=by
      intro s e s1 hs hT hH hd;rcases qC l (kD e :: acc) s1 hd with ⟨es,s',G,Y,O,J,Z,h6⟩ | ⟨pre,o',es,s',h0,G,Y,O,J,Z,h6,h7,h8⟩ | ⟨pre,o',rest,es,s',h0,G,Y,O,J,ai,ad,Z,h6,h8⟩
      · refine .inl ⟨e :: es,s',by simp [G],TW hs (by rw [← hT,← hH]; exact Y),by simpa using O,?_,?_,h6⟩
        · rw [J,hT]; rfl
        · rw [Z,hH]; rfl
      · refine .inr (.inl ⟨o :: pre,o',e :: es,s',by simp [h0],by simp [G],TW hs (by rw [← hT,← hH]; exact Y),by simpa using O,?_,?_,?_,h7,h8⟩)
        · have:(kD e :: acc).length+pre.length=acc.length+(o :: pre).length:=by simp; omega
          rw [← this]; exact J
        · rw [Z,hT]; rfl
        · rw [h6,hH]; rfl
      · have this:(kD e :: acc).length+pre.length=acc.length+(o :: pre).length:=by simp; omega
        refine .inr (.inr ⟨o :: pre,o',rest,e :: es,s',by simp [h0],by simp [G],TW hs (by rw [← hT,← hH]; exact Y),by simpa using O,by rw [← this]; exact J,by rw [← this]; exact ai,ad,?_,?_,h8⟩)
        · rw [Z,hT]; rfl
        · rw [h6,hH]; rfl
    have tail:∀ (s:St),ZC ops o (look s.T)=some true→(l=[]∧Xk ops acc.length=true∧Z0 ops acc.reverse=true∧X3 P N o s (Q .normal) Q)→Ia P N ops Q (o :: l) acc s:=by
      rintro s hw ⟨G,Y,O,J⟩;subst G;exact .inr (.inl ⟨[],o,[],s,rfl,rfl,fun i o e _ he=>by simp at he,by simpa using O,by simpa using Y,rfl,rfl,hw,J⟩)
    have af:∀ s0 s:St,look s.T=look s0.T→s.H=s0.H→ZC ops o (look s.T)=some true→(match o.op with
         | .pick c x y=>match Zc (look s.T) c with
           | some (.p (.val (.bool t)))=>LZ t (um N o s (Km P N ops Q l ((none,[]) :: acc)) (VT (look s.T) x)) (um N o s (Km P N ops Q l ((none,[]) :: acc)) (VT (look s.T) y))
           | _=>False
         | .call ⟨.value f,args,ts⟩=>nK P N ops Q o (.call ⟨.value f,args,ts⟩) l acc s0 s (Km P N ops Q l ((none,[]) :: acc))
         | .panic x=>l=[]∧Xk ops acc.length=true∧Z0 ops acc.reverse=true∧X3 P N o s (Q .normal) Q
         | _=>Qic N o s acc (Km P N ops Q l) (Jk P o (look s.T) (look s.H))∨Qfa P N ops Q o l acc s0)→Ia P N ops Q (o :: l) acc s:=by
        intro s0 s ac ae hw g;split at g
        · rename_i c x y ho
          split at g
          · rename_i t hc
            have aa:∀ z,um N o s (Km P N ops Q l ((none,[]) :: acc)) (VT (look s.T) z)→Nh (look s.T) c x y=VT (look s.T) z→Ia P N ops Q (o :: l) acc s:=by
              intro z hz hp;cases hm:VT (look s.T) z with
              | none=>rw [hm] at hz; exact hz.elim
              | some u =>
                rw [hm] at hz hp
                have hu:u.2=(none,[]):=by
                  unfold VT at hm;split at hm
                  · simp only [QO] at hm; subst hm; rfl
                  · cases hm
                have ah:Jk P o (look s.T) (look s.H)=some (u.1,none,[]):=by
                  unfold Jk;simp only [ho];rw [hp];congr 1;rw [← hu]
                have ab:=Ei s o ⟨u.1,none,[]⟩ rfl;exact step s ⟨u.1,none,[]⟩ _ ⟨hz.1, .inr (.inl ⟨hw,ah⟩)⟩ ab.1 ab.2 hz.2
            refine Hy g (fun ht hz=>aa x hz ?_) (fun ht hz=>aa y hz ?_)
            · subst ht; simp [Nh,hc]
            · subst ht; simp [Nh,hc]
          · exact g.elim
        · rename_i f aj ts ho
          rcases g with ⟨f,args,args',x,G,Y,O,J,Z,h6,h7,h8⟩ | G | ⟨G,Y,O,J,Z⟩ | ⟨f,args,τ,G,Y,O,h8,J,Z,h6,h7⟩
          · have hp:=Ei s o ⟨x,none,[]⟩ rfl
            exact step s ⟨x,none,[]⟩ _ ⟨O, .inr (.inr (.inl ⟨hw,f,args,args',by rw [ho]; exact G,Y,J,Z,h7,h6,rfl,rfl⟩))⟩ hp.1 hp.2 h8
          · exact tail s hw G
          · exact .inr (.inr ⟨[],o,l,[],s0,rfl,rfl,fun i o e _ he=>by simp at he,by simpa using Y,by simpa using G,by simpa using O,J,ac.symm,by rw [ae]; rfl,Z⟩)
          · have hp:=Ei s o ⟨τ args,none,[]⟩ rfl
            exact step s ⟨τ args,none,[]⟩ _ ⟨O, .inr (.inr (.inr ⟨hw,f,args,τ,by rw [ho]; exact G,Y,h8,J,Z,h6,rfl,rfl,rfl⟩))⟩ hp.1 hp.2 h7
        · exact tail s hw g
        · rcases g with g | ⟨G,Y,O,J,Z⟩
          rotate_left
          · exact .inr (.inr ⟨[],o,l,[],s0,rfl,rfl,fun i o e _ he=>by simp at he,by simpa using Y,by simpa using G,by simpa using O,J,ac.symm,by rw [ae]; rfl,Z⟩)
          cases hu:Jk P o (look s.T) (look s.H) with
          | none=>rw [hu] at g; exact g.elim
          | some u =>
            rw [hu] at g;have hp:=lh s o u;exact step s ⟨u.1,u.2.1,u.2.2⟩ _ ⟨g.1, .inr (.inl ⟨hw,hu⟩)⟩ hp.1 hp.2 g.2
    simp only [Km] at h;split at h
    · rename_i b hw
      refine Hy h (fun hb g=>?_) (fun hb g=>?_)
      · subst hb
        have em:=UH hw;exact Ib (s1:=⟨Zd ops o s.T true,s.H⟩) em rfl (af s ⟨Zd ops o s.T true,s.H⟩ em rfl (by show ZC ops o (look (Zd ops o s.T true))=some true; rw [em]; exact hw) g)
      · subst hb
        have em:=UH hw;refine Ib (s1:=⟨Zd ops o s.T false,s.H⟩) em rfl ?_;have hp:=Ei ⟨Zd ops o s.T false,s.H⟩ o ⟨.p (.val undef),none,[]⟩ rfl;exact step ⟨Zd ops o s.T false,s.H⟩ ⟨.p (.val undef),none,[]⟩ _ ⟨g.1, .inl ⟨by show ZC ops o (look (Zd ops o s.T false))=some false; rw [em]; exact hw,rfl⟩⟩ hp.1 hp.2 g.2
    · exact h.elim
theorem ut (h:Fh o=true):yieldOf T o.op=none:=by
 unfold Fh at h;unfold yieldOf;split
 ·rename_i G; rw [G] at h; cases h
 ·rfl
theorem nL (h:(Fh o||(yieldOf (look (Zd ops o s.T true)) o.op).isNone)=true):yieldOf (look (Zd ops o s.T true)) o.op=none:=by
 rcases Bool.or_eq_true _ _ |>.mp h with h | h
 ·exact ut h
 ·simpa using h
theorem SY {P:Program} {N:Nat} {D:DB} {ops:Array Oper} {Q:AX→St→Prop}:∀ (l:List Oper) (k:Nat) (s:St) (φ0:Nat→Nat) (h0:QH) (w0:World) (φ:Nat→Nat) (M0:Zr) (a:Act) (w:World),
  (∀ j,l[j]?=ops[k+j]?)→uo ops s l=true→QW φ0 h0 w0 φ (look s.H) w→Q8 φ M0 N D (look s.T) (look s.H) a w→K3 P N ops Q l s →
  wpOps P ops (Post N D Q φ0 M0 h0 w0) ((List.range l.length).map (k+·)) a w
 | [],k,s,φ0,h0,w0,φ,M0,a,w,Y,G,E,r,h=>⟨φ, .normal,s,h,r,E,rfl⟩
 | o :: l,k,s,φ0,h0,w0,φ,M0,a,w,Y,G,E,r,h=>by
  have h1:ops[k]?=some o:=by simpa using (Y 0).symm
  have hr:(List.range (o :: l).length).map (k+·)=k :: (List.range l.length).map (k+1+·):=by
   simp only [Y6,List.range_succ_eq_map,List.map_cons,List.map_map,Nat.add_zero,List.cons.injEq,true_and];apply List.map_congr_left;intro j _;simp; omega
  rw [hr,wpOps_cons];unfold wpOp;simp only [h1];simp only [uo,Zf] at G;have J:∀ j,l[j]?=ops[k+1+j]?:=fun j=>by have:=Y (j+1); rwa [show k+(j+1)=k+1+j from by omega] at this
  simp only [K3] at h;split at h
  ·rename_i b Z;rw [FN r Z];refine Hy h (fun hb g=>?_) (fun hb g=>?_)
   ·subst hb;simp only [if_true];have O:=UH Z;have r1:Q8 φ M0 N D (look (Zd ops o s.T true)) (look s.H) a w:=by rw [O]; exact r
    rw [nL G.1] at g;refine .inl (Go.Abs.Oper.wp_mono2 (ME (s:=⟨Zd ops o s.T true,s.H⟩) g r1) ?_ ?_)
    ·rintro a' w' ⟨φ',s',h2,h3,h4⟩;exact SY l (k+1) s' φ0 h0 w0 φ' M0 a' w' J (uq G.2) (E.trans h4) h3 h2
    ·intro e a' w' p;exact p.trans E
   ·subst hb;simp only [Bool.false_eq_true,if_false];have O:=UH Z;have r1:Q8 φ M0 N D (look (Zd ops o s.T false)) (look s.H) a w:=by rw [O]; exact r
    refine SY l (k+1) _ φ0 h0 w0 φ M0 _ w J (uq G.2) ?_ (Q8.put (s:=⟨Zd ops o s.T false,s.H⟩) r1 (ZL g.1) (by simp [Qe,QI])) g.2;cases o.dst <;> exact E
  ·exact h.elim
theorem qD (h:Km P N ops Q ops.toList [] s) (r:Q8 φ M0 N D (look s.T) (look s.H) a w) :
  wpAny P .any ops (Post N D Q φ M0 (look s.H) w) ops.size (Array.replicate ops.size false) a { w with drawn:=w.drawn+1 }:=by
 have hd:QW φ (look s.H) w φ (look s.H) { w with drawn:=w.drawn+1 }:=BX rfl rfl rfl rfl;have r1:Q8 φ M0 N D (look s.T) (look s.H) a { w with drawn:=w.drawn+1 }:=r.keep hd (RB rfl) (SG (w:=w) rfl hd r.hp)
 have G:∀ (j:Nat),(Array.replicate ops.size false).getD j false=false:=by
  intro j;rcases Nat.lt_or_ge j ops.size with h | h
  ·simp [h]
  ·simp [h]
 have J:∀ n,Og (Array.replicate ops.size false) n≤n:=by
  intro n
  induction n with
  | zero=>simp [Og]
  | succ n ih=>simp only [Og]; split <;> omega
 rcases qC _ _ _ h with ⟨es,s',h1,h2,h3,h4,h5,Z⟩ | ⟨pre,o,es,s',h0,h1,h2,h3,h4,h5,Z,h7,h8⟩ | ⟨pre,o,rest,es,s',h0,h1,h2,h3,h4,ah,aa,h5,Z,h8⟩
 ·refine QaQ (D:=D) (T0:=look s.T) (h0:=look s.H) (φ0:=φ) (w0:=w) (M0:=M0) (N:=N) es (by simpa using h1) (fun i o e ho he=>h2 i o e (by simpa using ho) he) (by show Z0 ops (es.map kD)=true; simpa using h3) ?_ ops.size _ a _ φ zq (J _) (fun j o _ Y=>by rw [G] at Y; cases Y) ?_ ?_
  ·intro φ' a' w' r' O;rw [← h4,← h5] at r';rw [← h5] at O;exact ⟨φ', .normal,s',Z,r',O,rfl⟩
  ·rw [Xj _ _ _ (fun j _=>G j),Xj _ _ _ (fun j _=>G j)]; exact r1
  ·rw [Xj _ _ _ (fun j _=>G j)]; exact hd
 ·have ac:ops.size=pre.length+1:=by have:=congrArg List.length h0; simpa using this
  have af:ops[pre.length]?=some o:=by
   have:ops.toList[pre.length]?=some o:=by rw [h0]; simp
   simpa using this
  have ae:LH ops pre.length=true:=by
   unfold LH;rw [List.all_eq_true];intro k hk;simp only [List.mem_range,Bool.or_eq_true,decide_eq_true_eq] at hk ⊢;exact .inl zo
  refine yJ (D:=D) (T0:=look s.T) (h0:=look s.H) (φ0:=φ) (w0:=w) (M0:=M0) (N:=N) es pre.length zo h1 (fun i o e ho he=>h2 i o e (by simpa using ho) he) (by show Z0 ops (es.map kD)=true; simpa using h3) (by simpa using h4) ae ?_ ops.size _ a _ φ zq (J _) (fun j _=>G j) (fun j o _ Y=>by rw [G] at Y; cases Y) ?_ ?_
  ·intro φ' a' w' r' O;rw [← h5,← Z] at r';rw [← Z] at O;rw [show ops.size - pre.length=1 from by omega];show wpOps _ _ _ [pre.length+0] _ _;rw [wpOps_cons,Nat.add_zero];unfold wpOp;simp only [af,FN r' h7,if_true];refine .inl (Go.Abs.Oper.wp_mono2 (ME h8 r') ?_ ?_)
   ·rintro ai w'' ⟨ab,ad,g1,g2,g3⟩;exact ⟨ab, .normal,ad,g1,g2,O.trans g3,rfl⟩
   ·intro e ai w'' p;exact p.trans O
  ·rw [Xj _ _ _ (fun j _=>G j),Xj _ _ _ (fun j _=>G j)]; exact r1
  ·rw [Xj _ _ _ (fun j _=>G j)]; exact hd
 ·have ac:ops.size=pre.length+(rest.length+1):=by have:=congrArg List.length h0; simpa using this
  refine yJ (D:=D) (T0:=look s.T) (h0:=look s.H) (φ0:=φ) (w0:=w) (M0:=M0) (N:=N) es pre.length zo h1 (fun i o e ho he=>h2 i o e (by simpa using ho) he) (by show Z0 ops (es.map kD)=true; simpa using h3) (by simpa using h4) (by simpa using ah) ?_ ops.size _ a _ φ zq (J _) (fun j _=>G j) (fun j o _ Y=>by rw [G] at Y; cases Y) ?_ ?_
  ·intro φ' a' w' r' O;rw [← h5,← Z] at r';rw [← Z] at O
   have:=SY (o :: rest) pre.length s' φ (look s.H) w φ' M0 a' w' (fun j=>by
    have e1:ops[pre.length+j]?=ops.toList[pre.length+j]?:=by simp
    rw [e1,h0,List.getElem?_append_right zo];congr 1;omega) aa O r' h8
   rw [show ops.size - pre.length=(o :: rest).length from by simp; omega];exact this
  ·rw [Xj _ _ _ (fun j _=>G j),Xj _ _ _ (fun j _=>G j)]; exact r1
  ·rw [Xj _ _ _ (fun j _=>G j)]; exact hd
theorem dJ (J:P.follows .mixedOrders=true) (G:UY ops=true) (h:Km P N ops Q ops.toList [] s):Ex P N ro (.region id ops true) s Q :=
 fun _ _ _ _ _ r=>wpIn_region_any J (NN G Ws _ _ _ _ (qD h r))
def YW:Nat→List AV→List (Nat × AV)
 | _,[]=>[]
 | k,x :: xs=>(k,x) :: YW (k+1) xs
theorem qE:∀ (xs:List AV) (k t:Nat) (x:AV),look (YW k xs) t=some x→k≤t∧xs[t - k]?=some x
 | [],k,t,x,h=>by simp [YW,look] at h
 | y :: xs,k,t,x,h=>by
  simp only [YW,look] at h;by_cases e:k=t
  ·subst e;simp at h;subst h;simp
  ·simp only [e,if_false] at h;obtain ⟨J,G⟩:=qE xs (k+1) t x h;refine ⟨by omega,?_⟩;have:t - k=(t - (k+1))+1:=by omega
   rw [this];simpa using G
def Qdq (P:Program) (T:Nat→Option AV) (h:QH):ResultVar→Option AV
 | .tmp t=>T t
 | .cell t ty=>match PW P T h ty (.tmp t) with | some u=>some u.1 | none=>none
def yK (P:Program) (T:Nat→Option AV) (h:QH):List ResultVar→Option (List AV)
 | []=>some []
 | x :: xs=>match Qdq P T h x,yK P T h xs with | some v,some G=>some (v :: G) | _,_=>none
def TY (P:Program) (fn:Func) (T:Nat→Option AV) (h:QH):Option AV :=
 match yK P T h fn.results.toList with
 | some [x]=>some x
 | some xs=>some (.tup xs)
 | none=>none
theorem qF {x:Value} (h:(Instr.loadAt ty v).run P w=.ok x w'):(do loadVar ty (← asAddr v):Sem Value).run P w=.ok x w':=by
 cases v with
 | pointer q =>
  cases q with
  | none=>simp [Instr.loadAt,Instr.sureAddr,stuck] at h
  | some a=>simpa [Instr.loadAt,Instr.sureAddr,asAddr] using h
 | _=>simp [Instr.loadAt,Instr.sureAddr,stuck] at h
def lm (tmps:Array Value):ResultVar→Sem Value
 | .tmp t=>pure (tmps.getD t undef)
 | .cell t ty=>do loadVar ty (← asAddr (tmps.getD t undef))
theorem Qdr (r:Q8 φ M0 N D T h a w) {x:ResultVar} {v:AV} (G:Qdq P T h x=some v) :
  ∃ y,(lm a.tmps x).run P w=.ok y w∧Qe φ h w (MM φ h M0) v y:=by
 cases x with
 | tmp t=>exact ⟨_,rfl,(r.tm t v G).2⟩
 | cell t ty =>
  simp only [Qdq] at G;split at G
  ·rename_i u hu;simp only [QO] at G;subst G;obtain ⟨_,y,J,O⟩:=O0 (P:=P) r hu;exact ⟨y,qF J,O⟩
  ·cases G
theorem qG {P:Program} {φ:Nat→Nat} {M0:Zr} {N:Nat} {D:DB} {T:Nat→Option AV} {h:QH} {a:Act} {w:World} (r:Q8 φ M0 N D T h a w):∀ {l:List ResultVar} {J:List AV},yK P T h l=some J →
  ∃ ys,(l.mapM (lm a.tmps)).run P w=.ok ys w∧Qi φ h w (MM φ h M0) J ys
 | [],J,G=>by simp only [yK,QO] at G; subst G; exact ⟨[],by simp,by simp [Qi]⟩
 | x :: l,J,G=>by
  simp only [yK] at G;split at G
  ·rename_i v Y O Z;simp only [QO] at G;subst G;obtain ⟨y,g1,g2⟩:=Qdr r O;obtain ⟨ys,g3,g4⟩:=qG r Z;exact ⟨y :: ys,by simp [List.mapM_cons,g1,g3],by simp only [Qi]; exact ⟨y,ys,rfl,g2,g4⟩⟩
  ·cases G
theorem dK (r:Q8 φ M0 N D T h a w) {x:AV} (J:TY P fn T h=some x) :
  ∃ v,(results fn a.tmps).run P w=.ok v w∧Qe φ h w (MM φ h M0) x v:=by
 have G:∀ ys:List Value,(fn.results.toList.mapM (lm a.tmps)).run P w=.ok ys w→(results fn a.tmps).run P w=.ok (if hh:ys.toArray.size=1 then ys.toArray[0] else .tuple ys.toArray) w:=by
  intro ys hy;have e1:fn.results.mapM (lm a.tmps)=Functor.map List.toArray (fn.results.toList.mapM (lm a.tmps)):=Array.mapM_eq_mapM_toList ..
  have e2:results fn a.tmps=(do let Y ← fn.results.mapM (lm a.tmps); pure (if hh:Y.size=1 then Y[0] else .tuple Y)):=by
   unfold results;congr 1
  rw [e2];simp only [Sem.run_bind,e1,Sem.run_map,hy,Result.andThen_ok,Sem.run_pure]
 unfold TY at J;split at J
 ·rename_i y hy;simp only [QO] at J;subst J;obtain ⟨ys,g1,g2⟩:=qG r hy;simp only [Qi] at g2;obtain ⟨v,Y,rfl,O,rfl⟩:=g2;exact ⟨v,by rw [G _ g1]; simp,O⟩
 ·rename_i xs hne Z;simp only [QO] at J;subst J;obtain ⟨ys,g1,g2⟩:=qG r Z;have hl:=Zt g2
  have aa:¬ ys.toArray.size=1:=by
   intro O;simp only [List.size_toArray] at O;rw [O] at hl
   match xs,hl with
   | [x],_=>exact hne x rfl
  refine ⟨.tuple ys.toArray,by rw [G _ g1,dif_neg aa],?_⟩;simp only [Qe];exact ⟨ys,rfl,g2⟩
 ·cases J
def Qid (P:Program) (f:FuncId) (args:List AV) (R:ZB→Prop):Prop:=KD P f args Ff fun r h'=>R r∧h'=Ff
def QaR (P:Program) (fn:Func) (R:ZB→Prop):AX→St→Prop
 | .ret,s=>∃ x y,TY P fn (look s.T) (look s.H)=some x∧le x y∧KZ y=true∧R (.ret y)
 | .normal,s=>∃ x y,TY P fn (look s.T) (look s.H)=some x∧le x y∧KZ y=true∧R (.ret y)
 | .panic x,s=>KZ x=true∧R (.panic x)
 | .exit _,_=>False
theorem lq (E:QW φ Ff w φ' h w'):QW φ Ff w φ' Ff w' :=
 ⟨E.os,E.tape,E.output,E.size,E.same,E.cell,fun _ _ _ x=>absurd x We,(fun _ _ _ _ x=>by cases x),(fun _ _ _ _ _ x=>by cases x),(fun _ _ _ _ _ x=>by cases x),(fun _ _ _ _ x=>by cases x)⟩
structure UI (ms:List Nat) (w w':World):Prop where
 os:w'.os=w.os
 tape:w'.tape=w.tape
 output:w'.output=w.output
 size:w'.heap.size=w.heap.size
 same:∀ k,k ∉ ms→w'.heap[k]?=w.heap[k]?
 turn:∀ k,k ∈ ms→w'.heap[k]?=some (.deferred none)
def Je (P:Program) (fn:Func) (tmps:Array Value) (R:Ending→World→Prop):List Deferred→FrameMode→World→Prop
  | [],u,w=>Leaves P fn tmps R [] u w
  | d :: ds,u,w=>u ≠ .run ∧
      ((∃ r w',d.target=.collected r∧(Instr.takeDeferred r).run P w=.ok [] w'∧Je P fn tmps R ds u w') ∨
       (∃ fv cap f args,d.target=.fn fv cap∧(invoke d.target d.args).run P w=.ok (.enter f args) w ∧
        CallsD P f args u w fun
          | .returned _,u',w'=>Je P fn tmps R ds (settle u') w'
          | .panicked chain,u',w'=>Je P fn tmps R ds (raised u' chain) w'
          | .outgrown,_,w'=>R .outgrown w'))
theorem L6 {tmps:Array Value} {R:Ending→World→Prop}:∀ (ds:List Deferred) (u:FrameMode) (w:World) (fr:Frame)
  (cs:List Frame),fr.mode=u→fr.defers=ds→fr.tmps=tmps→P.funcs[fr.fn]?=some fn→fr.kind=.normal→Je P fn tmps R ds u w →
  ∃ e w' G,R e w'∧Comes P (lone fr cs w) (lone G cs w') e∧G.fn=fr.fn∧G.leaving P w' e:=by
 intro ds
 induction ds with
 | nil=>exact fun u w fr cs hu hd ht hf hk h=>leaves_steps [] u w fr cs hu hd ht hf hk h
 | cons d ds ih =>
  intro u w fr cs hu hd ht hf hk h;obtain ⟨ac,h⟩:=h;rcases h with ⟨r,w',Y,ad,af⟩ | ⟨fv,cap,f,args,Y,ai,ae⟩
  ·have h1:=step_collected (cs:=cs) (hu ▸ ac) hd Y ad;obtain ⟨e',w'',G,Z,ab,O,aa⟩:=ih u w' { fr with defers:=[]++ds } cs hu rfl ht hf hk af;exact ⟨e',w'',G,Z,Comes.of_steps (.one h1) ab,O,aa⟩
  ·have h1:=step_defer (cs:=cs) (hu ▸ ac) hd Y ai;obtain ⟨e,u',w',ak,hR,J,aj,ah⟩:=ae { fr with defers:=ds } cs hu;cases e with
   | outgrown=>exact ⟨.outgrown,w',fr,hR,Outgrown.of_steps (.one h1) J,rfl,trivial⟩
   | returned v =>
    have h2:=step_going_returned (c:={ { fr with defers:=ds } with mode:=u' }) (cs:=cs) aj ah;obtain ⟨e',w'',G,Z,ab,O,aa⟩:=ih (settle u') w' { { { fr with defers:=ds } with mode:=u' } with mode:=settle u' } cs rfl rfl ht hf hk hR;exact ⟨e',w'',G,Z,Comes.of_steps (.head h1 (Steps.trans J (.one h2))) ab,O,aa⟩
   | panicked chain =>
    have h2:=step_going_panicked (c:={ { fr with defers:=ds } with mode:=u' }) (cs:=cs) ah;obtain ⟨e',w'',G,Z,ab,O,aa⟩:=ih (raised u' chain) w' { { { fr with defers:=ds } with mode:=u' } with mode:=raised u' chain } cs rfl rfl ht hf hk hR;exact ⟨e',w'',G,Z,Comes.of_steps (.head h1 (Steps.trans J (.one h2))) ab,O,aa⟩
def lu (P:Program) (fn:Func) (R:Ending→World→Prop):Exit→Act→World→Prop
 | .normal,a,w | .ret,a,w=>Je P fn a.tmps R a.defers .returning w
 | .panic chain,a,w=>Je P fn a.tmps R a.defers (.panicking chain) w
 | .outgrown,_,w=>R .outgrown w
 | _,_,_=>False
theorem TZ {args:Array Value} {R:Ending→World→Prop} (hf:P.funcs[f]?=some fn) (hb:fn.body=some c)
  (h:c.wpIn (wd none) 0 P (lu P fn R) { tmps:=args++Array.replicate (fn.ntmps - args.size) undef,defers:=[] } w):Calls P f args w R:=by
 have h:=wpIn_wide.1 h;intro cs
 let b:Frame:={ (default:Frame) with fn:=f,kind:=.normal }
 have Z:Frame.enter P f args .normal=b.at { tmps:=args++Array.replicate (fn.ntmps - args.size) undef,defers:=[] } [.code c]:=by
  simp [Frame.enter,Frame.at,hf,hb,b]
 obtain ⟨e,a',w',hq,G⟩:=h b [] cs;rw [← Z] at G;cases e with
 | normal =>
  obtain ⟨e',w'',O,hR,hs,Y,hl⟩:=L6 a'.defers .returning w' { b.at a' [] with mode:=.returning } cs rfl rfl rfl hf rfl hq;exact ⟨e',w'',O,hR,Comes.of_steps (Steps.trans G (.one step_end)) hs,Y,hl⟩
 | ret =>
  obtain ⟨todo,J⟩:=G;obtain ⟨e',w'',O,hR,hs,Y,hl⟩:=L6 a'.defers .returning w' { b.at a' todo with mode:=.returning } cs rfl rfl rfl hf rfl hq;exact ⟨e',w'',O,hR,Comes.of_steps J hs,Y,hl⟩
 | panic chain =>
  obtain ⟨todo,J⟩:=G;obtain ⟨e',w'',O,hR,hs,Y,hl⟩:=L6 a'.defers (.panicking chain) w' { b.at a' todo with mode:=.panicking chain } cs rfl rfl rfl hf rfl hq;exact ⟨e',w'',O,hR,Comes.of_steps J hs,Y,hl⟩
 | exit id=>exact hq.elim
 | goto l=>exact hq.elim
 | outgrown=>exact ⟨.outgrown,w',b,hq,G.resolve_left (by simp [b]),rfl,trivial⟩
theorem RJ {P:Program} {fn:Func} {tmps:Array Value} {R:Ending→World→Prop} {u:FrameMode} (hu:u ≠ .run) (ds:List Deferred):∀ (O:List Nat) (w:World),O.Nodup→(∀ r ∈ O,w.heap[r]?=some (.deferred (some []))) →
  (∀ w',UI O w w'→Je P fn tmps R ds u w')→Je P fn tmps R ((O.map fun r=>({ target:=.collected r,args:=#[] }:Deferred))++ds) u w
 | [],w,_,_,h=>h w ⟨rfl,rfl,rfl,rfl,fun _ _=>rfl,fun k G=>by cases G⟩
 | r :: O,w,hn,hb,h=>by
  have h0:=hb r zq;have hlt:r < w.heap.size:=(Ll.1 h0).1
  let Y:World:=w.putObj r (.deferred none)
  have J:∀ k:Nat,Y.heap[k]?=(w.heap.setIfInBounds r (.deferred none))[k]?:=fun k=>rfl
  have Z:(Instr.takeDeferred r).run P w=.ok [] Y:=run_takeDeferred h0;refine ⟨hu, .inl ⟨r,Y,rfl,Z,RJ hu ds O Y (List.nodup_cons.1 hn).2 ?_ ?_⟩⟩
  ·intro k G;have:r ≠ k:=fun e=>(List.nodup_cons.1 hn).1 (e ▸ G)
   rw [J,Array.getElem?_setIfInBounds_ne this];exact hb k (by simp [G])
  ·intro w' t;refine h w' ⟨t.os,t.tape,t.output,by rw [t.size]; simp [Y,World.putObj],fun k G=>?_,fun k G=>?_⟩
   ·simp only [List.mem_cons,not_or] at G;rw [t.same k G.2,J,Array.getElem?_setIfInBounds_ne (Ne.symm G.1)]
   ·rcases List.mem_cons.1 G with e | e
    ·subst e;rw [t.same k (List.nodup_cons.1 hn).1,J];simp [hlt]
    ·exact t.turn k e
theorem Qds {tmps:Array Value} {R:Ending→World→Prop} {u:FrameMode} (hu:u ≠ .run) (G:List Nat) (w:World) (J:G.Nodup) (hb:∀ r ∈ G,w.heap[r]?=some (.deferred (some [])))
  (h:∀ w',UI G w w'→Leaves P fn tmps R [] u w'):Je P fn tmps R (G.map fun r=>({ target:=.collected r,args:=#[] }:Deferred)) u w:=by
 have:=RJ (P:=P) (fn:=fn) (tmps:=tmps) (R:=R) hu [] G w J hb h;simpa using this
theorem Q8.turned {Z:List Nat} (r:Q8 φ M0 N D T h a w) (t:UI Z w w')
  (Y:∀ r ∈ Z,w.heap[r]?=some (.deferred (some []))∧∀ b,h b ≠ none→φ b ≠ r):Q8 φ M0 N ⟨[],0⟩ T h { a with defers:=[] } w':=by
 have G:∀ b k,h b=some k→w'.heap[φ b]?=w.heap[φ b]?:=fun b k hb=>t.same _ fun J=>(Y _ J).2 b (by rw [hb]; simp) rfl
 have X:VR φ h w φ h w':=⟨fun _ _ _ x=>⟨⟨_,_,x⟩,rfl⟩,fun b ty S n x=>⟨_,x,Nat.le_refl _,fun _=>Yp (rfl) (by rw [G _ _ x])⟩,
  fun b ty S n x=>⟨_,x,Nat.le_refl _,fun _=>⟨rfl,fun c hc=>⟨c,by rw [G _ _ x]; exact hc,rfl⟩⟩⟩,fun _ _ _ O h2=>⟨⟨_,O,h2⟩,rfl⟩⟩
 have hk:∀ r o v,w.cell? ⟨r,o,none⟩=some v→¬ MM φ h M0 r o→w'.cell? ⟨r,o,none⟩=some v∧¬ MM φ h M0 r o:=by
  intro x o v O h2;refine ⟨?_,h2⟩
  have:x ∉ Z:=fun J=>by
   have:=(Y x J).1;simp [World.cell?,this] at O
  rw [← O];simp [World.cell?,t.same x this]
 refine ⟨⟨Nat.zero_le _,[],rfl,List.nodup_nil,fun r hr=>by cases hr⟩,r.siz,⟨r.hp.inj,fun b k hb=>ZI hk X (G b k hb) (r.hp.blk b k hb),r.hp.fr,fun x o J=>by rw [t.size]; exact r.hp.lt x o J,xz (fun g hg=>t.same g fun J=>Qgn r.hp.gm.w g hg _ (Y g J).1) r.hp.gm.w,r.hp.gm.m⟩,
  fun x y J=>⟨(r.tm x y J).1,(QJ hk X).1 _ _ (r.tm x y J).2⟩⟩
theorem LJ {O:List Nat} (t:UI O w w') (hm:∀ r ∈ O,w.heap[r]?=some (.deferred (some []))∧∀ b,h b ≠ none→φ b ≠ r) (x:AV) (v:Value)
  (hv:Qe φ h w (MM φ h M0) x v):Qe φ h w' (MM φ h M0) x v:=by
 have G:∀ b k,h b=some k→w'.heap[φ b]?=w.heap[φ b]?:=fun b k hb=>t.same _ fun Y=>(hm _ Y).2 b (by rw [hb]; simp) rfl
 have X:VR φ h w φ h w':=⟨fun _ _ _ x=>⟨⟨_,_,x⟩,rfl⟩,fun b ty S n x=>⟨_,x,Nat.le_refl _,fun _=>Yp (rfl) (by rw [G _ _ x])⟩,
  fun b ty S n x=>⟨_,x,Nat.le_refl _,fun _=>⟨rfl,fun c hc=>⟨c,by rw [G _ _ x]; exact hc,rfl⟩⟩⟩,fun _ _ _ J Z=>⟨⟨_,J,Z⟩,rfl⟩⟩
 refine (QJ (fun r o v J Z=>⟨?_,Z⟩) X).1 _ _ hv
 have:r ∉ O:=fun Y=>by
  have:=(hm r Y).1;simp [World.cell?,this] at J
 rw [← J];simp [World.cell?,t.same r this]
theorem QW.turned {ms:List Nat} (E:QW φ h w φ' h' w') (t:UI ms w' w'') (aa:∀ r ∈ ms,w.heap.size≤r)
  (hm:∀ r ∈ ms,w'.heap[r]?=some (.deferred (some []))∧∀ b,h' b ≠ none→φ' b ≠ r):QW φ h w φ' h' w'':=by
 have O:∀ r,r < w.heap.size→w''.heap[r]?=w'.heap[r]?:=fun r hr=>t.same r fun Y=>by have:=aa r Y; omega
 have G:∀ b k,h' b=some k→w''.heap[φ' b]?=w'.heap[φ' b]?:=fun b k hb=>t.same _ fun Y=>(hm _ Y).2 b (by rw [hb]; simp) rfl
 refine ⟨t.os.trans E.os,t.tape.trans E.tape,t.output.trans E.output,by rw [t.size]; exact E.size,fun r hr ab=>(O r hr).trans (E.same r hr ab),fun r o hr hm=>?_,E.mu,E.kb,?_,?_,E.ko⟩
 ·rw [← E.cell r o hr hm]; simp [World.cell?,O r hr]
 ·intro b ty S n hb Y;obtain ⟨n',Z,h2,J⟩:=E.kt b ty S n hb Y;refine ⟨n',Z,h2,fun e=>⟨fun h=>by rw [G b _ Z]; exact (J e).1 h,(J e).2.imp (fun h=>h) fun J=>⟨J.1,fun c hc=>?_⟩⟩⟩;obtain ⟨c',h4,h5⟩:=J.2 c hc;exact ⟨c',by rw [← J.1,G b _ Z,J.1]; exact h4,h5⟩
 ·intro b ty S n hb Y;obtain ⟨n',Z,h2,J⟩:=E.kv b ty S n hb Y;refine ⟨n',Z,h2,fun e=>⟨(J e).1,fun c hc=>?_⟩⟩;obtain ⟨c',h4,h5⟩:=(J e).2 c hc;exact ⟨c',by rw [← (J e).1,G b _ Z,(J e).1]; exact h4,h5⟩
def Out (R:ZB→QH→Prop) (φ:Nat→Nat) (h:QH) (w:World) (M0:Zr) (e:Ending) (w':World):Prop :=
 ∃ φ' r h',R r h'∧Zz φ' h' w' M0∧QW φ h w φ' h' w'∧QaK φ' h' w' (MM φ' h' M0) r e
theorem MG {G:List Value} (hH:Zz φ h w M0) (O:Qi φ h w (MM φ h M0) args G) (hl:args.length≤n) :
  Q8 φ M0 n ⟨[],w.heap.size⟩ (look (YW 0 args)) h { tmps:=G.toArray++Array.replicate (n - G.toArray.size) undef,defers:=[] } w:=by
 have Y:=Zt O;refine ⟨⟨Nat.le_refl _,[],rfl,List.nodup_nil,fun r hr=>by cases hr⟩,by simp; omega,hH,fun t x Z=>?_⟩;obtain ⟨_,J⟩:=qE args 0 t x Z;simp only [Nat.sub_zero] at J;have hlt:t < args.length:=(List.getElem?_eq_some_iff.1 J).1;obtain ⟨v,h3,h4⟩:=Uy O J;refine ⟨by omega,?_⟩
 have:(G.toArray++Array.replicate (n - G.toArray.size) undef).getD t undef=v:=by
  rw [Array.getD_eq_getD_getElem?,Array.getElem?_append_left (by simp; omega)];simp [h3]
 rw [this];exact h4
theorem Ic {vs:List Value} {h:List (Nat × Blk)} (hf:P.funcs[f]?=some fn) (hb:fn.body=some c)
  (hl:args.length≤fn.ntmps) (hH:Zz φ (look h) w M0) (ha:Qi φ (look h) w (MM φ (look h) M0) args vs) (hx:Ex P fn.ntmps none c ⟨YW 0 args,h⟩ Q)
  (O:∀ x s φ' a w',Q x s→x=.normal∨x=.ret→Q8 φ' M0 fn.ntmps ⟨[],0⟩ (look s.T) (look s.H) a w'→QW φ (look h) w φ' (look s.H) w'→∃ v,(results fn a.tmps).run P w'=.ok v w'∧Out R φ (look h) w M0 (.returned v) w')
  (ab:∀ x s φ' a w' v,Q (.panic x) s→Q8 φ' M0 fn.ntmps ⟨[],0⟩ (look s.T) (look s.H) a w'→QW φ (look h) w φ' (look s.H) w'→Qe φ' (look s.H) w' (MM φ' (look s.H) M0) x v→Out R φ (look h) w M0 (.panicked [{ v:=v,recovered:=false }]) w')
  (aa:∀ i s,¬ Q (.exit i) s):Calls P f vs.toArray w (Out R φ (look h) w M0):=by
 refine TZ hf hb (wpIn_mono (hx φ M0 _ _ w (MG hH ha hl)) ?_);rintro e a' w' ⟨φ',k,s',h1,h2,h3,h4⟩;obtain ⟨ae,ms,hd,ac,Z⟩:=h2.dfs;have ad:a'.defers=ms.map fun r=>({ target:=.collected r,args:=#[] }:Deferred):=by rw [hd]; simp
 have Y:∀ r ∈ ms,w'.heap[r]?=some (.deferred (some []))∧∀ b,look s'.H b ≠ none→φ' b ≠ r:=fun r hr=>(Z r hr).2
 have go:∀ (u:FrameMode),u ≠ .run→(∀ w'',UI ms w' w''→Q8 φ' M0 fn.ntmps ⟨[],0⟩ (look s'.T) (look s'.H) { a' with defers:=[] } w''→QW φ (look h) w φ' (look s'.H) w''→Leaves P fn a'.tmps (Out R φ (look h) w M0) [] u w'') →
   Je P fn a'.tmps (Out R φ (look h) w M0) a'.defers u w':=by
  intro u hu g;rw [ad];exact Qds hu ms w' ac (fun r hr=>(Z r hr).2.1) (fun w'' t=>g w'' t (h2.turned t Y) (h3.turned t (fun r hr=>(Z r hr).1) Y))
 cases k with
 | normal =>
  simp only [J7] at h4;subst h4;exact go .returning zq fun w'' t J G=>O _ _ _ { a' with defers:=[] } _ h1 (.inl rfl) J G
 | ret =>
  simp only [J7] at h4;subst h4;exact go .returning zq fun w'' t J G=>O _ _ _ { a' with defers:=[] } _ h1 (.inr rfl) J G
 | exit i=>exact absurd h1 (aa i s')
 | panic x =>
  obtain ⟨v,rfl,h5⟩:=h4;refine go (.panicking [{ v:=v,recovered:=false }]) zq fun w'' t J G=>ab _ _ _ _ _ _ h1 J G ?_
  exact LJ t Y _ _ h5
theorem uu {R:ZB→Prop} (hf:P.funcs[f]?=some fn) (hb:fn.body=some c) (hl:args.length≤fn.ntmps)
  (h:Ex P fn.ntmps none c ⟨YW 0 args,[]⟩ (QaR P fn R)):Qid P f args R:=by
 intro φ M0 w vs hH ha;have hE:∀ {φ':Nat→Nat} {s:St} {w':World},QW φ Ff w φ' (look s.H) w'→QW φ Ff w φ' Ff w':=fun E=>lq E
 have Z:∀ {φ':Nat→Nat} {s:St} {w':World},∀ r o v,w'.cell? ⟨r,o,none⟩=some v→¬ MM φ' (look s.H) M0 r o→w'.cell? ⟨r,o,none⟩=some v∧¬ MM φ' Ff M0 r o:=fun r o v g1 g2=>⟨g1,fun g3=>g3.elim We (fun g4=>g2 (.inr g4))⟩
 refine Ic (h:=[]) hf hb hl hH ha h ?_ ?_ ?_
 ·intro x s φ' a w' G hx r E;have Y:∃ x y,TY P fn (look s.T) (look s.H)=some x∧le x y∧KZ y=true∧R (.ret y):=by rcases hx with rfl | rfl <;> exact G
  obtain ⟨x,y,g1,g2,g3,g4⟩:=Y;obtain ⟨v,g5,g6⟩:=dK r g1;exact ⟨v,g5,φ', .ret y,Ff,⟨g4,rfl⟩,Hw (fun x o J=>r.hp.lt x o J) r.hp.gm.w (fun g O o h=>r.hp.gm.m g O o (.inr h)),hE E,v,rfl,(WR Z).1 _ _ g3 (JX.1 _ _ _ g2 g6)⟩
 ·intro x s φ' a w' v G r E hv;exact ⟨φ', .panic x,Ff,⟨G.2,rfl⟩,Hw (fun x o J=>r.hp.lt x o J) r.hp.gm.w (fun g O o h=>r.hp.gm.m g O o (.inr h)),hE E,v,rfl,(WR Z).1 _ _ G.1 hv⟩
 ·intro i s G;exact G
theorem uw {X:ZB} (hf:P.funcs[f]?=some fn) (hb:fn.body=some c) (G:args.length≤fn.ntmps)
  (h:Ex P fn.ntmps none c ⟨YW 0 args,[]⟩ (QaR P fn (·=X))):QC P f args X:=uu hf hb G h
theorem uy:(∀ x:AV,le x x)∧(∀ xs:List AV,Ef xs xs):=by
 have key:∀ n:Nat,(∀ (x:AV),SizeOf.sizeOf x≤n→le x x)∧(∀ (xs:List AV),SizeOf.sizeOf xs≤n→Ef xs xs):=by
  intro n
  induction n with
  | zero =>
   refine ⟨fun x G=>?_,fun es G=>?_⟩
   ·cases x <;> simp at G
   ·cases es <;> simp at G
  | succ n O =>
   obtain ⟨J,i2⟩:=O;refine ⟨fun x G=>?_,fun xs G=>?_⟩
   ·cases x with
    | p x=>cases x <;> simp [le]
    | agg cs=>simp only [le]; exact ⟨cs,rfl,i2 cs (by simp at G; omega)⟩
    | tup cs=>simp only [le]; exact ⟨cs,rfl,i2 cs (by simp at G; omega)⟩
    | _=>simp [le]
   ·cases xs with
    | nil=>simp [Ef]
    | cons x xs=>simp only [Ef]; simp at G; exact ⟨x,xs,rfl,J x zo,i2 xs zo⟩
 exact ⟨fun x=>(key (SizeOf.sizeOf x)).1 x (Nat.le_refl _),fun xs=>(key (SizeOf.sizeOf xs)).2 xs (Nat.le_refl _)⟩
theorem le_refl (x:AV):le x x:=uy.1 x
theorem uz (xs:List AV):Ef xs xs:=uy.2 xs
mutual
def ZX (h:QH):AV→Bool
 | .p _=>true
 | .eptr _=>true
 | .tsl _ _ t=>(h t).isSome
 | .ptr b _=>(h b).isSome
 | .vnil=>true
 | .vsl _ t _=>(h t).isSome
 | .vptr t _ _ _=>(h t).isSome
 | .yv b=>(h b).isSome
 | .mv b=>(h b).isSome
 | .bsl b _=>(h b).isSome
 | .sfp b=>(h b).isSome
 | .iv b=>(h b).isSome
 | .agg cs=>Z6 h cs
 | .tup cs=>Z6 h cs
 | .fn _ a b=>Z6 h a&&Z6 h b
 | .ifc _ x=>ZX h x
def Z6 (h:QH):List AV→Bool
 | []=>true
 | x :: xs=>ZX h x&&Z6 h xs
end
theorem Ej (h:QH):∀ l:List PV,Z6 h (l.map .p)=true
 | []=>by simp [Z6]
 | x :: l=>by simp [Z6,ZX,Ej h l]
def leB:Blk→Blk→Prop
 | .box ty cs,k=>∃ cs',k=.box ty cs'∧Ef cs cs'
 | .arr ty S n,k=>k=.arr ty S n
 | .vec ty S es,k=>k=.vec ty S es
 | .lp T nf st pd,k=>k=.lp T nf st pd
 | .mp es,k=>k=.mp es
 | .mf es,k=>k=.mf es
 | .mg J G es,k=>k=.mg J G es
 | .it m G O,k=>k=.it m G O
theorem X5 {k k':Blk} {x:OB} (h:leB k k') (G:k.ob=some x):k'.ob=some x:=by
 cases k with
 | box ty cs=>cases G
 | arr ty S n=>cases G
 | vec ty S es=>cases G
 | lp T nf st pd=>simp only [leB] at h; subst h; exact G
 | mp es=>simp only [leB] at h; subst h; exact G
 | mf es=>simp only [leB] at h; subst h; exact G
 | mg O J es=>simp only [leB] at h; subst h; exact G
 | it m J Y=>simp only [leB] at h; subst h; exact G
theorem Em (hM:∀ r o,M' r o→M r o) (hh:∀ b k',h' b=some k'→∃ k,h b=some k∧leB k k') :
  (∀ (x:AV) (v:Value),ZX h' x=true→Qe φ h w M x v→Qe φ h' w M' x v)∧(∀ (xs:List AV) (l:List Value),Z6 h' xs=true→Qi φ h w M xs l→Qi φ h' w M' xs l):=by
 obtain ⟨kp,ke,kc⟩:=ZP (w:=w) (w':=w) (M:=M) (M':=M') (fun r o v Y Z=>⟨Y,fun h3=>Z (hM r o h3)⟩)
 have key:∀ n:Nat,(∀ (x:AV),SizeOf.sizeOf x≤n→∀ v,ZX h' x=true→Qe φ h w M x v→Qe φ h' w M' x v)∧(∀ (xs:List AV),SizeOf.sizeOf xs≤n→∀ l,Z6 h' xs=true→Qi φ h w M xs l→Qi φ h' w M' xs l):=by
  intro n
  induction n with
  | zero =>
   refine ⟨fun x hx=>?_,fun es hx=>?_⟩
   ·cases x <;> simp at hx
   ·cases es <;> simp at hx
  | succ n ih =>
   obtain ⟨i1,i2⟩:=ih;refine ⟨fun x hx v O J=>?_,fun xs hx l O J=>?_⟩
   ·cases x with
    | p x=>simp only [Qe] at J ⊢; exact kp x v J
    | tsl S es t =>
     simp only [ZX] at O;obtain ⟨k',G⟩:=TD.1 O;simp only [Qe] at J ⊢;obtain ⟨Y,ty,m,Z,h3⟩:=J;obtain ⟨k,e1,e2⟩:=hh t k' G;rw [Z] at e1;cases e1;simp only [leB] at e2;exact ⟨kp _ _ Y,ty,m,by rw [G,e2],h3⟩
    | ptr b off =>
     simp only [ZX] at O;obtain ⟨k',G⟩:=TD.1 O;simp only [Qe] at J ⊢;obtain ⟨Y,ty,cs,Z⟩:=J;obtain ⟨k,e1,e2⟩:=hh b k' G;rw [Z] at e1;cases e1;simp only [leB] at e2;obtain ⟨cs',e3,_⟩:=e2;exact ⟨Y,ty,cs',by rw [G,e3]⟩
    | bsl b n =>
     simp only [ZX] at O;obtain ⟨k',G⟩:=TD.1 O;simp only [Qe] at J ⊢;obtain ⟨Y,ty,cs,Z⟩:=J;obtain ⟨k,e1,e2⟩:=hh b k' G;rw [Z] at e1;cases e1;simp only [leB] at e2;obtain ⟨cs',e3,_⟩:=e2;exact ⟨Y,ty,cs',by rw [G,e3]⟩
    | sfp b =>
     simp only [ZX] at O;obtain ⟨k',G⟩:=TD.1 O;simp only [Qe] at J ⊢;obtain ⟨Y,ty,cs,Z⟩:=J;obtain ⟨k,e1,e2⟩:=hh b k' G;rw [Z] at e1;cases e1;simp only [leB] at e2;obtain ⟨cs',e3,_⟩:=e2;exact ⟨Y,ty,cs',by rw [G,e3]⟩
    | vnil=>simp only [Qe] at J ⊢; exact J
    | vsl S t n =>
     simp only [ZX] at O;obtain ⟨k',G⟩:=TD.1 O;simp only [Qe] at J ⊢;obtain ⟨Y,ty,m,Z,h3⟩:=J;obtain ⟨k,e1,e2⟩:=hh t k' G;rw [Z] at e1;cases e1;simp only [leB] at e2;exact ⟨Y,ty,m,by rw [G,e2],h3⟩
    | vptr t n k f =>
     simp only [ZX] at O;obtain ⟨k',G⟩:=TD.1 O;simp only [Qe] at J ⊢;obtain ⟨Y,ty,S,m,Z,h3⟩:=J;obtain ⟨k,e1,e2⟩:=hh t k' G;rw [Z] at e1;cases e1;simp only [leB] at e2;exact ⟨Y,ty,S,m,by rw [G,e2],h3⟩
    | yv b =>
     simp only [ZX] at O;obtain ⟨k',G⟩:=TD.1 O;simp only [Qe] at J ⊢;obtain ⟨Y,k,T,nf,Z,h3⟩:=J;obtain ⟨k2,e1,e2⟩:=hh b k' G;rw [Z] at e1;cases e1;exact ⟨Y,k',T,nf,G,X5 e2 h3⟩
    | mv b =>
     simp only [ZX] at O;obtain ⟨k',G⟩:=TD.1 O;simp only [Qe] at J ⊢;obtain ⟨Y,k,Z,h3⟩:=J;obtain ⟨k2,e1,e2⟩:=hh b k' G;rw [Z] at e1;cases e1;exact ⟨Y,k',G,X5 e2 h3⟩
    | iv b =>
     simp only [ZX] at O;obtain ⟨k',G⟩:=TD.1 O;simp only [Qe] at J ⊢;obtain ⟨Y,k,Z,h3⟩:=J;obtain ⟨k2,e1,e2⟩:=hh b k' G;rw [Z] at e1;cases e1;exact ⟨Y,k',G,X5 e2 h3⟩
    | eptr cs =>
     simp only [Qe] at J ⊢;obtain ⟨r,o,Y,Z⟩:=J;exact ⟨r,o,Y,kc cs r o Z⟩
    | agg cs =>
     simp only [Qe,ZX] at J O ⊢;obtain ⟨l,Y,Z⟩:=J;exact ⟨l,Y,i2 cs (by simp at hx; omega) l O Z⟩
    | tup cs =>
     simp only [Qe,ZX] at J O ⊢;obtain ⟨l,Y,Z⟩:=J;exact ⟨l,Y,i2 cs (by simp at hx; omega) l O Z⟩
    | fn f a b =>
     simp only [Qe,ZX,Zf] at J O ⊢;obtain ⟨l,m,Y,Z,h3⟩:=J;simp at hx;exact ⟨l,m,Y,i2 a zo l O.1 Z,i2 b zo m O.2 h3⟩
    | ifc t x =>
     simp only [Qe,ZX] at J O ⊢;obtain ⟨y,Y,Z⟩:=J;exact ⟨y,Y,i1 x (by simp at hx; omega) y O Z⟩
   ·cases xs with
    | nil=>simpa [Qi] using J
    | cons x xs =>
     simp only [Qi,Z6,Zf] at J O ⊢;simp at hx;obtain ⟨y,ys,Y,Z,h3⟩:=J;exact ⟨y,ys,Y,i1 x zo y O.1 Z,i2 xs zo ys O.2 h3⟩
 exact ⟨fun x v=>(key (SizeOf.sizeOf x)).1 x (Nat.le_refl _) v,fun xs l=>(key (SizeOf.sizeOf xs)).2 xs (Nat.le_refl _) l⟩
def leO:Option AV→AV→Prop
 | some y,x=>le y x
 | none,_=>False
def Qgv:Option Blk→Blk→Prop
 | some k,k'=>leB k k'
 | none,_=>False
def qH (T:Nat→Option AV) (h':QH):List (Nat × AV)→Prop
 | []=>True
 | (t,x) :: l=>leO (T t) x∧ZX h' x=true∧qH T h' l
def okRefB (h:QH):Blk→Bool
 | .box _ cs=>Z6 h cs
 | .arr _ _ _=>true
 | .vec _ _ _=>true
 | .lp T _ _ _=>Z6 h (T.map (·.2))
 | .mp es=>true
 | .mf es=>Z6 h (es.map (·.2.2))
 | .mg _ _ es=>Z6 h (es.map (·.2.2))
 | .it m _ _=>(h m).isSome
def M4 (h h':QH):List (Nat × Blk)→Prop
 | []=>True
 | (b,k) :: l=>Qgv (h b) k∧okRefB h' k=true∧M4 h h' l
def K4 (h':QH):List (Nat × Blk)→Bool
 | []=>true
 | (b,_) :: l=>(decide (b < 1000)||(h' b).isSome)&&K4 h' l
theorem MH {T:Nat→Option AV} {h':QH}:∀ {l:List (Nat × AV)},qH T h' l→∀ t x,look l t=some x→∃ y,T t=some y∧le y x∧ZX h' x=true
 | [],_,t,x,G=>by simp [look] at G
 | (t0,J) :: l,hs,t,x,G=>by
  simp only [qH] at hs;simp only [look] at G;by_cases e:t0=t
  ·simp only [e,if_true,QO] at G;subst G e;cases hq:T t0 with
   | none=>rw [hq] at hs; exact hs.1.elim
   | some y=>rw [hq] at hs; exact ⟨y,rfl,hs.1,hs.2.1⟩
  ·simp only [e,if_false] at G;exact MH hs.2.2 t x G
theorem JJ {h h':QH}:∀ {l:List (Nat × Blk)},M4 h h' l→∀ b k',look l b=some k'→(∃ k,h b=some k∧leB k k')∧okRefB h' k'=true
 | [],_,t,x,G=>by simp [look] at G
 | (t0,J) :: l,hs,t,x,G=>by
  simp only [M4] at hs;simp only [look] at G;by_cases e:t0=t
  ·simp only [e,if_true,QO] at G;subst G e;cases hq:h t0 with
   | none=>rw [hq] at hs; exact hs.1.elim
   | some y=>rw [hq] at hs; exact ⟨⟨y,rfl,hs.1⟩,hs.2.1⟩
  ·simp only [e,if_false] at G;exact JJ hs.2.2 t x G
theorem Kz {h':QH}:∀ {l:List (Nat × Blk)},K4 h' l=true→∀ b k,1000≤b→look l b=some k→∃ k',h' b=some k'
 | [],_,b,k,_,G=>by simp [look] at G
 | (O,Y) :: l,hs,b,k,hb,G=>by
  simp only [K4,Zf,Bool.or_eq_true,decide_eq_true_eq] at hs;simp only [look] at G;by_cases e:O=b
  ·subst e;rcases hs.1 with J | J
   ·omega
   ·exact TD.1 J
  ·simp only [e,if_false] at G;exact Kz hs.2 b k hb G
theorem RL (h:QH):∀ (es:List (Value × PV)),Z6 h (es.map fun p=>.p p.2)=true
 | []=>rfl
 | x :: es=>by simp only [List.map_cons,Z6,ZX,Bool.true_and]; exact RL h es
theorem WS {h:QH}:∀ {es:List (Bool × List UInt8 × AV)},Z6 h (es.map (·.2.2))=true→Z6 h ((TE es).map (·.2.2))=true
 | [],_=>rfl
 | (f,k,x) :: es,G=>by
  simp only [List.map_cons,Z6,Zf] at G;cases f with
  | false=>exact WS (es:=es) G.2
  | true=>simp only [TE,List.filter_cons_of_pos,List.map_cons,Z6,Zf]; exact ⟨G.1,WS (es:=es) G.2⟩
theorem Hz {h:QH}:∀ {T:List (Nat × AV)} {t:Nat} {x:AV},Z6 h (T.map (·.2))=true→look T t=some x→ZX h x=true
 | [],t,x,_,G=>by simp [look] at G
 | (k,y) :: T,t,x,J,G=>by
  simp only [List.map_cons,Z6,Zf] at J;simp only [look] at G;by_cases e:k=t
  ·simp only [e,if_true,QO] at G;subst G;exact J.1
  ·simp only [e,if_false] at G;exact Hz J.2 G
theorem uA (hT:qH (look s.T) (look s'.H) s'.T) (hH:M4 (look s.H) (look s'.H) s'.H) (hK:K4 (look s'.H) s.H=true) (r:Q8 φ M0 N D (look s.T) (look s.H) a w):Q8 φ M0 N D (look s'.T) (look s'.H) a w∧QW φ (look s.H) w φ (look s'.H) w:=by
 have hh:∀ b k',look s'.H b=some k'→∃ k,look s.H b=some k∧leB k k':=fun b k' hb=>(JJ hH b k' hb).1
 have ac:∀ r o,Cb φ (look s'.H) r o→Cb φ (look s.H) r o:=by
  rintro x o ⟨b,k',O,G,J⟩;obtain ⟨k,Z,h5⟩:=hh b k' O;refine ⟨b,k,Z,G,?_⟩;cases k with
  | box ty cs=>trivial
  | arr ty S n=>simp only [leB] at h5; subst h5; exact J
  | vec ty S es=>trivial
  | lp T nf st pd=>trivial
  | mp es=>trivial
  | mf es=>trivial
  | mg en cl es=>trivial
  | it m cl sn=>trivial
 have hM:∀ r o,MM φ (look s'.H) M0 r o→MM φ (look s.H) M0 r o:=fun x o hx=>hx.elim (fun h=>.inl (ac x o h)) .inr
 have Y:∀ b,look s'.H b ≠ none→look s.H b ≠ none:=fun b hb=>by
  cases hq:look s'.H b with
  | none=>exact absurd hq hb
  | some k'=>obtain ⟨k,O,_⟩:=hh b k' hq; rw [O]; simp
 obtain ⟨c1,c2⟩:=Em (φ:=φ) (w:=w) hM hh
 have af:Zz φ (look s'.H) w M0:=by
  refine ⟨fun b c hb hc=>r.hp.inj b c (Y b hb) (Y c hc),fun b k' hb=>?_,fun b hb=>r.hp.fr b (Y b hb),r.hp.lt,r.hp.gm.sub hM⟩;obtain ⟨⟨k,O,G⟩,J⟩:=JJ hH b k' hb;have Z:=r.hp.blk b k O;cases k with
  | box ty cs =>
   simp only [leB] at G;obtain ⟨cs',rfl,h5⟩:=G;obtain ⟨c,h6,h7⟩:=Z;exact ⟨c,h6,c2 _ _ J (JX.2 _ _ _ h5 h7)⟩
  | arr ty S n=>simp only [leB] at G; subst G; exact Z
  | vec ty S es =>
   simp only [leB] at G;subst G;obtain ⟨c,cap,g1,g2,g3,g4,g5,g6,g7⟩:=Z;exact ⟨c,cap,g1,g2,g3,g4,g5,g6,c2 _ _ (Ej _ _) g7⟩
  | lp T nf st pd =>
   simp only [leB] at G;subst G;obtain ⟨tmps,d,g1,g2,g3⟩:=Z;exact ⟨tmps,d,g1,g2,fun t x ht=>⟨(g3 t x ht).1,c1 _ _ (Hz J ht) (g3 t x ht).2⟩⟩
  | mp es =>
   simp only [leB] at G;subst G;obtain ⟨en,cl,g1,g2,g3⟩:=Z;exact ⟨en,cl,g1,g2,c2 _ _ (RL _ _) g3⟩
  | mf es =>
   simp only [leB] at G;subst G;obtain ⟨en,cl,g1,g2,g3,g5⟩:=Z;exact ⟨en,cl,g1,g2,c2 _ _ (WS J) g3,g5⟩
  | mg en cl es =>
   simp only [leB] at G;subst G;obtain ⟨g1,g2,g3,g5⟩:=Z;exact ⟨g1,g2,c2 _ _ (WS J) g3,g5⟩
  | it m cl sn =>
   simp only [leB] at G;subst G;obtain ⟨g1,k0,g2,g3⟩:=Z;obtain ⟨km,ad⟩:=TD.1 J;obtain ⟨k1,g5,g6⟩:=hh m km ad;rw [g2] at g5;cases g5;exact ⟨g1,km,ad,X5 g6 g3⟩
 have ae:Marks φ D (look s'.H) a w:=by
  obtain ⟨h0,ms,O,G,J⟩:=r.dfs;exact ⟨h0,ms,O,G,fun x hx=>⟨(J x hx).1,(J x hx).2.1,fun b hb=>(J x hx).2.2 b (Y b hb)⟩⟩
 refine ⟨⟨ae,r.siz,af,fun t x ht=>?_⟩,⟨rfl,rfl,rfl,Nat.le_refl _,fun _ _ _=>rfl,fun _ _ _ _=>rfl,fun x o _ hx=>ac x o hx,?_,?_,?_,?_⟩⟩
 ·obtain ⟨y,O,G,J⟩:=MH hT t x ht;exact ⟨(r.tm t y O).1,c1 _ _ J (JX.1 _ _ _ G (r.tm t y O).2)⟩
 ·intro b ty cs hb ab;obtain ⟨k',O⟩:=Kz hK b _ hb ab;obtain ⟨k,G,J⟩:=hh b k' O;rw [ab] at G;cases G;simp only [leB] at J;obtain ⟨cs',Z,_⟩:=J;exact ⟨⟨cs',by rw [O,Z]⟩,rfl⟩
 ·intro t ty S n ht aa;obtain ⟨k',O⟩:=Kz hK t _ ht aa;obtain ⟨k,G,J⟩:=hh t k' O;rw [aa] at G;cases G;simp only [leB] at J;exact ⟨n,by rw [O,J],Nat.le_refl _,fun _=>Yp (rfl) rfl⟩
 ·intro t ty S n ht aa;obtain ⟨k',O⟩:=Kz hK t _ ht aa;obtain ⟨k,G,J⟩:=hh t k' O;rw [aa] at G;cases G;simp only [leB] at J;exact ⟨n,by rw [O,J],Nat.le_refl _,fun _=>⟨rfl,fun c hc=>⟨c,hc,rfl⟩⟩⟩
 ·intro b k x hb ab ho;obtain ⟨k',O⟩:=Kz hK b _ hb ab;obtain ⟨k2,G,J⟩:=hh b k' O;rw [ab] at G;cases G;exact ⟨⟨k',O,X5 J ho⟩,rfl⟩
theorem QaS (G:qH (look s.T) (look s'.H) s'.T) (J:M4 (look s.H) (look s'.H) s'.H) (O:K4 (look s'.H) s.H=true):Weak N s s' :=
 fun φ _ _ _ _ r=>⟨φ,uA G J O r⟩
attribute [go_sem] TN P6 O6 xM
attribute [go_sem ↓] K3 X3 Km ZE GV
attribute [go_sem] yieldOf ZC Zd Jk VT Zc SK O4 look YW XV St.put zR KE TF SN aUn xP NI GR P7 ww PW O1 zX cellsOf UB AV.one Gt Xr Xt FM QaI Hu isB elems xI O3 SI FH RF Jn Hr UD Qaz xW Mo aEq nG eqV eqV.eqFs CW isConst SH NG O5 PX vZ Ht TP XI LC NJ isNil ZO dA qb NK Xw Xv nu TT qc nA Mj Value.oneCell' TY yK Qdq ZE GV tH DC CS QaB Ni
mutual
def WT (ρ:Nat→Nat):AV→AV
 | .p x=>.p x
 | .eptr cs=>.eptr cs
 | .tsl S es t=>.tsl S es (ρ t)
 | .ptr b off=>.ptr (ρ b) off
 | .vnil=>.vnil
 | .vsl S t n=>.vsl S (ρ t) n
 | .vptr t n k f=>.vptr (ρ t) n k f
 | .yv b=>.yv (ρ b)
 | .mv b=>.mv (ρ b)
 | .bsl b n=>.bsl (ρ b) n
 | .sfp b=>.sfp (ρ b)
 | .iv b=>.iv (ρ b)
 | .agg cs=>.agg (VC ρ cs)
 | .tup cs=>.tup (VC ρ cs)
 | .fn f a b=>.fn f (VC ρ a) (VC ρ b)
 | .ifc t x=>.ifc t (WT ρ x)
def VC (ρ:Nat→Nat):List AV→List AV
 | []=>[]
 | x :: xs=>WT ρ x :: VC ρ xs
end
def ZM (ρ:Nat→Nat):Blk→Blk
 | .box ty cs=>.box ty (VC ρ cs)
 | .arr ty S n=>.arr ty S n
 | .vec ty S es=>.vec ty S es
 | .lp T nf st pd=>.lp (T.map fun p=>(p.1,WT ρ p.2)) nf st pd
 | .mp es=>.mp es
 | .mf es=>.mf (es.map fun e=>(e.1,e.2.1,WT ρ e.2.2))
 | .mg O G es=>.mg O G (es.map fun e=>(e.1,e.2.1,WT ρ e.2.2))
 | .it m G J=>.it (ρ m) G J
def kE (ρ:Nat→Nat):OB→OB
 | .lp T nf=>.lp (T.map fun p=>(p.1,WT ρ p.2)) nf
 | .mp=>.mp
theorem Jf (ρ:Nat→Nat) (k:Blk):(ZM ρ k).ob=k.ob.map (kE ρ):=by cases k <;> rfl
theorem Qgw {k:Blk} (h:(ZM ρ k).ob=some .mp):k.ob=some .mp:=by
 rw [Jf] at h;cases hk:k.ob with
 | none=>rw [hk] at h; cases h
 | some x =>
  rw [hk] at h;cases x with
  | mp=>rfl
  | lp T nf=>simp [kE] at h
theorem RN (ρ:Nat→Nat):∀ (T:List (Nat × AV)) (t:Nat),look (T.map fun p=>(p.1,WT ρ p.2)) t=(look T t).map (WT ρ)
 | [],t=>rfl
 | (k,v) :: T,t=>by
  simp only [List.map_cons,look];by_cases e:k=t
  ·simp [e]
  ·simp only [e,if_false]; exact RN ρ T t
theorem qI (ρ:Nat→Nat):∀ (es:List (Value × PV)),VC ρ (es.map fun p=>.p p.2)=es.map fun p=>.p p.2
 | []=>rfl
 | x :: es=>by simp only [List.map_cons,VC,WT]; rw [qI ρ es]
theorem UZ (ρ:Nat→Nat):∀ (es:List (Bool × List UInt8 × AV)),(TE (es.map fun e=>(e.1,e.2.1,WT ρ e.2.2))).map (·.2.2)=VC ρ ((TE es).map (·.2.2))
 | []=>rfl
 | (f,k,x) :: es=>by
  cases f with
  | false=>exact UZ ρ es
  | true =>
   have:=UZ ρ es;simp only [TE] at this ⊢;simp only [List.map_cons,List.filter_cons_of_pos,VC,this]
theorem U0 (ρ:Nat→Nat):∀ (es:List (Bool × List UInt8 × AV)),(TE (es.map fun e=>(e.1,e.2.1,WT ρ e.2.2))).map (fun e=>Iz e.2.1)=(TE es).map (fun e=>Iz e.2.1)
 | []=>rfl
 | (f,k,x) :: es=>by
  cases f with
  | false=>exact U0 ρ es
  | true =>
   have:=U0 ρ es;simp only [TE] at this ⊢;simp only [List.map_cons,List.filter_cons_of_pos,this]
section
variable {ρ φ φc:Nat→Nat} {h hc:QH} {w:World} {M Mc:Zr}
theorem Qgx (aa:∀ c,hc c ≠ none→φc c=φ (ρ c)) (hM:∀ r o,Mc r o→M r o) (hh:∀ c k,hc c=some k→∃ k0,h (ρ c)=some k0∧leB k0 (ZM ρ k)) :
  (∀ (x:AV) (v:Value),ZX hc x=true→Qe φ h w M (WT ρ x) v→Qe φc hc w Mc x v)∧(∀ (xs:List AV) (l:List Value),Z6 hc xs=true→Qi φ h w M (VC ρ xs) l→Qi φc hc w Mc xs l):=by
 obtain ⟨kp,ke,kc⟩:=ZP (w:=w) (w':=w) (M:=M) (M':=Mc) (fun r o v Y Z=>⟨Y,fun h3=>Z (hM r o h3)⟩)
 have key:∀ n:Nat,(∀ (x:AV),SizeOf.sizeOf x≤n→∀ v,ZX hc x=true→Qe φ h w M (WT ρ x) v→Qe φc hc w Mc x v)∧(∀ (xs:List AV),SizeOf.sizeOf xs≤n→∀ l,Z6 hc xs=true→Qi φ h w M (VC ρ xs) l→Qi φc hc w Mc xs l):=by
  intro n
  induction n with
  | zero =>
   refine ⟨fun x hx=>?_,fun es hx=>?_⟩
   ·cases x <;> simp at hx
   ·cases es <;> simp at hx
  | succ n ih =>
   obtain ⟨i1,i2⟩:=ih;refine ⟨fun x hx v O J=>?_,fun xs hx l O J=>?_⟩
   ·cases x with
    | p x=>simp only [WT,Qe] at J ⊢; exact kp x v J
    | tsl S es t =>
     simp only [ZX] at O;obtain ⟨k,G⟩:=TD.1 O;simp only [WT,Qe] at J ⊢;obtain ⟨Y,ty,m,Z,h3⟩:=J;obtain ⟨k0,e1,e2⟩:=hh t k G;rw [Z] at e1;cases e1
     have ab:k=.arr ty S m:=by
      cases k with
      | arr _ _ _=>simpa [leB,ZM] using e2
      | _=>simp [leB,ZM] at e2
     refine ⟨kp _ _ Y,ty,m,by rw [G,ab],?_⟩;rw [aa t (by rw [G]; simp)];exact h3
    | ptr b off =>
     simp only [ZX] at O;obtain ⟨k,G⟩:=TD.1 O;simp only [WT,Qe] at J ⊢;obtain ⟨Y,ty,cs,Z⟩:=J;obtain ⟨k0,e1,e2⟩:=hh b k G;rw [Z] at e1;cases e1;cases k with
     | box ac cs'=>exact ⟨by rw [aa b (by rw [G]; simp)]; exact Y,ac,cs',G⟩
     | _=>simp [leB,ZM] at e2
    | bsl b n =>
     simp only [ZX] at O;obtain ⟨k,G⟩:=TD.1 O;simp only [WT,Qe] at J ⊢;obtain ⟨Y,ty,cs,Z⟩:=J;obtain ⟨k0,e1,e2⟩:=hh b k G;rw [Z] at e1;cases e1;cases k with
     | box ac cs'=>exact ⟨by rw [aa b (by rw [G]; simp)]; exact Y,ac,cs',G⟩
     | _=>simp [leB,ZM] at e2
    | sfp b =>
     simp only [ZX] at O;obtain ⟨k,G⟩:=TD.1 O;simp only [WT,Qe] at J ⊢;obtain ⟨Y,ty,cs,Z⟩:=J;obtain ⟨k0,e1,e2⟩:=hh b k G;rw [Z] at e1;cases e1;cases k with
     | box ac cs'=>exact ⟨by rw [aa b (by rw [G]; simp)]; exact Y,ac,cs',G⟩
     | _=>simp [leB,ZM] at e2
    | vnil=>simp only [WT,Qe] at J ⊢; exact J
    | vsl S t n =>
     simp only [ZX] at O;obtain ⟨k,G⟩:=TD.1 O;simp only [WT,Qe] at J ⊢;obtain ⟨Y,ty,m,Z,h3⟩:=J;obtain ⟨k0,e1,e2⟩:=hh t k G;rw [Z] at e1;cases e1
     have ab:k=.vec ty S m:=by
      cases k with
      | vec _ _ _=>simpa [leB,ZM] using e2
      | _=>simp [leB,ZM] at e2
     refine ⟨Y,ty,m,by rw [G,ab],?_⟩;rw [aa t (by rw [G]; simp)];exact h3
    | vptr t n k f =>
     simp only [ZX] at O;obtain ⟨k,G⟩:=TD.1 O;simp only [WT,Qe] at J ⊢;obtain ⟨Y,ty,S,m,Z,h3⟩:=J;obtain ⟨k0,e1,e2⟩:=hh t k G;rw [Z] at e1;cases e1
     have ab:k=.vec ty S m:=by
      cases k with
      | vec _ _ _=>simpa [leB,ZM] using e2
      | _=>simp [leB,ZM] at e2
     refine ⟨Y,ty,S,m,by rw [G,ab],?_⟩;rw [aa t (by rw [G]; simp)];exact h3
    | yv b =>
     simp only [ZX] at O;obtain ⟨k,G⟩:=TD.1 O;simp only [WT,Qe] at J ⊢;obtain ⟨Y,k1,T,nf,Z,h3⟩:=J;obtain ⟨k0,e1,e2⟩:=hh b k G;rw [Z] at e1;cases e1;have e3:=X5 e2 h3;rw [Jf] at e3;refine ⟨by rw [aa b (by rw [G]; simp)]; exact Y,k,?_⟩;cases k with
     | lp T' ad st pd=>exact ⟨T',ad,G,rfl⟩
     | _=>simp [Blk.ob,kE] at e3
    | mv b =>
     simp only [ZX] at O;obtain ⟨k,G⟩:=TD.1 O;simp only [WT,Qe] at J ⊢;obtain ⟨Y,k1,Z,h3⟩:=J;obtain ⟨k0,e1,e2⟩:=hh b k G;rw [Z] at e1;cases e1;have e3:=X5 e2 h3;rw [Jf] at e3;refine ⟨by rw [aa b (by rw [G]; simp)]; exact Y,k,?_⟩;cases k with
     | mp es=>exact ⟨G,rfl⟩
     | mf es=>exact ⟨G,rfl⟩
     | mg en cl es=>exact ⟨G,rfl⟩
     | it m cl sn=>exact ⟨G,rfl⟩
     | _=>simp [Blk.ob,kE] at e3
    | iv b =>
     simp only [ZX] at O;obtain ⟨k,G⟩:=TD.1 O;simp only [WT,Qe] at J ⊢;obtain ⟨Y,k1,Z,h3⟩:=J;obtain ⟨k0,e1,e2⟩:=hh b k G;rw [Z] at e1;cases e1;have e3:=X5 e2 h3;rw [Jf] at e3;refine ⟨by rw [aa b (by rw [G]; simp)]; exact Y,k,?_⟩;cases k with
     | mp es=>exact ⟨G,rfl⟩
     | mf es=>exact ⟨G,rfl⟩
     | mg en cl es=>exact ⟨G,rfl⟩
     | it m cl sn=>exact ⟨G,rfl⟩
     | _=>simp [Blk.ob,kE] at e3
    | eptr cs =>
     simp only [WT,Qe] at J ⊢;obtain ⟨r,o,Y,Z⟩:=J;exact ⟨r,o,Y,kc cs r o Z⟩
    | agg cs =>
     simp only [WT,Qe,ZX] at J O ⊢;obtain ⟨l,Y,Z⟩:=J;exact ⟨l,Y,i2 cs (by simp at hx; omega) l O Z⟩
    | tup cs =>
     simp only [WT,Qe,ZX] at J O ⊢;obtain ⟨l,Y,Z⟩:=J;exact ⟨l,Y,i2 cs (by simp at hx; omega) l O Z⟩
    | fn f a b =>
     simp only [WT,Qe,ZX,Zf] at J O ⊢;obtain ⟨l,m,Y,Z,h3⟩:=J;simp at hx;exact ⟨l,m,Y,i2 a zo l O.1 Z,i2 b zo m O.2 h3⟩
    | ifc t x =>
     simp only [WT,Qe,ZX] at J O ⊢;obtain ⟨y,Y,Z⟩:=J;exact ⟨y,Y,i1 x (by simp at hx; omega) y O Z⟩
   ·cases xs with
    | nil=>simpa [VC,Qi] using J
    | cons x xs =>
     simp only [VC,Qi,Z6,Zf] at J O ⊢;simp at hx;obtain ⟨y,ys,Y,Z,h3⟩:=J;exact ⟨y,ys,Y,i1 x zo y O.1 Z,i2 xs zo ys O.2 h3⟩
 exact ⟨fun x v=>(key (SizeOf.sizeOf x)).1 x (Nat.le_refl _) v,fun xs l=>(key (SizeOf.sizeOf xs)).2 xs (Nat.le_refl _) l⟩
theorem uB (Y:∀ c,hc c ≠ none→φ (ρ c)=φc c) (hM:∀ r o v,w.cell? ⟨r,o,none⟩=some v→M r o→Mc r o) (hh:∀ c k,hc c=some k→h (ρ c)=some (ZM ρ k)) :
  (∀ (x:AV) (v:Value),Qe φc hc w Mc x v→Qe φ h w M (WT ρ x) v)∧(∀ (xs:List AV) (l:List Value),Qi φc hc w Mc xs l→Qi φ h w M (VC ρ xs) l):=by
 obtain ⟨kp,ke,kc⟩:=ZP (w:=w) (w':=w) (M:=Mc) (M':=M) (fun r o v O G=>⟨O,fun Z=>G (hM r o v O Z)⟩)
 have key:∀ n:Nat,(∀ (x:AV),SizeOf.sizeOf x≤n→∀ v,Qe φc hc w Mc x v→Qe φ h w M (WT ρ x) v)∧(∀ (xs:List AV),SizeOf.sizeOf xs≤n→∀ l,Qi φc hc w Mc xs l→Qi φ h w M (VC ρ xs) l):=by
  intro n
  induction n with
  | zero =>
   refine ⟨fun x hx=>?_,fun es hx=>?_⟩
   ·cases x <;> simp at hx
   ·cases es <;> simp at hx
  | succ n ih =>
   obtain ⟨i1,i2⟩:=ih;refine ⟨fun x hx v J=>?_,fun xs hx l J=>?_⟩
   ·cases x with
    | p x=>simp only [WT,Qe] at J ⊢; exact kp x v J
    | tsl S es t =>
     simp only [WT,Qe] at J ⊢;obtain ⟨O,ty,m,G,Z⟩:=J;refine ⟨kp _ _ O,ty,m,by rw [hh t _ G]; rfl,?_⟩;rw [Y t (by rw [G]; simp)];exact Z
    | ptr b off =>
     simp only [WT,Qe] at J ⊢;obtain ⟨O,ty,cs,G⟩:=J;exact ⟨by rw [Y b (by rw [G]; simp)]; exact O,ty,VC ρ cs,by rw [hh b _ G]; rfl⟩
    | bsl b n =>
     simp only [WT,Qe] at J ⊢;obtain ⟨O,ty,cs,G⟩:=J;exact ⟨by rw [Y b (by rw [G]; simp)]; exact O,ty,VC ρ cs,by rw [hh b _ G]; rfl⟩
    | sfp b =>
     simp only [WT,Qe] at J ⊢;obtain ⟨O,ty,cs,G⟩:=J;exact ⟨by rw [Y b (by rw [G]; simp)]; exact O,ty,VC ρ cs,by rw [hh b _ G]; rfl⟩
    | vnil=>simp only [WT,Qe] at J ⊢; exact J
    | vsl S t n =>
     simp only [WT,Qe] at J ⊢;obtain ⟨O,ty,m,G,Z⟩:=J;refine ⟨O,ty,m,by rw [hh t _ G]; rfl,?_⟩;rw [Y t (by rw [G]; simp)];exact Z
    | vptr t n k f =>
     simp only [WT,Qe] at J ⊢;obtain ⟨O,ty,S,m,G,Z⟩:=J;refine ⟨O,ty,S,m,by rw [hh t _ G]; rfl,?_⟩;rw [Y t (by rw [G]; simp)];exact Z
    | yv b =>
     simp only [WT,Qe] at J ⊢;obtain ⟨O,k,T,nf,G,Z⟩:=J;exact ⟨by rw [Y b (by rw [G]; simp)]; exact O,ZM ρ k,_,nf,hh b _ G,by rw [Jf,Z]; rfl⟩
    | mv b =>
     simp only [WT,Qe] at J ⊢;obtain ⟨O,k,G,Z⟩:=J;exact ⟨by rw [Y b (by rw [G]; simp)]; exact O,ZM ρ k,hh b _ G,by rw [Jf,Z]; rfl⟩
    | iv b =>
     simp only [WT,Qe] at J ⊢;obtain ⟨O,k,G,Z⟩:=J;exact ⟨by rw [Y b (by rw [G]; simp)]; exact O,ZM ρ k,hh b _ G,by rw [Jf,Z]; rfl⟩
    | eptr cs =>
     simp only [WT,Qe] at J ⊢;obtain ⟨r,o,O,G⟩:=J;exact ⟨r,o,O,kc cs r o G⟩
    | agg cs =>
     simp only [WT,Qe] at J ⊢;obtain ⟨l,O,G⟩:=J;exact ⟨l,O,i2 cs (by simp at hx; omega) l G⟩
    | tup cs =>
     simp only [WT,Qe] at J ⊢;obtain ⟨l,O,G⟩:=J;exact ⟨l,O,i2 cs (by simp at hx; omega) l G⟩
    | fn f a b =>
     simp only [WT,Qe] at J ⊢;obtain ⟨l,m,O,G,Z⟩:=J;simp at hx;exact ⟨l,m,O,i2 a zo l G,i2 b zo m Z⟩
    | ifc t x =>
     simp only [WT,Qe] at J ⊢;obtain ⟨y,O,G⟩:=J;exact ⟨y,O,i1 x (by simp at hx; omega) y G⟩
   ·cases xs with
    | nil=>simpa [VC,Qi] using J
    | cons x xs =>
     simp only [VC,Qi] at J ⊢;simp at hx;obtain ⟨y,ys,O,G,Z⟩:=J;exact ⟨y,ys,O,i1 x zo y G,i2 xs zo ys Z⟩
 exact ⟨fun x v=>(key (SizeOf.sizeOf x)).1 x (Nat.le_refl _) v,fun xs l=>(key (SizeOf.sizeOf xs)).2 xs (Nat.le_refl _) l⟩
theorem dL (G:∀ c,hc c ≠ none→φ (ρ c)=φc c) (J:∀ r o,M r o→Mc r o) (O:∀ c k,hc c=some k→h (ρ c)=some (ZM ρ k)) :
  (∀ (x:AV) (v:Value),Qe φc hc w Mc x v→Qe φ h w M (WT ρ x) v)∧(∀ (xs:List AV) (l:List Value),Qi φc hc w Mc xs l→Qi φ h w M (VC ρ xs) l) :=
 uB G (fun r o _ _=>J r o) O
end
def Z9 (ρ:Nat→Nat) (hc':List (Nat × Blk)) (H:List (Nat × Blk)):List (Nat × Blk):=hc'.map (fun p=>(ρ p.1,ZM ρ p.2))++H
def FQ (ρ:Nat→Nat) (hc hc' H:List (Nat × Blk)):Prop :=
 (∀ c ∈ hc.map (·.1),c ∈ hc'.map (·.1))∧(∀ c ∈ hc'.map (·.1),c ∈ hc.map (·.1)∨look H (ρ c)=none)∧(∀ c ∈ hc'.map (·.1),∀ d ∈ hc'.map (·.1),ρ c=ρ d→c=d)
theorem S9 {φ φ':Nat→Nat} {h h':QH} {w:World} {M M':Zr} (hk:∀ r o v,w.cell? ⟨r,o,none⟩=some v→M' r o→M r o):∀ (l:List PV) (J:List Value),Qi φ h w M (l.map .p) J→Qi φ' h' w M' (l.map .p) J
 | [],J,O=>by simpa [Qi] using O
 | x :: l,J,O=>by
  simp only [List.map_cons,Qi,Qe] at O ⊢;obtain ⟨y,ys,G,Z,Y⟩:=O;exact ⟨y,ys,G,(ZP (w:=w) (w':=w) (M:=M) (M':=M') (fun r o v G Z=>⟨G,fun Y=>Z (hk r o v G Y)⟩)).1 x y Z,S9 hk l ys Y⟩
theorem qJ (J:∀ r o,M' r o→M r o) (l:List PV) (G:List Value):Qi φ h w M (l.map .p) G→Qi φ' h' w M' (l.map .p) G :=
 S9 (fun r o _ _=>J r o) l G
theorem Be {α:Type}:∀ (a b:List (Nat × α)) (t:Nat),look (a++b) t=match look a t with | some v=>some v | none=>look b t
 | [],b,t=>rfl
 | (k,v) :: a,b,t=>by
  simp only [List.cons_append,look];by_cases e:k=t
  ·simp [e]
  ·simp only [e,if_false]; exact Be a b t
theorem Kb {α:Type}:∀ {a:List (Nat × α)} {t:Nat},look a t ≠ none↔t ∈ a.map (·.1)
 | [],t=>by simp [look]
 | (k,v) :: a,t=>by
  simp only [look,List.map_cons,List.mem_cons];by_cases e:k=t
  ·simp [e]
  ·simp only [e,if_false,Kb];constructor
   ·exact .inr
   ·rintro (h | h)
    ·exact absurd h.symm e
    ·exact h
theorem En {ρ:Nat→Nat}:∀ {hc:List (Nat × Blk)} {t:Nat},(∀ c d,c ∈ hc.map (·.1)→d ∈ t :: hc.map (·.1)→ρ c=ρ d→c=d)→look (hc.map (fun p=>(ρ p.1,ZM ρ p.2))) (ρ t)=(look hc t).map (ZM ρ)
 | [],t,_=>rfl
 | (k,v) :: hc,t,hi=>by
  simp only [List.map_cons,look];by_cases e:k=t
  ·simp [e]
  ·have:¬ ρ k=ρ t:=fun h=>e (hi k t zq zq h)
   simp only [e,this,if_false];refine En (fun c d hc G h=>hi c d (by simp at hc ⊢; exact .inr hc) ?_ h);simp at G ⊢;rcases G with G | G
   ·exact .inl G
   ·exact .inr (.inr G)
theorem Nk {ρ:Nat→Nat}:∀ {hc:List (Nat × Blk)} {b:Nat},(∀ c,c ∈ hc.map (·.1)→ρ c ≠ b)→look (hc.map (fun p=>(ρ p.1,ZM ρ p.2))) b=none
 | [],b,_=>rfl
 | (k,v) :: hc,b,hi=>by
  simp only [List.map_cons,look];have:¬ ρ k=b:=hi k zq;simp only [this,if_false];exact Nk (fun c hc=>hi c (by simp at hc ⊢; exact .inr hc))
theorem GX:∀ (l:List Nat) (x:Nat),x ∈ l→x≤l.foldr max 0
 | a :: l,x,h=>by
  simp only [List.foldr_cons];rcases List.mem_cons.1 h with e | e
  ·subst e; exact Nat.le_max_left _ _
  ·exact Nat.le_trans (GX l x e) (Nat.le_max_right _ _)
theorem NP {C:(Nat→Nat)→Array Value→World→(Ending→World→Prop)→Prop} (bf:∀ φ vs w R R',C φ vs w R→(∀ e w',R e w'→R' e w')→C φ vs w R')
  (ρ:Nat→Nat)
  (bi:∀ φ M0 w vs,Zz φ (look hc) w M0→Qi φ (look hc) w (MM φ (look hc) M0) args' vs→C φ vs.toArray w fun e w'=>∃ φ' r h',R r h'∧Zz φ' h' w' M0∧QW φ (look hc) w φ' h' w'∧QaK φ' h' w' (MM φ' h' M0) r e)
  (bh:Ef args (VC ρ args')) (hok:Z6 (look hc) args'=true)
  (av:∀ c ∈ hc.map (·.1),1000≤c) (ao:∀ c k,look hc c=some k→okRefB (look hc) k=true)
  (O:∀ c k,look hc c=some k→∃ k0,look s.H (ρ c)=some k0∧leB k0 (ZM ρ k))
  (bu:∀ c ∈ hc.map (·.1),∀ d ∈ hc.map (·.1),ρ c=ρ d→c=d) (hd:∀ t,dst=some t→t < N)
  (bl:∀ r h',R r h'→∃ hc' H2,h'=look hc'∧FQ ρ hc hc' s.H∧(∀ b,look H2 b=look (Z9 ρ hc' s.H) b) ∧
   (match r with | .ret x=>K (St.put ⟨s.T,H2⟩ dst (WT ρ x)) | .panic x=>Q (.panic (WT ρ x)) ⟨s.T,H2⟩)) :
  ∀ φ M0 D a w vs,Q8 φ M0 N D (look s.T) (look s.H) a w→Qi φ (look s.H) w (MM φ (look s.H) M0) args vs→C (fun c=>φ (ρ c)) vs.toArray w fun e w' =>
   match e with
   | .returned v=>∃ φ' s',K s'∧Q8 φ' M0 N D (look s'.T) (look s'.H) (a.put dst v) w'∧QW φ (look s.H) w φ' (look s'.H) w'
   | .panicked chain=>Post N D Q φ M0 (look s.H) w (.panic chain) a w'
   | .outgrown=>False:=by
 intro φ M0 D a w vs r ha
 let hr:QH:=fun b=>if b ∈ (hc.map (·.1)).map ρ then none else look s.H b
 let φc:Nat→Nat:=fun c=>φ (ρ c)
 have bo:∀ b k,hr b=some k→look s.H b=some k∧b ∉ (hc.map (·.1)).map ρ:=by
  intro b k hb;simp only [hr] at hb;split at hb
  ·cases hb
  ·rename_i hn; exact ⟨hb,hn⟩
 have az:∀ x o,Cb φ hr x o→Cb φ (look s.H) x o:=by
  rintro x o ⟨b,k,h1,J,h3⟩;exact ⟨b,k,(bo b k h1).1,J,h3⟩
 have ai:∀ c,look hc c ≠ none→c ∈ hc.map (·.1):=fun c h=>Kb.1 h
 have ar:∀ x o,Cb φc (look hc) x o→Cb φ (look s.H) x o:=by
  rintro x o ⟨c,k,h1,J,h3⟩;obtain ⟨k0,h4,h5⟩:=O c k h1;refine ⟨ρ c,k0,h4,J,?_⟩;cases k0 with
  | arr ty S n =>
   cases k with
   | arr cd S' n'=>simp only [leB,ZM,Blk.arr.injEq] at h5; obtain ⟨rfl,rfl,rfl⟩:=h5; exact h3
   | _=>simp [leB,ZM] at h5
  | _=>trivial
 have be:∀ x o,MM φc (look hc) (MB φ hr w M0) x o→MM φ (look s.H) M0 x o:=by
  rintro x o (h1 | ⟨h1 | h1,_⟩)
  ·exact .inl (ar x o h1)
  ·exact .inl (az x o h1)
  ·exact .inr h1
 obtain ⟨b8,a6⟩:=Qgx (w:=w) (ρ:=ρ) (φ:=φ) (φc:=φc) (h:=look s.H) (hc:=look hc) (fun _ _=>rfl) be O
 have b4:Zz φc (look hc) w (MB φ hr w M0):=by
  refine ⟨fun c d ad ak he=>?_,fun c k hk=>?_,fun c ad o hm=>?_,fun x o hm=>?_,r.hp.gm.sub be⟩
  ·obtain ⟨kc,ay⟩:=AP.1 ad;obtain ⟨kd,an⟩:=AP.1 ak;obtain ⟨k0,e0,_⟩:=O c kc ay;obtain ⟨k1,e1,_⟩:=O d kd an;exact bu c (ai c ad) d (ai d ak) (r.hp.inj (ρ c) (ρ d) (by rw [e0]; simp) (by rw [e1]; simp) he)
  ·obtain ⟨k0,h1,J⟩:=O c k hk;have h3:=r.hp.blk (ρ c) k0 h1;cases k with
   | box ty cs =>
    cases k0 with
    | box Ip ch =>
     simp only [leB,ZM,Blk.box.injEq] at J;obtain ⟨cs',⟨e1,e2⟩,h5⟩:=J;obtain ⟨c0,h6,h7⟩:=h3;refine ⟨c0,by rw [e1]; exact h6,a6 _ _ (ao c _ hk) ?_⟩;rw [e2];exact JX.2 _ _ _ h5 h7
    | _=>simp [leB,ZM] at J
   | arr ty S n =>
    cases k0 with
    | arr Ip S0 n0=>simp only [leB,ZM,Blk.arr.injEq] at J; obtain ⟨rfl,rfl,rfl⟩:=J; exact h3
    | _=>simp [leB,ZM] at J
   | vec ty S es =>
    cases k0 with
    | vec Ip S0 n0 =>
     simp only [leB,ZM,Blk.vec.injEq] at J;obtain ⟨rfl,rfl,rfl⟩:=J;obtain ⟨c0,cap,g1,g2,g3,g4,g5,g6,g7⟩:=h3;exact ⟨c0,cap,g1,g2,g3,g4,g5,g6,qJ be _ _ g7⟩
    | _=>simp [leB,ZM] at J
   | lp T nf st pd =>
    cases k0 with
    | lp T0 cc ce ca =>
     simp only [leB,ZM,Blk.lp.injEq] at J;obtain ⟨rfl,rfl,rfl,rfl⟩:=J;obtain ⟨tmps,d,g1,g2,g3⟩:=h3;refine ⟨tmps,d,g1,g2,fun t x ht=>?_⟩;have g4:=g3 t (WT ρ x) (by rw [RN,ht]; rfl);exact ⟨g4.1,b8 _ _ (Hz (ao c _ hk) ht) g4.2⟩
    | _=>simp [leB,ZM] at J
   | mp es =>
    cases k0 with
    | mp bm =>
     simp only [leB,ZM,Blk.mp.injEq] at J;subst J;obtain ⟨en,cl,g1,g2,g3⟩:=h3;refine ⟨en,cl,g1,g2,a6 _ _ (RL _ _) ?_⟩;rw [qI]; exact g3
    | _=>simp [leB,ZM] at J
   | mf es =>
    cases k0 with
    | mf bm =>
     simp only [leB,ZM,Blk.mf.injEq] at J;subst J;obtain ⟨en,cl,g1,g2,g3,g4⟩:=h3;rw [U0] at g2;rw [UZ] at g3;exact ⟨en,cl,g1,g2,a6 _ _ (WS (ao c _ hk)) g3,g4⟩
    | _=>simp [leB,ZM] at J
   | mg en cl es =>
    cases k0 with
    | mg ck bx bm =>
     simp only [leB,ZM,Blk.mg.injEq] at J;obtain ⟨rfl,rfl,rfl⟩:=J;obtain ⟨g1,g2,g3,g4⟩:=h3;rw [U0] at g2;rw [UZ] at g3;exact ⟨g1,g2,a6 _ _ (WS (ao c _ hk)) g3,g4⟩
    | _=>simp [leB,ZM] at J
   | it m cl sn =>
    cases k0 with
    | it m0 bx cg =>
     simp only [leB,ZM,Blk.it.injEq] at J;obtain ⟨e1,rfl,rfl⟩:=J;obtain ⟨g1,k1,g2,g3⟩:=h3;obtain ⟨km,bt⟩:=TD.1 (ao c _ hk);obtain ⟨k2,g4,g5⟩:=O m km bt;rw [← e1] at g1 g2;rw [g2] at g4;cases g4;exact ⟨g1,km,bt,Qgw (X5 g5 g3)⟩
    | _=>simp [leB,ZM] at J
  ·obtain ⟨kc,ay⟩:=AP.1 ad;obtain ⟨k0,e0,_⟩:=O c kc ay;rcases hm with ⟨⟨b,k,h1,J,_⟩ | hm,_⟩
   ·obtain ⟨h4,h5⟩:=bo b k h1;have:=r.hp.inj b (ρ c) (by rw [h4]; simp) (by rw [e0]; simp) J;exact h5 (by rw [this]; exact List.mem_map_of_mem (ai c ad))
   ·exact r.hp.fr (ρ c) (by rw [e0]; simp) o hm
  ·exact hm.2
 refine bf _ _ _ _ _ (bi φc (MB φ hr w M0) w vs b4 (a6 _ _ hok (JX.2 _ _ _ bh ha))) ?_;rintro e w' ⟨ae,bk,h',hR,aw,E,hE⟩;obtain ⟨hc',H2,rfl,⟨hd1,hd2,bn⟩,b1,bc⟩:=bl bk h' hR;have bd:look H2=look (Z9 ρ hc' s.H):=funext b1
 have a8:∀ b k,look s.H b=some k→b ∉ (hc.map (·.1)).map ρ→b ∉ (hc'.map (·.1)).map ρ:=by
  intro b k hb hn hm;obtain ⟨c,G,rfl⟩:=List.mem_map.1 hm;rcases hd2 c G with h1 | h1
  ·exact hn (List.mem_map_of_mem h1)
  ·rw [h1] at hb; cases hb
 have aq:∀ b,b ∉ (hc'.map (·.1)).map ρ→b ∉ (hc.map (·.1)).map ρ:=by
  intro b hn hm;obtain ⟨c,G,rfl⟩:=List.mem_map.1 hm;exact hn (List.mem_map_of_mem (hd1 c G))
 obtain ⟨KK,cj⟩:∃ KK,KK=w'.heap.size+((hc'.map (·.1)).map ae).foldr max 0+1:=⟨_,rfl⟩;have Z:∀ b,φ b < w.heap.size→KC φ w.heap.size KK b=φ b:=fun b hb=>by simp [KC,hb]
 have ab:∀ b,¬ φ b < w.heap.size→KC φ w.heap.size KK b=φ b+KK:=fun b hb=>by simp [KC,hb]
 have br:∀ b c,c ∈ hc'.map (·.1)→¬ φ b < w.heap.size→ae c < KC φ w.heap.size KK b:=by
  intro b c G hb;have:=GX ((hc'.map (·.1)).map ae) (ae c) (List.mem_map_of_mem G);rw [ab b hb]; omega
 have ba:∀ b d,KC φ w.heap.size KK b=KC φ w.heap.size KK d→φ b=φ d:=by
  intro b d e;by_cases e1:φ b < w.heap.size <;> by_cases e2:φ d < w.heap.size
  ·rw [Z b e1,Z d e2] at e; exact e
  ·rw [Z b e1,ab d e2] at e; omega
  ·rw [ab b e1,Z d e2] at e; omega
  ·rw [ab b e1,ab d e2] at e; omega
 have hex:∃ φ':Nat→Nat,(∀ c,c ∈ hc'.map (·.1)→φ' (ρ c)=ae c)∧(∀ b,b ∉ (hc'.map (·.1)).map ρ→φ' b=KC φ w.heap.size KK b):=by
  refine ⟨fun b=>match (hc'.map (·.1)).find? (fun c=>ρ c == b) with | some c=>ae c | none=>KC φ w.heap.size KK b,fun c ad=>?_,fun b hb=>?_⟩
  ·cases hf:(hc'.map (·.1)).find? (fun d=>ρ d == ρ c) with
   | none =>
    have:=List.find?_eq_none.1 hf c ad;simp at this
   | some d =>
    have h1:=List.find?_some hf;have J:=List.mem_of_find?_eq_some hf;simp only [beq_iff_eq] at h1;simp only [hf];rw [bn d J c ad h1]
  ·cases hf:(hc'.map (·.1)).find? (fun d=>ρ d == b) with
   | none=>simp only [hf]
   | some d =>
    have h1:=List.find?_some hf;have J:=List.mem_of_find?_eq_some hf;simp only [beq_iff_eq] at h1;exact absurd (by rw [← h1]; exact List.mem_map_of_mem J) hb
 obtain ⟨φ',Y,ac⟩:=hex;have am:∀ c k,look hc' c=some k→c ∈ hc'.map (·.1):=fun c k hk=>Kb.1 (by rw [hk]; simp)
 have aa:∀ c k,look hc' c=some k→look (Z9 ρ hc' s.H) (ρ c)=some (ZM ρ k):=by
  intro c k hk;unfold Z9;rw [Be,En (fun x y hx hy b3=>bn x hx y (by rcases List.mem_cons.1 hy with rfl | hy; exact am _ _ hk; exact hy) b3),hk];rfl
 have ah:∀ b,b ∉ (hc'.map (·.1)).map ρ→look (Z9 ρ hc' s.H) b=look s.H b:=by
  intro b hb;unfold Z9;rw [Be,Nk (fun c ad e=>hb (by rw [← e]; exact List.mem_map_of_mem ad))]
 have al:∀ b k,look (Z9 ρ hc' s.H) b=some k→(∃ c k',look hc' c=some k'∧ρ c=b∧k=ZM ρ k')∨(b ∉ (hc'.map (·.1)).map ρ∧look s.H b=some k):=by
  intro b k hb;by_cases hm:b ∈ (hc'.map (·.1)).map ρ
  ·obtain ⟨c,G,rfl⟩:=List.mem_map.1 hm;obtain ⟨k',bq⟩:=AP.1 (Kb.2 G);rw [aa c k' bq] at hb;exact .inl ⟨c,k',bq,rfl,(Option.some.inj hb).symm⟩
  ·exact .inr ⟨hm,by rw [← ah b hm]; exact hb⟩
 have a7:∀ x o,Cb φ' (look (Z9 ρ hc' s.H)) x o→Cb ae (look hc') x o∨(Cb φ hr x o∧x < w.heap.size)∨w'.heap.size≤x:=by
  rintro x o ⟨b,k,h1,J,h3⟩;rcases al b k h1 with ⟨c,k',g1,rfl,rfl⟩ | ⟨g1,g2⟩
  ·left;refine ⟨c,k',g1,?_,?_⟩
   ·rw [← Y c (am _ _ g1)]; exact J
   ·cases k' <;> exact h3
  ·right;rw [ac b g1] at J;by_cases hlt:φ b < w.heap.size
   ·rw [Z b hlt] at J;exact .inl ⟨⟨b,k,by simp only [hr]; rw [if_neg (aq b g1)]; exact g2,J,h3⟩,by omega⟩
   ·rw [ab b hlt] at J;exact .inr zo
 have bp:∀ x o v,w'.cell? ⟨x,o,none⟩=some v→MM φ' (look (Z9 ρ hc' s.H)) M0 x o→MM ae (look hc') (MB φ hr w M0) x o:=by
  rintro x o v bg (h1 | h1)
  ·rcases a7 x o h1 with J | J | J
   ·exact .inl J
   ·exact .inr ⟨.inl J.1,J.2⟩
   ·have:=BV bg; omega
  ·exact .inr ⟨.inr h1,r.hp.lt x o h1⟩
 obtain ⟨au,ax⟩:=uB (w:=w') (ρ:=ρ) (φ:=φ') (φc:=ae) (h:=look (Z9 ρ hc' s.H)) (hc:=look hc') (fun c ad=>Y c (Kb.1 ad)) bp aa
 have b2:QW φ (look s.H) w φ' (look (Z9 ρ hc' s.H)) w'∧VR φ (look s.H) w φ' (look (Z9 ρ hc' s.H)) w':=by
  have hb:∀ b ty cs,look s.H b=some (.box ty cs)→(∃ cs',look (Z9 ρ hc' s.H) b=some (.box ty cs'))∧φ' b=φ b:=by
   intro b ty cs hb;by_cases hm:b ∈ (hc.map (·.1)).map ρ
   ·obtain ⟨c,G,rfl⟩:=List.mem_map.1 hm;obtain ⟨k,hk⟩:=AP.1 (Kb.2 G);obtain ⟨k0,e0,e1⟩:=O c k hk;rw [hb] at e0;cases e0;cases k with
    | box Aj b0 =>
     simp only [leB,ZM,Blk.box.injEq] at e1;obtain ⟨cm,⟨e2,_⟩,_⟩:=e1;obtain ⟨⟨b7,e3⟩,e4⟩:=E.kb c Aj b0 (av c G) hk;refine ⟨⟨VC ρ b7,by rw [aa c _ e3,e2]; rfl⟩,by rw [Y c (hd1 c G),e4]⟩
    | _=>simp [leB,ZM] at e1
   ·have aj:=a8 b _ hb hm;exact ⟨⟨cs,by rw [ah b aj]; exact hb⟩,(ac b aj).trans (FE r.hp KK hb (fun _ _ e=>by cases e))⟩
  have ht:∀ t ty S n,look s.H t=some (.arr ty S n)→∃ n',look (Z9 ρ hc' s.H) t=some (.arr ty S n')∧n≤n' ∧
    (n'=n→AKept w w' (φ t) (φ' t) ty):=by
   intro t ty S n af;by_cases hm:t ∈ (hc.map (·.1)).map ρ
   ·obtain ⟨c,G,rfl⟩:=List.mem_map.1 hm;obtain ⟨k,hk⟩:=AP.1 (Kb.2 G);obtain ⟨k0,e0,e1⟩:=O c k hk;rw [af] at e0;cases e0;cases k with
    | arr Aj S1 n1 =>
     simp only [leB,ZM,Blk.arr.injEq] at e1;obtain ⟨rfl,rfl,rfl⟩:=e1;obtain ⟨n',e3,e4,e5⟩:=E.kt c Aj S1 n1 (av c G) hk;refine ⟨n',by rw [aa c _ e3]; rfl,e4,fun e6=>?_⟩;obtain ⟨e9,b5⟩:=e5 e6;refine ⟨fun h0=>by rw [Y c (hd1 c G)]; exact e9 h0,?_⟩;rcases b5 with e7 | ⟨e7,e8⟩
     ·exact .inl e7
     exact .inr ⟨by rw [Y c (hd1 c G),e7],e8⟩
    | _=>simp [leB,ZM] at e1
   ·have aj:=a8 t _ af hm;refine ⟨n,by rw [ah t aj]; exact af,Nat.le_refl _,fun _=>?_⟩;by_cases hlt:φ t < w.heap.size;rotate_left
    ·exact NF (ZG zo) (by rw [ac t aj,ab t hlt]; exact ZG zo)
    refine Yp ((ac t aj).trans (Z t hlt)) (E.same (φ t) hlt (fun d ak he=>?_))
    ·obtain ⟨kd,an⟩:=AP.1 ak;obtain ⟨k0,e0,_⟩:=O d kd an;have:=r.hp.inj (ρ d) t (by rw [e0]; simp) (by rw [af]; simp) he;exact hm (by rw [← this]; exact List.mem_map_of_mem (ai d ak))
  have hv:∀ t ty S n,look s.H t=some (.vec ty S n)→∃ n',look (Z9 ρ hc' s.H) t=some (.vec ty S n')∧n.length≤n'.length ∧
    (n'.length=n.length→φ' t=φ t∧∀ c,w.heap[φ t]?=some (.cells c ty (0,0))→∃ c',w'.heap[φ t]?=some (.cells c' ty (0,0))∧c'.size=c.size):=by
   intro t ty S n af;by_cases hm:t ∈ (hc.map (·.1)).map ρ
   ·obtain ⟨c,G,rfl⟩:=List.mem_map.1 hm;obtain ⟨k,hk⟩:=AP.1 (Kb.2 G);obtain ⟨k0,e0,e1⟩:=O c k hk;rw [af] at e0;cases e0;cases k with
    | vec Aj S1 n1 =>
     simp only [leB,ZM,Blk.vec.injEq] at e1;obtain ⟨rfl,rfl,rfl⟩:=e1;obtain ⟨n',e3,e4,e5⟩:=E.kv c Aj S1 n1 (av c G) hk;refine ⟨n',by rw [aa c _ e3]; rfl,e4,fun e6=>?_⟩;obtain ⟨e7,e8⟩:=e5 e6;exact ⟨by rw [Y c (hd1 c G),e7],e8⟩
    | _=>simp [leB,ZM] at e1
   ·have aj:=a8 t _ af hm;refine ⟨n,by rw [ah t aj]; exact af,Nat.le_refl _,fun _=>⟨(ac t aj).trans (Z t (xA r.hp af)),fun c ad=>⟨c,?_,rfl⟩⟩⟩;rw [E.same (φ t) (xA r.hp af) (fun d ak he=>?_)]
    ·exact ad
    ·obtain ⟨kd,an⟩:=AP.1 ak;obtain ⟨k0,e0,_⟩:=O d kd an;have:=r.hp.inj (ρ d) t (by rw [e0]; simp) (by rw [af]; simp) he;exact hm (by rw [← this]; exact List.mem_map_of_mem (ai d ak))
  have bv:∀ b k x,look s.H b=some k→k.ob=some x→(∃ k',look (Z9 ρ hc' s.H) b=some k'∧k'.ob=some x)∧φ' b=φ b:=by
   intro b k x hb ho;by_cases hm:b ∈ (hc.map (·.1)).map ρ
   ·obtain ⟨c,G,rfl⟩:=List.mem_map.1 hm;obtain ⟨k2,hk⟩:=AP.1 (Kb.2 G);obtain ⟨k0,e0,e1⟩:=O c k2 hk;rw [hb] at e0;cases e0;have e2:=X5 e1 ho;rw [Jf] at e2;cases ho2:k2.ob with
    | none=>rw [ho2] at e2; cases e2
    | some x2 =>
     rw [ho2] at e2;obtain ⟨⟨k',e3,e4⟩,e5⟩:=E.ko c k2 x2 (av c G) hk ho2;exact ⟨⟨ZM ρ k',aa c _ e3,by rw [Jf,e4]; exact e2⟩,by rw [Y c (hd1 c G),e5]⟩
   ·have aj:=a8 b _ hb hm;exact ⟨⟨k,by rw [ah b aj]; exact hb,ho⟩,(ac b aj).trans (FE r.hp KK hb (fun ty S e=>by rw [e] at ho; cases ho))⟩
  refine ⟨⟨E.os,E.tape,E.output,E.size,fun x hx b9=>E.same x hx (fun c ad he=>?_),fun x o hx hm=>E.cell x o hx (fun h1=>hm (ar x o h1)),fun x o hx hm=>?_,fun b ty cs _ bb=>hb b ty cs bb,fun t ty S n _ af=>ht t ty S n af,fun t ty S n _ af=>hv t ty S n af,fun b k x _=>bv b k x⟩,
   fun b ty cs bb=>⟨(hb b ty cs bb).1.elim fun cs' h=>⟨ty,cs',h⟩,(hb b ty cs bb).2⟩,ht,hv,bv⟩
  ·obtain ⟨kc,ay⟩:=AP.1 ad;obtain ⟨k0,e0,_⟩:=O c kc ay;exact b9 (ρ c) (by rw [e0]; simp) he
  ·rcases a7 x o hm with h1 | h1 | h1
   ·exact ar x o (E.mu x o hx h1)
   ·exact az x o h1.1
   ·have:=E.size; omega
 obtain ⟨E1,X1⟩:=b2
 have bw:Zz φ' (look (Z9 ρ hc' s.H)) w' M0:=by
  refine ⟨fun b d hb bz he=>?_,fun b k hb=>?_,fun b hb o hm=>?_,fun x o hm=>Nat.lt_of_lt_of_le (r.hp.lt x o hm) E.size,r.hp.gm.evol E1⟩
  ·obtain ⟨kb,bj⟩:=AP.1 hb;obtain ⟨kd,an⟩:=AP.1 bz
   have mixed:∀ c k' b k,look hc' c=some k'→b ∉ (hc'.map (·.1)).map ρ→look s.H b=some k→ae c ≠ KC φ w.heap.size KK b:=by
    intro c k' b k g1 g2 g3 g4;by_cases hlt:φ b < w.heap.size;rotate_left
    ·have:=br b c (am _ _ g1) hlt; omega
    rw [Z b hlt] at g4;have b6:hr b=some k:=by simp only [hr]; rw [if_neg (aq b g2)]; exact g3
    obtain ⟨o,ho⟩:=BU (φ:=φ) b6;exact aw.fr c (by rw [g1]; simp) o (by rw [g4]; exact ⟨.inl ho,hlt⟩)
   rcases al b kb bj with ⟨c,k',g1,rfl,_⟩ | ⟨g1,g2⟩ <;> rcases al d kd an with ⟨c2,k2,g3,rfl,_⟩ | ⟨g3,g4⟩
   ·rw [Y c (am _ _ g1),Y c2 (am _ _ g3)] at he;rw [aw.inj c c2 (by rw [g1]; simp) (by rw [g3]; simp) he]
   ·rw [Y c (am _ _ g1),ac d g3] at he;exact absurd he (mixed c k' d kd g1 g3 g4)
   ·rw [Y c2 (am _ _ g3),ac b g1] at he;exact absurd he.symm (mixed c2 k2 b kb g3 g1 g2)
   ·rw [ac b g1,ac d g3] at he;exact r.hp.inj b d (by rw [g2]; simp) (by rw [g4]; simp) (ba b d he)
  ·rcases al b k hb with ⟨c,k',g1,rfl,rfl⟩ | ⟨g1,g2⟩
   ·rw [Y c (am _ _ g1)];have:=aw.blk c k' g1;cases k' with
    | box ty cs=>obtain ⟨c0,h1,J⟩:=this; exact ⟨c0,h1,ax _ _ J⟩
    | arr ty S n=>exact this
    | vec ty S es=>obtain ⟨c0,cap,q1,q2,q3,q4,q5,q6,q7⟩:=this; exact ⟨c0,cap,q1,q2,q3,q4,q5,q6,S9 bp _ _ q7⟩
    | lp T nf st pd =>
     obtain ⟨tmps,d,q1,q2,q3⟩:=this;refine ⟨tmps,d,q1,q2,fun t x ht=>?_⟩;rw [RN] at ht;cases hl:look T t with
     | none=>rw [hl] at ht; cases ht
     | some y =>
      rw [hl] at ht;cases ht;exact ⟨(q3 t y hl).1,au _ _ (q3 t y hl).2⟩
    | mp es =>
     obtain ⟨en,cl,q1,q2,q3⟩:=this;refine ⟨en,cl,q1,q2,?_⟩;have:=ax _ _ q3;rw [qI] at this; exact this
    | mf es =>
     obtain ⟨en,cl,q1,q2,q3,q4⟩:=this;exact ⟨en,cl,q1,by rw [U0]; exact q2,by rw [UZ]; exact ax _ _ q3,q4⟩
    | mg en cl es =>
     obtain ⟨q1,q2,q3,q4⟩:=this;exact ⟨q1,by rw [U0]; exact q2,by rw [UZ]; exact ax _ _ q3,q4⟩
    | it m cl sn =>
     obtain ⟨q1,k2,q2,q3⟩:=this;exact ⟨by rw [Y m (am _ _ q2)]; exact q1,ZM ρ k2,aa m _ q2,by rw [Jf,q3]; rfl⟩
   ·rw [ac b g1];by_cases hlt:φ b < w.heap.size;rotate_left
    ·refine ZI (E1.keeps M0) X1 ?_ (r.hp.blk b k g2);rw [ZG (by omega:w.heap.size≤φ b),ZG (by rw [ab b hlt]; omega)]
    rw [Z b hlt];refine ZI (E1.keeps M0) X1 (E.same (φ b) hlt (fun d ak he=>?_)) (r.hp.blk b k g2);obtain ⟨kd,an⟩:=AP.1 ak;obtain ⟨k0,e0,_⟩:=O d kd an;have:=r.hp.inj (ρ d) b (by rw [e0]; simp) (by rw [g2]; simp) he;exact aq b g1 (by rw [← this]; exact List.mem_map_of_mem (ai d ak))
  ·obtain ⟨kb,bj⟩:=AP.1 hb;rcases al b kb bj with ⟨c,k',g1,rfl,_⟩ | ⟨g1,g2⟩
   ·rw [Y c (am _ _ g1)] at hm;exact aw.fr c (by rw [g1]; simp) o ⟨.inr hm,r.hp.lt _ _ hm⟩
   ·rw [ac b g1] at hm;by_cases hlt:φ b < w.heap.size
    ·rw [Z b hlt] at hm;exact r.hp.fr b (by rw [g2]; simp) o hm
    ·have:=r.hp.lt _ _ hm;rw [ab b hlt] at this;omega
 have r1:Q8 φ' M0 N D (look s.T) (look H2) a w':=by rw [bd]; exact r.keep E1 X1 bw
 rw [← bd] at E1 au;cases bk with
 | ret x =>
  obtain ⟨v,rfl,hv⟩:=hE;refine ⟨φ',_,bc,Q8.put (s:=⟨s.T,H2⟩) r1 hd (au _ _ hv),?_⟩;cases dst <;> exact E1
 | panic x =>
  obtain ⟨v,rfl,hv⟩:=hE;exact ⟨φ', .panic (WT ρ x),_,bc,r1,E1,v,rfl,au _ _ hv⟩
theorem NQ (ρ:Nat→Nat)
  (J:KD P f args' (look hc) R) (G:Ef args (VC ρ args')) (hok:Z6 (look hc) args'=true)
  (aa:∀ c ∈ hc.map (·.1),1000≤c) (ab:∀ c k,look hc c=some k→okRefB (look hc) k=true)
  (Y:∀ c k,look hc c=some k→∃ k0,look s.H (ρ c)=some k0∧leB k0 (ZM ρ k))
  (O:∀ c ∈ hc.map (·.1),∀ d ∈ hc.map (·.1),ρ c=ρ d→c=d) (hd:∀ t,dst=some t→t < N)
  (Z:∀ r h',R r h'→∃ hc' H2,h'=look hc'∧FQ ρ hc hc' s.H∧(∀ b,look H2 b=look (Z9 ρ hc' s.H) b) ∧
   (match r with | .ret x=>K (St.put ⟨s.T,H2⟩ dst (WT ρ x)) | .panic x=>Q (.panic (WT ρ x)) ⟨s.T,H2⟩)):Xy P N f args dst s K Q :=
 fun φ M0 D a w vs r ha=>NP (C:=fun _ vs w R=>Calls P f vs w R) (fun _ _ _ _ _ h hq=>h.mono hq) ρ J G hok aa ab Y O hd Z φ M0 D a w vs r ha
theorem YAt.mono {l:Nat} {args:Array Value} {R G:Ending→World→Prop} (h:YAt P l args w R) (O:∀ e w',R e w'→G e w'):YAt P l args w G:=by
 obtain ⟨fn,tmps,assign,body,J,Y⟩:=h;exact ⟨fn,tmps,assign,body,J,Y.mono O⟩
theorem uC (ρ:Nat→Nat)
  (J:QaL P b args' (look hc) R) (G:Ef args (VC ρ args')) (hok:Z6 (look hc) args'=true)
  (aa:∀ c ∈ hc.map (·.1),1000≤c) (ab:∀ c k,look hc c=some k→okRefB (look hc) k=true)
  (Y:∀ c k,look hc c=some k→∃ k0,look s.H (ρ c)=some k0∧leB k0 (ZM ρ k))
  (O:∀ c ∈ hc.map (·.1),∀ d ∈ hc.map (·.1),ρ c=ρ d→c=d) (hd:∀ t,dst=some t→t < N)
  (Z:∀ r h',R r h'→∃ hc' H2,h'=look hc'∧FQ ρ hc hc' s.H∧(∀ b,look H2 b=look (Z9 ρ hc' s.H) b) ∧
   (match r with | .ret x=>K (St.put ⟨s.T,H2⟩ dst (WT ρ x)) | .panic x=>Q (.panic (WT ρ x)) ⟨s.T,H2⟩)):YEx P N (ρ b) args dst s K Q :=
 fun φ M0 D a w vs r ha=>NP (C:=fun φ vs w R=>YAt P (φ b) vs w R) (fun _ _ _ _ _ h hq=>h.mono hq) ρ J G hok aa ab Y O hd Z φ M0 D a w vs r ha
def Bf (P:Program) (fn:Func) (hc:List (Nat × Blk)) (R:ZB→QH→Prop) (s:St):Prop :=
 ∃ x y hc',TY P fn (look s.T) (look s.H)=some x∧le x y∧ZX (look hc') y=true∧M4 (look s.H) (look hc') hc'∧K4 (look hc') hc=true∧R (.ret y) (look hc')
def dM (P:Program) (fn:Func) (hc:List (Nat × Blk)) (R:ZB→QH→Prop):AX→St→Prop
 | .ret,s=>Bf P fn hc R s
 | .normal,s=>Bf P fn hc R s
 | .panic x,s=>∃ y hc',le x y∧ZX (look hc') y=true∧M4 (look s.H) (look hc') hc'∧K4 (look hc') hc=true∧R (.panic y) (look hc')
 | .exit _,_=>False
theorem Eo (r:Q8 φ M0 N D (look s.T) (look s.H) a w) (E:QW φ0 (look hc) w0 φ (look s.H) w)
  (h1:M4 (look s.H) (look hc') hc') (h2:K4 (look hc') hc=true) :
  Zz φ (look hc') w M0∧QW φ0 (look hc) w0 φ (look hc') w∧∀ x v,ZX (look hc') x=true→Qe φ (look s.H) w (MM φ (look s.H) M0) x v→Qe φ (look hc') w (MM φ (look hc') M0) x v:=by
 have hh:∀ b k',look hc' b=some k'→∃ k,look s.H b=some k∧leB k k':=fun b k' hb=>(JJ h1 b k' hb).1
 have ab:∀ r o,Cb φ (look hc') r o→Cb φ (look s.H) r o:=by
  rintro x o ⟨b,k',g1,g2,g3⟩;obtain ⟨k,g4,g5⟩:=hh b k' g1;refine ⟨b,k,g4,g2,?_⟩;cases k with
  | arr ty S n=>simp only [leB] at g5; subst g5; exact g3
  | _=>trivial
 have hM:∀ r o,MM φ (look hc') M0 r o→MM φ (look s.H) M0 r o:=fun x o hx=>hx.elim (fun h=>.inl (ab x o h)) .inr
 have Y:∀ b,look hc' b ≠ none→look s.H b ≠ none:=fun b hb=>by
  cases hq:look hc' b with
  | none=>exact absurd hq hb
  | some k'=>obtain ⟨k,h1,_⟩:=hh b k' hq; rw [h1]; simp
 obtain ⟨c1,c2⟩:=Em (φ:=φ) (w:=w) hM hh;refine ⟨⟨fun b c hb hc=>r.hp.inj b c (Y b hb) (Y c hc),fun b k' hb=>?_,fun b hb=>r.hp.fr b (Y b hb),r.hp.lt,r.hp.gm.sub hM⟩,?_,fun x v hx hv=>c1 x v hx hv⟩
 ·obtain ⟨⟨k,g1,g2⟩,g3⟩:=JJ h1 b k' hb;have g4:=r.hp.blk b k g1;cases k with
  | box ty cs =>
   simp only [leB] at g2;obtain ⟨cs',rfl,g5⟩:=g2;obtain ⟨c,g6,g7⟩:=g4;exact ⟨c,g6,c2 _ _ g3 (JX.2 _ _ _ g5 g7)⟩
  | arr ty S n=>simp only [leB] at g2; subst g2; exact g4
  | vec ty S es=>simp only [leB] at g2; subst g2; obtain ⟨c,cap,J,Z,G,q4,q5,q6,q7⟩:=g4; exact ⟨c,cap,J,Z,G,q4,q5,q6,c2 _ _ (Ej _ _) q7⟩
  | lp T nf st pd=>simp only [leB] at g2; subst g2; obtain ⟨tmps,d,J,Z,G⟩:=g4; exact ⟨tmps,d,J,Z,fun t x ht=>⟨(G t x ht).1,c1 _ _ (Hz g3 ht) (G t x ht).2⟩⟩
  | mp es=>simp only [leB] at g2; subst g2; obtain ⟨en,cl,J,Z,G⟩:=g4; exact ⟨en,cl,J,Z,c2 _ _ (RL _ _) G⟩
  | mf es=>simp only [leB] at g2; subst g2; obtain ⟨en,cl,J,Z,G,q4⟩:=g4; exact ⟨en,cl,J,Z,c2 _ _ (WS g3) G,q4⟩
  | mg en cl es=>simp only [leB] at g2; subst g2; obtain ⟨J,Z,G,q4⟩:=g4; exact ⟨J,Z,c2 _ _ (WS g3) G,q4⟩
  | it m cl sn =>
   simp only [leB] at g2;subst g2;obtain ⟨J,k0,Z,G⟩:=g4;obtain ⟨km,ac⟩:=TD.1 g3;obtain ⟨k1,q5,q6⟩:=hh m km ac;rw [Z] at q5;cases q5;exact ⟨J,km,ac,X5 q6 G⟩
 ·refine ⟨E.os,E.tape,E.output,E.size,E.same,E.cell,fun x o hx hm=>E.mu x o hx (ab x o hm),?_,?_,?_,?_⟩
  ·intro b ty cs hb aa;obtain ⟨⟨ad,g1⟩,g2⟩:=E.kb b ty cs hb aa;obtain ⟨k',g3⟩:=Kz h2 b _ hb aa;obtain ⟨k,g4,g5⟩:=hh b k' g3;rw [g1] at g4;cases g4;simp only [leB] at g5;obtain ⟨cs',g6,_⟩:=g5;exact ⟨⟨cs',by rw [g3,g6]⟩,g2⟩
  ·intro t ty S n ht O;obtain ⟨n',g1,g2,g3⟩:=E.kt t ty S n ht O;obtain ⟨k',g4⟩:=Kz h2 t _ ht O;obtain ⟨k,g5,g6⟩:=hh t k' g4;rw [g1] at g5;cases g5;simp only [leB] at g6;exact ⟨n',by rw [g4,g6],g2,g3⟩
  ·intro t ty S n ht O;obtain ⟨n',g1,g2,g3⟩:=E.kv t ty S n ht O;obtain ⟨k',g4⟩:=Kz h2 t _ ht O;obtain ⟨k,g5,g6⟩:=hh t k' g4;rw [g1] at g5;cases g5;simp only [leB] at g6;exact ⟨n',by rw [g4,g6],g2,g3⟩
  ·intro b k x hb aa ho;obtain ⟨⟨k1,g1,g2⟩,g3⟩:=E.ko b k x hb aa ho;obtain ⟨k',g4⟩:=Kz h2 b _ hb aa;obtain ⟨k2,g5,g6⟩:=hh b k' g4;rw [g1] at g5;cases g5;exact ⟨⟨k',g4,X5 g6 g2⟩,g3⟩
theorem Ep (r:Q8 φ M0 N D (look s.T) (look s.H) a w)
  (E:QW φ0 (look hc) w0 φ (look s.H) w) (h:Bf P fn hc R s):∃ v,(results fn a.tmps).run P w=.ok v w∧Out R φ0 (look hc) w0 M0 (.returned v) w:=by
 obtain ⟨x,y,hc',G,h2,J,O,h5,Y⟩:=h;obtain ⟨v,g1,g2⟩:=dK r G;obtain ⟨k1,k2,Z⟩:=Eo r E O h5;exact ⟨v,g1,φ, .ret y,look hc',Y,k1,k2,v,rfl,Z _ _ J (JX.1 _ _ _ h2 g2)⟩
theorem Ie (hf:P.funcs[f]?=some fn) (hb:fn.body=some c) (J:args.length≤fn.ntmps)
  (h:Ex P fn.ntmps none c ⟨YW 0 args,hc⟩ (dM P fn hc R)):KD P f args (look hc) R:=by
 intro φ M0 w vs hH ha;refine Ic hf hb J hH ha h ?_ ?_ ?_
 ·intro x s φ' a w' G hx r E;exact Ep r E (by rcases hx with rfl | rfl <;> exact G)
 ·intro x s φ' a w' v G r E Z;obtain ⟨y,hc',g1,g2,g3,g4,g5⟩:=G;obtain ⟨k1,Y,O⟩:=Eo r E g3 g4;exact ⟨φ', .panic y,look hc',g5,k1,Y,v,rfl,O _ _ g2 (JX.1 _ _ _ g1 Z)⟩
 ·intro i s G;exact G
def Aa:AV:=.p (.val .nilIface)
structure LK (P:Program) (g cf:FuncId) where
 fn:Func
 id:Nat
 o1:Oper
 o2:Oper
 d1:Tmp
 ts:Array TypeId
 ts2:Array TypeId
 hf:P.funcs[g]?=some fn
 hb:fn.body=some (.region id #[o1,o2] false)
 hop1:o1.op=.call ⟨.builtin .recover,#[],ts⟩
 hop2:o2.op=.call ⟨.value (.func cf),#[.tmp d1, .tmp 0],ts2⟩
 hg1:o1.guard=none
 hg2:o2.guard=none
 hd1:o1.dst=some d1
 hne:d1 ≠ 0
 hlt:d1 < fn.ntmps
 hres:fn.results=#[]
 hok:Ye P cf=true
theorem LK.calls (C:LK P g cf) {rv:AV} {p:Value} {u u':FrameMode}
  (hc:Xy P N cf [rv, .ptr b 0] none s K (fun _ _=>False)) (r:Q8 φ M0 N D (look s.T) (look s.H) a w) (hp:Qe φ (look s.H) w (MM φ (look s.H) M0) (.ptr b 0) p)
  (hv:Qe φ (look s.H) w (MM φ (look s.H) M0) rv v)
  (hu:∀ (Y:Frame) (cs:List Frame),Y.mode=u→(recoverD (Y :: cs)=some (v,{ Y with mode:=u' } :: cs))∨(recoverD (Y :: cs)=none∧v=.nilIface∧u'=u)) :
  CallsD P g #[p] u w fun e Z w'=>Z=u'∧∃ x,e=.returned x∧∃ φ' s',K s'∧Q8 φ' M0 N D (look s'.T) (look s'.H) a w'∧QW φ (look s.H) w φ' (look s'.H) w':=by
 refine callsD_of_wpS C.hf C.hb fun Y cs hm=>?_
 refine wpS_region ?_;have ai:0 < C.fn.ntmps:=Nat.lt_of_le_of_lt (Nat.zero_le _) C.hlt;have O:List.range (#[C.o1,C.o2]:Array Oper).size=[0,1]:=rfl;rw [O];have ad:∀ y,Region.wanted C.o1 y=true:=fun y=>by simp [Region.wanted,C.hg1]
 have af:∀ y,Region.wanted C.o2 y=true:=fun y=>by simp [Region.wanted,C.hg2]
 have J:∀ (a:Act) (w:World),(execOp a.eval C.o1).run P w=.ok .recover w:=fun a w=>by simp [execOp,C.hop1,resolve,invoke,builtin]
 have rest:∀ (aa:List Frame),aa={ Y with mode:=u' } :: cs→wpOpsS P #[C.o1,C.o2] (bodyPostS P C.fn Y cs fun e Z w'=>Z=u'∧∃ x,e=.returned x∧∃ φ' s',K s'∧Q8 φ' M0 N D (look s'.T) (look s'.H) a w'∧QW φ (look s.H) w φ' (look s'.H) w') [1]
   (({ tmps:=#[p]++Array.replicate (C.fn.ntmps - (#[p]:Array Value).size) undef,defers:=[] }:Act).put C.o1.dst v) aa w:=by
  intro aa ah
  have ac:(({ tmps:=#[p]++Array.replicate (C.fn.ntmps - (#[p]:Array Value).size) undef,defers:=[] }:Act).put C.o1.dst v).eval (.tmp C.d1)=v:=by
   have h0:C.d1 < C.fn.ntmps:=C.hlt;have:C.d1 < 1+(C.fn.ntmps - 1):=Nat.lt_of_lt_of_le h0 zo;simp [Act.put,C.hd1,Act.eval,this]
  have ae:(({ tmps:=#[p]++Array.replicate (C.fn.ntmps - (#[p]:Array Value).size) undef,defers:=[] }:Act).put C.o1.dst v).eval (.tmp 0)=p:=by
   simp only [Act.put,C.hd1,Act.eval,Array.getD_eq_getD_getElem?];rw [Array.getElem?_setIfInBounds_ne C.hne,Array.getElem?_append_left zq];simp
  have ab:(execOp (({ tmps:=#[p]++Array.replicate (C.fn.ntmps - (#[p]:Array Value).size) undef,defers:=[] }:Act).put C.o1.dst v).eval C.o2).run P w=.ok (.enter cf #[v,p]) w:=by
   generalize (({ tmps:=#[p]++Array.replicate (C.fn.ntmps - (#[p]:Array Value).size) undef,defers:=[] }:Act).put C.o1.dst v)=A at ac ae;simp only [execOp,C.hop2,resolve,Deferred.ofValue,Sem.run_bind,invoke];have e0:A.eval (.func cf)=.func (.func cf) #[] #[]:=rfl;simp only [e0,Sem.run_pure,Result.andThen_ok];rw [Wq C.hok];simp [ac,ae]
  have G:(#[C.o1,C.o2]:Array Oper)[1]?=some C.o2:=rfl;simp only [wpOpsS,G,af,if_true,ab,Oper.upon];refine (hc φ M0 D a w [v,p] r (by simp only [Qi]; exact ⟨v,[p],rfl,hv,p,[],rfl,hp,rfl⟩)).mono ?_;intro e w' he;cases e with
  | returned x =>
   obtain ⟨φ',s',g1,g2,g3⟩:=he;refine ⟨?_,u',ah, .tuple #[],?_,rfl,_,rfl,φ',s',g1,g2,g3⟩
   ·cases C.o1.dst <;> cases C.o2.dst <;> rfl
   ·simp [results,C.hres]
  | panicked chain =>
   obtain ⟨_,_,_,hF,_⟩:=he;exact hF.elim
  | outgrown=>exact he.elim
 have G:(#[C.o1,C.o2]:Array Oper)[0]?=some C.o1:=rfl;rcases hu Y cs hm with h1 | ⟨h1,rfl,rfl⟩
 ·rw [wpOpsS];simp only [G,ad,if_true,J,h1];exact rest _ rfl
 ·rw [wpOpsS];simp only [G,ad,if_true,J,h1];exact rest _ (by subst hm; rfl)
def QaT (P:Program) (fn:Func) (hc:List (Nat × Blk)) (N:Nat) (cf:FuncId) (R:ZB→QH→Prop):AX→St→Prop
 | .ret,s=>Xy P N cf [Aa, .ptr 2000 0] none s (Bf P fn hc R) (fun _ _=>False)
 | .normal,s=>Xy P N cf [Aa, .ptr 2000 0] none s (Bf P fn hc R) (fun _ _=>False)
 | .panic v,s=>Xy P N cf [v, .ptr 2000 0] none s (Bf P fn hc R) (fun _ _=>False)
 | .exit _,_=>False
def Es (b:Nat):Nat→Nat:=fun x=>if x=b then 2000 else x
def QaU (b:Nat) (T:List (Nat × AV)):List (Nat × AV):=T.map fun p=>(p.1,WT (Es b) p.2)
def Et (b:Nat) (H:List (Nat × Blk)):List (Nat × Blk):=H.map fun p=>(Es b p.1,ZM (Es b) p.2)
theorem yL (b:Nat):∀ (T:List (Nat × AV)) (t:Nat),look (QaU b T) t=(look T t).map (WT (Es b))
 | [],t=>rfl
 | (k,v) :: T,t=>by
  simp only [QaU,List.map_cons,look];by_cases e:k=t
  ·simp [e]
  ·simp only [e,if_false]; exact yL b T t
structure RO (fn:Func) (g:FuncId) where
 r1:Code
 rest:Code
 id:Nat
 o1:Oper
 o2:Oper
 tb:Tmp
 tc:Tmp
 ts:Array TypeId
 hb:fn.body=some (.seq r1 (.seq (.region id #[o1,o2] false) rest))
 hop1:o1.op=.makeFunc (.func g) #[] #[.tmp tb]
 hop2:o2.op=.defer ⟨.value (.tmp tc),#[],ts⟩
 hg1:o1.guard=none
 hg2:o2.guard=none
 hd1:o1.dst=some tc
 hd2:o2.dst=none
 hlt:tc < fn.ntmps
theorem MI:∀ {a b:List Nat},(a.map fun r=>({ target:=.collected r,args:=#[] }:Deferred))=(b.map fun r=>({ target:=.collected r,args:=#[] }:Deferred))→a=b
 | [],[],_=>rfl
 | [],_ :: _,h=>by cases h
 | _ :: _,[],h=>by cases h
 | x :: a,y :: b,h=>by
  simp only [List.map_cons,List.cons.injEq,Deferred.mk.injEq,Target.collected.injEq,and_true] at h;rw [h.1,MI h.2]
theorem uD (C:LK P g cf) (F:RO fn g) (b:Nat) (hf:P.funcs[f]?=some fn) (hl:args.length≤fn.ntmps)
  (bv:Ye P g=true) (cj:b < 1000)
  (h:Ex P fn.ntmps none F.r1 ⟨YW 0 args,hc⟩ (fun x s=>x=.normal∧look s.T F.tb=some (.ptr b 0)∧look s.H 2000=none∧(∀ c k x,look s.H c=some k→k.ob=some x→(some x).map (kE (Es b))=some x) ∧
   Ex P fn.ntmps none F.rest ⟨(F.tc, .fn (.func g) [] [.ptr 2000 0]) :: QaU b s.T,Et b s.H⟩ (QaT P fn hc fn.ntmps cf R))):KD P f args (look hc) R:=by
 intro φ M0 w vs hH ha;refine TZ hf F.hb ?_;refine wpIn_seq (wpIn_mono (h φ M0 _ _ w (MG hH ha hl)) ?_);rintro e a1 w1 ⟨ab,k,s,⟨rfl,b3,ad,ba,a6⟩,r1,E1,O⟩;simp only [J7] at O;subst O;show Code.wpIn (wd none) 0 P (.seq (.region F.id #[F.o1,F.o2] false) F.rest) _ a1 w1;obtain ⟨ch,ao⟩:=r1.tm F.tb _ b3;simp only [Qe] at ao;obtain ⟨bq,Ip,bj,bf⟩:=ao
 let p:Value:=.pointer (some ⟨ab b,0,none⟩)
 let d:Deferred:={ target:=.fn (.func g) #[p],args:=#[] }
 let a2:Act:={ tmps:=a1.tmps.setIfInBounds F.tc (.func (.func g) #[] #[p]),defers:=d :: a1.defers }
 have ca:∀ Q,Code.wpIn (wd none) 0 P F.rest Q a2 w1→Code.wpIn (wd none) 0 P (.seq (.region F.id #[F.o1,F.o2] false) F.rest) Q a1 w1:=by
  intro Q hq;refine wpIn_seq (wpIn_region ?_);have ak:List.range (#[F.o1,F.o2]:Array Oper).size=[0,1]:=rfl;rw [ak];have au:(#[F.o1,F.o2]:Array Oper)[0]?=some F.o1:=rfl;have ay:(#[F.o1,F.o2]:Array Oper)[1]?=some F.o2:=rfl;have b9:∀ y,Region.wanted F.o1 y=true:=fun y=>by simp [Region.wanted,F.hg1]
  have cd:∀ y,Region.wanted F.o2 y=true:=fun y=>by simp [Region.wanted,F.hg2]
  have he:a1.eval (.tmp F.tb)=p:=bq;have ar:(execOp a1.eval F.o1).run P w1=.ok (.value (.func (.func g) #[] #[p])) w1:=by simp [execOp,F.hop1,Instr.makeFunc,he]
  have b6:(a1.put F.o1.dst (.func (.func g) #[] #[p])).eval (.tmp F.tc)=.func (.func g) #[] #[p]:=by
   have h0:F.tc < a1.tmps.size:=by rw [r1.siz]; exact F.hlt
   simp [Act.put,F.hd1,Act.eval,h0]
  have aq:(execOp (a1.put F.o1.dst (.func (.func g) #[] #[p])).eval F.o2).run P w1=.ok (.defer d) w1:=by
   simp [execOp,F.hop2,resolve,b6,Deferred.ofValue,d]
  simp only [wpOpsIn,au,ay,b9,cd,if_true];refine ⟨fun _ _=>trivial,?_⟩;show Oper.uponIn _ _ _ _ _ _ _ (Sem.run P (execOp a1.eval F.o1) w1);rw [ar];refine ⟨fun _ _=>trivial,?_⟩;show Oper.uponIn _ _ _ _ _ _ _ (Sem.run P (execOp (a1.put F.o1.dst (.func (.func g) #[] #[p])).eval F.o2) w1);rw [aq];show Code.wpIn (wd none) 0 P F.rest Q _ w1
  have:({ (a1.put F.o1.dst (.func (.func g) #[] #[p])) with defers:=d :: (a1.put F.o1.dst (.func (.func g) #[] #[p])).defers }:Act).put F.o2.dst undef=a2:=by
   simp [Act.put,F.hd1,F.hd2,a2]
  rw [this];exact hq
 refine ca _ ?_;have cg:∀ c k,look s.H c=some k→c ≠ 2000:=fun c k hc e=>by rw [e,ad] at hc; cases hc
 have a8:∀ c c',c ≠ 2000→c' ≠ 2000→Es b c=Es b c'→c=c':=by
  intro c c' h1 h2 he;simp only [Es] at he;by_cases e1:c=b <;> by_cases e2:c'=b
  ·rw [e1,e2]
  ·simp only [e1,e2,if_true,if_false] at he; exact absurd he.symm h2
  ·simp only [e1,e2,if_true,if_false] at he; exact absurd he h1
  ·simpa only [e1,e2,if_false] using he
 let Y:Nat→Nat:=fun x=>if x=2000 then ab b else ab x
 have G:∀ c,look s.H c ≠ none→Y (Es b c)=ab c:=by
  intro c hc;have b2:c ≠ 2000:=fun e=>hc (by rw [e,ad])
  simp only [Y,Es];by_cases e:c=b
  ·simp [e]
  ·simp [e,b2]
 have ac:∀ c ∈ s.H.map (·.1),c ≠ 2000:=fun c hc e=>by
  have:=Kb.2 hc;rw [e,ad] at this;exact this rfl
 have J:∀ c k,look s.H c=some k→look (Et b s.H) (Es b c)=some (ZM (Es b) k):=by
  intro c k hk;have bp:c ∈ s.H.map (·.1):=Kb.1 (by rw [hk]; simp);unfold Et;rw [En (fun x y O hy b5=>a8 x y (ac x O) (by rcases List.mem_cons.1 hy with rfl | hy; exact ac _ bp; exact ac y hy) b5),hk];rfl
 have Z:∀ x k,look (Et b s.H) x=some k→∃ c k',look s.H c=some k'∧Es b c=x∧k=ZM (Es b) k':=by
  intro x k O;have:x ∈ (Et b s.H).map (·.1):=Kb.1 (by rw [O]; simp);simp only [Et,List.map_map,List.mem_map,Function.comp] at this;obtain ⟨q,hq,rfl⟩:=this;have cc:q.1 ∈ s.H.map (·.1):=List.mem_map_of_mem hq;obtain ⟨k',bg⟩:=AP.1 (Kb.2 cc);rw [J q.1 k' bg] at O;exact ⟨q.1,k',bg,rfl,(Option.some.inj O).symm⟩
 have am:∀ x o,Cb Y (look (Et b s.H)) x o→Cb ab (look s.H) x o:=by
  rintro x o ⟨y,k,g1,g2,g3⟩;obtain ⟨c,k',g4,rfl,rfl⟩:=Z y k g1;refine ⟨c,k',g4,?_,?_⟩
  ·rw [← G c (by rw [g4]; simp)]; exact g2
  ·cases k' <;> exact g3
 have hM:∀ x o,MM Y (look (Et b s.H)) M0 x o→MM ab (look s.H) M0 x o:=fun x o O=>O.elim (fun h=>.inl (am x o h)) .inr
 obtain ⟨o1,o2⟩:=dL (w:=w1) (ρ:=Es b) (φ:=Y) (φc:=ab) (h:=look (Et b s.H)) (hc:=look s.H) G hM J
 have b4:Zz Y (look (Et b s.H)) w1 M0:=by
  refine ⟨fun x y O hy he=>?_,fun x k O=>?_,fun x O o hm=>?_,r1.hp.lt,r1.hp.gm.sub hM⟩
  ·obtain ⟨kx,ax⟩:=AP.1 O;obtain ⟨ky,bz⟩:=AP.1 hy;obtain ⟨c,k1,g1,rfl,_⟩:=Z x kx ax;obtain ⟨c',k2,g2,rfl,_⟩:=Z y ky bz;rw [G c (by rw [g1]; simp),G c' (by rw [g2]; simp)] at he;rw [r1.hp.inj c c' (by rw [g1]; simp) (by rw [g2]; simp) he]
  ·obtain ⟨c,k',g1,rfl,rfl⟩:=Z x k O;rw [G c (by rw [g1]; simp)];have:=r1.hp.blk c k' g1;cases k' with
   | box ty cs=>obtain ⟨c0,q1,q2⟩:=this; exact ⟨c0,q1,o2 _ _ q2⟩
   | arr ty S n=>exact this
   | vec ty S es=>obtain ⟨c0,cap,q1,q2,q3,q4,q5,q6,q7⟩:=this; exact ⟨c0,cap,q1,q2,q3,q4,q5,q6,qJ hM _ _ q7⟩
   | lp T nf st pd =>
    obtain ⟨tmps,d,q1,q2,q3⟩:=this;refine ⟨tmps,d,q1,q2,fun t x ht=>?_⟩;rw [RN] at ht;cases hl:look T t with
    | none=>rw [hl] at ht; cases ht
    | some y =>
     rw [hl] at ht;cases ht;exact ⟨(q3 t y hl).1,o1 _ _ (q3 t y hl).2⟩
   | mp es =>
    obtain ⟨en,cl,q1,q2,q3⟩:=this;refine ⟨en,cl,q1,q2,?_⟩;have:=o2 _ _ q3;rw [qI] at this; exact this
   | mf es =>
    obtain ⟨en,cl,q1,q2,q3,q4⟩:=this;exact ⟨en,cl,q1,by rw [U0]; exact q2,by rw [UZ]; exact o2 _ _ q3,q4⟩
   | mg en cl es =>
    obtain ⟨q1,q2,q3,q4⟩:=this;exact ⟨q1,by rw [U0]; exact q2,by rw [UZ]; exact o2 _ _ q3,q4⟩
   | it m cl sn =>
    obtain ⟨q1,k2,q2,q3⟩:=this;exact ⟨by rw [G m (by rw [q2]; simp)]; exact q1,_,J m _ q2,by rw [Jf,q3]; rfl⟩
  ·obtain ⟨kx,ax⟩:=AP.1 O;obtain ⟨c,k1,g1,rfl,_⟩:=Z x kx ax;rw [G c (by rw [g1]; simp)] at hm;exact r1.hp.fr c (by rw [g1]; simp) o hm
 have a7:∀ c k x,look s.H c=some k→k.ob=some x→(some x).map (kE (Es b))=some x:=ba
 have bi:QW ab (look s.H) w1 Y (look (Et b s.H)) w1:=by
  refine ⟨rfl,rfl,rfl,Nat.le_refl _,fun _ _ _=>rfl,fun _ _ _ _=>rfl,fun x o _ hm=>am x o hm,?_,?_,?_,?_⟩
  ·intro c ty cs hc af;have hne:c ≠ b:=by omega
   have hs:Es b c=c:=by simp [Es,hne]
   have:=J c _ af;rw [hs] at this;exact ⟨⟨VC (Es b) cs,this⟩,by have:=G c (by rw [af]; simp); rwa [hs] at this⟩
  ·intro t ty S n ht aj;have hne:t ≠ b:=by omega
   have hs:Es b t=t:=by simp [Es,hne]
   have h1:=J t _ aj;rw [hs] at h1;exact ⟨n,h1,Nat.le_refl _,fun _=>Yp (by have:=G t (by rw [aj]; simp); rwa [hs] at this) rfl⟩
  ·intro t ty S n ht aj;have hne:t ≠ b:=by omega
   have hs:Es b t=t:=by simp [Es,hne]
   have h1:=J t _ aj;rw [hs] at h1;exact ⟨n,h1,Nat.le_refl _,fun _=>⟨by have:=G t (by rw [aj]; simp); rwa [hs] at this,fun c hc=>⟨c,hc,rfl⟩⟩⟩
  ·intro c k x hc af ho;have hne:c ≠ b:=by omega
   have hs:Es b c=c:=by simp [Es,hne]
   have h1:=J c _ af;rw [hs] at h1;exact ⟨⟨_,h1,by rw [Jf,ho]; exact a7 c k x af ho⟩,by have:=G c (by rw [af]; simp); rwa [hs] at this⟩
 have ai:look (Et b s.H) 2000=some (ZM (Es b) (.box Ip bj)):=by
  have:=J b _ bf;simpa [Es] using this
 have r2:Q8 Y M0 fn.ntmps ⟨d :: a1.defers,w1.heap.size⟩ (look ((F.tc, .fn (.func g) [] [.ptr 2000 0]) :: QaU b s.T)) (look (Et b s.H)) a2 w1:=by
  refine ⟨⟨Nat.le_refl _,[],rfl,List.nodup_nil,fun r hr=>by cases hr⟩,by simp [a2,r1.siz],b4,fun t x ht=>?_⟩;simp only [look] at ht;by_cases e:F.tc=t
  ·simp only [e,if_true,QO] at ht;subst ht;refine ⟨e ▸ F.hlt,?_⟩;have h0:t < a1.tmps.size:=by rw [r1.siz]; exact e ▸ F.hlt
   have:a2.tmps.getD t undef=.func (.func g) #[] #[p]:=by simp [a2,e,h0]
   rw [this];simp only [Qe,Qi];refine ⟨[],[p],rfl,rfl,p,[],rfl,⟨?_,Ip,VC (Es b) bj,ai⟩,rfl⟩;simp [p,Y]
  ·simp only [e,if_false] at ht;rw [yL] at ht;cases hq:look s.T t with
   | none=>rw [hq] at ht; cases ht
   | some y =>
    rw [hq] at ht;simp only [Option.map_some,QO] at ht;subst ht;obtain ⟨g1,g2⟩:=r1.tm t y hq;refine ⟨g1,?_⟩;have:a2.tmps.getD t undef=a1.tmps.getD t undef:=by simp [a2,Array.getElem?_setIfInBounds_ne e]
    rw [this];exact o1 _ _ g2
 refine wpIn_mono (a6 Y M0 _ a2 w1 r2) ?_;rintro e a3 w3 ⟨ae,k,s3,hq,r3,E3,O⟩;have bk:=(E1.trans bi).trans E3;obtain ⟨⟨b7,b1⟩,bh⟩:=E3.kb 2000 Ip _ zo ai
 have bn:∀ w,(invoke (.fn (.func g) #[p]) #[]).run P w=.ok (.enter g #[p]) w:=fun w=>by
  simp only [invoke];rw [Wq bv];rfl
 obtain ⟨bw,ms,hd,bt,al⟩:=r3.dfs;have aw:∀ r ∈ ms,w3.heap[r]?=some (.deferred (some []))∧∀ b,look s3.H b ≠ none→ae b ≠ r:=fun r hr=>(al r hr).2
 have bx:Marks ae ⟨[],w.heap.size⟩ (look s3.H) a1 w3∧∀ aa:List Nat,a1.defers=(aa.map fun r=>({ target:=.collected r,args:=#[] }:Deferred))→∀ r ∈ aa,r < w1.heap.size:=by
  refine ⟨(r1.dfs.keep bi).keep E3,fun aa h1 r hr=>?_⟩;obtain ⟨_,ce,h2,_,h3⟩:=r1.dfs
  have e:aa=ce:=by
   rw [h1] at h2;simp only [List.append_nil] at h2;exact MI h2
  rw [e] at hr;exact (Ll.1 (h3 r hr).2.1).1
 have go:∀ (u u':FrameMode) (rv:AV),u ≠ .run→settle u'=.returning→Xy P fn.ntmps cf [rv, .ptr 2000 0] none s3 (Bf P fn hc R) (fun _ _=>False) →
   (∀ w',UI ms w3 w'→∃ v,Qe ae (look s3.H) w' (MM ae (look s3.H) M0) rv v∧∀ (c0:Frame) (cs:List Frame),c0.mode=u→(recoverD (c0 :: cs)=some (v,{ c0 with mode:=u' } :: cs))∨(recoverD (c0 :: cs)=none∧v=.nilIface∧u'=u)) →
   Je P fn a3.tmps (Out R φ (look hc) w M0) a3.defers u w3:=by
  intro u u' rv hu bb az be;rw [hd];refine RJ hu _ ms w3 bt (fun r hr=>(al r hr).2.1) fun w4 t=>?_
  have r4:=r3.turned t aw;have E4:=bk.turned t (fun r hr=>Nat.le_trans E1.size (al r hr).1) aw;obtain ⟨v,hv,hm⟩:=be w4 t
  have bo:Qe ae (look s3.H) w4 (MM ae (look s3.H) M0) (.ptr 2000 0) p:=by
   simp only [Qe];exact ⟨by rw [bh]; simp [p,Y],Ip,b7,b1⟩
  refine ⟨hu, .inr ⟨.func g,#[p],g,#[p],rfl,bn w4,(C.calls (rv:=rv) (v:=v) (u:=u) (u':=u') az r4 bo hv hm).mono ?_⟩⟩;rintro e bu w5 ⟨rfl,x,rfl,bl,s5,g1,g2,g3⟩;show Je P fn a3.tmps (Out R φ (look hc) w M0) a1.defers (settle bu) w5;rw [bb];obtain ⟨⟨_,aa,hd1,bm,an⟩,av⟩:=bx;have bd:a1.defers=(aa.map fun r=>({ target:=.collected r,args:=#[] }:Deferred))++[]:=hd1
  have ah:∀ r ∈ aa,w5.heap[r]?=some (.deferred (some []))∧∀ b,look s5.H b ≠ none→bl b ≠ r:=by
   intro r hr;have h3:=an r hr
   have bc:r ∉ ms:=fun O=>by
    have h6:w1.heap.size≤r:=(al r O).1;have h7:=av aa (by simpa using hd1) r hr;omega
   have h4:w4.heap[r]?=some (.deferred (some [])):=by rw [t.same r bc]; exact h3.2.1
   have hlt:r < w4.heap.size:=(Ll.1 h4).1;refine ⟨(g3.same r hlt h3.2.2).trans h4,fun b hb e=>?_⟩;cases hk:look s5.H b with
   | none=>exact hb hk
   | some k =>
    obtain ⟨o,ho⟩:=BU (φ:=bl) hk;rw [e] at ho;obtain ⟨b0,k0,b8,br,_⟩:=g3.mu r o hlt ho;exact h3.2.2 b0 (by rw [b8]; simp) br
  rw [bd];refine RJ zq _ aa w5 bm (fun r hr=>(ah r hr).1) fun w6 t6=>?_
  have r6:=g2.turned t6 ah;have E6:=(E4.trans g3).turned t6 (fun r hr=>(an r hr).1) ah;obtain ⟨y,q1,q2⟩:=Ep r6 E6 g1;exact ⟨y,q1,q2⟩
 cases k with
 | normal =>
  simp only [J7] at O;subst O;exact go .returning .returning Aa zq rfl hq fun w' t=>⟨.nilIface,by simp [Aa,Qe,QI],fun c0 cs hm=>.inr ⟨by simp [recoverD,hm],rfl,rfl⟩⟩
 | ret =>
  simp only [J7] at O;subst O;exact go .returning .returning Aa zq rfl hq fun w' t=>⟨.nilIface,by simp [Aa,Qe,QI],fun c0 cs hm=>.inr ⟨by simp [recoverD,hm],rfl,rfl⟩⟩
 | exit i=>exact hq.elim
 | panic x =>
  obtain ⟨v,rfl,hv⟩:=O;refine go (.panicking [{ v:=v,recovered:=false }]) (.panicking [{ v:=v,recovered:=true }]) x zq rfl hq fun w' t=>⟨v,?_,fun c0 cs hm=>.inl (by simp [recoverD,hm])⟩
  exact LJ t aw _ _ hv
def QaV:List (Nat × Blk)→Bool
 | []=>true
 | (_,k) :: l=>k.ob.isNone&&QaV l
theorem yM:∀ {H:List (Nat × Blk)},QaV H=true→∀ c k,look H c=some k→k.ob=none
 | [],_,c,k,G=>by simp [look] at G
 | (b,O) :: H,J,c,k,G=>by
  simp only [QaV,Zf,Option.isNone_iff_eq_none] at J;simp only [look] at G;by_cases e:b=c
  ·simp only [e,if_true,QO] at G;subst G;exact J.1
  ·simp only [e,if_false] at G;exact yM J.2 c k G
theorem Qdt {T:List (Nat × AV)} {st':LoopState} {pd':Option Code} {o:Obj} (hb:h b=some (.lp T nf st pd)) (ad:∀ c t f,w.heap[φ b]? ≠ some (.cells c t f)) (r:Zz φ h w M0)
  (ho:∀ (φ':Nat→Nat) (h':QH) (w':World) (M:Zr),True) :
  QW φ h w φ (upd h b (.lp T nf st' pd')) (w.putObj (φ b) o)∧VR φ h w φ (upd h b (.lp T nf st' pd')) (w.putObj (φ b) o):=by
 have hlt:=BZ r hb (fun _ _ e=>by cases e);have G:∀ x,x ≠ φ b→(w.putObj (φ b) o).heap[x]?=w.heap[x]?:=fun x hx=>World.putObj_heap_other hx
 have hne:∀ c k,h c=some k→k.ob=none→¬ b=c:=fun c k hc hk e=>by rw [← e,hb] at hc; cases hc; cases hk
 have ab:∀ c k,h c=some k→¬ b=c→φ c ≠ φ b:=fun c k hc e h2=>e (r.inj c b (by rw [hc]; simp) (by rw [hb]; simp) h2).symm
 have Y:∀ c ty cs,h c=some (.box ty cs)→upd h b (.lp T nf st' pd') c=some (.box ty cs):=fun c ty cs hc=>by simp [upd,hne c _ hc rfl,hc]
 have aa:∀ t ty S n,h t=some (.arr ty S n)→∃ n',upd h b (.lp T nf st' pd') t=some (.arr ty S n')∧n≤n'∧(n'=n→AKept w (w.putObj (φ b) o) (φ t) (φ t) ty):=by
  intro t ty S n J;have e:=hne t _ J rfl;exact ⟨n,by simp [upd,e,J],Nat.le_refl _,fun _=>Yp (rfl) (by rw [G _ (ab t _ J e)])⟩
 have O:∀ t ty S es,h t=some (.vec ty S es)→∃ es',upd h b (.lp T nf st' pd') t=some (.vec ty S es')∧es.length≤es'.length∧(es'.length=es.length→φ t=φ t∧∀ c,w.heap[φ t]?=some (.cells c ty (0,0))→∃ c',(w.putObj (φ b) o).heap[φ t]?=some (.cells c' ty (0,0))∧c'.size=c.size):=by
  intro t ty S n J;have e:=hne t _ J rfl;exact ⟨n,by simp [upd,e,J],Nat.le_refl _,fun _=>⟨rfl,fun c hc=>⟨c,by rw [G _ (ab t _ J e)]; exact hc,rfl⟩⟩⟩
 have Z:∀ c k x,h c=some k→k.ob=some x→(∃ k',upd h b (.lp T nf st' pd') c=some k'∧k'.ob=some x)∧φ c=φ c:=by
  intro c k x hc ho;by_cases e:b=c
  ·subst e;rw [hb] at hc;cases hc;exact ⟨⟨.lp T nf st' pd',by simp [upd],ho⟩,rfl⟩
  ·exact ⟨⟨k,by simp [upd,e,hc],ho⟩,rfl⟩
 refine ⟨⟨rfl,rfl,rfl,by simp,?_,?_,?_,fun c ty cs _ hc=>⟨⟨cs,Y c ty cs hc⟩,rfl⟩,fun t ty S n _=>aa t ty S n,fun t ty S es _=>O t ty S es,fun c k x _=>Z c k x⟩,fun c ty cs hc=>⟨⟨ty,cs,Y c ty cs hc⟩,rfl⟩,aa,O,Z⟩
 ·intro x _ ac;exact G x (fun e=>ac b (by rw [hb]; simp) e.symm)
 ·intro x y _ hm;have:x ≠ φ b:=fun e=>hm ⟨b,_,hb,e.symm,trivial⟩
  simp [World.cell?,G x this]
 ·rintro x y _ ⟨d,q,h1,h2,h3⟩;by_cases e:b=d
  ·exact ⟨b,_,hb,by rw [e]; exact h2,trivial⟩
  ·exact ⟨d,q,by simpa [upd,e] using h1,h2,h3⟩
theorem nM {G:List (Nat × AV)} (r:Q8 φ M0 N D T h a w) (hb:h b=some (.lp G nf st pd)) :
  ∃ rec:Loop,w.heap[φ b]?=some (.loop rec)∧rec.state=st∧rec.pending=pd∧rec.fn=nf.fn∧rec.params=nf.ps∧rec.assign=nf.assign∧rec.body=nf.body∧rec.tmps.size=nf.N ∧
   (∀ t x,look G t=some x→t < nf.N∧Qe φ h w (MM φ h M0) x (rec.tmps.getD t undef)) ∧
   ∀ st' pd',Q8 φ M0 N D T (upd h b (.lp G nf st' pd')) a (w.putObj (φ b) (.loop { rec with state:=st',pending:=pd' }))∧QW φ h w φ (upd h b (.lp G nf st' pd')) (w.putObj (φ b) (.loop { rec with state:=st',pending:=pd' })):=by
 obtain ⟨tmps,d,Z,J,O⟩:=r.hp.blk b _ hb;refine ⟨_,Z,rfl,rfl,rfl,rfl,rfl,rfl,J,O,fun st' pd'=>?_⟩;obtain ⟨E,X⟩:=Qdt (st':=st') (pd':=pd') (o:=.loop { state:=st',pending:=pd',fn:=nf.fn,tmps:=tmps,params:=nf.ps,assign:=nf.assign,body:=nf.body,defers:=d }) hb (by rw [Z]; simp) r.hp (fun _ _ _ _=>trivial);refine ⟨r.keep E X ?_,E⟩;have hlt:=BZ r.hp hb (fun _ _ e=>by cases e)
 have g:∀ d,upd h b (.lp G nf st' pd') d ≠ none→h d ≠ none:=fun d Y=>by
  by_cases e:b=d
  ·rw [← e,hb]; simp
  ·simpa [upd,e] using Y
 refine ⟨fun c d hc Y he=>r.hp.inj c d (g c hc) (g d Y) he,fun c k hc=>?_,fun c hc=>r.hp.fr c (g c hc),fun x o hx=>by simpa using r.hp.lt x o hx,r.hp.gm.evol E⟩;by_cases e:b=c
 ·subst e;have:k=.lp G nf st' pd':=by simpa [upd] using hc.symm
  subst this;exact ⟨tmps,d,World.putObj_heap_same hlt,J,fun t x ht=>⟨(O t x ht).1,(QJ (E.keeps M0) X).1 _ _ (O t x ht).2⟩⟩
 ·have hc':h c=some k:=by simpa [upd,e] using hc
  refine ZI (E.keeps M0) X (World.putObj_heap_other fun J=>e (r.hp.inj c b (by rw [hc']; simp) (by rw [hb]; simp) J).symm) (r.hp.blk c k hc')
def psT:List Tmp→List AV→List (Nat × AV)→List (Nat × AV)
 | p :: ps,x :: xs,T=>psT ps xs ((p,x) :: T)
 | _,_,T=>T
theorem dN {φ:Nat→Nat} {h:QH} {w:World} {M:Zr} {N:Nat}:∀ (ps:List Tmp) (xs:List AV) (J:List Value) (T:List (Nat × AV)) (tmps:Array Value),(∀ p ∈ ps,p < N)→ps.length=xs.length→Qi φ h w M xs J→tmps.size=N →
  (∀ t x,look T t=some x→t < N∧Qe φ h w M x (tmps.getD t undef)) →
  ((ps.zip J).foldl (fun tmps (p:Tmp × Value)=>tmps.setIfInBounds p.1 p.2) tmps).size=N∧∀ t x,look (psT ps xs T) t=some x→t < N∧Qe φ h w M x (((ps.zip J).foldl (fun tmps (p:Tmp × Value)=>tmps.setIfInBounds p.1 p.2) tmps).getD t undef)
 | [],xs,J,T,tmps,_,Z,hr,hs,O=>by
  have:xs=[]:=List.eq_nil_of_length_eq_zero (by simpa using Z.symm);subst this;simp only [List.zip_nil_left,List.foldl_nil,psT];exact ⟨hs,O⟩
 | p :: ps,[],J,T,tmps,_,Z,hr,hs,O=>by simp at Z
 | p :: ps,x :: xs,J,T,tmps,hp,Z,hr,hs,O=>by
  simp only [Qi] at hr;obtain ⟨v,aa,rfl,h1,h2⟩:=hr;simp only [List.zip_cons_cons,List.foldl_cons,psT];refine dN ps xs aa _ _ (fun q hq=>hp q (by simp [hq])) (by simpa using Z) h2 (by simpa using hs) ?_;intro t y G;simp only [look] at G;have Y:=hp p zq;by_cases e:p=t
  ·simp only [e,if_true,QO] at G;subst G;refine ⟨e ▸ Y,?_⟩;have:(tmps.setIfInBounds p v).getD t undef=v:=by subst e; simp [hs,Y]
   rw [this]; exact h1
  ·simp only [e,if_false] at G;refine ⟨(O t y G).1,?_⟩;have:(tmps.setIfInBounds p v).getD t undef=tmps.getD t undef:=by simp [Array.getElem?_setIfInBounds_ne e]
   rw [this]; exact (O t y G).2
def Bg (H:List (Nat × Blk)) (b:Nat) (T:List (Nat × AV)) (nf:Dz) (R:ZB→QH→Prop) (O:Bool) (st:LoopState) (pd:Option Code) (s:St):Prop :=
 ∃ hc' J G,M4 (look s.H) (look hc') hc'∧K4 (look hc') H=true∧look hc' b=some (.lp T nf J G)∧R (.ret (.p (.val (.bool O)))) (look ((b, .lp T nf st pd) :: hc'))
def QaW (H:List (Nat × Blk)) (b:Nat) (T:List (Nat × AV)) (nf:Dz) (R:ZB→QH→Prop):AX→St→Prop
 | .normal,s=>Bg H b T nf R true .ready none s
 | .ret,s=>Bg H b T nf R false .done (some .ret) s
 | .exit i,s=>Bg H b T nf R false .done (some (.exit i)) s
 | .panic _,_=>False
theorem Qdu (r:Q8 φ M0 N D (look s.T) (look s.H) a w) (E:QW φ0 (look hc) w0 φ (look s.H) w)
  (J:M4 (look s.H) (look hc') hc') (h2:K4 (look hc') hc=true):Q8 φ M0 N D (look []) (look hc') a w∧QW φ0 (look hc) w0 φ (look hc') w:=by
 obtain ⟨k1,k2,_⟩:=Eo r E J h2;refine ⟨⟨?_,r.siz,k1,fun t x O=>by cases O⟩,k2⟩;obtain ⟨h0,Y,g1,g2,g3⟩:=r.dfs;refine ⟨h0,Y,g1,g2,fun x G=>⟨(g3 x G).1,(g3 x G).2.1,fun b hb=>(g3 x G).2.2 b ?_⟩⟩;cases hq:look hc' b with
 | none=>exact absurd hq hb
 | some k'=>obtain ⟨⟨k,Z,_⟩,_⟩:=JJ J b k' hq; rw [Z]; simp
theorem uE {T:List (Nat × AV)} (aj:1000≤b) (hb:look H b=some (.lp T nf .ready pd)) (ah:nf.ps.size=args.length) (ak:∀ p ∈ nf.ps.toList,p < nf.N)
  (h:∀ l,Ex P nf.N (some l) nf.assign ⟨psT nf.ps.toList args T,H⟩ (fun x s1=>x=.normal∧∃ O,look s1.H b=some (.lp T nf .ready O) ∧
   Ex P nf.N (some l) nf.body ⟨s1.T,(b, .lp T nf .busy O) :: s1.H⟩ (QaW H b T nf R))):QaL P b args (look H) R:=by
 intro φ M0 w vs hH ha;obtain ⟨tmps,d,ai,al,hT⟩:=hH.blk b _ hb;have au:=Zt ha;have af:=run_yield (P:=P) (args:=vs.toArray) ai (by simp; omega);refine ⟨_,_,_,_,af,?_⟩;refine roundIn_of_wpIn trivial ?_
 have ab:(nf.ps.zip vs.toArray).foldl (fun tmps (x:Tmp × Value)=>match x with | (t,a)=>tmps.setIfInBounds t a) tmps=(nf.ps.toList.zip vs).foldl (fun tmps (p:Tmp × Value)=>tmps.setIfInBounds p.1 p.2) tmps:=by
  rw [← Array.foldl_toList];simp
 obtain ⟨p1,p2⟩:=dN (φ:=φ) (h:=look H) (w:=w) (M:=MM φ (look H) M0) (N:=nf.N) nf.ps.toList args vs T tmps ak (by simpa using ah) ha al hT
 have r:Q8 φ M0 nf.N ⟨[],w.heap.size⟩ (look (psT nf.ps.toList args T)) (look H) { tmps:=(nf.ps.zip vs.toArray).foldl (fun tmps (x:Tmp × Value)=>match x with | (t,a)=>tmps.setIfInBounds t a) tmps,defers:=[] } w:=by
  refine ⟨⟨Nat.le_refl _,[],rfl,List.nodup_nil,fun r hr=>by cases hr⟩,?_,hH,?_⟩
  ·show Array.size _=_;rw [ab]; exact p1
  ·intro t x ht;show _∧Qe _ _ _ _ x (Array.getD _ t undef);rw [ab]; exact p2 t x ht
 refine wpIn_mono (h (φ b) φ M0 _ _ w r) ?_;rintro e a1 w1 ⟨J,k,s1,⟨rfl,O,am,Y⟩,r1,E1,Z⟩;simp only [J7] at Z;subst Z;have G:J b=φ b:=(E1.ko b _ _ aj hb rfl).2;obtain ⟨rec,g1,g2,g3,g4,g5,g6,g7,g8,g9,g10⟩:=nM r1 am;obtain ⟨r2,E2⟩:=g10 .busy O;refine ⟨_,by rw [← G]; exact run_beginRound g1 g2,?_⟩;have an:(w1.putObj (J b) (.loop { rec with state:=.busy }))=w1.putObj (J b) (.loop { rec with state:=.busy,pending:=O }):=by rw [← g3]
 rw [← G,an];rw [← G] at Y;refine wpIn_mono (Y J M0 _ a1 _ r2) ?_;rintro e a3 w3 ⟨ad,k,s3,hq,r3,E3,Z⟩;have ac:=(E1.trans E2).trans E3
 have fin:∀ (aa:Bool) (jump:Option Code),jump.isNone=aa→Bg H b T nf R aa (if jump.isNone then .ready else .done) jump s3 →
   ∃ v w',(Instr.endRound (J b) jump).run P w3=.ok v w'∧∃ φ' r h',R r h'∧Zz φ' h' w' M0∧QW φ (look H) w φ' h' w'∧QaK φ' h' w' (MM φ' h' M0) r (.returned v):=by
  rintro aa jump hj ⟨hc',ar,aq,q1,q2,q3,q4⟩;obtain ⟨r4,E4⟩:=Qdu r3 ac q1 q2;obtain ⟨ao,f1,f2,f3,f4,f5,f6,f7,f8,f9,f10⟩:=nM r4 q3;obtain ⟨r5,E5⟩:=f10 (if jump.isNone then .ready else .done) jump
  have ae:ad b=J b:=by
   have e1:ad b=φ b:=by
    have:=ac.ko b _ _ aj hb rfl;exact this.2
   rw [e1,G]
  refine ⟨.bool jump.isNone,_,by rw [← ae]; exact run_endRound jump f1,ad, .ret (.p (.val (.bool aa))),_,q4,r5.hp,E4.trans E5, .bool jump.isNone,rfl,by simp [Qe,QI,hj]⟩
 cases k with
 | normal =>
  simp only [J7] at Z;subst Z;exact fin true none rfl hq
 | ret =>
  simp only [J7] at Z;subst Z;exact fin false (some .ret) rfl hq
 | exit i =>
  simp only [J7] at Z;subst Z;exact fin false (some (.exit i)) rfl hq
 | panic x=>exact hq.elim
def QaX (G:Nat) (T:List (Nat × AV)) (nf:Dz) (Q:AX→St→Prop) (s:St):Prop :=
  ∃ st pd,look s.H G=some (.lp T nf st pd)∧st ≠ .busy ∧
    (match pd with
     | none=>Q .normal ⟨s.T,(G, .lp T nf .exhausted none) :: s.H⟩
     | some .ret=>Q .ret ⟨s.T,(G, .lp T nf .exhausted (some .ret)) :: s.H⟩
     | some (.exit i)=>Q (.exit i) ⟨s.T,(G, .lp T nf .exhausted (some (.exit i))) :: s.H⟩
     | some _=>False)
theorem wK {f:Operand} {ps:Array Tmp} {assign:Code} {l m:List AV} (G:Nat) (ar:1000≤G) (hf:Zc (look s.T) f=some (.fn (.func g) l m)) (hok:Ye P g=true) (hD:look s.H G=none)
  (ad:∀ fn,Xy P N g (l++[.yv G]++m) none ⟨s.T,(G, .lp s.T ⟨N,fn,ps,assign,body⟩ .ready none) :: s.H⟩ (QaX G s.T ⟨N,fn,ps,assign,body⟩ Q) Q):Ex P N none (.rangeFunc f ps assign body) s Q:=by
 intro φ0 M0 D a w r0;obtain ⟨r,ai,a6,hC⟩:=r0.lift 2;refine wpIn_mono ?_ (fun _ _ _ p=>Post.trans ai p);generalize KC φ0 w.heap.size 2=φ at r ai a6 hC;refine wpIn_rangeFunc fun fn _=>?_
 have an:=r.ev hf;simp only [Qe] at an;obtain ⟨l',m',aw,ba,av⟩:=an
 let Z:Loop:={ state:=.ready,pending:=none,fn:=fn,tmps:=a.tmps,params:=ps,assign:=assign,body:=body,defers:=w.heap.size }
 let O:World:=w.alloc (.deferred (some []))
 let w1:World:=O.alloc (.loop Z)
 have ae:O.heap=w.heap.push (.deferred (some [])):=rfl;have ay:O.heap.size=w.heap.size+1:=by rw [ae]; simp
 obtain ⟨Ea,Xa,Ha⟩:=UG (w:=w) (w':=O) (φ:=φ) (h:=look s.H) (M0:=M0) rfl rfl rfl zo (fun x hx=>by rw [ae,Array.getElem?_push,if_neg zo]) r.hp (fun b hb=>(hC b hb).imp (fun h=>h) (fun h=>by omega));have ao:Clear φ (look s.H) O 1:=fun b hb=>(hC b hb).imp (fun h=>by omega) (fun h=>by omega)
 have ra:Q8 φ M0 N D (look s.T) (look s.H) a O:=r.keep Ea Xa Ha;have hh:w1.heap=O.heap.push (.loop Z):=rfl;obtain ⟨E1,X1⟩:=XY (k:=.lp s.T ⟨N,fn,ps,assign,body⟩ .ready none) hh rfl rfl rfl hD Ha ao
 have H1:Zz (Qu φ G O.heap.size) (upd (look s.H) G (.lp s.T ⟨N,fn,ps,assign,body⟩ .ready none)) w1 M0:=by
  refine XZ hh hD Ha ao E1 X1 ⟨a.tmps,w.heap.size,?_,r.siz,fun t x ht=>⟨(ra.tm t x ht).1,(QJ (E1.keeps M0) X1).1 _ _ (ra.tm t x ht).2⟩⟩;rw [hh];simp [Z]
 let a':Act:={ a with defers:=[{ target:=.collected w.heap.size,args:=#[] }]++a.defers }
 have r1:Q8 (Qu φ G O.heap.size) M0 N D (look s.T) (look ((G, .lp s.T ⟨N,fn,ps,assign,body⟩ .ready none) :: s.H)) a' w1:=by
  have af:=ra.keep E1 X1 H1;refine ⟨?_,af.siz,H1,af.tm⟩;obtain ⟨h0,ms,g1,g2,g3⟩:=af.dfs;obtain ⟨az,aq,am,bb,a7⟩:=r.dfs
  have au:ms=aq:=by
   rw [g1] at am;exact MI (List.append_cancel_right am)
  refine ⟨h0,w.heap.size :: ms,by simp [a',g1],List.nodup_cons.2 ⟨fun hx=>?_,g2⟩,fun x hx=>?_⟩
  ·rw [au] at hx;have:=(Ll.1 (a7 _ hx).2.1).1;omega
  ·rcases List.mem_cons.1 hx with rfl | hx
   ·refine ⟨az,?_,fun b hb he=>?_⟩
    ·rw [hh,Array.getElem?_push,if_neg zo,ae];simp
    ·by_cases e:G=b
     ·simp only [Qu,e,if_true] at he; omega
     ·have al:look s.H b ≠ none:=by simpa [look,e] using hb
      simp only [Qu,e,if_false] at he;obtain ⟨k,hk⟩:=AP.1 al;rcases hC b al with h7 | h7 <;> omega
   ·exact g3 x hx
 have ac:Qu φ G O.heap.size G=w.heap.size+1:=by simp [Qu,ay]
 have ab:QW φ (look s.H) w (Qu φ G O.heap.size) (look ((G, .lp s.T ⟨N,fn,ps,assign,body⟩ .ready none) :: s.H)) w1:=Ea.trans E1
 have ah:Qi (Qu φ G O.heap.size) (look ((G, .lp s.T ⟨N,fn,ps,assign,body⟩ .ready none) :: s.H)) w1 (MM (Qu φ G O.heap.size) (look ((G, .lp s.T ⟨N,fn,ps,assign,body⟩ .ready none) :: s.H)) M0) (l++[.yv G]++m) (l'++[Value.func (.yield (w.heap.size+1)) #[] #[]]++m'):=by
  have k1:=(QJ (E1.keeps M0) X1).2 _ _ ((QJ (Ea.keeps M0) Xa).2 _ _ ba);have k2:=(QJ (E1.keeps M0) X1).2 _ _ ((QJ (Ea.keeps M0) Xa).2 _ _ av);refine Zl (Zl k1 ?_) k2;simp only [Qi,Qe];exact ⟨_,[],rfl,⟨by rw [ac],_,s.T,⟨N,fn,ps,assign,body⟩,by simp [look]; rfl,rfl⟩,rfl⟩
 refine ⟨w.heap.size+1,_,_,{ target:=.fn (.func g) m'.toArray,args:=l'.toArray++#[Value.func (.yield (w.heap.size+1)) #[] #[]] },w1,g,(l'++[Value.func (.yield (w.heap.size+1)) #[] #[]]++m').toArray,w1,run_enterLoop_outer fn a.tmps ps assign body,?_,fun _ _=>trivial,?_,(fun h=>by cases h),?_⟩
 ·have e1:Array.map a.eval #[Operand.const (Value.func (Fn.yield (w.heap.size+1)) #[] #[])]=#[Value.func (.yield (w.heap.size+1)) #[] #[]]:=by simp [Act.eval]
  simp only [resolve,aw,Deferred.ofValue,Sem.run_pure,e1];rfl
 ·simp only [invoke];rw [Wq hok];congr 2;apply Array.ext';simp
 ·refine callsIn_wide.2 ((ad fn _ M0 D a' w1 _ r1 ah).mono ?_);intro e w3 he;cases e with
  | returned v =>
   obtain ⟨J,s3,⟨st,pd,q1,q2,q3⟩,r3,E3⟩:=he;have a8:Q8 J M0 N D (look s3.T) (look s3.H) a' w3:=r3
   have ak:J G=w.heap.size+1:=by
    have:=(E3.ko G _ _ ar (by simp [look]; rfl) rfl).2;rw [this,ac]
   obtain ⟨Y,f1,f2,f3,f4,f5,f6,f7,f8,f9,f10⟩:=nM a8 q1;obtain ⟨r4,E4⟩:=f10 .exhausted pd;have ax:w3.putObj (J G) (.loop { Y with state:=.exhausted })=w3.putObj (J G) (.loop { Y with state:=.exhausted,pending:=pd }):=by rw [← f3]
   have aj:(Instr.endLoop (w.heap.size+1)).run P w3=.ok pd (w3.putObj (J G) (.loop { Y with state:=.exhausted,pending:=pd })):=by
    rw [← ak,run_endLoop f1 (by rw [f2]; exact q2),ax,f3]
   have aa:=(ab.trans E3).trans E4;refine ⟨pd,_,aj,?_⟩;cases pd with
   | none=>exact ⟨J, .normal,⟨s3.T,(G, .lp s.T ⟨N,fn,ps,assign,body⟩ .exhausted none) :: s3.H⟩,q3,r4,aa,rfl⟩
   | some c =>
    cases c with
    | ret=>exact wpIn_ret ⟨J, .ret,⟨s3.T,(G, .lp s.T ⟨N,fn,ps,assign,body⟩ .exhausted (some .ret)) :: s3.H⟩,q3,r4,aa,rfl⟩
    | exit i=>exact wpIn_exit ⟨J, .exit i,⟨s3.T,(G, .lp s.T ⟨N,fn,ps,assign,body⟩ .exhausted (some (.exit i))) :: s3.H⟩,q3,r4,aa,rfl⟩
    | _=>exact q3.elim
  | panicked chain=>exact Post.trans ab he
  | outgrown=>exact he.elim
theorem NR {φ:Nat→Nat} {h:QH} {w:World} {M:Zr}:∀ {cs:List PV} {l:List Value},Qi φ h w M (cs.map .p) l→∀ (j:Nat) (c:PV),cs[j]?=some c→∃ v:Value,l[j]?=some v∧QI w M c v
 | [],l,_,j,c,G=>by simp at G
 | x :: cs,l,J,j,c,G=>by
  simp only [List.map_cons,Qi,Qe] at J;obtain ⟨y,ys,rfl,O,h2⟩:=J;cases j with
  | zero=>simp at G; subst G; exact ⟨y,by simp,O⟩
  | succ j =>
   obtain ⟨v,Z,Y⟩:=NR h2 j c (by simpa using G);exact ⟨v,by simpa using Z,Y⟩
structure Good (ks:List Nat) (H:List (Nat × Blk)):Prop where
 keys:H.map (·.1)=ks
 ok:∀ c k,look H c=some k→okRefB (look H) k=true
attribute [go_sem] KZ YV WT VC Qgv leB le Ef ZX Z6
mutual
def flat:AV→Bool
 | .p (.val _)=>true
 | .agg l=>qK l
 | .tup l=>qK l
 | .ifc _ x=>flat x
 | _=>false
def qK:List AV→Bool
 | []=>true
 | x :: xs=>flat x&&qK xs
end
theorem yN:(∀ (x:AV) (v:Value),flat x=true→Qe φ h w M x v→Qe φ' h' w' M' x v)∧(∀ (xs:List AV) (l:List Value),qK xs=true→Qi φ h w M xs l→Qi φ' h' w' M' xs l):=by
 have key:∀ n:Nat,(∀ (x:AV),SizeOf.sizeOf x≤n→∀ v,flat x=true→Qe φ h w M x v→Qe φ' h' w' M' x v)∧(∀ (xs:List AV),SizeOf.sizeOf xs≤n→∀ l,qK xs=true→Qi φ h w M xs l→Qi φ' h' w' M' xs l):=by
  intro n
  induction n with
  | zero =>
   refine ⟨fun x J=>?_,fun es J=>?_⟩
   ·cases x <;> simp at J
   ·cases es <;> simp at J
  | succ n ih =>
   obtain ⟨Z,i2⟩:=ih;refine ⟨fun x J v hf G=>?_,fun xs J l hf G=>?_⟩
   ·cases x with
    | p x=>cases x with
     | val u=>simp only [Qe,QI] at G ⊢; exact G
     | sl S es=>simp [flat] at hf
    | agg l=>simp only [flat,Qe] at hf G ⊢; obtain ⟨m,O,Y⟩:=G; exact ⟨m,O,i2 l (by simp at J; omega) m hf Y⟩
    | tup l=>simp only [flat,Qe] at hf G ⊢; obtain ⟨m,O,Y⟩:=G; exact ⟨m,O,i2 l (by simp at J; omega) m hf Y⟩
    | ifc t x=>simp only [flat,Qe] at hf G ⊢; obtain ⟨y,O,Y⟩:=G; exact ⟨y,O,Z x (by simp at J; omega) y hf Y⟩
    | _=>simp [flat] at hf
   ·cases xs with
    | nil=>simpa [Qi] using G
    | cons x xs =>
     simp only [qK,Zf,Qi] at hf G ⊢;simp at J;obtain ⟨y,ys,O,Y,h3⟩:=G;exact ⟨y,ys,O,Z x zo y hf.1 Y,i2 xs zo ys hf.2 h3⟩
 exact ⟨fun x v=>(key (SizeOf.sizeOf x)).1 x (Nat.le_refl _) v,fun xs l=>(key (SizeOf.sizeOf xs)).2 xs (Nat.le_refl _) l⟩
def leR (H:QH) (x y:AV):Prop :=
 le x y∨∃ (b off:Nat) (ty:TypeId) (l:List AV) (cs:List PV),x=.ptr b off∧y=.eptr (cs.drop off)∧H b=some (.box ty l)∧Ef l (cs.map .p)∧UB (cs.map .p)=true
def nN (H:QH):List AV→List AV→Prop
 | [],ys=>ys=[]
 | x :: xs,ys=>∃ z G,ys=z :: G∧leR H x z∧nN H xs G
def roK (K:St→Prop) (Q:AX→St→Prop) (s:St) (dst:Option Tmp):ZB→Prop
 | .ret x=>flat x=true∧K (s.put dst x)
 | .panic x=>flat x=true∧Q (.panic x) s
theorem wL {X:ZB}
  (hc:QC P f args' X) (ad:nN (look s.H) args args') (hn:YV args'=true) (hd:∀ t,dst=some t→t < N) (J:roK K Q s dst X):Xy P N f args dst s K Q:=by
 intro φ M0 D a w O r ha
 let Z:Zr:=fun x o=>MB φ (look s.H) w M0 x o∧¬ ∃ b ty l,look s.H b=some (.box ty l)∧φ b=x
 have hH:Zz φ Ff w Z:=Hw (fun x o hm=>uh hm.1) r.hp.gm.w (fun g hg o h=>r.hp.gm.m g hg o h.1.1);have hM:∀ r o v,w.cell? ⟨r,o,none⟩=some v→¬ MM φ (look s.H) M0 r o→w.cell? ⟨r,o,none⟩=some v∧¬ MM φ Ff Z r o:=fun r o v G Y=>⟨G,fun h3=>h3.elim We (fun h4=>Y h4.1.1)⟩
 have hP:=(ZP (w:=w) (w':=w) (M:=MM φ (look s.H) M0) (M':=MM φ Ff Z) hM)
 have conv:∀ (xs ys:List AV) (O:List Value),nN (look s.H) xs ys→YV ys=true→Qi φ (look s.H) w (MM φ (look s.H) M0) xs O→Qi φ Ff w (MM φ Ff Z) ys O:=by
  intro xs
  induction xs with
  | nil=>intro ys O G _ Y; simp only [nN] at G; subst G; simpa [Qi] using Y
  | cons x xs ih =>
   intro ys O G h0 Y;simp only [nN] at G;obtain ⟨z,zs,rfl,h3,h4⟩:=G;simp only [YV,Zf] at h0;simp only [Qi] at Y ⊢;obtain ⟨v,aa,rfl,h5,h6⟩:=Y;refine ⟨v,aa,rfl,?_,ih zs aa h4 h0.2 h6⟩;rcases h3 with h3 | ⟨b,off,ty,l,cs,rfl,rfl,hb,hl,G⟩
   ·exact (WR hM).1 _ _ h0.1 (JX.1 _ _ _ h3 h5)
   ·simp only [Qe] at h5 ⊢;obtain ⟨rfl,_⟩:=h5;refine ⟨φ b,off,rfl,?_⟩;obtain ⟨c0,ac,ae⟩:=r.hp.blk b _ hb;have ab:=JX.2 _ _ _ hl ae;rw [RD];intro j c hj;rw [List.getElem?_drop] at hj;obtain ⟨u,g1,g2⟩:=NR ab (off+j) c hj;refine ⟨u,?_,?_,TM G ab u (List.mem_of_getElem? g1),hP.1 _ _ g2⟩
    ·rw [ZU ac]; simpa using g1
    ·rintro (h7 | h7)
     ·exact We h7
     ·exact h7.2 ⟨b,ty,l,hb,rfl⟩
 refine (hc φ Z w O hH (conv _ _ _ ad hn ha)).mono ?_;rintro e w' ⟨φ',r',h',⟨rfl,rfl⟩,af,E,he⟩;obtain ⟨r,E1,X1,hC⟩:=r.lift (w'.heap.size - w.heap.size);obtain ⟨E2,X2,H2⟩:=UG E.os E.tape E.output E.size (fun x J=>E.same x J (fun b hb=>absurd rfl hb)) r.hp hC;have r2:Q8 _ M0 N D (look s.T) (look s.H) a w':=r.keep E2 X2 H2;cases r' with
 | ret x =>
  obtain ⟨v,rfl,hv⟩:=he;exact ⟨_,s.put dst x,J.2,r2.put hd (yN.1 _ _ J.1 hv),by cases dst <;> exact E1.trans E2⟩
 | panic x =>
  obtain ⟨v,rfl,hv⟩:=he;exact ⟨_, .panic x,s,J.2,r2,E1.trans E2,v,rfl,yN.1 _ _ J.1 hv⟩
theorem Qdv {H:QH} {l:List AV} {cs ds:List PV} (hb:H b=some (.box ty l)) (O:Ef l (cs.map .p)) (J:UB (cs.map .p)=true) (G:ds=cs.drop off):leR H (.ptr b off) (.eptr ds) :=
 .inr ⟨b,off,ty,l,cs,rfl,by rw [G],hb,O,J⟩
theorem Qdw {op:Op} {rest:List Oper} {acc:List Yn} {s0:St} {x:AV}
  (hc:QC P f args' (.ret x)) (G:ZO (look s.T) op=some (f,args)) (hb:Ye P f=true) (O:KE N o.dst=true) (J:Ef args args') (Y:YV args'=true) (Z:KZ x=true) (h:K (s.put o.dst x)):nK P N ops Q o op rest acc s0 s K :=
 .inl ⟨f,args,args',x,G,hb,O,J,Y,Z,hc,h⟩
attribute [go_sem] flat qK
theorem qL {P:Program} {cs:List Frame}:∀ (O:List Nat) (fr:Frame) (w:World),fr.mode ≠ .run→O.Nodup→(∀ r ∈ O,w.heap[r]?=some (.deferred (some []))) →
  fr.defers=(O.map fun r=>({ target:=.collected r,args:=#[] }:Deferred))→∃ w',UI O w w'∧Steps P (lone fr cs w) (lone { fr with defers:=[] } cs w')
 | [],fr,w,_,_,_,Y=>by
  refine ⟨w,⟨rfl,rfl,rfl,rfl,fun _ _=>rfl,fun k G=>by cases G⟩,?_⟩;have:{ fr with defers:=[] }=fr:=by cases fr; simp only at Y; subst Y; rfl
  rw [this];exact Steps.refl _ _
 | r :: O,fr,w,hm,Z,hb,Y=>by
  have h0:=hb r zq;have hlt:r < w.heap.size:=(Ll.1 h0).1;have J:∀ k:Nat,(w.putObj r (.deferred none)).heap[k]?=(w.heap.setIfInBounds r (.deferred none))[k]?:=fun k=>rfl
  have h1:=step_collected (cs:=cs) hm Y rfl (run_takeDeferred (P:=P) h0)
  obtain ⟨w',t,hs⟩:=qL (P:=P) (cs:=cs) O { fr with defers:=[]++(O.map fun r=>({ target:=.collected r,args:=#[] }:Deferred)) } (w.putObj r (.deferred none)) hm (List.nodup_cons.1 Z).2 (fun k G=>by
   have:r ≠ k:=fun e=>(List.nodup_cons.1 Z).1 (e ▸ G)
   rw [J,Array.getElem?_setIfInBounds_ne this];exact hb k (by simp [G])) rfl
  refine ⟨w',⟨t.os,t.tape,t.output,by rw [t.size]; simp [World.putObj],fun k G=>?_,fun k G=>?_⟩, .head h1 hs⟩
  ·simp only [List.mem_cons,not_or] at G;rw [t.same k G.2,J,Array.getElem?_setIfInBounds_ne (Ne.symm G.1)]
  ·rcases List.mem_cons.1 G with e | e
   ·subst e;rw [t.same k (List.nodup_cons.1 Z).1,J];simp [hlt]
   ·exact t.turn k e
theorem wM {args:Array Value} {u:FrameMode} {R:Ending→FrameMode→World→Prop} (hf:P.funcs[f]?=some fn) (hb:fn.body=some c)
  (h:∀ (G:Frame) (cs:List Frame),G.mode=u→c.wpS P (fun e a cs' w'=>(e=.normal∨e=.ret)∧∃ Y u',a.defers=(Y.map fun r=>({ target:=.collected r,args:=#[] }:Deferred))∧Y.Nodup∧(∀ r ∈ Y,w'.heap[r]?=some (.deferred (some []))) ∧
   cs'={ G with mode:=u' } :: cs∧∀ w'',UI Y w' w''→∃ v,(results fn a.tmps).run P w''=.ok v w''∧R (.returned v) u' w'') { tmps:=args++Array.replicate (fn.ntmps - args.size) undef,defers:=[] } (G :: cs) w):CallsD P f args u w R:=by
 intro G cs hu
 let b:Frame:={ (default:Frame) with fn:=f,kind:=.deferred }
 have O:Frame.enter P f args .deferred=b.at { tmps:=args++Array.replicate (fn.ntmps - args.size) undef,defers:=[] } [.code c]:=by
  simp [Frame.enter,Frame.at,hf,hb,b]
 obtain ⟨e,a',cs',w',⟨he,Y,u',hd,hn,aa,rfl,hq⟩,J⟩:=h G cs hu b [] rfl rfl;rw [← O] at J
 have fin:∀ todo,Steps P (lone (Frame.enter P f args .deferred) (G :: cs) w) (lone { b.at a' todo with mode:=.returning } ({ G with mode:=u' } :: cs) w') →
   ∃ e Z w'' fr,R e Z w''∧Comes P (lone (Frame.enter P f args .deferred) (G :: cs) w) (lone fr ({ G with mode:=Z } :: cs) w'') e∧fr.kind=.deferred∧fr.going P w'' e:=by
  intro todo hs;obtain ⟨w'',t,ab⟩:=qL (P:=P) (cs:={ G with mode:=u' } :: cs) Y { b.at a' todo with mode:=.returning } w' zq hn aa hd;obtain ⟨v,hr,hR⟩:=hq w'' t;exact ⟨.returned v,u',w'',_,hR,Steps.trans hs ab,rfl,rfl,rfl,fn,hf,hr⟩
 rcases he with rfl | rfl
 ·exact fin [] (Steps.trans J (.one step_end))
 ·obtain ⟨todo,hs⟩:=J;exact fin todo hs
structure Fj (P:Program) (g:FuncId) where
 fn:Func
 id:Nat
 o1:Oper
 o2:Oper
 d1:Tmp
 d2:Tmp
 ts:Array TypeId
 rest:Code
 hf:P.funcs[g]?=some fn
 hb:fn.body=some (.seq (.region id #[o1,o2] false) rest)
 hop1:o1.op=.call ⟨.builtin .recover,#[],ts⟩
 hop2:o2.op=.assign (.tmp d1)
 hg1:o1.guard=none
 hg2:o2.guard=none
 hd1:o1.dst=some d1
 hd2:o2.dst=some d2
 hlt1:d1 < fn.ntmps
 hlt2:d2 < fn.ntmps
def Qfb (u u':FrameMode) (v:Value):Prop:=∀ (G:Frame) (cs:List Frame),G.mode=u→(recoverD (G :: cs)=some (v,{ G with mode:=u' } :: cs))∨(recoverD (G :: cs)=none∧v=.nilIface∧u'=u)
def CD (P:Program) (g:FuncId) (O:Array Value) (w:World) (R:Ending→World→Prop):Prop:=∀ u u' v J,O=(v :: J).toArray→Qfb u u' v→CallsD P g J.toArray u w fun e G w'=>G=u'∧R e w'
def Qfc (P:Program) (fn:Func) (hc:List (Nat × Blk)) (R:ZB→QH→Prop):AX→St→Prop
 | .panic _,_=>False
 | x,s=>dM P fn hc R x s
theorem dO {T:List (Nat × AV)} {d:Tmp} {x:AV} (r:Q8 φ M0 N D (look T) h a w) (J:d < N) (O:Qe φ h w (MM φ h M0) x v):Q8 φ M0 N D (look ((d,x) :: T)) h (a.put (some d) v) w:=by
 refine ⟨r.dfs,by simp [Act.put,r.siz],r.hp,fun t y G=>?_⟩;simp only [look] at G;by_cases e:d=t
 ·simp only [e,if_true,QO] at G;subst G;subst e;refine ⟨J,?_⟩;have h0:d < a.tmps.size:=by rw [r.siz]; exact J
  have:(a.put (some d) v).tmps.getD d undef=v:=by simp [Act.put,h0]
  rw [this];exact O
 ·simp only [e,if_false] at G;obtain ⟨g1,g2⟩:=r.tm t y G;refine ⟨g1,?_⟩;have:(a.put (some d) v).tmps.getD t undef=a.tmps.getD t undef:=by simp [Act.put,Array.getElem?_setIfInBounds_ne e]
  rw [this];exact g2
theorem uF (C:Fj P g) {rv:AV} {caps:List AV} (hl:caps.length≤C.fn.ntmps)
  (h:Ex P C.fn.ntmps none C.rest ⟨(C.d2,rv) :: (C.d1,rv) :: YW 0 caps,hc⟩ (Qfc P C.fn hc R)) :
  ∀ φ M0 w vs,Zz φ (look hc) w M0→Qi φ (look hc) w (MM φ (look hc) M0) (rv :: caps) vs→CD P g vs.toArray w (Out R φ (look hc) w M0):=by
 intro φ M0 w vs hH ha u u' v vl al aj;simp only [Qi] at ha;obtain ⟨y,ys,rfl,ad,hcaps⟩:=ha
 have ai:y=v∧ys=vl:=by
  have:=congrArg Array.toList al;simpa using this
 obtain ⟨rfl,rfl⟩:=ai;refine wM C.hf C.hb fun c0 cs hm=>wpS_seq (wpS_region ?_)
 have aa:List.range (#[C.o1,C.o2]:Array Oper).size=[0,1]:=rfl;rw [aa];have ak:∀ y,Region.wanted C.o1 y=true:=fun y=>by simp [Region.wanted,C.hg1]
 have aq:∀ y,Region.wanted C.o2 y=true:=fun y=>by simp [Region.wanted,C.hg2]
 have Y:∀ (a:Act) (w:World),(execOp a.eval C.o1).run P w=.ok .recover w:=fun a w=>by simp [execOp,C.hop1,resolve,invoke,builtin]
 have r0:=MG hH hcaps hl;generalize au:({ tmps:=ys.toArray++Array.replicate (C.fn.ntmps - ys.toArray.size) undef,defers:=[] }:Act)=a0 at r0;have r1:=dO (d:=C.d1) r0 C.hlt1 ad
 have ah:(a0.put C.o1.dst y).eval (.tmp C.d1)=y:=by
  have h0:C.d1 < a0.tmps.size:=by rw [r0.siz]; exact C.hlt1
  simp [Act.put,C.hd1,Act.eval,h0]
 have r2:=dO (d:=C.d2) r1 C.hlt2 ad
 have rest:∀ (Z:List Frame),Z={ c0 with mode:=u' } :: cs→wpOpsS P #[C.o1,C.o2] (Exit.thenS (C.rest.wpS P (fun e a cs' w'=>(e=.normal∨e=.ret)∧∃ G J,a.defers=(G.map fun r=>({ target:=.collected r,args:=#[] }:Deferred))∧G.Nodup∧(∀ r ∈ G,w'.heap[r]?=some (.deferred (some []))) ∧
   cs'={ c0 with mode:=J } :: cs∧∀ w'',UI G w' w''→∃ v,(results C.fn a.tmps).run P w''=.ok v w''∧(J=u'∧Out R φ (look hc) w M0 (.returned v) w''))) (fun e a cs' w'=>(e=.normal∨e=.ret)∧∃ G J,a.defers=(G.map fun r=>({ target:=.collected r,args:=#[] }:Deferred))∧G.Nodup∧(∀ r ∈ G,w'.heap[r]?=some (.deferred (some []))) ∧
   cs'={ c0 with mode:=J } :: cs∧∀ w'',UI G w' w''→∃ v,(results C.fn a.tmps).run P w''=.ok v w''∧(J=u'∧Out R φ (look hc) w M0 (.returned v) w''))) [1] (a0.put C.o1.dst y) Z w:=by
  intro Z ar;have O:(#[C.o1,C.o2]:Array Oper)[1]?=some C.o2:=rfl
  have ac:(execOp (a0.put C.o1.dst y).eval C.o2).run P w=.ok (.value y) w:=by
   generalize a0.put C.o1.dst y=A at ah;simp [execOp,C.hop2,ah]
  simp only [wpOpsS,O,aq,if_true,ac,Oper.upon];show C.rest.wpS P _ ((a0.put C.o1.dst y).put C.o2.dst y) Z w;rw [C.hd1,C.hd2];refine wpS_of_wp (wpIn_wide.1 (wpIn_mono (h φ M0 _ _ w r2) ?_));rintro e a' w' ⟨φ',k,s',h1,h2,h3,h4⟩;obtain ⟨ao,G,hd,am,ae⟩:=h2.dfs;have an:a'.defers=G.map fun r=>({ target:=.collected r,args:=#[] }:Deferred):=by rw [hd]; simp
  have ab:∀ r ∈ G,w'.heap[r]?=some (.deferred (some []))∧∀ b,look s'.H b ≠ none→φ' b ≠ r:=fun r hr=>(ae r hr).2
  have go:Bf P C.fn hc R s'→∃ G J,a'.defers=(G.map fun r=>({ target:=.collected r,args:=#[] }:Deferred))∧G.Nodup∧(∀ r ∈ G,w'.heap[r]?=some (.deferred (some []))) ∧
    Z={ c0 with mode:=J } :: cs∧∀ w'',UI G w' w''→∃ v,(results C.fn a'.tmps).run P w''=.ok v w''∧(J=u'∧Out R φ (look hc) w M0 (.returned v) w''):=by
   intro af;refine ⟨G,u',an,am,fun r hr=>(ab r hr).1,ar,fun w'' t=>?_⟩;obtain ⟨v,g1,g2⟩:=Ep (h2.turned t ab) (h3.turned t (fun r hr=>(ae r hr).1) ab) af;exact ⟨v,g1,rfl,g2⟩
  cases k with
  | normal =>
   simp only [J7] at h4;subst h4;exact ⟨.inl rfl,go h1⟩
  | ret =>
   simp only [J7] at h4;subst h4;exact ⟨.inr rfl,go h1⟩
  | exit i=>exact h1.elim
  | panic x=>exact h1.elim
 have O:(#[C.o1,C.o2]:Array Oper)[0]?=some C.o1:=rfl;rcases aj c0 cs hm with h1 | ⟨h1,rfl,rfl⟩
 ·rw [wpOpsS];simp only [O,ak,if_true,Y,h1];exact rest _ rfl
 ·rw [wpOpsS];simp only [O,ak,if_true,Y,h1];exact rest _ (by subst hm; rfl)
def DEx (P:Program) (N:Nat) (g:FuncId) (args:List AV) (s:St) (K:St→Prop):Prop :=
 ∀ φ M0 D a w G,Q8 φ M0 N D (look s.T) (look s.H) a w→Qi φ (look s.H) w (MM φ (look s.H) M0) args G→CD P g G.toArray w fun e w' =>
  match e with
  | .returned v=>∃ φ' s',K s'∧Q8 φ' M0 N D (look s'.T) (look s'.H) a w'∧QW φ (look s.H) w φ' (look s'.H) w'
  | _=>False
theorem lv (ρ:Nat→Nat)
  (O:∀ φ M0 w J,Zz φ (look hc) w M0→Qi φ (look hc) w (MM φ (look hc) M0) args' J→CD P g J.toArray w (Out R φ (look hc) w M0))
  (G:Ef args (VC ρ args')) (hok:Z6 (look hc) args'=true)
  (Z:∀ c ∈ hc.map (·.1),1000≤c) (ac:∀ c k,look hc c=some k→okRefB (look hc) k=true)
  (aa:∀ c k,look hc c=some k→∃ k0,look s.H (ρ c)=some k0∧leB k0 (ZM ρ k))
  (Y:∀ c ∈ hc.map (·.1),∀ d ∈ hc.map (·.1),ρ c=ρ d→c=d)
  (ab:∀ r h',R r h'→∃ hc' H2,h'=look hc'∧FQ ρ hc hc' s.H∧(∀ b,look H2 b=look (Z9 ρ hc' s.H) b) ∧
   (match r with | .ret x=>K (St.put ⟨s.T,H2⟩ none (WT ρ x)) | .panic x=>False)):DEx P N g args s K:=by
 intro φ M0 D a w J r ha;have:=NP (C:=fun _ J w R=>CD P g J w R) (fun _ J w R R' h hq u u' v vl e hr=>(h u u' v vl e hr).mono (fun e ad w' p=>⟨p.1,hq _ _ p.2⟩)) (N:=N) (dst:=none) (K:=K) (Q:=fun _ _=>False) ρ O G hok Z ac aa Y (fun t ht=>by cases ht) ab φ M0 D a w J r ha;intro u u' v vl e hr;refine (this u u' v vl e hr).mono ?_;rintro e ad w' ⟨rfl,he⟩;refine ⟨rfl,?_⟩;cases e with
 | returned v=>exact he
 | panicked c=>obtain ⟨_,x,_,hF,_,_,hx⟩:=he; exact hF
 | outgrown=>exact he
def sg (L:List (Nat × Nat)) (x:Nat):Nat:=(look L x).getD x
def sgI (L:List (Nat × Nat)) (x:Nat):Nat:=sg (L.map fun p=>(p.2,p.1)) x
def sgT (L:List (Nat × Nat)) (T:List (Nat × AV)):List (Nat × AV):=T.map fun p=>(p.1,WT (sg L) p.2)
def uG (L:List (Nat × Nat)) (H:List (Nat × Blk)):List (Nat × Blk):=H.map fun p=>(sg L p.1,ZM (sg L) p.2)
def Qgz (L:List (Nat × Nat)) (H:List (Nat × Blk)):Bool:=H.all (fun p=>sgI L (sg L p.1) == p.1)&&L.all (fun p=>Nat.blt p.1 1000&&Nat.ble 1000 p.2&&sg L p.1 == p.2&&(match look H p.1 with | some (.box _ _)=>true | _=>false))
def RP (L:List (Nat × Nat)):List AV:=L.map fun p=>.ptr p.2 0
theorem uH (L:List (Nat × Nat)):∀ (T:List (Nat × AV)) (t:Nat),look (sgT L T) t=(look T t).map (WT (sg L))
 | [],t=>rfl
 | (k,v) :: T,t=>by
  simp only [sgT,List.map_cons,look];by_cases e:k=t
  ·simp [e]
  ·simp only [e,if_false]; exact uH L T t
structure MJ (fn:Func) (g:FuncId) where
 r1:Code
 rest:Code
 id:Nat
 o1:Oper
 o2:Oper
 caps:Array Operand
 tbs:List Tmp
 tc:Tmp
 ts:Array TypeId
 hb:fn.body=some (.seq r1 (.seq (.region id #[o1,o2] false) rest))
 hop1:o1.op=.makeFunc (.func g) #[] caps
 hcaps:caps.toList=tbs.map .tmp
 hop2:o2.op=.defer ⟨.value (.tmp tc),#[],ts⟩
 hg1:o1.guard=none
 hg2:o2.guard=none
 hd1:o1.dst=some tc
 hd2:o2.dst=none
 hlt:tc < fn.ntmps
def dP (P:Program) (fn:Func) (hc:List (Nat × Blk)) (N:Nat) (g:FuncId) (caps:List AV) (R:ZB→QH→Prop):AX→St→Prop
 | .ret,s=>DEx P N g (Aa :: caps) s (Bf P fn hc R)
 | .normal,s=>DEx P N g (Aa :: caps) s (Bf P fn hc R)
 | .panic v,s=>DEx P N g (v :: caps) s (Bf P fn hc R)
 | .exit _,_=>False
theorem wN (F:MJ fn g) (L:List (Nat × Nat)) (hf:P.funcs[f]?=some fn) (hl:args.length≤fn.ntmps)
  (b3:Ye P g=true)
  (h:Ex P fn.ntmps none F.r1 ⟨YW 0 args,hc⟩ (fun x s=>x=.normal∧F.tbs.map (look s.T)=L.map (fun p=>some (.ptr p.1 0))∧Qgz L s.H=true∧(∀ c k x,look s.H c=some k→k.ob=some x→(some x).map (kE (sg L))=some x) ∧
   Ex P fn.ntmps none F.rest ⟨(F.tc, .fn (.func g) [] (RP L)) :: sgT L s.T,uG L s.H⟩ (dP P fn hc fn.ntmps g (RP L) R))):KD P f args (look hc) R:=by
 intro φ M0 w vs hH ha;refine TZ hf F.hb ?_;refine wpIn_seq (wpIn_mono (h φ M0 _ _ w (MG hH ha hl)) ?_);rintro e a1 w1 ⟨ab,k,s,⟨rfl,bm,bi,bf,bd⟩,r1,E1,Y⟩;simp only [J7] at Y;subst Y;show Code.wpIn (wd none) 0 P (.seq (.region F.id #[F.o1,F.o2] false) F.rest) _ a1 w1;simp only [Qgz,Zf,List.all_eq_true,beq_iff_eq] at bi;obtain ⟨bt,af⟩:=bi
 have hL:∀ p ∈ L,p.1 < 1000∧1000≤p.2∧∃ ty cs,look s.H p.1=some (.box ty cs):=by
  intro p hp;have:=af p hp;obtain ⟨⟨⟨g1,g2⟩,_⟩,g3⟩:=this;refine ⟨by simpa [Nat.blt_eq] using g1,Nat.le_of_ble_eq_true g2,?_⟩;split at g3
  ·rename_i ty cs he; exact ⟨ty,cs,he⟩
  ·cases g3
 let ps:Array Value:=F.caps.map a1.eval
 have cc:ps.toList=F.tbs.map fun t=>a1.eval (.tmp t):=by simp [ps,F.hcaps,Function.comp_def]
 have bh:ps.toList=L.map fun p=>.pointer (some ⟨ab p.1,0,none⟩):=by
  rw [cc]
  have:∀ (ts:List Tmp) (L:List (Nat × Nat)),ts.map (look s.T)=L.map (fun p=>some (.ptr p.1 0))→ts.map (fun t=>a1.eval (.tmp t))=L.map fun p=>.pointer (some ⟨ab p.1,0,none⟩):=by
   intro ts
   induction ts with
   | nil=>intro L hh; cases L with
    | nil=>rfl
    | cons p L=>cases hh
   | cons t ts ih=>intro L hh; cases L with
    | nil=>cases hh
    | cons p L =>
     simp only [List.map_cons,List.cons.injEq] at hh ⊢;refine ⟨?_,ih L hh.2⟩;have:=(r1.tm t _ hh.1).2;simp only [Qe] at this;exact this.1
  exact this _ _ bm
 let d:Deferred:={ target:=.fn (.func g) ps,args:=#[] }
 let a2:Act:={ tmps:=a1.tmps.setIfInBounds F.tc (.func (.func g) #[] ps),defers:=d :: a1.defers }
 have ch:∀ Q,Code.wpIn (wd none) 0 P F.rest Q a2 w1→Code.wpIn (wd none) 0 P (.seq (.region F.id #[F.o1,F.o2] false) F.rest) Q a1 w1:=by
  intro Q hq;refine wpIn_seq (wpIn_region ?_);have ak:List.range (#[F.o1,F.o2]:Array Oper).size=[0,1]:=rfl;rw [ak];have ay:(#[F.o1,F.o2]:Array Oper)[0]?=some F.o1:=rfl;have ba:(#[F.o1,F.o2]:Array Oper)[1]?=some F.o2:=rfl;have cg:∀ y,Region.wanted F.o1 y=true:=fun y=>by simp [Region.wanted,F.hg1]
  have ck:∀ y,Region.wanted F.o2 y=true:=fun y=>by simp [Region.wanted,F.hg2]
  have av:(execOp a1.eval F.o1).run P w1=.ok (.value (.func (.func g) #[] ps)) w1:=by simp [execOp,F.hop1,Instr.makeFunc,ps]
  have ca:(a1.put F.o1.dst (.func (.func g) #[] ps)).eval (.tmp F.tc)=.func (.func g) #[] ps:=by
   have h0:F.tc < a1.tmps.size:=by rw [r1.siz]; exact F.hlt
   simp [Act.put,F.hd1,Act.eval,h0]
  have au:(execOp (a1.put F.o1.dst (.func (.func g) #[] ps)).eval F.o2).run P w1=.ok (.defer d) w1:=by
   simp [execOp,F.hop2,resolve,ca,Deferred.ofValue,d]
  simp only [wpOpsIn,ay,ba,cg,ck,if_true];refine ⟨fun _ _=>trivial,?_⟩;show Oper.uponIn _ _ _ _ _ _ _ (Sem.run P (execOp a1.eval F.o1) w1);rw [av];refine ⟨fun _ _=>trivial,?_⟩;show Oper.uponIn _ _ _ _ _ _ _ (Sem.run P (execOp (a1.put F.o1.dst (.func (.func g) #[] ps)).eval F.o2) w1);rw [au];show Code.wpIn (wd none) 0 P F.rest Q _ w1
  have:({ (a1.put F.o1.dst (.func (.func g) #[] ps)) with defers:=d :: (a1.put F.o1.dst (.func (.func g) #[] ps)).defers }:Act).put F.o2.dst undef=a2:=by
   simp [Act.put,F.hd1,F.hd2,a2]
  rw [this];exact hq
 refine ch _ ?_
 have aj:∀ c ∈ s.H.map (·.1),sgI L (sg L c)=c:=by
  intro c hc;obtain ⟨p,hp,rfl⟩:=List.mem_map.1 hc;exact bt p hp
 have a6:∀ c,1000≤c→sg L c=c:=by
  intro c hc;unfold sg;cases hq:look L c with
  | none=>rfl
  | some d =>
   have:c ∈ L.map (·.1):=Kb.1 (by rw [hq]; simp);obtain ⟨p,hp,rfl⟩:=List.mem_map.1 this;have:=(hL p hp).1;omega
 let O:Nat→Nat:=fun x=>ab (sgI L x)
 have G:∀ c,look s.H c ≠ none→O (sg L c)=ab c:=fun c hc=>by simp only [O]; rw [aj c (Kb.1 hc)]
 have be:∀ c d,c ∈ s.H.map (·.1)→d ∈ s.H.map (·.1)→sg L c=sg L d→c=d:=fun c d hc hd he=>by rw [← aj c hc,he,aj d hd]
 have aa:∀ c k,look s.H c=some k→look (uG L s.H) (sg L c)=some (ZM (sg L) k):=by
  intro c k hk;have bx:c ∈ s.H.map (·.1):=Kb.1 (by rw [hk]; simp);unfold uG;rw [En (fun x y Y hy b9=>be x y Y (by rcases List.mem_cons.1 hy with rfl | hy; exact bx; exact hy) b9),hk];rfl
 have Z:∀ x k,look (uG L s.H) x=some k→∃ c k',look s.H c=some k'∧sg L c=x∧k=ZM (sg L) k':=by
  intro x k Y;have:x ∈ (uG L s.H).map (·.1):=Kb.1 (by rw [Y]; simp);simp only [uG,List.map_map,List.mem_map,Function.comp] at this;obtain ⟨q,hq,rfl⟩:=this;have cj:q.1 ∈ s.H.map (·.1):=List.mem_map_of_mem hq;obtain ⟨k',bn⟩:=AP.1 (Kb.2 cj);rw [aa q.1 k' bn] at Y;exact ⟨q.1,k',bn,rfl,(Option.some.inj Y).symm⟩
 have ao:∀ x o,Cb O (look (uG L s.H)) x o→Cb ab (look s.H) x o:=by
  rintro x o ⟨y,k,g1,g2,g3⟩;obtain ⟨c,k',g4,rfl,rfl⟩:=Z y k g1;refine ⟨c,k',g4,?_,?_⟩
  ·rw [← G c (by rw [g4]; simp)]; exact g2
  ·cases k' <;> exact g3
 have hM:∀ x o,MM O (look (uG L s.H)) M0 x o→MM ab (look s.H) M0 x o:=fun x o Y=>Y.elim (fun h=>.inl (ao x o h)) .inr
 obtain ⟨o1,o2⟩:=dL (w:=w1) (ρ:=sg L) (φ:=O) (φc:=ab) (h:=look (uG L s.H)) (hc:=look s.H) G hM aa
 have b8:Zz O (look (uG L s.H)) w1 M0:=by
  refine ⟨fun x y Y hy he=>?_,fun x k Y=>?_,fun x Y o hm=>?_,r1.hp.lt,r1.hp.gm.sub hM⟩
  ·obtain ⟨kx,a8⟩:=AP.1 Y;obtain ⟨ky,b6⟩:=AP.1 hy;obtain ⟨c,k1,g1,rfl,_⟩:=Z x kx a8;obtain ⟨c',k2,g2,rfl,_⟩:=Z y ky b6;rw [G c (by rw [g1]; simp),G c' (by rw [g2]; simp)] at he;rw [r1.hp.inj c c' (by rw [g1]; simp) (by rw [g2]; simp) he]
  ·obtain ⟨c,k',g1,rfl,rfl⟩:=Z x k Y;rw [G c (by rw [g1]; simp)];have:=r1.hp.blk c k' g1;cases k' with
   | box ty cs=>obtain ⟨c0,q1,q2⟩:=this; exact ⟨c0,q1,o2 _ _ q2⟩
   | arr ty S n=>exact this
   | vec ty S es=>obtain ⟨c0,cap,q1,q2,q3,q4,q5,q6,q7⟩:=this; exact ⟨c0,cap,q1,q2,q3,q4,q5,q6,qJ hM _ _ q7⟩
   | lp T nf st pd =>
    obtain ⟨tmps,d,q1,q2,q3⟩:=this;refine ⟨tmps,d,q1,q2,fun t x ht=>?_⟩;rw [RN] at ht;cases hl:look T t with
    | none=>rw [hl] at ht; cases ht
    | some y =>
     rw [hl] at ht;cases ht;exact ⟨(q3 t y hl).1,o1 _ _ (q3 t y hl).2⟩
   | mp es =>
    obtain ⟨en,cl,q1,q2,q3⟩:=this;refine ⟨en,cl,q1,q2,?_⟩;have:=o2 _ _ q3;rw [qI] at this; exact this
   | mf es =>
    obtain ⟨en,cl,q1,q2,q3,q4⟩:=this;exact ⟨en,cl,q1,by rw [U0]; exact q2,by rw [UZ]; exact o2 _ _ q3,q4⟩
   | mg en cl es =>
    obtain ⟨q1,q2,q3,q4⟩:=this;exact ⟨q1,by rw [U0]; exact q2,by rw [UZ]; exact o2 _ _ q3,q4⟩
   | it m cl sn =>
    obtain ⟨q1,k2,q2,q3⟩:=this;exact ⟨by rw [G m (by rw [q2]; simp)]; exact q1,_,aa m _ q2,by rw [Jf,q3]; rfl⟩
  ·obtain ⟨kx,a8⟩:=AP.1 Y;obtain ⟨c,k1,g1,rfl,_⟩:=Z x kx a8;rw [G c (by rw [g1]; simp)] at hm;exact r1.hp.fr c (by rw [g1]; simp) o hm
 have bp:QW ab (look s.H) w1 O (look (uG L s.H)) w1:=by
  have ac:∀ c k,1000≤c→look s.H c=some k→look (uG L s.H) c=some (ZM (sg L) k)∧O c=ab c:=by
   intro c k hc ae;have h1:=aa c _ ae;have h2:=G c (by rw [ae]; simp);rw [a6 c hc] at h1 h2;exact ⟨h1,h2⟩
  refine ⟨rfl,rfl,rfl,Nat.le_refl _,fun _ _ _=>rfl,fun _ _ _ _=>rfl,fun x o _ hm=>ao x o hm,?_,?_,?_,?_⟩
  ·intro c ty cs hc ae;obtain ⟨h1,h2⟩:=ac c _ hc ae;exact ⟨⟨VC (sg L) cs,h1⟩,h2⟩
  ·intro t ty S n ht a7;obtain ⟨h1,h2⟩:=ac t _ ht a7;exact ⟨n,h1,Nat.le_refl _,fun _=>Yp (h2) rfl⟩
  ·intro t ty S n ht a7;obtain ⟨h1,h2⟩:=ac t _ ht a7;exact ⟨n,h1,Nat.le_refl _,fun _=>⟨h2,fun c hc=>⟨c,hc,rfl⟩⟩⟩
  ·intro c k x hc ae ho;obtain ⟨h1,h2⟩:=ac c _ hc ae;exact ⟨⟨_,h1,by rw [Jf,ho]; exact bf c k x ae ho⟩,h2⟩
 have am:(L.map fun p=>AV.ptr (sg L p.1) 0)=RP L:=List.map_congr_left fun p hp=>by rw [(af p hp).1.2]
 have ah:∀ p ∈ L,∃ ty cs,look (uG L s.H) (sg L p.1)=some (.box ty cs):=by
  intro p hp;obtain ⟨_,_,ty,cs,hb⟩:=hL p hp;exact ⟨ty,VC (sg L) cs,aa _ _ hb⟩
 have r2:Q8 O M0 fn.ntmps ⟨d :: a1.defers,w1.heap.size⟩ (look ((F.tc, .fn (.func g) [] (L.map fun p=>.ptr (sg L p.1) 0)) :: sgT L s.T)) (look (uG L s.H)) a2 w1:=by
  refine ⟨⟨Nat.le_refl _,[],rfl,List.nodup_nil,fun r hr=>by cases hr⟩,by simp [a2,r1.siz],b8,fun t x ht=>?_⟩;simp only [look] at ht;by_cases e:F.tc=t
  ·simp only [e,if_true,QO] at ht;subst ht;refine ⟨e ▸ F.hlt,?_⟩;have h0:t < a1.tmps.size:=by rw [r1.siz]; exact e ▸ F.hlt
   have:a2.tmps.getD t undef=.func (.func g) #[] ps:=by simp [a2,e,h0]
   rw [this];simp only [Qe,Qi];refine ⟨[],ps.toList,by simp,rfl,?_⟩;rw [bh]
   have:∀ l:List (Nat × Nat),(∀ p ∈ l,p ∈ L)→Qi O (look (uG L s.H)) w1 (MM O (look (uG L s.H)) M0) (l.map fun p=>.ptr (sg L p.1) 0) (l.map fun p=>.pointer (some ⟨ab p.1,0,none⟩)):=by
    intro l
    induction l with
    | nil=>intro _; simp [Qi]
    | cons p l ih =>
     intro hh;simp only [List.map_cons,Qi];refine ⟨_,_,rfl,?_,ih fun q hq=>hh q (by simp [hq])⟩;simp only [Qe];obtain ⟨_,_,ty,cs,hb⟩:=hL p (hh p zq);exact ⟨by rw [G p.1 (by rw [hb]; simp)],ah p (hh p zq)⟩
   exact this L fun p hp=>hp
  ·simp only [e,if_false] at ht;rw [uH] at ht;cases hq:look s.T t with
   | none=>rw [hq] at ht; cases ht
   | some y =>
    rw [hq] at ht;simp only [Option.map_some,QO] at ht;subst ht;obtain ⟨g1,g2⟩:=r1.tm t y hq;refine ⟨g1,?_⟩;have:a2.tmps.getD t undef=a1.tmps.getD t undef:=by simp [a2,Array.getElem?_setIfInBounds_ne e]
    rw [this];exact o1 _ _ g2
 rw [am] at r2;refine wpIn_mono (bd O M0 _ a2 w1 r2) ?_;rintro e a3 w3 ⟨J,k,s3,hq,r3,E3,Y⟩;have br:=(E1.trans bp).trans E3
 have bb:∀ w,(invoke (.fn (.func g) ps) #[]).run P w=.ok (.enter g ps) w:=fun w=>by
  simp only [invoke];rw [Wq b3];simp
 obtain ⟨b4,ms,hd,b1,al⟩:=r3.dfs;have an:∀ r ∈ ms,w3.heap[r]?=some (.deferred (some []))∧∀ b,look s3.H b ≠ none→J b ≠ r:=fun r hr=>(al r hr).2
 have az:∀ ad:List Nat,a1.defers=(ad.map fun r=>({ target:=.collected r,args:=#[] }:Deferred))→∀ r ∈ ad,r < w1.heap.size:=by
  intro ad h1 r hr;obtain ⟨_,cm,h2,_,h3⟩:=r1.dfs
  have e:ad=cm:=by
   rw [h1] at h2;simp only [List.append_nil] at h2;exact MI h2
  rw [e] at hr;exact (Ll.1 (h3 r hr).2.1).1
 have b5:Marks J ⟨[],w.heap.size⟩ (look s3.H) a1 w3:=(r1.dfs.keep bp).keep E3
 have ar:Qi J (look s3.H) w3 (MM J (look s3.H) M0) (RP L) ps.toList:=by
  rw [bh]
  have:∀ l:List (Nat × Nat),(∀ p ∈ l,p ∈ L)→Qi J (look s3.H) w3 (MM J (look s3.H) M0) (RP l) (l.map fun p=>.pointer (some ⟨ab p.1,0,none⟩)):=by
   intro l
   induction l with
   | nil=>intro _; simp [RP,Qi]
   | cons p l ih =>
    intro hh;have hp:=hh p zq;simp only [RP,List.map_cons,Qi];refine ⟨_,_,rfl,?_,ih fun q hq=>hh q (by simp [hq])⟩;simp only [Qe];obtain ⟨_,aw,ty,cs,hb⟩:=hL p hp;obtain ⟨Vz,cn,bq⟩:=ah p hp;rw [(af p hp).1.2] at bq;obtain ⟨⟨cd,b7⟩,bo⟩:=E3.kb p.2 Vz _ aw bq;refine ⟨?_,Vz,cd,b7⟩;rw [bo,← (af p hp).1.2,G p.1 (by rw [hb]; simp)]
  exact this L fun p hp=>hp
 have go:∀ (u u':FrameMode) (rv:AV),u ≠ .run→settle u'=.returning→DEx P fn.ntmps g (rv :: RP L) s3 (Bf P fn hc R) →
   (∀ w',UI ms w3 w'→∃ v,Qe J (look s3.H) w' (MM J (look s3.H) M0) rv v∧Qfb u u' v) →
   Je P fn a3.tmps (Out R φ (look hc) w M0) a3.defers u w3:=by
  intro u u' rv hu bg bc bl;rw [hd];refine RJ hu _ ms w3 b1 (fun r hr=>(al r hr).2.1) fun w4 t=>?_
  have r4:=r3.turned t an;have E4:=br.turned t (fun r hr=>Nat.le_trans E1.size (al r hr).1) an;obtain ⟨v,hv,hm⟩:=bl w4 t
  have ax:Qi J (look s3.H) w4 (MM J (look s3.H) M0) (rv :: RP L) (v :: ps.toList):=by
   simp only [Qi];refine ⟨v,ps.toList,rfl,hv,?_⟩
   have:∀ (xs:List AV) (l:List Value),Qi J (look s3.H) w3 (MM J (look s3.H) M0) xs l→Qi J (look s3.H) w4 (MM J (look s3.H) M0) xs l:=by
    intro xs
    induction xs with
    | nil=>intro l hl; simpa [Qi] using hl
    | cons x xs ih =>
     intro l hl;simp only [Qi] at hl ⊢;obtain ⟨y,ys,rfl,h1,h2⟩:=hl;exact ⟨y,ys,rfl,LJ t an _ _ h1,ih _ h2⟩
   exact this _ _ ar
  have bu:=bc J M0 _ _ w4 (v :: ps.toList) r4 ax u u' v ps.toList rfl hm;rw [Array.toArray_toList] at bu;refine ⟨hu, .inr ⟨.func g,ps,g,ps,rfl,bb w4,bu.mono ?_⟩⟩;rintro e b2 w5 ⟨rfl,he⟩;cases e with
  | panicked c=>exact he.elim
  | outgrown=>exact he.elim
  | returned x =>
  obtain ⟨bv,s5,g1,g2,g3⟩:=he;show Je P fn a3.tmps (Out R φ (look hc) w M0) a1.defers (settle b2) w5;rw [bg];obtain ⟨_,ad,hd1,bw,aq⟩:=b5;have bk:a1.defers=(ad.map fun r=>({ target:=.collected r,args:=#[] }:Deferred))++[]:=hd1
  have ai:∀ r ∈ ad,w5.heap[r]?=some (.deferred (some []))∧∀ b,look s5.H b ≠ none→bv b ≠ r:=by
   intro r hr;have h3:=aq r hr
   have bj:r ∉ ms:=fun Y=>by
    have h6:w1.heap.size≤r:=(al r Y).1;have h7:=az ad (by simpa using hd1) r hr;omega
   have h4:w4.heap[r]?=some (.deferred (some [])):=by rw [t.same r bj]; exact h3.2.1
   have hlt:r < w4.heap.size:=(Ll.1 h4).1;refine ⟨(g3.same r hlt h3.2.2).trans h4,fun b hb e=>?_⟩;cases hk:look s5.H b with
   | none=>exact hb hk
   | some k =>
    obtain ⟨o,ho⟩:=BU (φ:=bv) hk;rw [e] at ho;obtain ⟨b0,k0,ce,bz,_⟩:=g3.mu r o hlt ho;exact h3.2.2 b0 (by rw [ce]; simp) bz
  rw [bk];refine RJ zq _ ad w5 bw (fun r hr=>(ai r hr).1) fun w6 t6=>?_
  have r6:=g2.turned t6 ai;have E6:=(E4.trans g3).turned t6 (fun r hr=>(aq r hr).1) ai;obtain ⟨y,q1,q2⟩:=Ep r6 E6 g1;exact ⟨y,q1,q2⟩
 cases k with
 | normal =>
  simp only [J7] at Y;subst Y;exact go .returning .returning Aa zq rfl hq fun w' t=>⟨.nilIface,by simp [Aa,Qe,QI],fun c0 cs hm=>.inr ⟨by simp [recoverD,hm],rfl,rfl⟩⟩
 | ret =>
  simp only [J7] at Y;subst Y;exact go .returning .returning Aa zq rfl hq fun w' t=>⟨.nilIface,by simp [Aa,Qe,QI],fun c0 cs hm=>.inr ⟨by simp [recoverD,hm],rfl,rfl⟩⟩
 | exit i=>exact hq.elim
 | panic x =>
  obtain ⟨v,rfl,hv⟩:=Y;refine go (.panicking [{ v:=v,recovered:=false }]) (.panicking [{ v:=v,recovered:=true }]) x zq rfl hq fun w' t=>⟨v,?_,fun c0 cs hm=>.inl (by simp [recoverD,hm])⟩
  exact LJ t an _ _ hv
theorem Qc {a b:α} (h:a=b:=by kernel_rfl):a=b:=h
theorem QF {f g:α→β} (h:∀ x,f x=g x:=by intro _; kernel_rfl):∀ x,f x=g x:=h
def YE (cs:List PV):List AV:=cs.map .p
def ag (cs:List PV):AV:=.agg (cs.map .p)
inductive Conv where
 | id
 | sl (S:Nat)
 | vn
 | agg (l:List Conv)
mutual
def cv:Conv→AV→AV
 | .sl _, .tsl S es _=>.p (.sl S es)
 | .sl S, .p (.val (.slice none 0 0))=>.p (.sl S [])
 | .vn, .p (.val (.slice none 0 0))=>.vnil
 | .sl S, .vnil=>.p (.sl S [])
 | .agg cs, .agg xs=>.agg (qM cs xs)
 | .agg cs, .tup xs=>.tup (qM cs xs)
 | _,x=>x
def qM:List Conv→List AV→List AV
 | _,[]=>[]
 | [],x :: xs=>x :: xs
 | c :: cs,x :: xs=>cv c x :: qM cs xs
end
theorem QaY:∀ n:Nat,(∀ (x:AV),SizeOf.sizeOf x≤n→∀ c,le x (cv c x))∧(∀ (xs:List AV),SizeOf.sizeOf xs≤n→∀ cs,Ef xs (qM cs xs)):=by
 intro n
 induction n with
 | zero =>
  refine ⟨fun x G=>?_,fun es G=>?_⟩
  ·cases x <;> simp at G
  ·cases es <;> simp at G
 | succ n O =>
  obtain ⟨J,i2⟩:=O;refine ⟨fun x G c=>?_,fun xs G cs=>?_⟩
  ·unfold cv;split
   ·simp [le]
   ·simp [le]
   ·simp [le]
   ·simp [le]
   ·rename_i cs xs;simp only [le];simp at G;exact ⟨_,rfl,i2 xs zo cs⟩
   ·rename_i cs xs;simp only [le];simp at G;exact ⟨_,rfl,i2 xs zo cs⟩
   ·exact le_refl x
  ·cases xs with
   | nil=>simp [qM,Ef]
   | cons x xs =>
    simp at G;cases cs with
    | nil=>simp only [qM]; exact uz _
    | cons c cs=>simp only [qM,Ef]; exact ⟨_,_,rfl,J x zo c,i2 xs zo cs⟩
theorem yO (c:Conv) (x:AV):le x (cv c x):=(QaY (SizeOf.sizeOf x)).1 x (Nat.le_refl _) c
theorem U1 (cs:List Conv) (xs:List AV):Ef xs (qM cs xs):=(QaY (SizeOf.sizeOf xs)).2 xs (Nat.le_refl _) cs
def QgA (C:List (Nat × Conv)) (t:Nat):Conv:=(look C t).getD .id
def qN (C:List (Nat × Conv)) (T:List (Nat × AV)):List Nat→List (Nat × AV)
 | []=>[]
 | t :: L=>match look T t with | some x=>(t,cv (QgA C t) x) :: qN C T L | none=>qN C T L
def cvB (cs:List Conv):Blk→Blk
 | .box ty xs=>.box ty (qM cs xs)
 | k=>k
def K5 (C:List (Nat × List Conv)) (H:List (Nat × Blk)):List Nat→List (Nat × Blk)
 | []=>[]
 | b :: L=>match look H b with | some k=>(b,cvB ((look C b).getD []) k) :: K5 C H L | none=>K5 C H L
structure Lp where
 ts:List Nat
 bs:List Nat
 ct:List (Nat × Conv):=[]
 cb:List (Nat × List Conv):=[]
def shr (K:Lp) (s:St):St:=⟨qN K.ct s.T K.ts,K5 K.cb s.H K.bs⟩
def okT (h:QH):List (Nat × AV)→Bool
 | []=>true
 | (_,x) :: l=>ZX h x&&okT h l
def aQ (h:QH):List (Nat × Blk)→Bool
 | []=>true
 | (_,k) :: l=>okRefB h k&&aQ h l
def QaZ (s s':St):Bool:=okT (look s'.H) s'.T&&aQ (look s'.H) s'.H&&K4 (look s'.H) s.H
def L8 (K:Lp) (s:St):Option St:=if QaZ s (shr K s) then some (shr K s) else none
theorem Qa0 (cs:List Conv) (k:Blk):leB k (cvB cs k):=by
 cases k with
 | box ty xs=>exact ⟨_,rfl,U1 cs xs⟩
 | arr ty S n=>rfl
 | vec ty S es=>rfl
 | lp T nf st pd=>rfl
 | mp es=>rfl
 | mf es=>rfl
 | mg J G es=>rfl
 | it m G O=>rfl
theorem Fp {T:List (Nat × AV)} {h':QH} {C:List (Nat × Conv)}:∀ {L:List Nat},okT h' (qN C T L)=true→qH (look T) h' (qN C T L)
 | [],_=>by simp [qN,qH]
 | t :: L,h=>by
  simp only [qN] at h ⊢;cases ht:look T t with
  | none=>simp only [ht] at h ⊢; exact Fp h
  | some x =>
   simp only [ht,okT,Zf] at h ⊢;simp only [qH,ht,leO];exact ⟨yO _ _,h.1,Fp h.2⟩
theorem Y7 {H:List (Nat × Blk)} {h':QH} {C:List (Nat × List Conv)}:∀ {L:List Nat},aQ h' (K5 C H L)=true→M4 (look H) h' (K5 C H L)
 | [],_=>by simp [K5,M4]
 | b :: L,h=>by
  simp only [K5] at h ⊢;cases hb:look H b with
  | none=>simp only [hb] at h ⊢; exact Y7 h
  | some k =>
   simp only [hb,aQ,Zf] at h ⊢;simp only [M4,hb,Qgv];exact ⟨Qa0 _ _,h.1,Y7 h.2⟩
theorem Qdx {K:Lp} (h:L8 K s=some s') (r:Q8 φ M0 N D (look s.T) (look s.H) a w):Q8 φ M0 N D (look s'.T) (look s'.H) a w∧QW φ (look s.H) w φ (look s'.H) w:=by
 unfold L8 at h;split at h
 ·rename_i hok;simp only [QO] at h;subst h;simp only [QaZ,Zf] at hok;exact uA (Fp hok.1.1) (Y7 hok.1.2) hok.2 r
 ·cases h
theorem HV {K:Lp} (h:L8 K s=some s'):Weak N s s':=by
 unfold L8 at h;split at h
 ·rename_i hok;simp only [QO] at h;subst h;simp only [QaZ,Zf] at hok;exact QaS (Fp hok.1.1) (Y7 hok.1.2) hok.2
 ·cases h
structure QP {R:Type} (o:Option R) (P:Program) (N:Nat) (ro:Option Nat) (c:Code) (s:St) (Q:R→AX→St→Prop):Prop where
 intro ::
 h:∀ r,o=some r→Ex P N ro c s (Q r)
structure Zv {R:Type} (o:Option R) (Q:R→AX→St→Prop) (x:AX) (s:St):Prop where
 intro ::
 h:∀ r,o=some r→Q r x s
def lw {R:Type} (P:Program) (N:Nat) (ro:Option Nat) (y:Code) (Q:R→AX→St→Prop):R→AX→St→Prop:=fun r=>andThen (fun s'=>Ex P N ro y s' (Q r)) (Q r)
def uI {R:Type} (id:Nat) (Q:R→AX→St→Prop):R→AX→St→Prop:=fun r=>inBlock id (Q r)
def kQ {V R:Type} (N:Nat) (k:V→Option R) (S:V→St) (Q:R→AX→St→Prop):R→AX→St→Prop:=fun r=>andThen (fun s'=>∃ v,k v=some r∧Weak N s' (S v)) (Q r)
def Qa1 {V:Type} (N:Nat) (S:V→St):V→AX→St→Prop:=fun v x s'=>x=.normal∧Weak N s' (S v)
section
variable {R V:Type} {o o1 o2:Option R} {P:Program} {N:Nat} {ro:Option Nat} {x y c:Code} {s s':St} {Q:R→AX→St→Prop}
theorem sS (h:QP o P N ro x s (lw P N ro y Q)):QP o P N ro (.seq x y) s Q:=⟨fun r G=>vV (h.h r G)⟩
theorem sK (h:Zv o Q .normal s):QP o P N ro .skip s Q:=⟨fun r G=>Qc7 (h.h r G)⟩
theorem lC {l:Nat} (h:Zv o Q .normal s):QP o P N ro (.label l) s Q:=⟨fun r G=>Qar (h.h r G)⟩
theorem sT (h:Zv o Q .ret s):QP o P N ro .ret s Q:=⟨fun r G=>Qgo (h.h r G)⟩
theorem Qt (h:Zv o Q (.exit id) s):QP o P N ro (.exit id) s Q:=⟨fun r G=>Qc8 (h.h r G)⟩
theorem sB (h:QP o P N ro c s (uI id Q)):QP o P N ro (.block id c) s Q:=⟨fun r G=>Qas (h.h r G)⟩
theorem lD (h:QP o P N ro c s Q):QP o P N ro (.scope c) s Q:=⟨fun r G=>Qat (h.h r G)⟩
theorem KF (G:Weak N s s') (h:QP o P N ro c s' Q):QP o P N ro c s Q:=⟨fun r J=>TK G (h.h r J)⟩
theorem sP (K:Lp) (s':St) (J:L8 K s=some s') (h:QP o P N ro c s' Q):QP o P N ro c s Q:=⟨fun r G=>TK (HV J) (h.h r G)⟩
theorem sC {a:Operand} (b:Bool)  (J:QP o1 P N ro x s Q) (O:QP o2 P N ro y s Q)(hb:Zc (look s.T) a=some (.p (.val (.bool b))):=by kernel_rfl):QP (cond b o1 o2) P N ro (.cond a x y) s Q:=by
 refine ⟨fun r G=>?_⟩;refine vW b hb (fun e=>?_) (fun e=>?_)
 ·subst e; exact J.h r G
 ·subst e; exact O.h r G
theorem ZQ {a:Operand}  (J:QP o P N ro x s Q)(hb:Zc (look s.T) a=some (.p (.val (.bool true))):=by kernel_rfl):QP o P N ro (.cond a x y) s Q:=⟨fun r G=>vW true hb (fun _=>J.h r G) (fun e=>by cases e)⟩
theorem QZ {a:Operand}  (J:QP o P N ro y s Q)(hb:Zc (look s.T) a=some (.p (.val (.bool false))):=by kernel_rfl):QP o P N ro (.cond a x y) s Q:=⟨fun r G=>vW false hb (fun e=>by cases e) (fun _=>J.h r G)⟩
theorem sN (K:Lp) (s':St) (J:L8 K s=some s') (h:QP o P N ro y s' Q):Zv o (lw P N ro y Q) .normal s:=⟨fun r G=>(sP (Q:=Q) K s' J h).h r G⟩
theorem QB (h:Zv o Q .ret s):Zv o (lw P N ro y Q) .ret s:=⟨fun r G=>h.h r G⟩
theorem ZR (h:Zv o Q (.exit i) s):Zv o (lw P N ro y Q) (.exit i) s:=⟨fun r G=>h.h r G⟩
theorem Un (h:Zv o Q (.panic p) s):Zv o (lw P N ro y Q) (.panic p) s:=⟨fun r G=>h.h r G⟩
theorem QR (h:Zv o Q .normal s):Zv o (uI id Q) .normal s:=⟨fun r G=>h.h r G⟩
theorem Q4 (h:Zv o Q .ret s):Zv o (uI id Q) .ret s:=⟨fun r G=>h.h r G⟩
theorem Ab (h:Zv o Q (.panic p) s):Zv o (uI id Q) (.panic p) s:=⟨fun r G=>h.h r G⟩
theorem QM (h:Zv o Q .normal s):Zv o (uI id Q) (.exit id) s:=by
 refine ⟨fun r G=>?_⟩;have:=h.h r G;simp only [uI,inBlock,if_true]; exact this
theorem wO (hi:(i == id)=false) (h:Zv o Q (.exit i) s):Zv o (uI id Q) (.exit i) s:=by
 refine ⟨fun r G=>?_⟩;have:=h.h r G;have hne:¬ i=id:=by simpa using hi
 simp only [uI,inBlock,hne,if_false]; exact this
theorem Qkg {k:V→Option R} {S:V→St} (v:V) (K:Lp) (J:L8 K s=some (S v)):Zv (k v) (kQ N k S Q) .normal s:=⟨fun r G=>⟨v,G,HV J⟩⟩
theorem V9 {k:V→Option R} {S:V→St} (h:Zv o Q .ret s):Zv o (kQ N k S Q) .ret s:=⟨fun r G=>h.h r G⟩
theorem Yw {k:V→Option R} {S:V→St} (h:Zv o Q (.exit i) s):Zv o (kQ N k S Q) (.exit i) s:=⟨fun r G=>h.h r G⟩
theorem Gu {k:V→Option R} {S:V→St} (h:Zv o Q (.panic p) s):Zv o (kQ N k S Q) (.panic p) s:=⟨fun r G=>h.h r G⟩
theorem Qa2 {S:V→St} (v:V) (K:Lp) (J:L8 K s=some (S v)):Zv (some v) (Qa1 N S) .normal s:=⟨fun r G=>by cases G; exact ⟨rfl,HV J⟩⟩
theorem Qkh {S:V→St} (v:V) (J:Weak N s (S v)):Zv (some v) (Qa1 N S) .normal s:=⟨fun r G=>by cases G; exact ⟨rfl,J⟩⟩
theorem Yc (S:V→St) (k:V→Option R) (h2:∀ v,QP (k v) P N ro y (S v) Q) (J:QP o P N ro x s (kQ N k S Q)):QP o P N ro (.seq x y) s Q:=by
 refine ⟨fun r Y=>?_⟩;refine vV (vU (J.h r Y) ?_);intro e s' G;cases e with
 | normal=>obtain ⟨v,Z,O⟩:=G; exact TK O ((h2 v).h r Z)
 | exit i=>exact G
 | ret=>exact G
 | panic p=>exact G
theorem KQ (S:V→St) {m:Option V} {k:V→Option R} (G:QP m P N ro x s (Qa1 N S)) (Z:∀ v,QP (k v) P N ro y (S v) Q):QP (m.bind k) P N ro (.seq x y) s Q:=by
 refine ⟨fun r O=>?_⟩;obtain ⟨v,Y,hk⟩:=Option.bind_eq_some_iff.1 O;refine vV (vU (G.h v Y) ?_);rintro e s' ⟨rfl,J⟩;exact TK J ((Z v).h r hk)
end
def Qn {V R:Type} (B:(V→Option R)→V→Option R):Nat→V→Option R
 | 0,_=>none
 | k+1,v=>B (Qn B k) v
theorem QG {R V:Type} {Q:R→AX→St→Prop} (S:V→St) {B:(V→Option R)→V→Option R} {v0:V} (hw:Weak N s (S v0))
  (Z:∀ rec v,QP (B rec v) P N ro c (S v) (kQ N rec S Q)):QP (Qn B n v0) P N ro (.loop c) s Q:=by
 refine ⟨fun r hr=>?_⟩;refine TK hw (Qc9 (ι:={ p:Nat × V // Qn B p.1 p.2=some r }) (fun p=>S p.1.2) (fun p=>p.1.1) ⟨(n,v0),hr⟩ ?_);rintro ⟨⟨k,v⟩,Y⟩;cases k with
 | zero=>cases Y
 | succ k =>
  refine vU ((Z (Qn B k) v).h r Y) ?_;intro e s' G;cases e with
  | normal=>obtain ⟨v',J,O⟩:=G; exact ⟨⟨(k,v'),J⟩,by simp,O⟩
  | exit i=>exact G
  | ret=>exact G
  | panic p=>exact G
def plain:Op→Bool
 | .pick _ _ _=>false
 | .panic _=>false
 | .call ⟨.value _,_,_⟩=>false
 | _=>true
theorem Nl {op:Op} (h:plain op=true):yieldOf T op=none:=by
 unfold yieldOf;split
 ·simp [plain] at h
 ·rfl
def XR (P:Program) (N:Nat) (ops:Array Oper) (Q:AX→St→Prop) (d:Option (List Yn)) (l:List Oper) (s:St):Prop :=
 match d with
 | none=>K3 P N ops Q l s
 | some acc=>Km P N ops Q l acc s
def qO (u:Xq):Yn:=(u.2.1.map (·.1),u.2.2)
def more (d:Option (List Yn)) (f:Yn):Option (List Yn):=d.map (f :: ·)
def nxt (ops:Array Oper) (o:Oper) (s:St) (u:Xq):St:=XV ⟨Zd ops o s.T true,s.H⟩ o.dst u
def mk (ops:Array Oper) (o:Oper) (s:St) (b:Bool):St:=⟨Zd ops o s.T b,s.H⟩
section
variable {P:Program} {N:Nat} {ops:Array Oper} {o:Oper} {l:List Oper} {d:Option (List Yn)} {s:St} {Q:AX→St→Prop}
theorem MK (J:ZC ops o (look s.T)=some true) (hp:plain o.op=true) (hu:Jk P o (look (Zd ops o s.T true)) (look s.H)=some u) (O:KE N o.dst=true)
  (h:XR P N ops Q (more d (qO u)) l (nxt ops o s u)):XR P N ops Q d (o :: l) s:=by
 cases d with
 | none =>
  show K3 P N ops Q (o :: l) s;simp only [K3,J,ZE,Nl hp];show X3 P N o _ _ _;unfold X3;split
  ·rename_i G; rw [G] at hp; cases hp
  ·rename_i G; rw [G] at hp; cases hp
  ·rename_i G; rw [G] at hp; cases hp
  ·rw [hu]; exact .inl ⟨O,h⟩
 | some acc =>
  show Km P N ops Q (o :: l) acc s;simp only [Km,J,ZE];split
  ·rename_i G; rw [G] at hp; cases hp
  ·rename_i G; rw [G] at hp; cases hp
  ·rename_i G; rw [G] at hp; cases hp
  ·rw [hu]; exact .inl ⟨O,h⟩
theorem uJ (J:ZC ops o (look s.T)=some false) (G:KE N o.dst=true) (h:XR P N ops Q (more d (none,[])) l (St.put (mk ops o s false) o.dst (.p (.val undef)))):XR P N ops Q d (o :: l) s:=by
 cases d with
 | none =>
  show K3 P N ops Q (o :: l) s;simp only [K3,J,GV];exact ⟨G,h⟩
 | some acc =>
  show Km P N ops Q (o :: l) acc s;simp only [Km,J,GV];exact ⟨G,h⟩
theorem dR {c:Operand} (Y:ZC ops o (look s.T)=some true) (O:o.op=.pick c x y) (b:Bool) (hc:Zc (look (Zd ops o s.T true)) c=some (.p (.val (.bool b)))) {v:AV}
  (hv:Zc (look (Zd ops o s.T true)) (cond b x y)=some v) (G:KE N o.dst=true) (h:XR P N ops Q (more d (none,[])) l (St.put (mk ops o s true) o.dst v)):XR P N ops Q d (o :: l) s:=by
 have J:∀ z,cond b x y=z→VT (look (Zd ops o s.T true)) z=some (v,none,[]):=by
  rintro z rfl; simp [VT,hv]
 cases d with
 | none =>
  show K3 P N ops Q (o :: l) s;have Z:yieldOf (look (Zd ops o s.T true)) o.op=none:=by simp [yieldOf,O]
  simp only [K3,Y,ZE,Z];show X3 P N o _ _ _;unfold X3;simp only [O,hc];have e:∀ s:St,XV s o.dst (v,none,[])=St.put s o.dst v:=fun s=>by unfold XV St.put; cases o.dst <;> rfl
  cases b
  ·refine ⟨(fun h=>by cases h),fun _=>?_⟩; rw [J y rfl]; exact ⟨G,by rw [e]; exact h⟩
  ·refine ⟨fun _=>?_,fun h=>by cases h⟩; rw [J x rfl]; exact ⟨G,by rw [e]; exact h⟩
 | some acc =>
  show Km P N ops Q (o :: l) acc s;simp only [Km,Y,ZE,O,hc];cases b
  ·refine ⟨(fun h=>by cases h),fun _=>?_⟩; rw [J y rfl]; exact ⟨G,h⟩
  ·refine ⟨fun _=>?_,fun h=>by cases h⟩; rw [J x rfl]; exact ⟨G,h⟩
end
def step1 (P:Program) (N:Nat) (ops:Array Oper) (o:Oper) (s:St):Option (St × Yn) :=
 match ZC ops o (look s.T) with
 | some true =>
  if KE N o.dst then
   match o.op with
   | .pick c x y =>
    match Zc (look (Zd ops o s.T true)) c with
    | some (.p (.val (.bool true)))=>match Zc (look (Zd ops o s.T true)) x with | some v=>some (St.put (mk ops o s true) o.dst v,(none,[])) | none=>none
    | some (.p (.val (.bool false)))=>match Zc (look (Zd ops o s.T true)) y with | some v=>some (St.put (mk ops o s true) o.dst v,(none,[])) | none=>none
    | _=>none
   | op=>if plain op then (match Jk P o (look (Zd ops o s.T true)) (look s.H) with | some u=>some (nxt ops o s u,qO u) | none=>none) else none
  else none
 | some false=>if KE N o.dst then some (St.put (mk ops o s false) o.dst (.p (.val undef)),(none,[])) else none
 | none=>none
def runs (P:Program) (N:Nat) (ops:Array Oper):Nat→List Oper→St→List Yn→Option (St × List Yn)
 | 0,_,s,acc=>some (s,acc)
 | _+1,[],s,acc=>none
 | k+1,o :: l,s,acc=>match step1 P N ops o s with | some (s',f)=>runs P N ops k l s' (f :: acc) | none=>none
def qP (P:Program) (N:Nat) (ops:Array Oper):List Oper→St→List Yn→Option (St × List Yn)
 | [],s,acc=>some (s,acc)
 | o :: l,s,acc=>match step1 P N ops o s with | some (s',f)=>qP P N ops l s' (f :: acc) | none=>none
def T9 (P:Program) (N:Nat) (ops:Array Oper) (draw:Bool) (s:St):Option St :=
 match qP P N ops ops.toList s [] with
 | some (s',acc)=>if draw then (if Z0 ops acc.reverse&&UY ops then some s' else none) else some s'
 | none=>none
section
variable {P:Program} {N:Nat} {ops:Array Oper} {s:St} {Q:AX→St→Prop}
theorem dS {l:List Oper} {d:Option (List Yn)} {f:Yn} (G:step1 P N ops o s=some (s',f)) (h:XR P N ops Q (more d f) l s'):XR P N ops Q d (o :: l) s:=by
 unfold step1 at G;split at G
 ·rename_i J;split at G
  ·rename_i O;split at G
   ·rename_i c x y Z;split at G
    ·rename_i hc;split at G
     ·rename_i v Y;simp only [QO,Prod.mk.injEq] at G;obtain ⟨rfl,rfl⟩:=G;exact dR J Z true hc Y O h
     ·cases G
    ·rename_i hc;split at G
     ·rename_i v Y;simp only [QO,Prod.mk.injEq] at G;obtain ⟨rfl,rfl⟩:=G;exact dR J Z false hc Y O h
     ·cases G
    ·cases G
   ·split at G
    ·rename_i hp;split at G
     ·rename_i u hu;simp only [QO,Prod.mk.injEq] at G;obtain ⟨rfl,rfl⟩:=G;exact MK J hp hu O h
     ·cases G
    ·cases G
  ·cases G
 ·rename_i J;split at G
  ·rename_i O;simp only [QO,Prod.mk.injEq] at G;obtain ⟨rfl,rfl⟩:=G;exact uJ J O h
  ·cases G
 ·cases G
theorem Ac:∀ {l:List Oper} {s:St} {acc G:List Yn} {s':St} {b:Bool},qP P N ops l s acc=some (s',G)→XR P N ops Q (if b then some G else none) [] s'→XR P N ops Q (if b then some acc else none) l s
 | [],s,acc,G,s',b,J,h=>by
  simp only [qP,QO,Prod.mk.injEq] at J;obtain ⟨rfl,rfl⟩:=J;exact h
 | o :: l,s,acc,G,s',b,J,h=>by
  simp only [qP] at J;split at J
  ·rename_i s1 f hs;refine dS hs ?_;have:=Ac (b:=b) J h;cases b
   ·exact this
   ·exact this
  ·cases J
theorem Oh {d:Option (List Yn)}:∀ {k:Nat} {l:List Oper} {s:St} {acc G:List Yn} {s':St},runs P N ops k l s acc=some (s',G)→(d=none∨d=some acc)→XR P N ops Q (d.map fun _=>G) (l.drop k) s'→XR P N ops Q d l s
 | 0,l,s,acc,G,s',J,O,h=>by
  simp only [runs,QO,Prod.mk.injEq] at J;obtain ⟨rfl,rfl⟩:=J;rcases O with rfl | rfl
  ·exact h
  ·exact h
 | k+1,[],s,acc,G,s',J,O,h=>by cases J
 | k+1,o :: l,s,acc,G,s',J,O,h=>by
  simp only [runs] at J;split at J
  ·rename_i s1 f hs;refine dS hs ?_;rcases O with rfl | rfl
   ·exact Oh (d:=none) J (.inl rfl) h
   ·exact Oh (d:=some (f :: acc)) J (.inr rfl) h
  ·cases J
theorem ML {draw:Bool} (O:P.follows .mixedOrders=true) (G:T9 P N ops draw s=some s') (h:Q .normal s'):Ex P N ro (.region id ops draw) s Q:=by
 unfold T9 at G;split at G
 ·rename_i s1 acc J;cases draw with
  | false =>
   simp only [Bool.false_eq_true,if_false,QO] at G;subst G;exact yH (Ac (b:=false) J (show K3 P N ops Q [] s1 from h))
  | true =>
   simp only [if_true] at G;split at G
   ·rename_i hc;simp only [Zf] at hc;simp only [QO] at G;subst G;exact dJ O hc.2 (Ac (b:=true) J (show Km P N ops Q [] acc s1 from ⟨hc.1,h⟩))
   ·cases G
 ·cases G
end
def dOf (dr:Bool) (acc:List Yn):Option (List Yn):=cond dr (some acc) none
structure Yf {R:Type} (o:Option R) (P:Program) (N:Nat) (ops:Array Oper) (Q:R→AX→St→Prop) (dr:Bool) (acc:List Yn) (l:List Oper) (s:St):Prop where
 intro ::
 h:∀ r,o=some r→XR P N ops (Q r) (dOf dr acc) l s
def QgC (P:Program) (N:Nat) (ops:Array Oper) (k:Nat) (l:List Oper) (s:St):St:=match runs P N ops k l s [] with | some (s',_)=>s' | none=>s
def QgD (P:Program) (N:Nat) (ops:Array Oper) (k:Nat) (l:List Oper) (s:St) (acc:List Yn):List Yn:=match runs P N ops k l s acc with | some (_,a)=>a | none=>[]
def Qif (P:Program) (N:Nat) (ops:Array Oper) (k:Nat) (l:List Oper) (s:St):Bool:=(runs P N ops k l s []).isSome
theorem qQ {P:Program} {N:Nat} {ops:Array Oper}:∀ (k:Nat) (l:List Oper) (s:St) (acc:List Yn),runs P N ops k l s acc=(runs P N ops k l s []).map fun p=>(p.1,p.2++acc)
 | 0,l,s,acc=>by simp [runs]
 | k+1,[],s,acc=>by simp [runs]
 | k+1,o :: l,s,acc=>by
  simp only [runs];cases step1 P N ops o s with
  | none=>rfl
  | some p =>
   obtain ⟨s',f⟩:=p;simp only;rw [qQ k l s' (f :: acc),qQ k l s' [f]];simp [Option.map_map,Function.comp_def]
theorem RQ (dr:Bool) (acc:List Yn) (f:Yn):more (dOf dr acc) f=dOf dr (f :: acc):=by cases dr <;> rfl
section
variable {R V:Type} {a a1 a2:Option R} {P:Program} {N:Nat} {ro:Option Nat} {ops:Array Oper} {o:Oper} {l:List Oper} {dr:Bool} {acc:List Yn} {s s':St} {Q:R→AX→St→Prop} {y:Code} {id:Nat} {draw:Bool}
theorem sR (Z:P.follows .mixedOrders=true) (K:Lp) (s':St) (G:(T9 P N ops draw s).bind (L8 K)=some s') (h:QP a P N ro y s' Q):QP a P N ro (.seq (.region id ops draw) y) s Q:=by
 obtain ⟨s1,O,J⟩:=Option.bind_eq_some_iff.1 G;refine ⟨fun r Y=>?_⟩;exact vV (ML Z O (TK (HV J) (h.h r Y)))
theorem Qa3 (O:P.follows .mixedOrders=true) (J:T9 P N ops draw s=some s1) (h:Zv a Q .normal s1):QP a P N ro (.region id ops draw) s Q:=⟨fun r G=>ML O J (h.h r G)⟩
def FR (P:Program) (N:Nat) (ops:Array Oper) (draw:Bool) (s:St):St:=(T9 P N ops draw s).getD s
theorem sL (O:P.follows .mixedOrders=true)  (h:Zv a Q .normal (FR P N ops draw s))(J:(T9 P N ops draw s).isSome=true:=by kernel_rfl):QP a P N ro (.region id ops draw) s Q:=by
 obtain ⟨s1,G⟩:=TD.1 J;refine Qa3 O G ?_;have e:FR P N ops draw s=s1:=by simp [FR,G]
 rw [← e]; exact h
theorem sG (h:Yf a P N ops Q false [] ops.toList s):QP a P N ro (.region id ops false) s Q:=⟨fun r G=>yH (h.h r G)⟩
theorem Bh (O:P.follows .mixedOrders=true) (G:UY ops=true) (h:Yf a P N ops Q true [] ops.toList s):QP a P N ro (.region id ops true) s Q:=⟨fun r J=>dJ O G (h.h r J)⟩
theorem xR (k:Nat)  (h:Yf a P N ops Q dr (QgD P N ops k l s acc) (l.drop k) (QgC P N ops k l s))(Z:Qif P N ops k l s=true:=by kernel_rfl):Yf a P N ops Q dr acc l s:=by
 refine ⟨fun r hr=>?_⟩;obtain ⟨⟨s1,f⟩,O⟩:=TD.1 Z;have G:=h.h r hr;have e1:QgC P N ops k l s=s1:=by simp [QgC,O]
 rw [e1] at G;have J:=qQ (P:=P) (N:=N) (ops:=ops) k l s acc;rw [O] at J;have Y:QgD P N ops k l s acc=f++acc:=by simp [QgD,J]
 rw [Y] at G;cases dr with
 | false=>exact Oh (d:=none) O (.inl rfl) G
 | true=>exact Oh (d:=some acc) J (.inr rfl) G
theorem xE (h:Zv a Q .normal s):Yf a P N ops Q false acc [] s:=⟨fun r G=>h.h r G⟩
theorem MN  (h:Zv a Q .normal s)(hc:Z0 ops acc.reverse=true:=by kernel_rfl):Yf a P N ops Q true acc [] s:=⟨fun r G=>⟨hc,h.h r G⟩⟩
theorem xS (b:Bool) (G:b=true→Yf a1 P N ops Q dr acc l s) (J:b=false→Yf a2 P N ops Q dr acc l s):Yf (cond b a1 a2) P N ops Q dr acc l s:=by
 cases b
 ·exact J rfl
 ·exact G rfl
def Qdy (P:Program) (ops:Array Oper) (o:Oper) (s:St):Xq:=(Jk P o (look (Zd ops o s.T true)) (look s.H)).getD (.p (.val undef),none,[])
theorem xO (G:ZC ops o (look s.T)=some true) 
  (h:Yf a P N ops Q dr (qO (Qdy P ops o s) :: acc) l (nxt ops o s (Qdy P ops o s)))(hp:(plain o.op&&(Jk P o (look (Zd ops o s.T true)) (look s.H)).isSome&&KE N o.dst)=true:=by kernel_rfl):Yf a P N ops Q dr acc (o :: l) s:=by
 simp only [Zf] at hp;obtain ⟨u,hu⟩:=TD.1 hp.1.2;have e:Qdy P ops o s=u:=by simp [Qdy,hu]
 rw [e] at h;exact ⟨fun r J=>MK G hp.1.1 hu hp.2 (RQ dr acc _ ▸ h.h r J)⟩
theorem xN (O:ZC ops o (look s.T)=some false)  (h:Yf a P N ops Q dr ((none,[]) :: acc) l (St.put (mk ops o s false) o.dst (.p (.val undef))))(J:KE N o.dst=true:=by kernel_rfl):Yf a P N ops Q dr acc (o :: l) s :=
 ⟨fun r G=>uJ O J (RQ dr acc _ ▸ h.h r G)⟩
theorem Qv {b:Bool}  (J:b=true)(G:ZC ops o (look s.T)=some (b == true):=by kernel_rfl):ZC ops o (look s.T)=some true:=by rw [G,J]; rfl
theorem Qw {b:Bool}  (J:b=false)(G:ZC ops o (look s.T)=some (b == false):=by kernel_rfl):ZC ops o (look s.T)=some true:=by rw [G,J]; rfl
theorem Qx {b:Bool}  (J:b=false)(G:ZC ops o (look s.T)=some (b == true):=by kernel_rfl):ZC ops o (look s.T)=some false:=by rw [G,J]; rfl
theorem Qy {b:Bool}  (J:b=true)(G:ZC ops o (look s.T)=some (b == false):=by kernel_rfl):ZC ops o (look s.T)=some false:=by rw [G,J]; rfl
theorem xF {c:Bool}   (hu:c=true→Jk P o (look (Zd ops o s.T true)) (look s.H)=some u)
  (h:Yf a P N ops Q dr (qO u :: acc) l (nxt ops o s u))(J:ZC ops o (look s.T)=some true:=by kernel_rfl)(hp:(plain o.op&&KE N o.dst)=true:=by kernel_rfl):Yf (cond c a none) P N ops Q dr acc (o :: l) s:=by
 simp only [Zf] at hp;refine ⟨fun r G=>?_⟩;cases c with
 | false=>cases G
 | true=>exact MK J hp.1 (hu rfl) hp.2 (RQ dr acc _ ▸ h.h r G)
theorem xG {m:Option V} {k:V→Option R} {u:V→Xq}   (hu:∀ v,m=some v→Jk P o (look (Zd ops o s.T true)) (look s.H)=some (u v))
  (h:∀ v,Yf (k v) P N ops Q dr (qO (u v) :: acc) l (nxt ops o s (u v)))(G:ZC ops o (look s.T)=some true:=by kernel_rfl)(hp:(plain o.op&&KE N o.dst)=true:=by kernel_rfl):Yf (m.bind k) P N ops Q dr acc (o :: l) s:=by
 simp only [Zf] at hp;refine ⟨fun r J=>?_⟩;obtain ⟨v,O,Y⟩:=Option.bind_eq_some_iff.1 J;exact MK G hp.1 (hu v O) hp.2 (RQ dr acc _ ▸ (h v).h r Y)
theorem kF   (hu:Jk P o (look (Zd ops o s.T true)) (look s.H)=some u)
  (h:Yf a P N ops Q dr (qO u :: acc) l (nxt ops o s u))(G:ZC ops o (look s.T)=some true:=by kernel_rfl)(hp:(plain o.op&&KE N o.dst)=true:=by kernel_rfl):Yf a P N ops Q dr acc (o :: l) s:=by
 simp only [Zf] at hp;exact ⟨fun r J=>MK G hp.1 hu hp.2 (RQ dr acc _ ▸ h.h r J)⟩
end
structure DW {R:Type} (a:Option R) (K:R→St→Prop) (s:St):Prop where
 intro ::
 h:∀ r,a=some r→K r s
structure NS {R:Type} (a:Option R) (P:Program) (N:Nat) (f:FuncId) (args:List AV) (dst:Option Tmp) (s:St) (K:R→St→Prop) (Q:R→AX→St→Prop):Prop where
 intro ::
 h:∀ r,a=some r→Xy P N f args dst s (K r) (Q r)
def fKr {R:Type} (P:Program) (N:Nat) (ops:Array Oper) (Q:R→AX→St→Prop) (l:List Oper):R→St→Prop:=fun r s=>XR P N ops (Q r) none l s
def fKq {R:Type} (Q:R→AX→St→Prop):R→St→Prop:=fun r s=>Q r .normal s
section
variable {R V E:Type} {a a1 a2:Option R} {P:Program} {N:Nat} {ro:Option Nat} {ops:Array Oper} {o:Oper} {l:List Oper} {dr:Bool} {acc:List Yn} {s s':St} {Q:R→AX→St→Prop} {K:R→St→Prop} {f:FuncId} {args args':List AV} {dst:Option Tmp}
theorem kr (h:Yf a P N ops Q false acc l s):DW a (fKr P N ops Q l) s:=⟨fun r G=>h.h r G⟩
theorem Wh (h:Yf a P N ops Q false [] l s):DW a (fKr P N ops Q l) s:=⟨fun r G=>h.h r G⟩
theorem kqn (h:Zv a Q .normal s):DW a (fKq Q) s:=⟨fun r G=>h.h r G⟩
def Bi:Op→Bool
 | .call ⟨.value _,_,_⟩=>true
 | _=>false
theorem L9 {op:Op} {p:FuncId × List AV} (h:ZO T op=some p):Bi op=true:=by
 unfold ZO at h;split at h
 ·rfl
 ·rfl
 ·cases h
theorem Jp {op:Op} {p:FuncId × List AV} (h:ZO T op=some p):yieldOf T op=none:=by
 unfold yieldOf;split
 ·rename_i t G ts;split
  ·rename_i b hb; simp [ZO,hb] at h
  ·rfl
 ·rfl
theorem XJ {P:Program} {N:Nat} {o:Oper} {s:St} {K:St→Prop} {Q:AX→St→Prop} {f:FuncId} {args:List AV} (hf:ZO (look s.T) o.op=some (f,args)) (hb:Ye P f=true) (h:Xy P N f args o.dst s K Q):X3 P N o s K Q:=by
 unfold X3;split
 ·rename_i G; rw [G] at hf; simp [ZO] at hf
 ·rename_i G; rw [G] at hf; simp [ZO] at hf
 ·rename_i g J ts G;rw [G] at hf;rw [hf];exact ⟨hb,h⟩
 ·rename_i Y Z O;have:=L9 hf;unfold Bi at this;split at this
  ·rename_i G; exact absurd G (O _ _ _)
  ·cases this
theorem Kc (J:ZC ops o (look s.T)=some true) (hf:ZO (look (Zd ops o s.T true)) o.op=some (f,args)) (hb:Ye P f=true) (h:NS a P N f args o.dst (mk ops o s true) (fKr P N ops Q l) Q):Yf a P N ops Q false acc (o :: l) s:=by
 refine ⟨fun r G=>?_⟩;show K3 P N ops (Q r) (o :: l) s;simp only [K3,J,ZE,Jp hf];exact XJ hf hb (h.h r G)
theorem lF (O:ZC ops o (look s.T)=some true) (hf:ZO (look (Zd ops o s.T true)) o.op=some (f,args)) (hb:(Ye P f&&Xk ops acc.length&&Z0 ops acc.reverse)=true)
  (h:NS a P N f args o.dst (mk ops o s true) (fKq Q) Q):Yf a P N ops Q true acc [o] s:=by
 refine ⟨fun r Z=>?_⟩;simp only [Zf] at hb;show Km P N ops (Q r) [o] acc s;simp only [Km,O,ZE];split
 ·rename_i G; rw [G] at hf; simp [ZO] at hf
 ·rename_i g J ts G;exact .inr (.inl ⟨rfl,hb.1.2,hb.2,XJ hf hb.1.1 (h.h r Z)⟩)
 ·rename_i G; rw [G] at hf; simp [ZO] at hf
 ·rename_i h1 Y h3;have:=L9 hf;unfold Bi at this;split at this
  ·rename_i G; exact absurd G (Y _ _ _)
  ·cases this
theorem Eu (hi:Bi o.op=true) (O:ZC ops o (look s.T)=some true) (hb:(Xk ops acc.length&&Z0 ops acc.reverse&&LH ops acc.length&&uo ops s (o :: l))=true) (h:Yf a P N ops Q false [] (o :: l) s):Yf a P N ops Q true acc (o :: l) s:=by
 refine ⟨fun r Z=>?_⟩;simp only [Zf] at hb;have J:K3 P N ops (Q r) (o :: l) s:=h.h r Z;show Km P N ops (Q r) (o :: l) acc s;simp only [Km,O,ZE];split
 ·rename_i G; rw [G] at hi; simp [Bi] at hi
 ·exact .inr (.inr (.inl ⟨hb.1.1.1,hb.1.1.2,hb.1.2,hb.2,J⟩))
 ·rename_i G; rw [G] at hi; simp [Bi] at hi
 ·rename_i J Y h3;unfold Bi at hi;split at hi
  ·rename_i G; exact absurd G (Y _ _ _)
  ·cases hi
theorem xC {m:Option V} {k:V→Option R} {X:V→AV} (C:List Conv)  (hc:∀ v,m=some v→QC P f args' (.ret (X v)))
    (hx:∀ v,KZ (X v)=true)
  (h:∀ v,Yf (k v) P N ops Q dr ((none,[]) :: acc) l (St.put (mk ops o s true) o.dst (X v)))(Y:ZC ops o (look s.T)=some true:=by kernel_rfl)(hf:(ZO (look (Zd ops o s.T true)) o.op).map (fun p=>(p.1,qM C p.2))=some (f,args'):=by kernel_rfl)(hb:(Ye P f&&KE N o.dst&&YV args')=true:=by kernel_rfl):Yf (m.bind k) P N ops Q dr acc (o :: l) s:=by
 refine ⟨fun r hr=>?_⟩;obtain ⟨v,Z,O⟩:=Option.bind_eq_some_iff.1 hr;obtain ⟨⟨f0,args⟩,G,hp⟩:=Fe.1 hf;simp only [Prod.mk.injEq] at hp;obtain ⟨rfl,rfl⟩:=hp;simp only [Zf] at hb;cases dr with
 | false =>
  show K3 P N ops (Q r) (o :: l) s;simp only [K3,Y,ZE,Jp G];exact XJ G hb.1.1 (yG (hc v Z) (U1 C args) hb.2 (hx v) (ZL hb.1.2) ((h v).h r O))
 | true =>
  show Km P N ops (Q r) (o :: l) acc s;simp only [Km,Y,ZE];split
  ·rename_i J; rw [J] at G; simp [ZO] at G
  ·rename_i g aa ts J;rw [J] at G;exact Qdw (hc v Z) G hb.1.1 hb.1.2 (U1 C args) hb.2 (hx v) ((h v).h r O)
  ·rename_i J; rw [J] at G; simp [ZO] at G
  ·rename_i h1 h2 h3;have:=L9 G;unfold Bi at this;split at this
   ·rename_i J; exact absurd J (h2 _ _ _)
   ·cases this
def kG (X:V→AV) (Y:E→AV):Except E V→ZB
 | .ok v=>.ret (X v)
 | .error e=>.panic (Y e)
theorem QgE {m:Option (Except E V)} {k:Except E V→Option R} {X:V→AV} {Y:E→AV} (C:List Conv) (hc:∀ v,m=some v→QC P f args' (kG X Y v)) (ha:qM C args=args') (hb:(KE N dst&&YV args')=true) (hx:∀ v,KZ (X v)=true) (hy:∀ e,KZ (Y e)=true)
  (h:∀ v,DW (k (.ok v)) K (s.put dst (X v))) (O:∀ e,Zv (k (.error e)) Q (.panic (Y e)) s):NS (m.bind k) P N f args dst s K Q:=by
 refine ⟨fun r Z=>?_⟩;obtain ⟨v,hv,J⟩:=Option.bind_eq_some_iff.1 Z;simp only [Zf] at hb;subst ha;have G:=hc v hv;cases v with
 | ok v=>exact yG G (U1 C args) hb.2 (hx v) (ZL hb.1) ((h v).h r J)
 | error e=>exact IA G (U1 C args) hb.2 (hy e) ((O e).h r J)
def Lr {E V R:Type} (k:V→Option R) (e:E→Option R):Except E V→Option R
 | .ok v=>k v
 | .error x=>e x
end
end Go.Abs
