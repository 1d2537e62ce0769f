/-
  A part of the proof of a statement of the seat YtkhhdppjbakngaaGreat.
-/
import Derived.Test.YtkhhdppjbakngaaGreatBal01
set_option linter.unusedVariables false
namespace Go.Abs
open Go
theorem PO {P:Program} {N:Nat} {f:FuncId} {args args':List AV} {dst:Option Tmp} {s:St} {K:St→Prop} {Q:AX→St→Prop} {x:AV}
  (hc:Q0 P f args' (.panic x)) (hle:Bq args args') (hn:YH args'=true) (hx:K9 x=true) (hk:Q (.panic x) s):LK P N f args dst s K Q:=by
 intro φ M0 D a w vs r ha
 have hH:ZN φ GV w (MB φ (look s.H) w M0):=Ux (fun x o hm=>zn hm) r.hp.gm.w r.hp.gm.mb
 have hM:∀ r o v,w.cell? ⟨r,o,none⟩=some v→¬ MM φ (look s.H) M0 r o→w.cell? ⟨r,o,none⟩=some v∧¬ MM φ GV (MB φ (look s.H) w M0) r o:=fun r o v h1 h2=>⟨h1,fun h3=>h3.elim VQ (fun h4=>h2 h4.1)⟩
 refine (hc φ (MB φ (look s.H) w M0) w vs hH ((Wn hM).2 _ _ hn (Jt.2 _ _ _ hle ha))).mono ?_
 rintro e w' ⟨φ',r',h',⟨rfl,rfl⟩,hH',E,v,rfl,hv⟩
 have hM':∀ ro o v,w'.cell? ⟨ro,o,none⟩=some v→¬ MM φ' GV (MB φ (look s.H) w M0) ro o→w'.cell? ⟨ro,o,none⟩=some v∧¬ MM (K7 φ w.heap.size (w'.heap.size - w.heap.size)) (look s.H) M0 ro o:=fun ro o v h1 h2=>⟨h1,Eb r.hp E.size h1 (fun h3=>h2 (.inr h3))⟩
 obtain ⟨r,E1,X1,hC⟩:=r.lift (w'.heap.size - w.heap.size)
 obtain ⟨E2,X2,H2⟩:=Hl E.os E.tape E.output E.size (fun x hx=>E.same x hx (fun b hb=>absurd rfl hb)) r.hp hC
 have r2:Zw _ M0 N D (look s.T) (look s.H) a w':=r.keep E2 X2 H2
 exact ⟨_, .panic x,s,hk,r2,E1.trans E2,v,rfl,(Wn hM').1 _ _ hx hv⟩
def ZF (ops:Array Oper) (o:Oper) (T:Nat→Option AV):Option Bool :=
 match o.guard with
 | none=>some true
 | some (j,want) =>
  match ops[j]? with
  | some oj=>match oj.dst with
   | some d=>match T d with
    | some (.p (.val (.bool b)))=>some (b == want)
    | some (.p (.val (.tuple _)))=>some false
    | _=>none
   | none=>some false
  | none=>some false
theorem H6 {ops:Array Oper} {o:Oper} {φ:Nat→Nat} {M0:QR} {N:Nat} {D:DB} {T:Nat→Option AV} {h:Qv} {a:Act} {w:World} (r:Zw φ M0 N D T h a w) {t:Bool} (he:ZF ops o T=some t) :
  Region.wanted o (yielded ops a.tmps)=t:=by
 unfold ZF at he
 unfold Region.wanted
 split at he
 ·simp only [Zd] at he; subst he; simp [*]
 ·rename_i j want hg
  simp only [hg]
  split at he
  ·rename_i oj hj
   split at he
   ·rename_i d hd
    split at he
    ·rename_i b hb
     simp only [Zd] at he
     subst he
     obtain ⟨h1,h2⟩:=r.tm d _ hb
     simp only [Qf,Q5] at h2
     have hlt:d < a.tmps.size:=by rw [r.siz]; exact h1
     have h3:a.tmps[d]?=some (.bool b):=by
      rw [Array.getElem?_eq_getElem hlt]
      rw [Array.getD_eq_getD_getElem?,Array.getElem?_eq_getElem hlt] at h2
      simpa using h2
     simp [yielded,hj,hd,h3]
    ·rename_i vs hb
     simp only [Zd] at he
     subst he
     obtain ⟨h1,h2⟩:=r.tm d _ hb
     simp only [Qf,Q5] at h2
     have hlt:d < a.tmps.size:=by rw [r.siz]; exact h1
     have h3:a.tmps[d]?=some (.tuple vs):=by
      rw [Array.getElem?_eq_getElem hlt]
      rw [Array.getD_eq_getD_getElem?,Array.getElem?_eq_getElem hlt] at h2
      simpa using h2
     simp [yielded,hj,hd,h3]
    ·cases he
   ·rename_i hd
    simp only [Zd] at he
    subst he
    simp [yielded,hj,hd]
  ·rename_i hj
   simp only [Zd] at he
   subst he
   simp [yielded,hj]
def Zv (ops:Array Oper) (o:Oper) (T:List (Nat × AV)) (t:Bool):List (Nat × AV) :=
 match o.guard with
 | none=>T
 | some (j,want) =>
  match ops[j]? with
  | some oj=>match oj.dst with
   | some d=>match look T d with
    | some (.p (.val (.bool _)))=>(d, .p (.val (.bool (if t then want else !want)))) :: T
    | _=>T
   | none=>T
  | none=>T
theorem X6 {ops:Array Oper} {o:Oper} {T:List (Nat × AV)} {t:Bool} (he:ZF ops o (look T)=some t):look (Zv ops o T t)=look T:=by
 unfold ZF at he
 unfold Zv
 cases hg:o.guard with
 | none=>rfl
 | some p =>
  obtain ⟨j,want⟩:=p
  simp only [hg] at he
  cases hj:ops[j]? with
  | none=>simp only [hj]
  | some oj =>
   simp only [hj] at he ⊢
   cases hd:oj.dst with
   | none=>simp only
   | some d =>
    simp only [hd] at he ⊢
    split at he
    ·rename_i b hb
     simp only [Zd] at he
     subst he
     simp only [hb]
     funext x
     simp only [look]
     by_cases e:d=x
     ·subst e
      simp only [if_true,hb]
      cases b <;> cases want <;> rfl
     ·simp [e]
    ·rename_i vs hb
     simp only [hb]
    ·cases he
def Z4 (T:Nat→Option AV):Op→Option (FuncId × List AV)
 | .call ⟨.value (.func f),args,_⟩=>match Nh T args.toList with | some vs=>some (f,vs) | none=>none
 | .call ⟨.value (.tmp t),args,_⟩ =>
  match T t,Nh T args.toList with
  | some (.fn (.func f) l m),some vs=>some (f,l++vs++m)
  | some (.p (.val (.func (.func f) l m))),some vs=>some (f,(l.toList.map fun c=>.p (.val c))++vs++(m.toList.map fun c=>.p (.val c)))
  | _,_=>none
 | _=>none
def Fh (b:Bool) (A B:Prop):Prop:=(b=true→A)∧(b=false→B)
theorem ZQ (A B:Prop):Fh true A B=A:=by simp [Fh]
theorem U5 (A B:Prop):Fh false A B=B:=by simp [Fh]
theorem Uy {b:Bool} {A B C:Prop} (h:Fh b A B) (h1:b=true→A→C) (h2:b=false→B→C):C:=by
 cases b
 ·exact h2 rfl (h.2 rfl)
 ·exact h1 rfl (h.1 rfl)
def Ju (s:St) (dst:Option Tmp) (u:Kn):St:=⟨match dst with | some d=>(d,u.1) :: s.T | none=>s.T,match u.2.1 with | some bk=>bk :: s.H | none=>s.H⟩
def Ku (N:Nat):Option Tmp→Bool
 | none=>true
 | some d=>decide (d < N)
def EP (N:Nat) (o:Oper) (s:St) (K:St→Prop):Option Kn→Prop
 | some u=>Ku N o.dst=true∧K (Ju s o.dst u)
 | none=>False
def YZ (P:Program) (f:FuncId):Bool:=(P.funcs[f]?).any (fun fn=>fn.body.isSome&&fn.name != "runtime.NumGoroutine")
def fe (P:Program) (N:Nat) (o:Oper) (s:St) (K:St→Prop):Prop :=
 (∀ c,o.op ≠ .defer c)∧Ku N o.dst=true∧∀ φ M0 D a w,Zw φ M0 N D (look s.T) (look s.H) a w→∃ x s',look s'.T=look s.T∧K (St.put s' o.dst x)∧Yield P o φ M0 (look s.H) a w x (look s'.H)
def XN (P:Program) (N:Nat) (o:Oper) (s:St) (K:St→Prop) (Q:AX→St→Prop):Prop :=
 match o.op with
 | .pick c x y=>match Zr (look s.T) c with
  | some (.p (.val (.bool b)))=>Fh b (EP N o s K (Vz (look s.T) x)) (EP N o s K (Vz (look s.T) y))
  | _=>False
 | .panic x=>match Zr (look s.T) x with | some (.ifc t v)=>Q (.panic (.ifc t v)) s | _=>False
 | .call ⟨.value f,args,ts⟩=>match Z4 (look s.T) (.call ⟨.value f,args,ts⟩) with
  | some (f,args)=>YZ P f=true∧LK P N f args o.dst s K Q
  | none=>False
 | _=>EP N o s K (VA P o (look s.T) (look s.H))∨fe P N o s K
def YAt (P:Program) (l:Nat) (args:Array Value) (w:World) (R:Ending→World→Prop):Prop:=YieldAt Fence.wide 0 P l args w R
def fq (P:Program) (b:Nat) (args:List AV) (h:Qv) (R:Z0→Qv→Prop):Prop :=
 ∀ φ M0 w vs,ZN φ h w M0→Qi φ h w (MM φ h M0) args vs→YAt P (φ b) vs.toArray w fun e w' =>
  ∃ φ' r h',R r h'∧ZN φ' h' w' M0∧Zg φ h w φ' h' w'∧gZ φ' h' w' (MM φ' h' M0) r e
def YEx (P:Program) (N:Nat) (b:Nat) (args:List AV) (dst:Option Tmp) (s:St) (K:St→Prop) (Q:AX→St→Prop):Prop :=
 ∀ φ M0 D a w vs,Zw φ M0 N D (look s.T) (look s.H) a w→Qi φ (look s.H) w (MM φ (look s.H) M0) args vs→YAt P (φ b) vs.toArray w fun e w' =>
  match e with
  | .returned v=>∃ φ' s',K s'∧Zw φ' M0 N D (look s'.T) (look s'.H) (a.put dst v) w'∧Zg φ (look s.H) w φ' (look s'.H) w'
  | .panicked chain=>Post N D Q φ M0 (look s.H) w (.panic chain) a w'
  | .outgrown=>False
def yieldOf (T:Nat→Option AV):Op→Option (Nat × List AV)
 | .call ⟨.value (.tmp t),args,_⟩ =>
  match T t with
  | some (.yv b)=>match Nh T args.toList with | some vs=>some (b,vs) | none=>none
  | _=>none
 | _=>none
def YOp (P:Program) (N:Nat) (o:Oper) (s:St) (K:St→Prop) (Q:AX→St→Prop):Option (Nat × List AV)→Prop
 | some (b,args)=>YEx P N b args o.dst s K Q
 | none=>XN P N o s K Q
def Yi (P:Program) (N:Nat) (ops:Array Oper) (Q:AX→St→Prop):List Oper→St→Prop
 | [],s=>Q .normal s
 | o :: rest,s =>
  match ZF ops o (look s.T) with
  | some b=>Fh b (YOp P N o ⟨Zv ops o s.T true,s.H⟩ (Yi P N ops Q rest) Q (yieldOf (look (Zv ops o s.T true)) o.op)) (Ku N o.dst=true∧Yi P N ops Q rest (St.put ⟨Zv ops o s.T false,s.H⟩ o.dst (.p (.val undef))))
  | none=>False
theorem ZR {N:Nat} {d:Option Tmp} (hd:Ku N d=true):∀ t,d=some t→t < N:=by
 rintro t rfl
 simpa [Ku] using hd
theorem Xp {P:Program} {f:FuncId} {args:Array Value} {w:World} (hf:(P.funcs[f]?).any (fun fn=>fn.body.isSome&&fn.name != "runtime.NumGoroutine")=true):(callFunc f args).run P w=.ok (.enter f args) w:=by
 cases hq:P.funcs[f]? with
 | none=>simp [hq] at hf
 | some fn =>
  simp only [hq,Option.any_some,Ki,bne_iff_ne] at hf
  have h1:¬ fn.body=none:=by intro hb; simp [hb] at hf
  simp [callFunc,program,Sem.run,hq,h1,hf.2]
theorem Oper.wp_mono2 {P:Program} {o:Oper} {a:Act} {w:World} {K K':Act→World→Prop} {Q Q':Exit→Act→World→Prop} (hh:o.wp P a w K Q) (h:∀ a w,K a w→K' a w)
  (hq:∀ e a w,Q e a w→Q' e a w):o.wp P a w K' Q':=by
 unfold Oper.wp at *
 generalize (execOp a.eval o).run P w=r at *
 cases r with
 | ok n w' =>
  cases n <;> simp only [Oper.upon] at hh ⊢ <;>
   first
    | exact h _ _ hh
    | exact Calls.mono hh (fun e w'' he=>by cases e <;> first | exact h _ _ he | exact hq _ _ _ he | exact ⟨_,_,hq _ _ _ he.choose_spec.choose_spec⟩)
    | exact Rows.mono hh (fun _ _ he=>h _ _ he)
 | halt x w'=>cases x <;> simp only [Oper.upon] at hh ⊢ <;> exact hq _ _ _ hh
theorem DY {P:Program} {o:Oper} {φ:Nat→Nat} {M0:QR} {N:Nat} {D:DB} {T:Nat→Option AV} {h:Qv} {a:Act} {w:World} (r:Zw φ M0 N D T h a w) {f:FuncId} {args:List AV} (hf:Z4 T o.op=some (f,args))
  (hb:YZ P f=true):∃ vs:List Value,Qi φ h w (MM φ h M0) args vs∧(execOp a.eval o).run P w=.ok (.enter f vs.toArray) w:=by
 unfold Z4 at hf
 split at hf
 ·rename_i f0 aas ts ho
  split at hf
  ·rename_i vs hvs
   simp only [Zd,Prod.mk.injEq] at hf
   obtain ⟨rfl,rfl⟩:=hf
   refine ⟨aas.toList.map a.eval,HV r hvs,?_⟩
   have e1:aas.map a.eval=(aas.toList.map a.eval).toArray:=by apply Array.ext'; simp
   simp only [execOp,ho,resolve,Act.eval,Deferred.ofValue,Sem.run_bind,Sem.run_pure,Result.andThen_ok,invoke]
   rw [Xp hb]
   congr 2
   rw [← e1]
   simp
  ·cases hf
 ·rename_i t aas ts ho
  split at hf
  ·rename_i f0 l m vs ht hvs
   simp only [Zd,Prod.mk.injEq] at hf
   obtain ⟨rfl,rfl⟩:=hf
   have h2:=(r.tm t _ ht).2
   simp only [Qf] at h2
   obtain ⟨l',m',h3,h4,h5⟩:=h2
   refine ⟨l'++aas.toList.map a.eval++m',ZA (ZA h4 (HV r hvs)) h5,?_⟩
   have h3':a.eval (.tmp t)=.func (.func f0) l'.toArray m'.toArray:=h3
   simp only [execOp,ho,resolve,h3',Deferred.ofValue,Sem.run_bind,Sem.run_pure,Result.andThen_ok,invoke]
   rw [Xp hb]
   congr 2
   apply Array.ext'
   simp
  ·rename_i f0 l m vs ht hvs
   simp only [Zd,Prod.mk.injEq] at hf
   obtain ⟨rfl,rfl⟩:=hf
   have h2:=(r.tm t _ ht).2
   simp only [Qf,Q5] at h2
   refine ⟨l.toList++aas.toList.map a.eval++m.toList,ZA (ZA (Hw _) (HV r hvs)) (Hw _),?_⟩
   have h3':a.eval (.tmp t)=.func (.func f0) l m:=h2
   simp only [execOp,ho,resolve,h3',Deferred.ofValue,Sem.run_bind,Sem.run_pure,Result.andThen_ok,invoke]
   rw [Xp hb]
   congr 2
   apply Array.ext'
   simp
  ·cases hf
 ·cases hf
theorem zt {P:Program} {N:Nat} {D:DB} {o:Oper} {s:St} {K:St→Prop} {Q:AX→St→Prop} {φ:Nat→Nat} {M0:QR} {a:Act} {w:World} {u:Kn} (hd:Ku N o.dst=true) (hk:K (Ju s o.dst u))
  (hy:Yield P o φ M0 (look s.H) a w u.1 (ap (look s.H) u.2.1)) (r:Zw φ M0 N D (look s.T) (look s.H) a w) :
  o.wp P a w (fun a' w'=>∃ φ' s',K s'∧Zw φ' M0 N D (look s'.T) (look s'.H) a' w'∧Zg φ (look s.H) w φ' (look s'.H) w') (Post N D Q φ M0 (look s.H) w):=by
 obtain ⟨nx,v,w',φ',h1,h2,h3,h4,h5,h6⟩:=hy
 have hH:look (Ju s o.dst u).H=ap (look s.H) u.2.1:=by
  unfold Ju ap
  cases hq:u.2.1 with
  | none=>rfl
  | some bk=>rfl
 have r2:Zw φ' M0 N D (look (Ju s o.dst u).T) (look (Ju s o.dst u).H) (a.put o.dst v) w':=by
  have r3:Zw φ' M0 N D (look s.T) (ap (look s.H) u.2.1) a w':=r.keep h5 h6 h4
  rw [hH]
  have:=Zw.put (s:=⟨s.T,(Ju s o.dst u).H⟩) (d:=o.dst) (x:=u.1) (v:=v) (by rw [hH]; exact r3) (ZR hd) (by rw [hH]; exact h3)
  rw [← hH]
  cases hq:o.dst with
  | none=>rw [hq] at this; exact this
  | some d=>rw [hq] at this; exact this
 unfold Oper.wp
 rw [h1]
 rcases h2 with rfl | ⟨rfl,rfl⟩
 ·exact ⟨φ',_,hk,r2,by rw [hH]; exact h5⟩
 ·exact ⟨φ',_,hk,r2,by rw [hH]; exact h5⟩
theorem fu {P:Program} {N:Nat} {D:DB} {o:Oper} {s:St} {K:St→Prop} {Q:AX→St→Prop} {φ:Nat→Nat} {M0:QR} {a:Act} {w:World} (h:fe P N o s K) (r:Zw φ M0 N D (look s.T) (look s.H) a w) :
  o.wp P a w (fun a' w'=>∃ φ' s',K s'∧Zw φ' M0 N D (look s'.T) (look s'.H) a' w'∧Zg φ (look s.H) w φ' (look s'.H) w') (Post N D Q φ M0 (look s.H) w):=by
 obtain ⟨_,hd,h⟩:=h
 obtain ⟨x,s1,hT,hk,nx,v,w',φ',h1,h2,h3,h4,h5,h6⟩:=h φ M0 D a w r
 have r3:Zw φ' M0 N D (look s1.T) (look s1.H) a w':=by rw [hT]; exact r.keep h5 h6 h4
 have r2:Zw φ' M0 N D (look (s1.put o.dst x).T) (look (s1.put o.dst x).H) (a.put o.dst v) w':=Zw.put (s:=s1) (d:=o.dst) (x:=x) (v:=v) r3 (ZR hd) h3
 have hH:(s1.put o.dst x).H=s1.H:=by cases hq:o.dst <;> rfl
 unfold Oper.wp
 rw [h1]
 rcases h2 with rfl | ⟨rfl,rfl⟩
 ·exact ⟨φ',_,hk,r2,by rw [hH]; exact h5⟩
 ·exact ⟨φ',_,hk,r2,by rw [hH]; exact h5⟩
theorem TZ {P:Program} {N:Nat} {D:DB} {o:Oper} {s:St} {K:St→Prop} {Q:AX→St→Prop} {φ:Nat→Nat} {M0:QR} {a:Act} {w:World} (h:XN P N o s K Q) (r:Zw φ M0 N D (look s.T) (look s.H) a w) :
  o.wp P a w (fun a' w'=>∃ φ' s',K s'∧Zw φ' M0 N D (look s'.T) (look s'.H) a' w'∧Zg φ (look s.H) w φ' (look s'.H) w') (Post N D Q φ M0 (look s.H) w):=by
 unfold XN at h
 split at h
 ·rename_i c x y ho
  split at h
  ·rename_i b hc
   have hpick:∀ z,EP N o s K (Vz (look s.T) z)→Dv (look s.T) c x y=Vz (look s.T) z →
     o.wp P a w (fun a' w'=>∃ φ' s',K s'∧Zw φ' M0 N D (look s'.T) (look s'.H) a' w'∧Zg φ (look s.H) w φ' (look s'.H) w') (Post N D Q φ M0 (look s.H) w):=by
    intro z hz hp
    cases hm:Vz (look s.T) z with
    | none=>rw [hm] at hz; exact hz.elim
    | some u =>
     rw [hm] at hz hp
     have:=wH (P:=P) r ho hp
     exact zt hz.1 hz.2 (by rw [this.1]; exact this.2.2) r
   refine Uy h (fun hb hz=>hpick x hz ?_) (fun hb hz=>hpick y hz ?_)
   ·subst hb; simp [Dv,hc]
   ·subst hb; simp [Dv,hc]
  ·exact h.elim
 ·rename_i y ho
  split at h
  ·rename_i t v hv
   have h2:=r.ev hv
   have h2':=h2
   simp only [Qf] at h2'
   obtain ⟨z,h3,h4⟩:=h2'
   unfold Oper.wp
   have:(execOp a.eval o).run P w=.halt (.panic (a.eval y)) w:=by
    simp [execOp,ho,h3,Instr.panic,goPanic]
   rw [this]
   exact ⟨φ, .panic (.ifc t v),s,h,r,Zg.refl _ _ _,_,rfl,h2⟩
  ·exact h.elim
 ·rename_i f aas ts ho
  split at h
  ·rename_i f0 args hf
   obtain ⟨hb,hcall⟩:=h
   obtain ⟨vs,h1,h2⟩:=DY (o:=o) r (by rw [ho]; exact hf) hb
   unfold Oper.wp
   rw [h2]
   simp only [Oper.upon]
   refine (hcall φ M0 D a w vs r h1).mono ?_
   intro e w' he
   cases e with
   | returned v=>exact he
   | panicked chain=>exact he
   | outgrown=>exact he.elim
  ·exact h.elim
 ·rcases h with h | h
  ·cases hu:VA P o (look s.T) (look s.H) with
   | none=>rw [hu] at h; exact h.elim
   | some u=>rw [hu] at h; exact zt h.1 h.2 (gY r hu) r
  ·exact fu h r
theorem sM {P:Program} {ro:Option Nat} {o:Oper} {a:Act} {w:World} {K:Act→World→Prop} {Q:Exit→Act→World→Prop} (h:o.wp P a w K Q) (hd:∀ c,o.op ≠ .defer c):o.wpIn (wd ro) 0 P a w K Q:=by
 refine ⟨fun _ _=>trivial,?_⟩
 rw [Oper.semAt_eq _ _ _ hd]
 unfold Oper.wp at h
 generalize (execOp a.eval o).run P w=r at *
 cases r with
 | ok n w' =>
  cases n with
  | enter f args=>exact ⟨(fun h=>by cases h),callsIn_wide.2 h⟩
  | row row args =>
   refine ⟨(fun h=>by cases h),fun c cs _=>?_⟩
   obtain ⟨v,w2,h1,h2⟩:=(h:Rows P row args w' _) c cs
   exact ⟨v,w2,h1,stepsIn_wide.2 h2⟩
  | value v=>exact h
  | skip=>exact h
  | defer d=>exact h
  | _=>exact h.elim
 | halt x w'=>cases x <;> first | exact h | exact h.elim
theorem fw {P:Program} {N:Nat} {o:Oper} {s:St} {K:St→Prop} {Q:AX→St→Prop} (h:XN P N o s K Q):∀ c,o.op ≠ .defer c:=by
 intro c ho
 unfold XN at h
 simp only [ho,VA] at h
 rcases h with h | h
 ·exact h
 ·exact h.1 _ ho
theorem fA {P:Program} {ro:Option Nat} {o:Oper} {a:Act} {w:World} {K:Act→World→Prop} {Q:Exit→Act→World→Prop} {l:Nat} {args:Array Value} (hr:(execOp a.eval o).run P w=(Instr.yield l args).run P w) (hd:∀ c,o.op ≠ .defer c)
  (h:YAt P l args w fun
   | .returned v,w''=>K (a.put o.dst v) w''
   | .panicked chain,w''=>Q (.panic chain) a w''
   | .outgrown,_=>LetsOut Q):o.wpIn (wd ro) 0 P a w K Q:=by
 refine ⟨fun _ _=>trivial,?_⟩
 rw [Oper.semAt_eq _ _ _ hd,hr]
 obtain ⟨fn,tmps,assign,body,h1,h2⟩:=h
 rw [h1]
 exact ⟨(fun h=>by cases h),h2⟩
theorem zu {P:Program} {o:Oper} {φ:Nat→Nat} {M0:QR} {N:Nat} {D:DB} {T:Nat→Option AV} {h:Qv} {a:Act} {w:World} (r:Zw φ M0 N D T h a w) {b:Nat} {args:List AV} (hf:yieldOf T o.op=some (b,args)) :
  ∃ vs:List Value,Qi φ h w (MM φ h M0) args vs∧(execOp a.eval o).run P w=(Instr.yield (φ b) vs.toArray).run P w∧∀ c,o.op ≠ .defer c:=by
 unfold yieldOf at hf
 split at hf
 ·rename_i t aas ts ho
  split at hf
  ·rename_i b0 ht
   split at hf
   ·rename_i vs hvs
    simp only [Zd,Prod.mk.injEq] at hf
    obtain ⟨rfl,rfl⟩:=hf
    have h2:=(r.tm t _ ht).2
    simp only [Qf] at h2
    have h3':a.eval (.tmp t)=.func (.yield (φ b0)) #[] #[]:=h2.1
    refine ⟨aas.toList.map a.eval,HV r hvs,?_,fun c hc=>by rw [ho] at hc; cases hc⟩
    have e1:aas.map a.eval=(aas.toList.map a.eval).toArray:=by apply Array.ext'; simp
    simp only [execOp,ho,resolve,h3',Deferred.ofValue,Sem.run_bind,Sem.run_pure,Result.andThen_ok,invoke]
    rw [← e1]
    simp
   ·cases hf
  ·cases hf
 ·cases hf
theorem Oper.wpIn_mono2 {F:Fence} {n:Nat} {P:Program} {o:Oper} {a:Act} {w:World} {K K':Act→World→Prop} {Q Q':Exit→Act→World→Prop} (hh:o.wpIn F n P a w K Q) (h:∀ a w,K a w→K' a w)
  (hq:∀ e a w,Q e a w→Q' e a w):o.wpIn F n P a w K' Q':=by
 unfold Oper.wpIn at *
 refine ⟨hh.1,?_⟩
 have hh:=hh.2
 generalize (o.semAt F.round a.eval).run P w=r at *
 cases r with
 | ok x w' =>
  cases x <;> simp only [Oper.uponIn] at hh ⊢ <;>
   first
    | exact h _ _ hh
    | exact ⟨hh.1,CallsIn.mono hh.2 (fun e w'' he=>by cases e <;> first | exact h _ _ he | exact hq _ _ _ he | exact ⟨_,_,hq _ _ _ he.choose_spec.choose_spec⟩)⟩
    | exact ⟨hh.1,RowsIn.mono hh.2 (fun _ _ he=>h _ _ he)⟩
    | exact ⟨hh.1,RoundIn.mono hh.2 (fun e w'' he=>by cases e <;> first | exact h _ _ he | exact hq _ _ _ he | exact ⟨_,_,hq _ _ _ he.choose_spec.choose_spec⟩)⟩
 | halt x w'=>cases x <;> simp only [Oper.uponIn] at hh ⊢ <;> exact hq _ _ _ hh
theorem ek {P:Program} {N:Nat} {ro:Option Nat} {D:DB} {o:Oper} {s:St} {K:St→Prop} {Q:AX→St→Prop} {φ:Nat→Nat} {M0:QR} {a:Act} {w:World} (h:YOp P N o s K Q (yieldOf (look s.T) o.op)) (r:Zw φ M0 N D (look s.T) (look s.H) a w) :
  o.wpIn (wd ro) 0 P a w (fun a' w'=>∃ φ' s',K s'∧Zw φ' M0 N D (look s'.T) (look s'.H) a' w'∧Zg φ (look s.H) w φ' (look s'.H) w') (Post N D Q φ M0 (look s.H) w):=by
 cases hy:yieldOf (look s.T) o.op with
 | none=>rw [hy] at h; exact sM (TZ h r) (fw h)
 | some p =>
  obtain ⟨b,args⟩:=p
  rw [hy] at h
  obtain ⟨vs,h1,h2,h3⟩:=zu (P:=P) (w:=w) r hy
  refine fA h2 h3 ?_
  obtain ⟨fn,tmps,assign,body,g1,g2⟩:=h φ M0 D a w vs r h1
  refine ⟨fn,tmps,assign,body,g1,g2.mono ?_⟩
  intro e w' he
  cases e with
  | returned v=>exact he
  | panicked chain=>exact he
  | outgrown=>exact he.elim
theorem EQ {P:Program} {N:Nat} {ro:Option Nat} {D:DB} {ops:Array Oper} {Q:AX→St→Prop}:∀ (l:List Oper) (k:Nat) (s:St) (φ0:Nat→Nat) (h0:Qv) (w0:World) (φ:Nat→Nat) (M0:QR) (a:Act) (w:World),
  (∀ j,l[j]?=ops[k+j]?)→Zg φ0 h0 w0 φ (look s.H) w→Zw φ M0 N D (look s.T) (look s.H) a w→Yi P N ops Q l s →
  wpOpsIn (wd ro) 0 P ops (Post N D Q φ0 M0 h0 w0) ((List.range l.length).map (k+·)) a w
 | [],k,s,φ0,h0,w0,φ,M0,a,w,hl,E,r,h=>⟨φ, .normal,s,h,r,E,rfl⟩
 | o :: l,k,s,φ0,h0,w0,φ,M0,a,w,hl,E,r,h=>by
  have h1:ops[k]?=some o:=by simpa using (hl 0).symm
  have hr:(List.range (o :: l).length).map (k+·)=k :: (List.range l.length).map (k+1+·):=by
   simp only [nY,List.range_succ_eq_map,List.map_cons,List.map_map,Nat.add_zero,List.cons.injEq,true_and]
   apply List.map_congr_left
   intro j _
   simp; omega
  rw [hr]
  simp only [wpOpsIn,h1]
  have hl':∀ j,l[j]?=ops[k+1+j]?:=fun j=>by have:=hl (j+1); rwa [show k+(j+1)=k+1+j from by omega] at this
  simp only [Yi] at h
  split at h
  ·rename_i b hw
   rw [H6 r hw]
   refine Uy h (fun hb g=>?_) (fun hb g=>?_)
   ·subst hb
    simp only [if_true]
    have em:=X6 hw
    have r1:Zw φ M0 N D (look (Zv ops o s.T true)) (look s.H) a w:=by rw [em]; exact r
    refine Go.Abs.Oper.wpIn_mono2 (ek (s:=⟨Zv ops o s.T true,s.H⟩) g r1) ?_ ?_
    ·rintro a' w' ⟨φ',s',h2,h3,h4⟩
     exact EQ l (k+1) s' φ0 h0 w0 φ' M0 a' w' hl' (E.trans h4) h3 h2
    ·intro e a' w' p
     exact p.trans E
   ·subst hb
    simp only [Bool.false_eq_true,if_false]
    have em:=X6 hw
    have r1:Zw φ M0 N D (look (Zv ops o s.T false)) (look s.H) a w:=by rw [em]; exact r
    refine ⟨fun _ _=>trivial,EQ l (k+1) _ φ0 h0 w0 φ M0 _ w hl' ?_ (Zw.put (s:=⟨Zv ops o s.T false,s.H⟩) r1 (ZR g.1) (by simp [Qf,Q5])) g.2⟩
    cases o.dst <;> exact E
  ·exact h.elim
def Ul (ops:Array Oper):Bool:=ops.toList.all fun o=>match o.op with | .defer _=>false | _=>true
theorem DZ {P:Program} {ro:Option Nat} {ops:Array Oper} {Q:Exit→Act→World→Prop} (hd:Ul ops=true) (hq:¬ LetsOut Q):∀ (fuel:Nat) (listed:Array Bool) (a:Act) (w:World),wpAny P .any ops Q fuel listed a w→wpAnyIn (wd ro) 0 P .any ops Q fuel listed a w
 | 0,listed,a,w,h=>h
 | fuel+1,listed,a,w,h=>by
  refine ⟨h.1,fun i hi=>?_⟩
  have h2:=h.2 i hi
  unfold wpOp at h2
  unfold wpOpIn
  cases ho:ops[i]? with
  | none=>simp only [ho] at h2 ⊢; exact DZ hd hq fuel _ a w h2
  | some o =>
   simp only [ho] at h2 ⊢
   have hnd:∀ c,o.op ≠ .defer c:=by
    intro c hc
    have:=List.all_eq_true.1 hd o (by have:=Array.mem_of_getElem? ho; simpa using this)
    simp [hc] at this
   split at h2
   ·rename_i hw
    simp only [hw,if_true]
    rcases h2 with h3 | h3
    ·exact sM (Oper.wp_mono (fun a w=>DZ hd hq fuel _ a w) h3) hnd
    ·exact absurd h3.2 hq
   ·rename_i hw
    simp only [hw]
    exact ⟨fun _ _=>trivial,DZ hd hq fuel _ _ w h2⟩
theorem VW {N:Nat} {D:DB} {Q:AX→St→Prop} {φ:Nat→Nat} {M0:QR} {h:Qv} {w:World}:¬ LetsOut (Post N D Q φ M0 h w):=by
 rintro ⟨a,w',φ',x,s',h1,h2,h3,h4⟩
 cases x with
 | normal=>cases h4
 | exit i=>cases h4
 | ret=>cases h4
 | panic v=>obtain ⟨u,h5,_⟩:=h4; cases h5
theorem IQ {P:Program} {N:Nat} {ro:Option Nat} {id:Nat} {ops:Array Oper} {s:St} {Q:AX→St→Prop} (h:Yi P N ops Q ops.toList s):Ex P N ro (.region id ops false) s Q:=by
 intro φ M0 D a w r
 refine wpIn_region ?_
 have:=EQ (ro:=ro) ops.toList 0 s φ (look s.H) w φ M0 a w zq (Zg.refl _ _ _) r h
 simpa using this
section
variable {P:Program} {o:Oper} {T T':Nat→Option AV} {h h':Qv}
theorem H7:∀ {l:List Operand},(∀ x ∈ l,Zr T' x=Zr T x)→Nh T' l=Nh T l
 | [],_=>rfl
 | x :: l,hh=>by simp only [Nh,hh x zq,H7 (l:=l) (fun y hy=>hh y (by simp [hy]))]
theorem LM:∀ {l:List (Nat × Operand)},(∀ x ∈ l.map (·.2),Zr T' x=Zr T x)→Ey T' l=Ey T l
 | [],_=>rfl
 | (i,x) :: l,hh=>by simp only [Ey,hh x zq,LM (l:=l) (fun y hy=>hh y (by simp at hy ⊢; exact .inr hy))]
theorem zw (hs:∀ x ∈ o.op.operands,Zr T' x=Zr T x):U0 P T' o=U0 P T o:=by
 have hk:∀ x ∈ o.op.operands.toList,known T' x=known T x:=fun x hx=>by unfold known; rw [hs x (by simpa using hx)]
 have ha:allKnown T' o.op.operands.toList=allKnown T o.op.operands.toList:=by
  have:∀ l:List Operand,(∀ x ∈ l,known T' x=known T x)→allKnown T' l=allKnown T l:=by
   intro l
   induction l with
   | nil=>intro _; rfl
   | cons x l ih=>intro hh; simp only [allKnown,hh x zq,ih (fun y hy=>hh y (by simp [hy]))]
  exact this _ hk
 unfold U0
 rw [ha]
 split
 ·rename_i hc
  simp only [Ki] at hc
  rw [execOp_congr (ρ:=fun x=>(known T' x).getD undef) (ρ':=fun x=>(known T x).getD undef) o (fun cs b e=>by rw [e] at hc; simp [Xf] at hc) (fun x hx=>by
   show (known T' x).getD undef=(known T x).getD undef
   rw [hk x (by simpa using hx)])]
 ·rfl
theorem R9 {d:Nat} {x:Option Operand} (hh:∀ y,x=some y→Zr T' y=Zr T y):Xg T' d x=Xg T d x:=by
 cases x with
 | none=>rfl
 | some y=>simp only [Xg,hh y rfl]
theorem ER {u:Kn} {t:TypeId} {x i:Operand} {ok:Bool} (he:Jd P T h t x i ok=some u) (hx:Zr T' x=Zr T x) (hi:Zr T' i=Zr T i) (hh:∀ b ∈ u.2.2,h' b=h b) :
  Jd P T' h' t x i ok=some u∧JV P T' h' t x i ok=none:=by
 unfold Jd at he
 split at he
 rotate_left
 ·cases he
 rename_i kt e b s ht hx1 hi1
 split at he
 rotate_left
 ·cases he
 rename_i es hb hkt
 have hu:u.2.2=[b]:=by
  split at he
  ·simp only [Zd] at he; subst he; rfl
  ·split at he
   ·simp only [Zd] at he; subst he; rfl
   ·cases he
 have hb':h' b=some (.mf es):=by rw [hh b (by rw [hu]; simp)]; exact hb
 constructor
 ·simp only [Jd,ht,hx,hi,hx1,hi1,hb',hkt]; exact he
 ·simp [JV,ht,hx,hi,hx1,hi1,hb']
theorem ES {u:Kn} {t:TypeId} {x i y:Operand} (he:Je P T h t x i y=some u) (hn:YO P T h t x i y=none) (hx:Zr T' x=Zr T x) (hi:Zr T' i=Zr T i) (hy:Zr T' y=Zr T y) (hh:∀ b ∈ u.2.2,h' b=h b) :
  Je P T' h' t x i y=some u∧YO P T' h' t x i y=none:=by
 unfold Je at he
 split at he
 rotate_left
 ·cases he
 rename_i kt e b s v ht hx1 hi1 hy1
 split at he
 rotate_left
 ·cases he
 rename_i es hb hkt
 have hu:u.2.2=[b]:=by
  split at he
  ·simp only [Zd] at he; subst he; rfl
  ·cases he
 have hb':h' b=h b:=hh b (by rw [hu]; simp)
 constructor
 ·simp only [Je,ht,hx,hi,hy,hx1,hi1,hy1,hb',hkt,hb]; exact he
 ·rw [← hn]; simp only [YO,ht,hx,hi,hy,hx1,hi1,hy1,hb']
theorem ET {u:Kn} {t:TypeId} {x i:Operand} (he:X5 P T h t x i=some u) (hx:Zr T' x=Zr T x) (hi:Zr T' i=Zr T i) (hh:∀ b ∈ u.2.2,h' b=h b):X5 P T' h' t x i=some u:=by
 unfold X5 at he
 split at he
 rotate_left
 ·cases he
 rename_i kt e b s ht hx1 hi1
 split at he
 rotate_left
 ·cases he
 rename_i es hb hkt
 have hu:u.2.2=[b]:=by
  split at he
  ·simp only [Zd] at he; subst he; rfl
  ·cases he
 have hb':h' b=some (.mf es):=by rw [hh b (by rw [hu]; simp)]; exact hb
 simp only [X5,ht,hx,hi,hx1,hi1,hb',hkt]; exact he
theorem OM {u:Kn} {t:TypeId} {x i:Operand} {ok:Bool} (he:JV P T h t x i ok=some u) (hx:Zr T' x=Zr T x) (hi:Zr T' i=Zr T i) (hh:∀ b ∈ u.2.2,h' b=h b):JV P T' h' t x i ok=some u:=by
 simp only [JV,hx,hi] at he ⊢
 split at he
 ·rename_i kt e b kv _ _ _
  have hb:∀ es,h b=some (.mp es)→u.2.2=[b]→h' b=some (.mp es):=fun es h1 h2=>by rw [hh b (by rw [h2]; simp)]; exact h1
  split at he
  ·rename_i es k kd hbe _ _
   split at he
   ·rename_i hkey
    have:u.2.2=[b]:=by
     split at he
     ·simp only [Zd] at he; subst he; rfl
     ·split at he
      ·simp only [Zd] at he; subst he; rfl
      ·cases he
     ·cases he
    simp only [hb es hbe this, *,if_true]
   ·cases he
  ·cases he
 ·cases he
theorem PP {u:Kn} {t:TypeId} {x i y:Operand} (he:YO P T h t x i y=some u) (hx:Zr T' x=Zr T x) (hi:Zr T' i=Zr T i) (hy:Zr T' y=Zr T y) (hh:∀ b ∈ u.2.2,h' b=h b):YO P T' h' t x i y=some u:=by
 simp only [YO,hx,hi,hy] at he ⊢
 split at he
 ·rename_i kt e b kv y0 _ _ _ _
  have hb:∀ es,h b=some (.mp es)→u.2.2=[b]→h' b=some (.mp es):=fun es h1 h2=>by rw [hh b (by rw [h2]; simp)]; exact h1
  split at he
  ·rename_i es k kd v hbe _ _ _
   split at he
   ·rename_i hkey
    have:u.2.2=[b]:=by
     split at he
     ·simp only [Zd] at he; subst he; rfl
     ·simp only [Zd] at he; subst he; rfl
     ·cases he
    simp only [hb es hbe this, *,if_true]
   ·cases he
  ·cases he
 ·cases he
theorem IR {x y:Option Kn} {u:Kn} (he:RA x y=some u):x=some u∨x=none∧y=some u:=by
 unfold RA at he
 split at he
 ·exact .inl he
 ·exact .inr ⟨rfl,he⟩
theorem xw {u:Kn} (he:VA P o T h=some u) (hs:∀ x ∈ o.op.operands,Zr T' x=Zr T x) (hh:∀ b ∈ u.2.2,h' b=h b):VA P o T' h'=some u:=by
 have hp:=zw (P:=P) hs
 unfold VA at he ⊢
 generalize hop:o.op=q at he hs ⊢
 cases q
 case move x=>simp only [Vz,hs x (by simp [Op.operands])] at he ⊢; exact he
 case assign x=>simp only [Vz,hs x (by simp [Op.operands])] at he ⊢; exact he
 case pick c x y=>simp only [Dv,Vz,hs c (by simp [Op.operands]),hs x (by simp [Op.operands]),hs y (by simp [Op.operands])] at he ⊢; exact he
 case alloc ty =>
  simp only at he ⊢
  split at he
  ·split at he
   ·unfold AR at he ⊢
    split at he
    ·rename_i d cs hd hcs
     split at he
     ·rename_i hz
      simp only [Zd] at he
      subst he
      rw [hh d zq,hz]
     ·cases he
    ·cases he
   ·cases he
  ·cases he
 case box ty x =>
  simp only [hs x (by simp [Op.operands])] at he ⊢
  split at he
  ·unfold AR at he ⊢
   split at he
   ·rename_i d cs hd hcs
    split at he
    ·rename_i hz
     simp only [Zd] at he
     subst he
     rw [hh d zq,hz]
    ·cases he
   ·cases he
  ·cases he
 case build t ps =>
  simp only [Ez,LM (T':=T') (T:=T) (l:=ps.toList) (fun x hx=>hs x (by simpa [Op.operands] using hx))] at he ⊢
  exact he
 case makeMap t rsv =>
  simp only [R5] at he ⊢
  split at he
  ·rename_i d hd
   split at he
   ·rename_i hz
    simp only [Zd] at he
    subst he
    have:h' d=none:=by rw [hh d zq]; exact hz
    simp [this]
   ·cases he
  ·cases he
 case lookup t x i ok =>
  have hx:=hs x (by simp [Op.operands])
  have hi:=hs i (by simp [Op.operands])
  rcases IR he with h1 | ⟨_,h1⟩
  ·simp only [RA,OM h1 hx hi hh]
  ·obtain ⟨h2,h3⟩:=ER h1 hx hi hh
   simp only [RA,h2,h3]
 case mapUpdate t x i y =>
  have hx:=hs x (by simp [Op.operands])
  have hi:=hs i (by simp [Op.operands])
  have hy:=hs y (by simp [Op.operands])
  rcases IR he with h1 | ⟨h0,h1⟩
  ·simp only [RA,PP h1 hx hi hy hh]
  ·obtain ⟨h2,h3⟩:=ES h1 h0 hx hi hy hh
   simp only [RA,h2,h3]
 case makeSlice t x y=>exact zf he (hs x (by simp [Op.operands])) (hs y (by simp [Op.operands])) hh
 case buildSlice t n ps =>
  simp only at he ⊢
  split at he
  ·rename_i hn; rw [if_pos hn]; exact yT he hh
  rename_i hn
  rw [if_neg hn]
  rw [xu (T:=T) (l:=ps.toList) (fun x hx=>hs x (by simpa [Op.operands] using hx))]
  split at he
  ·rename_i hB
   rw [if_pos hB]
   simp only [Uw,LM (T':=T') (T:=T) (l:=ps.toList) (fun x hx=>hs x (by simpa [Op.operands] using hx))] at he ⊢
   split at he
   ·rename_i e d qs _ _ _
    split at he
    ·rename_i i _
     split at he
     ·rename_i z hz hd
      split at he
      ·rename_i zs hzs
       split at he
       ·rename_i hc1
        split at he
        ·rename_i rs hrs
         split at he
         ·rename_i hc
          simp only [Zd] at he
          subst he
          simp only [hh d zq,hd,hz,hzs]
          rw [if_pos hc1]
          simp only [hrs]
          rw [if_pos hc]
         ·cases he
        ·cases he
       ·cases he
      ·cases he
     ·cases he
    ·cases he
   ·cases he
  rename_i hB
  rw [if_neg hB]
  simp only [Uu,LM (T':=T') (T:=T) (l:=ps.toList) (fun x hx=>hs x (by simpa [Op.operands] using hx))] at he ⊢
  split at he
  ·rename_i e d qs _ _ _
   split at he
   ·rename_i i _
    split at he
    ·rename_i z hz hd
     split at he
     ·rename_i zs hzs
      split at he
      ·rename_i hc1
       split at he
       ·rename_i rs hrs
        split at he
        ·rename_i pvs hpv
         split at he
         ·rename_i hc
          simp only [Zd] at he
          subst he
          simp only [hh d zq,hd,hz,hzs]
          rw [if_pos hc1]
          simp only [hrs,hpv]
          rw [if_pos hc]
         ·cases he
        ·cases he
       ·cases he
      ·cases he
     ·cases he
    ·cases he
   ·cases he
  ·cases he
 case load ty x =>
  have hx:=hs x (by simp [Op.operands])
  simp only at he ⊢
  rw [hx]
  split at he
  ·rename_i hv; rw [if_pos hv]; exact ze he hx hh
  rename_i hv
  rw [if_neg hv]
  simp only [N7,hs x (by simp [Op.operands])] at he ⊢
  split at he
  ·split at he
   ·rename_i b off hx
    split at he
    ·rename_i tb cs hb
     have hb':h' b=some (.box tb cs):=by
      rw [← hb]
      refine hh b ?_
      split at he
      ·split at he
       ·simp only [Zd] at he; subst he; simp
       ·cases he
      ·split at he
       ·simp only [Zd] at he; subst he; simp
       ·cases he
     simp only [hb']
     exact he
    ·cases he
   ·exact he
   ·cases he
  ·cases he
 case store ty x y =>
  have hx:=hs x (by simp [Op.operands])
  have hy:=hs y (by simp [Op.operands])
  simp only at he ⊢
  rw [hx]
  split at he
  ·rename_i hv; rw [if_pos hv]; exact OG he hx hy hh
  rename_i hv
  rw [if_neg hv]
  simp only [Eu,hs x (by simp [Op.operands]),hs y (by simp [Op.operands])] at he ⊢
  split at he
  ·rename_i i b off v _ _ _
   split at he
   ·rename_i tb cs vs hb hvs
    split at he
    ·rename_i hc
     simp only [Zd] at he
     subst he
     simp only [hh b zq,hb,hvs]
     rw [if_pos hc]
    ·cases he
   ·cases he
  ·cases he
 case nilCheck x =>
  have hx:=hs x (by simp [Op.operands])
  simp only at he ⊢
  rw [hx]
  split at he
  ·rename_i hv; rw [if_pos hv]; exact yQ he hx hh
  rename_i hv
  rw [if_neg hv]
  simp only [XZ,hx] at he ⊢; rw [hp]; exact he
 case fieldAddr t x f =>
  have hx:=hs x (by simp [Op.operands])
  simp only at he ⊢
  rw [hx]
  split at he
  ·rename_i hv; rw [if_pos hv]; exact Nk he hx hh
  rename_i hv
  rw [if_neg hv]
  simp only [J6,hx] at he ⊢; exact he
 case field t x f=>simp only [Ew,hs x (by simp [Op.operands])] at he ⊢; exact he
 case indexAddr t x i =>
  have hx:=hs x (by simp [Op.operands])
  have hi:=hs i (by simp [Op.operands])
  simp only at he ⊢
  rw [hx]
  split at he
  ·rename_i hv; rw [if_pos hv]; exact Nj he hx hi hh
  rename_i hv
  rw [if_neg hv]
  simp only [XY,H5,hx,hi] at he ⊢; exact he
 case index t x i=>simp only [Nc,TU,hs x (by simp [Op.operands]),hs i (by simp [Op.operands])] at he ⊢; rw [hp]; exact he
 case slice t x lo hi mx =>
  have e1:∀ d,Xg T' d lo=Xg T d lo:=fun d=>R9 (fun y hy=>hs y (by simp [Op.operands,hy]))
  have e2:∀ d,Xg T' d hi=Xg T d hi:=fun d=>R9 (fun y hy=>hs y (by simp [Op.operands,hy]))
  have e3:∀ d,Xg T' d mx=Xg T d mx:=fun d=>R9 (fun y hy=>hs y (by simp [Op.operands,hy]))
  simp only [LC,hs x (by simp [Op.operands]),e1,e2,e3] at he ⊢
  rw [hp]
  exact he
 case extract x i=>simp only [Hz,hs x (by simp [Op.operands])] at he ⊢; exact he
 case makeFunc f a b =>
  simp only [FT,H7 (T':=T') (T:=T) (l:=a.toList) (fun x hx=>hs x (by simp [Op.operands] at hx ⊢; exact .inl hx)),H7 (T':=T') (T:=T) (l:=b.toList) (fun x hx=>hs x (by simp [Op.operands] at hx ⊢; exact .inr hx))] at he ⊢
  exact he
 case makeInterface t x=>simp only [WN,hs x (by simp [Op.operands])] at he ⊢; exact he
 case typeAssert x xt t ok=>simp only [Ut,hs x (by simp [Op.operands])] at he ⊢; exact he
 case binOp op tx x y ty =>
  have hx:=hs x (by simp [Op.operands])
  have hy:=hs y (by simp [Op.operands])
  have e1:EC T' op x y=EC T op x y:=by simp only [EC,hx,hy]
  have e2:nZ P T' op tx x y=nZ P T op tx x y:=by simp only [nZ,zi,hx,hy]
  simp only [e1,e2,hp] at he ⊢
  have last:Nl P T h op tx x y=some u→Nl P T' h' op tx x y=some u:=by
   intro he
   unfold Nl at he ⊢
   rw [hx,hy]
   split at he
   ·rename_i e S es t m k _ _ _
    split at he
    ·rename_i ta Sa n hb
     split at he
     ·rename_i hlen
      have:h' t=some (.arr ta Sa n):=by
       rw [hh t ?_]
       ·exact hb
       ·split at he
        ·simp only [Zd] at he; subst he; simp
        ·simp only [Zd] at he; subst he; simp
        ·cases he
      simp only [this,hlen]
      exact he
     ·cases he
    ·cases he
   ·cases he
  cases q1:EC T op x y with
  | some z=>rw [q1] at he; exact he
  | none =>
   rw [q1] at he
   cases q2:nZ P T op tx x y with
   | some z=>rw [q2] at he; exact he
   | none =>
    rw [q2] at he
    cases q3:U0 P T o with
    | some z=>rw [q3] at he; exact he
    | none =>
     rw [q3] at he
     exact last he
 case unOp op tx x=>simp only [aUn,hs x (by simp [Op.operands])] at he ⊢; rw [hp]; exact he
 case convert src dst x=>simp only [q8,hs x (by simp [Op.operands])] at he ⊢; rw [hp]; exact he
 case call c =>
  obtain ⟨callee,args,types⟩:=c
  cases callee
  case builtin b =>
   cases b
   case len =>
    simp only at he ⊢
    split at he
    ·rename_i x t
     have hx:=hs x (by simp [Op.operands,Call.operands])
     rw [hx]
     split at he
     ·rename_i hv; rw [if_pos hv]; exact yR he hx hh
     rename_i hv
     rw [if_neg hv]
     simp only [gJ,zg,gX,hx] at he ⊢
     rw [hp]
     exact he
    ·cases he
   case delete =>
    simp only at he ⊢
    split at he
    ·exact ET he (hs _ (by simp [Op.operands,Call.operands])) (hs _ (by simp [Op.operands,Call.operands])) hh
    ·cases he
   case append =>
    simp only at he ⊢
    split at he
    ·rename_i s x t t'
     split at he
     ·rename_i ht
      subst ht
      simp only [if_true]
      have hs1:=hs s (by simp [Op.operands,Call.operands])
      have hx1:=hs x (by simp [Op.operands,Call.operands])
      rw [hs1]
      split at he
      ·rename_i hv; rw [if_pos hv]; exact Ib he hs1 hx1 hh
      rename_i hv
      rw [if_neg hv]
      simp only [GL,hs s (by simp [Op.operands,Call.operands]),hs x (by simp [Op.operands,Call.operands])] at he ⊢
      split at he
      ·split at he
       ·split at he
        ·split at he
         ·rename_i hc0
          simp only [hc0,and_self,if_true]
          split at he
          ·rename_i hn
           simp only [hn,if_true]
           split at he
           ·rename_i hes; simp only [hes,if_true] at he ⊢; exact he
           ·rename_i hes
            simp only [hes,if_false]
            split at he
            ·rename_i d hd
             split at he
             ·rename_i hc
              simp only [Zd] at he
              subst he
              have:h' d=none:=by rw [hh d zq]; exact hc.1
              simp [this,hc.2]
             ·cases he
            ·cases he
          ·rename_i hn
           simp only [hn]
           split at he
           ·rename_i S es tk _
            split at he
            ·rename_i ty S' n htk
             have htk':h' tk=some (.arr ty S' n):=by
              rw [← htk]
              refine hh tk ?_
              split at he
              ·simp only [Zd] at he; subst he; simp
              ·split at he
               ·simp only [Zd] at he; subst he; simp
               ·cases he
             simp only [htk']
             exact he
            ·cases he
           ·cases he
         ·cases he
        ·cases he
       ·cases he
      ·cases he
     ·cases he
    ·cases he
   case max=>simp only at he ⊢; rw [hp]; exact he
   case min=>simp only at he ⊢; rw [hp]; exact he
   all_goals cases he
  all_goals cases he
 all_goals cases he
end
def Xm {α:Type} (F:Nat→Option α):Option (Nat × α)→Nat→Option α
 | none=>F
 | some (b,v)=>fun t=>if b=t then some v else F t
def vF {α:Type}:List (Option (Nat × α))→(Nat→Bool)→(Nat→Option α)→Nat→Option α
 | [],_,F=>F
 | c :: ws,L,F=>vF ws (fun j=>L (j+1)) (if L 0 then Xm F c else F)
theorem Xq {α:Type} {t:Nat}:∀ (ws:List (Option (Nat × α))) (L L':Nat→Bool) (F F':Nat→Option α),F t=F' t→(∀ (j:Nat) v,ws[j]?=some (some (t,v))→L j=L' j)→vF ws L F t=vF ws L' F' t
 | [],_,_,_,_,hF,_=>hF
 | c :: ws,L,L',F,F',hF,hh=>by
  simp only [vF]
  refine Xq ws _ _ _ _ ?_ (fun j v hj=>hh (j+1) v (by simpa using hj))
  cases c with
  | none=>simp only [Xm]; split <;> split <;> exact hF
  | some bv =>
   obtain ⟨b,v⟩:=bv
   by_cases e:b=t
   ·have:=hh 0 v (by simp [e])
    rw [this]
    split
    ·simp [Xm,e]
    ·exact hF
   ·split <;> split <;> simp [Xm,e,hF]
theorem wM {α:Type} {t:Nat} {v:α}:∀ (ws:List (Option (Nat × α))) (L:Nat→Bool) (F:Nat→Option α) (i:Nat),ws[i]?=some (some (t,v))→L i=true→(∀ (j:Nat) u,i < j→ws[j]?=some (some (t,u))→L j=false)→vF ws L F t=some v
 | [],_,_,i,hi,_,_=>by simp at hi
 | c :: ws,L,F,0,hi,hL,hh=>by
  simp only [List.getElem?_cons_zero,Zd] at hi
  subst hi
  simp only [vF,hL,if_true]
  rw [Xq ws (fun j=>L (j+1)) (fun _=>false) _ (fun _=>some v) (by simp [Xm]) (fun j u hj=>hh (j+1) u zo (by simpa using hj))]
  have:∀ (ws:List (Option (Nat × α))) (F:Nat→Option α),vF ws (fun _=>false) F=F:=by
   intro ws
   induction ws with
   | nil=>intro F; rfl
   | cons c ws ih=>intro F; simp only [vF,Bool.false_eq_true,if_false]; exact ih F
  rw [this]
 | c :: ws,L,F,i+1,hi,hL,hh=>by
  simp only [vF]
  exact wM ws (fun j=>L (j+1)) _ i (by simpa using hi) hL (fun j u hij hj=>hh (j+1) u zo (by simpa using hj))
theorem OO {α:Type} (ws:List (Option (Nat × α))) (L:Nat→Bool) (F:Nat→Option α) (i:Nat) (c:Option (Nat × α)) (hi:ws[i]?=some c)
  (hh:∀ b v,c=some (b,v)→∀ (j:Nat) u,i < j→ws[j]?=some (some (b,u))→L j=false) :
  vF ws (fun j=>L j||decide (j=i)) F=Xm (vF ws L F) c:=by
 funext t
 cases c with
 | none =>
  refine Xq ws _ _ _ _ rfl (fun j v hj=>?_)
  have:j ≠ i:=fun e=>by rw [e,hi] at hj; cases hj
  simp [this]
 | some bv =>
  obtain ⟨b,v⟩:=bv
  by_cases e:b=t
  ·subst e
   simp only [Xm,if_true]
   refine wM ws _ F i hi zq (fun j u hij hj=>?_)
   have:=hh b v rfl j u hij hj
   have h2:j ≠ i:=by omega
   simp [this,h2]
  ·simp only [Xm,e,if_false]
   refine Xq ws _ _ _ _ rfl (fun j u hj=>?_)
   have:j ≠ i:=fun e2=>by rw [e2,hi] at hj; cases hj; exact e rfl
   simp [this]
theorem OP {α:Type} (ws:List (Option (Nat × α))) (L L':Nat→Bool) (F:Nat→Option α) (hh:∀ j,j < ws.length→L j=L' j):vF ws L F=vF ws L' F:=by
 funext t
 exact Xq ws L L' F F rfl (fun j v hj=>hh j (List.getElem?_eq_some_iff.1 hj).1)
theorem JW {α:Type}:∀ (ws:List (Option (Nat × α))) (L:Nat→Bool) (F:Nat→Option α),(∀ j,j < ws.length→L j=false)→vF ws L F=F
 | [],_,_,_=>rfl
 | c :: ws,L,F,hh=>by
  simp only [vF,hh 0 zq,Bool.false_eq_true,if_false]
  exact JW ws _ F (fun j hj=>hh (j+1) (by simp; omega))
structure Ev where
 x:AV
 wr:Option (Nat × Blk)
 rd:List Nat
def wT (o:Oper) (e:Ev):Option (Nat × AV):=o.dst.map fun d=>(d,e.x)
def pvs (vs:List Value):List AV:=vs.map fun v=>.p (.val v)
def Qaw (τ:List AV→AV):Prop:=∀ (φ:Nat→Nat) (h:Qv) (w:World) (M:QR) (args:List AV) (vs:List Value) (v:Value),Qi φ h w M args vs→Qf φ h w M (τ (pvs vs)) v→Qf φ h w M (τ args) v
def fB:AV→Bool | .tsl _ _ _=>true | .p (.sl _ _)=>true | _=>false
def SlV (vs:List Value):Prop:=∀ v ∈ vs,∃ a l c,v=Value.slice a l c
theorem wN {φ:Nat→Nat} {h:Qv} {w:World} {M:QR}:∀ {xs:List AV} {vs:List Value},xs.all fB=true→Qi φ h w M xs vs→SlV vs
 | [],vs,_,hh=>by simp only [Qi] at hh; subst hh; intro v hv; cases hv
 | x :: xs,vs,ha,hh=>by
  simp only [Qi] at hh
  obtain ⟨y,ys,rfl,h1,h2⟩:=hh
  simp only [List.all_cons,Ki] at ha
  intro v hv
  rcases List.mem_cons.1 hv with rfl | hv
  ·have hp:∀ S es,Q5 w M (.sl S es) v→∃ a l c,v=Value.slice a l c:=by
    intro S es hp
    simp only [Q5] at hp
    rcases hp with ⟨r,o,cap,e,_⟩ | ⟨_,a,cap,e⟩
    ·exact ⟨_,_,_,e⟩
    ·exact ⟨_,_,_,e⟩
   cases x with
   | tsl S es t=>simp only [Qf] at h1; exact hp S es h1.1
   | p q =>
    cases q with
    | sl S es=>simp only [Qf] at h1; exact hp S es h1
    | _=>simp [fB] at ha
   | _=>simp [fB] at ha
  ·exact wN ha.2 h2 v hv
def Step1 (P:Program) (N:Nat) (ops:Array Oper) (o:Oper) (T:Nat→Option AV) (h:Qv) (e:Ev):Prop :=
  Ku N o.dst=true ∧
  ((ZF ops o T=some false∧e=⟨.p (.val undef),none,[]⟩) ∨
   (ZF ops o T=some true∧VA P o T h=some (e.x,e.wr,e.rd)) ∨
   (ZF ops o T=some true∧∃ f args args',Z4 T o.op=some (f,args)∧(P.funcs[f]?).any (fun fn=>fn.body.isSome&&fn.name != "runtime.NumGoroutine")=true∧Bq args args'∧YH args'=true ∧
     Q0 P f args' (.ret e.x)∧K9 e.x=true∧e.wr=none∧e.rd=[]) ∨
   (ZF ops o T=some true∧∃ (f:FuncId) (args:List AV) (τ:List AV→AV),Z4 T o.op=some (f,args)∧(P.funcs[f]?).any (fun fn=>fn.body.isSome&&fn.name != "runtime.NumGoroutine")=true ∧
     args.all fB=true∧(∀ vs:List Value,SlV vs→vs.length=args.length→Q0 P f (pvs vs) (.ret (τ (pvs vs))))∧(∀ vs,K9 (τ (pvs vs))=true)∧Qaw τ∧e.x=τ args∧e.wr=none∧e.rd=[]))
theorem xx {ops:Array Oper} {o:Oper} {T T':Nat→Option AV} (ht:∀ t ∈ o.looksAt ops,T' t=T t):∀ x ∈ o.op.operands,Zr T' x=Zr T x:=by
 intro x hx
 cases x with
 | tmp t=>exact ht t (List.mem_append_left _ (List.mem_filterMap.2 ⟨.tmp t,by simpa using hx,rfl⟩))
 | _=>rfl
theorem zx {ops:Array Oper} {o:Oper} {T T':Nat→Option AV} (ht:∀ t ∈ o.looksAt ops,T' t=T t):ZF ops o T'=ZF ops o T:=by
 unfold ZF
 cases hg:o.guard with
 | none=>rfl
 | some gw =>
  obtain ⟨g,want⟩:=gw
  simp only
  cases hj:ops[g]? with
  | none=>rfl
  | some oj =>
   simp only
   cases hd:oj.dst with
   | none=>rfl
   | some d =>
    simp only
    rw [ht d (by simp [Oper.looksAt,hg,hj,hd])]
theorem OQ {o:Oper} {T T':Nat→Option AV} (hs:∀ x ∈ o.op.operands,Zr T' x=Zr T x):Z4 T' o.op=Z4 T o.op:=by
 unfold Z4
 split
 ·rename_i f args ts ho
  rw [H7 (fun x hx=>hs x (by rw [ho]; simp [Op.operands,Call.operands] at hx ⊢; exact .inr hx))]
 ·rename_i t args ts ho
  have h1:T' t=T t:=hs (.tmp t) (by rw [ho]; simp [Op.operands,Call.operands])
  rw [h1,H7 (fun x hx=>hs x (by rw [ho]; simp [Op.operands,Call.operands] at hx ⊢; exact .inr hx))]
 ·rfl
theorem Step1.loc {P:Program} {N:Nat} {ops:Array Oper} {o:Oper} {T T':Nat→Option AV} {h h':Qv} {e:Ev} (s:Step1 P N ops o T h e) (ht:∀ t ∈ o.looksAt ops,T' t=T t) (hh:∀ b ∈ e.rd,h' b=h b) :
  Step1 P N ops o T' h' e:=by
 have hs:=xx ht
 refine ⟨s.1,?_⟩
 rw [zx ht,OQ hs]
 rcases s.2 with h1 | ⟨h1,h2⟩ | h1 | h1
 ·exact .inl h1
 ·exact .inr (.inl ⟨h1,xw h2 hs hh⟩)
 ·exact .inr (.inr (.inl h1))
 ·exact .inr (.inr (.inr h1))
theorem Zw.putT {φ:Nat→Nat} {M0:QR} {N:Nat} {D:DB} {T:Nat→Option AV} {h:Qv} {a:Act} {w:World} (r:Zw φ M0 N D T h a w) {d:Option Tmp} {x:AV} {v:Value}
  (hd:∀ t,d=some t→t < N) (hx:Qf φ h w (MM φ h M0) x v):Zw φ M0 N D (Xm T (d.map fun d=>(d,x))) h (a.put d v) w:=by
 cases d with
 | none=>exact r
 | some d =>
  have hlt:=hd d rfl
  refine ⟨r.dfs,by simp [Act.put,r.siz],r.hp,fun t y ht=>?_⟩
  simp only [Option.map_some,Xm] at ht
  by_cases e:d=t
  ·simp only [e,if_true,Zd] at ht
   subst ht
   refine ⟨e ▸ hlt,?_⟩
   have:(a.put (some d) v).tmps.getD t undef=v:=by subst e; simp [Act.put,r.siz,hlt]
   rw [this]; exact hx
  ·simp only [e,if_false] at ht
   refine ⟨(r.tm t y ht).1,?_⟩
   have:(a.put (some d) v).tmps.getD t undef=a.tmps.getD t undef:=by simp [Act.put,Array.getElem?_setIfInBounds_ne e]
   rw [this]; exact (r.tm t y ht).2
theorem bB (h:Qv) (c:Option (Nat × Blk)):ap h c=Xm h c:=by
 cases c with
 | none=>rfl
 | some bk=>rfl
theorem Step1.wp {P:Program} {N:Nat} {D:DB} {ops:Array Oper} {o:Oper} {T:Nat→Option AV} {h:Qv} {e:Ev} {i:Nat} {φ:Nat→Nat} {M0:QR} {a:Act} {w:World} {Q:Exit→Act→World→Prop} (hi:ops[i]?=some o)
  (s:Step1 P N ops o T h e) (r:Zw φ M0 N D T h a w) {K:Act→World→Prop}
  (hK:∀ φ' a' w',Zw φ' M0 N D (Xm T (wT o e)) (Xm h e.wr) a' w'→Zg φ h w φ' (Xm h e.wr) w'→K a' w'):wpOp P ops Q i K a w:=by
 unfold wpOp
 simp only [hi]
 obtain ⟨hd,hs⟩:=s
 rcases hs with ⟨h1,rfl⟩ | ⟨h1,h2⟩ | ⟨h1,f,args,args',h2,h3,h4,h5,h6,h7,h8,h9⟩ | ⟨h1,f,args,τ,h2,h3,h10,h6,h7,h5,h4,h8,h9⟩
 ·rw [H6 r h1]
  simp only [Bool.false_eq_true,if_false]
  exact hK φ _ w (r.putT (ZR hd) (by simp [Qf,Q5])) (Zg.refl _ _ _)
 ·rw [H6 r h1]
  simp only [if_true]
  refine .inl ?_
  obtain ⟨nx,v,w',φ',g1,g2,g3,g4,g5,g6⟩:=gY r h2
  simp only [bB] at g3 g4 g5 g6
  have r3:Zw φ' M0 N D T (Xm h e.wr) a w':=r.keep g5 g6 g4
  have r2:=r3.putT (d:=o.dst) (x:=e.x) (v:=v) (ZR hd) g3
  unfold Oper.wp
  rw [g1]
  rcases g2 with rfl | ⟨rfl,rfl⟩
  ·exact hK φ' _ w' r2 g5
  ·exact hK φ' _ w' r2 g5
 ·rw [H6 r h1]
  simp only [if_true]
  refine .inl ?_
  obtain ⟨vs,g1,g2⟩:=DY r h2 h3
  unfold Oper.wp
  rw [g2]
  simp only [Oper.upon]
  have hH:ZN φ GV w (MB φ h w M0):=Ux (fun x o hm=>zn hm) r.hp.gm.w r.hp.gm.mb
  have hM:∀ r o v,w.cell? ⟨r,o,none⟩=some v→¬ MM φ h M0 r o→w.cell? ⟨r,o,none⟩=some v∧¬ MM φ GV (MB φ h w M0) r o:=fun r o v h1 h2=>⟨h1,fun h3=>h3.elim VQ (fun h4=>h2 h4.1)⟩
  refine (h6 φ (MB φ h w M0) w vs hH ((Wn hM).2 _ _ h5 (Jt.2 _ _ _ h4 g1))).mono ?_
  rintro e1 w' ⟨φ',r',h',⟨rfl,rfl⟩,hH',E,v,rfl,hv⟩
  have hM':∀ ro o v,w'.cell? ⟨ro,o,none⟩=some v→¬ MM φ' GV (MB φ h w M0) ro o→w'.cell? ⟨ro,o,none⟩=some v∧¬ MM (K7 φ w.heap.size (w'.heap.size - w.heap.size)) h M0 ro o:=fun ro o v h1 h2=>⟨h1,Eb r.hp E.size h1 (fun h3=>h2 (.inr h3))⟩
  obtain ⟨r,E1,X1,hC⟩:=r.lift (w'.heap.size - w.heap.size)
  obtain ⟨E2,X2,H2⟩:=Hl E.os E.tape E.output E.size (fun x hx=>E.same x hx (fun b hb=>absurd rfl hb)) r.hp hC
  have r2:Zw _ M0 N D T h a w':=r.keep E2 X2 H2
  have r3:=r2.putT (d:=o.dst) (x:=e.x) (v:=v) (ZR hd) ((Wn hM').1 _ _ h7 hv)
  have e8:Xm h e.wr=h:=by rw [h8]; rfl
  exact hK _ _ w' (by rw [e8]; exact r3) (by rw [e8]; exact E1.trans E2)
 ·rw [H6 r h1]
  simp only [if_true]
  refine .inl ?_
  obtain ⟨vs,g1,g2⟩:=DY r h2 h3
  unfold Oper.wp
  rw [g2]
  simp only [Oper.upon]
  have hH:ZN φ GV w (MB φ h w M0):=Ux (fun x o hm=>zn hm) r.hp.gm.w r.hp.gm.mb
  refine (h6 vs (wN h10 g1) (ZH g1).symm φ (MB φ h w M0) w vs hH (Hw vs)).mono ?_
  rintro e1 w' ⟨φ',r',h',⟨rfl,rfl⟩,hH',E,v,rfl,hv⟩
  have hM':∀ ro o v,w'.cell? ⟨ro,o,none⟩=some v→¬ MM φ' GV (MB φ h w M0) ro o→w'.cell? ⟨ro,o,none⟩=some v∧¬ MM (K7 φ w.heap.size (w'.heap.size - w.heap.size)) h M0 ro o:=fun ro o v h1 h2=>⟨h1,Eb r.hp E.size h1 (fun h3=>h2 (.inr h3))⟩
  obtain ⟨r,E1,X1,hC⟩:=r.lift (w'.heap.size - w.heap.size)
  obtain ⟨E2,X2,H2⟩:=Hl E.os E.tape E.output E.size (fun x hx=>E.same x hx (fun b hb=>absurd rfl hb)) r.hp hC
  have r2:Zw _ M0 N D T h a w':=r.keep E2 X2 H2
  have hv':=(Wn (φ':=K7 φ w.heap.size (w'.heap.size - w.heap.size)) (h':=h) hM').1 _ _ (h7 vs) hv
  have r3:=r2.putT (d:=o.dst) (x:=e.x) (v:=v) (ZR hd) (by rw [h4]; exact h5 _ _ _ _ _ _ _ ((QX (E2.keeps M0) X2).2 _ _ ((QX (E1.keeps M0) X1).2 _ _ g1)) hv')
  have e8:Xm h e.wr=h:=by rw [h8]; rfl
  exact hK _ _ w' (by rw [e8]; exact r3) (by rw [e8]; exact E1.trans E2)
abbrev Yw:=Option Nat × List Nat
def Ye (a b:Yw):Bool :=
 (match a.1 with | some x=>!b.2.contains x&&b.1 != some x | none=>true)&&(match b.1 with | some y=>!a.2.contains y | none=>true)
def waits (oj:Oper) (i:Nat):Bool:=oj.after.toList.any fun e=>Region.binds .any e&&e.on == i
def EU (ops:Array Oper) (oj:Oper) (i:Nat):Bool:=waits oj i||oj.after.toList.any fun e=>Region.binds .any e&&(ops[e.on]?).any (waits · i)
theorem GX {ops:Array Oper} {oj:Oper} {i:Nat} (h:EU ops oj i=true) :
  (∃ ed,ed ∈ oj.after∧Region.binds .any ed=true∧ed.on=i)∨(∃ ed ok ed2,ed ∈ oj.after∧Region.binds .any ed=true∧ops[ed.on]?=some ok∧ed2 ∈ ok.after∧Region.binds .any ed2=true∧ed2.on=i):=by
 have key:∀ (o:Oper),waits o i=true→∃ ed,ed ∈ o.after∧Region.binds .any ed=true∧ed.on=i:=by
  intro o hw
  simp only [waits,List.any_eq_true,Ki,beq_iff_eq] at hw
  obtain ⟨ed,h1,h2,h3⟩:=hw
  exact ⟨ed,by simpa using h1,h2,h3⟩
 simp only [EU,Bool.or_eq_true] at h
 rcases h with h | h
 ·exact .inl (key oj h)
 ·simp only [List.any_eq_true,Ki] at h
  obtain ⟨ed,h1,h2,h3⟩:=h
  cases hok:ops[ed.on]? with
  | none=>rw [hok] at h3; cases h3
  | some ok =>
   rw [hok] at h3
   obtain ⟨ed2,g1,g2,g3⟩:=key ok (by simpa using h3)
   exact .inr ⟨ed,ok,ed2,by simpa using h1,h2,hok,g1,g2,g3⟩
def T9 (ops:Array Oper) (oi:Oper) (i:Nat) (fi:Yw):List Oper→List Yw→Bool
 | oj :: l,fj :: fs=>(EU ops oj i||(oi.apart ops oj&&Ye fi fj))&&T9 ops oi i fi l fs
 | _,_=>true
def wO (ops:Array Oper):Nat→List Oper→List Yw→Bool
 | i,oi :: l,fi :: fs=>T9 ops oi i fi l fs&&wO ops (i+1) l fs
 | _,_,_=>true
def Hm:Nat→List Oper→Bool
 | _,[]=>true
 | j,o :: l=>(o.after.toList.all fun e=>!Region.binds .any e||decide (e.on < j))&&Hm (j+1) l
def Kg (ops:Array Oper) (fs:List Yw):Bool:=wO ops 0 ops.toList fs&&Hm 0 ops.toList
theorem Ta {ops:Array Oper} {oi:Oper} {i:Nat} {fi:Yw}:∀ {l:List Oper} {fs:List Yw},T9 ops oi i fi l fs=true→∀ (j:Nat) oj fj,l[j]?=some oj→fs[j]?=some fj→EU ops oj i=true∨(oi.apart ops oj=true∧Ye fi fj=true)
 | [],fs,_,j,oj,fj,hj,_=>by simp at hj
 | o :: l,[],_,j,oj,fj,_,hf=>by simp at hf
 | o :: l,f :: fs,hp,j,oj,fj,hj,hf=>by
  simp only [T9,Ki,Bool.or_eq_true] at hp
  cases j with
  | zero=>simp at hj hf; subst hj hf; exact hp.1
  | succ j=>exact Ta hp.2 j oj fj (by simpa using hj) (by simpa using hf)
theorem H8 {ops:Array Oper}:∀ {l:List Oper} {fs:List Yw} {k:Nat},wO ops k l fs=true→∀ (i j:Nat) oi oj fi fj,i < j→l[i]?=some oi→l[j]?=some oj→fs[i]?=some fi→fs[j]?=some fj →
  EU ops oj (k+i)=true∨(oi.apart ops oj=true∧Ye fi fj=true)
 | [],fs,k,_,i,j,oi,oj,fi,fj,_,hi,_,_,_=>by simp at hi
 | o :: l,[],k,_,i,j,oi,oj,fi,fj,_,_,_,hf,_=>by simp at hf
 | o :: l,f :: fs,k,hp,i,j,oi,oj,fi,fj,hij,hi,hj,hfi,hfj=>by
  simp only [wO,Ki] at hp
  cases j with
  | zero=>omega
  | succ j =>
   cases i with
   | zero =>
    simp at hi hfi
    subst hi hfi
    exact Ta hp.1 j oj fj (by simpa using hj) (by simpa using hfj)
   | succ i =>
    have:=H8 hp.2 i j oi oj fi fj zo (by simpa using hi) (by simpa using hj) (by simpa using hfi) (by simpa using hfj)
    rwa [show k+1+i=k+(i+1) from by omega] at this
theorem VC:∀ {l:List Oper} {k:Nat},Hm k l=true→∀ (j:Nat) o,l[j]?=some o→∀ e ∈ o.after,Region.binds .any e=true→e.on < k+j
 | [],k,_,j,o,hj=>by simp at hj
 | o :: l,k,hp,j,o',hj=>by
  simp only [Hm,Ki] at hp
  cases j with
  | zero =>
   simp at hj
   subst hj
   intro e he hb
   have:=List.all_eq_true.1 hp.1 e (by simpa using he)
   simpa [hb] using this
  | succ j =>
   intro e he hb
   have:=VC hp.2 j o' (by simpa using hj) e he hb
   omega
def Ec (listed:Array Bool):Nat→Nat
 | 0=>0
 | n+1=>Ec listed n+(if listed.getD n true then 0 else 1)
theorem Br {listed:Array Bool} {i:Nat} (hi:listed.getD i true=false):∀ n,Ec (listed.setIfInBounds i true) n+(if i < n then 1 else 0)=Ec listed n
 | 0=>by simp [Ec]
 | n+1=>by
  have ih:=Br hi n
  simp only [Ec]
  have hlt:i < listed.size:=by
   rcases Nat.lt_or_ge i listed.size with h | h
   ·exact h
   ·simp [Array.getElem?_eq_none h] at hi
  by_cases e:i=n
  ·subst e
   have h1:(listed.setIfInBounds i true).getD i true=true:=by simp [hlt]
   rw [h1,hi]
   simp at ih ⊢
   omega
  ·rw [getD_set_ne true e]
   have:(i < n+1)↔(i < n):=by omega
   simp only [this]
   omega
theorem Tc {listed:Array Bool}:∀ {n:Nat},Ec listed n=0→∀ i,i < n→listed.getD i true=true
 | 0,_,i,hi=>by omega
 | n+1,hu,i,hi=>by
  simp only [Ec] at hu
  by_cases e:i=n
  ·subst e
   cases hq:listed.getD i true with
   | true=>rfl
   | false=>rw [hq] at hu; simp at hu
  ·exact Tc (n:=n) (Nat.eq_zero_of_add_eq_zero_right hu) i zo
theorem fC {P:Program} {N:Nat} {D:DB} {ops:Array Oper} {Q:Exit→Act→World→Prop} {M0:QR} {T0:Nat→Option AV} {h0:Qv} {φ0:Nat→Nat} {w0:World} (es:List Ev) (hlen:es.length=ops.size)
    (hstep:∀ (i:Nat) o e,ops[i]?=some o→es[i]?=some e→Step1 P N ops o (vF ((ops.toList.zip es).map fun p=>wT p.1 p.2) (fun j=>decide (j < i)) T0) (vF (es.map (·.wr)) (fun j=>decide (j < i)) h0) e)
    (hcom:Kg ops (es.map fun e=>(e.wr.map (·.1),e.rd))=true)
    (hQ:∀ φ a w,Zw φ M0 N D (vF ((ops.toList.zip es).map fun p=>wT p.1 p.2) (fun _=>true) T0) (vF (es.map (·.wr)) (fun _=>true) h0) a w→Zg φ0 h0 w0 φ (vF (es.map (·.wr)) (fun _=>true) h0) w→Q .normal a w) :
    ∀ (fuel:Nat) (listed:Array Bool) (a:Act) (w:World) (φ:Nat→Nat),listed.size=ops.size→Ec listed ops.size≤fuel →
      (∀ (j:Nat) o,ops[j]?=some o→listed.getD j false=true→∀ e ∈ o.after,Region.binds .any e=true→listed.getD e.on false=true) →
      Zw φ M0 N D (vF ((ops.toList.zip es).map fun p=>wT p.1 p.2) (fun j=>listed.getD j false) T0) (vF (es.map (·.wr)) (fun j=>listed.getD j false) h0) a w →
      Zg φ0 h0 w0 φ (vF (es.map (·.wr)) (fun j=>listed.getD j false) h0) w→wpAny P .any ops Q fuel listed a w:=by
  simp only [Kg,Ki] at hcom
  obtain ⟨hpairs,hdown⟩:=hcom
  have hgd:∀ (listed:Array Bool) (i:Nat),i < listed.size→listed.getD i true=listed.getD i false:=fun listed i hi=>by simp [hi]
  have hwl:((ops.toList.zip es).map fun p=>wT p.1 p.2).length=ops.size:=by simp [hlen]
  have hdone:∀ (listed:Array Bool) (a:Act) (w:World) (φ:Nat→Nat),listed.size=ops.size→(∀ i,i < ops.size→listed.getD i true=true) →
      Zw φ M0 N D (vF ((ops.toList.zip es).map fun p=>wT p.1 p.2) (fun j=>listed.getD j false) T0) (vF (es.map (·.wr)) (fun j=>listed.getD j false) h0) a w →
      Zg φ0 h0 w0 φ (vF (es.map (·.wr)) (fun j=>listed.getD j false) h0) w→Q .normal a w:=by
    intro listed a w φ hsz hall r E
    have e1:vF ((ops.toList.zip es).map fun p=>wT p.1 p.2) (fun j=>listed.getD j false) T0=vF ((ops.toList.zip es).map fun p=>wT p.1 p.2) (fun _=>true) T0 :=
      OP _ _ _ _ (fun j hj=>by rw [hwl] at hj; rw [← hgd listed j (by omega)]; exact hall j hj)
    have e2:vF (es.map (·.wr)) (fun j=>listed.getD j false) h0=vF (es.map (·.wr)) (fun _=>true) h0 :=
      OP _ _ _ _ (fun j hj=>by simp only [List.length_map,hlen] at hj; rw [← hgd listed j (by omega)]; exact hall j hj)
    rw [e1,e2] at r
    rw [e2] at E
    exact hQ φ a w r E
  have hready:∀ (listed:Array Bool),listed.size=ops.size→Region.ready .any ops listed=[]→∀ i,i < ops.size→listed.getD i true=true:=by
    intro listed hsz hr i
    induction i using Nat.strongRecOn with
    | _ i ih =>
      intro hi
      cases hq:listed.getD i true with
      | true=>rfl
      | false =>
        have:i ∈ Region.ready .any ops listed:=by
          rw [mem_ready]
          refine ⟨hq,ops[i],Array.getElem?_eq_getElem hi,fun e he hb=>?_⟩
          have h1:=VC hdown i ops[i] (by simp [hi]) e he hb
          have h2:e.on < i:=by omega
          rw [← hgd listed e.on (by omega)]
          exact ih e.on h2 (by omega)
        rw [hr] at this
        cases this
  intro fuel
  induction fuel with
  | zero =>
    intro listed a w φ hsz hu hcl r E
    have hall:=Tc (n:=ops.size) (listed:=listed) (by omega)
    refine ⟨?_,hdone listed a w φ hsz hall r E⟩
    apply List.eq_nil_iff_forall_not_mem.2
    intro i hi
    rw [mem_ready] at hi
    obtain ⟨h1,o,ho,_⟩:=hi
    rw [hall i (Array.getElem?_eq_some_iff.1 ho).1] at h1
    cases h1
  | succ fuel ih =>
    intro listed a w φ hsz hu hcl r E
    refine ⟨fun hr=>hdone listed a w φ hsz (hready listed hsz hr) r E,fun i hi=>?_⟩
    rw [mem_ready] at hi
    obtain ⟨hun,o,ho,hall⟩:=hi
    have hilt:i < ops.size:=(Array.getElem?_eq_some_iff.1 ho).1
    have hun':listed.getD i false=false:=by rw [← hgd listed i (by omega)]; exact hun
    obtain ⟨e,he⟩:∃ e,es[i]?=some e:=⟨es[i],List.getElem?_eq_getElem (by omega)⟩
    have hkey:∀ (j:Nat) oj ej,ops[j]?=some oj→es[j]?=some ej→j ≠ i→¬ (listed.getD j false=decide (j < i))→oj.apart ops o=true∧Ye (ej.wr.map (·.1),ej.rd) (e.wr.map (·.1),e.rd)=true∨(o.apart ops oj=true∧Ye (e.wr.map (·.1),e.rd) (ej.wr.map (·.1),ej.rd)=true):=by
      intro j oj ej hoj hej hne hdiff
      rcases Nat.lt_or_ge j i with hlt | hge
      · have:=H8 hpairs j i oj o (ej.wr.map (·.1),ej.rd) (e.wr.map (·.1),e.rd) hlt (by simpa using hoj) (by simpa using ho) (by simp [hej]) (by simp [he])
        rcases this with hw | hap
        · exfalso
          simp only [Nat.zero_add] at hw
          rcases GX hw with ⟨ed,hed,hb,hon⟩ | ⟨ed,ok,ed2,hed,hb,hok,hed2,hb2,hon⟩
          · have:=hall ed hed hb
            rw [hon] at this
            exact hdiff (by rw [this]; simp [hlt])
          · have:=hcl ed.on ok hok (hall ed hed hb) ed2 hed2 hb2
            rw [hon] at this
            exact hdiff (by rw [this]; simp [hlt])
        · exact .inl hap
      · have hij:i < j:=by omega
        have:=H8 hpairs i j o oj (e.wr.map (·.1),e.rd) (ej.wr.map (·.1),ej.rd) hij (by simpa using ho) (by simpa using hoj) (by simp [he]) (by simp [hej])
        rcases this with hw | hap
        · exfalso
          simp only [Nat.zero_add] at hw
          cases hq:listed.getD j false with
          | true =>
            rcases GX hw with ⟨ed,hed,hb,hon⟩ | ⟨ed,ok,ed2,hed,hb,hok,hed2,hb2,hon⟩
            · have:=hcl j oj hoj hq ed hed hb
              rw [hon,hun'] at this
              cases this
            · have:=hcl ed.on ok hok (hcl j oj hoj hq ed hed hb) ed2 hed2 hb2
              rw [hon,hun'] at this
              cases this
          | false =>
            have h3:¬ j < i:=by omega
            exact hdiff (by rw [hq]; simp [h3])
        · exact .inr hap
    have hgetT:∀ (j:Nat) t v,((ops.toList.zip es).map fun p=>wT p.1 p.2)[j]?=some (some (t,v))→∃ oj ej,ops[j]?=some oj∧es[j]?=some ej∧oj.dst=some t:=by
      intro j t v hj
      simp only [List.getElem?_map,Option.map_eq_some_iff] at hj
      obtain ⟨p,hp,hw⟩:=hj
      rw [List.getElem?_zip_eq_some] at hp
      refine ⟨p.1,p.2,by simpa using hp.1,hp.2,?_⟩
      unfold wT at hw
      cases hd:p.1.dst with
      | none=>rw [hd] at hw; cases hw
      | some d=>rw [hd] at hw; simp only [Option.map_some,Zd,Prod.mk.injEq] at hw; rw [hw.1]
    have hgetH:∀ (j:Nat) b k,(es.map (·.wr))[j]?=some (some (b,k))→∃ oj ej,ops[j]?=some oj∧es[j]?=some ej∧ej.wr=some (b,k):=by
      intro j b k hj
      simp only [List.getElem?_map,Option.map_eq_some_iff] at hj
      obtain ⟨p,hp,hw⟩:=hj
      have hjl:j < ops.size:=by rw [← hlen]; exact (List.getElem?_eq_some_iff.1 hp).1
      exact ⟨ops[j],p,Array.getElem?_eq_getElem hjl,hp,hw⟩
    have hstep':=(hstep i o e ho he).loc (T':=vF ((ops.toList.zip es).map fun p=>wT p.1 p.2) (fun j=>listed.getD j false) T0) (h':=vF (es.map (·.wr)) (fun j=>listed.getD j false) h0) (by
      intro t ht
      refine Xq _ _ _ _ _ rfl (fun j v hj=>?_)
      obtain ⟨oj,ej,hoj,hej,hdst⟩:=hgetT j t v hj
      apply Classical.byContradiction
      intro hdiff
      by_cases hne:j=i
      · subst hne; exact hdiff (by rw [hun']; simp)
      · rcases hkey j oj ej hoj hej hne hdiff with ⟨h1,_⟩ | ⟨h1,_⟩
        · exact (Oper.apart_spec h1).1 t hdst ht
        · exact (Oper.apart_spec h1).2.2 t hdst ht) (by
      intro b hb
      refine Xq _ _ _ _ _ rfl (fun j k hj=>?_)
      obtain ⟨oj,ej,hoj,hej,hwr⟩:=hgetH j b k hj
      apply Classical.byContradiction
      intro hdiff
      by_cases hne:j=i
      · subst hne; exact hdiff (by rw [hun']; simp)
      · rcases hkey j oj ej hoj hej hne hdiff with ⟨_,h1⟩ | ⟨_,h1⟩
        · simp only [Ye,hwr,Option.map_some,Ki,Bool.not_eq_true'] at h1
          have:=h1.1.1
          simp [hb] at this
        · simp only [Ye,hwr,Option.map_some,Ki,Bool.not_eq_true'] at h1
          have:=h1.2
          simp [hb] at this)
    refine hstep'.wp ho r ?_
    intro φ' a' w' r' E'
    have eL:∀ j,(listed.setIfInBounds i true).getD j false=(listed.getD j false||decide (j=i)):=by
      intro j
      by_cases hji:j=i
      · subst hji
        have:j < listed.size:=by omega
        simp [this]
      · rw [getD_set_ne false (Ne.symm hji)]
        simp [hji]
    have hT:vF ((ops.toList.zip es).map fun p=>wT p.1 p.2) (fun j=>(listed.setIfInBounds i true).getD j false) T0=Xm (vF ((ops.toList.zip es).map fun p=>wT p.1 p.2) (fun j=>listed.getD j false) T0) (wT o e):=by
      simp only [eL]
      refine OO _ _ _ i (wT o e) ?_ ?_
      · rw [List.getElem?_map,List.getElem?_zip_eq_some.2 (show ops.toList[i]?=some (o,e).1∧es[i]?=some (o,e).2 from ⟨by simpa using ho,he⟩)]
        rfl
      · intro b v hbv j u hij hj
        obtain ⟨oj,ej,hoj,hej,hdst⟩:=hgetT j b u hj
        have hodst:o.dst=some b:=by
          unfold wT at hbv
          cases hd:o.dst with
          | none=>rw [hd] at hbv; cases hbv
          | some d=>rw [hd] at hbv; simp only [Option.map_some,Zd,Prod.mk.injEq] at hbv; rw [hbv.1]
        cases hq:listed.getD j false with
        | false=>rfl
        | true =>
          exfalso
          rcases hkey j oj ej hoj hej (by omega) (by rw [hq]; have:¬ j < i:=by omega
                                                     simp [this]) with ⟨h1,_⟩ | ⟨h1,_⟩
          · exact (Oper.apart_spec h1).2.1 b hdst hodst
          · exact (Oper.apart_spec h1).2.1 b hodst hdst
    have hH:vF (es.map (·.wr)) (fun j=>(listed.setIfInBounds i true).getD j false) h0=Xm (vF (es.map (·.wr)) (fun j=>listed.getD j false) h0) e.wr:=by
      simp only [eL]
      refine OO _ _ _ i e.wr (by simp [he]) ?_
      intro b k hbk j u hij hj
      obtain ⟨oj,ej,hoj,hej,hwr⟩:=hgetH j b u hj
      cases hq:listed.getD j false with
      | false=>rfl
      | true =>
        exfalso
        rcases hkey j oj ej hoj hej (by omega) (by rw [hq]; have:¬ j < i:=by omega
                                                   simp [this]) with ⟨_,h1⟩ | ⟨_,h1⟩
        · simp only [Ye,hwr,hbk,Option.map_some,Ki,bne_iff_ne] at h1
          exact h1.1.2 rfl
        · simp only [Ye,hwr,hbk,Option.map_some,Ki,bne_iff_ne] at h1
          exact h1.1.2 rfl
    refine ih (listed.setIfInBounds i true) a' w' φ' (by simpa using hsz) ?_ ?_ (by rw [hT,hH]; exact r') (by rw [hH]; exact E.trans E')
    · have:=Br hun ops.size
      rw [if_pos hilt] at this
      omega
    · intro j oj hoj hj ed hed hb
      rw [eL] at hj ⊢
      simp only [Bool.or_eq_true,decide_eq_true_eq] at hj ⊢
      rcases hj with hj | rfl
      · exact .inl (hcl j oj hoj hj ed hed hb)
      · rw [ho] at hoj
        cases hoj
        exact .inl (hall ed hed hb)
def JX (ops:Array Oper) (m:Nat):Bool:=(List.range m).all fun j=>(List.range (m+1)).any fun k=>decide (j < k)&&(ops[k]?).any (waits · j)
def Ho (o:Oper):Bool:=match o.op with | .call ⟨.value (.tmp _),_,_⟩=>false | _=>true
def GY (ops:Array Oper) (m:Nat):Bool:=(List.range ops.size).all fun k=>decide (k≤m)||(ops[k]?).any (waits · (k - 1))
theorem yX {P:Program} {ops:Array Oper} {Q:Exit→Act→World→Prop} (m:Nat) (hdown:∀ i,(hi:i < ops.size)→∀ e ∈ (ops[i]).after,Region.binds .any e=true→e.on < i) (hseq:GY ops m=true) :
  ∀ (d k fuel:Nat) (listed:Array Bool) (a:Act) (w:World),k+d=ops.size→m≤k→d≤fuel→listed.size=ops.size→(∀ i,i < k→listed.getD i false=true)→(∀ i,k≤i→listed.getD i false=false) →
   wpOps P ops Q ((List.range d).map (k+·)) a w→wpAny P .any ops Q fuel listed a w:=by
 have hgd:∀ (listed:Array Bool) (i:Nat),i < listed.size→listed.getD i true=listed.getD i false:=fun listed i hi=>by simp [hi]
 intro d
 induction d with
 | zero =>
  intro k fuel listed a w hk hmk hf hsz h1 h2 h
  have hnil:Region.ready .any ops listed=[]:=by
   apply List.eq_nil_iff_forall_not_mem.2
   intro i hi
   rw [mem_ready] at hi
   obtain ⟨h3,o,ho,_⟩:=hi
   have hi':=(Rn.1 ho).1
   rw [hgd listed i zo,h1 i zo] at h3
   cases h3
  cases fuel with
  | zero=>exact ⟨hnil,h⟩
  | succ fuel=>exact ⟨fun _=>h,fun i hi=>by rw [hnil] at hi; cases hi⟩
 | succ d ih =>
  intro k fuel listed a w hk hmk hf hsz h1 h2 h
  obtain ⟨fuel,rfl⟩:∃ f,fuel=f+1:=⟨fuel - 1,by omega⟩
  have hklt:k < ops.size:=by omega
  have hr:(List.range (d+1)).map (k+·)=k :: (List.range d).map (k+1+·):=by
   simp only [List.range_succ_eq_map,List.map_cons,List.map_map,Nat.add_zero,List.cons.injEq,true_and]
   apply List.map_congr_left
   intro j _
   simp; omega
  rw [hr,wpOps_cons] at h
  refine ⟨fun hnil=>?_,fun i hi=>?_⟩
  ·exfalso
   have:k ∈ Region.ready .any ops listed:=by
    rw [mem_ready]
    refine ⟨by rw [hgd listed k zo]; exact h2 k (Nat.le_refl _),ops[k],Array.getElem?_eq_getElem hklt,fun e he hb=>?_⟩
    exact h1 e.on (hdown k hklt e he hb)
   rw [hnil] at this
   cases this
  ·rw [mem_ready] at hi
   obtain ⟨h3,o,ho,hall⟩:=hi
   have hilt:i < ops.size:=(Rn.1 ho).1
   rw [hgd listed i zo] at h3
   have hik:i=k:=by
    rcases Nat.lt_trichotomy i k with hlt | heq | hgt
    ·rw [h1 i hlt] at h3; cases h3
    ·exact heq
    ·exfalso
     have h4:=List.all_eq_true.1 hseq i (by simp; omega)
     simp only [Bool.or_eq_true,decide_eq_true_eq] at h4
     rcases h4 with h4 | h4
     ·omega
     ·rw [ho] at h4
      simp only [Option.any_some,waits,List.any_eq_true,Ki,beq_iff_eq] at h4
      obtain ⟨ed,hed,hb,hon⟩:=h4
      have:=hall ed (by simpa using hed) hb
      rw [hon,h2 (i - 1) zo] at this
      cases this
   subst hik
   refine wpOp_mono (fun a' w' hq=>ih (i+1) fuel _ a' w' zo zo zo (by simpa using hsz) ?_ ?_ hq) h
   ·intro j hj
    by_cases e:i=j
    ·subst e
     have:i < listed.size:=by omega
     simp [this]
    ·rw [getD_set_ne false e]
     exact h1 j zo
   ·intro j hj
    rw [getD_set_ne false zo]
    exact h2 j zo
theorem IU {P:Program} {N:Nat} {D:DB} {ops:Array Oper} {Q:Exit→Act→World→Prop} {M0:QR} {T0:Nat→Option AV} {h0:Qv} {φ0:Nat→Nat} {w0:World} (es:List Ev) (m:Nat) (hm:m < ops.size) (hlen:es.length=m)
    (hstep:∀ (i:Nat) o e,ops[i]?=some o→es[i]?=some e→Step1 P N ops o (vF ((ops.toList.zip es).map fun p=>wT p.1 p.2) (fun j=>decide (j < i)) T0) (vF (es.map (·.wr)) (fun j=>decide (j < i)) h0) e)
    (hcom:Kg ops (es.map fun e=>(e.wr.map (·.1),e.rd))=true)
    (hta:JX ops m=true) (hseq:GY ops m=true)
    (hQ:∀ φ a w,Zw φ M0 N D (vF ((ops.toList.zip es).map fun p=>wT p.1 p.2) (fun _=>true) T0) (vF (es.map (·.wr)) (fun _=>true) h0) a w→Zg φ0 h0 w0 φ (vF (es.map (·.wr)) (fun _=>true) h0) w→wpOps P ops Q ((List.range (ops.size - m)).map (m+·)) a w) :
    ∀ (fuel:Nat) (listed:Array Bool) (a:Act) (w:World) (φ:Nat→Nat),listed.size=ops.size→Ec listed ops.size≤fuel→(∀ j,m≤j→listed.getD j false=false) →
      (∀ (j:Nat) o,ops[j]?=some o→listed.getD j false=true→∀ e ∈ o.after,Region.binds .any e=true→listed.getD e.on false=true) →
      Zw φ M0 N D (vF ((ops.toList.zip es).map fun p=>wT p.1 p.2) (fun j=>listed.getD j false) T0) (vF (es.map (·.wr)) (fun j=>listed.getD j false) h0) a w →
      Zg φ0 h0 w0 φ (vF (es.map (·.wr)) (fun j=>listed.getD j false) h0) w→wpAny P .any ops Q fuel listed a w:=by
  simp only [Kg,Ki] at hcom
  obtain ⟨hpairs,hdown⟩:=hcom
  have hgd:∀ (listed:Array Bool) (i:Nat),i < listed.size→listed.getD i true=listed.getD i false:=fun listed i hi=>by simp [hi]
  have hwl:((ops.toList.zip es).map fun p=>wT p.1 p.2).length=m:=by simp [hlen]; omega
  have hdone:∀ (listed:Array Bool) (a:Act) (w:World) (φ:Nat→Nat),listed.size=ops.size→(∀ i,i < m→listed.getD i false=true) →
      Zw φ M0 N D (vF ((ops.toList.zip es).map fun p=>wT p.1 p.2) (fun j=>listed.getD j false) T0) (vF (es.map (·.wr)) (fun j=>listed.getD j false) h0) a w →
      Zg φ0 h0 w0 φ (vF (es.map (·.wr)) (fun j=>listed.getD j false) h0) w→wpOps P ops Q ((List.range (ops.size - m)).map (m+·)) a w:=by
    intro listed a w φ hsz hall r E
    have e1:vF ((ops.toList.zip es).map fun p=>wT p.1 p.2) (fun j=>listed.getD j false) T0=vF ((ops.toList.zip es).map fun p=>wT p.1 p.2) (fun _=>true) T0 :=
      OP _ _ _ _ (fun j hj=>by rw [hwl] at hj; exact hall j hj)
    have e2:vF (es.map (·.wr)) (fun j=>listed.getD j false) h0=vF (es.map (·.wr)) (fun _=>true) h0 :=
      OP _ _ _ _ (fun j hj=>by simp only [List.length_map,hlen] at hj; exact hall j hj)
    rw [e1,e2] at r
    rw [e2] at E
    exact hQ φ a w r E
  have hready:∀ (listed:Array Bool),listed.size=ops.size→Region.ready .any ops listed=[]→∀ i,i < ops.size→listed.getD i true=true:=by
    intro listed hsz hr i
    induction i using Nat.strongRecOn with
    | _ i ih =>
      intro hi
      cases hq:listed.getD i true with
      | true=>rfl
      | false =>
        have:i ∈ Region.ready .any ops listed:=by
          rw [mem_ready]
          refine ⟨hq,ops[i],Array.getElem?_eq_getElem hi,fun e he hb=>?_⟩
          have h1:=VC hdown i ops[i] (by simp [hi]) e he hb
          have h2:e.on < i:=by omega
          rw [← hgd listed e.on (by omega)]
          exact ih e.on h2 (by omega)
        rw [hr] at this
        cases this
  intro fuel
  induction fuel with
  | zero =>
    intro listed a w φ hsz hu hτ hcl r E
    have hall:=Tc (n:=ops.size) (listed:=listed) (by omega)
    have:=hall m (by omega)
    rw [hgd listed m (by omega),hτ m (Nat.le_refl _)] at this
    cases this
  | succ fuel ih =>
    intro listed a w φ hsz hu hτ hcl r E
    have hunm:∀ n,n≤ops.size→(∀ i,m≤i→i < n→listed.getD i true=false)→n - m≤Ec listed n:=by
      intro n
      induction n with
      | zero=>intro _ _; simp
      | succ n ihn =>
        intro hn hh
        simp only [Ec]
        have:=ihn (by omega) (fun i h1 h2=>hh i h1 (by omega))
        by_cases hmn:m≤n
        · rw [hh n hmn (by omega)]
          simp
          omega
        · split <;> omega
    by_cases hdo:∀ i,i < m→listed.getD i false=true
    · have hf:=hunm ops.size (Nat.le_refl _) (fun i h1 h2=>by rw [hgd listed i (by omega)]; exact hτ i h1)
      exact yX m (fun i hi e he hb=>by have:=VC hdown i ops[i] (by simp [hi]) e he hb; omega) hseq (ops.size - m) m (fuel+1) listed a w (by omega) (Nat.le_refl _) (by omega) hsz hdo hτ (hdone listed a w φ hsz hdo r E)
    refine ⟨fun hr=>?_,fun i hi=>?_⟩
    · have:=hready listed hsz hr m (by omega)
      rw [hgd listed m (by omega),hτ m (Nat.le_refl _)] at this
      cases this
    rw [mem_ready] at hi
    obtain ⟨hun,o,ho,hall⟩:=hi
    have hilt:i < ops.size:=(Array.getElem?_eq_some_iff.1 ho).1
    have hun':listed.getD i false=false:=by rw [← hgd listed i (by omega)]; exact hun
    by_cases him:m≤i
    · exfalso
      have hem:i=m:=by
        apply Classical.byContradiction
        intro hne
        have h4:=List.all_eq_true.1 hseq i (by simp; omega)
        simp only [Bool.or_eq_true,decide_eq_true_eq] at h4
        rcases h4 with h4 | h4
        · omega
        · rw [ho] at h4
          simp only [Option.any_some,waits,List.any_eq_true,Ki,beq_iff_eq] at h4
          obtain ⟨ed,hed,hb,hon⟩:=h4
          have:=hall ed (by simpa using hed) hb
          rw [hon,hτ (i - 1) (by omega)] at this
          cases this
      subst hem
      have hallm:∀ d j,j+d+1=i→listed.getD j false=true:=by
        intro d
        induction d using Nat.strongRecOn with
        | _ d ihd =>
          intro j hj
          have h1:=List.all_eq_true.1 hta j (by simp; omega)
          simp only [List.any_eq_true,List.mem_range,Ki,decide_eq_true_eq] at h1
          obtain ⟨k,hk,hjk,hw⟩:=h1
          cases hok:ops[k]? with
          | none=>rw [hok] at hw; cases hw
          | some ok =>
            rw [hok] at hw
            simp only [Option.any_some,waits,List.any_eq_true,Ki,beq_iff_eq] at hw
            obtain ⟨ed,hed,hb,hon⟩:=hw
            by_cases hki:k=i
            · subst hki
              rw [ho] at hok
              cases hok
              have:=hall ed (by simpa using hed) hb
              rwa [hon] at this
            · have:=hcl k ok hok (ihd (i - k - 1) (by omega) k (by omega)) ed (by simpa using hed) hb
              rwa [hon] at this
      exact hdo (fun j hj=>hallm (i - j - 1) j (by omega))
    obtain ⟨e,he⟩:∃ e,es[i]?=some e:=⟨es[i],List.getElem?_eq_getElem (by omega)⟩
    have hkey:∀ (j:Nat) oj ej,ops[j]?=some oj→es[j]?=some ej→j ≠ i→¬ (listed.getD j false=decide (j < i))→oj.apart ops o=true∧Ye (ej.wr.map (·.1),ej.rd) (e.wr.map (·.1),e.rd)=true∨(o.apart ops oj=true∧Ye (e.wr.map (·.1),e.rd) (ej.wr.map (·.1),ej.rd)=true):=by
      intro j oj ej hoj hej hne hdiff
      rcases Nat.lt_or_ge j i with hlt | hge
      · have:=H8 hpairs j i oj o (ej.wr.map (·.1),ej.rd) (e.wr.map (·.1),e.rd) hlt (by simpa using hoj) (by simpa using ho) (by simp [hej]) (by simp [he])
        rcases this with hw | hap
        · exfalso
          simp only [Nat.zero_add] at hw
          rcases GX hw with ⟨ed,hed,hb,hon⟩ | ⟨ed,ok,ed2,hed,hb,hok,hed2,hb2,hon⟩
          · have:=hall ed hed hb
            rw [hon] at this
            exact hdiff (by rw [this]; simp [hlt])
          · have:=hcl ed.on ok hok (hall ed hed hb) ed2 hed2 hb2
            rw [hon] at this
            exact hdiff (by rw [this]; simp [hlt])
        · exact .inl hap
      · have hij:i < j:=by omega
        have:=H8 hpairs i j o oj (e.wr.map (·.1),e.rd) (ej.wr.map (·.1),ej.rd) hij (by simpa using ho) (by simpa using hoj) (by simp [he]) (by simp [hej])
        rcases this with hw | hap
        · exfalso
          simp only [Nat.zero_add] at hw
          cases hq:listed.getD j false with
          | true =>
            rcases GX hw with ⟨ed,hed,hb,hon⟩ | ⟨ed,ok,ed2,hed,hb,hok,hed2,hb2,hon⟩
            · have:=hcl j oj hoj hq ed hed hb
              rw [hon,hun'] at this
              cases this
            · have:=hcl ed.on ok hok (hcl j oj hoj hq ed hed hb) ed2 hed2 hb2
              rw [hon,hun'] at this
              cases this
          | false =>
            have h3:¬ j < i:=by omega
            exact hdiff (by rw [hq]; simp [h3])
        · exact .inr hap
    have hgetT:∀ (j:Nat) t v,((ops.toList.zip es).map fun p=>wT p.1 p.2)[j]?=some (some (t,v))→∃ oj ej,ops[j]?=some oj∧es[j]?=some ej∧oj.dst=some t:=by
      intro j t v hj
      simp only [List.getElem?_map,Option.map_eq_some_iff] at hj
      obtain ⟨p,hp,hw⟩:=hj
      rw [List.getElem?_zip_eq_some] at hp
      refine ⟨p.1,p.2,by simpa using hp.1,hp.2,?_⟩
      unfold wT at hw
      cases hd:p.1.dst with
      | none=>rw [hd] at hw; cases hw
      | some d=>rw [hd] at hw; simp only [Option.map_some,Zd,Prod.mk.injEq] at hw; rw [hw.1]
    have hgetH:∀ (j:Nat) b k,(es.map (·.wr))[j]?=some (some (b,k))→∃ oj ej,ops[j]?=some oj∧es[j]?=some ej∧ej.wr=some (b,k):=by
      intro j b k hj
      simp only [List.getElem?_map,Option.map_eq_some_iff] at hj
      obtain ⟨p,hp,hw⟩:=hj
      have hjl:j < ops.size:=by have:=(List.getElem?_eq_some_iff.1 hp).1; omega
      exact ⟨ops[j],p,Array.getElem?_eq_getElem hjl,hp,hw⟩
    have hstep':=(hstep i o e ho he).loc (T':=vF ((ops.toList.zip es).map fun p=>wT p.1 p.2) (fun j=>listed.getD j false) T0) (h':=vF (es.map (·.wr)) (fun j=>listed.getD j false) h0) (by
      intro t ht
      refine Xq _ _ _ _ _ rfl (fun j v hj=>?_)
      obtain ⟨oj,ej,hoj,hej,hdst⟩:=hgetT j t v hj
      apply Classical.byContradiction
      intro hdiff
      by_cases hne:j=i
      · subst hne; exact hdiff (by rw [hun']; simp)
      · rcases hkey j oj ej hoj hej hne hdiff with ⟨h1,_⟩ | ⟨h1,_⟩
        · exact (Oper.apart_spec h1).1 t hdst ht
        · exact (Oper.apart_spec h1).2.2 t hdst ht) (by
      intro b hb
      refine Xq _ _ _ _ _ rfl (fun j k hj=>?_)
      obtain ⟨oj,ej,hoj,hej,hwr⟩:=hgetH j b k hj
      apply Classical.byContradiction
      intro hdiff
      by_cases hne:j=i
      · subst hne; exact hdiff (by rw [hun']; simp)
      · rcases hkey j oj ej hoj hej hne hdiff with ⟨_,h1⟩ | ⟨_,h1⟩
        · simp only [Ye,hwr,Option.map_some,Ki,Bool.not_eq_true'] at h1
          have:=h1.1.1
          simp [hb] at this
        · simp only [Ye,hwr,Option.map_some,Ki,Bool.not_eq_true'] at h1
          have:=h1.2
          simp [hb] at this)
    refine hstep'.wp ho r ?_
    intro φ' a' w' r' E'
    have eL:∀ j,(listed.setIfInBounds i true).getD j false=(listed.getD j false||decide (j=i)):=by
      intro j
      by_cases hji:j=i
      · subst hji
        have:j < listed.size:=by omega
        simp [this]
      · rw [getD_set_ne false (Ne.symm hji)]
        simp [hji]
    have hT:vF ((ops.toList.zip es).map fun p=>wT p.1 p.2) (fun j=>(listed.setIfInBounds i true).getD j false) T0=Xm (vF ((ops.toList.zip es).map fun p=>wT p.1 p.2) (fun j=>listed.getD j false) T0) (wT o e):=by
      simp only [eL]
      refine OO _ _ _ i (wT o e) ?_ ?_
      · rw [List.getElem?_map,List.getElem?_zip_eq_some.2 (show ops.toList[i]?=some (o,e).1∧es[i]?=some (o,e).2 from ⟨by simpa using ho,he⟩)]
        rfl
      · intro b v hbv j u hij hj
        obtain ⟨oj,ej,hoj,hej,hdst⟩:=hgetT j b u hj
        have hodst:o.dst=some b:=by
          unfold wT at hbv
          cases hd:o.dst with
          | none=>rw [hd] at hbv; cases hbv
          | some d=>rw [hd] at hbv; simp only [Option.map_some,Zd,Prod.mk.injEq] at hbv; rw [hbv.1]
        cases hq:listed.getD j false with
        | false=>rfl
        | true =>
          exfalso
          rcases hkey j oj ej hoj hej (by omega) (by rw [hq]; have:¬ j < i:=by omega
                                                     simp [this]) with ⟨h1,_⟩ | ⟨h1,_⟩
          · exact (Oper.apart_spec h1).2.1 b hdst hodst
          · exact (Oper.apart_spec h1).2.1 b hodst hdst
    have hH:vF (es.map (·.wr)) (fun j=>(listed.setIfInBounds i true).getD j false) h0=Xm (vF (es.map (·.wr)) (fun j=>listed.getD j false) h0) e.wr:=by
      simp only [eL]
      refine OO _ _ _ i e.wr (by simp [he]) ?_
      intro b k hbk j u hij hj
      obtain ⟨oj,ej,hoj,hej,hwr⟩:=hgetH j b u hj
      cases hq:listed.getD j false with
      | false=>rfl
      | true =>
        exfalso
        rcases hkey j oj ej hoj hej (by omega) (by rw [hq]; have:¬ j < i:=by omega
                                                   simp [this]) with ⟨_,h1⟩ | ⟨_,h1⟩
        · simp only [Ye,hwr,hbk,Option.map_some,Ki,bne_iff_ne] at h1
          exact h1.1.2 rfl
        · simp only [Ye,hwr,hbk,Option.map_some,Ki,bne_iff_ne] at h1
          exact h1.1.2 rfl
    refine ih (listed.setIfInBounds i true) a' w' φ' (by simpa using hsz) ?_ (fun j hj=>by rw [getD_set_ne false (by omega)]; exact hτ j hj) ?_ (by rw [hT,hH]; exact r') (by rw [hH]; exact E.trans E')
    · have:=Br hun ops.size
      rw [if_pos hilt] at this
      omega
    · intro j oj hoj hj ed hed hb
      rw [eL] at hj ⊢
      simp only [Bool.or_eq_true,decide_eq_true_eq] at hj ⊢
      rcases hj with hj | rfl
      · exact .inl (hcl j oj hoj hj ed hed hb)
      · rw [ho] at hoj
        cases hoj
        exact .inl (hall ed hed hb)
def zy (N:Nat) (o:Oper) (s:St) (K:St→Prop):Option Kn→Prop
 | some u=>Ku N o.dst=true∧K (s.put o.dst u.1)
 | none=>False
def Qax (N:Nat) (o:Oper) (s:St) (acc:List Yw) (K:List Yw→St→Prop):Option Kn→Prop
 | some u=>Ku N o.dst=true∧K ((u.2.1.map (·.1),u.2.2) :: acc) (Ju s o.dst u)
 | none=>False
def zz (ops:Array Oper) (s:St):List Oper→Bool
 | []=>true
 | o :: rest=>(Ho o||(yieldOf (look (Zv ops o s.T true)) o.op).isNone)&&rest.all Ho
theorem zA {ops:Array Oper} {s:St} {l:List Oper} (h:l.all Ho=true):zz ops s l=true:=by
 cases l with
 | nil=>rfl
 | cons o l =>
  simp only [List.all_cons,Ki] at h
  simp [zz,h.1,h.2]
def yY (P:Program) (N:Nat) (ops:Array Oper) (Q:AX→St→Prop) (o:Oper) (op:Op) (rest:List Oper) (acc:List Yw) (s0 s:St) (K:St→Prop):Prop :=
 (∃ f args args' x,Z4 (look s.T) op=some (f,args)∧YZ P f=true∧Ku N o.dst=true∧Bq args args'∧YH args'=true∧K9 x=true∧Q0 P f args' (.ret x)∧K (s.put o.dst x)) ∨
 (rest=[]∧JX ops acc.length=true∧Kg ops acc.reverse=true∧XN P N o s (Q .normal) Q) ∨
 (JX ops acc.length=true∧Kg ops acc.reverse=true∧GY ops acc.length=true∧zz ops s0 (o :: rest)=true∧Yi P N ops Q (o :: rest) s0) ∨
 (∃ (f:FuncId) (args:List AV) (τ:List AV→AV),Z4 (look s.T) op=some (f,args)∧YZ P f=true∧Ku N o.dst=true∧args.all fB=true∧(∀ vs:List Value,SlV vs→vs.length=args.length→Q0 P f (pvs vs) (.ret (τ (pvs vs))))∧(∀ vs,K9 (τ (pvs vs))=true)∧Qaw τ∧K (s.put o.dst (τ args)))
def sO (P:Program) (N:Nat) (ops:Array Oper) (Q:AX→St→Prop) (o:Oper) (rest:List Oper) (acc:List Yw) (s0:St):Prop :=
 JX ops acc.length=true∧Kg ops acc.reverse=true∧GY ops acc.length=true∧zz ops s0 (o :: rest)=true∧Yi P N ops Q (o :: rest) s0
def KA (P:Program) (N:Nat) (ops:Array Oper) (Q:AX→St→Prop):List Oper→List Yw→St→Prop
  | [],acc,s=>Kg ops acc.reverse=true∧Q .normal s
  | o :: rest,acc,s =>
    match ZF ops o (look s.T) with
    | some b=>Fh b
        (match o.op with
         | .pick c x y=>match Zr (look (Zv ops o s.T true)) c with
           | some (.p (.val (.bool t)))=>Fh t (zy N o ⟨Zv ops o s.T true,s.H⟩ (KA P N ops Q rest ((none,[]) :: acc)) (Vz (look (Zv ops o s.T true)) x)) (zy N o ⟨Zv ops o s.T true,s.H⟩ (KA P N ops Q rest ((none,[]) :: acc)) (Vz (look (Zv ops o s.T true)) y))
           | _=>False
         | .call ⟨.value f,args,ts⟩=>yY P N ops Q o (.call ⟨.value f,args,ts⟩) rest acc s ⟨Zv ops o s.T true,s.H⟩ (KA P N ops Q rest ((none,[]) :: acc))
         | .panic x=>rest=[]∧JX ops acc.length=true∧Kg ops acc.reverse=true∧XN P N o ⟨Zv ops o s.T true,s.H⟩ (Q .normal) Q
         | _=>Qax N o ⟨Zv ops o s.T true,s.H⟩ acc (KA P N ops Q rest) (VA P o (look (Zv ops o s.T true)) (look s.H))∨sO P N ops Q o rest acc s)
        (Ku N o.dst=true∧KA P N ops Q rest ((none,[]) :: acc) (St.put ⟨Zv ops o s.T false,s.H⟩ o.dst (.p (.val undef))))
    | none=>False
def Ie (e:Ev):Yw:=(e.wr.map (·.1),e.rd)
theorem bC {α:Type} (c:Option (Nat × α)) (ws:List (Option (Nat × α))) (i:Nat) (F:Nat→Option α):vF (c :: ws) (fun j=>decide (j < i+1)) F=vF ws (fun j=>decide (j < i)) (Xm F c):=by
 simp only [vF,Nat.zero_lt_succ,decide_true,if_true]
 congr 1
 funext j
 simp
def Bt (P:Program) (N:Nat) (ops:Array Oper) (l:List Oper) (es:List Ev) (T0:Nat→Option AV) (h0:Qv):Prop :=
 ∀ (i:Nat) o e,l[i]?=some o→es[i]?=some e→Step1 P N ops o (vF ((l.zip es).map fun p=>wT p.1 p.2) (fun j=>decide (j < i)) T0) (vF (es.map (·.wr)) (fun j=>decide (j < i)) h0) e
theorem LP {P:Program} {N:Nat} {ops:Array Oper} {o:Oper} {l:List Oper} {e:Ev} {es:List Ev} {T0:Nat→Option AV} {h0:Qv} (h1:Step1 P N ops o T0 h0 e)
  (h2:Bt P N ops l es (Xm T0 (wT o e)) (Xm h0 e.wr)):Bt P N ops (o :: l) (e :: es) T0 h0:=by
 intro i o' e' ho he
 cases i with
 | zero =>
  simp at ho he
  subst ho he
  rw [JW _ _ _ zq,JW _ _ _ zq]
  exact h1
 | succ i =>
  simp only [List.zip_cons_cons,List.map_cons,bC]
  exact h2 i o' e' (by simpa using ho) (by simpa using he)
theorem xy (s:St) (o:Oper) (u:Kn):look (Ju s o.dst u).T=Xm (look s.T) (wT o ⟨u.1,u.2.1,u.2.2⟩)∧look (Ju s o.dst u).H=Xm (look s.H) u.2.1:=by
 constructor
 ·unfold Ju wT
  cases o.dst <;> rfl
 ·unfold Ju
  cases hq:u.2.1 with
  | none=>rfl
  | some bk=>rfl
theorem Bv (s:St) (o:Oper) (e:Ev) (hw:e.wr=none):look (s.put o.dst e.x).T=Xm (look s.T) (wT o e)∧look (s.put o.dst e.x).H=Xm (look s.H) e.wr:=by
 rw [hw]
 unfold wT St.put
 cases o.dst <;> exact ⟨rfl,rfl⟩
def Po (P:Program) (N:Nat) (ops:Array Oper) (Q:AX→St→Prop) (l:List Oper) (acc:List Yw) (s:St):Prop :=
  (∃ (es:List Ev) (s':St),es.length=l.length∧Bt P N ops l es (look s.T) (look s.H)∧Kg ops (acc.reverse++es.map Ie)=true ∧
   look s'.T=vF ((l.zip es).map fun p=>wT p.1 p.2) (fun _=>true) (look s.T)∧look s'.H=vF (es.map (·.wr)) (fun _=>true) (look s.H)∧Q .normal s') ∨
  (∃ (pre:List Oper) (o:Oper) (es:List Ev) (s':St),l=pre++[o]∧es.length=pre.length∧Bt P N ops l es (look s.T) (look s.H)∧Kg ops (acc.reverse++es.map Ie)=true∧JX ops (acc.length+pre.length)=true ∧
   look s'.T=vF ((l.zip es).map fun p=>wT p.1 p.2) (fun _=>true) (look s.T)∧look s'.H=vF (es.map (·.wr)) (fun _=>true) (look s.H)∧ZF ops o (look s'.T)=some true∧XN P N o s' (Q .normal) Q) ∨
  (∃ (pre:List Oper) (o:Oper) (rest:List Oper) (es:List Ev) (s':St),l=pre++o :: rest∧es.length=pre.length∧Bt P N ops l es (look s.T) (look s.H)∧Kg ops (acc.reverse++es.map Ie)=true∧JX ops (acc.length+pre.length)=true∧GY ops (acc.length+pre.length)=true∧zz ops s' (o :: rest)=true ∧
   look s'.T=vF ((l.zip es).map fun p=>wT p.1 p.2) (fun _=>true) (look s.T)∧look s'.H=vF (es.map (·.wr)) (fun _=>true) (look s.H)∧Yi P N ops Q (o :: rest) s')
theorem Pq {P:Program} {N:Nat} {ops:Array Oper} {Q:AX→St→Prop} {l:List Oper} {acc:List Yw} {s s1:St} (hT:look s1.T=look s.T) (hH:look s1.H=look s.H) (h:Po P N ops Q l acc s1):Po P N ops Q l acc s:=by
 unfold Po at h ⊢
 rw [hT,hH] at h
 exact h
theorem EW {P:Program} {N:Nat} {ops:Array Oper} {Q:AX→St→Prop}:∀ (l:List Oper) (acc:List Yw) (s:St),KA P N ops Q l acc s→Po P N ops Q l acc s
  | [],acc,s,h=>.inl ⟨[],s,rfl,fun i o e ho=>by simp at ho,by simpa using h.1,rfl,rfl,h.2⟩
  | o :: l,acc,s,h=>by
    have step:∀ (s:St) (e:Ev) (s1:St),Step1 P N ops o (look s.T) (look s.H) e→look s1.T=Xm (look s.T) (wT o e)→look s1.H=Xm (look s.H) e.wr→KA P N ops Q l (Ie e :: acc) s1→Po P N ops Q (o :: l) acc s:=by
      intro s e s1 hs hT hH hd
      rcases EW l (Ie e :: acc) s1 hd with ⟨es,s',h1,h2,h3,h4,h5,h6⟩ | ⟨pre,o',es,s',h0,h1,h2,h3,h4,h5,h6,h7,h8⟩ | ⟨pre,o',rest,es,s',h0,h1,h2,h3,h4,h4',h4'',h5,h6,h8⟩
      · refine .inl ⟨e :: es,s',by simp [h1],LP hs (by rw [← hT,← hH]; exact h2),by simpa using h3,?_,?_,h6⟩
        · rw [h4,hT]; rfl
        · rw [h5,hH]; rfl
      · refine .inr (.inl ⟨o :: pre,o',e :: es,s',by simp [h0],by simp [h1],LP hs (by rw [← hT,← hH]; exact h2),by simpa using h3,?_,?_,?_,h7,h8⟩)
        · have:(Ie e :: acc).length+pre.length=acc.length+(o :: pre).length:=by simp; omega
          rw [← this]; exact h4
        · rw [h5,hT]; rfl
        · rw [h6,hH]; rfl
      · have this:(Ie e :: acc).length+pre.length=acc.length+(o :: pre).length:=by simp; omega
        refine .inr (.inr ⟨o :: pre,o',rest,e :: es,s',by simp [h0],by simp [h1],LP hs (by rw [← hT,← hH]; exact h2),by simpa using h3,by rw [← this]; exact h4,by rw [← this]; exact h4',h4'',?_,?_,h8⟩)
        · rw [h5,hT]; rfl
        · rw [h6,hH]; rfl
    have tail:∀ (s:St),ZF ops o (look s.T)=some true→(l=[]∧JX ops acc.length=true∧Kg ops acc.reverse=true∧XN P N o s (Q .normal) Q)→Po P N ops Q (o :: l) acc s:=by
      rintro s hw ⟨h1,h2,h3,h4⟩
      subst h1
      exact .inr (.inl ⟨[],o,[],s,rfl,rfl,fun i o e _ he=>by simp at he,by simpa using h3,by simpa using h2,rfl,rfl,hw,h4⟩)
    have brT:∀ s0 s:St,look s.T=look s0.T→s.H=s0.H→ZF ops o (look s.T)=some true→(match o.op with
         | .pick c x y=>match Zr (look s.T) c with
           | some (.p (.val (.bool t)))=>Fh t (zy N o s (KA P N ops Q l ((none,[]) :: acc)) (Vz (look s.T) x)) (zy N o s (KA P N ops Q l ((none,[]) :: acc)) (Vz (look s.T) y))
           | _=>False
         | .call ⟨.value f,args,ts⟩=>yY P N ops Q o (.call ⟨.value f,args,ts⟩) l acc s0 s (KA P N ops Q l ((none,[]) :: acc))
         | .panic x=>l=[]∧JX ops acc.length=true∧Kg ops acc.reverse=true∧XN P N o s (Q .normal) Q
         | _=>Qax N o s acc (KA P N ops Q l) (VA P o (look s.T) (look s.H))∨sO P N ops Q o l acc s0)→Po P N ops Q (o :: l) acc s:=by
        intro s0 s hT0 hH0 hw g
        split at g
        · rename_i c x y ho
          split at g
          · rename_i t hc
            have hpick:∀ z,zy N o s (KA P N ops Q l ((none,[]) :: acc)) (Vz (look s.T) z)→Dv (look s.T) c x y=Vz (look s.T) z→Po P N ops Q (o :: l) acc s:=by
              intro z hz hp
              cases hm:Vz (look s.T) z with
              | none=>rw [hm] at hz; exact hz.elim
              | some u =>
                rw [hm] at hz hp
                have hu:u.2=(none,[]):=by
                  unfold Vz at hm
                  split at hm
                  · simp only [Zd] at hm; subst hm; rfl
                  · cases hm
                have hop:VA P o (look s.T) (look s.H)=some (u.1,none,[]):=by
                  unfold VA
                  simp only [ho]
                  rw [hp]
                  congr 1
                  rw [← hu]
                have hp2:=Bv s o ⟨u.1,none,[]⟩ rfl
                exact step s ⟨u.1,none,[]⟩ _ ⟨hz.1, .inr (.inl ⟨hw,hop⟩)⟩ hp2.1 hp2.2 hz.2
            refine Uy g (fun ht hz=>hpick x hz ?_) (fun ht hz=>hpick y hz ?_)
            · subst ht; simp [Dv,hc]
            · subst ht; simp [Dv,hc]
          · exact g.elim
        · rename_i f aas ts ho
          rcases g with ⟨f,args,args',x,h1,h2,h3,h4,h5,h6,h7,h8⟩ | h1 | ⟨h1,h2,h3,h4,h5⟩ | ⟨f,args,τ,h1,h2,h3,h8,h4,h5,h6,h7⟩
          · have hp:=Bv s o ⟨x,none,[]⟩ rfl
            exact step s ⟨x,none,[]⟩ _ ⟨h3, .inr (.inr (.inl ⟨hw,f,args,args',by rw [ho]; exact h1,h2,h4,h5,h7,h6,rfl,rfl⟩))⟩ hp.1 hp.2 h8
          · exact tail s hw h1
          · exact .inr (.inr ⟨[],o,l,[],s0,rfl,rfl,fun i o e _ he=>by simp at he,by simpa using h2,by simpa using h1,by simpa using h3,h4,hT0.symm,by rw [hH0]; rfl,h5⟩)
          · have hp:=Bv s o ⟨τ args,none,[]⟩ rfl
            exact step s ⟨τ args,none,[]⟩ _ ⟨h3, .inr (.inr (.inr ⟨hw,f,args,τ,by rw [ho]; exact h1,h2,h8,h4,h5,h6,rfl,rfl,rfl⟩))⟩ hp.1 hp.2 h7
        · exact tail s hw g
        · rcases g with g | ⟨h1,h2,h3,h4,h5⟩
          rotate_left
          · exact .inr (.inr ⟨[],o,l,[],s0,rfl,rfl,fun i o e _ he=>by simp at he,by simpa using h2,by simpa using h1,by simpa using h3,h4,hT0.symm,by rw [hH0]; rfl,h5⟩)
          cases hu:VA P o (look s.T) (look s.H) with
          | none=>rw [hu] at g; exact g.elim
          | some u =>
            rw [hu] at g
            have hp:=xy s o u
            exact step s ⟨u.1,u.2.1,u.2.2⟩ _ ⟨g.1, .inr (.inl ⟨hw,hu⟩)⟩ hp.1 hp.2 g.2
    simp only [KA] at h
    split at h
    · rename_i b hw
      refine Uy h (fun hb g=>?_) (fun hb g=>?_)
      · subst hb
        have em:=X6 hw
        exact Pq (s1:=⟨Zv ops o s.T true,s.H⟩) em rfl (brT s ⟨Zv ops o s.T true,s.H⟩ em rfl (by show ZF ops o (look (Zv ops o s.T true))=some true; rw [em]; exact hw) g)
      · subst hb
        have em:=X6 hw
        refine Pq (s1:=⟨Zv ops o s.T false,s.H⟩) em rfl ?_
        have hp:=Bv ⟨Zv ops o s.T false,s.H⟩ o ⟨.p (.val undef),none,[]⟩ rfl
        exact step ⟨Zv ops o s.T false,s.H⟩ ⟨.p (.val undef),none,[]⟩ _ ⟨g.1, .inl ⟨by show ZF ops o (look (Zv ops o s.T false))=some false; rw [em]; exact hw,rfl⟩⟩ hp.1 hp.2 g.2
    · exact h.elim
theorem zB {T:Nat→Option AV} {o:Oper} (h:Ho o=true):yieldOf T o.op=none:=by
 unfold Ho at h
 unfold yieldOf
 split
 ·rename_i ho; rw [ho] at h; cases h
 ·rfl
theorem yZ {ops:Array Oper} {s:St} {o:Oper} (h:(Ho o||(yieldOf (look (Zv ops o s.T true)) o.op).isNone)=true):yieldOf (look (Zv ops o s.T true)) o.op=none:=by
 rcases Bool.or_eq_true _ _ |>.mp h with h | h
 ·exact zB h
 ·simpa using h
theorem Nq {P:Program} {N:Nat} {D:DB} {ops:Array Oper} {Q:AX→St→Prop}:∀ (l:List Oper) (k:Nat) (s:St) (φ0:Nat→Nat) (h0:Qv) (w0:World) (φ:Nat→Nat) (M0:QR) (a:Act) (w:World),
  (∀ j,l[j]?=ops[k+j]?)→zz ops s l=true→Zg φ0 h0 w0 φ (look s.H) w→Zw φ M0 N D (look s.T) (look s.H) a w→Yi P N ops Q l s →
  wpOps P ops (Post N D Q φ0 M0 h0 w0) ((List.range l.length).map (k+·)) a w
 | [],k,s,φ0,h0,w0,φ,M0,a,w,hl,hn,E,r,h=>⟨φ, .normal,s,h,r,E,rfl⟩
 | o :: l,k,s,φ0,h0,w0,φ,M0,a,w,hl,hn,E,r,h=>by
  have h1:ops[k]?=some o:=by simpa using (hl 0).symm
  have hr:(List.range (o :: l).length).map (k+·)=k :: (List.range l.length).map (k+1+·):=by
   simp only [nY,List.range_succ_eq_map,List.map_cons,List.map_map,Nat.add_zero,List.cons.injEq,true_and]
   apply List.map_congr_left
   intro j _
   simp; omega
  rw [hr,wpOps_cons]
  unfold wpOp
  simp only [h1]
  simp only [zz,Ki] at hn
  have hl':∀ j,l[j]?=ops[k+1+j]?:=fun j=>by have:=hl (j+1); rwa [show k+(j+1)=k+1+j from by omega] at this
  simp only [Yi] at h
  split at h
  ·rename_i b hw
   rw [H6 r hw]
   refine Uy h (fun hb g=>?_) (fun hb g=>?_)
   ·subst hb
    simp only [if_true]
    have em:=X6 hw
    have r1:Zw φ M0 N D (look (Zv ops o s.T true)) (look s.H) a w:=by rw [em]; exact r
    rw [yZ hn.1] at g
    refine .inl (Go.Abs.Oper.wp_mono2 (TZ (s:=⟨Zv ops o s.T true,s.H⟩) g r1) ?_ ?_)
    ·rintro a' w' ⟨φ',s',h2,h3,h4⟩
     exact Nq l (k+1) s' φ0 h0 w0 φ' M0 a' w' hl' (zA hn.2) (E.trans h4) h3 h2
    ·intro e a' w' p
     exact p.trans E
   ·subst hb
    simp only [Bool.false_eq_true,if_false]
    have em:=X6 hw
    have r1:Zw φ M0 N D (look (Zv ops o s.T false)) (look s.H) a w:=by rw [em]; exact r
    refine Nq l (k+1) _ φ0 h0 w0 φ M0 _ w hl' (zA hn.2) ?_ (Zw.put (s:=⟨Zv ops o s.T false,s.H⟩) r1 (ZR g.1) (by simp [Qf,Q5])) g.2
    cases o.dst <;> exact E
  ·exact h.elim
theorem EX {P:Program} {N:Nat} {ops:Array Oper} {s:St} {Q:AX→St→Prop} (h:KA P N ops Q ops.toList [] s) {φ:Nat→Nat} {M0:QR} {D:DB} {a:Act} {w:World} (r:Zw φ M0 N D (look s.T) (look s.H) a w) :
  wpAny P .any ops (Post N D Q φ M0 (look s.H) w) ops.size (Array.replicate ops.size false) a { w with drawn:=w.drawn+1 }:=by
 have hd:Zg φ (look s.H) w φ (look s.H) { w with drawn:=w.drawn+1 }:=FR rfl rfl rfl rfl
 have r1:Zw φ M0 N D (look s.T) (look s.H) a { w with drawn:=w.drawn+1 }:=r.keep hd (Hf rfl) (TN (w:=w) rfl hd r.hp)
 have hlf:∀ (j:Nat),(Array.replicate ops.size false).getD j false=false:=by
  intro j
  rcases Nat.lt_or_ge j ops.size with h | h
  ·simp [h]
  ·simp [h]
 have hunl:∀ n,Ec (Array.replicate ops.size false) n≤n:=by
  intro n
  induction n with
  | zero=>simp [Ec]
  | succ n ih=>simp only [Ec]; split <;> omega
 rcases EW _ _ _ h with ⟨es,s',h1,h2,h3,h4,h5,h6⟩ | ⟨pre,o,es,s',h0,h1,h2,h3,h4,h5,h6,h7,h8⟩ | ⟨pre,o,rest,es,s',h0,h1,h2,h3,h4,h4',h4'',h5,h6,h8⟩
 ·refine fC (D:=D) (T0:=look s.T) (h0:=look s.H) (φ0:=φ) (w0:=w) (M0:=M0) (N:=N) es (by simpa using h1) (fun i o e ho he=>h2 i o e (by simpa using ho) he) (by show Kg ops (es.map Ie)=true; simpa using h3) ?_ ops.size _ a _ φ zq (hunl _) (fun j o _ hj=>by rw [hlf] at hj; cases hj) ?_ ?_
  ·intro φ' a' w' r' E'
   rw [← h4,← h5] at r'
   rw [← h5] at E'
   exact ⟨φ', .normal,s',h6,r',E',rfl⟩
  ·rw [JW _ _ _ (fun j _=>hlf j),JW _ _ _ (fun j _=>hlf j)]; exact r1
  ·rw [JW _ _ _ (fun j _=>hlf j)]; exact hd
 ·have hsz:ops.size=pre.length+1:=by have:=congrArg List.length h0; simpa using this
  have hom:ops[pre.length]?=some o:=by
   have:ops.toList[pre.length]?=some o:=by rw [h0]; simp
   simpa using this
  have hts:GY ops pre.length=true:=by
   unfold GY
   rw [List.all_eq_true]
   intro k hk
   simp only [List.mem_range,Bool.or_eq_true,decide_eq_true_eq] at hk ⊢
   exact .inl zo
  refine IU (D:=D) (T0:=look s.T) (h0:=look s.H) (φ0:=φ) (w0:=w) (M0:=M0) (N:=N) es pre.length zo h1 (fun i o e ho he=>h2 i o e (by simpa using ho) he) (by show Kg ops (es.map Ie)=true; simpa using h3) (by simpa using h4) hts ?_ ops.size _ a _ φ zq (hunl _) (fun j _=>hlf j) (fun j o _ hj=>by rw [hlf] at hj; cases hj) ?_ ?_
  ·intro φ' a' w' r' E'
   rw [← h5,← h6] at r'
   rw [← h6] at E'
   rw [show ops.size - pre.length=1 from by omega]
   show wpOps _ _ _ [pre.length+0] _ _
   rw [wpOps_cons,Nat.add_zero]
   unfold wpOp
   simp only [hom,H6 r' h7,if_true]
   refine .inl (Go.Abs.Oper.wp_mono2 (TZ h8 r') ?_ ?_)
   ·rintro a'' w'' ⟨φ'',s'',g1,g2,g3⟩
    exact ⟨φ'', .normal,s'',g1,g2,E'.trans g3,rfl⟩
   ·intro e a'' w'' p
    exact p.trans E'
  ·rw [JW _ _ _ (fun j _=>hlf j),JW _ _ _ (fun j _=>hlf j)]; exact r1
  ·rw [JW _ _ _ (fun j _=>hlf j)]; exact hd
 ·have hsz:ops.size=pre.length+(rest.length+1):=by have:=congrArg List.length h0; simpa using this
  refine IU (D:=D) (T0:=look s.T) (h0:=look s.H) (φ0:=φ) (w0:=w) (M0:=M0) (N:=N) es pre.length zo h1 (fun i o e ho he=>h2 i o e (by simpa using ho) he) (by show Kg ops (es.map Ie)=true; simpa using h3) (by simpa using h4) (by simpa using h4') ?_ ops.size _ a _ φ zq (hunl _) (fun j _=>hlf j) (fun j o _ hj=>by rw [hlf] at hj; cases hj) ?_ ?_
  ·intro φ' a' w' r' E'
   rw [← h5,← h6] at r'
   rw [← h6] at E'
   have:=Nq (o :: rest) pre.length s' φ (look s.H) w φ' M0 a' w' (fun j=>by
    have e1:ops[pre.length+j]?=ops.toList[pre.length+j]?:=by simp
    rw [e1,h0,List.getElem?_append_right zo]
    congr 1
    omega) h4'' E' r' h8
   rw [show ops.size - pre.length=(o :: rest).length from by simp; omega]
   exact this
  ·rw [JW _ _ _ (fun j _=>hlf j),JW _ _ _ (fun j _=>hlf j)]; exact r1
  ·rw [JW _ _ _ (fun j _=>hlf j)]; exact hd
theorem wP {P:Program} {N:Nat} {ro:Option Nat} {id:Nat} {ops:Array Oper} {s:St} {Q:AX→St→Prop} (hm:P.follows .mixedOrders=true) (hnd:Ul ops=true) (h:KA P N ops Q ops.toList [] s):Ex P N ro (.region id ops true) s Q :=
 fun _ _ _ _ _ r=>wpIn_region_any hm (DZ hnd VW _ _ _ _ (EX h r))
def WQ:Nat→List AV→List (Nat × AV)
 | _,[]=>[]
 | k,x :: xs=>(k,x) :: WQ (k+1) xs
theorem EY:∀ (xs:List AV) (k t:Nat) (x:AV),look (WQ k xs) t=some x→k≤t∧xs[t - k]?=some x
 | [],k,t,x,h=>by simp [WQ,look] at h
 | y :: xs,k,t,x,h=>by
  simp only [WQ,look] at h
  by_cases e:k=t
  ·subst e
   simp at h
   subst h
   simp
  ·simp only [e,if_false] at h
   obtain ⟨h1,h2⟩:=EY xs (k+1) t x h
   refine ⟨by omega,?_⟩
   have:t - k=(t - (k+1))+1:=by omega
   rw [this]
   simpa using h2
def bD (P:Program) (T:Nat→Option AV) (h:Qv):ResultVar→Option AV
 | .tmp t=>T t
 | .cell t ty=>match N7 P T h ty (.tmp t) with | some u=>some u.1 | none=>none
def IV (P:Program) (T:Nat→Option AV) (h:Qv):List ResultVar→Option (List AV)
 | []=>some []
 | x :: xs=>match bD P T h x,IV P T h xs with | some v,some vs=>some (v :: vs) | _,_=>none
def Td (P:Program) (fn:Func) (T:Nat→Option AV) (h:Qv):Option AV :=
 match IV P T h fn.results.toList with
 | some [x]=>some x
 | some xs=>some (.tup xs)
 | none=>none
theorem EZ {P:Program} {ty:TypeId} {v:Value} {w w':World} {x:Value} (h:(Instr.loadAt ty v).run P w=.ok x w'):(do loadVar ty (← asAddr v):Sem Value).run P w=.ok x w':=by
 cases v with
 | pointer q =>
  cases q with
  | none=>simp [Instr.loadAt,Instr.sureAddr,stuck] at h
  | some a=>simpa [Instr.loadAt,Instr.sureAddr,asAddr] using h
 | _=>simp [Instr.loadAt,Instr.sureAddr,stuck] at h
def xz (tmps:Array Value):ResultVar→Sem Value
 | .tmp t=>pure (tmps.getD t undef)
 | .cell t ty=>do loadVar ty (← asAddr (tmps.getD t undef))
theorem bE {P:Program} {φ:Nat→Nat} {M0:QR} {N:Nat} {D:DB} {T:Nat→Option AV} {h:Qv} {a:Act} {w:World} (r:Zw φ M0 N D T h a w) {x:ResultVar} {v:AV} (he:bD P T h x=some v) :
  ∃ y,(xz a.tmps x).run P w=.ok y w∧Qf φ h w (MM φ h M0) v y:=by
 cases x with
 | tmp t=>exact ⟨_,rfl,(r.tm t v he).2⟩
 | cell t ty =>
  simp only [bD] at he
  split at he
  ·rename_i u hu
   simp only [Zd] at he
   subst he
   obtain ⟨_,y,h1,h2⟩:=Et (P:=P) r hu
   exact ⟨y,EZ h1,h2⟩
  ·cases he
theorem E8 {P:Program} {φ:Nat→Nat} {M0:QR} {N:Nat} {D:DB} {T:Nat→Option AV} {h:Qv} {a:Act} {w:World} (r:Zw φ M0 N D T h a w):∀ {l:List ResultVar} {vs:List AV},IV P T h l=some vs →
  ∃ ys,(l.mapM (xz a.tmps)).run P w=.ok ys w∧Qi φ h w (MM φ h M0) vs ys
 | [],vs,he=>by simp only [IV,Zd] at he; subst he; exact ⟨[],by simp,by simp [Qi]⟩
 | x :: l,vs,he=>by
  simp only [IV] at he
  split at he
  ·rename_i v vs' h1 h2
   simp only [Zd] at he
   subst he
   obtain ⟨y,g1,g2⟩:=bE r h1
   obtain ⟨ys,g3,g4⟩:=E8 r h2
   exact ⟨y :: ys,by simp [List.mapM_cons,g1,g3],by simp only [Qi]; exact ⟨y,ys,rfl,g2,g4⟩⟩
  ·cases he
theorem wQ {P:Program} {fn:Func} {φ:Nat→Nat} {M0:QR} {N:Nat} {D:DB} {T:Nat→Option AV} {h:Qv} {a:Act} {w:World} (r:Zw φ M0 N D T h a w) {x:AV} (he:Td P fn T h=some x) :
  ∃ v,(results fn a.tmps).run P w=.ok v w∧Qf φ h w (MM φ h M0) x v:=by
 have hrun:∀ ys:List Value,(fn.results.toList.mapM (xz a.tmps)).run P w=.ok ys w→(results fn a.tmps).run P w=.ok (if hh:ys.toArray.size=1 then ys.toArray[0] else .tuple ys.toArray) w:=by
  intro ys hy
  have e1:fn.results.mapM (xz a.tmps)=Functor.map List.toArray (fn.results.toList.mapM (xz a.tmps)):=Array.mapM_eq_mapM_toList ..
  have e2:results fn a.tmps=(do let vs ← fn.results.mapM (xz a.tmps); pure (if hh:vs.size=1 then vs[0] else .tuple vs)):=by
   unfold results
   congr 1
  rw [e2]
  simp only [Sem.run_bind,e1,Sem.run_map,hy,Result.andThen_ok,Sem.run_pure]
 unfold Td at he
 split at he
 ·rename_i y hy
  simp only [Zd] at he
  subst he
  obtain ⟨ys,g1,g2⟩:=E8 r hy
  simp only [Qi] at g2
  obtain ⟨v,vs,rfl,h1,rfl⟩:=g2
  exact ⟨v,by rw [hrun _ g1]; simp,h1⟩
 ·rename_i xs hne hxs
  simp only [Zd] at he
  subst he
  obtain ⟨ys,g1,g2⟩:=E8 r hxs
  have hl:=ZH g2
  have hn1:¬ ys.toArray.size=1:=by
   intro h1
   simp only [List.size_toArray] at h1
   rw [h1] at hl
   match xs,hl with
   | [x],_=>exact hne x rfl
  refine ⟨.tuple ys.toArray,by rw [hrun _ g1,dif_neg hn1],?_⟩
  simp only [Qf]
  exact ⟨ys,rfl,g2⟩
 ·cases he
def Qay (P:Program) (f:FuncId) (args:List AV) (R:Z0→Prop):Prop:=Wz P f args GV fun r h'=>R r∧h'=GV
def fD (P:Program) (fn:Func) (R:Z0→Prop):AX→St→Prop
 | .ret,s=>∃ x y,Td P fn (look s.T) (look s.H)=some x∧le x y∧K9 y=true∧R (.ret y)
 | .normal,s=>∃ x y,Td P fn (look s.T) (look s.H)=some x∧le x y∧K9 y=true∧R (.ret y)
 | .panic x,s=>K9 x=true∧R (.panic x)
 | .exit _,_=>False
theorem xA {φ φ':Nat→Nat} {h:Qv} {w w':World} (E:Zg φ GV w φ' h w'):Zg φ GV w φ' GV w' :=
 ⟨E.os,E.tape,E.output,E.size,E.same,E.cell,fun _ _ _ x=>absurd x VQ,(fun _ _ _ _ x=>by cases x),(fun _ _ _ _ _ x=>by cases x),(fun _ _ _ _ _ x=>by cases x),(fun _ _ _ _ x=>by cases x)⟩
structure UN (ms:List Nat) (w w':World):Prop where
 os:w'.os=w.os
 tape:w'.tape=w.tape
 output:w'.output=w.output
 size:w'.heap.size=w.heap.size
 same:∀ k,k ∉ ms→w'.heap[k]?=w.heap[k]?
 turn:∀ k,k ∈ ms→w'.heap[k]?=some (.deferred none)
def JY (P:Program) (fn:Func) (tmps:Array Value) (R:Ending→World→Prop):List Deferred→FrameMode→World→Prop
  | [],u,w=>Leaves P fn tmps R [] u w
  | d :: ds,u,w=>u ≠ .run ∧
      ((∃ r w',d.target=.collected r∧(Instr.takeDeferred r).run P w=.ok [] w'∧JY P fn tmps R ds u w') ∨
       (∃ fv cap f args,d.target=.fn fv cap∧(invoke d.target d.args).run P w=.ok (.enter f args) w ∧
        CallsD P f args u w fun
          | .returned _,u',w'=>JY P fn tmps R ds (settle u') w'
          | .panicked chain,u',w'=>JY P fn tmps R ds (raised u' chain) w'
          | .outgrown,_,w'=>R .outgrown w'))
theorem Fj {P:Program} {fn:Func} {tmps:Array Value} {R:Ending→World→Prop}:∀ (ds:List Deferred) (u:FrameMode) (w:World) (fr:Frame)
  (cs:List Frame),fr.mode=u→fr.defers=ds→fr.tmps=tmps→P.funcs[fr.fn]?=some fn→fr.kind=.normal→JY P fn tmps R ds u w →
  ∃ e w' fr',R e w'∧Comes P (lone fr cs w) (lone fr' cs w') e∧fr'.fn=fr.fn∧fr'.leaving P w' e:=by
 intro ds
 induction ds with
 | nil=>exact fun u w fr cs hu hd ht hf hk h=>leaves_steps [] u w fr cs hu hd ht hf hk h
 | cons d ds ih =>
  intro u w fr cs hu hd ht hf hk h
  obtain ⟨hrun,h⟩:=h
  rcases h with ⟨r,w',htar,htake,hrest⟩ | ⟨fv,cap,f,args,htar,hinv,hcall⟩
  ·have h1:=step_collected (cs:=cs) (hu ▸ hrun) hd htar htake
   obtain ⟨e',w'',fr',hR',hs',hfn',hl'⟩:=ih u w' { fr with defers:=[]++ds } cs hu rfl ht hf hk hrest
   exact ⟨e',w'',fr',hR',Comes.of_steps (.one h1) hs',hfn',hl'⟩
  ·have h1:=step_defer (cs:=cs) (hu ▸ hrun) hd htar hinv
   obtain ⟨e,u',w',frX,hR,hsteps,hkX,hgo⟩:=hcall { fr with defers:=ds } cs hu
   cases e with
   | outgrown=>exact ⟨.outgrown,w',fr,hR,Outgrown.of_steps (.one h1) hsteps,rfl,trivial⟩
   | returned v =>
    have h2:=step_going_returned (c:={ { fr with defers:=ds } with mode:=u' }) (cs:=cs) hkX hgo
    obtain ⟨e',w'',fr',hR',hs',hfn',hl'⟩:=ih (settle u') w' { { { fr with defers:=ds } with mode:=u' } with mode:=settle u' } cs rfl rfl ht hf hk hR
    exact ⟨e',w'',fr',hR',Comes.of_steps (.head h1 (Steps.trans hsteps (.one h2))) hs',hfn',hl'⟩
   | panicked chain =>
    have h2:=step_going_panicked (c:={ { fr with defers:=ds } with mode:=u' }) (cs:=cs) hgo
    obtain ⟨e',w'',fr',hR',hs',hfn',hl'⟩:=ih (raised u' chain) w' { { { fr with defers:=ds } with mode:=u' } with mode:=raised u' chain } cs rfl rfl ht hf hk hR
    exact ⟨e',w'',fr',hR',Comes.of_steps (.head h1 (Steps.trans hsteps (.one h2))) hs',hfn',hl'⟩
def xB (P:Program) (fn:Func) (R:Ending→World→Prop):Exit→Act→World→Prop
 | .normal,a,w | .ret,a,w=>JY P fn a.tmps R a.defers .returning w
 | .panic chain,a,w=>JY P fn a.tmps R a.defers (.panicking chain) w
 | .outgrown,_,w=>R .outgrown w
 | _,_,_=>False
theorem Bw {P:Program} {f:FuncId} {fn:Func} {c:Code} {args:Array Value} {w:World} {R:Ending→World→Prop} (hf:P.funcs[f]?=some fn) (hb:fn.body=some c)
  (h:c.wpIn (wd none) 0 P (xB P fn R) { tmps:=args++Array.replicate (fn.ntmps - args.size) undef,defers:=[] } w):Calls P f args w R:=by
 have h:=wpIn_wide.1 h
 intro cs
 let b:Frame:={ (default:Frame) with fn:=f,kind:=.normal }
 have henter:Frame.enter P f args .normal=b.at { tmps:=args++Array.replicate (fn.ntmps - args.size) undef,defers:=[] } [.code c]:=by
  simp [Frame.enter,Frame.at,hf,hb,b]
 obtain ⟨e,a',w',hq,harr⟩:=h b [] cs
 rw [← henter] at harr
 cases e with
 | normal =>
  obtain ⟨e',w'',fr',hR,hs,hfn,hl⟩:=Fj a'.defers .returning w' { b.at a' [] with mode:=.returning } cs rfl rfl rfl hf rfl hq
  exact ⟨e',w'',fr',hR,Comes.of_steps (Steps.trans harr (.one step_end)) hs,hfn,hl⟩
 | ret =>
  obtain ⟨todo,hs₀⟩:=harr
  obtain ⟨e',w'',fr',hR,hs,hfn,hl⟩:=Fj a'.defers .returning w' { b.at a' todo with mode:=.returning } cs rfl rfl rfl hf rfl hq
  exact ⟨e',w'',fr',hR,Comes.of_steps hs₀ hs,hfn,hl⟩
 | panic chain =>
  obtain ⟨todo,hs₀⟩:=harr
  obtain ⟨e',w'',fr',hR,hs,hfn,hl⟩:=Fj a'.defers (.panicking chain) w' { b.at a' todo with mode:=.panicking chain } cs rfl rfl rfl hf rfl hq
  exact ⟨e',w'',fr',hR,Comes.of_steps hs₀ hs,hfn,hl⟩
 | exit id=>exact hq.elim
 | goto l=>exact hq.elim
 | outgrown=>exact ⟨.outgrown,w',b,hq,harr.resolve_left (by simp [b]),rfl,trivial⟩
theorem Bz {P:Program} {fn:Func} {tmps:Array Value} {R:Ending→World→Prop} {u:FrameMode} (hu:u ≠ .run) (ds:List Deferred):∀ (ms:List Nat) (w:World),ms.Nodup→(∀ r ∈ ms,w.heap[r]?=some (.deferred (some []))) →
  (∀ w',UN ms w w'→JY P fn tmps R ds u w')→JY P fn tmps R ((ms.map fun r=>({ target:=.collected r,args:=#[] }:Deferred))++ds) u w
 | [],w,_,_,h=>h w ⟨rfl,rfl,rfl,rfl,fun _ _=>rfl,fun k hk=>by cases hk⟩
 | r :: ms,w,hn,hb,h=>by
  have h0:=hb r zq
  have hlt:r < w.heap.size:=(Rn.1 h0).1
  let w1:World:=w.putObj r (.deferred none)
  have hw1:∀ k:Nat,w1.heap[k]?=(w.heap.setIfInBounds r (.deferred none))[k]?:=fun k=>rfl
  have hrun:(Instr.takeDeferred r).run P w=.ok [] w1:=run_takeDeferred h0
  refine ⟨hu, .inl ⟨r,w1,rfl,hrun,Bz hu ds ms w1 (List.nodup_cons.1 hn).2 ?_ ?_⟩⟩
  ·intro k hk
   have:r ≠ k:=fun e=>(List.nodup_cons.1 hn).1 (e ▸ hk)
   rw [hw1,Array.getElem?_setIfInBounds_ne this]
   exact hb k (by simp [hk])
  ·intro w' t
   refine h w' ⟨t.os,t.tape,t.output,by rw [t.size]; simp [w1,World.putObj],fun k hk=>?_,fun k hk=>?_⟩
   ·simp only [List.mem_cons,not_or] at hk
    rw [t.same k hk.2,hw1,Array.getElem?_setIfInBounds_ne (Ne.symm hk.1)]
   ·rcases List.mem_cons.1 hk with e | e
    ·subst e
     rw [t.same k (List.nodup_cons.1 hn).1,hw1]
     simp [hlt]
    ·exact t.turn k e
theorem bF {P:Program} {fn:Func} {tmps:Array Value} {R:Ending→World→Prop} {u:FrameMode} (hu:u ≠ .run) (ms:List Nat) (w:World) (hn:ms.Nodup) (hb:∀ r ∈ ms,w.heap[r]?=some (.deferred (some [])))
  (h:∀ w',UN ms w w'→Leaves P fn tmps R [] u w'):JY P fn tmps R (ms.map fun r=>({ target:=.collected r,args:=#[] }:Deferred)) u w:=by
 have:=Bz (P:=P) (fn:=fn) (tmps:=tmps) (R:=R) hu [] ms w hn hb h
 simpa using this
theorem Zw.turned {φ:Nat→Nat} {M0:QR} {N:Nat} {D:DB} {T:Nat→Option AV} {h:Qv} {a:Act} {w w':World} {ms:List Nat} (r:Zw φ M0 N D T h a w) (t:UN ms w w')
  (hm:∀ r ∈ ms,w.heap[r]?=some (.deferred (some []))∧∀ b,h b ≠ none→φ b ≠ r):Zw φ M0 N ⟨[],0⟩ T h { a with defers:=[] } w':=by
 have hold:∀ b k,h b=some k→w'.heap[φ b]?=w.heap[φ b]?:=fun b k hb=>t.same _ fun hx=>(hm _ hx).2 b (by rw [hb]; simp) rfl
 have X:YM φ h w φ h w':=⟨fun _ _ _ x=>⟨⟨_,_,x⟩,rfl⟩,fun b ty S n x=>⟨_,x,Nat.le_refl _,fun _=>YJ (rfl) (by rw [hold _ _ x])⟩,
  fun b ty S n x=>⟨_,x,Nat.le_refl _,fun _=>⟨rfl,fun c hc=>⟨c,by rw [hold _ _ x]; exact hc,rfl⟩⟩⟩,fun _ _ _ h1 h2=>⟨⟨_,h1,h2⟩,rfl⟩⟩
 have hk:∀ r o v,w.cell? ⟨r,o,none⟩=some v→¬ MM φ h M0 r o→w'.cell? ⟨r,o,none⟩=some v∧¬ MM φ h M0 r o:=by
  intro x o v h1 h2
  refine ⟨?_,h2⟩
  have:x ∉ ms:=fun hx=>by
   have:=(hm x hx).1
   simp [World.cell?,this] at h1
  rw [← h1]
  simp [World.cell?,t.same x this]
 refine ⟨⟨Nat.zero_le _,[],rfl,List.nodup_nil,fun r hr=>by cases hr⟩,r.siz,⟨r.hp.inj,fun b k hb=>ZW hk X (hold b k hb) (r.hp.blk b k hb),r.hp.fr,fun x o hx=>by rw [t.size]; exact r.hp.lt x o hx,qO (fun g hg=>t.same g fun hx=>lT r.hp.gm.w g hg _ (hm g hx).1) r.hp.gm.w,r.hp.gm.m⟩,
  fun x y hx=>⟨(r.tm x y hx).1,(QX hk X).1 _ _ (r.tm x y hx).2⟩⟩
theorem Tf {φ:Nat→Nat} {M0:QR} {h:Qv} {w w':World} {ms:List Nat} (t:UN ms w w') (hm:∀ r ∈ ms,w.heap[r]?=some (.deferred (some []))∧∀ b,h b ≠ none→φ b ≠ r) (x:AV) (v:Value)
  (hv:Qf φ h w (MM φ h M0) x v):Qf φ h w' (MM φ h M0) x v:=by
 have hold:∀ b k,h b=some k→w'.heap[φ b]?=w.heap[φ b]?:=fun b k hb=>t.same _ fun hx=>(hm _ hx).2 b (by rw [hb]; simp) rfl
 have X:YM φ h w φ h w':=⟨fun _ _ _ x=>⟨⟨_,_,x⟩,rfl⟩,fun b ty S n x=>⟨_,x,Nat.le_refl _,fun _=>YJ (rfl) (by rw [hold _ _ x])⟩,
  fun b ty S n x=>⟨_,x,Nat.le_refl _,fun _=>⟨rfl,fun c hc=>⟨c,by rw [hold _ _ x]; exact hc,rfl⟩⟩⟩,fun _ _ _ h1 h2=>⟨⟨_,h1,h2⟩,rfl⟩⟩
 refine (QX (fun r o v h1 h2=>⟨?_,h2⟩) X).1 _ _ hv
 have:r ∉ ms:=fun hx=>by
  have:=(hm r hx).1
  simp [World.cell?,this] at h1
 rw [← h1]
 simp [World.cell?,t.same r this]
theorem Zg.turned {φ φ':Nat→Nat} {h h':Qv} {w w' w'':World} {ms:List Nat} (E:Zg φ h w φ' h' w') (t:UN ms w' w'') (hnew:∀ r ∈ ms,w.heap.size≤r)
  (hm:∀ r ∈ ms,w'.heap[r]?=some (.deferred (some []))∧∀ b,h' b ≠ none→φ' b ≠ r):Zg φ h w φ' h' w'':=by
 have hold:∀ r,r < w.heap.size→w''.heap[r]?=w'.heap[r]?:=fun r hr=>t.same r fun hx=>by have:=hnew r hx; omega
 have hold2:∀ b k,h' b=some k→w''.heap[φ' b]?=w'.heap[φ' b]?:=fun b k hb=>t.same _ fun hx=>(hm _ hx).2 b (by rw [hb]; simp) rfl
 refine ⟨t.os.trans E.os,t.tape.trans E.tape,t.output.trans E.output,by rw [t.size]; exact E.size,fun r hr hno=>(hold r hr).trans (E.same r hr hno),fun r o hr hm=>?_,E.mu,E.kb,?_,?_,E.ko⟩
 ·rw [← E.cell r o hr hm]; simp [World.cell?,hold r hr]
 ·intro b ty S n hb hx
  obtain ⟨n',h1,h2,h3⟩:=E.kt b ty S n hb hx
  refine ⟨n',h1,h2,fun e=>⟨fun h=>by rw [hold2 b _ h1]; exact (h3 e).1 h,(h3 e).2.imp (fun h=>h) fun h3=>⟨h3.1,fun c hc=>?_⟩⟩⟩
  obtain ⟨c',h4,h5⟩:=h3.2 c hc
  exact ⟨c',by rw [← h3.1,hold2 b _ h1,h3.1]; exact h4,h5⟩
 ·intro b ty S n hb hx
  obtain ⟨n',h1,h2,h3⟩:=E.kv b ty S n hb hx
  refine ⟨n',h1,h2,fun e=>⟨(h3 e).1,fun c hc=>?_⟩⟩
  obtain ⟨c',h4,h5⟩:=(h3 e).2 c hc
  exact ⟨c',by rw [← (h3 e).1,hold2 b _ h1,(h3 e).1]; exact h4,h5⟩
def Out (R:Z0→Qv→Prop) (φ:Nat→Nat) (h:Qv) (w:World) (M0:QR) (e:Ending) (w':World):Prop :=
 ∃ φ' r h',R r h'∧ZN φ' h' w' M0∧Zg φ h w φ' h' w'∧gZ φ' h' w' (MM φ' h' M0) r e
theorem Nr {φ:Nat→Nat} {M0:QR} {n:Nat} {h:Qv} {args:List AV} {vs:List Value} {w:World} (hH:ZN φ h w M0) (ha:Qi φ h w (MM φ h M0) args vs) (hl:args.length≤n) :
  Zw φ M0 n ⟨[],w.heap.size⟩ (look (WQ 0 args)) h { tmps:=vs.toArray++Array.replicate (n - vs.toArray.size) undef,defers:=[] } w:=by
 have hlen:=ZH ha
 refine ⟨⟨Nat.le_refl _,[],rfl,List.nodup_nil,fun r hr=>by cases hr⟩,by simp; omega,hH,fun t x ht=>?_⟩
 obtain ⟨_,h2⟩:=EY args 0 t x ht
 simp only [Nat.sub_zero] at h2
 have hlt:t < args.length:=(List.getElem?_eq_some_iff.1 h2).1
 obtain ⟨v,h3,h4⟩:=XT ha h2
 refine ⟨by omega,?_⟩
 have:(vs.toArray++Array.replicate (n - vs.toArray.size) undef).getD t undef=v:=by
  rw [Array.getD_eq_getD_getElem?,Array.getElem?_append_left (by simp; omega)]
  simp [h3]
 rw [this]
 exact h4
theorem Pv {P:Program} {f:FuncId} {fn:Func} {c:Code} {args:List AV} {vs:List Value} {φ:Nat→Nat} {M0:QR} {h:List (Nat × Blk)} {w:World} {R:Z0→Qv→Prop} {Q:AX→St→Prop} (hf:P.funcs[f]?=some fn) (hb:fn.body=some c)
  (hl:args.length≤fn.ntmps) (hH:ZN φ (look h) w M0) (ha:Qi φ (look h) w (MM φ (look h) M0) args vs) (hx:Ex P fn.ntmps none c ⟨WQ 0 args,h⟩ Q)
  (hret:∀ x s φ' a w',Q x s→x=.normal∨x=.ret→Zw φ' M0 fn.ntmps ⟨[],0⟩ (look s.T) (look s.H) a w'→Zg φ (look h) w φ' (look s.H) w'→∃ v,(results fn a.tmps).run P w'=.ok v w'∧Out R φ (look h) w M0 (.returned v) w')
  (hpan:∀ x s φ' a w' v,Q (.panic x) s→Zw φ' M0 fn.ntmps ⟨[],0⟩ (look s.T) (look s.H) a w'→Zg φ (look h) w φ' (look s.H) w'→Qf φ' (look s.H) w' (MM φ' (look s.H) M0) x v→Out R φ (look h) w M0 (.panicked [{ v:=v,recovered:=false }]) w')
  (hexit:∀ i s,¬ Q (.exit i) s):Calls P f vs.toArray w (Out R φ (look h) w M0):=by
 refine Bw hf hb (wpIn_mono (hx φ M0 _ _ w (Nr hH ha hl)) ?_)
 rintro e a' w' ⟨φ',k,s',h1,h2,h3,h4⟩
 obtain ⟨hbase,ms,hd,hnd,hms⟩:=h2.dfs
 have hd':a'.defers=ms.map fun r=>({ target:=.collected r,args:=#[] }:Deferred):=by rw [hd]; simp
 have hm2:∀ r ∈ ms,w'.heap[r]?=some (.deferred (some []))∧∀ b,look s'.H b ≠ none→φ' b ≠ r:=fun r hr=>(hms r hr).2
 have go:∀ (u:FrameMode),u ≠ .run→(∀ w'',UN ms w' w''→Zw φ' M0 fn.ntmps ⟨[],0⟩ (look s'.T) (look s'.H) { a' with defers:=[] } w''→Zg φ (look h) w φ' (look s'.H) w''→Leaves P fn a'.tmps (Out R φ (look h) w M0) [] u w'') →
   JY P fn a'.tmps (Out R φ (look h) w M0) a'.defers u w':=by
  intro u hu g
  rw [hd']
  exact bF hu ms w' hnd (fun r hr=>(hms r hr).2.1) (fun w'' t=>g w'' t (h2.turned t hm2) (h3.turned t (fun r hr=>(hms r hr).1) hm2))
 cases k with
 | normal =>
  simp only [Xo] at h4
  subst h4
  exact go .returning zq fun w'' t r'' E''=>hret _ _ _ { a' with defers:=[] } _ h1 (.inl rfl) r'' E''
 | ret =>
  simp only [Xo] at h4
  subst h4
  exact go .returning zq fun w'' t r'' E''=>hret _ _ _ { a' with defers:=[] } _ h1 (.inr rfl) r'' E''
 | exit i=>exact absurd h1 (hexit i s')
 | panic x =>
  obtain ⟨v,rfl,h5⟩:=h4
  refine go (.panicking [{ v:=v,recovered:=false }]) zq fun w'' t r'' E''=>hpan _ _ _ _ _ _ h1 r'' E'' ?_
  exact Tf t hm2 _ _ h5
theorem zC {P:Program} {f:FuncId} {fn:Func} {c:Code} {args:List AV} {R:Z0→Prop} (hf:P.funcs[f]?=some fn) (hb:fn.body=some c) (hl:args.length≤fn.ntmps)
  (h:Ex P fn.ntmps none c ⟨WQ 0 args,[]⟩ (fD P fn R)):Qay P f args R:=by
 intro φ M0 w vs hH ha
 have hE:∀ {φ':Nat→Nat} {s:St} {w':World},Zg φ GV w φ' (look s.H) w'→Zg φ GV w φ' GV w':=fun E=>xA E
 have hM:∀ {φ':Nat→Nat} {s:St} {w':World},∀ r o v,w'.cell? ⟨r,o,none⟩=some v→¬ MM φ' (look s.H) M0 r o→w'.cell? ⟨r,o,none⟩=some v∧¬ MM φ' GV M0 r o:=fun r o v g1 g2=>⟨g1,fun g3=>g3.elim VQ (fun g4=>g2 (.inr g4))⟩
 refine Pv (h:=[]) hf hb hl hH ha h ?_ ?_ ?_
 ·intro x s φ' a w' hq hx r E
  have hq':∃ x y,Td P fn (look s.T) (look s.H)=some x∧le x y∧K9 y=true∧R (.ret y):=by rcases hx with rfl | rfl <;> exact hq
  obtain ⟨x,y,g1,g2,g3,g4⟩:=hq'
  obtain ⟨v,g5,g6⟩:=wQ r g1
  exact ⟨v,g5,φ', .ret y,GV,⟨g4,rfl⟩,Ux (fun x o hm=>r.hp.lt x o hm) r.hp.gm.w (fun g hg o h=>r.hp.gm.m g hg o (.inr h)),hE E,v,rfl,(Wn hM).1 _ _ g3 (Jt.1 _ _ _ g2 g6)⟩
 ·intro x s φ' a w' v hq r E hv
  exact ⟨φ', .panic x,GV,⟨hq.2,rfl⟩,Ux (fun x o hm=>r.hp.lt x o hm) r.hp.gm.w (fun g hg o h=>r.hp.gm.m g hg o (.inr h)),hE E,v,rfl,(Wn hM).1 _ _ hq.1 hv⟩
 ·intro i s hq
  exact hq
theorem zD {P:Program} {f:FuncId} {fn:Func} {c:Code} {args:List AV} {X:Z0} (hf:P.funcs[f]?=some fn) (hb:fn.body=some c) (hl:args.length≤fn.ntmps)
  (h:Ex P fn.ntmps none c ⟨WQ 0 args,[]⟩ (fD P fn (·=X))):Q0 P f args X:=zC hf hb hl h
theorem zF:(∀ x:AV,le x x)∧(∀ xs:List AV,Bq xs xs):=by
 have key:∀ n:Nat,(∀ (x:AV),SizeOf.sizeOf x≤n→le x x)∧(∀ (xs:List AV),SizeOf.sizeOf xs≤n→Bq xs xs):=by
  intro n
  induction n with
  | zero =>
   refine ⟨fun x hx=>?_,fun es hx=>?_⟩
   ·cases x <;> simp at hx
   ·cases es <;> simp at hx
  | succ n ih =>
   obtain ⟨i1,i2⟩:=ih
   refine ⟨fun x hx=>?_,fun xs hx=>?_⟩
   ·cases x with
    | p x=>cases x <;> simp [le]
    | agg cs=>simp only [le]; exact ⟨cs,rfl,i2 cs (by simp at hx; omega)⟩
    | tup cs=>simp only [le]; exact ⟨cs,rfl,i2 cs (by simp at hx; omega)⟩
    | _=>simp [le]
   ·cases xs with
    | nil=>simp [Bq]
    | cons x xs=>simp only [Bq]; simp at hx; exact ⟨x,xs,rfl,i1 x zo,i2 xs zo⟩
 exact ⟨fun x=>(key (SizeOf.sizeOf x)).1 x (Nat.le_refl _),fun xs=>(key (SizeOf.sizeOf xs)).2 xs (Nat.le_refl _)⟩
theorem le_refl (x:AV):le x x:=zF.1 x
theorem zG (xs:List AV):Bq xs xs:=zF.2 xs
mutual
def Kb (h:Qv):AV→Bool
 | .p _=>true
 | .eptr _=>true
 | .tsl _ _ t=>(h t).isSome
 | .ptr b _=>(h b).isSome
 | .vnil=>true
 | .vsl _ t _=>(h t).isSome
 | .vptr t _ _ _=>(h t).isSome
 | .yv b=>(h b).isSome
 | .mv b=>(h b).isSome
 | .bsl b _=>(h b).isSome
 | .sfp b=>(h b).isSome
 | .iv b=>(h b).isSome
 | .agg cs=>Kj h cs
 | .tup cs=>Kj h cs
 | .fn _ a b=>Kj h a&&Kj h b
 | .ifc _ x=>Kb h x
def Kj (h:Qv):List AV→Bool
 | []=>true
 | x :: xs=>Kb h x&&Kj h xs
end
theorem BA (h:Qv):∀ l:List PV,Kj h (l.map .p)=true
 | []=>by simp [Kj]
 | x :: l=>by simp [Kj,Kb,BA h l]
def leB:Blk→Blk→Prop
 | .box ty cs,k=>∃ cs',k=.box ty cs'∧Bq cs cs'
 | .arr ty S n,k=>k=.arr ty S n
 | .vec ty S es,k=>k=.vec ty S es
 | .lp T nf st pd,k=>k=.lp T nf st pd
 | .mp es,k=>k=.mp es
 | .mf es,k=>k=.mf es
 | .mg en cl es,k=>k=.mg en cl es
 | .it m cl sn,k=>k=.it m cl sn
theorem Xr {k k':Blk} {x:OB} (h:leB k k') (ho:k.ob=some x):k'.ob=some x:=by
 cases k with
 | box ty cs=>cases ho
 | arr ty S n=>cases ho
 | vec ty S es=>cases ho
 | lp T nf st pd=>simp only [leB] at h; subst h; exact ho
 | mp es=>simp only [leB] at h; subst h; exact ho
 | mf es=>simp only [leB] at h; subst h; exact ho
 | mg en cl es=>simp only [leB] at h; subst h; exact ho
 | it m cl sn=>simp only [leB] at h; subst h; exact ho
theorem BB {φ:Nat→Nat} {h h':Qv} {w:World} {M M':QR} (hM:∀ r o,M' r o→M r o) (hh:∀ b k',h' b=some k'→∃ k,h b=some k∧leB k k') :
  (∀ (x:AV) (v:Value),Kb h' x=true→Qf φ h w M x v→Qf φ h' w M' x v)∧(∀ (xs:List AV) (l:List Value),Kj h' xs=true→Qi φ h w M xs l→Qi φ h' w M' xs l):=by
 obtain ⟨kp,ke,kc⟩:=KF (w:=w) (w':=w) (M:=M) (M':=M') (fun r o v h1 h2=>⟨h1,fun h3=>h2 (hM r o h3)⟩)
 have key:∀ n:Nat,(∀ (x:AV),SizeOf.sizeOf x≤n→∀ v,Kb h' x=true→Qf φ h w M x v→Qf φ h' w M' x v)∧(∀ (xs:List AV),SizeOf.sizeOf xs≤n→∀ l,Kj h' xs=true→Qi φ h w M xs l→Qi φ h' w M' xs l):=by
  intro n
  induction n with
  | zero =>
   refine ⟨fun x hx=>?_,fun es hx=>?_⟩
   ·cases x <;> simp at hx
   ·cases es <;> simp at hx
  | succ n ih =>
   obtain ⟨i1,i2⟩:=ih
   refine ⟨fun x hx v hn hv=>?_,fun xs hx l hn hv=>?_⟩
   ·cases x with
    | p x=>simp only [Qf] at hv ⊢; exact kp x v hv
    | tsl S es t =>
     simp only [Kb] at hn
     obtain ⟨k',hk'⟩:=Ls.1 hn
     simp only [Qf] at hv ⊢
     obtain ⟨h1,ty,m,h2,h3⟩:=hv
     obtain ⟨k,e1,e2⟩:=hh t k' hk'
     rw [h2] at e1
     cases e1
     simp only [leB] at e2
     exact ⟨kp _ _ h1,ty,m,by rw [hk',e2],h3⟩
    | ptr b off =>
     simp only [Kb] at hn
     obtain ⟨k',hk'⟩:=Ls.1 hn
     simp only [Qf] at hv ⊢
     obtain ⟨h1,ty,cs,h2⟩:=hv
     obtain ⟨k,e1,e2⟩:=hh b k' hk'
     rw [h2] at e1
     cases e1
     simp only [leB] at e2
     obtain ⟨cs',e3,_⟩:=e2
     exact ⟨h1,ty,cs',by rw [hk',e3]⟩
    | bsl b n =>
     simp only [Kb] at hn
     obtain ⟨k',hk'⟩:=Ls.1 hn
     simp only [Qf] at hv ⊢
     obtain ⟨h1,ty,cs,h2⟩:=hv
     obtain ⟨k,e1,e2⟩:=hh b k' hk'
     rw [h2] at e1
     cases e1
     simp only [leB] at e2
     obtain ⟨cs',e3,_⟩:=e2
     exact ⟨h1,ty,cs',by rw [hk',e3]⟩
    | sfp b =>
     simp only [Kb] at hn
     obtain ⟨k',hk'⟩:=Ls.1 hn
     simp only [Qf] at hv ⊢
     obtain ⟨h1,ty,cs,h2⟩:=hv
     obtain ⟨k,e1,e2⟩:=hh b k' hk'
     rw [h2] at e1
     cases e1
     simp only [leB] at e2
     obtain ⟨cs',e3,_⟩:=e2
     exact ⟨h1,ty,cs',by rw [hk',e3]⟩
    | vnil=>simp only [Qf] at hv ⊢; exact hv
    | vsl S t n =>
     simp only [Kb] at hn
     obtain ⟨k',hk'⟩:=Ls.1 hn
     simp only [Qf] at hv ⊢
     obtain ⟨h1,ty,m,h2,h3⟩:=hv
     obtain ⟨k,e1,e2⟩:=hh t k' hk'
     rw [h2] at e1
     cases e1
     simp only [leB] at e2
     exact ⟨h1,ty,m,by rw [hk',e2],h3⟩
    | vptr t n k f =>
     simp only [Kb] at hn
     obtain ⟨k',hk'⟩:=Ls.1 hn
     simp only [Qf] at hv ⊢
     obtain ⟨h1,ty,S,m,h2,h3⟩:=hv
     obtain ⟨k,e1,e2⟩:=hh t k' hk'
     rw [h2] at e1
     cases e1
     simp only [leB] at e2
     exact ⟨h1,ty,S,m,by rw [hk',e2],h3⟩
    | yv b =>
     simp only [Kb] at hn
     obtain ⟨k',hk'⟩:=Ls.1 hn
     simp only [Qf] at hv ⊢
     obtain ⟨h1,k,T,nf,h2,h3⟩:=hv
     obtain ⟨k2,e1,e2⟩:=hh b k' hk'
     rw [h2] at e1
     cases e1
     exact ⟨h1,k',T,nf,hk',Xr e2 h3⟩
    | mv b =>
     simp only [Kb] at hn
     obtain ⟨k',hk'⟩:=Ls.1 hn
     simp only [Qf] at hv ⊢
     obtain ⟨h1,k,h2,h3⟩:=hv
     obtain ⟨k2,e1,e2⟩:=hh b k' hk'
     rw [h2] at e1
     cases e1
     exact ⟨h1,k',hk',Xr e2 h3⟩
    | iv b =>
     simp only [Kb] at hn
     obtain ⟨k',hk'⟩:=Ls.1 hn
     simp only [Qf] at hv ⊢
     obtain ⟨h1,k,h2,h3⟩:=hv
     obtain ⟨k2,e1,e2⟩:=hh b k' hk'
     rw [h2] at e1
     cases e1
     exact ⟨h1,k',hk',Xr e2 h3⟩
    | eptr cs =>
     simp only [Qf] at hv ⊢
     obtain ⟨r,o,h1,h2⟩:=hv
     exact ⟨r,o,h1,kc cs r o h2⟩
    | agg cs =>
     simp only [Qf,Kb] at hv hn ⊢
     obtain ⟨l,h1,h2⟩:=hv
     exact ⟨l,h1,i2 cs (by simp at hx; omega) l hn h2⟩
    | tup cs =>
     simp only [Qf,Kb] at hv hn ⊢
     obtain ⟨l,h1,h2⟩:=hv
     exact ⟨l,h1,i2 cs (by simp at hx; omega) l hn h2⟩
    | fn f a b =>
     simp only [Qf,Kb,Ki] at hv hn ⊢
     obtain ⟨l,m,h1,h2,h3⟩:=hv
     simp at hx
     exact ⟨l,m,h1,i2 a zo l hn.1 h2,i2 b zo m hn.2 h3⟩
    | ifc t x =>
     simp only [Qf,Kb] at hv hn ⊢
     obtain ⟨y,h1,h2⟩:=hv
     exact ⟨y,h1,i1 x (by simp at hx; omega) y hn h2⟩
   ·cases xs with
    | nil=>simpa [Qi] using hv
    | cons x xs =>
     simp only [Qi,Kj,Ki] at hv hn ⊢
     simp at hx
     obtain ⟨y,ys,h1,h2,h3⟩:=hv
     exact ⟨y,ys,h1,i1 x zo y hn.1 h2,i2 xs zo ys hn.2 h3⟩
 exact ⟨fun x v=>(key (SizeOf.sizeOf x)).1 x (Nat.le_refl _) v,fun xs l=>(key (SizeOf.sizeOf xs)).2 xs (Nat.le_refl _) l⟩
def leO:Option AV→AV→Prop
 | some y,x=>le y x
 | none,_=>False
def eu:Option Blk→Blk→Prop
 | some k,k'=>leB k k'
 | none,_=>False
def E9 (T:Nat→Option AV) (h':Qv):List (Nat × AV)→Prop
 | []=>True
 | (t,x) :: l=>leO (T t) x∧Kb h' x=true∧E9 T h' l
def okRefB (h:Qv):Blk→Bool
 | .box _ cs=>Kj h cs
 | .arr _ _ _=>true
 | .vec _ _ _=>true
 | .lp T _ _ _=>Kj h (T.map (·.2))
 | .mp es=>true
 | .mf es=>Kj h (es.map (·.2.2))
 | .mg _ _ es=>Kj h (es.map (·.2.2))
 | .it m _ _=>(h m).isSome
def Dq (h h':Qv):List (Nat × Blk)→Prop
 | []=>True
 | (b,k) :: l=>eu (h b) k∧okRefB h' k=true∧Dq h h' l
def Ya (h':Qv):List (Nat × Blk)→Bool
 | []=>true
 | (b,_) :: l=>(decide (b < 1000)||(h' b).isSome)&&Ya h' l
theorem Da {T:Nat→Option AV} {h':Qv}:∀ {l:List (Nat × AV)},E9 T h' l→∀ t x,look l t=some x→∃ y,T t=some y∧le y x∧Kb h' x=true
 | [],_,t,x,hx=>by simp [look] at hx
 | (t0,x0) :: l,hs,t,x,hx=>by
  simp only [E9] at hs
  simp only [look] at hx
  by_cases e:t0=t
  ·simp only [e,if_true,Zd] at hx
   subst hx e
   cases hq:T t0 with
   | none=>rw [hq] at hs; exact hs.1.elim
   | some y=>rw [hq] at hs; exact ⟨y,rfl,hs.1,hs.2.1⟩
  ·simp only [e,if_false] at hx
   exact Da hs.2.2 t x hx
theorem Jf {h h':Qv}:∀ {l:List (Nat × Blk)},Dq h h' l→∀ b k',look l b=some k'→(∃ k,h b=some k∧leB k k')∧okRefB h' k'=true
 | [],_,t,x,hx=>by simp [look] at hx
 | (t0,x0) :: l,hs,t,x,hx=>by
  simp only [Dq] at hs
  simp only [look] at hx
  by_cases e:t0=t
  ·simp only [e,if_true,Zd] at hx
   subst hx e
   cases hq:h t0 with
   | none=>rw [hq] at hs; exact hs.1.elim
   | some y=>rw [hq] at hs; exact ⟨⟨y,rfl,hs.1⟩,hs.2.1⟩
  ·simp only [e,if_false] at hx
   exact Jf hs.2.2 t x hx
theorem KQ {h':Qv}:∀ {l:List (Nat × Blk)},Ya h' l=true→∀ b k,1000≤b→look l b=some k→∃ k',h' b=some k'
 | [],_,b,k,_,hx=>by simp [look] at hx
 | (b0,k0) :: l,hs,b,k,hb,hx=>by
  simp only [Ya,Ki,Bool.or_eq_true,decide_eq_true_eq] at hs
  simp only [look] at hx
  by_cases e:b0=b
  ·subst e
   rcases hs.1 with h1 | h1
   ·omega
   ·exact Ls.1 h1
  ·simp only [e,if_false] at hx
   exact KQ hs.2 b k hb hx
theorem FX (h:Qv):∀ (es:List (Value × PV)),Kj h (es.map fun p=>.p p.2)=true
 | []=>rfl
 | x :: es=>by simp only [List.map_cons,Kj,Kb,Bool.true_and]; exact FX h es
theorem Wp {h:Qv}:∀ {es:List (Bool × List UInt8 × AV)},Kj h (es.map (·.2.2))=true→Kj h ((Lu es).map (·.2.2))=true
 | [],_=>rfl
 | (f,k,x) :: es,hx=>by
  simp only [List.map_cons,Kj,Ki] at hx
  cases f with
  | false=>exact Wp (es:=es) hx.2
  | true=>simp only [Lu,List.filter_cons_of_pos,List.map_cons,Kj,Ki]; exact ⟨hx.1,Wp (es:=es) hx.2⟩
theorem Uz {h:Qv}:∀ {T:List (Nat × AV)} {t:Nat} {x:AV},Kj h (T.map (·.2))=true→look T t=some x→Kb h x=true
 | [],t,x,_,hx=>by simp [look] at hx
 | (k,y) :: T,t,x,hT,hx=>by
  simp only [List.map_cons,Kj,Ki] at hT
  simp only [look] at hx
  by_cases e:k=t
  ·simp only [e,if_true,Zd] at hx
   subst hx
   exact hT.1
  ·simp only [e,if_false] at hx
   exact Uz hT.2 hx
theorem fE {N:Nat} {s s':St} (hT:E9 (look s.T) (look s'.H) s'.T) (hH:Dq (look s.H) (look s'.H) s'.H) (hK:Ya (look s'.H) s.H=true) {φ:Nat→Nat} {M0:QR} {D:DB} {a:Act} {w:World} (r:Zw φ M0 N D (look s.T) (look s.H) a w):Zw φ M0 N D (look s'.T) (look s'.H) a w∧Zg φ (look s.H) w φ (look s'.H) w:=by
 have hh:∀ b k',look s'.H b=some k'→∃ k,look s.H b=some k∧leB k k':=fun b k' hb=>(Jf hH b k' hb).1
 have hmut:∀ r o,RF φ (look s'.H) r o→RF φ (look s.H) r o:=by
  rintro x o ⟨b,k',h1,h2,h3⟩
  obtain ⟨k,h4,h5⟩:=hh b k' h1
  refine ⟨b,k,h4,h2,?_⟩
  cases k with
  | box ty cs=>trivial
  | arr ty S n=>simp only [leB] at h5; subst h5; exact h3
  | vec ty S es=>trivial
  | lp T nf st pd=>trivial
  | mp es=>trivial
  | mf es=>trivial
  | mg en cl es=>trivial
  | it m cl sn=>trivial
 have hM:∀ r o,MM φ (look s'.H) M0 r o→MM φ (look s.H) M0 r o:=fun x o hx=>hx.elim (fun h=>.inl (hmut x o h)) .inr
 have hdom:∀ b,look s'.H b ≠ none→look s.H b ≠ none:=fun b hb=>by
  cases hq:look s'.H b with
  | none=>exact absurd hq hb
  | some k'=>obtain ⟨k,h1,_⟩:=hh b k' hq; rw [h1]; simp
 obtain ⟨c1,c2⟩:=BB (φ:=φ) (w:=w) hM hh
 have hRH:ZN φ (look s'.H) w M0:=by
  refine ⟨fun b c hb hc=>r.hp.inj b c (hdom b hb) (hdom c hc),fun b k' hb=>?_,fun b hb=>r.hp.fr b (hdom b hb),r.hp.lt,r.hp.gm.sub hM⟩
  obtain ⟨⟨k,h1,h2⟩,h3⟩:=Jf hH b k' hb
  have h4:=r.hp.blk b k h1
  cases k with
  | box ty cs =>
   simp only [leB] at h2
   obtain ⟨cs',rfl,h5⟩:=h2
   obtain ⟨c,h6,h7⟩:=h4
   exact ⟨c,h6,c2 _ _ h3 (Jt.2 _ _ _ h5 h7)⟩
  | arr ty S n=>simp only [leB] at h2; subst h2; exact h4
  | vec ty S es =>
   simp only [leB] at h2
   subst h2
   obtain ⟨c,cap,g1,g2,g3,g4,g5,g6,g7⟩:=h4
   exact ⟨c,cap,g1,g2,g3,g4,g5,g6,c2 _ _ (BA _ _) g7⟩
  | lp T nf st pd =>
   simp only [leB] at h2
   subst h2
   obtain ⟨tmps,d,g1,g2,g3⟩:=h4
   exact ⟨tmps,d,g1,g2,fun t x ht=>⟨(g3 t x ht).1,c1 _ _ (Uz h3 ht) (g3 t x ht).2⟩⟩
  | mp es =>
   simp only [leB] at h2
   subst h2
   obtain ⟨en,cl,g1,g2,g3⟩:=h4
   exact ⟨en,cl,g1,g2,c2 _ _ (FX _ _) g3⟩
  | mf es =>
   simp only [leB] at h2
   subst h2
   obtain ⟨en,cl,g1,g2,g3,g5⟩:=h4
   exact ⟨en,cl,g1,g2,c2 _ _ (Wp h3) g3,g5⟩
  | mg en cl es =>
   simp only [leB] at h2
   subst h2
   obtain ⟨g1,g2,g3,g5⟩:=h4
   exact ⟨g1,g2,c2 _ _ (Wp h3) g3,g5⟩
  | it m cl sn =>
   simp only [leB] at h2
   subst h2
   obtain ⟨g1,k0,g2,g3⟩:=h4
   obtain ⟨km,hkm⟩:=Ls.1 h3
   obtain ⟨k1,g5,g6⟩:=hh m km hkm
   rw [g2] at g5
   cases g5
   exact ⟨g1,km,hkm,Xr g6 g3⟩
 have hdfs:Marks φ D (look s'.H) a w:=by
  obtain ⟨h0,ms,h1,h2,h3⟩:=r.dfs
  exact ⟨h0,ms,h1,h2,fun x hx=>⟨(h3 x hx).1,(h3 x hx).2.1,fun b hb=>(h3 x hx).2.2 b (hdom b hb)⟩⟩
 refine ⟨⟨hdfs,r.siz,hRH,fun t x ht=>?_⟩,⟨rfl,rfl,rfl,Nat.le_refl _,fun _ _ _=>rfl,fun _ _ _ _=>rfl,fun x o _ hx=>hmut x o hx,?_,?_,?_,?_⟩⟩
 ·obtain ⟨y,h1,h2,h3⟩:=Da hT t x ht
  exact ⟨(r.tm t y h1).1,c1 _ _ h3 (Jt.1 _ _ _ h2 (r.tm t y h1).2)⟩
 ·intro b ty cs hb hbb
  obtain ⟨k',h1⟩:=KQ hK b _ hb hbb
  obtain ⟨k,h2,h3⟩:=hh b k' h1
  rw [hbb] at h2
  cases h2
  simp only [leB] at h3
  obtain ⟨cs',h4,_⟩:=h3
  exact ⟨⟨cs',by rw [h1,h4]⟩,rfl⟩
 ·intro t ty S n ht htt
  obtain ⟨k',h1⟩:=KQ hK t _ ht htt
  obtain ⟨k,h2,h3⟩:=hh t k' h1
  rw [htt] at h2
  cases h2
  simp only [leB] at h3
  exact ⟨n,by rw [h1,h3],Nat.le_refl _,fun _=>YJ (rfl) rfl⟩
 ·intro t ty S n ht htt
  obtain ⟨k',h1⟩:=KQ hK t _ ht htt
  obtain ⟨k,h2,h3⟩:=hh t k' h1
  rw [htt] at h2
  cases h2
  simp only [leB] at h3
  exact ⟨n,by rw [h1,h3],Nat.le_refl _,fun _=>⟨rfl,fun c hc=>⟨c,hc,rfl⟩⟩⟩
 ·intro b k x hb hbb ho
  obtain ⟨k',h1⟩:=KQ hK b _ hb hbb
  obtain ⟨k2,h2,h3⟩:=hh b k' h1
  rw [hbb] at h2
  cases h2
  exact ⟨⟨k',h1,Xr h3 ho⟩,rfl⟩
theorem fF {N:Nat} {s s':St} (hT:E9 (look s.T) (look s'.H) s'.T) (hH:Dq (look s.H) (look s'.H) s'.H) (hK:Ya (look s'.H) s.H=true):Weak N s s' :=
 fun φ _ _ _ _ r=>⟨φ,fE hT hH hK r⟩
attribute [go_sem] TS YN KW Wh Dx EA N8
attribute [go_sem ↓] Yi XN KA ZQ U5
attribute [go_sem] yieldOf ZF Zv VA Vz Zr Nh Ey look WQ Ju St.put Es Ku RA EC aUn q8 EB LB Bd yM N7 Eu AR cellsOf XW AV.one UM J6 XY H5 gX Uw isB elems qW Ew Nc Hz FT WN Ut XZ gJ zg TU nZ zi eqV eqV.eqFs RZ isConst Nb RN Ez C8 Oz Uu LC Xg GL RS isNil Z4 Ia Pe RX WO VV zb U4 Pg yO GR Value.oneCell' Td IV bD ZQ U5 xc GQ RU gL Dy
mutual
def Wv (ρ:Nat→Nat):AV→AV
 | .p x=>.p x
 | .eptr cs=>.eptr cs
 | .tsl S es t=>.tsl S es (ρ t)
 | .ptr b off=>.ptr (ρ b) off
 | .vnil=>.vnil
 | .vsl S t n=>.vsl S (ρ t) n
 | .vptr t n k f=>.vptr (ρ t) n k f
 | .yv b=>.yv (ρ b)
 | .mv b=>.mv (ρ b)
 | .bsl b n=>.bsl (ρ b) n
 | .sfp b=>.sfp (ρ b)
 | .iv b=>.iv (ρ b)
 | .agg cs=>.agg (VD ρ cs)
 | .tup cs=>.tup (VD ρ cs)
 | .fn f a b=>.fn f (VD ρ a) (VD ρ b)
 | .ifc t x=>.ifc t (Wv ρ x)
def VD (ρ:Nat→Nat):List AV→List AV
 | []=>[]
 | x :: xs=>Wv ρ x :: VD ρ xs
end
def Z9 (ρ:Nat→Nat):Blk→Blk
 | .box ty cs=>.box ty (VD ρ cs)
 | .arr ty S n=>.arr ty S n
 | .vec ty S es=>.vec ty S es
 | .lp T nf st pd=>.lp (T.map fun p=>(p.1,Wv ρ p.2)) nf st pd
 | .mp es=>.mp es
 | .mf es=>.mf (es.map fun e=>(e.1,e.2.1,Wv ρ e.2.2))
 | .mg en cl es=>.mg en cl (es.map fun e=>(e.1,e.2.1,Wv ρ e.2.2))
 | .it m cl sn=>.it (ρ m) cl sn
def y5 (ρ:Nat→Nat):OB→OB
 | .lp T nf=>.lp (T.map fun p=>(p.1,Wv ρ p.2)) nf
 | .mp=>.mp
theorem JZ (ρ:Nat→Nat) (k:Blk):(Z9 ρ k).ob=k.ob.map (y5 ρ):=by cases k <;> rfl
theorem eB {ρ:Nat→Nat} {k:Blk} (h:(Z9 ρ k).ob=some .mp):k.ob=some .mp:=by
 rw [JZ] at h
 cases hk:k.ob with
 | none=>rw [hk] at h; cases h
 | some x =>
  rw [hk] at h
  cases x with
  | mp=>rfl
  | lp T nf=>simp [y5] at h
theorem Db (ρ:Nat→Nat):∀ (T:List (Nat × AV)) (t:Nat),look (T.map fun p=>(p.1,Wv ρ p.2)) t=(look T t).map (Wv ρ)
 | [],t=>rfl
 | (k,v) :: T,t=>by
  simp only [List.map_cons,look]
  by_cases e:k=t
  ·simp [e]
  ·simp only [e,if_false]; exact Db ρ T t
theorem OT (ρ:Nat→Nat):∀ (es:List (Value × PV)),VD ρ (es.map fun p=>.p p.2)=es.map fun p=>.p p.2
 | []=>rfl
 | x :: es=>by simp only [List.map_cons,VD,Wv]; rw [OT ρ es]
theorem GZ (ρ:Nat→Nat):∀ (es:List (Bool × List UInt8 × AV)),(Lu (es.map fun e=>(e.1,e.2.1,Wv ρ e.2.2))).map (·.2.2)=VD ρ ((Lu es).map (·.2.2))
 | []=>rfl
 | (f,k,x) :: es=>by
  cases f with
  | false=>exact GZ ρ es
  | true =>
   have:=GZ ρ es
   simp only [Lu] at this ⊢
   simp only [List.map_cons,List.filter_cons_of_pos,VD,this]
theorem G5 (ρ:Nat→Nat):∀ (es:List (Bool × List UInt8 × AV)),(Lu (es.map fun e=>(e.1,e.2.1,Wv ρ e.2.2))).map (fun e=>Ry e.2.1)=(Lu es).map (fun e=>Ry e.2.1)
 | []=>rfl
 | (f,k,x) :: es=>by
  cases f with
  | false=>exact G5 ρ es
  | true =>
   have:=G5 ρ es
   simp only [Lu] at this ⊢
   simp only [List.map_cons,List.filter_cons_of_pos,this]
section
variable {ρ φ φc:Nat→Nat} {h hc:Qv} {w:World} {M Mc:QR}
theorem eD (hφ:∀ c,hc c ≠ none→φc c=φ (ρ c)) (hM:∀ r o,Mc r o→M r o) (hh:∀ c k,hc c=some k→∃ k0,h (ρ c)=some k0∧leB k0 (Z9 ρ k)) :
  (∀ (x:AV) (v:Value),Kb hc x=true→Qf φ h w M (Wv ρ x) v→Qf φc hc w Mc x v)∧(∀ (xs:List AV) (l:List Value),Kj hc xs=true→Qi φ h w M (VD ρ xs) l→Qi φc hc w Mc xs l):=by
 obtain ⟨kp,ke,kc⟩:=KF (w:=w) (w':=w) (M:=M) (M':=Mc) (fun r o v h1 h2=>⟨h1,fun h3=>h2 (hM r o h3)⟩)
 have key:∀ n:Nat,(∀ (x:AV),SizeOf.sizeOf x≤n→∀ v,Kb hc x=true→Qf φ h w M (Wv ρ x) v→Qf φc hc w Mc x v)∧(∀ (xs:List AV),SizeOf.sizeOf xs≤n→∀ l,Kj hc xs=true→Qi φ h w M (VD ρ xs) l→Qi φc hc w Mc xs l):=by
  intro n
  induction n with
  | zero =>
   refine ⟨fun x hx=>?_,fun es hx=>?_⟩
   ·cases x <;> simp at hx
   ·cases es <;> simp at hx
  | succ n ih =>
   obtain ⟨i1,i2⟩:=ih
   refine ⟨fun x hx v hn hv=>?_,fun xs hx l hn hv=>?_⟩
   ·cases x with
    | p x=>simp only [Wv,Qf] at hv ⊢; exact kp x v hv
    | tsl S es t =>
     simp only [Kb] at hn
     obtain ⟨k,hk⟩:=Ls.1 hn
     simp only [Wv,Qf] at hv ⊢
     obtain ⟨h1,ty,m,h2,h3⟩:=hv
     obtain ⟨k0,e1,e2⟩:=hh t k hk
     rw [h2] at e1
     cases e1
     have hkk:k=.arr ty S m:=by
      cases k with
      | arr _ _ _=>simpa [leB,Z9] using e2
      | _=>simp [leB,Z9] at e2
     refine ⟨kp _ _ h1,ty,m,by rw [hk,hkk],?_⟩
     rw [hφ t (by rw [hk]; simp)]
     exact h3
    | ptr b off =>
     simp only [Kb] at hn
     obtain ⟨k,hk⟩:=Ls.1 hn
     simp only [Wv,Qf] at hv ⊢
     obtain ⟨h1,ty,cs,h2⟩:=hv
     obtain ⟨k0,e1,e2⟩:=hh b k hk
     rw [h2] at e1
     cases e1
     cases k with
     | box ty' cs'=>exact ⟨by rw [hφ b (by rw [hk]; simp)]; exact h1,ty',cs',hk⟩
     | _=>simp [leB,Z9] at e2
    | bsl b n =>
     simp only [Kb] at hn
     obtain ⟨k,hk⟩:=Ls.1 hn
     simp only [Wv,Qf] at hv ⊢
     obtain ⟨h1,ty,cs,h2⟩:=hv
     obtain ⟨k0,e1,e2⟩:=hh b k hk
     rw [h2] at e1
     cases e1
     cases k with
     | box ty' cs'=>exact ⟨by rw [hφ b (by rw [hk]; simp)]; exact h1,ty',cs',hk⟩
     | _=>simp [leB,Z9] at e2
    | sfp b =>
     simp only [Kb] at hn
     obtain ⟨k,hk⟩:=Ls.1 hn
     simp only [Wv,Qf] at hv ⊢
     obtain ⟨h1,ty,cs,h2⟩:=hv
     obtain ⟨k0,e1,e2⟩:=hh b k hk
     rw [h2] at e1
     cases e1
     cases k with
     | box ty' cs'=>exact ⟨by rw [hφ b (by rw [hk]; simp)]; exact h1,ty',cs',hk⟩
     | _=>simp [leB,Z9] at e2
    | vnil=>simp only [Wv,Qf] at hv ⊢; exact hv
    | vsl S t n =>
     simp only [Kb] at hn
     obtain ⟨k,hk⟩:=Ls.1 hn
     simp only [Wv,Qf] at hv ⊢
     obtain ⟨h1,ty,m,h2,h3⟩:=hv
     obtain ⟨k0,e1,e2⟩:=hh t k hk
     rw [h2] at e1
     cases e1
     have hkk:k=.vec ty S m:=by
      cases k with
      | vec _ _ _=>simpa [leB,Z9] using e2
      | _=>simp [leB,Z9] at e2
     refine ⟨h1,ty,m,by rw [hk,hkk],?_⟩
     rw [hφ t (by rw [hk]; simp)]
     exact h3
    | vptr t n k f =>
     simp only [Kb] at hn
     obtain ⟨k,hk⟩:=Ls.1 hn
     simp only [Wv,Qf] at hv ⊢
     obtain ⟨h1,ty,S,m,h2,h3⟩:=hv
     obtain ⟨k0,e1,e2⟩:=hh t k hk
     rw [h2] at e1
     cases e1
     have hkk:k=.vec ty S m:=by
      cases k with
      | vec _ _ _=>simpa [leB,Z9] using e2
      | _=>simp [leB,Z9] at e2
     refine ⟨h1,ty,S,m,by rw [hk,hkk],?_⟩
     rw [hφ t (by rw [hk]; simp)]
     exact h3
    | yv b =>
     simp only [Kb] at hn
     obtain ⟨k,hk⟩:=Ls.1 hn
     simp only [Wv,Qf] at hv ⊢
     obtain ⟨h1,k1,T,nf,h2,h3⟩:=hv
     obtain ⟨k0,e1,e2⟩:=hh b k hk
     rw [h2] at e1
     cases e1
     have e3:=Xr e2 h3
     rw [JZ] at e3
     refine ⟨by rw [hφ b (by rw [hk]; simp)]; exact h1,k,?_⟩
     cases k with
     | lp T' nf' st pd=>exact ⟨T',nf',hk,rfl⟩
     | _=>simp [Blk.ob,y5] at e3
    | mv b =>
     simp only [Kb] at hn
     obtain ⟨k,hk⟩:=Ls.1 hn
     simp only [Wv,Qf] at hv ⊢
     obtain ⟨h1,k1,h2,h3⟩:=hv
     obtain ⟨k0,e1,e2⟩:=hh b k hk
     rw [h2] at e1
     cases e1
     have e3:=Xr e2 h3
     rw [JZ] at e3
     refine ⟨by rw [hφ b (by rw [hk]; simp)]; exact h1,k,?_⟩
     cases k with
     | mp es=>exact ⟨hk,rfl⟩
     | mf es=>exact ⟨hk,rfl⟩
     | mg en cl es=>exact ⟨hk,rfl⟩
     | it m cl sn=>exact ⟨hk,rfl⟩
     | _=>simp [Blk.ob,y5] at e3
    | iv b =>
     simp only [Kb] at hn
     obtain ⟨k,hk⟩:=Ls.1 hn
     simp only [Wv,Qf] at hv ⊢
     obtain ⟨h1,k1,h2,h3⟩:=hv
     obtain ⟨k0,e1,e2⟩:=hh b k hk
     rw [h2] at e1
     cases e1
     have e3:=Xr e2 h3
     rw [JZ] at e3
     refine ⟨by rw [hφ b (by rw [hk]; simp)]; exact h1,k,?_⟩
     cases k with
     | mp es=>exact ⟨hk,rfl⟩
     | mf es=>exact ⟨hk,rfl⟩
     | mg en cl es=>exact ⟨hk,rfl⟩
     | it m cl sn=>exact ⟨hk,rfl⟩
     | _=>simp [Blk.ob,y5] at e3
    | eptr cs =>
     simp only [Wv,Qf] at hv ⊢
     obtain ⟨r,o,h1,h2⟩:=hv
     exact ⟨r,o,h1,kc cs r o h2⟩
    | agg cs =>
     simp only [Wv,Qf,Kb] at hv hn ⊢
     obtain ⟨l,h1,h2⟩:=hv
     exact ⟨l,h1,i2 cs (by simp at hx; omega) l hn h2⟩
    | tup cs =>
     simp only [Wv,Qf,Kb] at hv hn ⊢
     obtain ⟨l,h1,h2⟩:=hv
     exact ⟨l,h1,i2 cs (by simp at hx; omega) l hn h2⟩
    | fn f a b =>
     simp only [Wv,Qf,Kb,Ki] at hv hn ⊢
     obtain ⟨l,m,h1,h2,h3⟩:=hv
     simp at hx
     exact ⟨l,m,h1,i2 a zo l hn.1 h2,i2 b zo m hn.2 h3⟩
    | ifc t x =>
     simp only [Wv,Qf,Kb] at hv hn ⊢
     obtain ⟨y,h1,h2⟩:=hv
     exact ⟨y,h1,i1 x (by simp at hx; omega) y hn h2⟩
   ·cases xs with
    | nil=>simpa [VD,Qi] using hv
    | cons x xs =>
     simp only [VD,Qi,Kj,Ki] at hv hn ⊢
     simp at hx
     obtain ⟨y,ys,h1,h2,h3⟩:=hv
     exact ⟨y,ys,h1,i1 x zo y hn.1 h2,i2 xs zo ys hn.2 h3⟩
 exact ⟨fun x v=>(key (SizeOf.sizeOf x)).1 x (Nat.le_refl _) v,fun xs l=>(key (SizeOf.sizeOf xs)).2 xs (Nat.le_refl _) l⟩
theorem zH (hφ:∀ c,hc c ≠ none→φ (ρ c)=φc c) (hM:∀ r o v,w.cell? ⟨r,o,none⟩=some v→M r o→Mc r o) (hh:∀ c k,hc c=some k→h (ρ c)=some (Z9 ρ k)) :
  (∀ (x:AV) (v:Value),Qf φc hc w Mc x v→Qf φ h w M (Wv ρ x) v)∧(∀ (xs:List AV) (l:List Value),Qi φc hc w Mc xs l→Qi φ h w M (VD ρ xs) l):=by
 obtain ⟨kp,ke,kc⟩:=KF (w:=w) (w':=w) (M:=Mc) (M':=M) (fun r o v h1 h2=>⟨h1,fun h3=>h2 (hM r o v h1 h3)⟩)
 have key:∀ n:Nat,(∀ (x:AV),SizeOf.sizeOf x≤n→∀ v,Qf φc hc w Mc x v→Qf φ h w M (Wv ρ x) v)∧(∀ (xs:List AV),SizeOf.sizeOf xs≤n→∀ l,Qi φc hc w Mc xs l→Qi φ h w M (VD ρ xs) l):=by
  intro n
  induction n with
  | zero =>
   refine ⟨fun x hx=>?_,fun es hx=>?_⟩
   ·cases x <;> simp at hx
   ·cases es <;> simp at hx
  | succ n ih =>
   obtain ⟨i1,i2⟩:=ih
   refine ⟨fun x hx v hv=>?_,fun xs hx l hv=>?_⟩
   ·cases x with
    | p x=>simp only [Wv,Qf] at hv ⊢; exact kp x v hv
    | tsl S es t =>
     simp only [Wv,Qf] at hv ⊢
     obtain ⟨h1,ty,m,h2,h3⟩:=hv
     refine ⟨kp _ _ h1,ty,m,by rw [hh t _ h2]; rfl,?_⟩
     rw [hφ t (by rw [h2]; simp)]
     exact h3
    | ptr b off =>
     simp only [Wv,Qf] at hv ⊢
     obtain ⟨h1,ty,cs,h2⟩:=hv
     exact ⟨by rw [hφ b (by rw [h2]; simp)]; exact h1,ty,VD ρ cs,by rw [hh b _ h2]; rfl⟩
    | bsl b n =>
     simp only [Wv,Qf] at hv ⊢
     obtain ⟨h1,ty,cs,h2⟩:=hv
     exact ⟨by rw [hφ b (by rw [h2]; simp)]; exact h1,ty,VD ρ cs,by rw [hh b _ h2]; rfl⟩
    | sfp b =>
     simp only [Wv,Qf] at hv ⊢
     obtain ⟨h1,ty,cs,h2⟩:=hv
     exact ⟨by rw [hφ b (by rw [h2]; simp)]; exact h1,ty,VD ρ cs,by rw [hh b _ h2]; rfl⟩
    | vnil=>simp only [Wv,Qf] at hv ⊢; exact hv
    | vsl S t n =>
     simp only [Wv,Qf] at hv ⊢
     obtain ⟨h1,ty,m,h2,h3⟩:=hv
     refine ⟨h1,ty,m,by rw [hh t _ h2]; rfl,?_⟩
     rw [hφ t (by rw [h2]; simp)]
     exact h3
    | vptr t n k f =>
     simp only [Wv,Qf] at hv ⊢
     obtain ⟨h1,ty,S,m,h2,h3⟩:=hv
     refine ⟨h1,ty,S,m,by rw [hh t _ h2]; rfl,?_⟩
     rw [hφ t (by rw [h2]; simp)]
     exact h3
    | yv b =>
     simp only [Wv,Qf] at hv ⊢
     obtain ⟨h1,k,T,nf,h2,h3⟩:=hv
     exact ⟨by rw [hφ b (by rw [h2]; simp)]; exact h1,Z9 ρ k,_,nf,hh b _ h2,by rw [JZ,h3]; rfl⟩
    | mv b =>
     simp only [Wv,Qf] at hv ⊢
     obtain ⟨h1,k,h2,h3⟩:=hv
     exact ⟨by rw [hφ b (by rw [h2]; simp)]; exact h1,Z9 ρ k,hh b _ h2,by rw [JZ,h3]; rfl⟩
    | iv b =>
     simp only [Wv,Qf] at hv ⊢
     obtain ⟨h1,k,h2,h3⟩:=hv
     exact ⟨by rw [hφ b (by rw [h2]; simp)]; exact h1,Z9 ρ k,hh b _ h2,by rw [JZ,h3]; rfl⟩
    | eptr cs =>
     simp only [Wv,Qf] at hv ⊢
     obtain ⟨r,o,h1,h2⟩:=hv
     exact ⟨r,o,h1,kc cs r o h2⟩
    | agg cs =>
     simp only [Wv,Qf] at hv ⊢
     obtain ⟨l,h1,h2⟩:=hv
     exact ⟨l,h1,i2 cs (by simp at hx; omega) l h2⟩
    | tup cs =>
     simp only [Wv,Qf] at hv ⊢
     obtain ⟨l,h1,h2⟩:=hv
     exact ⟨l,h1,i2 cs (by simp at hx; omega) l h2⟩
    | fn f a b =>
     simp only [Wv,Qf] at hv ⊢
     obtain ⟨l,m,h1,h2,h3⟩:=hv
     simp at hx
     exact ⟨l,m,h1,i2 a zo l h2,i2 b zo m h3⟩
    | ifc t x =>
     simp only [Wv,Qf] at hv ⊢
     obtain ⟨y,h1,h2⟩:=hv
     exact ⟨y,h1,i1 x (by simp at hx; omega) y h2⟩
   ·cases xs with
    | nil=>simpa [VD,Qi] using hv
    | cons x xs =>
     simp only [VD,Qi] at hv ⊢
     simp at hx
     obtain ⟨y,ys,h1,h2,h3⟩:=hv
     exact ⟨y,ys,h1,i1 x zo y h2,i2 xs zo ys h3⟩
 exact ⟨fun x v=>(key (SizeOf.sizeOf x)).1 x (Nat.le_refl _) v,fun xs l=>(key (SizeOf.sizeOf xs)).2 xs (Nat.le_refl _) l⟩
theorem bG (hφ:∀ c,hc c ≠ none→φ (ρ c)=φc c) (hM:∀ r o,M r o→Mc r o) (hh:∀ c k,hc c=some k→h (ρ c)=some (Z9 ρ k)) :
  (∀ (x:AV) (v:Value),Qf φc hc w Mc x v→Qf φ h w M (Wv ρ x) v)∧(∀ (xs:List AV) (l:List Value),Qi φc hc w Mc xs l→Qi φ h w M (VD ρ xs) l) :=
 zH hφ (fun r o _ _=>hM r o) hh
end
def Kh (ρ:Nat→Nat) (hc':List (Nat × Blk)) (H:List (Nat × Blk)):List (Nat × Blk):=hc'.map (fun p=>(ρ p.1,Z9 ρ p.2))++H
def H9 (ρ:Nat→Nat) (hc hc' H:List (Nat × Blk)):Prop :=
 (∀ c ∈ hc.map (·.1),c ∈ hc'.map (·.1))∧(∀ c ∈ hc'.map (·.1),c ∈ hc.map (·.1)∨look H (ρ c)=none)∧(∀ c ∈ hc'.map (·.1),∀ d ∈ hc'.map (·.1),ρ c=ρ d→c=d)
theorem Ns {φ φ':Nat→Nat} {h h':Qv} {w:World} {M M':QR} (hk:∀ r o v,w.cell? ⟨r,o,none⟩=some v→M' r o→M r o):∀ (l:List PV) (vs:List Value),Qi φ h w M (l.map .p) vs→Qi φ' h' w M' (l.map .p) vs
 | [],vs,hv=>by simpa [Qi] using hv
 | x :: l,vs,hv=>by
  simp only [List.map_cons,Qi,Qf] at hv ⊢
  obtain ⟨y,ys,h1,h2,h3⟩:=hv
  exact ⟨y,ys,h1,(KF (w:=w) (w':=w) (M:=M) (M':=M') (fun r o v h1 h2=>⟨h1,fun h3=>h2 (hk r o v h1 h3)⟩)).1 x y h2,Ns hk l ys h3⟩
theorem BC {φ φ':Nat→Nat} {h h':Qv} {w:World} {M M':QR} (hk:∀ r o,M' r o→M r o) (l:List PV) (vs:List Value):Qi φ h w M (l.map .p) vs→Qi φ' h' w M' (l.map .p) vs :=
 Ns (fun r o _ _=>hk r o) l vs
theorem Ti {α:Type}:∀ (a b:List (Nat × α)) (t:Nat),look (a++b) t=match look a t with | some v=>some v | none=>look b t
 | [],b,t=>rfl
 | (k,v) :: a,b,t=>by
  simp only [List.cons_append,look]
  by_cases e:k=t
  ·simp [e]
  ·simp only [e,if_false]; exact Ti a b t
theorem YE {α:Type}:∀ {a:List (Nat × α)} {t:Nat},look a t ≠ none↔t ∈ a.map (·.1)
 | [],t=>by simp [look]
 | (k,v) :: a,t=>by
  simp only [look,List.map_cons,List.mem_cons]
  by_cases e:k=t
  ·simp [e]
  ·simp only [e,if_false,YE]
   constructor
   ·exact .inr
   ·rintro (h | h)
    ·exact absurd h.symm e
    ·exact h
theorem Sd {ρ:Nat→Nat}:∀ {hc:List (Nat × Blk)} {t:Nat},(∀ c d,c ∈ hc.map (·.1)→d ∈ t :: hc.map (·.1)→ρ c=ρ d→c=d)→look (hc.map (fun p=>(ρ p.1,Z9 ρ p.2))) (ρ t)=(look hc t).map (Z9 ρ)
 | [],t,_=>rfl
 | (k,v) :: hc,t,hi=>by
  simp only [List.map_cons,look]
  by_cases e:k=t
  ·simp [e]
  ·have:¬ ρ k=ρ t:=fun h=>e (hi k t zq zq h)
   simp only [e,this,if_false]
   refine Sd (fun c d hc hd h=>hi c d (by simp at hc ⊢; exact .inr hc) ?_ h)
   simp at hd ⊢
   rcases hd with hd | hd
   ·exact .inl hd
   ·exact .inr (.inr hd)
theorem DC {ρ:Nat→Nat}:∀ {hc:List (Nat × Blk)} {b:Nat},(∀ c,c ∈ hc.map (·.1)→ρ c ≠ b)→look (hc.map (fun p=>(ρ p.1,Z9 ρ p.2))) b=none
 | [],b,_=>rfl
 | (k,v) :: hc,b,hi=>by
  simp only [List.map_cons,look]
  have:¬ ρ k=b:=hi k zq
  simp only [this,if_false]
  exact DC (fun c hc=>hi c (by simp at hc ⊢; exact .inr hc))
theorem U6:∀ (l:List Nat) (x:Nat),x ∈ l→x≤l.foldr max 0
 | a :: l,x,h=>by
  simp only [List.foldr_cons]
  rcases List.mem_cons.1 h with e | e
  ·subst e; exact Nat.le_max_left _ _
  ·exact Nat.le_trans (U6 l x e) (Nat.le_max_right _ _)
theorem D5 {C:(Nat→Nat)→Array Value→World→(Ending→World→Prop)→Prop} (hmono:∀ φ vs w R R',C φ vs w R→(∀ e w',R e w'→R' e w')→C φ vs w R')
  {N:Nat} {args args':List AV} {dst:Option Tmp} {s:St} {K:St→Prop} {Q:AX→St→Prop} {hc:List (Nat × Blk)} {R:Z0→Qv→Prop} (ρ:Nat→Nat)
  (hcall:∀ φ M0 w vs,ZN φ (look hc) w M0→Qi φ (look hc) w (MM φ (look hc) M0) args' vs→C φ vs.toArray w fun e w'=>∃ φ' r h',R r h'∧ZN φ' h' w' M0∧Zg φ (look hc) w φ' h' w'∧gZ φ' h' w' (MM φ' h' M0) r e)
  (hargs:Bq args (VD ρ args')) (hok:Kj (look hc) args'=true)
  (hbig:∀ c ∈ hc.map (·.1),1000≤c) (hokb:∀ c k,look hc c=some k→okRefB (look hc) k=true)
  (hsub:∀ c k,look hc c=some k→∃ k0,look s.H (ρ c)=some k0∧leB k0 (Z9 ρ k))
  (hinj:∀ c ∈ hc.map (·.1),∀ d ∈ hc.map (·.1),ρ c=ρ d→c=d) (hd:∀ t,dst=some t→t < N)
  (hret:∀ r h',R r h'→∃ hc' H2,h'=look hc'∧H9 ρ hc hc' s.H∧(∀ b,look H2 b=look (Kh ρ hc' s.H) b) ∧
   (match r with | .ret x=>K (St.put ⟨s.T,H2⟩ dst (Wv ρ x)) | .panic x=>Q (.panic (Wv ρ x)) ⟨s.T,H2⟩)) :
  ∀ φ M0 D a w vs,Zw φ M0 N D (look s.T) (look s.H) a w→Qi φ (look s.H) w (MM φ (look s.H) M0) args vs→C (fun c=>φ (ρ c)) vs.toArray w fun e w' =>
   match e with
   | .returned v=>∃ φ' s',K s'∧Zw φ' M0 N D (look s'.T) (look s'.H) (a.put dst v) w'∧Zg φ (look s.H) w φ' (look s'.H) w'
   | .panicked chain=>Post N D Q φ M0 (look s.H) w (.panic chain) a w'
   | .outgrown=>False:=by
 intro φ M0 D a w vs r ha
 let hr:Qv:=fun b=>if b ∈ (hc.map (·.1)).map ρ then none else look s.H b
 let φc:Nat→Nat:=fun c=>φ (ρ c)
 have hrh:∀ b k,hr b=some k→look s.H b=some k∧b ∉ (hc.map (·.1)).map ρ:=by
  intro b k hb
  simp only [hr] at hb
  split at hb
  ·cases hb
  ·rename_i hn; exact ⟨hb,hn⟩
 have hmutr:∀ x o,RF φ hr x o→RF φ (look s.H) x o:=by
  rintro x o ⟨b,k,h1,h2,h3⟩
  exact ⟨b,k,(hrh b k h1).1,h2,h3⟩
 have hdomc:∀ c,look hc c ≠ none→c ∈ hc.map (·.1):=fun c h=>YE.1 h
 have hmutc:∀ x o,RF φc (look hc) x o→RF φ (look s.H) x o:=by
  rintro x o ⟨c,k,h1,h2,h3⟩
  obtain ⟨k0,h4,h5⟩:=hsub c k h1
  refine ⟨ρ c,k0,h4,h2,?_⟩
  cases k0 with
  | arr ty S n =>
   cases k with
   | arr ty' S' n'=>simp only [leB,Z9,Blk.arr.injEq] at h5; obtain ⟨rfl,rfl,rfl⟩:=h5; exact h3
   | _=>simp [leB,Z9] at h5
  | _=>trivial
 have hMc:∀ x o,MM φc (look hc) (MB φ hr w M0) x o→MM φ (look s.H) M0 x o:=by
  rintro x o (h1 | ⟨h1 | h1,_⟩)
  ·exact .inl (hmutc x o h1)
  ·exact .inl (hmutr x o h1)
  ·exact .inr h1
 obtain ⟨in1,in2⟩:=eD (w:=w) (ρ:=ρ) (φ:=φ) (φc:=φc) (h:=look s.H) (hc:=look hc) (fun _ _=>rfl) hMc hsub
 have hHc:ZN φc (look hc) w (MB φ hr w M0):=by
  refine ⟨fun c d hcc hdd he=>?_,fun c k hk=>?_,fun c hcc o hm=>?_,fun x o hm=>?_,r.hp.gm.sub hMc⟩
  ·obtain ⟨kc,hkc⟩:=P7.1 hcc
   obtain ⟨kd,hkd⟩:=P7.1 hdd
   obtain ⟨k0,e0,_⟩:=hsub c kc hkc
   obtain ⟨k1,e1,_⟩:=hsub d kd hkd
   exact hinj c (hdomc c hcc) d (hdomc d hdd) (r.hp.inj (ρ c) (ρ d) (by rw [e0]; simp) (by rw [e1]; simp) he)
  ·obtain ⟨k0,h1,h2⟩:=hsub c k hk
   have h3:=r.hp.blk (ρ c) k0 h1
   cases k with
   | box ty cs =>
    cases k0 with
    | box qG cs0 =>
     simp only [leB,Z9,Blk.box.injEq] at h2
     obtain ⟨cs',⟨e1,e2⟩,h5⟩:=h2
     obtain ⟨c0,h6,h7⟩:=h3
     refine ⟨c0,by rw [e1]; exact h6,in2 _ _ (hokb c _ hk) ?_⟩
     rw [e2]
     exact Jt.2 _ _ _ h5 h7
    | _=>simp [leB,Z9] at h2
   | arr ty S n =>
    cases k0 with
    | arr qG S0 n0=>simp only [leB,Z9,Blk.arr.injEq] at h2; obtain ⟨rfl,rfl,rfl⟩:=h2; exact h3
    | _=>simp [leB,Z9] at h2
   | vec ty S es =>
    cases k0 with
    | vec qG S0 n0 =>
     simp only [leB,Z9,Blk.vec.injEq] at h2
     obtain ⟨rfl,rfl,rfl⟩:=h2
     obtain ⟨c0,cap,g1,g2,g3,g4,g5,g6,g7⟩:=h3
     exact ⟨c0,cap,g1,g2,g3,g4,g5,g6,BC hMc _ _ g7⟩
    | _=>simp [leB,Z9] at h2
   | lp T nf st pd =>
    cases k0 with
    | lp T0 nf0 st0 pd0 =>
     simp only [leB,Z9,Blk.lp.injEq] at h2
     obtain ⟨rfl,rfl,rfl,rfl⟩:=h2
     obtain ⟨tmps,d,g1,g2,g3⟩:=h3
     refine ⟨tmps,d,g1,g2,fun t x ht=>?_⟩
     have g4:=g3 t (Wv ρ x) (by rw [Db,ht]; rfl)
     exact ⟨g4.1,in1 _ _ (Uz (hokb c _ hk) ht) g4.2⟩
    | _=>simp [leB,Z9] at h2
   | mp es =>
    cases k0 with
    | mp es0 =>
     simp only [leB,Z9,Blk.mp.injEq] at h2
     subst h2
     obtain ⟨en,cl,g1,g2,g3⟩:=h3
     refine ⟨en,cl,g1,g2,in2 _ _ (FX _ _) ?_⟩
     rw [OT]; exact g3
    | _=>simp [leB,Z9] at h2
   | mf es =>
    cases k0 with
    | mf es0 =>
     simp only [leB,Z9,Blk.mf.injEq] at h2
     subst h2
     obtain ⟨en,cl,g1,g2,g3,g4⟩:=h3
     rw [G5] at g2
     rw [GZ] at g3
     exact ⟨en,cl,g1,g2,in2 _ _ (Wp (hokb c _ hk)) g3,g4⟩
    | _=>simp [leB,Z9] at h2
   | mg en cl es =>
    cases k0 with
    | mg en0 cl0 es0 =>
     simp only [leB,Z9,Blk.mg.injEq] at h2
     obtain ⟨rfl,rfl,rfl⟩:=h2
     obtain ⟨g1,g2,g3,g4⟩:=h3
     rw [G5] at g2
     rw [GZ] at g3
     exact ⟨g1,g2,in2 _ _ (Wp (hokb c _ hk)) g3,g4⟩
    | _=>simp [leB,Z9] at h2
   | it m cl sn =>
    cases k0 with
    | it m0 cl0 sn0 =>
     simp only [leB,Z9,Blk.it.injEq] at h2
     obtain ⟨e1,rfl,rfl⟩:=h2
     obtain ⟨g1,k1,g2,g3⟩:=h3
     obtain ⟨km,hkm⟩:=Ls.1 (hokb c _ hk)
     obtain ⟨k2,g4,g5⟩:=hsub m km hkm
     rw [← e1] at g1 g2
     rw [g2] at g4
     cases g4
     exact ⟨g1,km,hkm,eB (Xr g5 g3)⟩
    | _=>simp [leB,Z9] at h2
  ·obtain ⟨kc,hkc⟩:=P7.1 hcc
   obtain ⟨k0,e0,_⟩:=hsub c kc hkc
   rcases hm with ⟨⟨b,k,h1,h2,_⟩ | hm,_⟩
   ·obtain ⟨h4,h5⟩:=hrh b k h1
    have:=r.hp.inj b (ρ c) (by rw [h4]; simp) (by rw [e0]; simp) h2
    exact h5 (by rw [this]; exact List.mem_map_of_mem (hdomc c hcc))
   ·exact r.hp.fr (ρ c) (by rw [e0]; simp) o hm
  ·exact hm.2
 refine hmono _ _ _ _ _ (hcall φc (MB φ hr w M0) w vs hHc (in2 _ _ hok (Jt.2 _ _ _ hargs ha))) ?_
 rintro e w' ⟨φc',res,h',hR,hHc',E,hE⟩
 obtain ⟨hc',H2,rfl,⟨hd1,hd2,hd3⟩,hH2,hfin⟩:=hret res h' hR
 have hH2':look H2=look (Kh ρ hc' s.H):=funext hH2
 have hnb:∀ b k,look s.H b=some k→b ∉ (hc.map (·.1)).map ρ→b ∉ (hc'.map (·.1)).map ρ:=by
  intro b k hb hn hm
  obtain ⟨c,hcm,rfl⟩:=List.mem_map.1 hm
  rcases hd2 c hcm with h1 | h1
  ·exact hn (List.mem_map_of_mem h1)
  ·rw [h1] at hb; cases hb
 have hsubr:∀ b,b ∉ (hc'.map (·.1)).map ρ→b ∉ (hc.map (·.1)).map ρ:=by
  intro b hn hm
  obtain ⟨c,hcm,rfl⟩:=List.mem_map.1 hm
  exact hn (List.mem_map_of_mem (hd1 c hcm))
 obtain ⟨KK,hKK⟩:∃ KK,KK=w'.heap.size+((hc'.map (·.1)).map φc').foldr max 0+1:=⟨_,rfl⟩
 have hψlt:∀ b,φ b < w.heap.size→K7 φ w.heap.size KK b=φ b:=fun b hb=>by simp [K7,hb]
 have hψge:∀ b,¬ φ b < w.heap.size→K7 φ w.heap.size KK b=φ b+KK:=fun b hb=>by simp [K7,hb]
 have hψc:∀ b c,c ∈ hc'.map (·.1)→¬ φ b < w.heap.size→φc' c < K7 φ w.heap.size KK b:=by
  intro b c hcm hb
  have:=U6 ((hc'.map (·.1)).map φc') (φc' c) (List.mem_map_of_mem hcm)
  rw [hψge b hb]; omega
 have hψinj:∀ b d,K7 φ w.heap.size KK b=K7 φ w.heap.size KK d→φ b=φ d:=by
  intro b d e
  by_cases e1:φ b < w.heap.size <;> by_cases e2:φ d < w.heap.size
  ·rw [hψlt b e1,hψlt d e2] at e; exact e
  ·rw [hψlt b e1,hψge d e2] at e; omega
  ·rw [hψge b e1,hψlt d e2] at e; omega
  ·rw [hψge b e1,hψge d e2] at e; omega
 have hex:∃ φ':Nat→Nat,(∀ c,c ∈ hc'.map (·.1)→φ' (ρ c)=φc' c)∧(∀ b,b ∉ (hc'.map (·.1)).map ρ→φ' b=K7 φ w.heap.size KK b):=by
  refine ⟨fun b=>match (hc'.map (·.1)).find? (fun c=>ρ c == b) with | some c=>φc' c | none=>K7 φ w.heap.size KK b,fun c hcc=>?_,fun b hb=>?_⟩
  ·cases hf:(hc'.map (·.1)).find? (fun d=>ρ d == ρ c) with
   | none =>
    have:=List.find?_eq_none.1 hf c hcc
    simp at this
   | some d =>
    have h1:=List.find?_some hf
    have h2:=List.mem_of_find?_eq_some hf
    simp only [beq_iff_eq] at h1
    simp only [hf]
    rw [hd3 d h2 c hcc h1]
  ·cases hf:(hc'.map (·.1)).find? (fun d=>ρ d == b) with
   | none=>simp only [hf]
   | some d =>
    have h1:=List.find?_some hf
    have h2:=List.mem_of_find?_eq_some hf
    simp only [beq_iff_eq] at h1
    exact absurd (by rw [← h1]; exact List.mem_map_of_mem h2) hb
 obtain ⟨φ',hφ1,hφ2⟩:=hex
 have hin:∀ c k,look hc' c=some k→c ∈ hc'.map (·.1):=fun c k hk=>YE.1 (by rw [hk]; simp)
 have hlookI:∀ c k,look hc' c=some k→look (Kh ρ hc' s.H) (ρ c)=some (Z9 ρ k):=by
  intro c k hk
  unfold Kh
  rw [Ti,Sd (fun x y hx hy hxy=>hd3 x hx y (by rcases List.mem_cons.1 hy with rfl | hy; exact hin _ _ hk; exact hy) hxy),hk]
  rfl
 have hlookR:∀ b,b ∉ (hc'.map (·.1)).map ρ→look (Kh ρ hc' s.H) b=look s.H b:=by
  intro b hb
  unfold Kh
  rw [Ti,DC (fun c hcc e=>hb (by rw [← e]; exact List.mem_map_of_mem hcc))]
 have hcase:∀ b k,look (Kh ρ hc' s.H) b=some k→(∃ c k',look hc' c=some k'∧ρ c=b∧k=Z9 ρ k')∨(b ∉ (hc'.map (·.1)).map ρ∧look s.H b=some k):=by
  intro b k hb
  by_cases hm:b ∈ (hc'.map (·.1)).map ρ
  ·obtain ⟨c,hcm,rfl⟩:=List.mem_map.1 hm
   obtain ⟨k',hk'⟩:=P7.1 (YE.2 hcm)
   rw [hlookI c k' hk'] at hb
   exact .inl ⟨c,k',hk',rfl,(Option.some.inj hb).symm⟩
  ·exact .inr ⟨hm,by rw [← hlookR b hm]; exact hb⟩
 have hmut':∀ x o,RF φ' (look (Kh ρ hc' s.H)) x o→RF φc' (look hc') x o∨(RF φ hr x o∧x < w.heap.size)∨w'.heap.size≤x:=by
  rintro x o ⟨b,k,h1,h2,h3⟩
  rcases hcase b k h1 with ⟨c,k',g1,rfl,rfl⟩ | ⟨g1,g2⟩
  ·left
   refine ⟨c,k',g1,?_,?_⟩
   ·rw [← hφ1 c (hin _ _ g1)]; exact h2
   ·cases k' <;> exact h3
  ·right
   rw [hφ2 b g1] at h2
   by_cases hlt:φ b < w.heap.size
   ·rw [hψlt b hlt] at h2
    exact .inl ⟨⟨b,k,by simp only [hr]; rw [if_neg (hsubr b g1)]; exact g2,h2,h3⟩,by omega⟩
   ·rw [hψge b hlt] at h2
    exact .inr zo
 have hM':∀ x o v,w'.cell? ⟨x,o,none⟩=some v→MM φ' (look (Kh ρ hc' s.H)) M0 x o→MM φc' (look hc') (MB φ hr w M0) x o:=by
  rintro x o v hcell (h1 | h1)
  ·rcases hmut' x o h1 with h2 | h2 | h2
   ·exact .inl h2
   ·exact .inr ⟨.inl h2.1,h2.2⟩
   ·have:=CZ hcell; omega
  ·exact .inr ⟨.inr h1,r.hp.lt x o h1⟩
 obtain ⟨out1,out2⟩:=zH (w:=w') (ρ:=ρ) (φ:=φ') (φc:=φc') (h:=look (Kh ρ hc' s.H)) (hc:=look hc') (fun c hcc=>hφ1 c (YE.1 hcc)) hM' hlookI
 have hE1:Zg φ (look s.H) w φ' (look (Kh ρ hc' s.H)) w'∧YM φ (look s.H) w φ' (look (Kh ρ hc' s.H)) w':=by
  have hb:∀ b ty cs,look s.H b=some (.box ty cs)→(∃ cs',look (Kh ρ hc' s.H) b=some (.box ty cs'))∧φ' b=φ b:=by
   intro b ty cs hb
   by_cases hm:b ∈ (hc.map (·.1)).map ρ
   ·obtain ⟨c,hcm,rfl⟩:=List.mem_map.1 hm
    obtain ⟨k,hk⟩:=P7.1 (YE.2 hcm)
    obtain ⟨k0,e0,e1⟩:=hsub c k hk
    rw [hb] at e0
    cases e0
    cases k with
    | box NM cs1 =>
     simp only [leB,Z9,Blk.box.injEq] at e1
     obtain ⟨cs2,⟨e2,_⟩,_⟩:=e1
     obtain ⟨⟨cs3,e3⟩,e4⟩:=E.kb c NM cs1 (hbig c hcm) hk
     refine ⟨⟨VD ρ cs3,by rw [hlookI c _ e3,e2]; rfl⟩,by rw [hφ1 c (hd1 c hcm),e4]⟩
    | _=>simp [leB,Z9] at e1
   ·have hm':=hnb b _ hb hm
    exact ⟨⟨cs,by rw [hlookR b hm']; exact hb⟩,(hφ2 b hm').trans (Hy r.hp KK hb (fun _ _ e=>by cases e))⟩
  have ht:∀ t ty S n,look s.H t=some (.arr ty S n)→∃ n',look (Kh ρ hc' s.H) t=some (.arr ty S n')∧n≤n' ∧
    (n'=n→AKept w w' (φ t) (φ' t) ty):=by
   intro t ty S n htt
   by_cases hm:t ∈ (hc.map (·.1)).map ρ
   ·obtain ⟨c,hcm,rfl⟩:=List.mem_map.1 hm
    obtain ⟨k,hk⟩:=P7.1 (YE.2 hcm)
    obtain ⟨k0,e0,e1⟩:=hsub c k hk
    rw [htt] at e0
    cases e0
    cases k with
    | arr NM S1 n1 =>
     simp only [leB,Z9,Blk.arr.injEq] at e1
     obtain ⟨rfl,rfl,rfl⟩:=e1
     obtain ⟨n',e3,e4,e5⟩:=E.kt c NM S1 n1 (hbig c hcm) hk
     refine ⟨n',by rw [hlookI c _ e3]; rfl,e4,fun e6=>?_⟩
     obtain ⟨e9,e10⟩:=e5 e6
     refine ⟨fun h0=>by rw [hφ1 c (hd1 c hcm)]; exact e9 h0,?_⟩
     rcases e10 with e7 | ⟨e7,e8⟩
     ·exact .inl e7
     exact .inr ⟨by rw [hφ1 c (hd1 c hcm),e7],e8⟩
    | _=>simp [leB,Z9] at e1
   ·have hm':=hnb t _ htt hm
    refine ⟨n,by rw [hlookR t hm']; exact htt,Nat.le_refl _,fun _=>?_⟩
    by_cases hlt:φ t < w.heap.size
    rotate_left
    ·exact DU (ZZ zo) (by rw [hφ2 t hm',hψge t hlt]; exact ZZ zo)
    refine YJ ((hφ2 t hm').trans (hψlt t hlt)) (E.same (φ t) hlt (fun d hdd he=>?_))
    ·obtain ⟨kd,hkd⟩:=P7.1 hdd
     obtain ⟨k0,e0,_⟩:=hsub d kd hkd
     have:=r.hp.inj (ρ d) t (by rw [e0]; simp) (by rw [htt]; simp) he
     exact hm (by rw [← this]; exact List.mem_map_of_mem (hdomc d hdd))
  have hv:∀ t ty S n,look s.H t=some (.vec ty S n)→∃ n',look (Kh ρ hc' s.H) t=some (.vec ty S n')∧n.length≤n'.length ∧
    (n'.length=n.length→φ' t=φ t∧∀ c,w.heap[φ t]?=some (.cells c ty (0,0))→∃ c',w'.heap[φ t]?=some (.cells c' ty (0,0))∧c'.size=c.size):=by
   intro t ty S n htt
   by_cases hm:t ∈ (hc.map (·.1)).map ρ
   ·obtain ⟨c,hcm,rfl⟩:=List.mem_map.1 hm
    obtain ⟨k,hk⟩:=P7.1 (YE.2 hcm)
    obtain ⟨k0,e0,e1⟩:=hsub c k hk
    rw [htt] at e0
    cases e0
    cases k with
    | vec NM S1 n1 =>
     simp only [leB,Z9,Blk.vec.injEq] at e1
     obtain ⟨rfl,rfl,rfl⟩:=e1
     obtain ⟨n',e3,e4,e5⟩:=E.kv c NM S1 n1 (hbig c hcm) hk
     refine ⟨n',by rw [hlookI c _ e3]; rfl,e4,fun e6=>?_⟩
     obtain ⟨e7,e8⟩:=e5 e6
     exact ⟨by rw [hφ1 c (hd1 c hcm),e7],e8⟩
    | _=>simp [leB,Z9] at e1
   ·have hm':=hnb t _ htt hm
    refine ⟨n,by rw [hlookR t hm']; exact htt,Nat.le_refl _,fun _=>⟨(hφ2 t hm').trans (hψlt t (qP r.hp htt)),fun c hcc=>⟨c,?_,rfl⟩⟩⟩
    rw [E.same (φ t) (qP r.hp htt) (fun d hdd he=>?_)]
    ·exact hcc
    ·obtain ⟨kd,hkd⟩:=P7.1 hdd
     obtain ⟨k0,e0,_⟩:=hsub d kd hkd
     have:=r.hp.inj (ρ d) t (by rw [e0]; simp) (by rw [htt]; simp) he
     exact hm (by rw [← this]; exact List.mem_map_of_mem (hdomc d hdd))
  have hob:∀ b k x,look s.H b=some k→k.ob=some x→(∃ k',look (Kh ρ hc' s.H) b=some k'∧k'.ob=some x)∧φ' b=φ b:=by
   intro b k x hb ho
   by_cases hm:b ∈ (hc.map (·.1)).map ρ
   ·obtain ⟨c,hcm,rfl⟩:=List.mem_map.1 hm
    obtain ⟨k2,hk⟩:=P7.1 (YE.2 hcm)
    obtain ⟨k0,e0,e1⟩:=hsub c k2 hk
    rw [hb] at e0
    cases e0
    have e2:=Xr e1 ho
    rw [JZ] at e2
    cases ho2:k2.ob with
    | none=>rw [ho2] at e2; cases e2
    | some x2 =>
     rw [ho2] at e2
     obtain ⟨⟨k',e3,e4⟩,e5⟩:=E.ko c k2 x2 (hbig c hcm) hk ho2
     exact ⟨⟨Z9 ρ k',hlookI c _ e3,by rw [JZ,e4]; exact e2⟩,by rw [hφ1 c (hd1 c hcm),e5]⟩
   ·have hm':=hnb b _ hb hm
    exact ⟨⟨k,by rw [hlookR b hm']; exact hb,ho⟩,(hφ2 b hm').trans (Hy r.hp KK hb (fun ty S e=>by rw [e] at ho; cases ho))⟩
  refine ⟨⟨E.os,E.tape,E.output,E.size,fun x hx hno=>E.same x hx (fun c hcc he=>?_),fun x o hx hm=>E.cell x o hx (fun h1=>hm (hmutc x o h1)),fun x o hx hm=>?_,fun b ty cs _ hbb=>hb b ty cs hbb,fun t ty S n _ htt=>ht t ty S n htt,fun t ty S n _ htt=>hv t ty S n htt,fun b k x _=>hob b k x⟩,
   fun b ty cs hbb=>⟨(hb b ty cs hbb).1.elim fun cs' h=>⟨ty,cs',h⟩,(hb b ty cs hbb).2⟩,ht,hv,hob⟩
  ·obtain ⟨kc,hkc⟩:=P7.1 hcc
   obtain ⟨k0,e0,_⟩:=hsub c kc hkc
   exact hno (ρ c) (by rw [e0]; simp) he
  ·rcases hmut' x o hm with h1 | h1 | h1
   ·exact hmutc x o (E.mu x o hx h1)
   ·exact hmutr x o h1.1
   ·have:=E.size; omega
 obtain ⟨E1,X1⟩:=hE1
 have hH1:ZN φ' (look (Kh ρ hc' s.H)) w' M0:=by
  refine ⟨fun b d hb hd' he=>?_,fun b k hb=>?_,fun b hb o hm=>?_,fun x o hm=>Nat.lt_of_lt_of_le (r.hp.lt x o hm) E.size,r.hp.gm.evol E1⟩
  ·obtain ⟨kb,hkb⟩:=P7.1 hb
   obtain ⟨kd,hkd⟩:=P7.1 hd'
   have mixed:∀ c k' b k,look hc' c=some k'→b ∉ (hc'.map (·.1)).map ρ→look s.H b=some k→φc' c ≠ K7 φ w.heap.size KK b:=by
    intro c k' b k g1 g2 g3 g4
    by_cases hlt:φ b < w.heap.size
    rotate_left
    ·have:=hψc b c (hin _ _ g1) hlt; omega
    rw [hψlt b hlt] at g4
    have hhr:hr b=some k:=by simp only [hr]; rw [if_neg (hsubr b g2)]; exact g3
    obtain ⟨o,ho⟩:=CY (φ:=φ) hhr
    exact hHc'.fr c (by rw [g1]; simp) o (by rw [g4]; exact ⟨.inl ho,hlt⟩)
   rcases hcase b kb hkb with ⟨c,k',g1,rfl,_⟩ | ⟨g1,g2⟩ <;> rcases hcase d kd hkd with ⟨c2,k2,g3,rfl,_⟩ | ⟨g3,g4⟩
   ·rw [hφ1 c (hin _ _ g1),hφ1 c2 (hin _ _ g3)] at he
    rw [hHc'.inj c c2 (by rw [g1]; simp) (by rw [g3]; simp) he]
   ·rw [hφ1 c (hin _ _ g1),hφ2 d g3] at he
    exact absurd he (mixed c k' d kd g1 g3 g4)
   ·rw [hφ1 c2 (hin _ _ g3),hφ2 b g1] at he
    exact absurd he.symm (mixed c2 k2 b kb g3 g1 g2)
   ·rw [hφ2 b g1,hφ2 d g3] at he
    exact r.hp.inj b d (by rw [g2]; simp) (by rw [g4]; simp) (hψinj b d he)
  ·rcases hcase b k hb with ⟨c,k',g1,rfl,rfl⟩ | ⟨g1,g2⟩
   ·rw [hφ1 c (hin _ _ g1)]
    have:=hHc'.blk c k' g1
    cases k' with
    | box ty cs=>obtain ⟨c0,h1,h2⟩:=this; exact ⟨c0,h1,out2 _ _ h2⟩
    | arr ty S n=>exact this
    | vec ty S es=>obtain ⟨c0,cap,q1,q2,q3,q4,q5,q6,q7⟩:=this; exact ⟨c0,cap,q1,q2,q3,q4,q5,q6,Ns hM' _ _ q7⟩
    | lp T nf st pd =>
     obtain ⟨tmps,d,q1,q2,q3⟩:=this
     refine ⟨tmps,d,q1,q2,fun t x ht=>?_⟩
     rw [Db] at ht
     cases hl:look T t with
     | none=>rw [hl] at ht; cases ht
     | some y =>
      rw [hl] at ht
      cases ht
      exact ⟨(q3 t y hl).1,out1 _ _ (q3 t y hl).2⟩
    | mp es =>
     obtain ⟨en,cl,q1,q2,q3⟩:=this
     refine ⟨en,cl,q1,q2,?_⟩
     have:=out2 _ _ q3
     rw [OT] at this; exact this
    | mf es =>
     obtain ⟨en,cl,q1,q2,q3,q4⟩:=this
     exact ⟨en,cl,q1,by rw [G5]; exact q2,by rw [GZ]; exact out2 _ _ q3,q4⟩
    | mg en cl es =>
     obtain ⟨q1,q2,q3,q4⟩:=this
     exact ⟨q1,by rw [G5]; exact q2,by rw [GZ]; exact out2 _ _ q3,q4⟩
    | it m cl sn =>
     obtain ⟨q1,k2,q2,q3⟩:=this
     exact ⟨by rw [hφ1 m (hin _ _ q2)]; exact q1,Z9 ρ k2,hlookI m _ q2,by rw [JZ,q3]; rfl⟩
   ·rw [hφ2 b g1]
    by_cases hlt:φ b < w.heap.size
    rotate_left
    ·refine ZW (E1.keeps M0) X1 ?_ (r.hp.blk b k g2)
     rw [ZZ (by omega:w.heap.size≤φ b),ZZ (by rw [hψge b hlt]; omega)]
    rw [hψlt b hlt]
    refine ZW (E1.keeps M0) X1 (E.same (φ b) hlt (fun d hdd he=>?_)) (r.hp.blk b k g2)
    obtain ⟨kd,hkd⟩:=P7.1 hdd
    obtain ⟨k0,e0,_⟩:=hsub d kd hkd
    have:=r.hp.inj (ρ d) b (by rw [e0]; simp) (by rw [g2]; simp) he
    exact hsubr b g1 (by rw [← this]; exact List.mem_map_of_mem (hdomc d hdd))
  ·obtain ⟨kb,hkb⟩:=P7.1 hb
   rcases hcase b kb hkb with ⟨c,k',g1,rfl,_⟩ | ⟨g1,g2⟩
   ·rw [hφ1 c (hin _ _ g1)] at hm
    exact hHc'.fr c (by rw [g1]; simp) o ⟨.inr hm,r.hp.lt _ _ hm⟩
   ·rw [hφ2 b g1] at hm
    by_cases hlt:φ b < w.heap.size
    ·rw [hψlt b hlt] at hm
     exact r.hp.fr b (by rw [g2]; simp) o hm
    ·have:=r.hp.lt _ _ hm
     rw [hψge b hlt] at this
     omega
 have r1:Zw φ' M0 N D (look s.T) (look H2) a w':=by rw [hH2']; exact r.keep E1 X1 hH1
 rw [← hH2'] at E1 out1
 cases res with
 | ret x =>
  obtain ⟨v,rfl,hv⟩:=hE
  refine ⟨φ',_,hfin,Zw.put (s:=⟨s.T,H2⟩) r1 hd (out1 _ _ hv),?_⟩
  cases dst <;> exact E1
 | panic x =>
  obtain ⟨v,rfl,hv⟩:=hE
  exact ⟨φ', .panic (Wv ρ x),_,hfin,r1,E1,v,rfl,out1 _ _ hv⟩
theorem D6 {P:Program} {N:Nat} {f:FuncId} {args args':List AV} {dst:Option Tmp} {s:St} {K:St→Prop} {Q:AX→St→Prop} {hc:List (Nat × Blk)} {R:Z0→Qv→Prop} (ρ:Nat→Nat)
  (hcall:Wz P f args' (look hc) R) (hargs:Bq args (VD ρ args')) (hok:Kj (look hc) args'=true)
  (hbig:∀ c ∈ hc.map (·.1),1000≤c) (hokb:∀ c k,look hc c=some k→okRefB (look hc) k=true)
  (hsub:∀ c k,look hc c=some k→∃ k0,look s.H (ρ c)=some k0∧leB k0 (Z9 ρ k))
  (hinj:∀ c ∈ hc.map (·.1),∀ d ∈ hc.map (·.1),ρ c=ρ d→c=d) (hd:∀ t,dst=some t→t < N)
  (hret:∀ r h',R r h'→∃ hc' H2,h'=look hc'∧H9 ρ hc hc' s.H∧(∀ b,look H2 b=look (Kh ρ hc' s.H) b) ∧
   (match r with | .ret x=>K (St.put ⟨s.T,H2⟩ dst (Wv ρ x)) | .panic x=>Q (.panic (Wv ρ x)) ⟨s.T,H2⟩)):LK P N f args dst s K Q :=
 fun φ M0 D a w vs r ha=>D5 (C:=fun _ vs w R=>Calls P f vs w R) (fun _ _ _ _ _ h hq=>h.mono hq) ρ hcall hargs hok hbig hokb hsub hinj hd hret φ M0 D a w vs r ha
theorem YAt.mono {P:Program} {l:Nat} {args:Array Value} {w:World} {R R':Ending→World→Prop} (h:YAt P l args w R) (hq:∀ e w',R e w'→R' e w'):YAt P l args w R':=by
 obtain ⟨fn,tmps,assign,body,h1,h2⟩:=h
 exact ⟨fn,tmps,assign,body,h1,h2.mono hq⟩
theorem zI {P:Program} {N:Nat} {b:Nat} {args args':List AV} {dst:Option Tmp} {s:St} {K:St→Prop} {Q:AX→St→Prop} {hc:List (Nat × Blk)} {R:Z0→Qv→Prop} (ρ:Nat→Nat)
  (hcall:fq P b args' (look hc) R) (hargs:Bq args (VD ρ args')) (hok:Kj (look hc) args'=true)
  (hbig:∀ c ∈ hc.map (·.1),1000≤c) (hokb:∀ c k,look hc c=some k→okRefB (look hc) k=true)
  (hsub:∀ c k,look hc c=some k→∃ k0,look s.H (ρ c)=some k0∧leB k0 (Z9 ρ k))
  (hinj:∀ c ∈ hc.map (·.1),∀ d ∈ hc.map (·.1),ρ c=ρ d→c=d) (hd:∀ t,dst=some t→t < N)
  (hret:∀ r h',R r h'→∃ hc' H2,h'=look hc'∧H9 ρ hc hc' s.H∧(∀ b,look H2 b=look (Kh ρ hc' s.H) b) ∧
   (match r with | .ret x=>K (St.put ⟨s.T,H2⟩ dst (Wv ρ x)) | .panic x=>Q (.panic (Wv ρ x)) ⟨s.T,H2⟩)):YEx P N (ρ b) args dst s K Q :=
 fun φ M0 D a w vs r ha=>D5 (C:=fun φ vs w R=>YAt P (φ b) vs w R) (fun _ _ _ _ _ h hq=>h.mono hq) ρ hcall hargs hok hbig hokb hsub hinj hd hret φ M0 D a w vs r ha
def PQ (P:Program) (fn:Func) (hc:List (Nat × Blk)) (R:Z0→Qv→Prop) (s:St):Prop :=
 ∃ x y hc',Td P fn (look s.T) (look s.H)=some x∧le x y∧Kb (look hc') y=true∧Dq (look s.H) (look hc') hc'∧Ya (look hc') hc=true∧R (.ret y) (look hc')
def wR (P:Program) (fn:Func) (hc:List (Nat × Blk)) (R:Z0→Qv→Prop):AX→St→Prop
 | .ret,s=>PQ P fn hc R s
 | .normal,s=>PQ P fn hc R s
 | .panic x,s=>∃ y hc',le x y∧Kb (look hc') y=true∧Dq (look s.H) (look hc') hc'∧Ya (look hc') hc=true∧R (.panic y) (look hc')
 | .exit _,_=>False
theorem BD {φ φ0:Nat→Nat} {M0:QR} {N:Nat} {D:DB} {s:St} {hc hc':List (Nat × Blk)} {a:Act} {w w0:World} (r:Zw φ M0 N D (look s.T) (look s.H) a w) (E:Zg φ0 (look hc) w0 φ (look s.H) w)
  (h1:Dq (look s.H) (look hc') hc') (h2:Ya (look hc') hc=true) :
  ZN φ (look hc') w M0∧Zg φ0 (look hc) w0 φ (look hc') w∧∀ x v,Kb (look hc') x=true→Qf φ (look s.H) w (MM φ (look s.H) M0) x v→Qf φ (look hc') w (MM φ (look hc') M0) x v:=by
 have hh:∀ b k',look hc' b=some k'→∃ k,look s.H b=some k∧leB k k':=fun b k' hb=>(Jf h1 b k' hb).1
 have hmut:∀ r o,RF φ (look hc') r o→RF φ (look s.H) r o:=by
  rintro x o ⟨b,k',g1,g2,g3⟩
  obtain ⟨k,g4,g5⟩:=hh b k' g1
  refine ⟨b,k,g4,g2,?_⟩
  cases k with
  | arr ty S n=>simp only [leB] at g5; subst g5; exact g3
  | _=>trivial
 have hM:∀ r o,MM φ (look hc') M0 r o→MM φ (look s.H) M0 r o:=fun x o hx=>hx.elim (fun h=>.inl (hmut x o h)) .inr
 have hdom:∀ b,look hc' b ≠ none→look s.H b ≠ none:=fun b hb=>by
  cases hq:look hc' b with
  | none=>exact absurd hq hb
  | some k'=>obtain ⟨k,h1,_⟩:=hh b k' hq; rw [h1]; simp
 obtain ⟨c1,c2⟩:=BB (φ:=φ) (w:=w) hM hh
 refine ⟨⟨fun b c hb hc=>r.hp.inj b c (hdom b hb) (hdom c hc),fun b k' hb=>?_,fun b hb=>r.hp.fr b (hdom b hb),r.hp.lt,r.hp.gm.sub hM⟩,?_,fun x v hx hv=>c1 x v hx hv⟩
 ·obtain ⟨⟨k,g1,g2⟩,g3⟩:=Jf h1 b k' hb
  have g4:=r.hp.blk b k g1
  cases k with
  | box ty cs =>
   simp only [leB] at g2
   obtain ⟨cs',rfl,g5⟩:=g2
   obtain ⟨c,g6,g7⟩:=g4
   exact ⟨c,g6,c2 _ _ g3 (Jt.2 _ _ _ g5 g7)⟩
  | arr ty S n=>simp only [leB] at g2; subst g2; exact g4
  | vec ty S es=>simp only [leB] at g2; subst g2; obtain ⟨c,cap,q1,q2,q3,q4,q5,q6,q7⟩:=g4; exact ⟨c,cap,q1,q2,q3,q4,q5,q6,c2 _ _ (BA _ _) q7⟩
  | lp T nf st pd=>simp only [leB] at g2; subst g2; obtain ⟨tmps,d,q1,q2,q3⟩:=g4; exact ⟨tmps,d,q1,q2,fun t x ht=>⟨(q3 t x ht).1,c1 _ _ (Uz g3 ht) (q3 t x ht).2⟩⟩
  | mp es=>simp only [leB] at g2; subst g2; obtain ⟨en,cl,q1,q2,q3⟩:=g4; exact ⟨en,cl,q1,q2,c2 _ _ (FX _ _) q3⟩
  | mf es=>simp only [leB] at g2; subst g2; obtain ⟨en,cl,q1,q2,q3,q4⟩:=g4; exact ⟨en,cl,q1,q2,c2 _ _ (Wp g3) q3,q4⟩
  | mg en cl es=>simp only [leB] at g2; subst g2; obtain ⟨q1,q2,q3,q4⟩:=g4; exact ⟨q1,q2,c2 _ _ (Wp g3) q3,q4⟩
  | it m cl sn =>
   simp only [leB] at g2
   subst g2
   obtain ⟨q1,k0,q2,q3⟩:=g4
   obtain ⟨km,hkm⟩:=Ls.1 g3
   obtain ⟨k1,q5,q6⟩:=hh m km hkm
   rw [q2] at q5
   cases q5
   exact ⟨q1,km,hkm,Xr q6 q3⟩
 ·refine ⟨E.os,E.tape,E.output,E.size,E.same,E.cell,fun x o hx hm=>E.mu x o hx (hmut x o hm),?_,?_,?_,?_⟩
  ·intro b ty cs hb hbb
   obtain ⟨⟨cs1,g1⟩,g2⟩:=E.kb b ty cs hb hbb
   obtain ⟨k',g3⟩:=KQ h2 b _ hb hbb
   obtain ⟨k,g4,g5⟩:=hh b k' g3
   rw [g1] at g4
   cases g4
   simp only [leB] at g5
   obtain ⟨cs',g6,_⟩:=g5
   exact ⟨⟨cs',by rw [g3,g6]⟩,g2⟩
  ·intro t ty S n ht htt
   obtain ⟨n',g1,g2,g3⟩:=E.kt t ty S n ht htt
   obtain ⟨k',g4⟩:=KQ h2 t _ ht htt
   obtain ⟨k,g5,g6⟩:=hh t k' g4
   rw [g1] at g5
   cases g5
   simp only [leB] at g6
   exact ⟨n',by rw [g4,g6],g2,g3⟩
  ·intro t ty S n ht htt
   obtain ⟨n',g1,g2,g3⟩:=E.kv t ty S n ht htt
   obtain ⟨k',g4⟩:=KQ h2 t _ ht htt
   obtain ⟨k,g5,g6⟩:=hh t k' g4
   rw [g1] at g5
   cases g5
   simp only [leB] at g6
   exact ⟨n',by rw [g4,g6],g2,g3⟩
  ·intro b k x hb hbb ho
   obtain ⟨⟨k1,g1,g2⟩,g3⟩:=E.ko b k x hb hbb ho
   obtain ⟨k',g4⟩:=KQ h2 b _ hb hbb
   obtain ⟨k2,g5,g6⟩:=hh b k' g4
   rw [g1] at g5
   cases g5
   exact ⟨⟨k',g4,Xr g6 g2⟩,g3⟩
theorem Sg {P:Program} {fn:Func} {R:Z0→Qv→Prop} {φ φ0:Nat→Nat} {hc:List (Nat × Blk)} {w0:World} {M0:QR} {N:Nat} {D:DB} {s:St} {a:Act} {w:World} (r:Zw φ M0 N D (look s.T) (look s.H) a w)
  (E:Zg φ0 (look hc) w0 φ (look s.H) w) (h:PQ P fn hc R s):∃ v,(results fn a.tmps).run P w=.ok v w∧Out R φ0 (look hc) w0 M0 (.returned v) w:=by
 obtain ⟨x,y,hc',h1,h2,h3,h4,h5,h6⟩:=h
 obtain ⟨v,g1,g2⟩:=wQ r h1
 obtain ⟨k1,k2,k3⟩:=BD r E h4 h5
 exact ⟨v,g1,φ, .ret y,look hc',h6,k1,k2,v,rfl,k3 _ _ h3 (Jt.1 _ _ _ h2 g2)⟩
theorem Px {P:Program} {f:FuncId} {fn:Func} {c:Code} {args:List AV} {hc:List (Nat × Blk)} {R:Z0→Qv→Prop} (hf:P.funcs[f]?=some fn) (hb:fn.body=some c) (hl:args.length≤fn.ntmps)
  (h:Ex P fn.ntmps none c ⟨WQ 0 args,hc⟩ (wR P fn hc R)):Wz P f args (look hc) R:=by
 intro φ M0 w vs hH ha
 refine Pv hf hb hl hH ha h ?_ ?_ ?_
 ·intro x s φ' a w' hq hx r E
  exact Sg r E (by rcases hx with rfl | rfl <;> exact hq)
 ·intro x s φ' a w' v hq r E hv
  obtain ⟨y,hc',g1,g2,g3,g4,g5⟩:=hq
  obtain ⟨k1,k2,k3⟩:=BD r E g3 g4
  exact ⟨φ', .panic y,look hc',g5,k1,k2,v,rfl,k3 _ _ g2 (Jt.1 _ _ _ g1 hv)⟩
 ·intro i s hq
  exact hq
def y7:AV:=.p (.val .nilIface)
theorem Nu:∀ {a b:List Nat},(a.map fun r=>({ target:=.collected r,args:=#[] }:Deferred))=(b.map fun r=>({ target:=.collected r,args:=#[] }:Deferred))→a=b
 | [],[],_=>rfl
 | [],_ :: _,h=>by cases h
 | _ :: _,[],h=>by cases h
 | x :: a,y :: b,h=>by
  simp only [List.map_cons,List.cons.injEq,Deferred.mk.injEq,Target.collected.injEq,and_true] at h
  rw [h.1,Nu h.2]
theorem bH {φ:Nat→Nat} {h:Qv} {w:World} {M0:QR} {b:Nat} {T:List (Nat × AV)} {nf:JK} {st st':LoopState} {pd pd':Option Code} {o:Obj} (hb:h b=some (.lp T nf st pd)) (hnc:∀ c t f,w.heap[φ b]? ≠ some (.cells c t f)) (r:ZN φ h w M0)
  (ho:∀ (φ':Nat→Nat) (h':Qv) (w':World) (M:QR),True) :
  Zg φ h w φ (upd h b (.lp T nf st' pd')) (w.putObj (φ b) o)∧YM φ h w φ (upd h b (.lp T nf st' pd')) (w.putObj (φ b) o):=by
 have hlt:=TP r hb (fun _ _ e=>by cases e)
 have hother:∀ x,x ≠ φ b→(w.putObj (φ b) o).heap[x]?=w.heap[x]?:=fun x hx=>World.putObj_heap_other hx
 have hne:∀ c k,h c=some k→k.ob=none→¬ b=c:=fun c k hc hk e=>by rw [← e,hb] at hc; cases hc; cases hk
 have hφ:∀ c k,h c=some k→¬ b=c→φ c ≠ φ b:=fun c k hc e h2=>e (r.inj c b (by rw [hc]; simp) (by rw [hb]; simp) h2).symm
 have hbx:∀ c ty cs,h c=some (.box ty cs)→upd h b (.lp T nf st' pd') c=some (.box ty cs):=fun c ty cs hc=>by simp [upd,hne c _ hc rfl,hc]
 have har:∀ t ty S n,h t=some (.arr ty S n)→∃ n',upd h b (.lp T nf st' pd') t=some (.arr ty S n')∧n≤n'∧(n'=n→AKept w (w.putObj (φ b) o) (φ t) (φ t) ty):=by
  intro t ty S n ht
  have e:=hne t _ ht rfl
  exact ⟨n,by simp [upd,e,ht],Nat.le_refl _,fun _=>YJ (rfl) (by rw [hother _ (hφ t _ ht e)])⟩
 have hve:∀ t ty S es,h t=some (.vec ty S es)→∃ es',upd h b (.lp T nf st' pd') t=some (.vec ty S es')∧es.length≤es'.length∧(es'.length=es.length→φ t=φ t∧∀ c,w.heap[φ t]?=some (.cells c ty (0,0))→∃ c',(w.putObj (φ b) o).heap[φ t]?=some (.cells c' ty (0,0))∧c'.size=c.size):=by
  intro t ty S n ht
  have e:=hne t _ ht rfl
  exact ⟨n,by simp [upd,e,ht],Nat.le_refl _,fun _=>⟨rfl,fun c hc=>⟨c,by rw [hother _ (hφ t _ ht e)]; exact hc,rfl⟩⟩⟩
 have hob:∀ c k x,h c=some k→k.ob=some x→(∃ k',upd h b (.lp T nf st' pd') c=some k'∧k'.ob=some x)∧φ c=φ c:=by
  intro c k x hc ho
  by_cases e:b=c
  ·subst e
   rw [hb] at hc
   cases hc
   exact ⟨⟨.lp T nf st' pd',by simp [upd],ho⟩,rfl⟩
  ·exact ⟨⟨k,by simp [upd,e,hc],ho⟩,rfl⟩
 refine ⟨⟨rfl,rfl,rfl,by simp,?_,?_,?_,fun c ty cs _ hc=>⟨⟨cs,hbx c ty cs hc⟩,rfl⟩,fun t ty S n _=>har t ty S n,fun t ty S es _=>hve t ty S es,fun c k x _=>hob c k x⟩,fun c ty cs hc=>⟨⟨ty,cs,hbx c ty cs hc⟩,rfl⟩,har,hve,hob⟩
 ·intro x _ hno
  exact hother x (fun e=>hno b (by rw [hb]; simp) e.symm)
 ·intro x y _ hm
  have:x ≠ φ b:=fun e=>hm ⟨b,_,hb,e.symm,trivial⟩
  simp [World.cell?,hother x this]
 ·rintro x y _ ⟨d,q,h1,h2,h3⟩
  by_cases e:b=d
  ·exact ⟨b,_,hb,by rw [e]; exact h2,trivial⟩
  ·exact ⟨d,q,by simpa [upd,e] using h1,h2,h3⟩
theorem y8 {φ:Nat→Nat} {M0:QR} {N:Nat} {D:DB} {T:Nat→Option AV} {h:Qv} {a:Act} {w:World} {b:Nat} {T1:List (Nat × AV)} {nf:JK} {st:LoopState} {pd:Option Code} (r:Zw φ M0 N D T h a w) (hb:h b=some (.lp T1 nf st pd)) :
  ∃ rec:Loop,w.heap[φ b]?=some (.loop rec)∧rec.state=st∧rec.pending=pd∧rec.fn=nf.fn∧rec.params=nf.ps∧rec.assign=nf.assign∧rec.body=nf.body∧rec.tmps.size=nf.N ∧
   (∀ t x,look T1 t=some x→t < nf.N∧Qf φ h w (MM φ h M0) x (rec.tmps.getD t undef)) ∧
   ∀ st' pd',Zw φ M0 N D T (upd h b (.lp T1 nf st' pd')) a (w.putObj (φ b) (.loop { rec with state:=st',pending:=pd' }))∧Zg φ h w φ (upd h b (.lp T1 nf st' pd')) (w.putObj (φ b) (.loop { rec with state:=st',pending:=pd' })):=by
 obtain ⟨tmps,d,h1,h2,h3⟩:=r.hp.blk b _ hb
 refine ⟨_,h1,rfl,rfl,rfl,rfl,rfl,rfl,h2,h3,fun st' pd'=>?_⟩
 obtain ⟨E,X⟩:=bH (st':=st') (pd':=pd') (o:=.loop { state:=st',pending:=pd',fn:=nf.fn,tmps:=tmps,params:=nf.ps,assign:=nf.assign,body:=nf.body,defers:=d }) hb (by rw [h1]; simp) r.hp (fun _ _ _ _=>trivial)
 refine ⟨r.keep E X ?_,E⟩
 have hlt:=TP r.hp hb (fun _ _ e=>by cases e)
 have g:∀ d,upd h b (.lp T1 nf st' pd') d ≠ none→h d ≠ none:=fun d hd=>by
  by_cases e:b=d
  ·rw [← e,hb]; simp
  ·simpa [upd,e] using hd
 refine ⟨fun c d hc hd he=>r.hp.inj c d (g c hc) (g d hd) he,fun c k hc=>?_,fun c hc=>r.hp.fr c (g c hc),fun x o hx=>by simpa using r.hp.lt x o hx,r.hp.gm.evol E⟩
 by_cases e:b=c
 ·subst e
  have:k=.lp T1 nf st' pd':=by simpa [upd] using hc.symm
  subst this
  exact ⟨tmps,d,World.putObj_heap_same hlt,h2,fun t x ht=>⟨(h3 t x ht).1,(QX (E.keeps M0) X).1 _ _ (h3 t x ht).2⟩⟩
 ·have hc':h c=some k:=by simpa [upd,e] using hc
  refine ZW (E.keeps M0) X (World.putObj_heap_other fun h2=>e (r.hp.inj c b (by rw [hc']; simp) (by rw [hb]; simp) h2).symm) (r.hp.blk c k hc')
def eF:List Tmp→List AV→List (Nat × AV)→List (Nat × AV)
 | p :: ps,x :: xs,T=>eF ps xs ((p,x) :: T)
 | _,_,T=>T
theorem wS {φ:Nat→Nat} {h:Qv} {w:World} {M:QR} {N:Nat}:∀ (ps:List Tmp) (xs:List AV) (vs:List Value) (T:List (Nat × AV)) (tmps:Array Value),(∀ p ∈ ps,p < N)→ps.length=xs.length→Qi φ h w M xs vs→tmps.size=N →
  (∀ t x,look T t=some x→t < N∧Qf φ h w M x (tmps.getD t undef)) →
  ((ps.zip vs).foldl (fun tmps (p:Tmp × Value)=>tmps.setIfInBounds p.1 p.2) tmps).size=N∧∀ t x,look (eF ps xs T) t=some x→t < N∧Qf φ h w M x (((ps.zip vs).foldl (fun tmps (p:Tmp × Value)=>tmps.setIfInBounds p.1 p.2) tmps).getD t undef)
 | [],xs,vs,T,tmps,_,hl,hr,hs,hT=>by
  have:xs=[]:=List.eq_nil_of_length_eq_zero (by simpa using hl.symm)
  subst this
  simp only [List.zip_nil_left,List.foldl_nil,eF]
  exact ⟨hs,hT⟩
 | p :: ps,[],vs,T,tmps,_,hl,hr,hs,hT=>by simp at hl
 | p :: ps,x :: xs,vs,T,tmps,hp,hl,hr,hs,hT=>by
  simp only [Qi] at hr
  obtain ⟨v,vs',rfl,h1,h2⟩:=hr
  simp only [List.zip_cons_cons,List.foldl_cons,eF]
  refine wS ps xs vs' _ _ (fun q hq=>hp q (by simp [hq])) (by simpa using hl) h2 (by simpa using hs) ?_
  intro t y ht
  simp only [look] at ht
  have hpN:=hp p zq
  by_cases e:p=t
  ·simp only [e,if_true,Zd] at ht
   subst ht
   refine ⟨e ▸ hpN,?_⟩
   have:(tmps.setIfInBounds p v).getD t undef=v:=by subst e; simp [hs,hpN]
   rw [this]; exact h1
  ·simp only [e,if_false] at ht
   refine ⟨(hT t y ht).1,?_⟩
   have:(tmps.setIfInBounds p v).getD t undef=tmps.getD t undef:=by simp [Array.getElem?_setIfInBounds_ne e]
   rw [this]; exact (hT t y ht).2
def Tj (H:List (Nat × Blk)) (b:Nat) (T:List (Nat × AV)) (nf:JK) (R:Z0→Qv→Prop) (yes:Bool) (st:LoopState) (pd:Option Code) (s:St):Prop :=
 ∃ hc' st0 pd0,Dq (look s.H) (look hc') hc'∧Ya (look hc') H=true∧look hc' b=some (.lp T nf st0 pd0)∧R (.ret (.p (.val (.bool yes)))) (look ((b, .lp T nf st pd) :: hc'))
def fG (H:List (Nat × Blk)) (b:Nat) (T:List (Nat × AV)) (nf:JK) (R:Z0→Qv→Prop):AX→St→Prop
 | .normal,s=>Tj H b T nf R true .ready none s
 | .ret,s=>Tj H b T nf R false .done (some .ret) s
 | .exit i,s=>Tj H b T nf R false .done (some (.exit i)) s
 | .panic _,_=>False
theorem bI {φ φ0:Nat→Nat} {M0:QR} {N:Nat} {D:DB} {s:St} {hc hc':List (Nat × Blk)} {a:Act} {w w0:World} (r:Zw φ M0 N D (look s.T) (look s.H) a w) (E:Zg φ0 (look hc) w0 φ (look s.H) w)
  (h1:Dq (look s.H) (look hc') hc') (h2:Ya (look hc') hc=true):Zw φ M0 N D (look []) (look hc') a w∧Zg φ0 (look hc) w0 φ (look hc') w:=by
 obtain ⟨k1,k2,_⟩:=BD r E h1 h2
 refine ⟨⟨?_,r.siz,k1,fun t x ht=>by cases ht⟩,k2⟩
 obtain ⟨h0,ms,g1,g2,g3⟩:=r.dfs
 refine ⟨h0,ms,g1,g2,fun x hx=>⟨(g3 x hx).1,(g3 x hx).2.1,fun b hb=>(g3 x hx).2.2 b ?_⟩⟩
 cases hq:look hc' b with
 | none=>exact absurd hq hb
 | some k'=>obtain ⟨⟨k,e1,_⟩,_⟩:=Jf h1 b k' hq; rw [e1]; simp
theorem zJ {P:Program} {b:Nat} {T:List (Nat × AV)} {nf:JK} {pd:Option Code} {args:List AV} {H:List (Nat × Blk)} {R:Z0→Qv→Prop} (hb1:1000≤b) (hb:look H b=some (.lp T nf .ready pd)) (hlen:nf.ps.size=args.length) (hps:∀ p ∈ nf.ps.toList,p < nf.N)
  (h:∀ l,Ex P nf.N (some l) nf.assign ⟨eF nf.ps.toList args T,H⟩ (fun x s1=>x=.normal∧∃ pd1,look s1.H b=some (.lp T nf .ready pd1) ∧
   Ex P nf.N (some l) nf.body ⟨s1.T,(b, .lp T nf .busy pd1) :: s1.H⟩ (fG H b T nf R))):fq P b args (look H) R:=by
 intro φ M0 w vs hH ha
 obtain ⟨tmps,d,hrec,hsz,hT⟩:=hH.blk b _ hb
 have hvl:=ZH ha
 have hrun:=run_yield (P:=P) (args:=vs.toArray) hrec (by simp; omega)
 refine ⟨_,_,_,_,hrun,?_⟩
 refine roundIn_of_wpIn trivial ?_
 have hzip:(nf.ps.zip vs.toArray).foldl (fun tmps (x:Tmp × Value)=>match x with | (t,a)=>tmps.setIfInBounds t a) tmps=(nf.ps.toList.zip vs).foldl (fun tmps (p:Tmp × Value)=>tmps.setIfInBounds p.1 p.2) tmps:=by
  rw [← Array.foldl_toList]
  simp
 obtain ⟨p1,p2⟩:=wS (φ:=φ) (h:=look H) (w:=w) (M:=MM φ (look H) M0) (N:=nf.N) nf.ps.toList args vs T tmps hps (by simpa using hlen) ha hsz hT
 have r:Zw φ M0 nf.N ⟨[],w.heap.size⟩ (look (eF nf.ps.toList args T)) (look H) { tmps:=(nf.ps.zip vs.toArray).foldl (fun tmps (x:Tmp × Value)=>match x with | (t,a)=>tmps.setIfInBounds t a) tmps,defers:=[] } w:=by
  refine ⟨⟨Nat.le_refl _,[],rfl,List.nodup_nil,fun r hr=>by cases hr⟩,?_,hH,?_⟩
  ·show Array.size _=_
   rw [hzip]; exact p1
  ·intro t x ht
   show _∧Qf _ _ _ _ x (Array.getD _ t undef)
   rw [hzip]; exact p2 t x ht
 refine wpIn_mono (h (φ b) φ M0 _ _ w r) ?_
 rintro e a1 w1 ⟨φ1,k,s1,⟨rfl,pd1,hb2,hbody⟩,r1,E1,hx⟩
 simp only [Xo] at hx
 subst hx
 have hφ1:φ1 b=φ b:=(E1.ko b _ _ hb1 hb rfl).2
 obtain ⟨rec,g1,g2,g3,g4,g5,g6,g7,g8,g9,g10⟩:=y8 r1 hb2
 obtain ⟨r2,E2⟩:=g10 .busy pd1
 refine ⟨_,by rw [← hφ1]; exact run_beginRound g1 g2,?_⟩
 have hw2:(w1.putObj (φ1 b) (.loop { rec with state:=.busy }))=w1.putObj (φ1 b) (.loop { rec with state:=.busy,pending:=pd1 }):=by rw [← g3]
 rw [← hφ1,hw2]
 rw [← hφ1] at hbody
 refine wpIn_mono (hbody φ1 M0 _ a1 _ r2) ?_
 rintro e a3 w3 ⟨φ3,k,s3,hq,r3,E3,hx⟩
 have Etot:=(E1.trans E2).trans E3
 have fin:∀ (yes:Bool) (jump:Option Code),jump.isNone=yes→Tj H b T nf R yes (if jump.isNone then .ready else .done) jump s3 →
   ∃ v w',(Instr.endRound (φ1 b) jump).run P w3=.ok v w'∧∃ φ' r h',R r h'∧ZN φ' h' w' M0∧Zg φ (look H) w φ' h' w'∧gZ φ' h' w' (MM φ' h' M0) r (.returned v):=by
  rintro yes jump hj ⟨hc',st0,pd0,q1,q2,q3,q4⟩
  obtain ⟨r4,E4⟩:=bI r3 Etot q1 q2
  obtain ⟨rec4,f1,f2,f3,f4,f5,f6,f7,f8,f9,f10⟩:=y8 r4 q3
  obtain ⟨r5,E5⟩:=f10 (if jump.isNone then .ready else .done) jump
  have hφ3:φ3 b=φ1 b:=by
   have e1:φ3 b=φ b:=by
    have:=Etot.ko b _ _ hb1 hb rfl
    exact this.2
   rw [e1,hφ1]
  refine ⟨.bool jump.isNone,_,by rw [← hφ3]; exact run_endRound jump f1,φ3, .ret (.p (.val (.bool yes))),_,q4,r5.hp,E4.trans E5, .bool jump.isNone,rfl,by simp [Qf,Q5,hj]⟩
 cases k with
 | normal =>
  simp only [Xo] at hx
  subst hx
  exact fin true none rfl hq
 | ret =>
  simp only [Xo] at hx
  subst hx
  exact fin false (some .ret) rfl hq
 | exit i =>
  simp only [Xo] at hx
  subst hx
  exact fin false (some (.exit i)) rfl hq
 | panic x=>exact hq.elim
def fH (D2:Nat) (T:List (Nat × AV)) (nf:JK) (Q:AX→St→Prop) (s:St):Prop :=
  ∃ st pd,look s.H D2=some (.lp T nf st pd)∧st ≠ .busy ∧
    (match pd with
     | none=>Q .normal ⟨s.T,(D2, .lp T nf .exhausted none) :: s.H⟩
     | some .ret=>Q .ret ⟨s.T,(D2, .lp T nf .exhausted (some .ret)) :: s.H⟩
     | some (.exit i)=>Q (.exit i) ⟨s.T,(D2, .lp T nf .exhausted (some (.exit i))) :: s.H⟩
     | some _=>False)
theorem OU {P:Program} {N:Nat} {f:Operand} {ps:Array Tmp} {assign body:Code} {s:St} {Q:AX→St→Prop} {g:FuncId} {l m:List AV} (D2:Nat) (hD2:1000≤D2) (hf:Zr (look s.T) f=some (.fn (.func g) l m)) (hok:YZ P g=true) (hD:look s.H D2=none)
  (hcall:∀ fn,LK P N g (l++[.yv D2]++m) none ⟨s.T,(D2, .lp s.T ⟨N,fn,ps,assign,body⟩ .ready none) :: s.H⟩ (fH D2 s.T ⟨N,fn,ps,assign,body⟩ Q) Q):Ex P N none (.rangeFunc f ps assign body) s Q:=by
 intro φ0 M0 D a w r0
 obtain ⟨r,E00,X00,hC⟩:=r0.lift 2
 refine wpIn_mono ?_ (fun _ _ _ p=>Post.trans E00 p)
 generalize K7 φ0 w.heap.size 2=φ at r E00 X00 hC
 refine wpIn_rangeFunc fun fn _=>?_
 have hev:=r.ev hf
 simp only [Qf] at hev
 obtain ⟨l',m',hfv,hl',hm'⟩:=hev
 let rec0:Loop:={ state:=.ready,pending:=none,fn:=fn,tmps:=a.tmps,params:=ps,assign:=assign,body:=body,defers:=w.heap.size }
 let wa:World:=w.alloc (.deferred (some []))
 let w1:World:=wa.alloc (.loop rec0)
 have hha:wa.heap=w.heap.push (.deferred (some [])):=rfl
 have hsa:wa.heap.size=w.heap.size+1:=by rw [hha]; simp
 obtain ⟨Ea,Xa,Ha⟩:=Hl (w:=w) (w':=wa) (φ:=φ) (h:=look s.H) (M0:=M0) rfl rfl rfl zo (fun x hx=>by rw [hha,Array.getElem?_push,if_neg zo]) r.hp (fun b hb=>(hC b hb).imp (fun h=>h) (fun h=>by omega))
 have hCa:Clear φ (look s.H) wa 1:=fun b hb=>(hC b hb).imp (fun h=>by omega) (fun h=>by omega)
 have ra:Zw φ M0 N D (look s.T) (look s.H) a wa:=r.keep Ea Xa Ha
 have hh:w1.heap=wa.heap.push (.loop rec0):=rfl
 obtain ⟨E1,X1⟩:=JL (k:=.lp s.T ⟨N,fn,ps,assign,body⟩ .ready none) hh rfl rfl rfl hD Ha hCa
 have H1:ZN (QK φ D2 wa.heap.size) (upd (look s.H) D2 (.lp s.T ⟨N,fn,ps,assign,body⟩ .ready none)) w1 M0:=by
  refine JM hh hD Ha hCa E1 X1 ⟨a.tmps,w.heap.size,?_,r.siz,fun t x ht=>⟨(ra.tm t x ht).1,(QX (E1.keeps M0) X1).1 _ _ (ra.tm t x ht).2⟩⟩
  rw [hh]
  simp [rec0]
 let a':Act:={ a with defers:=[{ target:=.collected w.heap.size,args:=#[] }]++a.defers }
 have r1:Zw (QK φ D2 wa.heap.size) M0 N D (look s.T) (look ((D2, .lp s.T ⟨N,fn,ps,assign,body⟩ .ready none) :: s.H)) a' w1:=by
  have r1':=ra.keep E1 X1 H1
  refine ⟨?_,r1'.siz,H1,r1'.tm⟩
  obtain ⟨h0,ms,g1,g2,g3⟩:=r1'.dfs
  obtain ⟨h0',ms',g1',g2',g3'⟩:=r.dfs
  have hms:ms=ms':=by
   rw [g1] at g1'
   exact Nu (List.append_cancel_right g1')
  refine ⟨h0,w.heap.size :: ms,by simp [a',g1],List.nodup_cons.2 ⟨fun hx=>?_,g2⟩,fun x hx=>?_⟩
  ·rw [hms] at hx
   have:=(Rn.1 (g3' _ hx).2.1).1
   omega
  ·rcases List.mem_cons.1 hx with rfl | hx
   ·refine ⟨h0',?_,fun b hb he=>?_⟩
    ·rw [hh,Array.getElem?_push,if_neg zo,hha]
     simp
    ·by_cases e:D2=b
     ·simp only [QK,e,if_true] at he; omega
     ·have hb':look s.H b ≠ none:=by simpa [look,e] using hb
      simp only [QK,e,if_false] at he
      obtain ⟨k,hk⟩:=P7.1 hb'
      rcases hC b hb' with h7 | h7 <;> omega
   ·exact g3 x hx
 have hφD:QK φ D2 wa.heap.size D2=w.heap.size+1:=by simp [QK,hsa]
 have Etot:Zg φ (look s.H) w (QK φ D2 wa.heap.size) (look ((D2, .lp s.T ⟨N,fn,ps,assign,body⟩ .ready none) :: s.H)) w1:=Ea.trans E1
 have hargs:Qi (QK φ D2 wa.heap.size) (look ((D2, .lp s.T ⟨N,fn,ps,assign,body⟩ .ready none) :: s.H)) w1 (MM (QK φ D2 wa.heap.size) (look ((D2, .lp s.T ⟨N,fn,ps,assign,body⟩ .ready none) :: s.H)) M0) (l++[.yv D2]++m) (l'++[Value.func (.yield (w.heap.size+1)) #[] #[]]++m'):=by
  have k1:=(QX (E1.keeps M0) X1).2 _ _ ((QX (Ea.keeps M0) Xa).2 _ _ hl')
  have k2:=(QX (E1.keeps M0) X1).2 _ _ ((QX (Ea.keeps M0) Xa).2 _ _ hm')
  refine ZA (ZA k1 ?_) k2
  simp only [Qi,Qf]
  exact ⟨_,[],rfl,⟨by rw [hφD],_,s.T,⟨N,fn,ps,assign,body⟩,by simp [look]; rfl,rfl⟩,rfl⟩
 refine ⟨w.heap.size+1,_,_,{ target:=.fn (.func g) m'.toArray,args:=l'.toArray++#[Value.func (.yield (w.heap.size+1)) #[] #[]] },w1,g,(l'++[Value.func (.yield (w.heap.size+1)) #[] #[]]++m').toArray,w1,run_enterLoop_outer fn a.tmps ps assign body,?_,fun _ _=>trivial,?_,(fun h=>by cases h),?_⟩
 ·have e1:Array.map a.eval #[Operand.const (Value.func (Fn.yield (w.heap.size+1)) #[] #[])]=#[Value.func (.yield (w.heap.size+1)) #[] #[]]:=by simp [Act.eval]
  simp only [resolve,hfv,Deferred.ofValue,Sem.run_pure,e1]
  rfl
 ·simp only [invoke]
  rw [Xp hok]
  congr 2
  apply Array.ext'
  simp
 ·refine callsIn_wide.2 ((hcall fn _ M0 D a' w1 _ r1 hargs).mono ?_)
  intro e w3 he
  cases e with
  | returned v =>
   obtain ⟨φ3,s3,⟨st,pd,q1,q2,q3⟩,r3,E3⟩:=he
   have r3':Zw φ3 M0 N D (look s3.T) (look s3.H) a' w3:=r3
   have hφ3:φ3 D2=w.heap.size+1:=by
    have:=(E3.ko D2 _ _ hD2 (by simp [look]; rfl) rfl).2
    rw [this,hφD]
   obtain ⟨rec3,f1,f2,f3,f4,f5,f6,f7,f8,f9,f10⟩:=y8 r3' q1
   obtain ⟨r4,E4⟩:=f10 .exhausted pd
   have hw4:w3.putObj (φ3 D2) (.loop { rec3 with state:=.exhausted })=w3.putObj (φ3 D2) (.loop { rec3 with state:=.exhausted,pending:=pd }):=by rw [← f3]
   have hend:(Instr.endLoop (w.heap.size+1)).run P w3=.ok pd (w3.putObj (φ3 D2) (.loop { rec3 with state:=.exhausted,pending:=pd })):=by
    rw [← hφ3,run_endLoop f1 (by rw [f2]; exact q2),hw4,f3]
   have Efin:=(Etot.trans E3).trans E4
   refine ⟨pd,_,hend,?_⟩
   cases pd with
   | none=>exact ⟨φ3, .normal,⟨s3.T,(D2, .lp s.T ⟨N,fn,ps,assign,body⟩ .exhausted none) :: s3.H⟩,q3,r4,Efin,rfl⟩
   | some c =>
    cases c with
    | ret=>exact wpIn_ret ⟨φ3, .ret,⟨s3.T,(D2, .lp s.T ⟨N,fn,ps,assign,body⟩ .exhausted (some .ret)) :: s3.H⟩,q3,r4,Efin,rfl⟩
    | exit i=>exact wpIn_exit ⟨φ3, .exit i,⟨s3.T,(D2, .lp s.T ⟨N,fn,ps,assign,body⟩ .exhausted (some (.exit i))) :: s3.H⟩,q3,r4,Efin,rfl⟩
    | _=>exact q3.elim
  | panicked chain=>exact Post.trans Etot he
  | outgrown=>exact he.elim
theorem Ga {φ:Nat→Nat} {h:Qv} {w:World} {M:QR}:∀ {cs:List PV} {l:List Value},Qi φ h w M (cs.map .p) l→∀ (j:Nat) (c:PV),cs[j]?=some c→∃ v:Value,l[j]?=some v∧Q5 w M c v
 | [],l,_,j,c,hj=>by simp at hj
 | x :: cs,l,hr,j,c,hj=>by
  simp only [List.map_cons,Qi,Qf] at hr
  obtain ⟨y,ys,rfl,h1,h2⟩:=hr
  cases j with
  | zero=>simp at hj; subst hj; exact ⟨y,by simp,h1⟩
  | succ j =>
   obtain ⟨v,h3,h4⟩:=Ga h2 j c (by simpa using hj)
   exact ⟨v,by simpa using h3,h4⟩
theorem fI {P:Program} {N:Nat} {ro:Option Nat} {c:Code} {s:St} {Q:AX→St→Prop} {ι:Type} (S:ι→St) (μ:ι→Nat) (i0:ι) (hw:Weak N s (S i0))
  (round:∀ i (K:St→Prop),(∀ s',(∃ j,μ j < μ i∧Weak N s' (S j))→K s')→Ex P N ro c (S i) (andThen K Q)):Ex P N ro (.loop c) s Q :=
 GK hw (wE S μ i0 fun i=>round i _ fun _ h=>h)
attribute [go_sem] K9 YH Wv VD eu leB le Bq Kb Kj
mutual
def flat:AV→Bool
 | .p (.val _)=>true
 | .agg l=>Si l
 | .tup l=>Si l
 | .ifc _ x=>flat x
 | _=>false
def Si:List AV→Bool
 | []=>true
 | x :: xs=>flat x&&Si xs
end
theorem IW {φ φ':Nat→Nat} {h h':Qv} {w w':World} {M M':QR}:(∀ (x:AV) (v:Value),flat x=true→Qf φ h w M x v→Qf φ' h' w' M' x v)∧(∀ (xs:List AV) (l:List Value),Si xs=true→Qi φ h w M xs l→Qi φ' h' w' M' xs l):=by
 have key:∀ n:Nat,(∀ (x:AV),SizeOf.sizeOf x≤n→∀ v,flat x=true→Qf φ h w M x v→Qf φ' h' w' M' x v)∧(∀ (xs:List AV),SizeOf.sizeOf xs≤n→∀ l,Si xs=true→Qi φ h w M xs l→Qi φ' h' w' M' xs l):=by
  intro n
  induction n with
  | zero =>
   refine ⟨fun x hx=>?_,fun es hx=>?_⟩
   ·cases x <;> simp at hx
   ·cases es <;> simp at hx
  | succ n ih =>
   obtain ⟨i1,i2⟩:=ih
   refine ⟨fun x hx v hf hv=>?_,fun xs hx l hf hv=>?_⟩
   ·cases x with
    | p x=>cases x with
     | val u=>simp only [Qf,Q5] at hv ⊢; exact hv
     | sl S es=>simp [flat] at hf
    | agg l=>simp only [flat,Qf] at hf hv ⊢; obtain ⟨m,h1,h2⟩:=hv; exact ⟨m,h1,i2 l (by simp at hx; omega) m hf h2⟩
    | tup l=>simp only [flat,Qf] at hf hv ⊢; obtain ⟨m,h1,h2⟩:=hv; exact ⟨m,h1,i2 l (by simp at hx; omega) m hf h2⟩
    | ifc t x=>simp only [flat,Qf] at hf hv ⊢; obtain ⟨y,h1,h2⟩:=hv; exact ⟨y,h1,i1 x (by simp at hx; omega) y hf h2⟩
    | _=>simp [flat] at hf
   ·cases xs with
    | nil=>simpa [Qi] using hv
    | cons x xs =>
     simp only [Si,Ki,Qi] at hf hv ⊢
     simp at hx
     obtain ⟨y,ys,h1,h2,h3⟩:=hv
     exact ⟨y,ys,h1,i1 x zo y hf.1 h2,i2 xs zo ys hf.2 h3⟩
 exact ⟨fun x v=>(key (SizeOf.sizeOf x)).1 x (Nat.le_refl _) v,fun xs l=>(key (SizeOf.sizeOf xs)).2 xs (Nat.le_refl _) l⟩
def leR (H:Qv) (x y:AV):Prop :=
 le x y∨∃ (b off:Nat) (ty:TypeId) (l:List AV) (cs:List PV),x=.ptr b off∧y=.eptr (cs.drop off)∧H b=some (.box ty l)∧Bq l (cs.map .p)∧XW (cs.map .p)=true
def y9 (H:Qv):List AV→List AV→Prop
 | [],ys=>ys=[]
 | x :: xs,ys=>∃ z zs,ys=z :: zs∧leR H x z∧y9 H xs zs
def roK (K:St→Prop) (Q:AX→St→Prop) (s:St) (dst:Option Tmp):Z0→Prop
 | .ret x=>flat x=true∧K (s.put dst x)
 | .panic x=>flat x=true∧Q (.panic x) s
theorem OV {P:Program} {N:Nat} {f:FuncId} {args args':List AV} {dst:Option Tmp} {s:St} {K:St→Prop} {Q:AX→St→Prop} {X:Z0}
  (hc:Q0 P f args' X) (hle:y9 (look s.H) args args') (hn:YH args'=true) (hd:∀ t,dst=some t→t < N) (hx:roK K Q s dst X):LK P N f args dst s K Q:=by
 intro φ M0 D a w vs r ha
 let M1:QR:=fun x o=>MB φ (look s.H) w M0 x o∧¬ ∃ b ty l,look s.H b=some (.box ty l)∧φ b=x
 have hH:ZN φ GV w M1:=Ux (fun x o hm=>zn hm.1) r.hp.gm.w (fun g hg o h=>r.hp.gm.m g hg o h.1.1)
 have hM:∀ r o v,w.cell? ⟨r,o,none⟩=some v→¬ MM φ (look s.H) M0 r o→w.cell? ⟨r,o,none⟩=some v∧¬ MM φ GV M1 r o:=fun r o v h1 h2=>⟨h1,fun h3=>h3.elim VQ (fun h4=>h2 h4.1.1)⟩
 have hP:=(KF (w:=w) (w':=w) (M:=MM φ (look s.H) M0) (M':=MM φ GV M1) hM)
 have conv:∀ (xs ys:List AV) (vs:List Value),y9 (look s.H) xs ys→YH ys=true→Qi φ (look s.H) w (MM φ (look s.H) M0) xs vs→Qi φ GV w (MM φ GV M1) ys vs:=by
  intro xs
  induction xs with
  | nil=>intro ys vs h1 _ h2; simp only [y9] at h1; subst h1; simpa [Qi] using h2
  | cons x xs ih =>
   intro ys vs h1 h0 h2
   simp only [y9] at h1
   obtain ⟨z,zs,rfl,h3,h4⟩:=h1
   simp only [YH,Ki] at h0
   simp only [Qi] at h2 ⊢
   obtain ⟨v,vs',rfl,h5,h6⟩:=h2
   refine ⟨v,vs',rfl,?_,ih zs vs' h4 h0.2 h6⟩
   rcases h3 with h3 | ⟨b,off,ty,l,cs,rfl,rfl,hb,hl,h1⟩
   ·exact (Wn hM).1 _ _ h0.1 (Jt.1 _ _ _ h3 h5)
   ·simp only [Qf] at h5 ⊢
    obtain ⟨rfl,_⟩:=h5
    refine ⟨φ b,off,rfl,?_⟩
    obtain ⟨c0,hc0,hr0⟩:=r.hp.blk b _ hb
    have hr1:=Jt.2 _ _ _ hl hr0
    rw [Hg]
    intro j c hj
    rw [List.getElem?_drop] at hj
    obtain ⟨u,g1,g2⟩:=Ga hr1 (off+j) c hj
    refine ⟨u,?_,?_,LA h1 hr1 u (List.mem_of_getElem? g1),hP.1 _ _ g2⟩
    ·rw [KU hc0]; simpa using g1
    ·rintro (h7 | h7)
     ·exact VQ h7
     ·exact h7.2 ⟨b,ty,l,hb,rfl⟩
 refine (hc φ M1 w vs hH (conv _ _ _ hle hn ha)).mono ?_
 rintro e w' ⟨φ',r',h',⟨rfl,rfl⟩,hH',E,he⟩
 obtain ⟨r,E1,X1,hC⟩:=r.lift (w'.heap.size - w.heap.size)
 obtain ⟨E2,X2,H2⟩:=Hl E.os E.tape E.output E.size (fun x hx=>E.same x hx (fun b hb=>absurd rfl hb)) r.hp hC
 have r2:Zw _ M0 N D (look s.T) (look s.H) a w':=r.keep E2 X2 H2
 cases r' with
 | ret x =>
  obtain ⟨v,rfl,hv⟩:=he
  exact ⟨_,s.put dst x,hx.2,r2.put hd (IW.1 _ _ hx.1 hv),by cases dst <;> exact E1.trans E2⟩
 | panic x =>
  obtain ⟨v,rfl,hv⟩:=he
  exact ⟨_, .panic x,s,hx.2,r2,E1.trans E2,v,rfl,IW.1 _ _ hx.1 hv⟩
theorem bJ {H:Qv} {b off:Nat} {ty:TypeId} {l:List AV} {cs ds:List PV} (hb:H b=some (.box ty l)) (hl:Bq l (cs.map .p)) (h1:XW (cs.map .p)=true) (hd:ds=cs.drop off):leR H (.ptr b off) (.eptr ds) :=
 .inr ⟨b,off,ty,l,cs,rfl,by rw [hd],hb,hl,h1⟩
theorem bK {P:Program} {N:Nat} {ops:Array Oper} {Q:AX→St→Prop} {o:Oper} {op:Op} {rest:List Oper} {acc:List Yw} {s0 s:St} {K:St→Prop} {f:FuncId} {args args':List AV} {x:AV}
  (hc:Q0 P f args' (.ret x)) (hcall:Z4 (look s.T) op=some (f,args)) (hb:YZ P f=true) (hd:Ku N o.dst=true) (hle:Bq args args') (hn:YH args'=true) (hx:K9 x=true) (h:K (s.put o.dst x)):yY P N ops Q o op rest acc s0 s K :=
 .inl ⟨f,args,args',x,hcall,hb,hd,hle,hn,hx,hc,h⟩
attribute [go_sem] flat Si
mutual
def Sj (t S:Nat) (es:List (List PV)):AV→AV
 | .vsl S' t' n=>if t'=t then .p (.sl S es) else .vsl S' t' n
 | .agg l=>.agg (BF t S es l)
 | .tup l=>.tup (BF t S es l)
 | .fn f l m=>.fn f (BF t S es l) (BF t S es m)
 | .ifc ty x=>.ifc ty (Sj t S es x)
 | x=>x
def BF (t S:Nat) (es:List (List PV)):List AV→List AV
 | []=>[]
 | x :: xs=>Sj t S es x :: BF t S es xs
end
mutual
def fJ (t:Nat):AV→Option (List Nat)
 | .vsl _ t' n=>if t'=t then some [n] else some []
 | .vptr t' _ _ _=>if t'=t then none else some []
 | .agg l=>PR t l
 | .tup l=>PR t l
 | .fn _ l m=>match PR t l,PR t m with | some a,some b=>some (a++b) | _,_=>none
 | .ifc _ x=>fJ t x
 | _=>some []
def PR (t:Nat):List AV→Option (List Nat)
 | []=>some []
 | x :: xs=>match fJ t x,PR t xs with | some a,some b=>some (a++b) | _,_=>none
end
def bL (t S:Nat) (es:List (List PV)):Blk→Blk
 | .box ty l=>.box ty (BF t S es l)
 | k=>k
def Qaz (t:Nat):Blk→Option (List Nat)
 | .box _ l=>PR t l
 | _=>some []
def Nv (t S:Nat) (es:List (List PV)):List (Nat × Blk)→List (Nat × Blk)
 | []=>[]
 | (c,k) :: l=>if c=t then Nv t S es l else (c,bL t S es k) :: Nv t S es l
def bM (t:Nat):List (Nat × Blk)→Option (List Nat)
 | []=>some []
 | (c,k) :: l=>match Qaz t k,bM t l with | some a,some b=>some (a++b) | _,_=>none
def QaA (t:Nat) (s:St):Option (List Nat):=match PR t (s.T.map (·.2)),bM t s.H with | some a,some b=>some (a++b) | _,_=>none
theorem Xh (t S:Nat) (es:List (List PV)):∀ (H:List (Nat × Blk)) (c:Nat),look (Nv t S es H) c=if c=t then none else (look H c).map (bL t S es)
 | [],c=>by simp [Nv,look]
 | (d,k) :: H,c=>by
  simp only [Nv]
  by_cases e:d=t
  ·simp only [e,if_true,Xh t S es H c,look]
   by_cases e2:c=t
   ·simp [e2]
   ·have:¬ t=c:=fun h=>e2 h.symm
    simp [e2,this]
  ·simp only [e,if_false,look,Xh t S es H c]
   by_cases e2:d=c
   ·subst e2; simp [e]
   ·simp [e2]
theorem IX (t S:Nat) (es:List (List PV)):∀ (T:List (Nat × AV)) (x:Nat),look (T.map fun p=>(p.1,Sj t S es p.2)) x=(look T x).map (Sj t S es)
 | [],x=>rfl
 | (k,v) :: T,x=>by
  simp only [List.map_cons,look]
  by_cases e:k=x
  ·simp [e]
  ·simp only [e,if_false]; exact IX t S es T x
theorem fK {φ:Nat→Nat} {h h':Qv} {w:World} {M M':QR} (t S:Nat) (es:List (List PV)) (n0:Nat) (hM:∀ r o,M' r o→M r o) (hh:∀ c k,c ≠ t→h c=some k→h' c=some (bL t S es k)) (hb:∃ ty,h t=some (.vec ty S es))
  (hes:∀ v,(∃ cap c ty,v=.slice (some ⟨φ t,0,none⟩) es.length cap∧w.heap[φ t]?=some (.cells c ty (0,0))∧es.length≤cap)→Q5 w M' (.sl S es) v) (hnob:∀ c k,h c=some k→k.ob=none∨∃ es,k=.mp es) :
  (∀ (x:AV) (v:Value) (L:List Nat),fJ t x=some L→(∀ n ∈ L,n=es.length)→Qf φ h w M x v→Qf φ h' w M' (Sj t S es x) v)∧(∀ (xs:List AV) (l:List Value) (L:List Nat),PR t xs=some L→(∀ n ∈ L,n=es.length)→Qi φ h w M xs l→Qi φ h' w M' (BF t S es xs) l):=by
 obtain ⟨kp,ke,kc⟩:=KF (w:=w) (w':=w) (M:=M) (M':=M') (fun r o v h1 h2=>⟨h1,fun h3=>h2 (hM r o h3)⟩)
 obtain ⟨qG,hb⟩:=hb
 have key:∀ n:Nat,(∀ (x:AV),SizeOf.sizeOf x≤n→∀ v L,fJ t x=some L→(∀ n ∈ L,n=es.length)→Qf φ h w M x v→Qf φ h' w M' (Sj t S es x) v)∧(∀ (xs:List AV),SizeOf.sizeOf xs≤n→∀ l L,PR t xs=some L→(∀ n ∈ L,n=es.length)→Qi φ h w M xs l→Qi φ h' w M' (BF t S es xs) l):=by
  intro n
  induction n with
  | zero =>
   refine ⟨fun x hx=>?_,fun es hx=>?_⟩
   ·cases x <;> simp at hx
   ·cases es <;> simp at hx
  | succ n ih =>
   obtain ⟨i1,i2⟩:=ih
   refine ⟨fun x hx v L hL hn hv=>?_,fun xs hx l L hL hn hv=>?_⟩
   ·cases x with
    | p x=>simp only [Sj,Qf] at hv ⊢; exact kp x v hv
    | tsl S' es' t' =>
     simp only [Sj,Qf] at hv ⊢
     obtain ⟨h1,ty,m,h2,h3⟩:=hv
     have hne:t' ≠ t:=fun e=>by rw [e,hb] at h2; cases h2
     exact ⟨kp _ _ h1,ty,m,by rw [hh t' _ hne h2]; rfl,h3⟩
    | ptr c off =>
     simp only [Sj,Qf] at hv ⊢
     obtain ⟨h1,ty,l,h2⟩:=hv
     have hne:c ≠ t:=fun e=>by rw [e,hb] at h2; cases h2
     exact ⟨h1,ty,BF t S es l,by rw [hh c _ hne h2]; rfl⟩
    | bsl c off =>
     simp only [Sj,Qf] at hv ⊢
     obtain ⟨h1,ty,l,h2⟩:=hv
     have hne:c ≠ t:=fun e=>by rw [e,hb] at h2; cases h2
     exact ⟨h1,ty,BF t S es l,by rw [hh c _ hne h2]; rfl⟩
    | sfp c =>
     simp only [Sj,Qf] at hv ⊢
     obtain ⟨h1,ty,l,h2⟩:=hv
     have hne:c ≠ t:=fun e=>by rw [e,hb] at h2; cases h2
     exact ⟨h1,ty,BF t S es l,by rw [hh c _ hne h2]; rfl⟩
    | vnil=>simp only [Sj,Qf] at hv ⊢; exact hv
    | vsl S' t' m =>
     by_cases e:t'=t
     ·subst e
      simp only [fJ,if_true,Zd] at hL
      subst hL
      have hm:=hn m zq
      simp only [Sj,if_true,Qf] at hv ⊢
      obtain ⟨h1,ty,es',h2,h3,h4⟩:=hv
      rw [hb] at h2
      cases h2
      obtain ⟨cap,c,g1,g2,g3,g4,g5⟩:=h4 hm
      exact hes v ⟨cap,c,_,by rw [← hm]; exact g1,g2,by rw [← hm]; exact g4⟩
     ·simp only [Sj,e,if_false,Qf] at hv ⊢
      obtain ⟨h1,ty,m',h2,h3⟩:=hv
      exact ⟨h1,ty,m',by rw [hh t' _ e h2]; rfl,h3⟩
    | vptr t' m k f =>
     by_cases e:t'=t
     ·simp [fJ,e] at hL
     ·simp only [Sj,Qf] at hv ⊢
      obtain ⟨h1,ty,S',m',h2,h3⟩:=hv
      exact ⟨h1,ty,S',m',by rw [hh t' _ e h2]; rfl,h3⟩
    | eptr l =>
     simp only [Sj,Qf] at hv ⊢
     obtain ⟨r,o,h1,h2⟩:=hv
     exact ⟨r,o,h1,kc l r o h2⟩
    | yv c =>
     simp only [Qf] at hv
     obtain ⟨_,k,T,nf,h2,h3⟩:=hv
     rcases hnob c k h2 with h4 | ⟨_,rfl⟩
     ·rw [h4] at h3; cases h3
     ·cases h3
    | mv c =>
     simp only [Sj,Qf] at hv ⊢
     obtain ⟨h1,k,h2,h3⟩:=hv
     rcases hnob c k h2 with h4 | ⟨es',rfl⟩
     ·rw [h4] at h3; cases h3
     ·have hne:c ≠ t:=fun e=>by rw [e,hb] at h2; cases h2
      exact ⟨h1, .mp es',by rw [hh c _ hne h2]; rfl,rfl⟩
    | iv c =>
     simp only [Sj,Qf] at hv ⊢
     obtain ⟨h1,k,h2,h3⟩:=hv
     rcases hnob c k h2 with h4 | ⟨es',rfl⟩
     ·rw [h4] at h3; cases h3
     ·have hne:c ≠ t:=fun e=>by rw [e,hb] at h2; cases h2
      exact ⟨h1, .mp es',by rw [hh c _ hne h2]; rfl,rfl⟩
    | agg l =>
     simp only [Sj,fJ,Qf] at hv hL ⊢
     obtain ⟨m,h1,h2⟩:=hv
     exact ⟨m,h1,i2 l (by simp at hx; omega) m L hL hn h2⟩
    | tup l =>
     simp only [Sj,fJ,Qf] at hv hL ⊢
     obtain ⟨m,h1,h2⟩:=hv
     exact ⟨m,h1,i2 l (by simp at hx; omega) m L hL hn h2⟩
    | fn f p q =>
     simp only [Sj,fJ,Qf] at hv hL ⊢
     obtain ⟨l,m,h1,h2,h3⟩:=hv
     simp at hx
     split at hL
     ·rename_i La Lb ha hb'
      simp only [Zd] at hL
      subst hL
      exact ⟨l,m,h1,i2 p zo l La ha (fun n h=>hn n (by simp [h])) h2,i2 q zo m Lb hb' (fun n h=>hn n (by simp [h])) h3⟩
     ·cases hL
    | ifc ty x =>
     simp only [Sj,fJ,Qf] at hv hL ⊢
     obtain ⟨y,h1,h2⟩:=hv
     exact ⟨y,h1,i1 x (by simp at hx; omega) y L hL hn h2⟩
   ·cases xs with
    | nil=>simpa [BF,Qi] using hv
    | cons x xs =>
     simp only [BF,PR,Qi] at hv hL ⊢
     simp at hx
     obtain ⟨y,ys,h1,h2,h3⟩:=hv
     split at hL
     ·rename_i La Lb ha hb'
      simp only [Zd] at hL
      subst hL
      exact ⟨y,ys,h1,i1 x zo y La ha (fun n h=>hn n (by simp [h])) h2,i2 xs zo ys Lb hb' (fun n h=>hn n (by simp [h])) h3⟩
     ·cases hL
 exact ⟨fun x v=>(key (SizeOf.sizeOf x)).1 x (Nat.le_refl _) v,fun xs l=>(key (SizeOf.sizeOf xs)).2 xs (Nat.le_refl _) l⟩
theorem IY {t:Nat}:∀ {T:List (Nat × AV)} {L:List Nat} {x:Nat} {v:AV},PR t (T.map (·.2))=some L→look T x=some v→∃ L',fJ t v=some L'∧∀ n ∈ L',n ∈ L
 | [],L,x,v,_,h=>by simp [look] at h
 | (k,y) :: T,L,x,v,hL,h=>by
  simp only [List.map_cons,PR] at hL
  split at hL
  ·rename_i La Lb ha hb
   simp only [Zd] at hL
   subst hL
   simp only [look] at h
   by_cases e:k=x
   ·simp only [e,if_true,Zd] at h
    subst h
    exact ⟨La,ha,fun n hn=>by simp [hn]⟩
   ·simp only [e,if_false] at h
    obtain ⟨L',h1,h2⟩:=IY hb h
    exact ⟨L',h1,fun n hn=>by simp [h2 n hn]⟩
  ·cases hL
theorem IZ {t:Nat}:∀ {H:List (Nat × Blk)} {L:List Nat} {c:Nat} {k:Blk},bM t H=some L→look H c=some k→∃ L',Qaz t k=some L'∧∀ n ∈ L',n ∈ L
 | [],L,x,v,_,h=>by simp [look] at h
 | (b,y) :: H,L,c,k,hL,h=>by
  simp only [bM] at hL
  split at hL
  ·rename_i La Lb ha hb
   simp only [Zd] at hL
   subst hL
   simp only [look] at h
   by_cases e:b=c
   ·simp only [e,if_true,Zd] at h
    subst h
    exact ⟨La,ha,fun n hn=>by simp [hn]⟩
   ·simp only [e,if_false] at h
    obtain ⟨L',h1,h2⟩:=IZ hb h
    exact ⟨L',h1,fun n hn=>by simp [h2 n hn]⟩
  ·cases hL
def wU:List (Nat × Blk)→Bool
 | []=>true
 | (_,k) :: l=>(match k with | .mp _=>true | k=>k.ob.isNone)&&wU l
theorem J8:∀ {H:List (Nat × Blk)},wU H=true→∀ c k,look H c=some k→k.ob=none∨∃ es,k=.mp es
 | [],_,c,k,h=>by cases h
 | (b,q) :: H,hn,c,k,h=>by
  simp only [wU,Ki] at hn
  simp only [look] at h
  split at h
  ·cases h
   have:=hn.1
   split at this
   ·exact .inr ⟨_,rfl⟩
   ·exact .inl (by simpa using this)
  ·exact J8 hn.2 c k h
theorem FY {N:Nat} {s:St} (t:Nat) (ty:TypeId) (S:Nat) (es:List (List PV)) (L:List Nat) (hb:look s.H t=some (.vec ty S es)) (hL:QaA t s=some L) (hn:∀ n ∈ L,n=es.length) (hlt:Nat.blt t 1000=true) (hno:wU s.H=true) :
  Weak N s ⟨s.T.map fun p=>(p.1,Sj t S es p.2),Nv t S es s.H⟩:=by
 have hlt':t < 1000:=by simpa [Nat.blt_eq] using hlt
 unfold QaA at hL
 split at hL
 rotate_left
 ·cases hL
 rename_i L1 L2 hL1 hL2
 simp only [Zd] at hL
 subst hL
 intro φ M0 D a w r
 refine ⟨φ,?_⟩
 have hdom:∀ c k',look (Nv t S es s.H) c=some k'→c ≠ t∧∃ k,look s.H c=some k∧k'=bL t S es k:=by
  intro c k' hc
  rw [Xh] at hc
  by_cases e:c=t
  ·simp [e] at hc
  ·simp only [e,if_false] at hc
   cases hk:look s.H c with
   | none=>rw [hk] at hc; cases hc
   | some k=>rw [hk] at hc; cases hc; exact ⟨e,k,rfl,rfl⟩
 have hmut:∀ x o,RF φ (look (Nv t S es s.H)) x o→RF φ (look s.H) x o∧x ≠ φ t:=by
  rintro x o ⟨c,k',g1,g2,g3⟩
  obtain ⟨e,k,g4,rfl⟩:=hdom c k' g1
  refine ⟨⟨c,k,g4,g2,by cases k <;> exact g3⟩,fun hx=>e ?_⟩
  exact r.hp.inj c t (by rw [g4]; simp) (by rw [hb]; simp) (by rw [g2,hx])
 have hM:∀ x o,MM φ (look (Nv t S es s.H)) M0 x o→MM φ (look s.H) M0 x o:=fun x o hx=>hx.elim (fun h=>.inl (hmut x o h).1) .inr
 have hMb:∀ o,¬ MM φ (look (Nv t S es s.H)) M0 (φ t) o:=by
  rintro o (hx | hx)
  ·exact (hmut _ _ hx).2 rfl
  ·exact r.hp.fr t (by rw [hb]; simp) o hx
 obtain ⟨c0,cap0,hc0,hsz,hle,hmx,hS,h1,hr0⟩:=r.hp.blk t _ hb
 have hes:∀ v,(∃ cap c ty,v=.slice (some ⟨φ t,0,none⟩) es.length cap∧w.heap[φ t]?=some (.cells c ty (0,0))∧es.length≤cap)→Q5 w (MM φ (look (Nv t S es s.H)) M0) (.sl S es) v:=by
  rintro v ⟨cap,c,ty',rfl,hc,hcap⟩
  simp only [Q5]
  refine .inl ⟨φ t,0,cap,rfl,hcap,?_⟩
  rw [Vy]
  refine ⟨hS,?_⟩
  rw [Hg]
  intro j q hj
  obtain ⟨u,g1,g2⟩:=Ga hr0 j q hj
  have g3:c0.toList[j]?=some u:=by
   rw [List.getElem?_take] at g1
   split at g1
   ·exact g1
   ·cases g1
  refine ⟨u,?_,hMb _,h1 u (List.mem_of_getElem? g3),(KF (w:=w) (w':=w) (fun r o v h1 h2=>⟨h1,fun h3=>h2 (hM r o h3)⟩)).1 _ _ g2⟩
  rw [KU hc0]
  simpa using g3
 obtain ⟨k1,k2⟩:=fK (φ:=φ) (h:=look s.H) (h':=look (Nv t S es s.H)) (w:=w) (M:=MM φ (look s.H) M0) t S es es.length hM
  (fun c k hne hk=>by rw [Xh,if_neg hne,hk]; rfl) ⟨ty,hb⟩ hes (J8 hno)
 have E:Zg φ (look s.H) w φ (look (Nv t S es s.H)) w:=by
  refine ⟨rfl,rfl,rfl,Nat.le_refl _,fun _ _ _=>rfl,fun _ _ _ _=>rfl,fun x o _ hx=>(hmut x o hx).1,?_,?_,?_,?_⟩
  ·intro c ty' l hc hcc
   have hne:c ≠ t:=by omega
   exact ⟨⟨BF t S es l,by rw [Xh,if_neg hne,hcc]; rfl⟩,rfl⟩
  ·intro c ty' S' n hc hcc
   have hne:c ≠ t:=by omega
   exact ⟨n,by rw [Xh,if_neg hne,hcc]; rfl,Nat.le_refl _,fun _=>YJ (rfl) rfl⟩
  ·intro c ty' S' n hc hcc
   have hne:c ≠ t:=by omega
   exact ⟨n,by rw [Xh,if_neg hne,hcc]; rfl,Nat.le_refl _,fun _=>⟨rfl,fun c hc=>⟨c,hc,rfl⟩⟩⟩
  ·intro c k x hc hcc ho
   rcases J8 hno c k hcc with h4 | ⟨es',rfl⟩
   ·rw [h4] at ho; cases ho
   ·have hne:c ≠ t:=by omega
    exact ⟨⟨.mp es',by rw [Xh,if_neg hne,hcc]; rfl,ho⟩,rfl⟩
 refine ⟨⟨r.dfs.keep E,r.siz,⟨?_,?_,?_,r.hp.lt,r.hp.gm.evol E⟩,?_⟩,E⟩
 ·intro c d hc hd he
  obtain ⟨kc,hkc⟩:=P7.1 hc
  obtain ⟨kd,hkd⟩:=P7.1 hd
  obtain ⟨_,k1,e1,_⟩:=hdom c kc hkc
  obtain ⟨_,k2,e2,_⟩:=hdom d kd hkd
  exact r.hp.inj c d (by rw [e1]; simp) (by rw [e2]; simp) he
 ·intro c k' hk'
  obtain ⟨_,k,e1,rfl⟩:=hdom c k' hk'
  have:=r.hp.blk c k e1
  cases k with
  | box ty' l =>
   obtain ⟨c1,q1,q2⟩:=this
   obtain ⟨L',g1,g2⟩:=IZ hL2 e1
   exact ⟨c1,q1,k2 _ _ L' g1 (fun n h=>hn n (by simp [g2 n h])) q2⟩
  | arr ty' S n=>exact this
  | vec ty' S es=>obtain ⟨c1,cap,q1,q2,q3,q4,q5,q6,q7⟩:=this; exact ⟨c1,cap,q1,q2,q3,q4,q5,q6,BC hM _ _ q7⟩
  | lp T nf st pd=>rcases J8 hno c _ e1 with h4 | ⟨_,h4⟩ <;> cases h4
  | mp es =>
   obtain ⟨en,cl,q1,q2,q3⟩:=this
   have e:es.map (fun p=>AV.p p.2)=(es.map (·.2)).map .p:=by simp
   refine ⟨en,cl,q1,q2,?_⟩
   rw [e] at q3 ⊢
   exact BC hM _ _ q3
  | mf es=>rcases J8 hno c _ e1 with h4 | ⟨_,h4⟩ <;> cases h4
  | mg en cl es=>rcases J8 hno c _ e1 with h4 | ⟨_,h4⟩ <;> cases h4
  | it m cl sn=>rcases J8 hno c _ e1 with h4 | ⟨_,h4⟩ <;> cases h4
 ·intro c hc o hm
  obtain ⟨kc,hkc⟩:=P7.1 hc
  obtain ⟨_,k1,e1,_⟩:=hdom c kc hkc
  exact r.hp.fr c (by rw [e1]; simp) o hm
 ·intro x y hy
  rw [IX] at hy
  cases hq:look s.T x with
  | none=>rw [hq] at hy; cases hy
  | some z =>
   rw [hq] at hy
   cases hy
   obtain ⟨L',g1,g2⟩:=IY hL1 hq
   exact ⟨(r.tm x z hq).1,k1 _ _ L' g1 (fun n h=>hn n (by simp [g2 n h])) (r.tm x z hq).2⟩
theorem Sl {P:Program} {cs:List Frame}:∀ (ms:List Nat) (fr:Frame) (w:World),fr.mode ≠ .run→ms.Nodup→(∀ r ∈ ms,w.heap[r]?=some (.deferred (some []))) →
  fr.defers=(ms.map fun r=>({ target:=.collected r,args:=#[] }:Deferred))→∃ w',UN ms w w'∧Steps P (lone fr cs w) (lone { fr with defers:=[] } cs w')
 | [],fr,w,_,_,_,hd=>by
  refine ⟨w,⟨rfl,rfl,rfl,rfl,fun _ _=>rfl,fun k hk=>by cases hk⟩,?_⟩
  have:{ fr with defers:=[] }=fr:=by cases fr; simp only at hd; subst hd; rfl
  rw [this]
  exact Steps.refl _ _
 | r :: ms,fr,w,hm,hn,hb,hd=>by
  have h0:=hb r zq
  have hlt:r < w.heap.size:=(Rn.1 h0).1
  have hw1:∀ k:Nat,(w.putObj r (.deferred none)).heap[k]?=(w.heap.setIfInBounds r (.deferred none))[k]?:=fun k=>rfl
  have h1:=step_collected (cs:=cs) hm hd rfl (run_takeDeferred (P:=P) h0)
  obtain ⟨w',t,hs⟩:=Sl (P:=P) (cs:=cs) ms { fr with defers:=[]++(ms.map fun r=>({ target:=.collected r,args:=#[] }:Deferred)) } (w.putObj r (.deferred none)) hm (List.nodup_cons.1 hn).2 (fun k hk=>by
   have:r ≠ k:=fun e=>(List.nodup_cons.1 hn).1 (e ▸ hk)
   rw [hw1,Array.getElem?_setIfInBounds_ne this]
   exact hb k (by simp [hk])) rfl
  refine ⟨w',⟨t.os,t.tape,t.output,by rw [t.size]; simp [World.putObj],fun k hk=>?_,fun k hk=>?_⟩, .head h1 hs⟩
  ·simp only [List.mem_cons,not_or] at hk
   rw [t.same k hk.2,hw1,Array.getElem?_setIfInBounds_ne (Ne.symm hk.1)]
  ·rcases List.mem_cons.1 hk with e | e
   ·subst e
    rw [t.same k (List.nodup_cons.1 hn).1,hw1]
    simp [hlt]
   ·exact t.turn k e
theorem OW {P:Program} {f:FuncId} {fn:Func} {c:Code} {args:Array Value} {u:FrameMode} {w:World} {R:Ending→FrameMode→World→Prop} (hf:P.funcs[f]?=some fn) (hb:fn.body=some c)
  (h:∀ (c₀:Frame) (cs:List Frame),c₀.mode=u→c.wpS P (fun e a cs' w'=>(e=.normal∨e=.ret)∧∃ ms u',a.defers=(ms.map fun r=>({ target:=.collected r,args:=#[] }:Deferred))∧ms.Nodup∧(∀ r ∈ ms,w'.heap[r]?=some (.deferred (some []))) ∧
   cs'={ c₀ with mode:=u' } :: cs∧∀ w'',UN ms w' w''→∃ v,(results fn a.tmps).run P w''=.ok v w''∧R (.returned v) u' w'') { tmps:=args++Array.replicate (fn.ntmps - args.size) undef,defers:=[] } (c₀ :: cs) w):CallsD P f args u w R:=by
 intro c₀ cs hu
 let b:Frame:={ (default:Frame) with fn:=f,kind:=.deferred }
 have henter:Frame.enter P f args .deferred=b.at { tmps:=args++Array.replicate (fn.ntmps - args.size) undef,defers:=[] } [.code c]:=by
  simp [Frame.enter,Frame.at,hf,hb,b]
 obtain ⟨e,a',cs',w',⟨he,ms,u',hd,hn,hms,rfl,hq⟩,harr⟩:=h c₀ cs hu b [] rfl rfl
 rw [← henter] at harr
 have fin:∀ todo,Steps P (lone (Frame.enter P f args .deferred) (c₀ :: cs) w) (lone { b.at a' todo with mode:=.returning } ({ c₀ with mode:=u' } :: cs) w') →
   ∃ e u'' w'' fr,R e u'' w''∧Comes P (lone (Frame.enter P f args .deferred) (c₀ :: cs) w) (lone fr ({ c₀ with mode:=u'' } :: cs) w'') e∧fr.kind=.deferred∧fr.going P w'' e:=by
  intro todo hs
  obtain ⟨w'',t,hs2⟩:=Sl (P:=P) (cs:={ c₀ with mode:=u' } :: cs) ms { b.at a' todo with mode:=.returning } w' zq hn hms hd
  obtain ⟨v,hr,hR⟩:=hq w'' t
  exact ⟨.returned v,u',w'',_,hR,Steps.trans hs hs2,rfl,rfl,rfl,fn,hf,hr⟩
 rcases he with rfl | rfl
 ·exact fin [] (Steps.trans harr (.one step_end))
 ·obtain ⟨todo,hs⟩:=harr
  exact fin todo hs
structure Ko (P:Program) (g:FuncId) where
 fn:Func
 id:Nat
 o1:Oper
 o2:Oper
 d1:Tmp
 d2:Tmp
 ts:Array TypeId
 rest:Code
 hf:P.funcs[g]?=some fn
 hb:fn.body=some (.seq (.region id #[o1,o2] false) rest)
 hop1:o1.op=.call ⟨.builtin .recover,#[],ts⟩
 hop2:o2.op=.assign (.tmp d1)
 hg1:o1.guard=none
 hg2:o2.guard=none
 hd1:o1.dst=some d1
 hd2:o2.dst=some d2
 hlt1:d1 < fn.ntmps
 hlt2:d2 < fn.ntmps
def sQ (u u':FrameMode) (v:Value):Prop:=∀ (c0:Frame) (cs:List Frame),c0.mode=u→(recoverD (c0 :: cs)=some (v,{ c0 with mode:=u' } :: cs))∨(recoverD (c0 :: cs)=none∧v=.nilIface∧u'=u)
def CD (P:Program) (g:FuncId) (vs:Array Value) (w:World) (R:Ending→World→Prop):Prop:=∀ u u' v vl,vs=(v :: vl).toArray→sQ u u' v→CallsD P g vl.toArray u w fun e u'' w'=>u''=u'∧R e w'
def sU (P:Program) (fn:Func) (hc:List (Nat × Blk)) (R:Z0→Qv→Prop):AX→St→Prop
 | .panic _,_=>False
 | x,s=>wR P fn hc R x s
theorem wV {φ:Nat→Nat} {M0:QR} {N:Nat} {D:DB} {T:List (Nat × AV)} {h:Qv} {a:Act} {w:World} {d:Tmp} {x:AV} {v:Value} (r:Zw φ M0 N D (look T) h a w) (hd:d < N) (hv:Qf φ h w (MM φ h M0) x v):Zw φ M0 N D (look ((d,x) :: T)) h (a.put (some d) v) w:=by
 refine ⟨r.dfs,by simp [Act.put,r.siz],r.hp,fun t y ht=>?_⟩
 simp only [look] at ht
 by_cases e:d=t
 ·simp only [e,if_true,Zd] at ht
  subst ht
  subst e
  refine ⟨hd,?_⟩
  have h0:d < a.tmps.size:=by rw [r.siz]; exact hd
  have:(a.put (some d) v).tmps.getD d undef=v:=by simp [Act.put,h0]
  rw [this]
  exact hv
 ·simp only [e,if_false] at ht
  obtain ⟨g1,g2⟩:=r.tm t y ht
  refine ⟨g1,?_⟩
  have:(a.put (some d) v).tmps.getD t undef=a.tmps.getD t undef:=by simp [Act.put,Array.getElem?_setIfInBounds_ne e]
  rw [this]
  exact g2
theorem zK {P:Program} {g:FuncId} (C:Ko P g) {rv:AV} {caps:List AV} {hc:List (Nat × Blk)} {R:Z0→Qv→Prop} (hl:caps.length≤C.fn.ntmps)
  (h:Ex P C.fn.ntmps none C.rest ⟨(C.d2,rv) :: (C.d1,rv) :: WQ 0 caps,hc⟩ (sU P C.fn hc R)) :
  ∀ φ M0 w vs,ZN φ (look hc) w M0→Qi φ (look hc) w (MM φ (look hc) M0) (rv :: caps) vs→CD P g vs.toArray w (Out R φ (look hc) w M0):=by
 intro φ M0 w vs hH ha u u' v vl hvs hrec
 simp only [Qi] at ha
 obtain ⟨y,ys,rfl,hrv,hcaps⟩:=ha
 have hvs':y=v∧ys=vl:=by
  have:=congrArg Array.toList hvs
  simpa using this
 obtain ⟨rfl,rfl⟩:=hvs'
 refine OW C.hf C.hb fun c0 cs hm=>wpS_seq (wpS_region ?_)
 have hrange:List.range (#[C.o1,C.o2]:Array Oper).size=[0,1]:=rfl
 rw [hrange]
 have hw1:∀ y,Region.wanted C.o1 y=true:=fun y=>by simp [Region.wanted,C.hg1]
 have hw2:∀ y,Region.wanted C.o2 y=true:=fun y=>by simp [Region.wanted,C.hg2]
 have hrun1:∀ (a:Act) (w:World),(execOp a.eval C.o1).run P w=.ok .recover w:=fun a w=>by simp [execOp,C.hop1,resolve,invoke,builtin]
 have r0:=Nr hH hcaps hl
 generalize ha0:({ tmps:=ys.toArray++Array.replicate (C.fn.ntmps - ys.toArray.size) undef,defers:=[] }:Act)=a0 at r0
 have r1:=wV (d:=C.d1) r0 C.hlt1 hrv
 have he1:(a0.put C.o1.dst y).eval (.tmp C.d1)=y:=by
  have h0:C.d1 < a0.tmps.size:=by rw [r0.siz]; exact C.hlt1
  simp [Act.put,C.hd1,Act.eval,h0]
 have r2:=wV (d:=C.d2) r1 C.hlt2 hrv
 have rest:∀ (cs1:List Frame),cs1={ c0 with mode:=u' } :: cs→wpOpsS P #[C.o1,C.o2] (Exit.thenS (C.rest.wpS P (fun e a cs' w'=>(e=.normal∨e=.ret)∧∃ ms u'',a.defers=(ms.map fun r=>({ target:=.collected r,args:=#[] }:Deferred))∧ms.Nodup∧(∀ r ∈ ms,w'.heap[r]?=some (.deferred (some []))) ∧
   cs'={ c0 with mode:=u'' } :: cs∧∀ w'',UN ms w' w''→∃ v,(results C.fn a.tmps).run P w''=.ok v w''∧(u''=u'∧Out R φ (look hc) w M0 (.returned v) w''))) (fun e a cs' w'=>(e=.normal∨e=.ret)∧∃ ms u'',a.defers=(ms.map fun r=>({ target:=.collected r,args:=#[] }:Deferred))∧ms.Nodup∧(∀ r ∈ ms,w'.heap[r]?=some (.deferred (some []))) ∧
   cs'={ c0 with mode:=u'' } :: cs∧∀ w'',UN ms w' w''→∃ v,(results C.fn a.tmps).run P w''=.ok v w''∧(u''=u'∧Out R φ (look hc) w M0 (.returned v) w''))) [1] (a0.put C.o1.dst y) cs1 w:=by
  intro cs1 hcs
  have hget:(#[C.o1,C.o2]:Array Oper)[1]?=some C.o2:=rfl
  have hrun2:(execOp (a0.put C.o1.dst y).eval C.o2).run P w=.ok (.value y) w:=by
   generalize a0.put C.o1.dst y=A at he1
   simp [execOp,C.hop2,he1]
  simp only [wpOpsS,hget,hw2,if_true,hrun2,Oper.upon]
  show C.rest.wpS P _ ((a0.put C.o1.dst y).put C.o2.dst y) cs1 w
  rw [C.hd1,C.hd2]
  refine wpS_of_wp (wpIn_wide.1 (wpIn_mono (h φ M0 _ _ w r2) ?_))
  rintro e a' w' ⟨φ',k,s',h1,h2,h3,h4⟩
  obtain ⟨hbase,ms,hd,hnd,hms⟩:=h2.dfs
  have hd':a'.defers=ms.map fun r=>({ target:=.collected r,args:=#[] }:Deferred):=by rw [hd]; simp
  have hm2:∀ r ∈ ms,w'.heap[r]?=some (.deferred (some []))∧∀ b,look s'.H b ≠ none→φ' b ≠ r:=fun r hr=>(hms r hr).2
  have go:PQ P C.fn hc R s'→∃ ms u'',a'.defers=(ms.map fun r=>({ target:=.collected r,args:=#[] }:Deferred))∧ms.Nodup∧(∀ r ∈ ms,w'.heap[r]?=some (.deferred (some []))) ∧
    cs1={ c0 with mode:=u'' } :: cs∧∀ w'',UN ms w' w''→∃ v,(results C.fn a'.tmps).run P w''=.ok v w''∧(u''=u'∧Out R φ (look hc) w M0 (.returned v) w''):=by
   intro hend
   refine ⟨ms,u',hd',hnd,fun r hr=>(hm2 r hr).1,hcs,fun w'' t=>?_⟩
   obtain ⟨v,g1,g2⟩:=Sg (h2.turned t hm2) (h3.turned t (fun r hr=>(hms r hr).1) hm2) hend
   exact ⟨v,g1,rfl,g2⟩
  cases k with
  | normal =>
   simp only [Xo] at h4
   subst h4
   exact ⟨.inl rfl,go h1⟩
  | ret =>
   simp only [Xo] at h4
   subst h4
   exact ⟨.inr rfl,go h1⟩
  | exit i=>exact h1.elim
  | panic x=>exact h1.elim
 have hget:(#[C.o1,C.o2]:Array Oper)[0]?=some C.o1:=rfl
 rcases hrec c0 cs hm with h1 | ⟨h1,rfl,rfl⟩
 ·rw [wpOpsS]
  simp only [hget,hw1,if_true,hrun1,h1]
  exact rest _ rfl
 ·rw [wpOpsS]
  simp only [hget,hw1,if_true,hrun1,h1]
  exact rest _ (by subst hm; rfl)
def iV (P:Program) (N:Nat) (g:FuncId) (args:List AV) (s:St) (K:St→Prop):Prop :=
 ∀ φ M0 D a w vs,Zw φ M0 N D (look s.T) (look s.H) a w→Qi φ (look s.H) w (MM φ (look s.H) M0) args vs→CD P g vs.toArray w fun e w' =>
  match e with
  | .returned v=>∃ φ' s',K s'∧Zw φ' M0 N D (look s'.T) (look s'.H) a w'∧Zg φ (look s.H) w φ' (look s'.H) w'
  | _=>False
theorem xD {P:Program} {N:Nat} {g:FuncId} {args args':List AV} {s:St} {K:St→Prop} {hc:List (Nat × Blk)} {R:Z0→Qv→Prop} (ρ:Nat→Nat)
  (hcall:∀ φ M0 w vs,ZN φ (look hc) w M0→Qi φ (look hc) w (MM φ (look hc) M0) args' vs→CD P g vs.toArray w (Out R φ (look hc) w M0))
  (hargs:Bq args (VD ρ args')) (hok:Kj (look hc) args'=true)
  (hbig:∀ c ∈ hc.map (·.1),1000≤c) (hokb:∀ c k,look hc c=some k→okRefB (look hc) k=true)
  (hsub:∀ c k,look hc c=some k→∃ k0,look s.H (ρ c)=some k0∧leB k0 (Z9 ρ k))
  (hinj:∀ c ∈ hc.map (·.1),∀ d ∈ hc.map (·.1),ρ c=ρ d→c=d)
  (hret:∀ r h',R r h'→∃ hc' H2,h'=look hc'∧H9 ρ hc hc' s.H∧(∀ b,look H2 b=look (Kh ρ hc' s.H) b) ∧
   (match r with | .ret x=>K (St.put ⟨s.T,H2⟩ none (Wv ρ x)) | .panic x=>False)):iV P N g args s K:=by
 intro φ M0 D a w vs r ha
 have:=D5 (C:=fun _ vs w R=>CD P g vs w R) (fun _ vs w R R' h hq u u' v vl e hr=>(h u u' v vl e hr).mono (fun e u'' w' p=>⟨p.1,hq _ _ p.2⟩)) (N:=N) (dst:=none) (K:=K) (Q:=fun _ _=>False) ρ hcall hargs hok hbig hokb hsub hinj (fun t ht=>by cases ht) hret φ M0 D a w vs r ha
 intro u u' v vl e hr
 refine (this u u' v vl e hr).mono ?_
 rintro e u'' w' ⟨rfl,he⟩
 refine ⟨rfl,?_⟩
 cases e with
 | returned v=>exact he
 | panicked c=>obtain ⟨_,x,_,hF,_,_,hx⟩:=he; exact hF
 | outgrown=>exact he
def sg (L:List (Nat × Nat)) (x:Nat):Nat:=(look L x).getD x
def sgI (L:List (Nat × Nat)) (x:Nat):Nat:=sg (L.map fun p=>(p.2,p.1)) x
def sgT (L:List (Nat × Nat)) (T:List (Nat × AV)):List (Nat × AV):=T.map fun p=>(p.1,Wv (sg L) p.2)
def zL (L:List (Nat × Nat)) (H:List (Nat × Blk)):List (Nat × Blk):=H.map fun p=>(sg L p.1,Z9 (sg L) p.2)
def eG (L:List (Nat × Nat)) (H:List (Nat × Blk)):Bool:=H.all (fun p=>sgI L (sg L p.1) == p.1)&&L.all (fun p=>Nat.blt p.1 1000&&Nat.ble 1000 p.2&&sg L p.1 == p.2&&(match look H p.1 with | some (.box _ _)=>true | _=>false))
def FZ (L:List (Nat × Nat)):List AV:=L.map fun p=>.ptr p.2 0
theorem zM (L:List (Nat × Nat)):∀ (T:List (Nat × AV)) (t:Nat),look (sgT L T) t=(look T t).map (Wv (sg L))
 | [],t=>rfl
 | (k,v) :: T,t=>by
  simp only [sgT,List.map_cons,look]
  by_cases e:k=t
  ·simp [e]
  ·simp only [e,if_false]; exact zM L T t
structure F3 (fn:Func) (g:FuncId) where
 r1:Code
 rest:Code
 id:Nat
 o1:Oper
 o2:Oper
 caps:Array Operand
 tbs:List Tmp
 tc:Tmp
 ts:Array TypeId
 hb:fn.body=some (.seq r1 (.seq (.region id #[o1,o2] false) rest))
 hop1:o1.op=.makeFunc (.func g) #[] caps
 hcaps:caps.toList=tbs.map .tmp
 hop2:o2.op=.defer ⟨.value (.tmp tc),#[],ts⟩
 hg1:o1.guard=none
 hg2:o2.guard=none
 hd1:o1.dst=some tc
 hd2:o2.dst=none
 hlt:tc < fn.ntmps
def wW (P:Program) (fn:Func) (hc:List (Nat × Blk)) (N:Nat) (g:FuncId) (caps:List AV) (R:Z0→Qv→Prop):AX→St→Prop
 | .ret,s=>iV P N g (y7 :: caps) s (PQ P fn hc R)
 | .normal,s=>iV P N g (y7 :: caps) s (PQ P fn hc R)
 | .panic v,s=>iV P N g (v :: caps) s (PQ P fn hc R)
 | .exit _,_=>False
theorem OX {P:Program} {f g:FuncId} {fn:Func} {args:List AV} {hc:List (Nat × Blk)} {R:Z0→Qv→Prop} (F:F3 fn g) (L:List (Nat × Nat)) (hf:P.funcs[f]?=some fn) (hl:args.length≤fn.ntmps)
  (hbg:YZ P g=true)
  (h:Ex P fn.ntmps none F.r1 ⟨WQ 0 args,hc⟩ (fun x s=>x=.normal∧F.tbs.map (look s.T)=L.map (fun p=>some (.ptr p.1 0))∧eG L s.H=true∧(∀ c k x,look s.H c=some k→k.ob=some x→(some x).map (y5 (sg L))=some x) ∧
   Ex P fn.ntmps none F.rest ⟨(F.tc, .fn (.func g) [] (FZ L)) :: sgT L s.T,zL L s.H⟩ (wW P fn hc fn.ntmps g (FZ L) R))):Wz P f args (look hc) R:=by
 intro φ M0 w vs hH ha
 refine Bw hf F.hb ?_
 refine wpIn_seq (wpIn_mono (h φ M0 _ _ w (Nr hH ha hl)) ?_)
 rintro e a1 w1 ⟨φ1,k,s,⟨rfl,htbs,hsg,hnob,hrest⟩,r1,E1,hx⟩
 simp only [Xo] at hx
 subst hx
 show Code.wpIn (wd none) 0 P (.seq (.region F.id #[F.o1,F.o2] false) F.rest) _ a1 w1
 simp only [eG,Ki,List.all_eq_true,beq_iff_eq] at hsg
 obtain ⟨hsg1,hsg2⟩:=hsg
 have hL:∀ p ∈ L,p.1 < 1000∧1000≤p.2∧∃ ty cs,look s.H p.1=some (.box ty cs):=by
  intro p hp
  have:=hsg2 p hp
  obtain ⟨⟨⟨g1,g2⟩,_⟩,g3⟩:=this
  refine ⟨by simpa [Nat.blt_eq] using g1,Nat.le_of_ble_eq_true g2,?_⟩
  split at g3
  ·rename_i ty cs he; exact ⟨ty,cs,he⟩
  ·cases g3
 let ps:Array Value:=F.caps.map a1.eval
 have hps:ps.toList=F.tbs.map fun t=>a1.eval (.tmp t):=by simp [ps,F.hcaps,Function.comp_def]
 have hpv:ps.toList=L.map fun p=>.pointer (some ⟨φ1 p.1,0,none⟩):=by
  rw [hps]
  have:∀ (ts:List Tmp) (L:List (Nat × Nat)),ts.map (look s.T)=L.map (fun p=>some (.ptr p.1 0))→ts.map (fun t=>a1.eval (.tmp t))=L.map fun p=>.pointer (some ⟨φ1 p.1,0,none⟩):=by
   intro ts
   induction ts with
   | nil=>intro L hh; cases L with
    | nil=>rfl
    | cons p L=>cases hh
   | cons t ts ih=>intro L hh; cases L with
    | nil=>cases hh
    | cons p L =>
     simp only [List.map_cons,List.cons.injEq] at hh ⊢
     refine ⟨?_,ih L hh.2⟩
     have:=(r1.tm t _ hh.1).2
     simp only [Qf] at this
     exact this.1
  exact this _ _ htbs
 let d:Deferred:={ target:=.fn (.func g) ps,args:=#[] }
 let a2:Act:={ tmps:=a1.tmps.setIfInBounds F.tc (.func (.func g) #[] ps),defers:=d :: a1.defers }
 have hwp:∀ Q,Code.wpIn (wd none) 0 P F.rest Q a2 w1→Code.wpIn (wd none) 0 P (.seq (.region F.id #[F.o1,F.o2] false) F.rest) Q a1 w1:=by
  intro Q hq
  refine wpIn_seq (wpIn_region ?_)
  have hrange:List.range (#[F.o1,F.o2]:Array Oper).size=[0,1]:=rfl
  rw [hrange]
  have hget0:(#[F.o1,F.o2]:Array Oper)[0]?=some F.o1:=rfl
  have hget1:(#[F.o1,F.o2]:Array Oper)[1]?=some F.o2:=rfl
  have hw1:∀ y,Region.wanted F.o1 y=true:=fun y=>by simp [Region.wanted,F.hg1]
  have hw2:∀ y,Region.wanted F.o2 y=true:=fun y=>by simp [Region.wanted,F.hg2]
  have hrun1:(execOp a1.eval F.o1).run P w1=.ok (.value (.func (.func g) #[] ps)) w1:=by simp [execOp,F.hop1,Instr.makeFunc,ps]
  have htc:(a1.put F.o1.dst (.func (.func g) #[] ps)).eval (.tmp F.tc)=.func (.func g) #[] ps:=by
   have h0:F.tc < a1.tmps.size:=by rw [r1.siz]; exact F.hlt
   simp [Act.put,F.hd1,Act.eval,h0]
  have hrun2:(execOp (a1.put F.o1.dst (.func (.func g) #[] ps)).eval F.o2).run P w1=.ok (.defer d) w1:=by
   simp [execOp,F.hop2,resolve,htc,Deferred.ofValue,d]
  simp only [wpOpsIn,hget0,hget1,hw1,hw2,if_true]
  refine ⟨fun _ _=>trivial,?_⟩
  show Oper.uponIn _ _ _ _ _ _ _ (Sem.run P (execOp a1.eval F.o1) w1)
  rw [hrun1]
  refine ⟨fun _ _=>trivial,?_⟩
  show Oper.uponIn _ _ _ _ _ _ _ (Sem.run P (execOp (a1.put F.o1.dst (.func (.func g) #[] ps)).eval F.o2) w1)
  rw [hrun2]
  show Code.wpIn (wd none) 0 P F.rest Q _ w1
  have:({ (a1.put F.o1.dst (.func (.func g) #[] ps)) with defers:=d :: (a1.put F.o1.dst (.func (.func g) #[] ps)).defers }:Act).put F.o2.dst undef=a2:=by
   simp [Act.put,F.hd1,F.hd2,a2]
  rw [this]
  exact hq
 refine hwp _ ?_
 have hinv:∀ c ∈ s.H.map (·.1),sgI L (sg L c)=c:=by
  intro c hc
  obtain ⟨p,hp,rfl⟩:=List.mem_map.1 hc
  exact hsg1 p hp
 have hkeep:∀ c,1000≤c→sg L c=c:=by
  intro c hc
  unfold sg
  cases hq:look L c with
  | none=>rfl
  | some d =>
   have:c ∈ L.map (·.1):=YE.1 (by rw [hq]; simp)
   obtain ⟨p,hp,rfl⟩:=List.mem_map.1 this
   have:=(hL p hp).1
   omega
 let φ2:Nat→Nat:=fun x=>φ1 (sgI L x)
 have hφ2:∀ c,look s.H c ≠ none→φ2 (sg L c)=φ1 c:=fun c hc=>by simp only [φ2]; rw [hinv c (YE.1 hc)]
 have hsinj:∀ c d,c ∈ s.H.map (·.1)→d ∈ s.H.map (·.1)→sg L c=sg L d→c=d:=fun c d hc hd he=>by rw [← hinv c hc,he,hinv d hd]
 have hlook:∀ c k,look s.H c=some k→look (zL L s.H) (sg L c)=some (Z9 (sg L) k):=by
  intro c k hk
  have hcm:c ∈ s.H.map (·.1):=YE.1 (by rw [hk]; simp)
  unfold zL
  rw [Sd (fun x y hx hy hxy=>hsinj x y hx (by rcases List.mem_cons.1 hy with rfl | hy; exact hcm; exact hy) hxy),hk]
  rfl
 have hcase:∀ x k,look (zL L s.H) x=some k→∃ c k',look s.H c=some k'∧sg L c=x∧k=Z9 (sg L) k':=by
  intro x k hx
  have:x ∈ (zL L s.H).map (·.1):=YE.1 (by rw [hx]; simp)
  simp only [zL,List.map_map,List.mem_map,Function.comp] at this
  obtain ⟨q,hq,rfl⟩:=this
  have hqm:q.1 ∈ s.H.map (·.1):=List.mem_map_of_mem hq
  obtain ⟨k',hk'⟩:=P7.1 (YE.2 hqm)
  rw [hlook q.1 k' hk'] at hx
  exact ⟨q.1,k',hk',rfl,(Option.some.inj hx).symm⟩
 have hmut:∀ x o,RF φ2 (look (zL L s.H)) x o→RF φ1 (look s.H) x o:=by
  rintro x o ⟨y,k,g1,g2,g3⟩
  obtain ⟨c,k',g4,rfl,rfl⟩:=hcase y k g1
  refine ⟨c,k',g4,?_,?_⟩
  ·rw [← hφ2 c (by rw [g4]; simp)]; exact g2
  ·cases k' <;> exact g3
 have hM:∀ x o,MM φ2 (look (zL L s.H)) M0 x o→MM φ1 (look s.H) M0 x o:=fun x o hx=>hx.elim (fun h=>.inl (hmut x o h)) .inr
 obtain ⟨o1,o2⟩:=bG (w:=w1) (ρ:=sg L) (φ:=φ2) (φc:=φ1) (h:=look (zL L s.H)) (hc:=look s.H) hφ2 hM hlook
 have hH2:ZN φ2 (look (zL L s.H)) w1 M0:=by
  refine ⟨fun x y hx hy he=>?_,fun x k hx=>?_,fun x hx o hm=>?_,r1.hp.lt,r1.hp.gm.sub hM⟩
  ·obtain ⟨kx,hkx⟩:=P7.1 hx
   obtain ⟨ky,hky⟩:=P7.1 hy
   obtain ⟨c,k1,g1,rfl,_⟩:=hcase x kx hkx
   obtain ⟨c',k2,g2,rfl,_⟩:=hcase y ky hky
   rw [hφ2 c (by rw [g1]; simp),hφ2 c' (by rw [g2]; simp)] at he
   rw [r1.hp.inj c c' (by rw [g1]; simp) (by rw [g2]; simp) he]
  ·obtain ⟨c,k',g1,rfl,rfl⟩:=hcase x k hx
   rw [hφ2 c (by rw [g1]; simp)]
   have:=r1.hp.blk c k' g1
   cases k' with
   | box ty cs=>obtain ⟨c0,q1,q2⟩:=this; exact ⟨c0,q1,o2 _ _ q2⟩
   | arr ty S n=>exact this
   | vec ty S es=>obtain ⟨c0,cap,q1,q2,q3,q4,q5,q6,q7⟩:=this; exact ⟨c0,cap,q1,q2,q3,q4,q5,q6,BC hM _ _ q7⟩
   | lp T nf st pd =>
    obtain ⟨tmps,d,q1,q2,q3⟩:=this
    refine ⟨tmps,d,q1,q2,fun t x ht=>?_⟩
    rw [Db] at ht
    cases hl:look T t with
    | none=>rw [hl] at ht; cases ht
    | some y =>
     rw [hl] at ht
     cases ht
     exact ⟨(q3 t y hl).1,o1 _ _ (q3 t y hl).2⟩
   | mp es =>
    obtain ⟨en,cl,q1,q2,q3⟩:=this
    refine ⟨en,cl,q1,q2,?_⟩
    have:=o2 _ _ q3
    rw [OT] at this; exact this
   | mf es =>
    obtain ⟨en,cl,q1,q2,q3,q4⟩:=this
    exact ⟨en,cl,q1,by rw [G5]; exact q2,by rw [GZ]; exact o2 _ _ q3,q4⟩
   | mg en cl es =>
    obtain ⟨q1,q2,q3,q4⟩:=this
    exact ⟨q1,by rw [G5]; exact q2,by rw [GZ]; exact o2 _ _ q3,q4⟩
   | it m cl sn =>
    obtain ⟨q1,k2,q2,q3⟩:=this
    exact ⟨by rw [hφ2 m (by rw [q2]; simp)]; exact q1,_,hlook m _ q2,by rw [JZ,q3]; rfl⟩
  ·obtain ⟨kx,hkx⟩:=P7.1 hx
   obtain ⟨c,k1,g1,rfl,_⟩:=hcase x kx hkx
   rw [hφ2 c (by rw [g1]; simp)] at hm
   exact r1.hp.fr c (by rw [g1]; simp) o hm
 have hE2:Zg φ1 (look s.H) w1 φ2 (look (zL L s.H)) w1:=by
  have hsame:∀ c k,1000≤c→look s.H c=some k→look (zL L s.H) c=some (Z9 (sg L) k)∧φ2 c=φ1 c:=by
   intro c k hc hcc
   have h1:=hlook c _ hcc
   have h2:=hφ2 c (by rw [hcc]; simp)
   rw [hkeep c hc] at h1 h2
   exact ⟨h1,h2⟩
  refine ⟨rfl,rfl,rfl,Nat.le_refl _,fun _ _ _=>rfl,fun _ _ _ _=>rfl,fun x o _ hm=>hmut x o hm,?_,?_,?_,?_⟩
  ·intro c ty cs hc hcc
   obtain ⟨h1,h2⟩:=hsame c _ hc hcc
   exact ⟨⟨VD (sg L) cs,h1⟩,h2⟩
  ·intro t ty S n ht htt
   obtain ⟨h1,h2⟩:=hsame t _ ht htt
   exact ⟨n,h1,Nat.le_refl _,fun _=>YJ (h2) rfl⟩
  ·intro t ty S n ht htt
   obtain ⟨h1,h2⟩:=hsame t _ ht htt
   exact ⟨n,h1,Nat.le_refl _,fun _=>⟨h2,fun c hc=>⟨c,hc,rfl⟩⟩⟩
  ·intro c k x hc hcc ho
   obtain ⟨h1,h2⟩:=hsame c _ hc hcc
   exact ⟨⟨_,h1,by rw [JZ,ho]; exact hnob c k x hcc ho⟩,h2⟩
 have hcapsL:(L.map fun p=>AV.ptr (sg L p.1) 0)=FZ L:=List.map_congr_left fun p hp=>by rw [(hsg2 p hp).1.2]
 have hboxes:∀ p ∈ L,∃ ty cs,look (zL L s.H) (sg L p.1)=some (.box ty cs):=by
  intro p hp
  obtain ⟨_,_,ty,cs,hb⟩:=hL p hp
  exact ⟨ty,VD (sg L) cs,hlook _ _ hb⟩
 have r2:Zw φ2 M0 fn.ntmps ⟨d :: a1.defers,w1.heap.size⟩ (look ((F.tc, .fn (.func g) [] (L.map fun p=>.ptr (sg L p.1) 0)) :: sgT L s.T)) (look (zL L s.H)) a2 w1:=by
  refine ⟨⟨Nat.le_refl _,[],rfl,List.nodup_nil,fun r hr=>by cases hr⟩,by simp [a2,r1.siz],hH2,fun t x ht=>?_⟩
  simp only [look] at ht
  by_cases e:F.tc=t
  ·simp only [e,if_true,Zd] at ht
   subst ht
   refine ⟨e ▸ F.hlt,?_⟩
   have h0:t < a1.tmps.size:=by rw [r1.siz]; exact e ▸ F.hlt
   have:a2.tmps.getD t undef=.func (.func g) #[] ps:=by simp [a2,e,h0]
   rw [this]
   simp only [Qf,Qi]
   refine ⟨[],ps.toList,by simp,rfl,?_⟩
   rw [hpv]
   have:∀ l:List (Nat × Nat),(∀ p ∈ l,p ∈ L)→Qi φ2 (look (zL L s.H)) w1 (MM φ2 (look (zL L s.H)) M0) (l.map fun p=>.ptr (sg L p.1) 0) (l.map fun p=>.pointer (some ⟨φ1 p.1,0,none⟩)):=by
    intro l
    induction l with
    | nil=>intro _; simp [Qi]
    | cons p l ih =>
     intro hh
     simp only [List.map_cons,Qi]
     refine ⟨_,_,rfl,?_,ih fun q hq=>hh q (by simp [hq])⟩
     simp only [Qf]
     obtain ⟨_,_,ty,cs,hb⟩:=hL p (hh p zq)
     exact ⟨by rw [hφ2 p.1 (by rw [hb]; simp)],hboxes p (hh p zq)⟩
   exact this L fun p hp=>hp
  ·simp only [e,if_false] at ht
   rw [zM] at ht
   cases hq:look s.T t with
   | none=>rw [hq] at ht; cases ht
   | some y =>
    rw [hq] at ht
    simp only [Option.map_some,Zd] at ht
    subst ht
    obtain ⟨g1,g2⟩:=r1.tm t y hq
    refine ⟨g1,?_⟩
    have:a2.tmps.getD t undef=a1.tmps.getD t undef:=by simp [a2,Array.getElem?_setIfInBounds_ne e]
    rw [this]
    exact o1 _ _ g2
 rw [hcapsL] at r2
 refine wpIn_mono (hrest φ2 M0 _ a2 w1 r2) ?_
 rintro e a3 w3 ⟨φ3,k,s3,hq,r3,E3,hx⟩
 have Etot:=(E1.trans hE2).trans E3
 have hinvk:∀ w,(invoke (.fn (.func g) ps) #[]).run P w=.ok (.enter g ps) w:=fun w=>by
  simp only [invoke]
  rw [Xp hbg]
  simp
 obtain ⟨hbase,ms,hd,hnd,hms⟩:=r3.dfs
 have hm2:∀ r ∈ ms,w3.heap[r]?=some (.deferred (some []))∧∀ b,look s3.H b ≠ none→φ3 b ≠ r:=fun r hr=>(hms r hr).2
 have hold1:∀ ms1:List Nat,a1.defers=(ms1.map fun r=>({ target:=.collected r,args:=#[] }:Deferred))→∀ r ∈ ms1,r < w1.heap.size:=by
  intro ms1 h1 r hr
  obtain ⟨_,ms0,h2,_,h3⟩:=r1.dfs
  have e:ms1=ms0:=by
   rw [h1] at h2
   simp only [List.append_nil] at h2
   exact Nu h2
  rw [e] at hr
  exact (Rn.1 (h3 r hr).2.1).1
 have mk1:Marks φ3 ⟨[],w.heap.size⟩ (look s3.H) a1 w3:=(r1.dfs.keep hE2).keep E3
 have hcap3:Qi φ3 (look s3.H) w3 (MM φ3 (look s3.H) M0) (FZ L) ps.toList:=by
  rw [hpv]
  have:∀ l:List (Nat × Nat),(∀ p ∈ l,p ∈ L)→Qi φ3 (look s3.H) w3 (MM φ3 (look s3.H) M0) (FZ l) (l.map fun p=>.pointer (some ⟨φ1 p.1,0,none⟩)):=by
   intro l
   induction l with
   | nil=>intro _; simp [FZ,Qi]
   | cons p l ih =>
    intro hh
    have hp:=hh p zq
    simp only [FZ,List.map_cons,Qi]
    refine ⟨_,_,rfl,?_,ih fun q hq=>hh q (by simp [hq])⟩
    simp only [Qf]
    obtain ⟨_,h1000,ty,cs,hb⟩:=hL p hp
    obtain ⟨Vq,cs2,hb2⟩:=hboxes p hp
    rw [(hsg2 p hp).1.2] at hb2
    obtain ⟨⟨cs3,hb3⟩,hφ3⟩:=E3.kb p.2 Vq _ h1000 hb2
    refine ⟨?_,Vq,cs3,hb3⟩
    rw [hφ3,← (hsg2 p hp).1.2,hφ2 p.1 (by rw [hb]; simp)]
  exact this L fun p hp=>hp
 have go:∀ (u u':FrameMode) (rv:AV),u ≠ .run→settle u'=.returning→iV P fn.ntmps g (rv :: FZ L) s3 (PQ P fn hc R) →
   (∀ w',UN ms w3 w'→∃ v,Qf φ3 (look s3.H) w' (MM φ3 (look s3.H) M0) rv v∧sQ u u' v) →
   JY P fn a3.tmps (Out R φ (look hc) w M0) a3.defers u w3:=by
  intro u u' rv hu hset hcall hrec
  rw [hd]
  refine Bz hu _ ms w3 hnd (fun r hr=>(hms r hr).2.1) fun w4 t=>?_
  have r4:=r3.turned t hm2
  have E4:=Etot.turned t (fun r hr=>Nat.le_trans E1.size (hms r hr).1) hm2
  obtain ⟨v,hv,hm⟩:=hrec w4 t
  have hcap4:Qi φ3 (look s3.H) w4 (MM φ3 (look s3.H) M0) (rv :: FZ L) (v :: ps.toList):=by
   simp only [Qi]
   refine ⟨v,ps.toList,rfl,hv,?_⟩
   have:∀ (xs:List AV) (l:List Value),Qi φ3 (look s3.H) w3 (MM φ3 (look s3.H) M0) xs l→Qi φ3 (look s3.H) w4 (MM φ3 (look s3.H) M0) xs l:=by
    intro xs
    induction xs with
    | nil=>intro l hl; simpa [Qi] using hl
    | cons x xs ih =>
     intro l hl
     simp only [Qi] at hl ⊢
     obtain ⟨y,ys,rfl,h1,h2⟩:=hl
     exact ⟨y,ys,rfl,Tf t hm2 _ _ h1,ih _ h2⟩
   exact this _ _ hcap3
  have hCD:=hcall φ3 M0 _ _ w4 (v :: ps.toList) r4 hcap4 u u' v ps.toList rfl hm
  rw [Array.toArray_toList] at hCD
  refine ⟨hu, .inr ⟨.func g,ps,g,ps,rfl,hinvk w4,hCD.mono ?_⟩⟩
  rintro e u'' w5 ⟨rfl,he⟩
  cases e with
  | panicked c=>exact he.elim
  | outgrown=>exact he.elim
  | returned x =>
  obtain ⟨φ5,s5,g1,g2,g3⟩:=he
  show JY P fn a3.tmps (Out R φ (look hc) w M0) a1.defers (settle u'') w5
  rw [hset]
  obtain ⟨_,ms1,hd1,hnd1,hms1⟩:=mk1
  have hd1':a1.defers=(ms1.map fun r=>({ target:=.collected r,args:=#[] }:Deferred))++[]:=hd1
  have hms5:∀ r ∈ ms1,w5.heap[r]?=some (.deferred (some []))∧∀ b,look s5.H b ≠ none→φ5 b ≠ r:=by
   intro r hr
   have h3:=hms1 r hr
   have hnot:r ∉ ms:=fun hx=>by
    have h6:w1.heap.size≤r:=(hms r hx).1
    have h7:=hold1 ms1 (by simpa using hd1) r hr
    omega
   have h4:w4.heap[r]?=some (.deferred (some [])):=by rw [t.same r hnot]; exact h3.2.1
   have hlt:r < w4.heap.size:=(Rn.1 h4).1
   refine ⟨(g3.same r hlt h3.2.2).trans h4,fun b hb e=>?_⟩
   cases hk:look s5.H b with
   | none=>exact hb hk
   | some k =>
    obtain ⟨o,ho⟩:=CY (φ:=φ5) hk
    rw [e] at ho
    obtain ⟨b0,k0,hb0,hφ,_⟩:=g3.mu r o hlt ho
    exact h3.2.2 b0 (by rw [hb0]; simp) hφ
  rw [hd1']
  refine Bz zq _ ms1 w5 hnd1 (fun r hr=>(hms5 r hr).1) fun w6 t6=>?_
  have r6:=g2.turned t6 hms5
  have E6:=(E4.trans g3).turned t6 (fun r hr=>(hms1 r hr).1) hms5
  obtain ⟨y,q1,q2⟩:=Sg r6 E6 g1
  exact ⟨y,q1,q2⟩
 cases k with
 | normal =>
  simp only [Xo] at hx
  subst hx
  exact go .returning .returning y7 zq rfl hq fun w' t=>⟨.nilIface,by simp [y7,Qf,Q5],fun c0 cs hm=>.inr ⟨by simp [recoverD,hm],rfl,rfl⟩⟩
 | ret =>
  simp only [Xo] at hx
  subst hx
  exact go .returning .returning y7 zq rfl hq fun w' t=>⟨.nilIface,by simp [y7,Qf,Q5],fun c0 cs hm=>.inr ⟨by simp [recoverD,hm],rfl,rfl⟩⟩
 | exit i=>exact hq.elim
 | panic x =>
  obtain ⟨v,rfl,hv⟩:=hx
  refine go (.panicking [{ v:=v,recovered:=false }]) (.panicking [{ v:=v,recovered:=true }]) x zq rfl hq fun w' t=>⟨v,?_,fun c0 cs hm=>.inl (by simp [recoverD,hm])⟩
  exact Tf t hm2 _ _ hv
theorem Qa {α:Type} {a b:α} (h:a=b:=by kernel_rfl):a=b:=h
theorem QW {α β:Type} {f g:α→β} (h:∀ x,f x=g x:=by intro _; kernel_rfl):∀ x,f x=g x:=h
def Kw (cs:List PV):List AV:=cs.map .p
def ag (cs:List PV):AV:=.agg (cs.map .p)
inductive Conv where
 | id
 | sl (S:Nat)
 | vn
 | agg (l:List Conv)
mutual
def cv:Conv→AV→AV
 | .sl _, .tsl S es _=>.p (.sl S es)
 | .sl S, .p (.val (.slice none 0 0))=>.p (.sl S [])
 | .vn, .p (.val (.slice none 0 0))=>.vnil
 | .sl S, .vnil=>.p (.sl S [])
 | .agg cs, .agg xs=>.agg (Ed cs xs)
 | .agg cs, .tup xs=>.tup (Ed cs xs)
 | _,x=>x
def Ed:List Conv→List AV→List AV
 | _,[]=>[]
 | [],x :: xs=>x :: xs
 | c :: cs,x :: xs=>cv c x :: Ed cs xs
end
theorem fM:∀ n:Nat,(∀ (x:AV),SizeOf.sizeOf x≤n→∀ c,le x (cv c x))∧(∀ (xs:List AV),SizeOf.sizeOf xs≤n→∀ cs,Bq xs (Ed cs xs)):=by
 intro n
 induction n with
 | zero =>
  refine ⟨fun x hx=>?_,fun es hx=>?_⟩
  ·cases x <;> simp at hx
  ·cases es <;> simp at hx
 | succ n ih =>
  obtain ⟨i1,i2⟩:=ih
  refine ⟨fun x hx c=>?_,fun xs hx cs=>?_⟩
  ·unfold cv
   split
   ·simp [le]
   ·simp [le]
   ·simp [le]
   ·simp [le]
   ·rename_i cs xs
    simp only [le]
    simp at hx
    exact ⟨_,rfl,i2 xs zo cs⟩
   ·rename_i cs xs
    simp only [le]
    simp at hx
    exact ⟨_,rfl,i2 xs zo cs⟩
   ·exact le_refl x
  ·cases xs with
   | nil=>simp [Ed,Bq]
   | cons x xs =>
    simp at hx
    cases cs with
    | nil=>simp only [Ed]; exact zG _
    | cons c cs=>simp only [Ed,Bq]; exact ⟨_,_,rfl,i1 x zo c,i2 xs zo cs⟩
theorem zN (c:Conv) (x:AV):le x (cv c x):=(fM (SizeOf.sizeOf x)).1 x (Nat.le_refl _) c
theorem Xt (cs:List Conv) (xs:List AV):Bq xs (Ed cs xs):=(fM (SizeOf.sizeOf xs)).2 xs (Nat.le_refl _) cs
def eH (C:List (Nat × Conv)) (t:Nat):Conv:=(look C t).getD .id
def Sm (C:List (Nat × Conv)) (T:List (Nat × AV)):List Nat→List (Nat × AV)
 | []=>[]
 | t :: L=>match look T t with | some x=>(t,cv (eH C t) x) :: Sm C T L | none=>Sm C T L
def cvB (cs:List Conv):Blk→Blk
 | .box ty xs=>.box ty (Ed cs xs)
 | k=>k
def KO (C:List (Nat × List Conv)) (H:List (Nat × Blk)):List Nat→List (Nat × Blk)
 | []=>[]
 | b :: L=>match look H b with | some k=>(b,cvB ((look C b).getD []) k) :: KO C H L | none=>KO C H L
structure Gf where
 ts:List Nat
 bs:List Nat
 ct:List (Nat × Conv):=[]
 cb:List (Nat × List Conv):=[]
def shr (K:Gf) (s:St):St:=⟨Sm K.ct s.T K.ts,KO K.cb s.H K.bs⟩
def eO (h:Qv):List (Nat × AV)→Bool
 | []=>true
 | (_,x) :: l=>Kb h x&&eO h l
def uK (h:Qv):List (Nat × Blk)→Bool
 | []=>true
 | (_,k) :: l=>okRefB h k&&uK h l
def sV (s s':St):Bool:=eO (look s'.H) s'.T&&uK (look s'.H) s'.H&&Ya (look s'.H) s.H
def F4 (K:Gf) (s:St):Option St:=if sV s (shr K s) then some (shr K s) else none
theorem fO (cs:List Conv) (k:Blk):leB k (cvB cs k):=by
 cases k with
 | box ty xs=>exact ⟨_,rfl,Xt cs xs⟩
 | arr ty S n=>rfl
 | vec ty S es=>rfl
 | lp T nf st pd=>rfl
 | mp es=>rfl
 | mf es=>rfl
 | mg en cl es=>rfl
 | it m cl sn=>rfl
theorem F5 {T:List (Nat × AV)} {h':Qv} {C:List (Nat × Conv)}:∀ {L:List Nat},eO h' (Sm C T L)=true→E9 (look T) h' (Sm C T L)
 | [],_=>by simp [Sm,E9]
 | t :: L,h=>by
  simp only [Sm] at h ⊢
  cases ht:look T t with
  | none=>simp only [ht] at h ⊢; exact F5 h
  | some x =>
   simp only [ht,eO,Ki] at h ⊢
   simp only [E9,ht,leO]
   exact ⟨zN _ _,h.1,F5 h.2⟩
theorem VE {H:List (Nat × Blk)} {h':Qv} {C:List (Nat × List Conv)}:∀ {L:List Nat},uK h' (KO C H L)=true→Dq (look H) h' (KO C H L)
 | [],_=>by simp [KO,Dq]
 | b :: L,h=>by
  simp only [KO] at h ⊢
  cases hb:look H b with
  | none=>simp only [hb] at h ⊢; exact VE h
  | some k =>
   simp only [hb,uK,Ki] at h ⊢
   simp only [Dq,hb,eu]
   exact ⟨fO _ _,h.1,VE h.2⟩
theorem Xu {N:Nat} {K:Gf} {s s':St} (h:F4 K s=some s'):Weak N s s':=by
 unfold F4 at h
 split at h
 ·rename_i hok
  simp only [Zd] at h
  subst h
  simp only [sV,Ki] at hok
  exact fF (F5 hok.1.1) (VE hok.1.2) hok.2
 ·cases h
structure QU {R:Type} (o:Option R) (P:Program) (N:Nat) (ro:Option Nat) (c:Code) (s:St) (Q:R→AX→St→Prop):Prop where
 intro ::
 h:∀ r,o=some r→Ex P N ro c s (Q r)
structure Zy {R:Type} (o:Option R) (Q:R→AX→St→Prop) (x:AX) (s:St):Prop where
 intro ::
 h:∀ r,o=some r→Q r x s
def Ig {R:Type} (P:Program) (N:Nat) (ro:Option Nat) (y:Code) (Q:R→AX→St→Prop):R→AX→St→Prop:=fun r=>andThen (fun s'=>Ex P N ro y s' (Q r)) (Q r)
def zO {R:Type} (id:Nat) (Q:R→AX→St→Prop):R→AX→St→Prop:=fun r=>inBlock id (Q r)
def kQ {V R:Type} (N:Nat) (k:V→Option R) (S:V→St) (Q:R→AX→St→Prop):R→AX→St→Prop:=fun r=>andThen (fun s'=>∃ v,k v=some r∧Weak N s' (S v)) (Q r)
def xH {V:Type} (N:Nat) (S:V→St):V→AX→St→Prop:=fun v x s'=>x=.normal∧Weak N s' (S v)
section
variable {R V:Type} {o o1 o2:Option R} {P:Program} {N:Nat} {ro:Option Nat} {x y c:Code} {s s':St} {Q:R→AX→St→Prop}
theorem Sn:QU none P N ro c s Q:=⟨fun r hr=>by cases hr⟩
theorem sS (h:QU o P N ro x s (Ig P N ro y Q)):QU o P N ro (.seq x y) s Q:=⟨fun r hr=>Ou (h.h r hr)⟩
theorem sK (h:Zy o Q .normal s):QU o P N ro .skip s Q:=⟨fun r hr=>pW (h.h r hr)⟩
theorem xI {l:Nat} (h:Zy o Q .normal s):QU o P N ro (.label l) s Q:=⟨fun r hr=>gu (h.h r hr)⟩
theorem sT (h:Zy o Q .ret s):QU o P N ro .ret s Q:=⟨fun r hr=>lU (h.h r hr)⟩
theorem Qm {id:Nat} (h:Zy o Q (.exit id) s):QU o P N ro (.exit id) s Q:=⟨fun r hr=>pX (h.h r hr)⟩
theorem sB {id:Nat} (h:QU o P N ro c s (zO id Q)):QU o P N ro (.block id c) s Q:=⟨fun r hr=>gy (h.h r hr)⟩
theorem xJ (h:QU o P N ro c s Q):QU o P N ro (.scope c) s Q:=⟨fun r hr=>gz (h.h r hr)⟩
theorem Zq (hw:Weak N s s') (h:QU o P N ro c s' Q):QU o P N ro c s Q:=⟨fun r hr=>GK hw (h.h r hr)⟩
theorem sP (K:Gf) (s':St) (hw:F4 K s=some s') (h:QU o P N ro c s' Q):QU o P N ro c s Q:=⟨fun r hr=>GK (Xu hw) (h.h r hr)⟩
theorem sC {a:Operand} (b:Bool) (hb:Zr (look s.T) a=some (.p (.val (.bool b)))) (h1:QU o1 P N ro x s Q) (h2:QU o2 P N ro y s Q):QU (cond b o1 o2) P N ro (.cond a x y) s Q:=by
 refine ⟨fun r hr=>?_⟩
 refine Ov b hb (fun e=>?_) (fun e=>?_)
 ·subst e; exact h1.h r hr
 ·subst e; exact h2.h r hr
theorem Q3 {a:Operand} (hb:Zr (look s.T) a=some (.p (.val (.bool true)))) (h1:QU o P N ro x s Q):QU o P N ro (.cond a x y) s Q:=⟨fun r hr=>Ov true hb (fun _=>h1.h r hr) (fun e=>by cases e)⟩
theorem QZ {a:Operand} (hb:Zr (look s.T) a=some (.p (.val (.bool false)))) (h1:QU o P N ro y s Q):QU o P N ro (.cond a x y) s Q:=⟨fun r hr=>Ov false hb (fun e=>by cases e) (fun _=>h1.h r hr)⟩
theorem sN (K:Gf) (s':St) (hw:F4 K s=some s') (h:QU o P N ro y s' Q):Zy o (Ig P N ro y Q) .normal s:=⟨fun r hr=>(sP (Q:=Q) K s' hw h).h r hr⟩
theorem QY (h:Zy o Q .ret s):Zy o (Ig P N ro y Q) .ret s:=⟨fun r hr=>h.h r hr⟩
theorem Zu {i:Nat} (h:Zy o Q (.exit i) s):Zy o (Ig P N ro y Q) (.exit i) s:=⟨fun r hr=>h.h r hr⟩
theorem Kk {p:AV} (h:Zy o Q (.panic p) s):Zy o (Ig P N ro y Q) (.panic p) s:=⟨fun r hr=>h.h r hr⟩
theorem QT {id:Nat} (h:Zy o Q .normal s):Zy o (zO id Q) .normal s:=⟨fun r hr=>h.h r hr⟩
theorem Q9 {id:Nat} (h:Zy o Q .ret s):Zy o (zO id Q) .ret s:=⟨fun r hr=>h.h r hr⟩
theorem Zj {id:Nat} {p:AV} (h:Zy o Q (.panic p) s):Zy o (zO id Q) (.panic p) s:=⟨fun r hr=>h.h r hr⟩
theorem QG {id:Nat} (h:Zy o Q .normal s):Zy o (zO id Q) (.exit id) s:=by
 refine ⟨fun r hr=>?_⟩
 have:=h.h r hr
 simp only [zO,inBlock,if_true]; exact this
theorem Ee {id i:Nat} (hi:(i == id)=false) (h:Zy o Q (.exit i) s):Zy o (zO id Q) (.exit i) s:=by
 refine ⟨fun r hr=>?_⟩
 have:=h.h r hr
 have hne:¬ i=id:=by simpa using hi
 simp only [zO,inBlock,hne,if_false]; exact this
theorem QaC {k:V→Option R} {S:V→St} (v:V) (K:Gf) (hw:F4 K s=some (S v)):Zy (k v) (kQ N k S Q) .normal s:=⟨fun r hr=>⟨v,hr,Xu hw⟩⟩
theorem KC {k:V→Option R} {S:V→St} (h:Zy o Q .ret s):Zy o (kQ N k S Q) .ret s:=⟨fun r hr=>h.h r hr⟩
theorem ZP {k:V→Option R} {S:V→St} {i:Nat} (h:Zy o Q (.exit i) s):Zy o (kQ N k S Q) (.exit i) s:=⟨fun r hr=>h.h r hr⟩
theorem Zp {k:V→Option R} {S:V→St} {p:AV} (h:Zy o Q (.panic p) s):Zy o (kQ N k S Q) (.panic p) s:=⟨fun r hr=>h.h r hr⟩
theorem bN {S:V→St} (v:V) (K:Gf) (hw:F4 K s=some (S v)):Zy (some v) (xH N S) .normal s:=⟨fun r hr=>by cases hr; exact ⟨rfl,Xu hw⟩⟩
theorem Qcw {S:V→St} (v:V) (hw:Weak N s (S v)):Zy (some v) (xH N S) .normal s:=⟨fun r hr=>by cases hr; exact ⟨rfl,hw⟩⟩
theorem ZY (S:V→St) (k:V→Option R) (h2:∀ v,QU (k v) P N ro y (S v) Q) (h1:QU o P N ro x s (kQ N k S Q)):QU o P N ro (.seq x y) s Q:=by
 refine ⟨fun r hr=>?_⟩
 refine Ou (P8 (h1.h r hr) ?_)
 intro e s' he
 cases e with
 | normal=>obtain ⟨v,hv,hw⟩:=he; exact GK hw ((h2 v).h r hv)
 | exit i=>exact he
 | ret=>exact he
 | panic p=>exact he
theorem KM (S:V→St) {m:Option V} {k:V→Option R} (h1:QU m P N ro x s (xH N S)) (h2:∀ v,QU (k v) P N ro y (S v) Q):QU (m.bind k) P N ro (.seq x y) s Q:=by
 refine ⟨fun r hr=>?_⟩
 obtain ⟨v,hv,hk⟩:=Option.bind_eq_some_iff.1 hr
 refine Ou (P8 (h1.h v hv) ?_)
 rintro e s' ⟨rfl,hw⟩
 exact GK hw ((h2 v).h r hk)
end
def Q4 {V R:Type} (B:(V→Option R)→V→Option R):Nat→V→Option R
 | 0,_=>none
 | k+1,v=>B (Q4 B k) v
theorem Qw {R V:Type} {P:Program} {N:Nat} {ro:Option Nat} {c:Code} {s:St} {Q:R→AX→St→Prop} (S:V→St) {B:(V→Option R)→V→Option R} {n:Nat} {v0:V} (hw:Weak N s (S v0))
  (hB:∀ rec v,QU (B rec v) P N ro c (S v) (kQ N rec S Q)):QU (Q4 B n v0) P N ro (.loop c) s Q:=by
 refine ⟨fun r hr=>?_⟩
 refine GK hw (wE (ι:={ p:Nat × V // Q4 B p.1 p.2=some r }) (fun p=>S p.1.2) (fun p=>p.1.1) ⟨(n,v0),hr⟩ ?_)
 rintro ⟨⟨k,v⟩,hk⟩
 cases k with
 | zero=>cases hk
 | succ k =>
  refine P8 ((hB (Q4 B k) v).h r hk) ?_
  intro e s' he
  cases e with
  | normal=>obtain ⟨v',hv',hw'⟩:=he; exact ⟨⟨(k,v'),hv'⟩,by simp,hw'⟩
  | exit i=>exact he
  | ret=>exact he
  | panic p=>exact he
def plain:Op→Bool
 | .pick _ _ _=>false
 | .panic _=>false
 | .call ⟨.value _,_,_⟩=>false
 | _=>true
theorem DD {op:Op} {T:Nat→Option AV} (h:plain op=true):yieldOf T op=none:=by
 unfold yieldOf
 split
 ·simp [plain] at h
 ·rfl
def XR (P:Program) (N:Nat) (ops:Array Oper) (Q:AX→St→Prop) (d:Option (List Yw)) (l:List Oper) (s:St):Prop :=
 match d with
 | none=>Yi P N ops Q l s
 | some acc=>KA P N ops Q l acc s
def Sq (u:Kn):Yw:=(u.2.1.map (·.1),u.2.2)
def more (d:Option (List Yw)) (f:Yw):Option (List Yw):=d.map (f :: ·)
def eP (ops:Array Oper) (o:Oper) (s:St) (u:Kn):St:=Ju ⟨Zv ops o s.T true,s.H⟩ o.dst u
def mk (ops:Array Oper) (o:Oper) (s:St) (b:Bool):St:=⟨Zv ops o s.T b,s.H⟩
section
variable {P:Program} {N:Nat} {ops:Array Oper} {o:Oper} {l:List Oper} {d:Option (List Yw)} {s:St} {Q:AX→St→Prop}
theorem Dc (hw:ZF ops o (look s.T)=some true) (hp:plain o.op=true) {u:Kn} (hu:VA P o (look (Zv ops o s.T true)) (look s.H)=some u) (hd:Ku N o.dst=true)
  (h:XR P N ops Q (more d (Sq u)) l (eP ops o s u)):XR P N ops Q d (o :: l) s:=by
 cases d with
 | none =>
  show Yi P N ops Q (o :: l) s
  simp only [Yi,hw,ZQ,DD hp]
  show XN P N o _ _ _
  unfold XN
  split
  ·rename_i ho; rw [ho] at hp; cases hp
  ·rename_i ho; rw [ho] at hp; cases hp
  ·rename_i ho; rw [ho] at hp; cases hp
  ·rw [hu]; exact .inl ⟨hd,h⟩
 | some acc =>
  show KA P N ops Q (o :: l) acc s
  simp only [KA,hw,ZQ]
  split
  ·rename_i ho; rw [ho] at hp; cases hp
  ·rename_i ho; rw [ho] at hp; cases hp
  ·rename_i ho; rw [ho] at hp; cases hp
  ·rw [hu]; exact .inl ⟨hd,h⟩
theorem zP (hw:ZF ops o (look s.T)=some false) (hd:Ku N o.dst=true) (h:XR P N ops Q (more d (none,[])) l (St.put (mk ops o s false) o.dst (.p (.val undef)))):XR P N ops Q d (o :: l) s:=by
 cases d with
 | none =>
  show Yi P N ops Q (o :: l) s
  simp only [Yi,hw,U5]
  exact ⟨hd,h⟩
 | some acc =>
  show KA P N ops Q (o :: l) acc s
  simp only [KA,hw,U5]
  exact ⟨hd,h⟩
theorem wX {c x y:Operand} (hw:ZF ops o (look s.T)=some true) (ho:o.op=.pick c x y) (b:Bool) (hc:Zr (look (Zv ops o s.T true)) c=some (.p (.val (.bool b)))) {v:AV}
  (hv:Zr (look (Zv ops o s.T true)) (cond b x y)=some v) (hd:Ku N o.dst=true) (h:XR P N ops Q (more d (none,[])) l (St.put (mk ops o s true) o.dst v)):XR P N ops Q d (o :: l) s:=by
 have hx:∀ z,cond b x y=z→Vz (look (Zv ops o s.T true)) z=some (v,none,[]):=by
  rintro z rfl; simp [Vz,hv]
 cases d with
 | none =>
  show Yi P N ops Q (o :: l) s
  have hy:yieldOf (look (Zv ops o s.T true)) o.op=none:=by simp [yieldOf,ho]
  simp only [Yi,hw,ZQ,hy]
  show XN P N o _ _ _
  unfold XN
  simp only [ho,hc]
  have e:∀ s:St,Ju s o.dst (v,none,[])=St.put s o.dst v:=fun s=>by unfold Ju St.put; cases o.dst <;> rfl
  cases b
  ·refine ⟨(fun h=>by cases h),fun _=>?_⟩; rw [hx y rfl]; exact ⟨hd,by rw [e]; exact h⟩
  ·refine ⟨fun _=>?_,fun h=>by cases h⟩; rw [hx x rfl]; exact ⟨hd,by rw [e]; exact h⟩
 | some acc =>
  show KA P N ops Q (o :: l) acc s
  simp only [KA,hw,ZQ,ho,hc]
  cases b
  ·refine ⟨(fun h=>by cases h),fun _=>?_⟩; rw [hx y rfl]; exact ⟨hd,h⟩
  ·refine ⟨fun _=>?_,fun h=>by cases h⟩; rw [hx x rfl]; exact ⟨hd,h⟩
end
def step1 (P:Program) (N:Nat) (ops:Array Oper) (o:Oper) (s:St):Option (St × Yw) :=
 match ZF ops o (look s.T) with
 | some true =>
  if Ku N o.dst then
   match o.op with
   | .pick c x y =>
    match Zr (look (Zv ops o s.T true)) c with
    | some (.p (.val (.bool true)))=>match Zr (look (Zv ops o s.T true)) x with | some v=>some (St.put (mk ops o s true) o.dst v,(none,[])) | none=>none
    | some (.p (.val (.bool false)))=>match Zr (look (Zv ops o s.T true)) y with | some v=>some (St.put (mk ops o s true) o.dst v,(none,[])) | none=>none
    | _=>none
   | op=>if plain op then (match VA P o (look (Zv ops o s.T true)) (look s.H) with | some u=>some (eP ops o s u,Sq u) | none=>none) else none
  else none
 | some false=>if Ku N o.dst then some (St.put (mk ops o s false) o.dst (.p (.val undef)),(none,[])) else none
 | none=>none
def runs (P:Program) (N:Nat) (ops:Array Oper):Nat→List Oper→St→List Yw→Option (St × List Yw)
 | 0,_,s,acc=>some (s,acc)
 | _+1,[],s,acc=>none
 | k+1,o :: l,s,acc=>match step1 P N ops o s with | some (s',f)=>runs P N ops k l s' (f :: acc) | none=>none
def Sr (P:Program) (N:Nat) (ops:Array Oper):List Oper→St→List Yw→Option (St × List Yw)
 | [],s,acc=>some (s,acc)
 | o :: l,s,acc=>match step1 P N ops o s with | some (s',f)=>Sr P N ops l s' (f :: acc) | none=>none
def Tm (P:Program) (N:Nat) (ops:Array Oper) (draw:Bool) (s:St):Option St :=
 match Sr P N ops ops.toList s [] with
 | some (s',acc)=>if draw then (if Kg ops acc.reverse&&Ul ops then some s' else none) else some s'
 | none=>none
section
variable {P:Program} {N:Nat} {ops:Array Oper} {s:St} {Q:AX→St→Prop}
theorem wY {o:Oper} {l:List Oper} {d:Option (List Yw)} {s':St} {f:Yw} (h1:step1 P N ops o s=some (s',f)) (h:XR P N ops Q (more d f) l s'):XR P N ops Q d (o :: l) s:=by
 unfold step1 at h1
 split at h1
 ·rename_i hw
  split at h1
  ·rename_i hd
   split at h1
   ·rename_i c x y ho
    split at h1
    ·rename_i hc
     split at h1
     ·rename_i v hv
      simp only [Zd,Prod.mk.injEq] at h1
      obtain ⟨rfl,rfl⟩:=h1
      exact wX hw ho true hc hv hd h
     ·cases h1
    ·rename_i hc
     split at h1
     ·rename_i v hv
      simp only [Zd,Prod.mk.injEq] at h1
      obtain ⟨rfl,rfl⟩:=h1
      exact wX hw ho false hc hv hd h
     ·cases h1
    ·cases h1
   ·split at h1
    ·rename_i hp
     split at h1
     ·rename_i u hu
      simp only [Zd,Prod.mk.injEq] at h1
      obtain ⟨rfl,rfl⟩:=h1
      exact Dc hw hp hu hd h
     ·cases h1
    ·cases h1
  ·cases h1
 ·rename_i hw
  split at h1
  ·rename_i hd
   simp only [Zd,Prod.mk.injEq] at h1
   obtain ⟨rfl,rfl⟩:=h1
   exact zP hw hd h
  ·cases h1
 ·cases h1
theorem Nw:∀ {l:List Oper} {s:St} {acc acc':List Yw} {s':St} {b:Bool},Sr P N ops l s acc=some (s',acc')→XR P N ops Q (if b then some acc' else none) [] s'→XR P N ops Q (if b then some acc else none) l s
 | [],s,acc,acc',s',b,h1,h=>by
  simp only [Sr,Zd,Prod.mk.injEq] at h1
  obtain ⟨rfl,rfl⟩:=h1
  exact h
 | o :: l,s,acc,acc',s',b,h1,h=>by
  simp only [Sr] at h1
  split at h1
  ·rename_i s1 f hs
   refine wY hs ?_
   have:=Nw (b:=b) h1 h
   cases b
   ·exact this
   ·exact this
  ·cases h1
theorem Ef {d:Option (List Yw)}:∀ {k:Nat} {l:List Oper} {s:St} {acc acc':List Yw} {s':St},runs P N ops k l s acc=some (s',acc')→(d=none∨d=some acc)→XR P N ops Q (d.map fun _=>acc') (l.drop k) s'→XR P N ops Q d l s
 | 0,l,s,acc,acc',s',h1,hd,h=>by
  simp only [runs,Zd,Prod.mk.injEq] at h1
  obtain ⟨rfl,rfl⟩:=h1
  rcases hd with rfl | rfl
  ·exact h
  ·exact h
 | k+1,[],s,acc,acc',s',h1,hd,h=>by cases h1
 | k+1,o :: l,s,acc,acc',s',h1,hd,h=>by
  simp only [runs] at h1
  split at h1
  ·rename_i s1 f hs
   refine wY hs ?_
   rcases hd with rfl | rfl
   ·exact Ef (d:=none) h1 (.inl rfl) h
   ·exact Ef (d:=some (f :: acc)) h1 (.inr rfl) h
  ·cases h1
theorem Ny {ro:Option Nat} {id:Nat} {draw:Bool} {s':St} (hm:P.follows .mixedOrders=true) (h1:Tm P N ops draw s=some s') (h:Q .normal s'):Ex P N ro (.region id ops draw) s Q:=by
 unfold Tm at h1
 split at h1
 ·rename_i s1 acc hr
  cases draw with
  | false =>
   simp only [Bool.false_eq_true,if_false,Zd] at h1
   subst h1
   exact IQ (Nw (b:=false) hr (show Yi P N ops Q [] s1 from h))
  | true =>
   simp only [if_true] at h1
   split at h1
   ·rename_i hc
    simp only [Ki] at hc
    simp only [Zd] at h1
    subst h1
    exact wP hm hc.2 (Nw (b:=true) hr (show KA P N ops Q [] acc s1 from ⟨hc.1,h⟩))
   ·cases h1
 ·cases h1
end
def dOf (dr:Bool) (acc:List Yw):Option (List Yw):=cond dr (some acc) none
structure KX {R:Type} (o:Option R) (P:Program) (N:Nat) (ops:Array Oper) (Q:R→AX→St→Prop) (dr:Bool) (acc:List Yw) (l:List Oper) (s:St):Prop where
 intro ::
 h:∀ r,o=some r→XR P N ops (Q r) (dOf dr acc) l s
def eQ (P:Program) (N:Nat) (ops:Array Oper) (k:Nat) (l:List Oper) (s:St):St:=match runs P N ops k l s [] with | some (s',_)=>s' | none=>s
def runF (P:Program) (N:Nat) (ops:Array Oper) (k:Nat) (l:List Oper) (s:St) (acc:List Yw):List Yw:=match runs P N ops k l s acc with | some (_,a)=>a | none=>[]
def QaD (P:Program) (N:Nat) (ops:Array Oper) (k:Nat) (l:List Oper) (s:St):Bool:=(runs P N ops k l s []).isSome
theorem Su {P:Program} {N:Nat} {ops:Array Oper}:∀ (k:Nat) (l:List Oper) (s:St) (acc:List Yw),runs P N ops k l s acc=(runs P N ops k l s []).map fun p=>(p.1,p.2++acc)
 | 0,l,s,acc=>by simp [runs]
 | k+1,[],s,acc=>by simp [runs]
 | k+1,o :: l,s,acc=>by
  simp only [runs]
  cases step1 P N ops o s with
  | none=>rfl
  | some p =>
   obtain ⟨s',f⟩:=p
   simp only
   rw [Su k l s' (f :: acc),Su k l s' [f]]
   simp [Option.map_map,Function.comp_def]
theorem F6 (dr:Bool) (acc:List Yw) (f:Yw):more (dOf dr acc) f=dOf dr (f :: acc):=by cases dr <;> rfl
section
variable {R V:Type} {a a1 a2:Option R} {P:Program} {N:Nat} {ro:Option Nat} {ops:Array Oper} {o:Oper} {l:List Oper} {dr:Bool} {acc:List Yw} {s s':St} {Q:R→AX→St→Prop} {y:Code} {id:Nat} {draw:Bool}
theorem sR (hm:P.follows .mixedOrders=true) (K:Gf) (s':St) (h1:(Tm P N ops draw s).bind (F4 K)=some s') (h:QU a P N ro y s' Q):QU a P N ro (.seq (.region id ops draw) y) s Q:=by
 obtain ⟨s1,h2,h3⟩:=Option.bind_eq_some_iff.1 h1
 refine ⟨fun r hr=>?_⟩
 exact Ou (Ny hm h2 (GK (Xu h3) (h.h r hr)))
theorem fP (hm:P.follows .mixedOrders=true) {s1:St} (h1:Tm P N ops draw s=some s1) (h:Zy a Q .normal s1):QU a P N ro (.region id ops draw) s Q:=⟨fun r hr=>Ny hm h1 (h.h r hr)⟩
def Py (P:Program) (N:Nat) (ops:Array Oper) (draw:Bool) (s:St):St:=(Tm P N ops draw s).getD s
theorem sL (hm:P.follows .mixedOrders=true) (h1:(Tm P N ops draw s).isSome=true) (h:Zy a Q .normal (Py P N ops draw s)):QU a P N ro (.region id ops draw) s Q:=by
 obtain ⟨s1,h2⟩:=Ls.1 h1
 refine fP hm h2 ?_
 have e:Py P N ops draw s=s1:=by simp [Py,h2]
 rw [← e]; exact h
theorem sG (h:KX a P N ops Q false [] ops.toList s):QU a P N ro (.region id ops false) s Q:=⟨fun r hr=>IQ (h.h r hr)⟩
theorem YK (hm:P.follows .mixedOrders=true) (hd:Ul ops=true) (h:KX a P N ops Q true [] ops.toList s):QU a P N ro (.region id ops true) s Q:=⟨fun r hr=>wP hm hd (h.h r hr)⟩
theorem xR (k:Nat) (h1:QaD P N ops k l s=true) (h:KX a P N ops Q dr (runF P N ops k l s acc) (l.drop k) (eQ P N ops k l s)):KX a P N ops Q dr acc l s:=by
 refine ⟨fun r hr=>?_⟩
 obtain ⟨⟨s1,f⟩,h2⟩:=Ls.1 h1
 have h3:=h.h r hr
 have e1:eQ P N ops k l s=s1:=by simp [eQ,h2]
 rw [e1] at h3
 have h4:=Su (P:=P) (N:=N) (ops:=ops) k l s acc
 rw [h2] at h4
 have e2:runF P N ops k l s acc=f++acc:=by simp [runF,h4]
 rw [e2] at h3
 cases dr with
 | false=>exact Ef (d:=none) h2 (.inl rfl) h3
 | true=>exact Ef (d:=some acc) h4 (.inr rfl) h3
theorem xE (h:Zy a Q .normal s):KX a P N ops Q false acc [] s:=⟨fun r hr=>h.h r hr⟩
theorem Yh (hc:Kg ops acc.reverse=true) (h:Zy a Q .normal s):KX a P N ops Q true acc [] s:=⟨fun r hr=>⟨hc,h.h r hr⟩⟩
theorem xS (b:Bool) (h1:b=true→KX a1 P N ops Q dr acc l s) (h2:b=false→KX a2 P N ops Q dr acc l s):KX (cond b a1 a2) P N ops Q dr acc l s:=by
 cases b
 ·exact h2 rfl
 ·exact h1 rfl
def bO (P:Program) (ops:Array Oper) (o:Oper) (s:St):Kn:=(VA P o (look (Zv ops o s.T true)) (look s.H)).getD (.p (.val undef),none,[])
theorem xO (hw:ZF ops o (look s.T)=some true) (hp:(plain o.op&&(VA P o (look (Zv ops o s.T true)) (look s.H)).isSome&&Ku N o.dst)=true)
  (h:KX a P N ops Q dr (Sq (bO P ops o s) :: acc) l (eP ops o s (bO P ops o s))):KX a P N ops Q dr acc (o :: l) s:=by
 simp only [Ki] at hp
 obtain ⟨u,hu⟩:=Ls.1 hp.1.2
 have e:bO P ops o s=u:=by simp [bO,hu]
 rw [e] at h
 exact ⟨fun r hr=>Dc hw hp.1.1 hu hp.2 (F6 dr acc _ ▸ h.h r hr)⟩
theorem xN (hw:ZF ops o (look s.T)=some false) (hd:Ku N o.dst=true) (h:KX a P N ops Q dr ((none,[]) :: acc) l (St.put (mk ops o s false) o.dst (.p (.val undef)))):KX a P N ops Q dr acc (o :: l) s :=
 ⟨fun r hr=>zP hw hd (F6 dr acc _ ▸ h.h r hr)⟩
theorem Qt {b:Bool} (h1:ZF ops o (look s.T)=some (b == true)) (h2:b=true):ZF ops o (look s.T)=some true:=by rw [h1,h2]; rfl
theorem QA {b:Bool} (h1:ZF ops o (look s.T)=some (b == false)) (h2:b=false):ZF ops o (look s.T)=some true:=by rw [h1,h2]; rfl
theorem Qu {b:Bool} (h1:ZF ops o (look s.T)=some (b == true)) (h2:b=false):ZF ops o (look s.T)=some false:=by rw [h1,h2]; rfl
theorem QB {b:Bool} (h1:ZF ops o (look s.T)=some (b == false)) (h2:b=true):ZF ops o (look s.T)=some false:=by rw [h1,h2]; rfl
theorem xF {c:Bool} {u:Kn} (hw:ZF ops o (look s.T)=some true) (hp:(plain o.op&&Ku N o.dst)=true) (hu:c=true→VA P o (look (Zv ops o s.T true)) (look s.H)=some u)
  (h:KX a P N ops Q dr (Sq u :: acc) l (eP ops o s u)):KX (cond c a none) P N ops Q dr acc (o :: l) s:=by
 simp only [Ki] at hp
 refine ⟨fun r hr=>?_⟩
 cases c with
 | false=>cases hr
 | true=>exact Dc hw hp.1 (hu rfl) hp.2 (F6 dr acc _ ▸ h.h r hr)
theorem xG {m:Option V} {k:V→Option R} {u:V→Kn} (hw:ZF ops o (look s.T)=some true) (hp:(plain o.op&&Ku N o.dst)=true) (hu:∀ v,m=some v→VA P o (look (Zv ops o s.T true)) (look s.H)=some (u v))
  (h:∀ v,KX (k v) P N ops Q dr (Sq (u v) :: acc) l (eP ops o s (u v))):KX (m.bind k) P N ops Q dr acc (o :: l) s:=by
 simp only [Ki] at hp
 refine ⟨fun r hr=>?_⟩
 obtain ⟨v,hv,hk⟩:=Option.bind_eq_some_iff.1 hr
 exact Dc hw hp.1 (hu v hv) hp.2 (F6 dr acc _ ▸ (h v).h r hk)
theorem Ze {u:Kn} (hw:ZF ops o (look s.T)=some true) (hp:(plain o.op&&Ku N o.dst)=true) (hu:VA P o (look (Zv ops o s.T true)) (look s.H)=some u)
  (h:KX a P N ops Q dr (Sq u :: acc) l (eP ops o s u)):KX a P N ops Q dr acc (o :: l) s:=by
 simp only [Ki] at hp
 exact ⟨fun r hr=>Dc hw hp.1 hu hp.2 (F6 dr acc _ ▸ h.h r hr)⟩
end
structure F7 {R:Type} (a:Option R) (K:R→St→Prop) (s:St):Prop where
 intro ::
 h:∀ r,a=some r→K r s
structure Dr {R:Type} (a:Option R) (P:Program) (N:Nat) (f:FuncId) (args:List AV) (dst:Option Tmp) (s:St) (K:R→St→Prop) (Q:R→AX→St→Prop):Prop where
 intro ::
 h:∀ r,a=some r→LK P N f args dst s (K r) (Q r)
def iW {R:Type} (P:Program) (N:Nat) (ops:Array Oper) (Q:R→AX→St→Prop) (l:List Oper):R→St→Prop:=fun r s=>XR P N ops (Q r) none l s
def fKq {R:Type} (Q:R→AX→St→Prop):R→St→Prop:=fun r s=>Q r .normal s
section
variable {R V E:Type} {a a1 a2:Option R} {P:Program} {N:Nat} {ro:Option Nat} {ops:Array Oper} {o:Oper} {l:List Oper} {dr:Bool} {acc:List Yw} {s s':St} {Q:R→AX→St→Prop} {K:R→St→Prop} {f:FuncId} {args args':List AV} {dst:Option Tmp}
theorem kr (h:KX a P N ops Q false acc l s):F7 a (iW P N ops Q l) s:=⟨fun r hr=>h.h r hr⟩
theorem Yq (h:KX a P N ops Q false [] l s):F7 a (iW P N ops Q l) s:=⟨fun r hr=>h.h r hr⟩
theorem sW (h:Zy a Q .normal s):F7 a (fKq Q) s:=⟨fun r hr=>h.h r hr⟩
def Tn:Op→Bool
 | .call ⟨.value _,_,_⟩=>true
 | _=>false
theorem Fp {T:Nat→Option AV} {op:Op} {p:FuncId × List AV} (h:Z4 T op=some p):Tn op=true:=by
 unfold Z4 at h
 split at h
 ·rfl
 ·rfl
 ·cases h
theorem Xv {T:Nat→Option AV} {op:Op} {p:FuncId × List AV} (h:Z4 T op=some p):yieldOf T op=none:=by
 unfold yieldOf
 split
 ·rename_i t aas ts
  split
  ·rename_i b hb; simp [Z4,hb] at h
  ·rfl
 ·rfl
theorem X7 {P:Program} {N:Nat} {o:Oper} {s:St} {K:St→Prop} {Q:AX→St→Prop} {f:FuncId} {args:List AV} (hf:Z4 (look s.T) o.op=some (f,args)) (hb:YZ P f=true) (h:LK P N f args o.dst s K Q):XN P N o s K Q:=by
 unfold XN
 split
 ·rename_i ho; rw [ho] at hf; simp [Z4] at hf
 ·rename_i ho; rw [ho] at hf; simp [Z4] at hf
 ·rename_i g aas ts ho
  rw [ho] at hf
  rw [hf]
  exact ⟨hb,h⟩
 ·rename_i h1 h2 h3
  have:=Fp hf
  unfold Tn at this
  split at this
  ·rename_i ho; exact absurd ho (h3 _ _ _)
  ·cases this
theorem Yj (hw:ZF ops o (look s.T)=some true) (hf:Z4 (look (Zv ops o s.T true)) o.op=some (f,args)) (hb:YZ P f=true) (h:Dr a P N f args o.dst (mk ops o s true) (iW P N ops Q l) Q):KX a P N ops Q false acc (o :: l) s:=by
 refine ⟨fun r hr=>?_⟩
 show Yi P N ops (Q r) (o :: l) s
 simp only [Yi,hw,ZQ,Xv hf]
 exact X7 hf hb (h.h r hr)
theorem xK (hw:ZF ops o (look s.T)=some true) (hf:Z4 (look (Zv ops o s.T true)) o.op=some (f,args)) (hb:(YZ P f&&JX ops acc.length&&Kg ops acc.reverse)=true)
  (h:Dr a P N f args o.dst (mk ops o s true) (fKq Q) Q):KX a P N ops Q true acc [o] s:=by
 refine ⟨fun r hr=>?_⟩
 simp only [Ki] at hb
 show KA P N ops (Q r) [o] acc s
 simp only [KA,hw,ZQ]
 split
 ·rename_i ho; rw [ho] at hf; simp [Z4] at hf
 ·rename_i g aas ts ho
  exact .inr (.inl ⟨rfl,hb.1.2,hb.2,X7 hf hb.1.1 (h.h r hr)⟩)
 ·rename_i ho; rw [ho] at hf; simp [Z4] at hf
 ·rename_i h1 h2 h3
  have:=Fp hf
  unfold Tn at this
  split at this
  ·rename_i ho; exact absurd ho (h2 _ _ _)
  ·cases this
theorem U7 (hi:Tn o.op=true) (hw:ZF ops o (look s.T)=some true) (hb:(JX ops acc.length&&Kg ops acc.reverse&&GY ops acc.length&&zz ops s (o :: l))=true) (h:KX a P N ops Q false [] (o :: l) s):KX a P N ops Q true acc (o :: l) s:=by
 refine ⟨fun r hr=>?_⟩
 simp only [Ki] at hb
 have h1:Yi P N ops (Q r) (o :: l) s:=h.h r hr
 show KA P N ops (Q r) (o :: l) acc s
 simp only [KA,hw,ZQ]
 split
 ·rename_i ho; rw [ho] at hi; simp [Tn] at hi
 ·exact .inr (.inr (.inl ⟨hb.1.1.1,hb.1.1.2,hb.1.2,hb.2,h1⟩))
 ·rename_i ho; rw [ho] at hi; simp [Tn] at hi
 ·rename_i h1 h2 h3
  unfold Tn at hi
  split at hi
  ·rename_i ho; exact absurd ho (h2 _ _ _)
  ·cases hi
theorem xC {m:Option V} {k:V→Option R} {X:V→AV} (C:List Conv) (hw:ZF ops o (look s.T)=some true) (hc:∀ v,m=some v→Q0 P f args' (.ret (X v)))
  (hf:(Z4 (look (Zv ops o s.T true)) o.op).map (fun p=>(p.1,Ed C p.2))=some (f,args')) (hb:(YZ P f&&Ku N o.dst&&YH args')=true) (hx:∀ v,K9 (X v)=true)
  (h:∀ v,KX (k v) P N ops Q dr ((none,[]) :: acc) l (St.put (mk ops o s true) o.dst (X v))):KX (m.bind k) P N ops Q dr acc (o :: l) s:=by
 refine ⟨fun r hr=>?_⟩
 obtain ⟨v,hv,hk⟩:=Option.bind_eq_some_iff.1 hr
 obtain ⟨⟨f0,args⟩,hcall,hp⟩:=FQ.1 hf
 simp only [Prod.mk.injEq] at hp
 obtain ⟨rfl,rfl⟩:=hp
 simp only [Ki] at hb
 cases dr with
 | false =>
  show Yi P N ops (Q r) (o :: l) s
  simp only [Yi,hw,ZQ,Xv hcall]
  exact X7 hcall hb.1.1 (Np (hc v hv) (Xt C args) hb.2 (hx v) (ZR hb.1.2) ((h v).h r hk))
 | true =>
  show KA P N ops (Q r) (o :: l) acc s
  simp only [KA,hw,ZQ]
  split
  ·rename_i ho; rw [ho] at hcall; simp [Z4] at hcall
  ·rename_i g aas ts ho
   rw [ho] at hcall
   exact bK (hc v hv) hcall hb.1.1 hb.1.2 (Xt C args) hb.2 (hx v) ((h v).h r hk)
  ·rename_i ho; rw [ho] at hcall; simp [Z4] at hcall
  ·rename_i h1 h2 h3
   have:=Fp hcall
   unfold Tn at this
   split at this
   ·rename_i ho; exact absurd ho (h2 _ _ _)
   ·cases this
def vg (X:V→AV) (Y:E→AV):Except E V→Z0
 | .ok v=>.ret (X v)
 | .error e=>.panic (Y e)
theorem BG {m:Option V} {k:V→Option R} {X:V→AV} (C:List Conv) (hc:∀ v,m=some v→Q0 P f args' (.ret (X v))) (ha:Ed C args=args') (hb:(Ku N dst&&YH args')=true) (hx:∀ v,K9 (X v)=true)
  (h:∀ v,F7 (k v) K (s.put dst (X v))):Dr (m.bind k) P N f args dst s K Q:=by
 refine ⟨fun r hr=>?_⟩
 obtain ⟨v,hv,hk⟩:=Option.bind_eq_some_iff.1 hr
 simp only [Ki] at hb
 subst ha
 exact Np (hc v hv) (Xt C args) hb.2 (hx v) (ZR hb.1) ((h v).h r hk)
theorem eT {m:Option (Except E V)} {k:Except E V→Option R} {X:V→AV} {Y:E→AV} (C:List Conv) (hc:∀ v,m=some v→Q0 P f args' (vg X Y v)) (ha:Ed C args=args') (hb:(Ku N dst&&YH args')=true) (hx:∀ v,K9 (X v)=true) (hy:∀ e,K9 (Y e)=true)
  (h:∀ v,F7 (k (.ok v)) K (s.put dst (X v))) (he:∀ e,Zy (k (.error e)) Q (.panic (Y e)) s):Dr (m.bind k) P N f args dst s K Q:=by
 refine ⟨fun r hr=>?_⟩
 obtain ⟨v,hv,hk⟩:=Option.bind_eq_some_iff.1 hr
 simp only [Ki] at hb
 subst ha
 have h1:=hc v hv
 cases v with
 | ok v=>exact Np h1 (Xt C args) hb.2 (hx v) (ZR hb.1) ((h v).h r hk)
 | error e=>exact PO h1 (Xt C args) hb.2 (hy e) ((he e).h r hk)
def MZ {E V R:Type} (k:V→Option R) (e:E→Option R):Except E V→Option R
 | .ok v=>k v
 | .error x=>e x
theorem Fq {m:Option (Except E V)} {k:V→Option R} {ke:E→Option R} {X:V→AV} {Y:E→AV} (C:List Conv) (hw:ZF ops o (look s.T)=some true) (hc:∀ v,m=some v→Q0 P f args' (vg X Y v))
  (hf:(Z4 (look (Zv ops o s.T true)) o.op).map (fun p=>(p.1,Ed C p.2))=some (f,args')) (hb:(YZ P f&&Ku N o.dst&&YH args')=true) (hx:∀ v,K9 (X v)=true) (hy:∀ e,K9 (Y e)=true)
  (h:∀ v,KX (k v) P N ops Q false ((none,[]) :: acc) l (St.put (mk ops o s true) o.dst (X v))) (he:∀ e,Zy (ke e) Q (.panic (Y e)) (mk ops o s true)):KX (m.bind (MZ k ke)) P N ops Q false acc (o :: l) s:=by
 obtain ⟨⟨f0,args⟩,hcall,hp⟩:=FQ.1 hf
 simp only [Prod.mk.injEq] at hp
 obtain ⟨rfl,hp⟩:=hp
 simp only [Ki] at hb
 exact Yj hw hcall hb.1.1 (eT C hc hp (by simp [hb]) hx hy (fun v=>kr (h v)) he)
theorem X8 {x:Operand} (t:TypeId) (v:AV) (hw:ZF ops o (look s.T)=some true) (ho:o.op=.panic x) (hv:Zr (look (Zv ops o s.T true)) x=some (.ifc t v)) (h:Zy a Q (.panic (.ifc t v)) (mk ops o s true)):KX a P N ops Q false acc (o :: l) s:=by
 refine ⟨fun r hr=>?_⟩
 show Yi P N ops (Q r) (o :: l) s
 have hy:yieldOf (look (Zv ops o s.T true)) o.op=none:=by simp [yieldOf,ho]
 simp only [Yi,hw,ZQ,hy]
 show XN P N o _ _ _
 unfold XN
 simp only [ho,hv]
 exact h.h r hr
def eU (P:Program) (fn:Func) (X:R→Z0):R→AX→St→Prop:=fun r=>fD P fn (·=X r)
def VR:Z0→AV
 | .ret y=>y
 | .panic y=>y
theorem qR {X:V→Z0} {v:V} {fn:Func} (C:Conv) (h:(Td P fn (look s.T) (look s.H)).map (cv C)=some (VR (X v))) (hX:X v=.ret (VR (X v))) (hn:K9 (VR (X v))=true):Zy (some v) (eU P fn X) .ret s:=by
 refine ⟨fun r hr=>?_⟩
 cases hr
 obtain ⟨x,h1,h2⟩:=FQ.1 h
 exact ⟨x,VR (X v),h1,h2 ▸ zN C x,hn,hX.symm⟩
theorem zQ {X:V→Z0} {v:V} {fn:Func} {p:AV} (hX:X v=.panic p) (hn:K9 p=true):Zy (some v) (eU P fn X) (.panic p) s:=by
 refine ⟨fun r hr=>?_⟩
 cases hr
 exact ⟨hn,hX.symm⟩
theorem Qp {fn:Func} {c:Code} {X:R→Z0} {n:Nat} (hf:P.funcs[f]?=some fn) (hb:fn.body=some c) (hn:fn.ntmps=n) (hl:Nat.ble args.length n=true) (h:QU a P n none c ⟨WQ 0 args,[]⟩ (eU P fn X)) (r:R) (hr:a=some r):Q0 P f args (X r):=by
 subst hn
 exact zD hf hb (Nat.le_of_ble_eq_true hl) (h.h r hr)
end
def Zc {α:Type} (l:List α) (i:Int):Option α:=if i < 0 then none else l[i.toNat]?
section
variable {P:Program} {o:Oper} {T:Nat→Option AV} {h:Qv}
theorem wZ {tx ty:TypeId} {x y:Operand} {k k':IntKind} {a b:Int} (ho:o.op=.binOp .shl tx x y ty) (hx:Zr T x=some (.p (.val (.int k a)))) (hy:Zr T y=some (.p (.val (.int k' b)))) (hc:(!QL b 0)=true) :
  VA P o T h=some (.p (.val (.int k (Wu k a b))),none,[]):=by
 have hb:¬ b < 0:=by simpa [QL] using hc
 simp [VA,ho,EC,hx,hy,LB,Bd,hb,RA]
abbrev wi (x:Int):Int:=IntKind.i64.wrap x
abbrev wu (x:Int):Int:=IntKind.u64.wrap x
end
end Go.Abs
