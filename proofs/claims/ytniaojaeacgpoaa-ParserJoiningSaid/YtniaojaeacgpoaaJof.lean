/-
  A part of the proof of a statement of the seat Ytniaojaeacgpoaa.
-/
import Derived.Test.YtniaojaeacgpoaaJof04
namespace Go.Proofs
open Go Go.Abs Go.ChangeShapes Go.WideShapes Go.ChangeAt Go.RowKit Go.Proofs.Ytniaojaeacgpoaa
set_option maxRecDepth 100000
set_option linter.unusedVariables false
theorem sized_of_change {H:Type} {enc:TypeId × Value→H} {a:Assume} {C:Checked} {os:Os} {f:FuncId} {fn:Func} {s:ChangeSpec} {conds:List PathCond} {apart fresh handsOn again:Bool}
  (own:ownKnob C.prog.godebug=none) (started:os.Started) (noInit:C.prog.inits.idxOf? f=none) (hfn:C.prog.funcs[f]?=some fn)
  (witness:∃ (w:World) (tape:Tape) (i:Input),w.os=os∧(w.forCall tape i).Shaped C.prog∧i.vars=[]∧Input.okWide C.prog (w.forCall tape i) .any w.heap.size f i ∧
   s.pre6 enc C.prog fn conds apart (w.forCall tape i).memory i.args∧a.holds C.prog (lone (Frame.enter C.prog f i.args .normal) [] (w.forCall tape i)))
  (contract:∀ (W:World) (base:Nat) (args:Array Value) (ds gs:List (DataW H)) (before:List MemPlace),
   (∀ (j:Nat) t v,fn.params[j]?=some t→args[j]?=some v→Value.okWide C.prog W .any base t v) →
   DataW.Whole enc C.prog fn.params.toList s.vars apart W args.toList ds gs before →
   (DataW.weightsEach C.prog (fn.params.toList++s.plain.varTypes C.prog) (ds++gs)).all (·≤reachBytes)=true →
   Calls C.prog f args W fun e W'=>∃ v,e=.returned v∧s.post enc C.prog fn apart fresh handsOn again W args v W') :
  ReturnsInHanded a C os f .any (s.pre6 enc C.prog fn conds apart) (s.post enc C.prog fn apart fresh handsOn again):=by
 have h:=returnsInHanded_of_change_and (a:=a) (C:=C) (os:=os) (f:=f) (fn:=fn) (s:=s) (conds:=conds) (apart:=apart) (fresh:=fresh) (handsOn:=handsOn) (again:=again) (enc:=enc) (X:=fun _ _=>True) (fun _ _ _ _ _=>trivial) own started noInit hfn
  (by obtain ⟨w,t,i,h1,h2,h3,h4,h5,h6⟩:=witness; exact ⟨w,t,i,h1,h2,h3,h4,⟨⟨h5.1,trivial⟩,h5.2⟩,h6⟩)
  (fun W base args ds gs before h1 h2 _ h3 _ _=>contract W base args ds gs before h1 h2 h3)
 have e:(fun w args=>(s.pre enc C.prog fn conds apart w args∧True)∧sizedMet enc C.prog fn (OpenSpec.ofChange s) apart w args)=s.pre6 enc C.prog fn conds apart:=by
  funext w args
  simp [ChangeSpec.pre6]
 rw [e] at h
 exact h
theorem weights_mem {H:Type} {P:Program}:∀ (ts:List TypeId) (ds:List (DataW H)) (i:Nat) (t:TypeId) (d:DataW H),ts[i]?=some t→ds[i]?=some d→∀ x ∈ d.weights P t,x ∈ DataW.weightsEach P ts ds
 | [],_,_,_,_,h,_=>by simp at h
 | _ :: _,[],_,_,_,_,h=>by simp at h
 | t0 :: ts,d0 :: ds,0,t,d,h,h'=>by
  simp only [List.getElem?_cons_zero,sie] at h h'
  subst h; subst h'
  intro x hx
  simp only [DataW.weightsEach,List.mem_append]
  exact .inl hx
 | t0 :: ts,d0 :: ds,i+1,t,d,h,h'=>by
  intro x hx
  simp only [DataW.weightsEach,List.mem_append]
  exact .inr (weights_mem ts ds i t d (by simpa using h) (by simpa using h') x hx)
theorem str_len {H:Type} {enc:TypeId × Value→H} {P:Program} {w:World} {sp:Nat→Bool} {base fuel:Nat} {held:Bool} {t:TypeId} {a:List UInt8} {x:DataW H × List MemPlace} (ht:P.underlying t=some .string) (h:DataW.trod enc P w base sp held fuel t (Value.string (mkS a)).cells.toList=some x):∀ X:DataW H × List MemPlace,X=x→X.1.weights P t=[a.length]:=by
 intro X hX; subst hX
 obtain ⟨s,h1,h3,_⟩:=DataW.trod_string ht h
 have h2:(Value.string (mkS a)).cells.toList=[Value.string (mkS a)]:=rfl
 rw [h2] at h1
 simp only [List.cons.injEq,Value.string.injEq,and_true] at h1
 subst h1
 rw [h3]
 simp [DataW.weights,mkS]
def ParserJoiningPlainU:Prop:=∀ (a0:List UInt8) (a1:List UInt8),a0.length≤140737488351232→a1.length≤140737488351232→∃ n,g_law02_ParserJoining n a0 a1=some true
theorem parserJoining_callU (h:ParserJoiningPlainU):∀ xs,ArgsSh Try.prog 9 Try.f4.params.toList xs→(∀ (a:List UInt8) (i:Nat),xs[i]?=some (.p (.val (.string (mkS a))))→i < 2→a.length≤140737488351232)→PCall Try.prog 4 xs (.ret (.p (.val (.bool true)))):=by
 intro xs ha hb
 rw [Try.params4] at ha
 obtain ⟨_,_,rfl,h0,_,_,rfl,h1,rfl⟩:=ha
 obtain ⟨a0,rfl,w0⟩:=sh_str Try.underlying9 h0
 obtain ⟨a1,rfl,w1⟩:=sh_str Try.underlying9 h1
 simp only [avOf_str Try.underlying9] at hb ⊢
 obtain ⟨n,hn⟩:=h a0 a1 (hb a0 0 rfl (by omega)) (hb a1 1 rfl (by omega))
 exact g_law02_ParserJoining_ok n a0 a1 true hn
set_option maxRecDepth 100000 in
theorem parserJoining_liftedU (h:ParserJoiningPlainU) (os:Os) (started:os.Started) (H:Type) (enc:TypeId × Value→H) (_:Unit) :
  ReturnsInHanded {} Try.checked os 4 .any (Rows.parserJoiningSpec.pre6 enc Try.prog Try.f4 Rows.parserJoiningRow.domain false) (Rows.parserJoiningSpec.post enc Try.prog Try.f4 false true false false):=by
 refine sized_of_change (C:=Try.checked) krf started krf Try.func4
  (ChangeSpec.witness6 (enc:=enc) (C:=Try.checked) false ⟨#[],#[.string ⟨#[]⟩, .string ⟨#[]⟩],[]⟩ 8 krf krf krf krf) ?_
 intro W base args ds gs before hval hW hkk
 refine law_contractW (P:=Try.prog) (f:=4) (fn:=Try.f4) (s:=Rows.parserJoiningSpec) (tb:=4) (d:=9) krf krf krf krf Try.underlying4 rfl
  (fun ds hd=>by
   have hd:ds.length=2:=by rw [hd,show Try.f4.params.size=2 from by kernel_rfl]
   match ds,hd with
   | [d0,d1],_=>rfl)
  hval hW (fun aas ha hrep=>parserJoining_callU h aas ha (fun a i e hi=>?_))
 obtain ⟨p,q,hA,_⟩:=hW
 rw [Try.params4] at hA
 obtain ⟨v0,vs,d0,ds0,p0,q0,e1,e2,_,⟨fuel0,h0⟩,hA2⟩:=trodAll_cons hA
 obtain ⟨v1,vs',d1,ds1,p1,q1,e3,e4,_,⟨fuel1,h1⟩,_⟩:=trodAll_cons hA2
 have hsm:∀ x ∈ DataW.weightsEach Try.prog (Try.f4.params.toList++Rows.parserJoiningSpec.plain.varTypes Try.prog) (ds++gs),x≤140737488351232:=fun x hx=>by
  exact of_decide_eq_true (List.all_eq_true.1 hkk x hx)
 have hts:Try.f4.params.toList++Rows.parserJoiningSpec.plain.varTypes Try.prog=[9,9]:=by kernel_rfl
 rw [hts] at hsm
 have hd0:=fun x hx=>hsm x (weights_mem _ _ 0 9 d0 rfl (by rw [e2]; rfl) x hx)
 have hd1:=fun x hx=>hsm x (weights_mem _ _ 1 9 d1 rfl (by rw [e2,e4]; rfl) x hx)
 rw [e1,e3] at hrep
 match i,hi with
 | 0,_ =>
  match aas,hrep,e with
  | x :: r,hrep,e =>
   simp only [List.getElem?_cons_zero,sie] at e
   subst e
   simp only [RepAs] at hrep
   obtain ⟨y,ys,f1,hy,_⟩:=hrep
   simp only [List.cons.injEq] at f1
   obtain ⟨rfl,_⟩:=f1
   simp only [RepA,RepP] at hy
   subst hy
   exact hd0 _ (by rw [str_len Try.underlying9 h0 (d0,p0) rfl]; simp)
 | 1,_ =>
  match aas,hrep,e with
  | x :: x' :: r,hrep,e =>
   simp only [List.getElem?_cons_succ,List.getElem?_cons_zero,sie] at e
   subst e
   simp only [RepAs] at hrep
   obtain ⟨y,ys,f1,_,y',ys',f2,hy,_⟩:=hrep
   simp only [List.cons.injEq] at f1
   obtain ⟨_,rfl⟩:=f1
   simp only [List.cons.injEq] at f2
   obtain ⟨rfl,_⟩:=f2
   simp only [RepA,RepP] at hy
   subst hy
   exact hd1 _ (by rw [str_len Try.underlying9 h1 (d1,p1) rfl]; simp)
theorem parserJoining_said (h:ParserJoiningPlainU):Rows.ParserJoiningSaid :=
 OpenClaim.holds_of_wide 4 Try.f4 rfl rfl rfl rfl rfl rfl rfl ⟨rfl,rfl,rfl,rfl,rfl⟩ rfl rfl rfl rfl rfl krf Try.func4 krf
  (of_decide_eq_true krf) (by unfold Func.isWrapper; first | (rw [if_pos (by decide +kernel)]; kernel_rfl) | (rw [if_neg (by decide +kernel)]; exact ⟨rfl,rfl⟩))
  (fun os started H enc _=>parserJoining_liftedU h os started H enc ())
end Go.Proofs
namespace Go.Proofs
open Go Go.Abs
set_option maxRecDepth 100000
set_option linter.unusedVariables false
def Does {α:Type} (m:Option α) (Q:α→Prop):Prop:=∃ r,m=some r∧Q r
section
variable {α β V R E:Type}
theorem does_some {x:α} {Q:α→Prop} (h:Q x):Does (some x) Q:=⟨x,rfl,h⟩
theorem does_bind {m:Option α} {k:α→Option β} {Q:α→Prop} {Q':β→Prop} (h:Does m Q) (hk:∀ x,Q x→Does (k x) Q'):Does (m.bind k) Q':=by
 obtain ⟨x,rfl,h⟩:=h
 exact hk x h
theorem does_loop {B:(V→Option R)→V→Option R} {Q:V→R→Prop} (μ:V→Nat) (Inv:V→Prop)
  (hB:∀ rec v,Inv v→(∀ v',Inv v'→μ v' < μ v→Does (rec v') (Q v'))→Does (B rec v) (Q v)):∀ {n:Nat} {v:V},Inv v→μ v < n→Does (loopN B n v) (Q v)
 | 0,_,_,h=>absurd h (Nat.not_lt_zero _)
 | n+1,v,hv,h=>hB _ v hv (fun v' h1 h2=>does_loop μ Inv hB h1 (by omega))
end
theorem getI_nat {α:Type} {l:List α} {i:Nat}:getI l (i:Int)=l[i]?:=by
 unfold getI; rw [if_neg (by omega)]; simp
theorem wi_id {x:Int} (h1:-9223372036854775808≤x) (h2:x≤9223372036854775807):wi x=x:=by
 simp [wi,IntKind.wrap,IntKind.signed,IntKind.bits]; omega
def folB (a r:GReading):Bool:=if r.Serial=a.Serial then decide (a.Minute≤r.Minute∧a.Register≤r.Register) else decide (r.Minute=a.Minute)
def mixB (s x k:Int):Int:=wu ((bXor .u64 s (bAnd .u64 (shrI .u64 (wu x) k) 255)) * 1099511628211)
def mixW (s x:Int):Int:=[56,48,40,32,24,16,8,0].foldl (fun s k=>mixB s x k) s
def linkF (s:Int) (r:GReading):Int:=[r.Serial,r.Number,r.Minute,r.Register].foldl mixW s
def prevLink (seed:Int) (l:List GReading) (i:Nat):Int:=if i=0 then seed else ((l[i - 1]?).map (·.Link)).getD 0
def chainAt (seed:Int) (l:List GReading) (i:Nat):Prop:=∀ r ∈ l[i]?,(1≤r.Serial∧r.Serial≤1000000)∧r.Number=i+1∧(0≤r.Minute∧r.Minute≤52560000)∧(0≤r.Register∧r.Register≤1000000000) ∧
 (i ≠ 0→∀ a ∈ l[i - 1]?,folB a r=true)∧r.Link=linkF (prevLink seed l i) r
def chainOk (seed:Int) (l:List GReading):Prop:=(1≤l.length∧l.length≤64)∧∀ i,i < l.length→chainAt seed l i
end Go.Proofs
namespace Go.Proofs
open Go Go.Abs
set_option maxRecDepth 100000
set_option linter.unusedVariables false
theorem eqI_d (x y:Int):eqI x y=decide (x=y):=by unfold eqI; by_cases h:x=y <;> simp [h]
theorem cond_some {α:Type} {b:Bool} {x y:α}:cond b (some x) (some y)=some (cond b x y):=by cases b <;> rfl
def keyB (w:List UInt8):Bool:=(g_a_isKey 0 w).getD false
theorem loop_list {α R:Type} {l:List α} {B:(Int→Option R)→Int→Option R} {F:List α→R} (hlen:l.length≤4611686018427387904)
  (hend:∀ rec,B rec (l.length:Int)=some (F []))
  (hstep:∀ (rec:Int→Option R) (i:Nat) (x:α) (r:List α),l.drop i=x :: r→l[i]?=some x→i < l.length→wi ((i:Int)+1)=((i+1:Nat):Int)→(rec ((i+1:Nat):Int)=some (F r))→B rec (i:Int)=some (F (x :: r))) :
  ∀ {n:Nat} (i:Nat),i≤l.length→l.length - i < n→loopN B n (i:Int)=some (F (l.drop i))
 | 0,_,_,h=>absurd h (Nat.not_lt_zero _)
 | n+1,i,hi,h=>by
  unfold loopN
  by_cases he:i=l.length
  ·subst he; rw [hend]; simp
  ·have hlt:i < l.length:=by omega
   have hd:l.drop i=l[i] :: l.drop (i+1):=by rw [List.drop_eq_getElem_cons hlt]
   rw [hd]
   exact hstep _ i _ _ hd (by simp [hlt]) hlt (by rw [wi_id] <;> omega) (loop_list hlen hend hstep (i+1) (by omega) (by omega))
theorem loop_gen {α R A V:Type} {l:List α} (S:A→Int→V) {B:(V→Option R)→V→Option R} {F:A→List α→R} (Inv:Nat→A→Prop) (hlen:l.length≤4611686018427387904)
  (hend:∀ rec a,Inv l.length a→B rec (S a (l.length:Int))=some (F a []))
  (hstep:∀ (rec:V→Option R) (a:A) (i:Nat) (x:α) (r:List α),Inv i a→l.drop i=x :: r→l[i]?=some x→i < l.length→wi ((i:Int)+1)=((i+1:Nat):Int)→(∀ a,Inv (i+1) a→rec (S a ((i+1:Nat):Int))=some (F a r))→B rec (S a (i:Int))=some (F a (x :: r))) :
  ∀ {n:Nat} (i:Nat) (a:A),Inv i a→i≤l.length→l.length - i < n→loopN B n (S a (i:Int))=some (F a (l.drop i))
 | 0,_,_,_,_,h=>absurd h (Nat.not_lt_zero _)
 | n+1,i,a,ha,hi,h=>by
  unfold loopN
  by_cases he:i=l.length
  ·subst he; rw [hend _ _ ha]; simp
  ·have hlt:i < l.length:=by omega
   have hd:l.drop i=l[i] :: l.drop (i+1):=by rw [List.drop_eq_getElem_cons hlt]
   rw [hd]
   exact hstep _ a i _ _ ha hd (by simp [hlt]) hlt (by rw [wi_id] <;> omega) (fun a ha=>loop_gen S Inv hlen hend hstep (i+1) a ha (by omega) (by omega))
end Go.Proofs
namespace Go.Proofs
open Go Go.Abs
set_option maxRecDepth 100000
set_option linter.unusedVariables false
def ks:List Nat:=[56,48,40,32,24,16,8,0]
end Go.Proofs
namespace Go.Proofs
open Go Go.Abs
set_option maxRecDepth 100000
set_option linter.unusedVariables false
def keyL:List (List UInt8):=((g_ref02_Kinds 0).getD [])++(((g_ref02_Attrs 0).getD [])++(((g_ref02_Articles 0).getD [])++((g_ref02_Words 0).getD [])))
theorem cse (b c:Bool):(bif b then b else c)=(b||c):=by cases b <;> rfl
theorem cst (b c:Bool):(bif b then true else c)=(b||c):=by cases b <;> rfl
def keyA:List (List UInt8):=[[102,101,101,100,101,114],[99,97,98,108,101],[111,119,110,101,114],[99,111,110,116,114,97,99,116],[99,104,97,114,103,101,114],[98,97,121],[116,97,114,105,102,102],[108,105,109,105,116],[110,101,117,116,114,97,108],[102,117,115,101],[116,104,101,114,109,97,108],[102,114,111,109],[97,116],[112,104,97,115,101,115],[97,109,112,115],[102,97,108,108,98,97,99,107],[99,97,114,100],[114,97,110,107],[115,116,97,114,116],[101,110,101,114,103,121],[116,105,109,101],[105,100,108,101],[99,97,112],[116,97,120],[111,110],[119,111,114,107],[115,97,116,117,114,100,97,121],[115,117,110,100,97,121],[98,101,116,119,101,101,110],[112,101,114],[102,114,101,101]]
theorem keyB_any (s:List UInt8):keyB s=keyA.contains s:=by
 unfold keyB g_a_isKey keyA
 simp only [cond_some,obs,Option.getD_some,cse,cst,eqS,List.contains_cons,List.contains_nil,Bool.or_assoc,Bool.or_false]
theorem keyB_mem (s:List UInt8):keyB s=keyL.contains s:=by
 rw [keyB_any,Bool.eq_iff_iff,List.contains_iff_mem,List.contains_iff_mem]
 have h1:∀ x ∈ keyA,x ∈ keyL:=by decide
 have h2:∀ x ∈ keyL,x ∈ keyA:=by decide
 exact ⟨h1 s,h2 s⟩
end Go.Proofs
namespace Go.Proofs
open Go Go.Abs
set_option maxRecDepth 100000
set_option linter.unusedVariables false
theorem cnz (b:Bool) (k r:Int) (hk:k ≠ 0):(!eqI (bif b then k else r) 0)=(b||!eqI r 0):=by
 cases b
 ·rfl
 ·simp [eqI,hk]
theorem b_isKey (n:Nat) (s:List UInt8):g_p_isKey n s=some (keyB s):=by
 unfold g_p_isKey g_p_kindOf g_p_isAttr g_p_isArticle g_p_isWord
 rw [keyB_mem]
 simp only [cond_some,obs,cse,cst,keyL,g_ref02_Kinds,g_ref02_Attrs,g_ref02_Articles,g_ref02_Words,Option.getD_some,List.cons_append,List.nil_append,List.contains_cons,List.contains_nil,Bool.or_false,eqS]
 rw [cnz _ 1 _ (by decide),cnz _ 2 _ (by decide),cnz _ 3 _ (by decide),cnz _ 4 _ (by decide),cnz _ 5 _ (by decide),cnz _ 6 _ (by decide),cnz _ 7 _ (by decide),show (!eqI 0 0)=false from rfl]
 simp only [Bool.or_assoc,Bool.or_false]
theorem of_cs' (k:Int) (s:List UInt8) (m t:Int) (l:List (List PV)):GNode.of (GNode.cs ⟨k,s,m,t,l⟩)=some ⟨k,s,m,t,l⟩:=by
 unfold GNode.cs GNode.of
 simp only [map_idc,byt_mkS,if_true]
end Go.Proofs
namespace Go.Proofs
open Go Go.Abs
set_option maxRecDepth 100000
set_option linter.unusedVariables false
def isG (c:UInt8):Bool:=decide (b2i c=32∨b2i c=9∨b2i c=10)
def isL (c:UInt8):Bool:=decide (97≤b2i c∧b2i c≤122)
def isD (c:UInt8):Bool:=decide (48≤b2i c∧b2i c≤57)
def isN (c:UInt8):Bool:=isL c||isD c||decide (b2i c=95)
def isP (c:UInt8):Bool:=decide (b2i c=59∨b2i c=123∨b2i c=125)
theorem l_gap (n:Nat) (c:UInt8):g_x_isGap n (b2i c)=some (isG c):=by
 unfold g_x_isGap isG
 simp only [eqI_d,cond_some,sie]
 by_cases h1:b2i c=32 <;> by_cases h2:b2i c=9 <;> by_cases h3:b2i c=10 <;> simp [h1,h2,h3]
theorem l_lower (n:Nat) (c:UInt8):g_x_isLower n (b2i c)=some (isL c):=by
 unfold g_x_isLower isL
 simp only [leI,cond_some,sie]
 by_cases h1:97≤b2i c <;> simp [h1]
theorem l_digit (n:Nat) (c:UInt8):g_x_isDigit n (b2i c)=some (isD c):=by
 unfold g_x_isDigit isD
 simp only [leI,cond_some,sie]
 by_cases h1:48≤b2i c <;> simp [h1]
theorem l_punct (n:Nat) (c:UInt8):g_x_isPunct n (b2i c)=some (isP c):=by
 unfold g_x_isPunct isP
 simp only [eqI_d,cond_some,sie]
 by_cases h1:b2i c=59 <;> by_cases h2:b2i c=123 <;> by_cases h3:b2i c=125 <;> simp [h1,h2,h3]
theorem l_name (n:Nat) (c:UInt8):g_x_isNamePart n (b2i c)=some (isN c):=by
 unfold g_x_isNamePart isN
 rw [l_lower,l_digit]
 simp only [obs,eqI_d,cond_some,sie]
 cases isL c <;> cases isD c <;> simp
theorem l_line (n:Nat) (c:UInt8):g_x_Lex_1 n (b2i c)=some (!decide (b2i c=10)):=by
 unfold g_x_Lex_1
 rw [eqI_d]
def kdF (c:UInt8):Int:=if isG c then 1 else if b2i c=35 then 2 else if isL c then 3 else if isD c then 4 else if isP c then 5 else 0
theorem l_kind (n:Nat) (c:UInt8):g_x_kindOf n (b2i c)=some (kdF c):=by
 unfold g_x_kindOf kdF
 rw [l_gap,l_lower,l_digit,l_punct]
 simp only [obs,eqI_d,cond_some,sie]
 cases isG c <;> by_cases h:b2i c=35 <;> cases isL c <;> cases isD c <;> cases isP c <;> simp [h]
theorem span_gen {s:List UInt8} {p:UInt8→Bool} {B:(Int→Option Int)→Int→Option Int} (hs:s.length≤4611686018427387904)
  (hB:∀ rec (i:Nat),B rec (i:Int)=(cond (ltI (i:Int) (lenI s)) ((getI s (i:Int)).bind fun x=>some (p x)) (some false)).bind fun j=>cond j (rec (wi ((i:Int)+1))) (some (i:Int))) {n:Nat} (i:Nat) (hi:i≤s.length) (hn:s.length - i < n) :
  loopN B n (i:Int)=some ((i+((s.drop i).takeWhile p).length:Nat):Int):=by
 have:=loop_list (l:=s) (B:=B) (F:=fun r=>((s.length - r.length+(r.takeWhile p).length:Nat):Int)) hs ?_ ?_ (n:=n) i hi hn
 ·rw [this,List.length_drop]
  congr 3
  omega
 ·intro rec
  rw [hB]
  simp [ltI,lenI]
 ·intro rec i x r hd hx hi hw hr
  have hl:r.length=s.length - (i+1):=by
   have:=congrArg List.length hd
   simp only [List.length_drop,List.length_cons] at this
   omega
  rw [hB,getI_nat,hx,hw,hr]
  simp only [ltI,lenI,obs,List.length_cons]
  rw [dzT (by omega),cond_true,obs,hl]
  cases hp:p x
  ·simp only [cond_false,List.takeWhile_cons,hp,Bool.false_eq_true,if_false,List.length_nil,sie]
   omega
  ·simp only [cond_true,List.takeWhile_cons,hp,if_true,List.length_cons,sie]
   omega
section
variable {n:Nat} {s:List UInt8} {i:Nat}
theorem l_span1 (hs:s.length≤8100) (hi:i≤s.length) (hn:10000≤n):g_x_span n s (i:Int)=some ((i+((s.drop i).takeWhile isG).length:Nat):Int) :=
 span_gen (by omega) (fun rec i=>by unfold g_x_span_l1; simp only [l_gap,obs]) i hi (by omega)
theorem l_span2 (hs:s.length≤8100) (hi:i≤s.length) (hn:10000≤n):g_x_span_2 n s (i:Int)=some ((i+((s.drop i).takeWhile (fun c=>!decide (b2i c=10))).length:Nat):Int) :=
 span_gen (by omega) (fun rec i=>by unfold g_x_span_2_l1; simp only [l_line,obs]) i hi (by omega)
theorem l_span3 (hs:s.length≤8100) (hi:i≤s.length) (hn:10000≤n):g_x_span_3 n s (i:Int)=some ((i+((s.drop i).takeWhile isN).length:Nat):Int) :=
 span_gen (by omega) (fun rec i=>by unfold g_x_span_3_l1; simp only [l_name,obs]) i hi (by omega)
theorem l_span4 (hs:s.length≤8100) (hi:i≤s.length) (hn:10000≤n):g_x_span_4 n s (i:Int)=some ((i+((s.drop i).takeWhile isD).length:Nat):Int) :=
 span_gen (by omega) (fun rec i=>by unfold g_x_span_4_l1; simp only [l_digit,obs]) i hi (by omega)
end
def valL:Int→List UInt8→Option Int
 | a,[]=>some a
 | a,c :: r=>if 1000000 < 10 * a+(b2i c - 48) then none else valL (10 * a+(b2i c - 48)) r
theorem w8_digit {c:UInt8} (h:isD c=true):wi (w8 (b2i c - 48))=b2i c - 48∧0≤b2i c - 48∧b2i c - 48≤9:=by
 have h:=of_decide_eq_true h
 refine ⟨?_,by omega,by omega⟩
 simp only [w8,wi,IntKind.wrap,IntKind.signed,IntKind.bits]
 simp
 omega
def tkOf:List UInt8→Except Int (Int × List UInt8 × Int)
 | []=>.error 7
 | c :: r=>if isL c then (if 12 < (c :: r).length then .error 3 else .ok (1,c :: r,0))
  else if isD c then (if 1 < (c :: r).length∧b2i c=48 then .error 7 else match valL 0 (c :: r) with | some v=>.ok (2,[],v) | none=>.error 3)
  else if isP c then .ok (3,c :: r,0) else .error 7
def tkT:List UInt8→List UInt8
 | []=>[]
 | c :: r=>if isL c then (c :: r).takeWhile isN else if isD c then (c :: r).takeWhile isD else if isP c then [c] else []
theorem l_value (n:Nat) (t:List UInt8) (hn:10000≤n) (ht:t.length≤8100) (hd:t.all isD=true) (h0:t ≠ []) :
  g_x_value n t=some (if 1 < t.length∧(∀ c ∈ t.head?,b2i c=48) then ((0:Int),(7:Int)) else match valL 0 t with | some v=>(v,0) | none=>(0,3)):=by
 unfold g_x_value
 obtain ⟨c,r,rfl⟩:=List.exists_cons_of_ne_nil h0
 have hg:getI (c :: r) 0=some c:=rfl
 simp only [ltI,lenI,hg,obs,cond_some,eqI_d,List.head?_cons,Option.mem_def,sie,forall_eq']
 by_cases c1:1 < (c :: r).length∧b2i c=48
 ·rw [if_pos c1,dzT (by omega),dzT c1.2]; rfl
 rw [if_neg c1]
 have hb:(bif decide (1 < ((c :: r).length:Int)) then decide (b2i c=48) else false)=false:=by
  by_cases a:1 < (c :: r).length
  ·have b:¬ b2i c=48:=fun h=>c1 ⟨a,h⟩
   rw [dzF b]; simp
  ·rw [dzF (by omega)]; rfl
 rw [hb,cond_false]
 have key:∀ (a:Int) (i:Nat),0≤a→a≤1000000→i≤(c :: r).length→∀ m,(c :: r).length - i < m→loopN (fun recl4 (v:Int × Int)=>g_x_value_l4 (c :: r) recl4 v.1 v.2) m (a,(i:Int))=some (match valL a ((c :: r).drop i) with | some v=>(v,(0:Int)) | none=>((0:Int),(3:Int))):=by
  intro a i
  generalize hk:(c :: r).length - i=k
  induction k generalizing a i with
  | zero =>
   intro h1 h2 h3 m hm
   obtain ⟨m,rfl⟩:∃ m',m=m'+1:=⟨m - 1,by omega⟩
   unfold loopN
   simp only [g_x_value_l4,ltI,lenI]
   rw [dzF (by omega),cond_false,List.drop_eq_nil_of_le (by omega)]
   rfl
  | succ k ih =>
   intro h1 h2 h3 m hm
   obtain ⟨m,rfl⟩:∃ m',m=m'+1:=⟨m - 1,by omega⟩
   have hlt:i < (c :: r).length:=by omega
   have hdr:=List.drop_eq_getElem_cons hlt
   have hx:(c :: r)[i]?=some (c :: r)[i]:=List.getElem?_eq_getElem hlt
   have hxd:isD (c :: r)[i]=true:=List.all_eq_true.1 hd _ (List.getElem_mem hlt)
   generalize (c :: r)[i]=x at hdr hx hxd
   obtain ⟨w1,w2,w3⟩:=w8_digit hxd
   have e1:wi (10 * a)=10 * a:=wi_id (by omega) (by omega)
   have e2:wi (10 * a+(b2i x - 48))=10 * a+(b2i x - 48):=wi_id (by omega) (by omega)
   have ih':=fun (h:10 * a+(b2i x - 48)≤1000000)=>ih (10 * a+(b2i x - 48)) (i+1) (by omega) (by omega) h (by omega) m (by omega)
   unfold loopN
   generalize loopN (fun recl4 (v:Int × Int)=>g_x_value_l4 (c :: r) recl4 v.1 v.2) m=L at ih' ⊢
   show g_x_value_l4 (c :: r) L a (i:Int)=_
   unfold g_x_value_l4
   simp only [ltI,lenI]
   rw [dzT (by omega),cond_true,getI_nat,hx,obs,w1,e1,e2,hdr,wi_id (x:=(i:Int)+1) (by omega) (by omega)]
   unfold valL
   by_cases c2:1000000 < 10 * a+(b2i x - 48)
   ·rw [dzT c2,cond_true,if_pos c2]
   ·rw [dzF c2,cond_false,if_neg c2]
    exact ih' (by omega)
 exact key 0 0 (by omega) (by omega) (by omega) n (by omega)
theorem take_drop_while (s:List UInt8) (i:Nat) (p:UInt8→Bool) (hi:i≤s.length):List.drop i (List.take (i+((s.drop i).takeWhile p).length) s)=(s.drop i).takeWhile p:=by
 have h1:List.drop i (List.take (i+((s.drop i).takeWhile p).length) s)=(s.drop i).take ((s.drop i).takeWhile p).length:=by
  rw [List.drop_take]
  congr 1
  omega
 rw [h1]
 generalize s.drop i=l
 induction l with
 | nil=>rfl
 | cons c l ih =>
  by_cases h:p c=true
  ·simp [h,ih]
  ·simp [h]
theorem while_len (l:List UInt8) (p:UInt8→Bool):(l.takeWhile p).length≤l.length:=(List.takeWhile_prefix p).length_le
theorem all_while (l:List UInt8) (p:UInt8→Bool):(l.takeWhile p).all p=true:=by
 induction l with
 | nil=>rfl
 | cons c l ih =>
  by_cases h:p c=true
  ·simp [h,ih]
  ·simp [h]
theorem l_token (n:Nat) (s:List UInt8) (i:Nat) (c:UInt8) (r:List UInt8) (hs:s.length≤8100) (hn:10000≤n) (hd:s.drop i=c :: r) (hg:isG c=false) (hc:¬ b2i c=35) :
  ∃ x:GTk × Int × Int,g_x_token n s (i:Int) (kdF c)=some x∧match tkOf (tkT (c :: r)) with | .ok (k,t,v)=>x=(⟨k,t,v,i⟩,((i+(tkT (c :: r)).length:Nat):Int),0) | .error e=>x.2.2=e∧e ≠ 0:=by
 have hi:i < s.length:=by
  have:=congrArg List.length hd
  simp only [List.length_drop,List.length_cons] at this
  omega
 have h3:=l_span3 (n:=n) (s:=s) (i:=i) hs (by omega) hn
 have h4:=l_span4 (n:=n) (s:=s) (i:=i) hs (by omega) hn
 have t3:=take_drop_while s i isN (by omega)
 have t4:=take_drop_while s i isD (by omega)
 have hr:(c :: r).length=s.length - i:=by rw [← hd]; simp
 have len3:=while_len (c :: r) isN
 have len4:=while_len (c :: r) isD
 rw [hd] at h3 h4 t3 t4
 unfold g_x_token kdF
 rw [hg]
 simp only [eqI_d,Bool.false_eq_true,if_false,if_neg hc,h3,h4,obs,Int.toNat_natCast,t3,t4]
 cases c1:isL c
 ·cases c2:isD c
  ·cases c3:isP c
   ·refine ⟨_,rfl,?_⟩
    simp [tkT,c1,c2,c3,tkOf]
   ·simp only [Bool.false_eq_true,if_false,if_true]
    rw [wi_id (x:=(i:Int)+1) (by omega) (by omega)]
    have hsl:sliceB (i:Int) ((i:Int)+1) s.length=true:=by simp only [sliceB]; rw [dzT]; omega
    rw [hsl]
    refine ⟨_,rfl,?_⟩
    have ht:List.drop i (List.take (i+1) s)=[c]:=by
     rw [List.drop_take,hd,show i+1 - i=1 from by omega]
     rfl
    simp [tkT,c1,c2,c3,tkOf,ht]
  ·have hall:=all_while (c :: r) isD
   have hne:(c :: r).takeWhile isD ≠ []:=by simp [c2]
   have hhead:((c :: r).takeWhile isD).head?=some c:=by simp [c2]
   have hsl:sliceB (i:Int) ((i+((c :: r).takeWhile isD).length:Nat):Int) s.length=true:=by simp only [sliceB]; rw [dzT]; omega
   rw [l_value n _ hn (by omega) hall hne,hsl]
   simp only [Bool.false_eq_true,if_false,if_true,hhead,Option.mem_def,sie,forall_eq']
   have htk:tkT (c :: r)=(c :: r).takeWhile isD:=by simp [tkT,c1,c2]
   have hof:tkOf ((c :: r).takeWhile isD)=if 1 < ((c :: r).takeWhile isD).length∧b2i c=48 then .error 7 else match valL 0 ((c :: r).takeWhile isD) with | some v=>.ok (2,[],v) | none=>.error 3:=by
    have:(c :: r).takeWhile isD=c :: r.takeWhile isD:=by simp [c2]
    rw [this]
    simp [tkOf,c1,c2]
   rw [htk,hof]
   by_cases c4:1 < ((c :: r).takeWhile isD).length∧b2i c=48
   ·rw [if_pos c4,if_pos c4]
    exact ⟨_,rfl,rfl,by decide⟩
   ·rw [if_neg c4,if_neg c4]
    cases hv:valL 0 ((c :: r).takeWhile isD) with
    | none=>exact ⟨_,rfl,rfl,by decide⟩
    | some v=>exact ⟨_,rfl,rfl⟩
 ·have htk:tkT (c :: r)=(c :: r).takeWhile isN:=by simp [tkT,c1]
  have hof:tkOf ((c :: r).takeWhile isN)=if 12 < ((c :: r).takeWhile isN).length then .error 3 else .ok (1,(c :: r).takeWhile isN,0):=by
   have:(c :: r).takeWhile isN=c :: r.takeWhile isN:=by simp [isN,c1]
   rw [this]
   simp [tkOf,c1]
  have hsl:sliceB (i:Int) ((i+((c :: r).takeWhile isN).length:Nat):Int) s.length=true:=by simp only [sliceB]; rw [dzT]; omega
  rw [htk,hof,hsl,wi_id (x:=((i+((c :: r).takeWhile isN).length:Nat):Int) - i) (by omega) (by omega)]
  simp only [if_true,ltI]
  by_cases c4:12 < ((c :: r).takeWhile isN).length
  ·rw [if_pos c4,dzT (show (12:Int) < ((i+((c :: r).takeWhile isN).length:Nat):Int) - i by omega)]
   exact ⟨_,rfl,rfl,by decide⟩
  ·rw [if_neg c4,dzF (show ¬ (12:Int) < ((i+((c :: r).takeWhile isN).length:Nat):Int) - i by omega)]
   exact ⟨_,rfl,rfl⟩
end Go.Proofs
namespace Go.Proofs
open Go Go.Abs
set_option maxRecDepth 100000
set_option linter.unusedVariables false
def gapN:Bool→List UInt8→Nat
 | _,[]=>0
 | true,c :: r=>if b2i c=10 then 1+gapN false r else 1+gapN true r
 | false,c :: r=>if b2i c=35 then 1+gapN true r else if isG c then 1+gapN false r else 0
def lexF:Nat→Nat→List UInt8→Nat→Except (Int × Nat) (List GTk)
 | 0,p,_,_=>.error (0,p)
 | f+1,p,s,k=>match s.drop (gapN false s) with
  | []=>.ok []
  | c :: r=>if k=2000 then .error (2,p+gapN false s) else match tkOf (tkT (c :: r)) with
   | .error e=>.error (e,p+gapN false s)
   | .ok (kk,x,v)=>match lexF f (p+gapN false s+(tkT (c :: r)).length) ((c :: r).drop (tkT (c :: r)).length) (k+1) with
    | .ok l=>.ok (⟨kk,x,v,(p+gapN false s:Nat)⟩ :: l)
    | .error e=>.error e
def resL (acc:List GTk):Except (Int × Nat) (List GTk)→List GTk × Int × Int
 | .ok l=>(acc++l,0,0)
 | .error (e,p)=>([],e,p)
theorem gap_le:∀ (l:List UInt8) (b:Bool),gapN b l≤l.length
 | [],b=>by cases b <;> simp [gapN]
 | c :: r,true=>by
  have h1:=gap_le r false
  have h2:=gap_le r true
  unfold gapN
  simp only [List.length_cons]
  split <;> omega
 | c :: r,false=>by
  have h1:=gap_le r false
  have h2:=gap_le r true
  unfold gapN
  simp only [List.length_cons]
  split
  ·omega
  ·split <;> omega
theorem tkT_le (s:List UInt8):(tkT s).length≤s.length:=by
 cases s with
 | nil=>simp [tkT]
 | cons c r =>
  show (if isL c=true then (c :: r).takeWhile isN else if isD c=true then (c :: r).takeWhile isD else if isP c=true then [c] else []).length≤_
  split
  ·exact while_len _ _
  ·split
   ·exact while_len _ _
   ·split
    ·simp
    ·simp
theorem tkT_pos {s:List UInt8} {k v:Int} {x:List UInt8} (h:tkOf (tkT s)=.ok (k,x,v)):0 < (tkT s).length:=by
 cases ht:tkT s with
 | nil=>rw [ht] at h; cases h
 | cons c r=>simp
theorem lex_gap (f p k:Nat) (g r:List UInt8) (h:gapN false (g++r)=g.length+gapN false r):lexF (f+1) p (g++r) k=lexF (f+1) (p+g.length) r k:=by
 have hd:(g++r).drop (gapN false (g++r))=r.drop (gapN false r):=by
  rw [h,← List.drop_drop,List.drop_left]
 unfold lexF
 rw [hd,h,show p+(g.length+gapN false r)=p+g.length+gapN false r from by omega]
theorem gap_plain (g r:List UInt8) (h:g.all isG=true):gapN false (g++r)=g.length+gapN false r:=by
 induction g with
 | nil=>simp
 | cons c g ih =>
  simp only [List.all_cons,bae] at h
  have hc:=of_decide_eq_true (show decide (b2i c=32∨b2i c=9∨b2i c=10)=true from h.1)
  simp only [List.cons_append,gapN,List.length_cons]
  rw [if_neg (by omega),if_pos h.1,ih h.2]
  omega
theorem gap_line (g r:List UInt8) (h:g.all (fun c=>!decide (b2i c=10))=true) (hr:∀ c ∈ r.head?,b2i c=10):gapN true (g++r)=g.length+gapN false r:=by
 induction g with
 | nil =>
  cases r with
  | nil=>simp [gapN]
  | cons c r =>
   have hc:b2i c=10:=hr c rfl
   simp only [List.nil_append,gapN,List.length_nil,Nat.zero_add]
   rw [if_pos hc,if_neg (by omega),if_pos (by simp [isG,hc])]
 | cons c g ih =>
  simp only [List.all_cons,bae,Bool.not_eq_true',decide_eq_false_iff_not] at h
  simp only [List.cons_append,gapN,List.length_cons]
  rw [if_neg h.1,ih (by simpa using h.2)]
  omega
theorem while_split (l:List UInt8) (p:UInt8→Bool):l=l.takeWhile p++l.dropWhile p:=(List.takeWhile_append_dropWhile).symm
theorem drop_while_head (l:List UInt8) (p:UInt8→Bool):∀ c ∈ (l.dropWhile p).head?,p c=false:=by
 induction l with
 | nil=>intro c h; cases h
 | cons a l ih =>
  intro c h
  by_cases ha:p a=true
  ·rw [List.dropWhile_cons,if_pos ha] at h
   exact ih c h
  ·rw [List.dropWhile_cons,if_neg ha] at h
   simp at h
   subst h
   simpa using ha
theorem drop_while_drop (s:List UInt8) (i:Nat) (p:UInt8→Bool):s.drop (i+((s.drop i).takeWhile p).length)=(s.drop i).dropWhile p:=by
 rw [← List.drop_drop]
 generalize s.drop i=l
 induction l with
 | nil=>rfl
 | cons c l ih =>
  by_cases h:p c=true
  ·simp [h,ih]
  ·simp [h]
theorem lex_fuel:∀ (f f' p k:Nat) (s:List UInt8),s.length < f→s.length < f'→lexF f p s k=lexF f' p s k
 | 0,_,_,_,_,h,_=>absurd h (Nat.not_lt_zero _)
 | _,0,_,_,_,_,h=>absurd h (Nat.not_lt_zero _)
 | f+1,f'+1,p,k,s,h,h'=>by
  unfold lexF
  cases hd:s.drop (gapN false s) with
  | nil=>rfl
  | cons c r =>
   simp only
   cases ht:tkOf (tkT (c :: r)) with
   | error e=>rfl
   | ok x =>
    obtain ⟨kk,x,v⟩:=x
    have hp:=tkT_pos ht
    have hl:(c :: r).length≤s.length:=by rw [← hd]; simp
    have hl2:((c :: r).drop (tkT (c :: r)).length).length < s.length:=by
     rw [List.length_drop]
     have:=tkT_le (c :: r)
     omega
    simp only
    rw [lex_fuel f f' _ _ _ (by omega) (by omega)]
theorem l_loop (n:Nat) (s:List UInt8) (hs:s.length≤8100) (hn:10000≤n):∀ (m j i:Nat) (acc:List GTk),s.length - i≤m→m < j→i≤s.length→acc.length≤2000 →
  loopN (fun recl1 (v:List GTk × Int)=>g_x_Lex_l1 n s recl1 v.1 v.2) j (acc,(i:Int))=some (resL acc (lexF (s.length+1) i (s.drop i) acc.length)):=by
 intro m
 induction m with
 | zero =>
  intro j i acc h1 h2 h3 h4
  obtain ⟨j,rfl⟩:∃ j',j=j'+1:=⟨j - 1,by omega⟩
  unfold loopN
  show g_x_Lex_l1 n s _ acc (i:Int)=_
  unfold g_x_Lex_l1
  simp only [ltI,lenI]
  rw [dzF (by omega),cond_false,List.drop_eq_nil_of_le (by omega)]
  simp [lexF,gapN,resL]
 | succ m ih =>
  intro j i acc h1 h2 h3 h4
  obtain ⟨j,rfl⟩:∃ j',j=j'+1:=⟨j - 1,by omega⟩
  have ih':=fun i acc a b c=>ih j i acc a (by omega) b c
  unfold loopN
  generalize loopN (fun recl1 (v:List GTk × Int)=>g_x_Lex_l1 n s recl1 v.1 v.2) j=L at ih' ⊢
  show g_x_Lex_l1 n s L acc (i:Int)=_
  unfold g_x_Lex_l1
  simp only [ltI,lenI]
  by_cases hi:i=s.length
  ·rw [dzF (by omega),cond_false,List.drop_eq_nil_of_le (by omega)]
   simp [lexF,gapN,resL]
  rw [dzT (by omega),cond_true]
  have hdr:=List.drop_eq_getElem_cons (show i < s.length by omega)
  have hx:s[i]?=some s[i]:=List.getElem?_eq_getElem (by omega)
  generalize hc:s[i]=c at hdr hx
  generalize hr:s.drop (i+1)=r at hdr
  rw [getI_nat,hx,obs,l_kind,obs,eqI_d,eqI_d]
  by_cases k1:isG c=true
  ·have hk:kdF c=1:=by unfold kdF; rw [if_pos k1]
   rw [hk,dzT rfl,cond_true,l_span1 hs h3 hn,obs]
   have hpos:0 < ((s.drop i).takeWhile isG).length:=by rw [hdr]; simp [k1]
   have hle:=while_len (s.drop i) isG
   rw [List.length_drop] at hle
   rw [ih' _ acc (by omega) (by omega) h4,drop_while_drop]
   congr 2
   have hsp:=while_split (s.drop i) isG
   rw [hsp]
   rw [← hsp]
   have:=lex_gap s.length i acc.length ((s.drop i).takeWhile isG) ((s.drop i).dropWhile isG) (gap_plain _ _ (all_while _ _))
   rw [← hsp] at this
   exact this.symm
  have hk1:kdF c ≠ 1:=by
   unfold kdF
   rw [if_neg k1]
   split
   ·decide
   ·split
    ·decide
    ·split
     ·decide
     ·split <;> decide
  rw [dzF hk1,cond_false]
  by_cases k2:b2i c=35
  ·have hk:kdF c=2:=by unfold kdF; rw [if_neg k1,if_pos k2]
   rw [hk,dzT rfl,cond_true,l_span2 hs h3 hn,obs]
   have hc10:(!decide (b2i c=10))=true:=by rw [k2]; rfl
   have hpos:0 < ((s.drop i).takeWhile (fun c=>!decide (b2i c=10))).length:=by rw [hdr,List.takeWhile_cons,if_pos hc10]; simp
   have hle:=while_len (s.drop i) (fun c=>!decide (b2i c=10))
   rw [List.length_drop] at hle
   rw [ih' _ acc (by omega) (by omega) h4,drop_while_drop]
   congr 2
   have hsp:=while_split (s.drop i) (fun c=>!decide (b2i c=10))
   have hg:gapN false ((s.drop i).takeWhile (fun c=>!decide (b2i c=10))++(s.drop i).dropWhile (fun c=>!decide (b2i c=10)))=((s.drop i).takeWhile (fun c=>!decide (b2i c=10))).length+gapN false ((s.drop i).dropWhile (fun c=>!decide (b2i c=10))):=by
    have hhd:=drop_while_head (s.drop i) (fun c=>!decide (b2i c=10))
    have hal:=all_while (s.drop i) (fun c=>!decide (b2i c=10))
    generalize (s.drop i).dropWhile (fun c=>!decide (b2i c=10))=q at hhd ⊢
    rw [hdr,List.takeWhile_cons,if_pos hc10] at hal ⊢
    simp only [List.all_cons,bae] at hal
    have:=gap_line _ q hal.2 (fun c hc=>by simpa using hhd c hc)
    simp only [List.cons_append,gapN,List.length_cons]
    rw [if_pos k2,this]
    omega
   have:=lex_gap s.length i acc.length _ _ hg
   rw [← hsp] at this
   exact this.symm
  have hk2:kdF c ≠ 2:=by
   unfold kdF
   rw [if_neg k1,if_neg k2]
   split
   ·decide
   ·split
    ·decide
    ·split <;> decide
  rw [dzF hk2,cond_false,eqI_d,List.length_map]
  have hg0:gapN false (c :: r)=0:=by unfold gapN; rw [if_neg k2,if_neg k1]
  have hlx:∀ f,lexF (f+1) i (c :: r) acc.length=if acc.length=2000 then .error (2,i) else match tkOf (tkT (c :: r)) with
   | .error e=>.error (e,i)
   | .ok (kk,x,v)=>match lexF f (i+(tkT (c :: r)).length) ((c :: r).drop (tkT (c :: r)).length) (acc.length+1) with
    | .ok l=>.ok (⟨kk,x,v,(i:Nat)⟩ :: l)
    | .error e=>.error e:=by
   intro f
   conv=>lhs; unfold lexF
   rw [hg0]
   rfl
  rw [hdr,hlx]
  by_cases k3:acc.length=2000
  ·rw [dzT (by omega),cond_true,if_pos k3]
   rfl
  rw [dzF (by omega),cond_false,if_neg k3]
  obtain ⟨x,e1,e2⟩:=l_token n s i c r hs hn hdr (by simpa using k1) k2
  rw [e1,obs,eqI_d]
  cases ht:tkOf (tkT (c :: r)) with
  | error e =>
   rw [ht] at e2
   simp only at e2
   rw [dzF (show ¬ x.2.2=0 from by rw [e2.1]; exact e2.2),Bool.not_false,cond_true,e2.1]
   rfl
  | ok y =>
   obtain ⟨kk,t,v⟩:=y
   rw [ht] at e2
   simp only at e2
   subst e2
   have hp:=tkT_pos ht
   have hle:=tkT_le (c :: r)
   have hlen:(c :: r).length=s.length - i:=by rw [← hdr]; simp
   rw [dzT rfl,Bool.not_true,cond_false]
   have hroom:roomB (List.length (acc++[(⟨kk,t,v,i⟩:GTk)])) 40=true:=by simp [roomB]; omega
   simp only [hroom,cond_true]
   rw [ih' _ _ (by omega) (by omega) (by simp; omega)]
   have hd2:s.drop (i+(tkT (c :: r)).length)=(c :: r).drop (tkT (c :: r)).length:=by rw [← List.drop_drop,hdr]
   rw [hd2,lex_fuel (s.length+1) s.length _ _ _ (by rw [List.length_drop]; omega) (by rw [List.length_drop]; omega)]
   simp only [List.length_append,List.length_cons,List.length_nil]
   cases lexF s.length (i+(tkT (c :: r)).length) ((c :: r).drop (tkT (c :: r)).length) (acc.length+(0+1)) with
   | error e=>rfl
   | ok l=>simp [resL]
def lexS (s:List UInt8):Except (Int × Nat) (List GTk):=if 8000 < s.length then .error (2,0) else lexF (s.length+1) 0 s 0
theorem l_Lex (n:Nat) (s:List UInt8) (hn:10000≤n):g_x_Lex n s=some (resL [] (lexS s)):=by
 unfold g_x_Lex lexS
 simp only [ltI,lenI]
 by_cases h:8000 < s.length
 ·rw [dzT (by omega),cond_true,if_pos h]; rfl
 ·rw [dzF (by omega),cond_false,if_neg h]
  exact l_loop n s (by omega) hn s.length n 0 [] (by omega) (by omega) (by omega) (by simp)
end Go.Proofs
namespace Go.Proofs
open Go Go.Abs
set_option maxRecDepth 100000
set_option linter.unusedVariables false
theorem rl_letter (n:Nat) (c:UInt8):g_ref01_Letter n (b2i c)=some (isL c):=by
 unfold g_ref01_Letter isL
 simp only [leI,cond_some,sie]
 by_cases h1:97≤b2i c <;> simp [h1]
theorem rl_digit (n:Nat) (c:UInt8):g_ref01_Digit n (b2i c)=some (isD c):=by
 unfold g_ref01_Digit isD
 simp only [leI,cond_some,sie]
 by_cases h1:48≤b2i c <;> simp [h1]
theorem rl_gap (n:Nat) (s:List UInt8) (hs:s.length≤8100):∀ (m j i:Nat) (b:Bool),s.length - i≤m→m < j→i≤s.length →
  loopN (fun recl1 (v:Int × Bool)=>g_ref01_Gap_l1 s recl1 v.1 v.2) j ((i:Int),b)=some ((i+gapN b (s.drop i):Nat):Int):=by
 intro m
 induction m with
 | zero =>
  intro j i b h1 h2 h3
  obtain ⟨j,rfl⟩:∃ j',j=j'+1:=⟨j - 1,by omega⟩
  unfold loopN
  show g_ref01_Gap_l1 s _ (i:Int) b=_
  unfold g_ref01_Gap_l1
  simp only [ltI,lenI]
  rw [dzF (by omega),cond_false,List.drop_eq_nil_of_le (by omega)]
  cases b <;> simp [gapN]
 | succ m ih =>
  intro j i b h1 h2 h3
  obtain ⟨j,rfl⟩:∃ j',j=j'+1:=⟨j - 1,by omega⟩
  by_cases hi:i=s.length
  ·exact ih (j+1) i b (by omega) (by omega) h3
  have ih':=fun b=>ih j (i+1) b (by omega) (by omega) (by omega)
  unfold loopN
  generalize loopN (fun recl1 (v:Int × Bool)=>g_ref01_Gap_l1 s recl1 v.1 v.2) j=L at ih' ⊢
  show g_ref01_Gap_l1 s L (i:Int) b=_
  unfold g_ref01_Gap_l1
  simp only [ltI,lenI,cond_some,obs]
  have hdr:=List.drop_eq_getElem_cons (show i < s.length by omega)
  have hx:s[i]?=some s[i]:=List.getElem?_eq_getElem (by omega)
  generalize hc:s[i]=c at hdr hx
  generalize hr:s.drop (i+1)=r at hdr ih'
  rw [dzT (by omega),cond_true,getI_nat,hx,obs,hdr,wi_id (x:=(i:Int)+1) (by omega) (by omega)]
  simp only [eqI_d]
  have ht:=ih' true
  have hf:=ih' false
  rw [show ((i+1:Nat):Int)=(i:Int)+1 from by omega] at ht hf
  cases b
  ·by_cases k1:b2i c=35
   ·simp only [gapN,if_pos k1]
    rw [dzT k1,dzF (show ¬ b2i c=10 by omega)]
    simp only [cond_true,cond_false,Bool.not_true]
    rw [ht]
    congr 1
    omega
   ·by_cases k2:b2i c=10
    ·have hg:isG c=true:=by simp [isG,k2]
     simp only [gapN,if_neg k1,if_pos hg]
     rw [dzF k1,dzT k2]
     simp only [cond_true,cond_false,Bool.not_true,Bool.not_false]
     have:(bif !decide (b2i c=32) then bif !decide (b2i c=9) then false else false else false)=false:=by
      cases decide (b2i c=32) <;> cases decide (b2i c=9) <;> rfl
     rw [this,cond_false,hf]
     congr 1
     omega
    ·rw [dzF k1,dzF k2]
     simp only [cond_true,cond_false,Bool.not_false]
     by_cases k3:isG c=true
     ·have hk:=of_decide_eq_true (show decide (b2i c=32∨b2i c=9∨b2i c=10)=true from k3)
      simp only [gapN,if_neg k1,if_pos k3]
      have:(bif !decide (b2i c=32) then bif !decide (b2i c=9) then true else false else false)=false:=by
       rcases hk with h | h | h
       ·simp [h]
       ·simp [h]
       ·exact absurd h k2
      rw [this,cond_false,hf]
      congr 1
      omega
     ·have hk:¬ (b2i c=32∨b2i c=9∨b2i c=10):=fun h=>k3 (dzT h)
      simp only [gapN,if_neg k1,if_neg k3]
      have:(bif !decide (b2i c=32) then bif !decide (b2i c=9) then true else false else false)=true:=by
       rw [dzF (fun h=>hk (Or.inl h)),dzF (fun h=>hk (Or.inr (Or.inl h)))]; rfl
      rw [this,cond_true]
      simp
  ·by_cases k2:b2i c=10
   ·simp only [gapN,if_pos k2]
    rw [dzT k2]
    have hb:(bif decide (b2i c=35) then true else true)=true:=by cases decide (b2i c=35) <;> rfl
    rw [hb]
    simp only [cond_true,Bool.not_true,Bool.not_false]
    have:(bif !decide (b2i c=32) then bif !decide (b2i c=9) then false else false else false)=false:=by
     cases decide (b2i c=32) <;> cases decide (b2i c=9) <;> rfl
    rw [this,cond_false,hf]
    congr 1
    omega
   ·simp only [gapN,if_neg k2]
    rw [dzF k2]
    have hb:(bif decide (b2i c=35) then true else true)=true:=by cases decide (b2i c=35) <;> rfl
    rw [hb]
    simp only [cond_false,Bool.not_true]
    rw [ht]
    congr 1
    omega
theorem rl_Gap (n:Nat) (s:List UInt8) (i:Nat) (hs:s.length≤8100) (hn:10000≤n) (hi:i≤s.length):g_ref01_Gap n s (i:Int)=some ((i+gapN false (s.drop i):Nat):Int) :=
 rl_gap n s hs s.length n i false (by omega) (by omega) hi
theorem rl_End (n:Nat) (s:List UInt8) (i:Nat) (c:UInt8) (r:List UInt8) (hs:s.length≤8100) (hn:10000≤n) (hd:s.drop i=c :: r):g_ref01_End n s (i:Int)=some ((i+(tkT (c :: r)).length:Nat):Int):=by
 have hi:i < s.length:=by
  have:=congrArg List.length hd
  simp only [List.length_drop,List.length_cons] at this
  omega
 have hx:s[i]?=some c:=by
  have:=congrArg List.head? hd
  rw [List.head?_drop] at this
  exact this
 unfold g_ref01_End
 simp only [leI,lenI]
 rw [dzF (by omega),cond_false,getI_nat,hx,obs,rl_letter,rl_digit,wi_id (x:=(i:Int)+1) (by omega) (by omega)]
 have hp:(cond (eqI (b2i c) 59) (some true) (cond (eqI (b2i c) 123) (some true) (some (eqI (b2i c) 125))))=some (isP c):=by
  unfold isP
  simp only [eqI_d,cond_some,sie]
  by_cases h1:b2i c=59 <;> by_cases h2:b2i c=123 <;> by_cases h3:b2i c=125 <;> simp [h1,h2,h3]
 rw [hp,obs,obs,obs]
 have hPL:isP c=true→isL c=false∧isD c=false:=by
  intro h
  have h:=of_decide_eq_true (show decide (b2i c=59∨b2i c=123∨b2i c=125)=true from h)
  refine ⟨dzF ?_,dzF ?_⟩ <;> omega
 cases hP:isP c
 ·rw [cond_false]
  cases hL:isL c
  ·rw [cond_false]
   cases hD:isD c
   ·rw [cond_false]
    simp [tkT,hL,hD,hP]
   ·rw [cond_true]
    have:=span_gen (s:=s) (p:=isD) (B:=fun recl17 l17=>g_ref01_End_l17 n s recl17 l17) (by omega) (fun rec i=>by unfold g_ref01_End_l17; simp only [rl_digit,obs]) (n:=n) i (by omega) (by omega)
    rw [this,hd]
    simp [tkT,hL,hD]
  ·rw [cond_true]
   have:=span_gen (s:=s) (p:=isN) (B:=fun recl6 l6=>g_ref01_End_l6 n s recl6 l6) (by omega) (fun rec i=>by
    unfold g_ref01_End_l6
    cases hq:getI s (i:Int) with
    | none=>rfl
    | some x =>
     simp only [rl_letter,rl_digit,obs,eqI_d,cond_some]
     unfold isN
     cases isL x <;> cases isD x <;> simp) (n:=n) i (by omega) (by omega)
   rw [this,hd]
   simp [tkT,hL]
 ·rw [cond_true]
  obtain ⟨h1,h2⟩:=hPL hP
  simp [tkT,h1,h2,hP]
theorem rl_Token (n:Nat) (c:UInt8) (r:List UInt8) (hs:(c :: r).length≤8100) (hn:10000≤n) (h0:tkT (c :: r) ≠ []) :
  ∃ x:GTk × Int,g_ref01_Token n (tkT (c :: r))=some x∧match tkOf (tkT (c :: r)) with | .ok (k,t,v)=>x=(⟨k,t,v,0⟩,0) | .error e=>x.2=e∧e ≠ 0:=by
 have hle:=tkT_le (c :: r)
 have htk:tkT (c :: r)=if isL c=true then (c :: r).takeWhile isN else if isD c=true then (c :: r).takeWhile isD else if isP c=true then [c] else []:=rfl
 obtain ⟨q,hq⟩:∃ q,tkT (c :: r)=c :: q:=by
  rw [htk] at h0 ⊢
  cases hL:isL c
  ·rw [hL] at h0
   cases hD:isD c
   ·rw [hD] at h0
    cases hP:isP c
    ·rw [hP] at h0; simp at h0
    ·exact ⟨[],rfl⟩
   ·exact ⟨r.takeWhile isD,by simp [hD]⟩
  ·exact ⟨r.takeWhile isN,by simp [isN,hL]⟩
 have hdig:isL c=false→isD c=true→(c :: q).all isD=true:=by
  intro h1 h2
  rw [← hq,htk,h1,h2]
  exact all_while _ _
 have hpun:isL c=false→isD c=false→isP c=true:=by
  intro h1 h2
  cases hP:isP c
  ·rw [htk,h1,h2,hP] at h0; simp at h0
  ·rfl
 rw [hq]
 rw [hq] at hle
 unfold g_ref01_Token
 have hg:getI (c :: q) 0=some c:=rfl
 rw [hg,obs,rl_letter,rl_digit,obs,obs]
 simp only [ltI,lenI]
 cases hL:isL c
 ·rw [cond_false]
  cases hD:isD c
  ·simp only [Bool.not_false,cond_true]
   have hP:=hpun hL hD
   exact ⟨_,rfl,by simp [tkOf,hL,hD,hP]⟩
  ·simp only [Bool.not_true,cond_false]
   have hall:=hdig hL hD
   have hof:tkOf (c :: q)=if 1 < (c :: q).length∧b2i c=48 then .error 7 else match valL 0 (c :: q) with | some v=>.ok (2,[],v) | none=>.error 3:=by
    simp [tkOf,hL,hD]
    all_goals rfl
   rw [hof]
   simp only [eqI_d,cond_some,obs]
   by_cases c1:1 < (c :: q).length∧b2i c=48
   ·rw [if_pos c1,dzT (show (1:Int) < ((c :: q).length:Int) by omega),dzT c1.2]
    exact ⟨_,rfl,rfl,by decide⟩
   rw [if_neg c1]
   have hb:(bif decide (1 < ((c :: q).length:Int)) then decide (b2i c=48) else false)=false:=by
    by_cases a:1 < (c :: q).length
    ·have b:¬ b2i c=48:=fun h=>c1 ⟨a,h⟩
     rw [dzF b]; simp
    ·rw [dzF (by omega)]; rfl
   rw [hb,cond_false]
   have key:∀ (k:Nat) (a:Int) (i:Nat),(c :: q).length - i=k→0≤a→a≤1000000→i≤(c :: q).length→∀ m,(c :: q).length - i < m→loopN (fun recl6 (v:Int × Int)=>g_ref01_Token_l6 (c :: q) recl6 v.1 v.2) m (a,(i:Int))=some (match valL a ((c :: q).drop i) with | some v=>((⟨2,[],v,0⟩:GTk),(0:Int)) | none=>((⟨0,[],0,0⟩:GTk),(3:Int))):=by
    intro k
    induction k with
    | zero =>
     intro a i hk h1 h2 h3 m hm
     obtain ⟨m,rfl⟩:∃ m',m=m'+1:=⟨m - 1,by omega⟩
     unfold loopN
     simp only [g_ref01_Token_l6,ltI,lenI]
     rw [dzF (by omega),cond_false,List.drop_eq_nil_of_le (by omega)]
     rfl
    | succ k ih =>
     intro a i hk h1 h2 h3 m hm
     obtain ⟨m,rfl⟩:∃ m',m=m'+1:=⟨m - 1,by omega⟩
     have hlt:i < (c :: q).length:=by omega
     have hdr:=List.drop_eq_getElem_cons hlt
     have hx:(c :: q)[i]?=some (c :: q)[i]:=List.getElem?_eq_getElem hlt
     have hxd:isD (c :: q)[i]=true:=List.all_eq_true.1 hall _ (List.getElem_mem hlt)
     generalize (c :: q)[i]=x at hdr hx hxd
     obtain ⟨w1,w2,w3⟩:=w8_digit hxd
     have e1:wi (10 * a)=10 * a:=wi_id (by omega) (by omega)
     have e2:wi (10 * a+(b2i x - 48))=10 * a+(b2i x - 48):=wi_id (by omega) (by omega)
     have ih':=fun (h:10 * a+(b2i x - 48)≤1000000)=>ih (10 * a+(b2i x - 48)) (i+1) (by omega) (by omega) h (by omega) m (by omega)
     unfold loopN
     generalize loopN (fun recl6 (v:Int × Int)=>g_ref01_Token_l6 (c :: q) recl6 v.1 v.2) m=L at ih' ⊢
     show g_ref01_Token_l6 (c :: q) L a (i:Int)=_
     unfold g_ref01_Token_l6
     simp only [ltI,lenI]
     rw [dzT (by omega),cond_true,getI_nat,hx,obs,w1,e1,e2,hdr,wi_id (x:=(i:Int)+1) (by omega) (by omega)]
     unfold valL
     by_cases c2:1000000 < 10 * a+(b2i x - 48)
     ·rw [dzT c2,cond_true,if_pos c2]
     ·rw [dzF c2,cond_false,if_neg c2]
      exact ih' (by omega)
   have:=key _ 0 0 rfl (by omega) (by omega) (by omega) n (by omega)
   refine ⟨_,this,?_⟩
   rw [List.drop_zero]
   cases valL 0 (c :: q) with
   | none=>exact ⟨rfl,by decide⟩
   | some v=>rfl
 ·rw [cond_true]
  have hof:tkOf (c :: q)=if 12 < (c :: q).length then .error 3 else .ok (1,c :: q,0):=by simp [tkOf,hL]
  rw [hof]
  by_cases c4:12 < (c :: q).length
  ·rw [if_pos c4,dzT (show (12:Int) < ((c :: q).length:Int) by omega)]
   exact ⟨_,rfl,rfl,by decide⟩
  ·rw [if_neg c4,dzF (show ¬ (12:Int) < ((c :: q).length:Int) by omega)]
   exact ⟨_,rfl,rfl⟩
theorem tkOf_nil:tkOf []=.error 7:=rfl
theorem lex_step (f p k:Nat) (s:List UInt8) (c:UInt8) (r:List UInt8) (hd:s.drop (gapN false s)=c :: r):lexF (f+1) p s k=if k=2000 then .error (2,p+gapN false s) else match tkOf (tkT (c :: r)) with
      | .error e=>.error (e,p+gapN false s)
      | .ok (kk,x,v)=>match lexF f (p+gapN false s+(tkT (c :: r)).length) ((c :: r).drop (tkT (c :: r)).length) (k+1) with
        | .ok l=>.ok (⟨kk,x,v,(p+gapN false s:Nat)⟩ :: l)
        | .error e=>.error e:=by
  conv=>lhs; unfold lexF
  rw [hd]
  all_goals rfl
theorem lex_end (f p k:Nat) (s:List UInt8) (hd:s.drop (gapN false s)=[]):lexF (f+1) p s k=.ok []:=by
 unfold lexF
 rw [hd]
theorem rl_loop (n:Nat) (s:List UInt8) (hs:s.length≤8100) (hn:10000≤n):∀ (m j i:Nat) (acc:List GTk),s.length - i≤m→m < j→i≤s.length→acc.length≤2000 →
  loopN (fun recl2 (v:List GTk × Int)=>g_ref01_Lex_l2 n s recl2 v.1 v.2) j (acc,((i+gapN false (s.drop i):Nat):Int))=some (resL acc (lexF (s.length+1) i (s.drop i) acc.length)):=by
 intro m
 induction m with
 | zero =>
  intro j i acc h1 h2 h3 h4
  obtain ⟨j,rfl⟩:∃ j',j=j'+1:=⟨j - 1,by omega⟩
  rw [List.drop_eq_nil_of_le (by omega)]
  unfold loopN
  show g_ref01_Lex_l2 n s _ acc ((i+gapN false []:Nat):Int)=_
  unfold g_ref01_Lex_l2
  have hlt:ltI ((i+gapN false []:Nat):Int) (lenI s)=false:=by
   simp only [ltI,lenI,gapN]
   exact dzF (by omega)
  rw [hlt,cond_false]
  simp [lexF,gapN,resL]
 | succ m ih =>
  intro j i acc h1 h2 h3 h4
  obtain ⟨j,rfl⟩:∃ j',j=j'+1:=⟨j - 1,by omega⟩
  have ih':=fun i acc a b c=>ih j i acc a (by omega) b c
  have hgl:=gap_le (s.drop i) false
  rw [List.length_drop] at hgl
  unfold loopN
  generalize loopN (fun recl2 (v:List GTk × Int)=>g_ref01_Lex_l2 n s recl2 v.1 v.2) j=L at ih' ⊢
  show g_ref01_Lex_l2 n s L acc ((i+gapN false (s.drop i):Nat):Int)=_
  unfold g_ref01_Lex_l2
  simp only [ltI,lenI]
  cases hd:(s.drop i).drop (gapN false (s.drop i)) with
  | nil =>
   have:s.length≤i+gapN false (s.drop i):=by
    have:=congrArg List.length hd
    simp only [List.length_drop,List.length_nil] at this
    omega
   rw [dzF (by omega),cond_false,lex_end _ _ _ _ hd]
   simp [resL]
  | cons c r =>
   have hlt:i+gapN false (s.drop i) < s.length:=by
    have:=congrArg List.length hd
    simp only [List.length_drop,List.length_cons] at this
    omega
   rw [lex_step _ _ _ _ c r hd]
   have hd':s.drop (i+gapN false (s.drop i))=c :: r:=by rw [← List.drop_drop]; exact hd
   generalize hqi:i+gapN false (s.drop i)=q at hd' hlt ⊢
   rw [dzT (by omega),cond_true,eqI_d,List.length_map]
   by_cases k3:acc.length=2000
   ·rw [dzT (by omega),cond_true,if_pos k3]
    rfl
   rw [dzF (by omega),cond_false,if_neg k3,rl_End n s q c r hs hn hd',obs,eqI_d]
   have hlen:(c :: r).length=s.length - q:=by rw [← hd']; simp
   have hle:=tkT_le (c :: r)
   by_cases h0:tkT (c :: r)=[]
   ·rw [h0,dzT (by simp),cond_true,tkOf_nil]
    rfl
   have hpos:=List.length_pos_iff.2 h0
   rw [dzF (by omega),cond_false]
   have hsl:sliceB (q:Int) ((q+(tkT (c :: r)).length:Nat):Int) s.length=true:=by simp only [sliceB]; rw [dzT]; omega
   have hsub:List.drop (Int.toNat (q:Int)) (List.take (Int.toNat ((q+(tkT (c :: r)).length:Nat):Int)) s)=tkT (c :: r):=by
    rw [Int.toNat_natCast,Int.toNat_natCast,List.drop_take,hd',show q+(tkT (c :: r)).length - q=(tkT (c :: r)).length from by omega]
    have hpre:tkT (c :: r) <+: c :: r:=by
     show (if isL c=true then (c :: r).takeWhile isN else if isD c=true then (c :: r).takeWhile isD else if isP c=true then [c] else []) <+: c :: r
     split
     ·exact List.takeWhile_prefix _
     ·split
      ·exact List.takeWhile_prefix _
      ·split
       ·exact ⟨r,rfl⟩
       ·exact List.nil_prefix
    exact (List.prefix_iff_eq_take.1 hpre).symm
   rw [hsl,cond_true,hsub]
   obtain ⟨x,e1,e2⟩:=rl_Token n c r (by omega) hn h0
   rw [e1,obs,eqI_d]
   cases ht:tkOf (tkT (c :: r)) with
   | error e =>
    rw [ht] at e2
    simp only at e2
    rw [dzF (show ¬ x.2=0 from by rw [e2.1]; exact e2.2),Bool.not_false,cond_true,e2.1]
    rfl
   | ok y =>
    obtain ⟨kk,t,v⟩:=y
    rw [ht] at e2
    simp only at e2
    subst e2
    rw [dzT rfl,Bool.not_true,cond_false]
    have hroom:roomB (List.length (acc++[(⟨kk,t,v,q⟩:GTk)])) 40=true:=by simp [roomB]; omega
    simp only [hroom,cond_true]
    rw [rl_Gap n s _ hs hn (by omega),obs,ih' _ _ (by omega) (by omega) (by simp; omega)]
    have hd2:s.drop (q+(tkT (c :: r)).length)=(c :: r).drop (tkT (c :: r)).length:=by rw [← List.drop_drop,hd']
    rw [hd2,lex_fuel (s.length+1) s.length _ _ _ (by rw [List.length_drop]; omega) (by rw [List.length_drop]; omega)]
    simp only [List.length_append,List.length_cons,List.length_nil]
    cases lexF s.length (q+(tkT (c :: r)).length) ((c :: r).drop (tkT (c :: r)).length) (acc.length+(0+1)) with
    | error e=>rfl
    | ok l=>simp [resL]
theorem rl_Lex (n:Nat) (s:List UInt8) (hn:10000≤n):g_ref01_Lex n s=some (resL [] (lexS s)):=by
 unfold g_ref01_Lex lexS
 simp only [ltI,lenI]
 by_cases h:8000 < s.length
 ·rw [dzT (by omega),cond_true,if_pos h]; rfl
 ·rw [dzF (by omega),cond_false,if_neg h]
  have hg:=rl_Gap n s 0 (by omega) hn (by omega)
  rw [show ((0:Nat):Int)=0 from rfl] at hg
  rw [hg,obs]
  exact rl_loop n s (by omega) hn s.length n 0 [] (by omega) (by omega) (by omega) (by simp)
end Go.Proofs
namespace Go.Proofs
open Go Go.Abs
set_option maxRecDepth 100000
set_option linter.unusedVariables false
def gapE:Bool→List UInt8→Option Bool
 | b,[]=>some b
 | true,c :: r=>if b2i c=10 then gapE false r else gapE true r
 | false,c :: r=>if b2i c=35 then gapE true r else if isG c then gapE false r else none
def stopT (t r:List UInt8):Bool:=match t,r with
 | c :: _,d :: _=>if isL c then !isN d else if isD c then !isD d else true
 | _,_=>true
def wholeT (t:List UInt8):Bool:=match t with
 | []=>false
 | c :: r=>if isL c then (c :: r).all isN else if isD c then (c :: r).all isD else isP c&&r.isEmpty
inductive Lx:Nat→List UInt8→List GTk→Prop
 | nil {p:Nat} {g:List UInt8} {b:Bool}:gapE false g=some b→Lx p g []
 | cons {p:Nat} {g t r:List UInt8} {l:List GTk} {k v:Int} {x:List UInt8}:gapE false g=some false→wholeT t=true→tkOf t=.ok (k,x,v)→stopT t r=true→Lx (p+g.length+t.length) r l →
   Lx p (g++(t++r)) (⟨k,x,v,(p+g.length:Nat)⟩ :: l)
theorem gapE_N:∀ (g:List UInt8) (b b':Bool),gapE b g=some b'→gapN b g=g.length
 | [],b,b',h=>by cases b <;> simp [gapN]
 | c :: r,true,b',h=>by
  unfold gapE at h
  unfold gapN
  split at h
  ·rename_i hc; rw [if_pos hc,gapE_N r false b' h]; simp; omega
  ·rename_i hc; rw [if_neg hc,gapE_N r true b' h]; simp; omega
 | c :: r,false,b',h=>by
  unfold gapE at h
  unfold gapN
  split at h
  ·rename_i hc; rw [if_pos hc,gapE_N r true b' h]; simp; omega
  ·rename_i hc
   split at h
   ·rename_i hg; rw [if_neg hc,if_pos hg,gapE_N r false b' h]; simp; omega
   ·cases h
theorem gapE_t (c:UInt8) (r:List UInt8):gapE true (c :: r)=if b2i c=10 then gapE false r else gapE true r:=rfl
theorem gapE_f (c:UInt8) (r:List UInt8):gapE false (c :: r)=if b2i c=35 then gapE true r else if isG c then gapE false r else none:=rfl
theorem gapE_app:∀ (g r:List UInt8) (b b':Bool),gapE b g=some b'→gapE b (g++r)=gapE b' r
 | [],r,b,b',h=>by simp [gapE] at h; subst h; rfl
 | c :: g,r,true,b',h=>by
  rw [List.cons_append,gapE_t]
  rw [gapE_t] at h
  split at h
  ·rename_i hc; rw [if_pos hc]; exact gapE_app g r false b' h
  ·rename_i hc; rw [if_neg hc]; exact gapE_app g r true b' h
 | c :: g,r,false,b',h=>by
  rw [List.cons_append,gapE_f]
  rw [gapE_f] at h
  split at h
  ·rename_i hc; rw [if_pos hc]; exact gapE_app g r true b' h
  ·rename_i hc
   rw [if_neg hc]
   split at h
   ·rename_i hg; rw [if_pos hg]; exact gapE_app g r false b' h
   ·cases h
theorem gapN_app:∀ (g r:List UInt8) (b b':Bool),gapE b g=some b'→gapN b (g++r)=g.length+gapN b' r
 | [],r,b,b',h=>by simp [gapE] at h; subst h; simp
 | c :: g,r,true,b',h=>by
  simp only [List.cons_append,List.length_cons]
  unfold gapE at h
  conv=>lhs; unfold gapN
  split at h
  ·rename_i hc; rw [if_pos hc,gapN_app g r false b' h]; omega
  ·rename_i hc; rw [if_neg hc,gapN_app g r true b' h]; omega
 | c :: g,r,false,b',h=>by
  simp only [List.cons_append,List.length_cons]
  unfold gapE at h
  conv=>lhs; unfold gapN
  split at h
  ·rename_i hc; rw [if_pos hc,gapN_app g r true b' h]; omega
  ·rename_i hc
   rw [if_neg hc]
   split at h
   ·rename_i hg; rw [if_pos hg,gapN_app g r false b' h]; omega
   ·cases h
theorem gapN_split:∀ (s:List UInt8) (b:Bool),∃ b',gapE b (s.take (gapN b s))=some b'∧(s.drop (gapN b s) ≠ []→b'=false)
 | [],b=>⟨b,by cases b <;> simp [gapN,gapE],fun h=>absurd (by simp) h⟩
 | c :: r,true=>by
  unfold gapN
  by_cases hc:b2i c=10
  ·obtain ⟨b',h1,h2⟩:=gapN_split r false
   rw [if_pos hc]
   refine ⟨b',?_,?_⟩
   ·rw [Nat.add_comm,List.take_succ_cons]
    unfold gapE
    rw [if_pos hc]; exact h1
   ·rw [Nat.add_comm,List.drop_succ_cons]; exact h2
  ·obtain ⟨b',h1,h2⟩:=gapN_split r true
   rw [if_neg hc]
   refine ⟨b',?_,?_⟩
   ·rw [Nat.add_comm,List.take_succ_cons]
    unfold gapE
    rw [if_neg hc]; exact h1
   ·rw [Nat.add_comm,List.drop_succ_cons]; exact h2
 | c :: r,false=>by
  unfold gapN
  by_cases hc:b2i c=35
  ·obtain ⟨b',h1,h2⟩:=gapN_split r true
   rw [if_pos hc]
   refine ⟨b',?_,?_⟩
   ·rw [Nat.add_comm,List.take_succ_cons]
    unfold gapE
    rw [if_pos hc]; exact h1
   ·rw [Nat.add_comm,List.drop_succ_cons]; exact h2
  ·rw [if_neg hc]
   by_cases hg:isG c=true
   ·obtain ⟨b',h1,h2⟩:=gapN_split r false
    rw [if_pos hg]
    refine ⟨b',?_,?_⟩
    ·rw [Nat.add_comm,List.take_succ_cons]
     unfold gapE
     rw [if_neg hc,if_pos hg]; exact h1
    ·rw [Nat.add_comm,List.drop_succ_cons]; exact h2
   ·rw [if_neg hg]
    exact ⟨false,rfl,fun _=>rfl⟩
theorem isL_ne {c:UInt8} (h:isL c=true):b2i c ≠ 35∧isG c=false∧isD c=false∧isP c=false:=by
 have h:=of_decide_eq_true (show decide (97≤b2i c∧b2i c≤122)=true from h)
 exact ⟨by omega,dzF (by omega),dzF (by omega),dzF (by omega)⟩
theorem isD_ne {c:UInt8} (h:isD c=true):b2i c ≠ 35∧isG c=false∧isL c=false∧isP c=false:=by
 have h:=of_decide_eq_true (show decide (48≤b2i c∧b2i c≤57)=true from h)
 exact ⟨by omega,dzF (by omega),dzF (by omega),dzF (by omega)⟩
theorem isP_ne {c:UInt8} (h:isP c=true):b2i c ≠ 35∧isG c=false∧isL c=false∧isD c=false:=by
 have h:=of_decide_eq_true (show decide (b2i c=59∨b2i c=123∨b2i c=125)=true from h)
 exact ⟨by omega,dzF (by omega),dzF (by omega),dzF (by omega)⟩
theorem whole_head {t:List UInt8} (h:wholeT t=true):∃ c q,t=c :: q∧b2i c ≠ 35∧isG c=false:=by
 cases t with
 | nil=>cases h
 | cons c q =>
  refine ⟨c,q,rfl,?_⟩
  unfold wholeT at h
  simp only at h
  split at h
  ·rename_i hL; exact ⟨(isL_ne hL).1,(isL_ne hL).2.1⟩
  ·split at h
   ·rename_i hD; exact ⟨(isD_ne hD).1,(isD_ne hD).2.1⟩
   ·simp only [bae] at h
    exact ⟨(isP_ne h.1).1,(isP_ne h.1).2.1⟩
theorem whole_gap {t:List UInt8} (h:wholeT t=true) (r:List UInt8):gapN false (t++r)=0:=by
 obtain ⟨c,q,rfl,h1,h2⟩:=whole_head h
 simp only [List.cons_append,gapN]
 rw [if_neg h1,if_neg (by rw [h2]; decide)]
theorem while_app {p:UInt8→Bool}:∀ (a r:List UInt8),a.all p=true→(∀ d ∈ r.head?,p d=false)→(a++r).takeWhile p=a
 | [],r,_,hr=>by
  cases r with
  | nil=>rfl
  | cons d r=>simp [hr d rfl]
 | c :: a,r,h,hr=>by
  simp only [List.all_cons,bae] at h
  simp [h.1,while_app a r h.2 hr]
theorem whole_tk {t r:List UInt8} (h:wholeT t=true) (hs:stopT t r=true):tkT (t++r)=t:=by
 cases t with
 | nil=>cases h
 | cons c q =>
  unfold wholeT at h
  simp only at h
  have e:tkT (c :: q++r)=if isL c=true then (c :: q++r).takeWhile isN else if isD c=true then (c :: q++r).takeWhile isD else if isP c=true then [c] else []:=rfl
  rw [e]
  split at h
  ·rename_i hL
   rw [if_pos hL]
   refine while_app _ _ h fun d hd=>?_
   cases r with
   | nil=>cases hd
   | cons d' r =>
    simp only [List.head?_cons,Option.mem_def,sie] at hd
    subst hd
    simpa [stopT,hL] using hs
  ·rename_i hL
   rw [if_neg hL]
   split at h
   ·rename_i hD
    rw [if_pos hD]
    refine while_app _ _ h fun d hd=>?_
    cases r with
    | nil=>cases hd
    | cons d' r =>
     simp only [List.head?_cons,Option.mem_def,sie] at hd
     subst hd
     simpa [stopT,hL,hD] using hs
   ·rename_i hD
    simp only [bae,List.isEmpty_iff] at h
    rw [if_neg hD,if_pos h.1,h.2]
theorem tk_whole {s:List UInt8} (h:tkT s ≠ []):wholeT (tkT s)=true∧stopT (tkT s) (s.drop (tkT s).length)=true∧s=tkT s++s.drop (tkT s).length:=by
 cases s with
 | nil=>exact absurd rfl h
 | cons c r =>
  have e:tkT (c :: r)=if isL c=true then (c :: r).takeWhile isN else if isD c=true then (c :: r).takeWhile isD else if isP c=true then [c] else []:=rfl
  rw [e] at h ⊢
  have hw:∀ (p:UInt8→Bool) (l:List UInt8),l.drop (l.takeWhile p).length=l.dropWhile p:=by
   intro p l
   have:=drop_while_drop l 0 p
   simpa using this
  by_cases hL:isL c=true
  ·have hN:isN c=true:=by simp [isN,hL]
   have hc:(c :: r).takeWhile isN=c :: r.takeWhile isN:=by simp [hN]
   rw [if_pos hL] at h ⊢
   rw [hw]
   have h1:=all_while (c :: r) isN
   have h2:=drop_while_head (c :: r) isN
   refine ⟨?_,?_,while_split _ _⟩
   ·rw [hc] at h1 ⊢
    unfold wholeT
    simp only [hL,if_true]
    exact h1
   ·rw [hc]
    cases hq:(c :: r).dropWhile isN with
    | nil=>rfl
    | cons d q =>
     rw [hq] at h2
     have:=h2 d rfl
     simp [stopT,hL,this]
  ·rw [if_neg hL] at h ⊢
   by_cases hD:isD c=true
   ·have hc:(c :: r).takeWhile isD=c :: r.takeWhile isD:=by simp [hD]
    rw [if_pos hD] at h ⊢
    rw [hw]
    have h1:=all_while (c :: r) isD
    have h2:=drop_while_head (c :: r) isD
    refine ⟨?_,?_,while_split _ _⟩
    ·rw [hc] at h1 ⊢
     unfold wholeT
     simp only [hL,hD,if_true,Bool.false_eq_true,if_false]
     exact h1
    ·rw [hc]
     cases hq:(c :: r).dropWhile isD with
     | nil=>rfl
     | cons d q =>
      rw [hq] at h2
      have:=h2 d rfl
      simp [stopT,hL,hD,this]
   ·rw [if_neg hD] at h ⊢
    by_cases hP:isP c=true
    ·rw [if_pos hP]
     refine ⟨by simp [wholeT,hL,hD,hP],?_,rfl⟩
     cases r with
     | nil=>rfl
     | cons d q=>simp [stopT,hL,hD]
    ·rw [if_neg hP] at h
     exact absurd rfl h
theorem lexF_ok:∀ (f p k:Nat) (s:List UInt8) (l:List GTk),lexF f p s k=.ok l→k≤2000→Lx p s l∧k+l.length≤2000
 | 0,_,_,_,_,h,_=>by cases h
 | f+1,p,k,s,l,h,hk=>by
  obtain ⟨b,g1,g2⟩:=gapN_split s false
  cases hd:s.drop (gapN false s) with
  | nil =>
   rw [lex_end _ _ _ _ hd] at h
   cases h
   have:s.take (gapN false s)=s:=by
    have:=List.take_append_drop (gapN false s) s
    rw [hd,List.append_nil] at this
    exact this
   rw [this] at g1
   exact ⟨.nil g1,by simp; exact hk⟩
  | cons c r =>
   have hb:=g2 (by rw [hd]; simp)
   subst hb
   rw [lex_step _ _ _ _ c r hd] at h
   split at h
   ·cases h
   rename_i hk2
   cases ht:tkOf (tkT (c :: r)) with
   | error e=>rw [ht] at h; cases h
   | ok y =>
    obtain ⟨kk,x,v⟩:=y
    rw [ht] at h
    simp only at h
    cases hl:lexF f (p+gapN false s+(tkT (c :: r)).length) ((c :: r).drop (tkT (c :: r)).length) (k+1) with
    | error e=>rw [hl] at h; cases h
    | ok l' =>
     rw [hl] at h
     simp only [Except.ok.injEq] at h
     subst h
     obtain ⟨h1,h2⟩:=lexF_ok f _ _ _ _ hl (by omega)
     have hne:tkT (c :: r) ≠ []:=fun e=>by rw [e] at ht; cases ht
     obtain ⟨w1,w2,w3⟩:=tk_whole hne
     have hlen:(s.take (gapN false s)).length=gapN false s:=by
      rw [List.length_take]
      have:=gap_le s false
      omega
     have hs:s=s.take (gapN false s)++(tkT (c :: r)++(c :: r).drop (tkT (c :: r)).length):=by
      rw [← w3,← hd,List.take_append_drop]
     refine ⟨?_,by simp only [List.length_cons]; omega⟩
     have:=Lx.cons (p:=p) (g:=s.take (gapN false s)) (l:=l') g1 w1 ht w2 (by rw [hlen]; exact h1)
     rw [← hs,hlen] at this
     exact this
theorem Lx_lexF:∀ {p:Nat} {s:List UInt8} {l:List GTk},Lx p s l→∀ (f k:Nat),(k+l.length≤2000∨2000 < k)→s.length < f→lexF f p s k=.ok l:=by
 intro p s l h
 induction h with
 | nil hg =>
  intro f k _ hf
  obtain ⟨f,rfl⟩:∃ f',f=f'+1:=⟨f - 1,by omega⟩
  refine lex_end _ _ _ _ ?_
  rw [gapE_N _ _ _ hg,List.drop_length]
 | @cons p g t r l k v x hg hw ht hst hl ih =>
  intro f k' hk hf
  obtain ⟨f,rfl⟩:∃ f',f=f'+1:=⟨f - 1,by omega⟩
  have hN:gapN false (g++(t++r))=g.length:=by rw [gapN_app g _ _ _ hg,whole_gap hw]; rfl
  obtain ⟨c,q,rfl,_⟩:=whole_head hw
  have hd:(g++(c :: q++r)).drop (gapN false (g++(c :: q++r)))=c :: (q++r):=by rw [hN,List.drop_left]; rfl
  have htk:tkT (c :: (q++r))=c :: q:=whole_tk hw hst
  rw [lex_step _ _ _ _ _ _ hd,hN,htk,ht]
  have hdr:(c :: (q++r)).drop (c :: q).length=r:=List.drop_left (l₁:=c :: q)
  simp only [List.length_append,List.length_cons] at hf hk
  rw [hdr,if_neg (by omega),ih f (k'+1) (by omega) (by omega)]
theorem lexS_iff (s:List UInt8) (l:List GTk):lexS s=.ok l↔s.length≤8000∧Lx 0 s l∧l.length≤2000:=by
 unfold lexS
 constructor
 ·intro h
  split at h
  ·cases h
  ·rename_i hl
   obtain ⟨h1,h2⟩:=lexF_ok _ _ _ _ _ h (by omega)
   exact ⟨by omega,h1,by omega⟩
 ·rintro ⟨h1,h2,h3⟩
  rw [if_neg (by omega)]
  exact Lx_lexF h2 _ _ (.inl (by omega)) (by omega)
theorem Lx_fun {p:Nat} {s:List UInt8} {l l':List GTk} (h:Lx p s l) (h':Lx p s l'):l=l':=by
 have a:=Lx_lexF h (s.length+1) 2001 (.inr (by omega)) (by omega)
 have b:=Lx_lexF h' (s.length+1) 2001 (.inr (by omega)) (by omega)
 rw [a] at b
 exact Except.ok.inj b
theorem Lx_gap {p:Nat} {g r:List UInt8} {l:List GTk} (hg:gapE false g=some false) (h:Lx (p+g.length) r l):Lx p (g++r) l:=by
 cases h with
 | @nil _ _ b h1=>exact .nil (b:=b) (by rw [gapE_app g r _ _ hg]; exact h1)
 | @cons _ g' t r' l k v x h1 h2 h3 h4 h5 =>
  rw [← List.append_assoc]
  have:=Lx.cons (p:=p) (g:=g++g') (t:=t) (r:=r') (l:=l) (by rw [gapE_app g g' _ _ hg]; exact h1) h2 h3 h4 (by rw [List.length_append,← Nat.add_assoc]; exact h5)
  rw [List.length_append,← Nat.add_assoc] at this
  exact this
theorem isN_10 {d:UInt8} (h:b2i d=10∨b2i d=32):isN d=false∧isD d=false:=by
 have hD:isD d=false:=dzF (by omega)
 have hL:isL d=false:=dzF (by omega)
 refine ⟨?_,hD⟩
 unfold isN
 rw [hD,hL,dzF (by omega)]; rfl
theorem stop_gap {t r x:List UInt8} {d:UInt8} (hd:b2i d=10∨b2i d=32) (h:stopT t r=true):stopT t (r++d :: x)=true:=by
 cases r with
 | nil =>
  cases t with
  | nil=>rfl
  | cons c q =>
   have:=isN_10 hd
   simp only [List.nil_append,stopT,this.1,this.2]
   simp
 | cons e r=>cases t <;> exact h
theorem Lx_line {p:Nat} {a:List UInt8} {la:List GTk} (h:Lx p a la) {d:UInt8} (hd:b2i d=10) (x:List UInt8) (lx:List GTk) (hx:Lx (p+a.length+1) x lx):Lx p (a++d :: x) (la++lx):=by
 induction h with
 | @nil p g b hg =>
  have hgd:gapE false (g++[d])=some false:=by
   rw [gapE_app g [d] _ _ hg]
   cases b
   ·rw [gapE_f,if_neg (by omega),if_pos (show isG d=true from dzT (by omega))]; rfl
   ·rw [gapE_t,if_pos hd]; rfl
  have:=Lx_gap (p:=p) (g:=g++[d]) (r:=x) (l:=lx) hgd (by rw [List.length_append,List.length_singleton,← Nat.add_assoc]; exact hx)
  rw [List.append_assoc] at this
  exact this
 | @cons p g t r l k v y hg hw ht hst hl ih =>
  have e:g++(t++r)++d :: x=g++(t++(r++d :: x)):=by simp
  rw [e]
  refine Lx.cons hg hw ht (stop_gap (.inl hd) hst) (ih ?_)
  simp only [List.length_append] at hx
  rw [show p+g.length+t.length+r.length+1=p+(g.length+(t.length+r.length))+1 from by omega]
  exact hx
def shT (d:Int) (t:GTk):GTk:=⟨t.Kind,t.Text,t.N,t.At+d⟩
theorem Lx_shift {p:Nat} {s:List UInt8} {l:List GTk} (d:Nat) (h:Lx p s l):Lx (p+d) s (l.map (shT d)):=by
 induction h with
 | nil hg=>exact .nil hg
 | @cons p g t r l k v y hg hw ht hst hl ih =>
  have:=Lx.cons (p:=p+d) (g:=g) (t:=t) (r:=r) (l:=l.map (shT d)) hg hw ht hst (by
   rw [show p+d+g.length+t.length=p+g.length+t.length+d from by omega]; exact ih)
  simp only [List.map_cons,shT]
  rw [show (((p+g.length:Nat):Int)+(d:Int))=((p+d+g.length:Nat):Int) from by omega]
  exact this
theorem Lx_at {p:Nat} {s:List UInt8} {l:List GTk} (h:Lx p s l):(∀ t ∈ l,(p:Int)≤t.At∧t.At < ((p+s.length:Nat):Int))∧l.Pairwise (fun a b=>a.At < b.At):=by
 induction h with
 | nil hg=>exact ⟨fun t ht=>(by cases ht),List.Pairwise.nil⟩
 | @cons p g t r l k v y hg hw ht hst hl ih =>
  obtain ⟨c,q,hc,_⟩:=whole_head hw
  have hpos:0 < t.length:=by rw [hc]; simp
  simp only [List.length_append]
  refine ⟨fun x hx=>?_,List.Pairwise.cons (fun x hx=>?_) ih.2⟩
  ·rcases List.mem_cons.1 hx with rfl | hx
   ·simp only; omega
   ·have:=ih.1 x hx; omega
  ·have:=ih.1 x hx
   simp only; omega
end Go.Proofs
namespace Go.Proofs
open Go Go.Abs
set_option maxRecDepth 100000
set_option linter.unusedVariables false
def attB (w:List UInt8):Bool:=(g_p_isAttr 0 w).getD false
def arkB (w:List UInt8):Bool:=(g_p_isArticle 0 w).getD false
def wrdB (w:List UInt8):Bool:=(g_p_isWord 0 w).getD false
def kinB (w:List UInt8):Int:=(g_p_kindOf 0 w).getD 0
theorem p_isAttr (n:Nat) (w:List UInt8):g_p_isAttr n w=some (attB w):=by
 unfold attB g_p_isAttr
 simp only [cond_some,obs,Option.getD_some]
theorem p_isArticle (n:Nat) (w:List UInt8):g_p_isArticle n w=some (arkB w):=by
 unfold arkB g_p_isArticle
 simp only [cond_some,obs,Option.getD_some]
theorem p_isWord (n:Nat) (w:List UInt8):g_p_isWord n w=some (wrdB w):=by
 unfold wrdB g_p_isWord
 simp only [cond_some,obs,Option.getD_some]
theorem p_kindOf (n:Nat) (w:List UInt8):g_p_kindOf n w=some (kinB w):=by
 unfold kinB g_p_kindOf
 simp only [cond_some,Option.getD_some]
theorem p_notKey (n:Nat) (w:List UInt8):g_p_notKey n w=some (!keyB w):=by
 unfold g_p_notKey
 rw [b_isKey,obs]
theorem key_split (w:List UInt8):keyB w=(!decide (kinB w=0)||attB w||arkB w||wrdB w):=by
 have h:=b_isKey 0 w
 unfold g_p_isKey at h
 rw [p_kindOf,p_isAttr,p_isArticle,p_isWord] at h
 simp only [obs,eqI_d,cond_some,sie] at h
 rw [← h]
 by_cases h1:kinB w=0 <;> cases attB w <;> cases arkB w <;> cases wrdB w <;> simp [h1]
def zTok (len:Int):GTk:=⟨0,[],0,len⟩
def pk (len:Int) (r:List GTk):GTk:=r.head?.getD (zTok len)
theorem pk_eq {T:List GTk} {i:Nat} (len:Int):pk len (T.drop i)=(T[i]?).getD (zTok len):=by
 unfold pk
 rw [List.head?_drop]
theorem p_peek (n:Nat) (T:List GTk) (i:Nat) (len:Int) (d:List GDg):g_p_reader_peek n (⟨T,(i:Int),len,d⟩:GPr)=some (pk len (T.drop i)):=by
 unfold g_p_reader_peek
 rw [pk_eq]
 simp only [ltI,lenI,List.length_map]
 by_cases h:i < T.length
 ·rw [dzT (by omega),cond_true,getI_nat,List.getElem?_eq_getElem h]; rfl
 ·rw [dzF (by omega),cond_false,List.getElem?_eq_none (by omega)]; rfl
theorem p_peek2 (n:Nat) (T:List GTk) (i:Nat) (len:Int) (d:List GDg):g_p_reader_peek_2 n (⟨T,(i:Int),len,d⟩:GPr)=some (pk len (T.drop i)):=by
 unfold g_p_reader_peek_2
 rw [pk_eq]
 simp only [ltI,lenI,List.length_map]
 by_cases h:i < T.length
 ·rw [dzT (by omega),cond_true,getI_nat,List.getElem?_eq_getElem h]; rfl
 ·rw [dzF (by omega),cond_false,List.getElem?_eq_none (by omega)]; rfl
theorem p_fail (n:Nat) (T:List GTk) (i:Nat) (len:Int) (d:List GDg):g_p_reader_fail n (⟨T,(i:Int),len,d⟩:GPr)=some (.error (pk len (T.drop i)).At):=by
 unfold g_p_reader_fail
 rw [p_peek,obs]
theorem p_fail2 (n:Nat) (T:List GTk) (i:Nat) (len:Int) (d:List GDg):g_p_reader_fail_2 n (⟨T,(i:Int),len,d⟩:GPr)=some (.error (pk len (T.drop i)).At):=by
 unfold g_p_reader_fail_2
 rw [p_peek2,obs]
def okV (w:Bool) (t:GTk):Bool:=decide (t.Kind=2)||(decide (t.Kind=1)&&(!keyB t.Text||w&&wrdB t.Text))
def vnode (t:GTk):GNode:=if t.Kind=2 then ⟨6,[],t.N,t.At,[]⟩ else ⟨5,t.Text,0,t.At,[]⟩
def vcs (t:GTk):List PV:=GNode.cs (vnode t)
theorem okV_z (w:Bool) (len:Int):okV w (zTok len)=false:=by simp [okV,zTok]
theorem values_gen (w:Bool) (T:List GTk) (len:Int) (B:(List (List PV) × Int→Option (List (List PV) × GPr))→List (List PV) × Int→Option (List (List PV) × GPr)) (hT:T.length≤2100)
  (hB:∀ rec acc (i:Nat),acc.length≤2100→B rec (acc,(i:Int))=if okV w (pk len (T.drop i)) then rec (acc++[vcs (pk len (T.drop i))],wi ((i:Int)+1)) else some (acc,(⟨T,(i:Int),len,[]⟩:GPr))) :
  ∀ (m j i:Nat) (acc:List (List PV)),T.length - i≤m→m < j→i≤T.length→acc.length≤i →
   loopN B j (acc,(i:Int))=some (acc++((T.drop i).takeWhile (okV w)).map vcs,(⟨T,((i+((T.drop i).takeWhile (okV w)).length:Nat):Int),len,[]⟩:GPr)):=by
 intro m
 induction m with
 | zero =>
  intro j i acc h1 h2 h3 h4
  obtain ⟨j,rfl⟩:∃ j',j=j'+1:=⟨j - 1,by omega⟩
  unfold loopN
  have hd:T.drop i=[]:=List.drop_eq_nil_of_le (by omega)
  rw [hB _ _ _ (by omega),hd]
  have:okV w (pk len [])=false:=okV_z w len
  rw [this]
  simp
 | succ m ih =>
  intro j i acc h1 h2 h3 h4
  obtain ⟨j,rfl⟩:∃ j',j=j'+1:=⟨j - 1,by omega⟩
  by_cases hi:i=T.length
  ·exact ih (j+1) i acc (by omega) (by omega) h3 h4
  unfold loopN
  have hdr:=List.drop_eq_getElem_cons (show i < T.length by omega)
  generalize T[i]'(by omega)=t at hdr
  generalize hr:T.drop (i+1)=r at hdr
  rw [hB _ _ _ (by omega),hdr]
  have hpk:pk len (t :: r)=t:=rfl
  rw [hpk]
  by_cases ho:okV w t=true
  ·rw [if_pos ho,wi_id (x:=(i:Int)+1) (by omega) (by omega),show ((i:Int)+1)=((i+1:Nat):Int) from by omega,ih j (i+1) _ (by omega) (by omega) (by omega) (by simp; omega),hr]
   simp only [List.takeWhile_cons,ho,if_true,List.map_cons,List.length_cons,List.append_assoc,List.singleton_append]
   rw [show i+1+(r.takeWhile (okV w)).length=i+((r.takeWhile (okV w)).length+1) from by omega]
  ·rw [if_neg ho]
   simp [ho]
theorem p_values (n:Nat) (T:List GTk) (i:Nat) (len:Int) (d:List GDg) (hT:T.length≤2100) (hi:i≤T.length) (hn:10000≤n) :
  g_p_reader_values n (⟨T,(i:Int),len,d⟩:GPr)=some (((T.drop i).takeWhile (okV false)).map vcs,(⟨T,((i+((T.drop i).takeWhile (okV false)).length:Nat):Int),len,[]⟩:GPr)):=by
 unfold g_p_reader_values
 have:=values_gen false T len (fun recl1 (v:List (List PV) × Int)=>g_p_reader_values_l1 n (⟨T,(i:Int),len,d⟩:GPr) recl1 v.1 v.2) hT (fun rec acc i ha=>by
  show g_p_reader_values_l1 n _ rec acc (i:Int)=_
  unfold g_p_reader_values_l1
  simp only [p_peek,obs,eqI_d,p_notKey,cond_some]
  generalize pk len (T.drop i)=t
  have hroom:∀ x:List PV,roomB (List.length (acc++[x])) 64=true:=by intro x; simp [roomB]; omega
  simp only [hroom,cond_true]
  unfold okV vcs vnode
  by_cases h2:t.Kind=2
  ·simp [h2]
  ·by_cases h1:t.Kind=1
   ·cases keyB t.Text <;> simp [h1]
   ·simp [h1,h2]) T.length n i [] (by omega) (by omega) hi (by simp)
 exact this
theorem p_values2 (n:Nat) (T:List GTk) (i:Nat) (len:Int) (d:List GDg) (hT:T.length≤2100) (hi:i≤T.length) (hn:10000≤n) :
  g_p_reader_values_2 n (⟨T,(i:Int),len,d⟩:GPr)=some (((T.drop i).takeWhile (okV true)).map vcs,(⟨T,((i+((T.drop i).takeWhile (okV true)).length:Nat):Int),len,[]⟩:GPr)):=by
 unfold g_p_reader_values_2
 have:=values_gen true T len (fun recl1 (v:List (List PV) × Int)=>g_p_reader_values_2_l1 n (⟨T,(i:Int),len,d⟩:GPr) recl1 v.1 v.2) hT (fun rec acc i ha=>by
  show g_p_reader_values_2_l1 n _ rec acc (i:Int)=_
  unfold g_p_reader_values_2_l1 g_p_reader_article_1_1
  simp only [p_peek,obs,eqI_d,p_notKey,p_isWord,cond_some]
  generalize pk len (T.drop i)=t
  have hroom:∀ x:List PV,roomB (List.length (acc++[x])) 64=true:=by intro x; simp [roomB]; omega
  simp only [hroom,cond_true]
  unfold okV vcs vnode
  by_cases h2:t.Kind=2
  ·simp [h2]
  ·by_cases h1:t.Kind=1
   ·cases keyB t.Text <;> cases wrdB t.Text <;> simp [h1]
   ·simp [h1,h2]) T.length n i [] (by omega) (by omega) hi (by simp)
 exact this
def skipF:List GTk→List UInt8 × Nat
 | []=>([],0)
 | t :: r=>if t.Kind=3∧t.Text ≠ [123] then (t.Text,1) else ((skipF r).1,(skipF r).2+1)
theorem skip_cons (t:GTk) (r:List GTk):skipF (t :: r)=if t.Kind=3∧t.Text ≠ [123] then (t.Text,1) else ((skipF r).1,(skipF r).2+1):=rfl
theorem skip_le:∀ l:List GTk,(skipF l).2≤l.length
 | []=>by simp [skipF]
 | t :: r=>by
  have:=skip_le r
  unfold skipF
  split <;> simp only [List.length_cons] <;> omega
theorem p_skip (n:Nat) (T:List GTk) (i:Nat) (len:Int) (d:List GDg) (hT:T.length≤2100) (hi:i≤T.length) (hn:10000≤n) :
  g_p_reader_skip n (⟨T,(i:Int),len,d⟩:GPr)=some ((skipF (T.drop i)).1,(⟨T,((i+(skipF (T.drop i)).2:Nat):Int),len,[]⟩:GPr)):=by
 unfold g_p_reader_skip
 have key:∀ (m j i':Nat),T.length - i'≤m→m < j→i'≤T.length→loopN (fun recl1 l1=>g_p_reader_skip_l1 (⟨T,(i:Int),len,d⟩:GPr) recl1 l1) j (i':Int)=some ((skipF (T.drop i')).1,(⟨T,((i'+(skipF (T.drop i')).2:Nat):Int),len,[]⟩:GPr)):=by
  intro m
  induction m with
  | zero =>
   intro j i' h1 h2 h3
   obtain ⟨j,rfl⟩:∃ j',j=j'+1:=⟨j - 1,by omega⟩
   unfold loopN
   unfold g_p_reader_skip_l1
   simp only [ltI,lenI,List.length_map]
   rw [dzF (by omega),cond_false,List.drop_eq_nil_of_le (by omega)]
   rfl
  | succ m ih =>
   intro j i' h1 h2 h3
   obtain ⟨j,rfl⟩:∃ j',j=j'+1:=⟨j - 1,by omega⟩
   by_cases hi:i'=T.length
   ·exact ih (j+1) i' (by omega) (by omega) h3
   have ih':=ih j (i'+1) (by omega) (by omega) (by omega)
   unfold loopN
   generalize loopN (fun recl1 l1=>g_p_reader_skip_l1 (⟨T,(i:Int),len,d⟩:GPr) recl1 l1) j=L at ih' ⊢
   show g_p_reader_skip_l1 _ L (i':Int)=_
   unfold g_p_reader_skip_l1
   simp only [ltI,lenI,List.length_map]
   have hdr:=List.drop_eq_getElem_cons (show i' < T.length by omega)
   have hx:T[i']?=some T[i']:=List.getElem?_eq_getElem (by omega)
   generalize T[i']=t at hdr hx
   rw [dzT (by omega),cond_true,getI_nat,hx,obs,hdr,eqI_d,cond_some,obs,wi_id (x:=(i':Int)+1) (by omega) (by omega),show ((i':Int)+1)=((i'+1:Nat):Int) from by omega,ih']
   rw [skip_cons]
   by_cases h:t.Kind=3∧t.Text ≠ [123]
   ·have:(bif decide (t.Kind=3) then !eqS t.Text [123] else false)=true:=by
     rw [dzT h.1]
     simp [eqS,h.2]
    rw [this,cond_true,if_pos h]
   ·have:(bif decide (t.Kind=3) then !eqS t.Text [123] else false)=false:=by
     by_cases h3:t.Kind=3
     ·have h4:t.Text=[123]:=Classical.byContradiction fun h4=>h ⟨h3,h4⟩
      rw [h4,dzT h3]; rfl
     ·rw [dzF h3]; rfl
    rw [this,cond_false,if_neg h]
    simp only
    rw [show i'+1+(skipF (T.drop (i'+1))).2=i'+((skipF (T.drop (i'+1))).2+1) from by omega]
 exact key T.length n i (by omega) (by omega) hi
end Go.Proofs
namespace Go.Proofs
open Go Go.Abs
set_option maxRecDepth 100000
set_option linter.unusedVariables false
def isPu (c:UInt8) (t:GTk):Bool:=decide (t.Kind=3∧t.Text=[c])
def vals (w:Bool) (r:List GTk):List GTk:=r.takeWhile (okV w)
def artF (len:Int) (r:List GTk):Except (Int × Nat) (GNode × Nat) :=
 if (pk len r).Kind=1∧arkB (pk len r).Text=true then
  if isPu 59 (pk len (r.drop (1+(vals true (r.drop 1)).length))) then .ok (⟨4,(pk len r).Text,0,(pk len r).At,(vals true (r.drop 1)).map vcs⟩,2+(vals true (r.drop 1)).length)
  else .error ((pk len (r.drop (1+(vals true (r.drop 1)).length))).At,1+(vals true (r.drop 1)).length)
 else .error ((pk len r).At,0)
def attF:Nat→List GTk→List (List PV) × Nat
 | 0,_=>([],0)
 | _+1,[]=>([],0)
 | f+1,t :: q=>if t.Kind=1∧attB t.Text=true then
   (GNode.cs ⟨3,t.Text,0,t.At,(vals false q).map vcs⟩ :: (attF f (q.drop (vals false q).length)).1,1+(vals false q).length+(attF f (q.drop (vals false q).length)).2)
  else ([],0)
def artsF:Nat→Int→List GDg→List GTk→List (List PV) × Nat × List GDg
 | 0,_,ds,_=>([],0,ds)
 | f+1,len,ds,r=>if 20≤ds.length then ([],0,ds) else if isPu 125 (pk len r) then ([],1,ds) else match artF len r with
  | .ok (x,k)=>let z:=artsF f len ds (r.drop k); (GNode.cs x :: z.1,k+z.2.1,z.2.2)
  | .error (e,k)=>let m:=skipF (r.drop k)
   if m.1 ≠ [59] then ([],k+m.2,ds++[⟨7,e⟩]) else
    let z:=artsF f len (ds++[⟨7,e⟩]) (r.drop (k+m.2)); (z.1,k+m.2+z.2.1,z.2.2)
def itemF (len:Int) (ds:List GDg) (r:List GTk):Except (Int × Nat) (GNode × Nat × List GDg) :=
 if (pk len r).Kind=1∧kinB (pk len r).Text ≠ 0 then
  if (pk len (r.drop 1)).Kind=1∧keyB (pk len (r.drop 1)).Text=false then
   let a:=attF (r.length+1) (r.drop 2)
   let t:=pk len (r.drop (2+a.2))
   if kinB (pk len r).Text=7 then
    if isPu 123 t then
     let z:=artsF (r.length+1) len ds (r.drop (3+a.2)); .ok (⟨2,(pk len (r.drop 1)).Text,7,(pk len r).At,a.1++z.1⟩,3+a.2+z.2.1,z.2.2)
    else .error (t.At,2+a.2)
   else if isPu 59 t then .ok (⟨2,(pk len (r.drop 1)).Text,kinB (pk len r).Text,(pk len r).At,a.1⟩,3+a.2,ds)
    else .error (t.At,2+a.2)
  else .error ((pk len (r.drop 1)).At,1)
 else .error ((pk len r).At,0)
def itemsF:Nat→Int→List GDg→List GTk→List (List PV) × List GDg
 | 0,_,ds,_=>([],ds)
 | f+1,len,ds,r=>if r=[]∨20≤ds.length then ([],ds) else match itemF len ds r with
  | .ok (x,k,ds')=>let z:=itemsF f len ds' (r.drop k); (GNode.cs x :: z.1,z.2)
  | .error (e,k)=>itemsF f len (ds++[⟨7,e⟩]) (r.drop (k+(skipF (r.drop k)).2))
theorem pu_b (c:UInt8) (t:GTk):(bif decide (t.Kind=3) then eqS t.Text [c] else false)=isPu c t:=by
 unfold isPu eqS
 by_cases h:t.Kind=3
 ·by_cases h2:t.Text=[c] <;> simp [h,h2]
 ·simp [h]
theorem pu_not (c:UInt8) (t:GTk):(bif decide (t.Kind=0) then true else !isPu c t)=!isPu c t:=by
 by_cases h:t.Kind=0
 ·have:isPu c t=false:=by unfold isPu; rw [dzF]; rintro ⟨h1,_⟩; omega
  rw [this,dzT h]; rfl
 ·rw [dzF h]; rfl
theorem while_bound (r:List GTk) (w:Bool):(vals w r).length≤r.length:=(List.takeWhile_prefix (okV w)).length_le
theorem drop_drop' (T:List GTk) (i k:Nat):T.drop (i+k)=(T.drop i).drop k:=(List.drop_drop ..).symm
theorem p_article (n:Nat) (T:List GTk) (i:Nat) (len:Int) (hT:T.length≤2100) (hi:i≤T.length) (hn:10000≤n) :
  g_p_reader_article n (⟨T,(i:Int),len,[]⟩:GPr)=some (match artF len (T.drop i) with
   | .ok (x,k)=>.ok (x,(⟨T,((i+k:Nat):Int),len,[]⟩:GPr))
   | .error (e,k)=>.error (e,(⟨T,((i+k:Nat):Int),len,[]⟩:GPr))):=by
 unfold g_p_reader_article
 simp only [p_peek,obs,eqI_d,p_isArticle,cond_some,p_fail,exc]
 unfold artF
 generalize ht:pk len (T.drop i)=t
 by_cases h1:t.Kind=1∧arkB t.Text=true
 rotate_left
 ·rw [if_neg h1]
  have:(bif decide (t.Kind=0) then true else !bif decide (t.Kind=1) then arkB t.Text else false)=true:=by
   by_cases a:t.Kind=1
   ·have b:arkB t.Text=false:=by
     cases hb:arkB t.Text
     ·rfl
     ·exact absurd ⟨a,hb⟩ h1
    rw [b,dzT a,dzF (by omega)]; rfl
   ·rw [dzF a]
    cases decide (t.Kind=0) <;> rfl
  rw [this,cond_true]
  simp
 rw [if_pos h1]
 have hlt:i < T.length:=by
  apply Classical.byContradiction
  intro h
  rw [List.drop_eq_nil_of_le (by omega)] at ht
  rw [← ht] at h1
  exact absurd h1.1 (by simp [pk,zTok])
 have hb:(bif decide (t.Kind=0) then true else !bif decide (t.Kind=1) then arkB t.Text else false)=false:=by
  rw [dzF (by omega),dzT h1.1,h1.2]; rfl
 rw [hb,cond_false]
 unfold g_p_reader_article_j2
 simp only [wi_id (x:=(i:Int)+1) (by omega) (by omega)]
 rw [show ((i:Int)+1)=((i+1:Nat):Int) from by omega,p_values2 n T (i+1) len [] hT (by omega) hn,obs]
 have hvl:=while_bound (T.drop (i+1)) true
 rw [List.length_drop] at hvl
 have hv:(T.drop (i+1)).takeWhile (okV true)=vals true ((T.drop i).drop 1):=by rw [drop_drop']; rfl
 rw [hv]
 rw [drop_drop' T i 1] at hvl
 generalize vals true ((T.drop i).drop 1)=v at hvl ⊢
 have hroom:roomB (List.length (v.map vcs)) 64=true:=by simp [roomB]; omega
 simp only [hroom,cond_true,obs,List.nil_append]
 rw [p_peek,obs]
 have hdd:T.drop (i+1+v.length)=(T.drop i).drop (1+v.length):=by rw [Nat.add_assoc,drop_drop']
 rw [hdd]
 simp only [eqI_d,cond_some,obs,pu_b,pu_not,p_fail,hdd]
 unfold g_p_reader_article_j6
 cases hp:isPu 59 (pk len ((T.drop i).drop (1+v.length)))
 ·simp only [Bool.not_false,cond_true,exc]
  rw [show i+1+v.length=i+(1+v.length) from by omega]
  simp
 ·simp only [Bool.not_true,cond_false,if_true]
  rw [wi_id (x:=((i+1+v.length:Nat):Int)+1) (by omega) (by omega),show (((i+1+v.length:Nat):Int)+1)=((i+(2+v.length):Nat):Int) from by omega]
theorem att_gen (T:List GTk) (len:Int) (hT:T.length≤2100)
  (B:(List (List PV) × List GTk × Int × Int × Int × List UInt8 × Int × Int→Option (List (List PV) × List GTk × Int × Int))→List (List PV) × List GTk × Int × Int × Int × List UInt8 × Int × Int→Option (List (List PV) × List GTk × Int × Int))
  (hB:∀ rec acc (i:Nat) (t:GTk),acc.length≤2100→i≤T.length→B rec (acc,T,(i:Int),len,t.Kind,t.Text,t.N,t.At)=if t.Kind=1∧attB t.Text=true then
    (if i < T.length then rec (acc++[GNode.cs (⟨3,t.Text,0,t.At,(vals false (T.drop (i+1))).map vcs⟩:GNode)],T,((i+1+(vals false (T.drop (i+1))).length:Nat):Int),len,(pk len (T.drop (i+1+(vals false (T.drop (i+1))).length))).Kind,(pk len (T.drop (i+1+(vals false (T.drop (i+1))).length))).Text,(pk len (T.drop (i+1+(vals false (T.drop (i+1))).length))).N,(pk len (T.drop (i+1+(vals false (T.drop (i+1))).length))).At) else B rec (acc,T,(i:Int),len,t.Kind,t.Text,t.N,t.At)) else some (acc,T,(i:Int),len)) :
  ∀ (m j i f:Nat) (acc:List (List PV)),T.length - i≤m→m < j→i≤T.length→acc.length≤i→T.length - i < f →
   loopN B j (acc,T,(i:Int),len,(pk len (T.drop i)).Kind,(pk len (T.drop i)).Text,(pk len (T.drop i)).N,(pk len (T.drop i)).At)=some (acc++(attF f (T.drop i)).1,T,((i+(attF f (T.drop i)).2:Nat):Int),len):=by
 intro m
 induction m with
 | zero =>
  intro j i f acc h1 h2 h3 h4 h5
  obtain ⟨j,rfl⟩:∃ j',j=j'+1:=⟨j - 1,by omega⟩
  obtain ⟨f,rfl⟩:∃ f',f=f'+1:=⟨f - 1,by omega⟩
  unfold loopN
  rw [hB _ _ _ _ (by omega) h3,List.drop_eq_nil_of_le (by omega)]
  rw [if_neg (by simp [pk,zTok])]
  simp [attF]
 | succ m ih =>
  intro j i f acc h1 h2 h3 h4 h5
  by_cases hi:i=T.length
  ·exact ih j i f acc (by omega) (by omega) h3 h4 h5
  obtain ⟨j,rfl⟩:∃ j',j=j'+1:=⟨j - 1,by omega⟩
  obtain ⟨f,rfl⟩:∃ f',f=f'+1:=⟨f - 1,by omega⟩
  unfold loopN
  rw [hB _ _ _ _ (by omega) h3]
  have hdr:=List.drop_eq_getElem_cons (show i < T.length by omega)
  generalize T[i]'(by omega)=t at hdr
  have hpk:pk len (T.drop i)=t:=by rw [hdr]; rfl
  rw [hpk]
  have hvl:=while_bound (T.drop (i+1)) false
  rw [List.length_drop] at hvl
  by_cases h:t.Kind=1∧attB t.Text=true
  ·rw [if_pos h,if_pos (by omega),ih j _ f _ (by omega) (by omega) (by omega) (by simp; omega) (by omega),hdr]
   have e:attF (f+1) (t :: T.drop (i+1))=(GNode.cs ⟨3,t.Text,0,t.At,(vals false (T.drop (i+1))).map vcs⟩ :: (attF f ((T.drop (i+1)).drop (vals false (T.drop (i+1))).length)).1,1+(vals false (T.drop (i+1))).length+(attF f ((T.drop (i+1)).drop (vals false (T.drop (i+1))).length)).2):=by
    conv=>lhs; unfold attF
    rw [if_pos h]
   rw [e,← drop_drop' T (i+1)]
   simp only [List.append_assoc,List.singleton_append]
   rw [show i+1+(vals false (T.drop (i+1))).length+(attF f (T.drop (i+1+(vals false (T.drop (i+1))).length))).2=i+(1+(vals false (T.drop (i+1))).length+(attF f (T.drop (i+1+(vals false (T.drop (i+1))).length))).2) from by omega]
  ·rw [if_neg h,hdr]
   have e:attF (f+1) (t :: T.drop (i+1))=([],0):=by
    conv=>lhs; unfold attF
    rw [if_neg h]
   rw [e]
   simp
theorem attF_fuel:∀ (f f':Nat) (r:List GTk),r.length < f→r.length < f'→attF f r=attF f' r
 | 0,_,_,h,_=>absurd h (Nat.not_lt_zero _)
 | _,0,_,_,h=>absurd h (Nat.not_lt_zero _)
 | f+1,f'+1,[],_,_=>rfl
 | f+1,f'+1,t :: q,h,h'=>by
  unfold attF
  have:(q.drop (vals false q).length).length≤q.length:=by rw [List.length_drop]; omega
  simp only [List.length_cons] at h h'
  rw [attF_fuel f f' _ (by omega) (by omega)]
theorem attF_le:∀ (f:Nat) (r:List GTk),(attF f r).2≤r.length
 | 0,_=>by simp [attF]
 | f+1,[]=>by simp [attF]
 | f+1,t :: q=>by
  have h1:=attF_le f (q.drop (vals false q).length)
  have h2:=while_bound q false
  rw [List.length_drop] at h1
  unfold attF
  split
  ·simp only [List.length_cons]; omega
  ·simp
theorem attF_len:∀ (f:Nat) (r:List GTk),(attF f r).1.length≤(attF f r).2
 | 0,_=>by simp [attF]
 | f+1,[]=>by simp [attF]
 | f+1,t :: q=>by
  have h1:=attF_len f (q.drop (vals false q).length)
  unfold attF
  split
  ·simp only [List.length_cons]; omega
  ·simp
theorem p_attrs (n:Nat) (T:List GTk) (i:Nat) (len:Int) (a0:GPr) (hT:T.length≤2100) (hi:i≤T.length) (hn:10000≤n) :
  loopN (fun recl38 (v:List (List PV) × List GTk × Int × Int × Int × List UInt8 × Int × Int)=>g_p_reader_item_l38 n a0 recl38 v.1 v.2.1 v.2.2.1 v.2.2.2.1 v.2.2.2.2.1 v.2.2.2.2.2.1 v.2.2.2.2.2.2.1 v.2.2.2.2.2.2.2) n ([],T,(i:Int),len,(pk len (T.drop i)).Kind,(pk len (T.drop i)).Text,(pk len (T.drop i)).N,(pk len (T.drop i)).At)=some ((attF (T.length - i+1) (T.drop i)).1,T,((i+(attF (T.length - i+1) (T.drop i)).2:Nat):Int),len):=by
 refine att_gen T len hT _ ?_ T.length n i _ [] (by omega) (by omega) hi (by simp) (by omega)
 intro rec acc i t ha hi
 show g_p_reader_item_l38 n a0 rec acc T (i:Int) len t.Kind t.Text t.N t.At=_
 by_cases hc:t.Kind=1∧attB t.Text=true
 rotate_left
 ·rw [if_neg hc]
  unfold g_p_reader_item_l38
  simp only [eqI_d,p_isAttr,obs,cond_some]
  have:(bif decide (t.Kind=1) then attB t.Text else false)=false:=by
   by_cases a:t.Kind=1
   ·cases hb:attB t.Text
    ·simp
    ·exact absurd ⟨a,hb⟩ hc
   ·rw [dzF a]; rfl
  rw [this,cond_false]
 rw [if_pos hc]
 by_cases hlt:i < T.length
 rotate_left
 ·rw [if_neg hlt]
 rw [if_pos hlt]
 unfold g_p_reader_item_l38
 simp only [eqI_d,p_isAttr,obs,cond_some]
 rw [dzT hc.1,hc.2,cond_true,cond_true,wi_id (x:=(i:Int)+1) (by omega) (by omega),show ((i:Int)+1)=((i+1:Nat):Int) from by omega,p_values n T (i+1) len [] hT (by omega) hn,obs]
 have hvl:=while_bound (T.drop (i+1)) false
 rw [List.length_drop] at hvl
 have hv:(T.drop (i+1)).takeWhile (okV false)=vals false (T.drop (i+1)):=rfl
 rw [hv]
 generalize vals false (T.drop (i+1))=v at hvl ⊢
 have hroom:roomB (List.length (v.map vcs)) 64=true:=by simp [roomB]; omega
 have hroom2:∀ x:List PV,roomB (List.length (acc++[x])) 64=true:=by intro x; simp [roomB]; omega
 simp only [hroom,hroom2,cond_true,obs,List.nil_append,p_peek2]
theorem p_attrs9 (n:Nat) (T:List GTk) (i:Nat) (len:Int) (a0:GPr) (hT:T.length≤2100) (hi:i≤T.length) (hn:10000≤n) :
  loopN (fun recl9 (v:List (List PV) × List GTk × Int × Int × Int × List UInt8 × Int × Int)=>g_p_reader_item_l9 n a0 recl9 v.1 v.2.1 v.2.2.1 v.2.2.2.1 v.2.2.2.2.1 v.2.2.2.2.2.1 v.2.2.2.2.2.2.1 v.2.2.2.2.2.2.2) n ([],T,(i:Int),len,(pk len (T.drop i)).Kind,(pk len (T.drop i)).Text,(pk len (T.drop i)).N,(pk len (T.drop i)).At)=some ((attF (T.length - i+1) (T.drop i)).1,T,((i+(attF (T.length - i+1) (T.drop i)).2:Nat):Int),len):=by
 have e:∀ recl v1 v2 v3 v4 v5 v6 v7 v8,g_p_reader_item_l9 n a0 recl v1 v2 v3 v4 v5 v6 v7 v8=g_p_reader_item_l38 n a0 recl v1 v2 v3 v4 v5 v6 v7 v8:=fun _ _ _ _ _ _ _ _ _=>rfl
 simp only [e]
 exact p_attrs n T i len a0 hT hi hn
end Go.Proofs
namespace Go.Proofs
open Go Go.Abs
set_option maxRecDepth 100000
set_option linter.unusedVariables false
theorem bind_of {α β:Type} {o:Option α} {f:α→Option β} {x:α} {b:Option β} (h:o=some x) (h2:f x=b):o.bind f=b:=by
 rw [h]; exact h2
theorem p_full (n:Nat) (r:GPr):g_p_reader_full n r=some (decide (20≤r.diags.length)):=by
 unfold g_p_reader_full
 simp only [leI,lenI,List.length_map]
 rw [show decide ((20:Int)≤(r.diags.length:Int))=decide (20≤r.diags.length) from decide_eq_decide.2 (by omega)]
theorem p_item1 (n:Nat) (w:List UInt8):g_p_reader_item_1 n w=some (!decide (kinB w=0)):=by
 unfold g_p_reader_item_1
 simp only [p_kindOf,obs,eqI_d]
theorem take_b (t:GTk) (b:Bool):(bif decide (t.Kind=0) then true else !bif decide (t.Kind=1) then b else false)=!(decide (t.Kind=1)&&b):=by
 by_cases h:t.Kind=0
 ·rw [dzT h,dzF (show ¬ t.Kind=1 by omega)]; rfl
 ·rw [dzF h]
  cases decide (t.Kind=1) <;> rfl
theorem pu_lt {c:UInt8} {len:Int} {r:List GTk} {j:Nat} (h:isPu c (pk len (r.drop j))=true):j < r.length:=by
 apply Classical.byContradiction
 intro hn
 rw [List.drop_eq_nil_of_le (by omega)] at h
 exact absurd (of_decide_eq_true h).1 (by simp [pk,zTok])
theorem k1_lt {len:Int} {r:List GTk} {j:Nat} (h:(pk len (r.drop j)).Kind=1):j < r.length:=by
 apply Classical.byContradiction
 intro hn
 rw [List.drop_eq_nil_of_le (by omega)] at h
 exact absurd h (by simp [pk,zTok])
theorem artF_ok {len:Int} {r:List GTk} {x:GNode} {k:Nat} (h:artF len r=.ok (x,k)):2≤k∧k≤r.length:=by
 unfold artF at h
 split at h
 ·split at h
  ·rename_i h2
   simp only [Except.ok.injEq,Prod.mk.injEq] at h
   have:=pu_lt h2
   omega
  ·cases h
 ·cases h
theorem artF_err {len e:Int} {r:List GTk} {k:Nat} (h:artF len r=.error (e,k)):k≤r.length:=by
 unfold artF at h
 split at h
 ·rename_i h1
  have h0:0 < r.length:=k1_lt (j:=0) (len:=len) h1.1
  split at h
  ·cases h
  ·simp only [Except.error.injEq,Prod.mk.injEq] at h
   have:=while_bound (r.drop 1) true
   rw [List.length_drop] at this
   omega
 ·simp only [Except.error.injEq,Prod.mk.injEq] at h
  omega
theorem skip_pos {l:List GTk} (h:l ≠ []):1≤(skipF l).2:=by
 cases l with
 | nil=>exact absurd rfl h
 | cons t r=>rw [skip_cons]; split <;> simp
theorem skip_ne {l:List GTk} (h:(skipF l).1 ≠ []):l ≠ []:=by rintro rfl; exact h rfl
theorem arts_step (n:Nat) (T:List GTk) (len:Int) (pre:List (List PV)) (hT:T.length≤2100) (hp:pre.length≤2100) (hn:10000≤n)
  (rec:(List (List PV) × List GTk × Int × Int × List GDg)→Option (List (List PV) × List GTk × Int × Int × List GDg)) (acc:List (List PV)) (i:Nat) (ds:List GDg) (hi:i≤T.length) (ha:acc.length≤i) (hds:ds.length≤20) :
  g_p_reader_item_l20 n pre rec acc T (i:Int) len ds=if 20≤ds.length then some (pre++acc,T,(i:Int),len,ds) else if isPu 125 (pk len (T.drop i)) then some (pre++acc,T,((i+1:Nat):Int),len,ds) else match artF len (T.drop i) with
   | .ok (x,k)=>rec (acc++[GNode.cs x],T,((i+k:Nat):Int),len,ds)
   | .error (e,k)=>if (skipF ((T.drop i).drop k)).1 ≠ [59] then some (pre++acc,T,((i+(k+(skipF ((T.drop i).drop k)).2):Nat):Int),len,ds++[⟨7,e⟩]) else rec (acc,T,((i+(k+(skipF ((T.drop i).drop k)).2):Nat):Int),len,ds++[⟨7,e⟩]):=by
 have hroom:roomB (pre.length+acc.length) 64=true:=by simp [roomB]; omega
 have hroom1:roomB (acc.length+1) 64=true:=by simp [roomB]; omega
 have hroom2:roomB (ds.length+1) 16=true:=by simp [roomB]; omega
 unfold g_p_reader_item_l20 g_p_reader_item_j19
 simp only [p_full,obs,p_peek2,eqI_d,cond_some,pu_b,List.nil_append,List.append_nil,List.length_append,hroom,cond_true,List.length_singleton,hroom1,hroom2]
 by_cases hf:20≤ds.length
 ·rw [dzT hf,if_pos hf]; rfl
 rw [dzF hf,if_neg hf]
 simp only [Bool.not_false,cond_true]
 cases hb:isPu 125 (pk len (T.drop i))
 rotate_left
 ·simp only [cond_true,if_true]
  have:=pu_lt hb
  rw [wi_id (x:=(i:Int)+1) (by omega) (by omega)]
  rfl
 simp only [cond_false,Bool.false_eq_true,if_false]
 rw [p_article n T i len hT hi hn]
 cases hA:artF len (T.drop i) with
 | ok y =>
  obtain ⟨x,k⟩:=y
  simp only [obs,exc,cond_true]
 | error y =>
  obtain ⟨e,k⟩:=y
  have hk:=artF_err hA
  rw [List.length_drop] at hk
  simp only [obs,exc]
  rw [p_skip n T (i+k) len [] hT (by omega) hn]
  simp only [obs,cond_false]
  rw [drop_drop']
  generalize skipF ((T.drop i).drop k)=m
  rw [show i+k+m.2=i+(k+m.2) from by omega]
  by_cases h59:m.1=[59]
  ·rw [if_neg (by simpa using h59),show eqS m.1 [59]=true from by simp [eqS,h59]]; rfl
  ·rw [if_pos h59,show eqS m.1 [59]=false from by simp [eqS,h59]]; rfl
theorem arts_gen (n:Nat) (T:List GTk) (len:Int) (pre:List (List PV)) (hT:T.length≤2100) (hp:pre.length≤2100) (hn:10000≤n) :
  ∀ (j i f:Nat) (acc:List (List PV)) (ds:List GDg),T.length - i < j→i≤T.length→acc.length≤i→ds.length≤20→T.length - i < f →
   loopN (fun recl20 (v:List (List PV) × List GTk × Int × Int × List GDg)=>g_p_reader_item_l20 n pre recl20 v.1 v.2.1 v.2.2.1 v.2.2.2.1 v.2.2.2.2) j (acc,T,(i:Int),len,ds)=some (pre++(acc++(artsF f len ds (T.drop i)).1),T,((i+(artsF f len ds (T.drop i)).2.1:Nat):Int),len,(artsF f len ds (T.drop i)).2.2):=by
 intro j
 induction j with
 | zero=>intro i f acc ds h; omega
 | succ j ih =>
  intro i f acc ds h1 h2 h3 h4 h5
  obtain ⟨f,rfl⟩:∃ f',f=f'+1:=⟨f - 1,by omega⟩
  have e:artsF (f+1) len ds (T.drop i)=if 20≤ds.length then ([],0,ds) else if isPu 125 (pk len (T.drop i)) then ([],1,ds) else match artF len (T.drop i) with
   | .ok (x,k)=>let z:=artsF f len ds ((T.drop i).drop k); (GNode.cs x :: z.1,k+z.2.1,z.2.2)
   | .error (e,k)=>let m:=skipF ((T.drop i).drop k)
    if m.1 ≠ [59] then ([],k+m.2,ds++[⟨7,e⟩]) else
     let z:=artsF f len (ds++[⟨7,e⟩]) ((T.drop i).drop (k+m.2)); (z.1,k+m.2+z.2.1,z.2.2):=rfl
  unfold loopN
  generalize loopN (fun recl20 (v:List (List PV) × List GTk × Int × Int × List GDg)=>g_p_reader_item_l20 n pre recl20 v.1 v.2.1 v.2.2.1 v.2.2.2.1 v.2.2.2.2) j=L at ih ⊢
  show g_p_reader_item_l20 n pre L acc T (i:Int) len ds=_
  rw [arts_step n T len pre hT hp hn L acc i ds h2 h3 h4,e]
  by_cases hf:20≤ds.length
  ·simp [if_pos hf]
  rw [if_neg hf,if_neg hf]
  by_cases hb:isPu 125 (pk len (T.drop i))=true
  ·simp [if_pos hb]
  rw [if_neg hb,if_neg hb]
  cases hA:artF len (T.drop i) with
  | ok y =>
   obtain ⟨x,k⟩:=y
   have hk:=artF_ok hA
   rw [List.length_drop] at hk
   simp only
   rw [ih (i+k) f _ _ (by omega) (by omega) (by simp; omega) h4 (by omega),drop_drop']
   simp only [List.append_assoc,List.singleton_append]
   rw [show i+k+(artsF f len ds ((T.drop i).drop k)).2.1=i+(k+(artsF f len ds ((T.drop i).drop k)).2.1) from by omega]
  | error y =>
   obtain ⟨e,k⟩:=y
   have hk:=artF_err hA
   rw [List.length_drop] at hk
   simp only
   have hs:=skip_le ((T.drop i).drop k)
   rw [List.length_drop,List.length_drop] at hs
   by_cases h59:(skipF ((T.drop i).drop k)).1 ≠ [59]
   ·rw [if_pos h59,if_pos h59]; simp
   ·rw [if_neg h59,if_neg h59]
    have hne:=skip_pos (skip_ne (l:=(T.drop i).drop k) (by rw [Classical.not_not.1 h59]; simp))
    generalize skipF ((T.drop i).drop k)=m at hs hne
    rw [ih (i+(k+m.2)) f _ _ (by omega) (by omega) (by omega) (by simp; omega) (by omega),drop_drop']
    simp only
    rw [show i+(k+m.2)+(artsF f len (ds++[⟨7,e⟩]) ((T.drop i).drop (k+m.2))).2.1=i+(k+m.2+(artsF f len (ds++[⟨7,e⟩]) ((T.drop i).drop (k+m.2))).2.1) from by omega]
theorem artsF_le:∀ (f:Nat) (len:Int) (ds:List GDg) (r:List GTk),(artsF f len ds r).2.1≤r.length∧(artsF f len ds r).1.length≤(artsF f len ds r).2.1∧(ds.length≤20→(artsF f len ds r).2.2.length≤20)
 | 0,_,_,r=>by simp [artsF]
 | f+1,len,ds,r=>by
  have e:artsF (f+1) len ds r=if 20≤ds.length then ([],0,ds) else if isPu 125 (pk len r) then ([],1,ds) else match artF len r with
   | .ok (x,k)=>let z:=artsF f len ds (r.drop k); (GNode.cs x :: z.1,k+z.2.1,z.2.2)
   | .error (e,k)=>let m:=skipF (r.drop k)
    if m.1 ≠ [59] then ([],k+m.2,ds++[⟨7,e⟩]) else
     let z:=artsF f len (ds++[⟨7,e⟩]) (r.drop (k+m.2)); (z.1,k+m.2+z.2.1,z.2.2):=rfl
  rw [e]
  by_cases hf:20≤ds.length
  ·simp [if_pos hf]
  rw [if_neg hf]
  by_cases hb:isPu 125 (pk len r)=true
  ·have:0 < r.length:=pu_lt (j:=0) hb
   rw [if_pos hb]
   exact ⟨this,by simp,fun h=>h⟩
  rw [if_neg hb]
  cases hA:artF len r with
  | ok y =>
   obtain ⟨x,k⟩:=y
   have hk:=artF_ok hA
   have:=artsF_le f len ds (r.drop k)
   rw [List.length_drop] at this
   simp only [List.length_cons]
   omega
  | error y =>
   obtain ⟨e,k⟩:=y
   have hk:=artF_err hA
   simp only
   have hs:=skip_le (r.drop k)
   rw [List.length_drop] at hs
   generalize skipF (r.drop k)=m at hs
   by_cases h59:m.1 ≠ [59]
   ·rw [if_pos h59]; simp; omega
   ·rw [if_neg h59]
    have:=artsF_le f len (ds++[⟨7,e⟩]) (r.drop (k+m.2))
    rw [List.length_drop] at this
    simp only [List.length_append,List.length_singleton] at this ⊢
    omega
theorem p_item (n:Nat) (T:List GTk) (i:Nat) (len:Int) (ds:List GDg) (hT:T.length≤2100) (hi:i≤T.length) (hds:ds.length≤20) (hn:10000≤n) :
  g_p_reader_item n (⟨T,(i:Int),len,ds⟩:GPr)=some (match itemF len ds (T.drop i) with
   | .ok (x,k,ds')=>.ok (x,(⟨T,((i+k:Nat):Int),len,ds'⟩:GPr))
   | .error (e,k)=>.error (e,(⟨T,((i+k:Nat):Int),len,ds⟩:GPr))):=by
 unfold g_p_reader_item
 simp only [p_peek2,obs,eqI_d,p_item1,cond_some,take_b,p_fail2,exc]
 unfold itemF
 have e0:pk len (T.drop i)=pk len ((T.drop i).drop 0):=rfl
 by_cases h1:(pk len (T.drop i)).Kind=1∧kinB (pk len (T.drop i)).Text ≠ 0
 rotate_left
 ·rw [if_neg h1]
  have:(decide ((pk len (T.drop i)).Kind=1)&&!decide (kinB (pk len (T.drop i)).Text=0))=false:=by
   rw [Bool.eq_false_iff]
   intro h
   simp only [bae,decide_eq_true_eq,Bool.not_eq_true',decide_eq_false_iff_not] at h
   exact h1 h
  rw [this]
  rfl
 rw [if_pos h1]
 have hl1:i < T.length:=by
  have:=k1_lt (len:=len) (r:=T) (j:=i) h1.1
  exact this
 have:(decide ((pk len (T.drop i)).Kind=1)&&!decide (kinB (pk len (T.drop i)).Text=0))=true:=by
  rw [dzT h1.1,dzF h1.2]; rfl
 rw [this]
 simp only [Bool.not_true,cond_false]
 unfold g_p_reader_item_j2
 simp only
 rw [wi_id (x:=(i:Int)+1) (by omega) (by omega),show ((i:Int)+1)=((i+1:Nat):Int) from by omega]
 simp only [p_peek2,obs,eqI_d,p_notKey,cond_some,take_b,p_fail2,exc]
 rw [show T.drop (i+1)=(T.drop i).drop 1 from drop_drop' ..]
 by_cases h2:(pk len ((T.drop i).drop 1)).Kind=1∧keyB (pk len ((T.drop i).drop 1)).Text=false
 rotate_left
 ·rw [if_neg h2]
  have:(decide ((pk len ((T.drop i).drop 1)).Kind=1)&&!keyB (pk len ((T.drop i).drop 1)).Text)=false:=by
   rw [Bool.eq_false_iff]
   intro h
   simp only [bae,decide_eq_true_eq,Bool.not_eq_true'] at h
   exact h2 h
  rw [this]
  rfl
 rw [if_pos h2]
 have hl2:i+1 < T.length:=by
  have:=h2.1
  rw [← drop_drop'] at this
  exact k1_lt (len:=len) (r:=T) (j:=i+1) this
 have:(decide ((pk len ((T.drop i).drop 1)).Kind=1)&&!keyB (pk len ((T.drop i).drop 1)).Text)=true:=by
  rw [dzT h2.1,h2.2]; rfl
 rw [this]
 simp only [Bool.not_true,cond_false]
 unfold g_p_reader_item_j4
 simp only [p_kindOf,obs,eqI_d]
 rw [wi_id (x:=(i:Int)+1) (by omega) (by omega),show ((i:Int)+1)=((i+1:Nat):Int) from by omega,wi_id (x:=((i+1:Nat):Int)+1) (by omega) (by omega),show (((i+1:Nat):Int)+1)=((i+2:Nat):Int) from by omega]
 have hat:=p_attrs n T (i+2) len ⟨T,(i:Int),len,ds⟩ hT (by omega) hn
 have hat9:=p_attrs9 n T (i+2) len ⟨T,(i:Int),len,ds⟩ hT (by omega) hn
 have hl:(T.drop i).length=T.length - i:=List.length_drop
 have hF:attF (T.length - (i+2)+1) (T.drop (i+2))=attF ((T.drop i).length+1) ((T.drop i).drop 2):=by
  rw [← drop_drop',attF_fuel _ ((T.drop i).length+1) _ (by rw [List.length_drop]; omega) (by rw [List.length_drop]; omega)]
 rw [hF] at hat hat9
 have hal:(attF ((T.drop i).length+1) ((T.drop i).drop 2)).2≤T.length - i - 2:=Nat.le_trans (attF_le ..) (by rw [List.length_drop,hl]; omega)
 have hal2:=attF_len ((T.drop i).length+1) ((T.drop i).drop 2)
 generalize attF ((T.drop i).length+1) ((T.drop i).drop 2)=a at hat hat9 hal hal2 ⊢
 have hroom:roomB (List.length a.1) 64=true:=by simp [roomB]; omega
 by_cases h7:kinB (pk len (T.drop i)).Text=7
 ·rw [dzT h7,cond_true]
  simp only [p_peek2,obs]
  refine bind_of hat9 ?_
  show cond (roomB (List.length ([]++a.1)) 64) _ _=_
  rw [List.nil_append,hroom,cond_true]
  simp only [p_peek2,obs,cond_some,pu_b,pu_not,p_fail2,exc]
  rw [show T.drop (i+2+a.2)=(T.drop i).drop (2+a.2) from by rw [Nat.add_assoc,drop_drop']]
  rw [if_pos h7]
  cases hp:isPu 123 (pk len ((T.drop i).drop (2+a.2)))
  ·simp only [Bool.not_false,cond_true]
   rw [show i+2+a.2=i+(2+a.2) from by omega]
   simp
  ·have hlt:=pu_lt hp
   simp only [Bool.not_true,cond_false,if_true]
   unfold g_p_reader_item_j17
   simp only [List.nil_append,List.append_nil,hroom,cond_true]
   rw [wi_id (x:=((i+2+a.2:Nat):Int)+1) (by omega) (by omega),show (((i+2+a.2:Nat):Int)+1)=((i+(3+a.2):Nat):Int) from by omega]
   have hg:=arts_gen n T len a.1 hT (by omega) hn n (i+(3+a.2)) ((T.drop i).length+1) [] ds (by omega) (by omega) (by simp) hds (by omega)
   refine bind_of hg ?_
   show g_p_reader_item_j6 _ _ _ _ _ _ _ _=_
   unfold g_p_reader_item_j6
   rw [List.nil_append,drop_drop',h7]
   generalize artsF ((T.drop i).length+1) len ds ((T.drop i).drop (3+a.2))=z
   rw [show i+(3+a.2)+z.2.1=i+(3+a.2+z.2.1) from by omega]
 ·rw [dzF h7,cond_false]
  simp only [p_peek2,obs]
  refine bind_of hat ?_
  show cond (roomB (List.length ([]++a.1)) 64) _ _=_
  rw [List.nil_append,hroom,cond_true]
  simp only [p_peek2,obs,cond_some,pu_b,pu_not,p_fail2,exc]
  rw [show T.drop (i+2+a.2)=(T.drop i).drop (2+a.2) from by rw [Nat.add_assoc,drop_drop']]
  rw [if_neg h7]
  cases hp:isPu 59 (pk len ((T.drop i).drop (2+a.2)))
  ·simp only [Bool.not_false,cond_true]
   rw [show i+2+a.2=i+(2+a.2) from by omega]
   simp
  ·have hlt:=pu_lt hp
   simp only [Bool.not_true,cond_false,if_true]
   unfold g_p_reader_item_j46 g_p_reader_item_j35
   simp only [List.nil_append,List.append_nil,hroom,cond_true]
   rw [wi_id (x:=((i+2+a.2:Nat):Int)+1) (by omega) (by omega),show (((i+2+a.2:Nat):Int)+1)=((i+(3+a.2):Nat):Int) from by omega]
end Go.Proofs
namespace Go.Proofs
open Go Go.Abs
set_option maxRecDepth 100000
set_option linter.unusedVariables false
theorem whl_app {α:Type} {p:α→Bool}:∀ (a r:List α),(∀ x ∈ a,p x=true)→(∀ d ∈ r.head?,p d=false)→(a++r).takeWhile p=a
 | [],r,_,hr=>by
  cases r with
  | nil=>rfl
  | cons d r=>simp [hr d rfl]
 | c :: a,r,h,hr=>by
  have h1:=h c (by simp)
  simp [h1,whl_app a r (fun x hx=>h x (by simp [hx])) hr]
theorem whl_all {α:Type} {p:α→Bool} (l:List α):∀ x ∈ l.takeWhile p,p x=true:=by
 induction l with
 | nil=>intro x hx; cases hx
 | cons c r ih =>
  intro x hx
  rw [List.takeWhile_cons] at hx
  split at hx
  ·rename_i h
   rcases List.mem_cons.1 hx with rfl | hx
   ·exact h
   ·exact ih x hx
  ·cases hx
theorem whl_split {α:Type} {p:α→Bool} (l:List α):l=l.takeWhile p++l.drop (l.takeWhile p).length:=by
 induction l with
 | nil=>rfl
 | cons c r ih =>
  rw [List.takeWhile_cons]
  split
  ·simp only [List.cons_append,List.length_cons,List.drop_succ_cons,List.cons.injEq,true_and]; exact ih
  ·rfl
inductive ArtT:List GTk→GNode→Prop
 | mk {t e:GTk} {v:List GTk}:t.Kind=1→arkB t.Text=true→(∀ x ∈ v,okV true x=true)→isPu 59 e=true→ArtT (t :: (v++[e])) ⟨4,t.Text,0,t.At,v.map vcs⟩
inductive Atts:List GTk→List (List PV)→Prop
 | nil:Atts [] []
 | cons {t:GTk} {v r:List GTk} {xs:List (List PV)}:t.Kind=1→attB t.Text=true→(∀ x ∈ v,okV false x=true)→Atts r xs→Atts (t :: (v++r)) (GNode.cs ⟨3,t.Text,0,t.At,v.map vcs⟩ :: xs)
inductive Arts:List GTk→List (List PV)→Prop
 | nil {e:GTk}:isPu 125 e=true→Arts [e] []
 | cons {a r:List GTk} {x:GNode} {xs:List (List PV)}:ArtT a x→Arts r xs→Arts (a++r) (GNode.cs x :: xs)
inductive ItemT:List GTk→GNode→Prop
 | plain {t m e:GTk} {a:List GTk} {xs:List (List PV)}:t.Kind=1→kinB t.Text ≠ 0→kinB t.Text ≠ 7→m.Kind=1→keyB m.Text=false→Atts a xs→isPu 59 e=true→ItemT (t :: m :: (a++[e])) ⟨2,m.Text,kinB t.Text,t.At,xs⟩
 | tariff {t m e:GTk} {a b:List GTk} {xs ys:List (List PV)}:t.Kind=1→kinB t.Text=7→m.Kind=1→keyB m.Text=false→Atts a xs→isPu 123 e=true→Arts b ys→ItemT (t :: m :: (a++e :: b)) ⟨2,m.Text,7,t.At,xs++ys⟩
inductive Items:List GTk→List (List PV)→Prop
 | nil:Items [] []
 | cons {a r:List GTk} {x:GNode} {xs:List (List PV)}:ItemT a x→Items r xs→Items (a++r) (GNode.cs x :: xs)
theorem pu_kind {c:UInt8} {t:GTk} (h:isPu c t=true):t.Kind=3∧t.Text=[c]:=of_decide_eq_true h
theorem pu_ok {c:UInt8} {t:GTk} (h:isPu c t=true) (w:Bool):okV w t=false:=by
 have:=(pu_kind h).1
 simp [okV,this]
theorem att_key {t:GTk} (h:attB t.Text=true):keyB t.Text=true:=by rw [key_split,h]; simp
theorem att_ok {t:GTk} (h1:t.Kind=1) (h:attB t.Text=true):okV false t=false:=by
 simp [okV,h1,att_key h]
theorem pk_cons (len:Int) (t:GTk) (r:List GTk):pk len (t :: r)=t:=rfl
theorem drop_len {α:Type} (a b:List α) (k:Nat) (h:k=a.length):(a++b).drop k=b:=by subst h; exact List.drop_left
theorem artF_A {a:List GTk} {x:GNode} (h:ArtT a x) (len:Int) (q:List GTk):artF len (a++q)=.ok (x,a.length):=by
 cases h with
 | @mk t e v h1 h2 h3 h4 =>
  have hv:vals true (v++(e :: q))=v:=whl_app _ _ h3 fun d hd=>by
   simp only [List.head?_cons,Option.mem_def,sie] at hd
   subst hd; exact pu_ok h4 true
  unfold artF
  simp only [List.cons_append,List.append_assoc,List.nil_append,pk_cons,List.drop_succ_cons,List.drop_zero]
  rw [if_pos ⟨h1,h2⟩,hv,Nat.add_comm 1,List.drop_succ_cons,drop_len v _ _ rfl,pk_cons,if_pos h4]
  simp only [List.length_cons,List.length_append,List.length_nil]
  rw [show 2+v.length=v.length+(0+1)+1 from by omega]
theorem artF_B {len:Int} {r:List GTk} {x:GNode} {k:Nat} (h:artF len r=.ok (x,k)):∃ a q,r=a++q∧a.length=k∧ArtT a x:=by
 unfold artF at h
 split at h
 ·rename_i h1
  split at h
  ·rename_i h2
   simp only [Except.ok.injEq,Prod.mk.injEq] at h
   obtain ⟨rfl,rfl⟩:=h
   have h0:0 < r.length:=k1_lt (j:=0) (len:=len) h1.1
   cases r with
   | nil=>exact absurd h0 (by simp)
   | cons t r =>
    simp only [pk_cons,List.drop_succ_cons,List.drop_zero] at h1 h2 ⊢
    rw [Nat.add_comm 1,List.drop_succ_cons] at h2
    have hs:=whl_split (p:=okV true) r
    have ha:=whl_all (p:=okV true) r
    unfold vals at h2 ⊢
    generalize r.takeWhile (okV true)=v at hs ha h2 ⊢
    cases hq:r.drop v.length with
    | nil=>rw [hq] at h2; exact absurd (pu_kind h2).1 (by simp [pk,zTok])
    | cons e q =>
     rw [hq,pk_cons] at h2
     rw [hq] at hs
     refine ⟨t :: (v++[e]),q,by rw [hs]; simp,by simp; omega, .mk h1.1 h1.2 ha h2⟩
  ·cases h
 ·cases h
theorem atts_head {l:List GTk} {xs:List (List PV)} (h:Atts l xs) (q:List GTk) (hq:∀ d ∈ q.head?,okV false d=false):∀ d ∈ (l++q).head?,okV false d=false:=by
 cases h with
 | nil=>exact hq
 | cons h1 h2 _ _ =>
  intro d hd
  simp only [List.cons_append,List.head?_cons,Option.mem_def,sie] at hd
  subst hd; exact att_ok h1 h2
theorem attF_A {l:List GTk} {xs:List (List PV)} (h:Atts l xs):∀ (f:Nat) (q:List GTk),(l++q).length < f→(∀ d ∈ q.head?,okV false d=false∧¬ (d.Kind=1∧attB d.Text=true))→attF f (l++q)=(xs,l.length):=by
 induction h with
 | nil =>
  intro f q hf hq
  obtain ⟨f,rfl⟩:∃ f',f=f'+1:=⟨f - 1,by omega⟩
  cases q with
  | nil=>rfl
  | cons d q =>
   have:=(hq d rfl).2
   rw [List.nil_append]
   unfold attF
   rw [if_neg this]
   rfl
 | @cons t v r xs h1 h2 h3 h4 ih =>
  intro f q hf hq
  obtain ⟨f,rfl⟩:∃ f',f=f'+1:=⟨f - 1,by omega⟩
  have hv:vals false (v++(r++q))=v:=whl_app _ _ h3 (atts_head h4 q fun d hd=>(hq d hd).1)
  simp only [List.cons_append,List.append_assoc,List.length_cons,List.length_append] at hf ⊢
  have e:∀ f t q,attF (f+1) (t :: q)=if t.Kind=1∧attB t.Text=true then
   (GNode.cs ⟨3,t.Text,0,t.At,(vals false q).map vcs⟩ :: (attF f (q.drop (vals false q).length)).1,1+(vals false q).length+(attF f (q.drop (vals false q).length)).2)
   else ([],0):=fun _ _ _=>rfl
  rw [e,if_pos ⟨h1,h2⟩,hv,drop_len v _ _ rfl,ih f q (by simp only [List.length_append]; omega) hq]
  simp only
  rw [show 1+v.length+r.length=v.length+r.length+1 from by omega]
theorem attF_B:∀ (f:Nat) (r:List GTk),r.length < f→∃ a q,r=a++q∧a.length=(attF f r).2∧Atts a (attF f r).1∧∀ d ∈ q.head?,¬ (d.Kind=1∧attB d.Text=true)
 | 0,_,h=>absurd h (Nat.not_lt_zero _)
 | f+1,[],_=>⟨[],[],rfl,rfl, .nil,fun d hd=>by cases hd⟩
 | f+1,t :: r,hf=>by
  have e:attF (f+1) (t :: r)=if t.Kind=1∧attB t.Text=true then
   (GNode.cs ⟨3,t.Text,0,t.At,(vals false r).map vcs⟩ :: (attF f (r.drop (vals false r).length)).1,1+(vals false r).length+(attF f (r.drop (vals false r).length)).2)
   else ([],0):=rfl
  rw [e]
  simp only [List.length_cons] at hf
  by_cases h:t.Kind=1∧attB t.Text=true
  ·rw [if_pos h]
   have hs:=whl_split (p:=okV false) r
   have ha:=whl_all (p:=okV false) r
   unfold vals
   generalize r.takeWhile (okV false)=v at hs ha ⊢
   obtain ⟨a,q,e1,e2,e3,e4⟩:=attF_B f (r.drop v.length) (by rw [List.length_drop]; omega)
   refine ⟨t :: (v++a),q,?_,?_, .cons h.1 h.2 ha e3,e4⟩
   ·rw [hs,e1]; simp
   ·simp only [List.length_cons,List.length_append,e2]; omega
  ·rw [if_neg h]
   exact ⟨[],t :: r,rfl,rfl, .nil,fun d hd=>by simp only [List.head?_cons,Option.mem_def,sie] at hd; subst hd; exact h⟩
theorem artsF_e (f:Nat) (len:Int) (ds:List GDg) (r:List GTk):artsF (f+1) len ds r=if 20≤ds.length then ([],0,ds) else if isPu 125 (pk len r) then ([],1,ds) else match artF len r with
      | .ok (x,k)=>let z:=artsF f len ds (r.drop k); (GNode.cs x :: z.1,k+z.2.1,z.2.2)
      | .error (e,k)=>let m:=skipF (r.drop k)
        if m.1 ≠ [59] then ([],k+m.2,ds++[⟨7,e⟩]) else
          let z:=artsF f len (ds++[⟨7,e⟩]) (r.drop (k+m.2)); (z.1,k+m.2+z.2.1,z.2.2):=rfl
theorem art_head {a:List GTk} {x:GNode} (h:ArtT a x) (len:Int) (q:List GTk):isPu 125 (pk len (a++q))=false:=by
 cases h with
 | mk h1 h2 h3 h4=>exact dzF (by rintro ⟨h,_⟩; rw [List.cons_append,pk_cons] at h; omega)
theorem artsF_A {l:List GTk} {xs:List (List PV)} (h:Arts l xs):∀ (f:Nat) (len:Int) (ds:List GDg) (q:List GTk),(l++q).length < f→ds.length < 20→artsF f len ds (l++q)=(xs,l.length,ds):=by
 induction h with
 | nil he =>
  intro f len ds q hf hd
  obtain ⟨f,rfl⟩:∃ f',f=f'+1:=⟨f - 1,by omega⟩
  rw [artsF_e,if_neg (by omega),List.singleton_append,pk_cons,if_pos he]
  rfl
 | @cons a r x xs ha h ih =>
  intro f len ds q hf hd
  obtain ⟨f,rfl⟩:∃ f',f=f'+1:=⟨f - 1,by omega⟩
  have hp:=art_head ha len (r++q)
  have hpos:0 < a.length:=by cases ha; simp
  simp only [List.append_assoc,List.length_append] at hf ⊢
  rw [artsF_e,if_neg (by omega),hp,artF_A ha]
  simp only [Bool.false_eq_true,if_false]
  rw [drop_len a _ _ rfl,ih f len ds q (by simp only [List.length_append]; omega) hd]
theorem artsF_mono:∀ (f:Nat) (len:Int) (ds:List GDg) (r:List GTk),ds.length≤(artsF f len ds r).2.2.length
 | 0,_,_,r=>by simp [artsF]
 | f+1,len,ds,r=>by
  rw [artsF_e]
  split
  ·exact Nat.le_refl _
  split
  ·exact Nat.le_refl _
  split
  ·exact artsF_mono f len ds _
  ·simp only
   split
   ·simp
   ·refine Nat.le_trans ?_ (artsF_mono f len _ _)
    simp
theorem artsF_pre:∀ (f:Nat) (len:Int) (ds:List GDg) (r:List GTk),∃ es,(artsF f len ds r).2.2=ds++es
 | 0,_,_,r=>⟨[],by simp [artsF]⟩
 | f+1,len,ds,r=>by
  rw [artsF_e]
  split
  ·exact ⟨[],by simp⟩
  split
  ·exact ⟨[],by simp⟩
  split
  ·exact artsF_pre f len ds _
  ·rename_i e k _
   simp only
   split
   ·exact ⟨[⟨7,e⟩],rfl⟩
   ·obtain ⟨es,h⟩:=artsF_pre f len (ds++[(⟨7,e⟩:GDg)]) (r.drop (k+(skipF (r.drop k)).2))
    exact ⟨⟨7,e⟩ :: es,by rw [h]; simp⟩
theorem itemF_pre {len:Int} {ds ds':List GDg} {r:List GTk} {x:GNode} {k:Nat} (h:itemF len ds r=.ok (x,k,ds')):∃ es,ds'=ds++es:=by
 unfold itemF at h
 split at h
 rotate_left
 ·cases h
 split at h
 rotate_left
 ·cases h
 simp only at h
 generalize attF (r.length+1) (r.drop 2)=A at h
 split at h
 ·split at h
  rotate_left
  ·cases h
  simp only [Except.ok.injEq,Prod.mk.injEq] at h
  obtain ⟨rfl,rfl,rfl⟩:=h
  exact artsF_pre _ _ _ _
 ·split at h
  rotate_left
  ·cases h
  simp only [Except.ok.injEq,Prod.mk.injEq] at h
  obtain ⟨rfl,rfl,rfl⟩:=h
  exact ⟨[],by simp⟩
theorem itemF_ds {len:Int} {ds ds':List GDg} {r:List GTk} {x:GNode} {k:Nat} (h:itemF len ds r=.ok (x,k,ds')) (hl:ds'.length≤ds.length):ds'=ds:=by
 obtain ⟨es,rfl⟩:=itemF_pre h
 rw [List.length_append] at hl
 have:es=[]:=List.eq_nil_of_length_eq_zero (by omega)
 rw [this,List.append_nil]
theorem artsF_B:∀ (f:Nat) (len:Int) (ds:List GDg) (r:List GTk),r.length < f→ds.length < 20→(artsF f len ds r).2.2=ds→∃ a q,r=a++q∧a.length=(artsF f len ds r).2.1∧Arts a (artsF f len ds r).1
 | 0,_,_,_,h,_,_=>absurd h (Nat.not_lt_zero _)
 | f+1,len,ds,r,hf,hd,he=>by
  rw [artsF_e] at he ⊢
  rw [if_neg (by omega)] at he ⊢
  by_cases hb:isPu 125 (pk len r)=true
  ·rw [if_pos hb]
   have:0 < r.length:=pu_lt (j:=0) hb
   cases r with
   | nil=>exact absurd this (by simp)
   | cons t q=>exact ⟨[t],q,rfl,rfl, .nil hb⟩
  rw [if_neg hb] at he ⊢
  cases hA:artF len r with
  | ok y =>
   obtain ⟨x,k⟩:=y
   rw [hA] at he
   simp only at he ⊢
   obtain ⟨a,q,rfl,rfl,ha⟩:=artF_B hA
   have hpos:0 < a.length:=by cases ha; simp
   rw [drop_len a _ _ rfl] at he ⊢
   simp only [List.length_append] at hf
   obtain ⟨b,q',e1,e2,e3⟩:=artsF_B f len ds q (by omega) hd he
   exact ⟨a++b,q',by rw [e1]; simp,by rw [List.length_append,e2], .cons ha e3⟩
  | error y =>
   obtain ⟨e,k⟩:=y
   rw [hA] at he
   simp only at he
   exfalso
   split at he
   ·have:=congrArg List.length he
    simp at this
   ·have:=artsF_mono f len (ds++[(⟨7,e⟩:GDg)]) (r.drop (k+(skipF (r.drop k)).2))
    rw [he] at this
    simp at this
    omega
theorem itemF_A {a:List GTk} {x:GNode} (h:ItemT a x) (len:Int) (ds:List GDg) (q:List GTk) (hd:ds.length < 20):itemF len ds (a++q)=.ok (x,a.length,ds):=by
 cases h with
 | @plain t m e a xs h1 h2 h3 h4 h5 h6 h7 =>
  have he:∀ d ∈ (e :: q).head?,okV false d=false∧¬ (d.Kind=1∧attB d.Text=true):=by
   intro d hd
   simp only [List.head?_cons,Option.mem_def,sie] at hd
   subst hd
   exact ⟨pu_ok h7 false,fun h=>by have:=(pu_kind h7).1; omega⟩
  unfold itemF
  simp only [List.cons_append,List.append_assoc,List.nil_append,pk_cons,List.drop_succ_cons,List.drop_zero,List.length_cons]
  rw [if_pos ⟨h1,h2⟩,if_pos ⟨h4,h5⟩,attF_A h6 _ (e :: q) (by omega) he,if_neg h3]
  simp only
  rw [Nat.add_comm 2,List.drop_succ_cons,List.drop_succ_cons,drop_len a _ _ rfl,pk_cons,if_pos h7]
  simp only [List.length_append,List.length_cons,List.length_nil]
  rw [show 3+a.length=a.length+(0+1)+1+1 from by omega]
 | @tariff t m e a b xs ys h1 h2 h4 h5 h6 h7 h8 =>
  have he:∀ d ∈ (e :: (b++q)).head?,okV false d=false∧¬ (d.Kind=1∧attB d.Text=true):=by
   intro d hd
   simp only [List.head?_cons,Option.mem_def,sie] at hd
   subst hd
   exact ⟨pu_ok h7 false,fun h=>by have:=(pu_kind h7).1; omega⟩
  unfold itemF
  simp only [List.cons_append,List.append_assoc,pk_cons,List.drop_succ_cons,List.drop_zero,List.length_cons]
  rw [if_pos ⟨h1,by omega⟩,if_pos ⟨h4,h5⟩,attF_A h6 _ (e :: (b++q)) (by omega) he,if_pos h2]
  simp only
  rw [Nat.add_comm 2,List.drop_succ_cons,List.drop_succ_cons,drop_len a _ _ rfl,pk_cons,if_pos h7,show 3+a.length=a.length+1+2 from by omega,List.drop_succ_cons,List.drop_succ_cons,← List.drop_drop,drop_len a _ _ rfl,List.drop_succ_cons,List.drop_zero,artsF_A h8 _ len ds q (by simp only [List.length_append,List.length_cons]; omega) hd]
  simp only [List.length_append,List.length_cons]
  rw [show a.length+1+2+b.length=a.length+(b.length+1)+1+1 from by omega]
theorem itemF_B {len:Int} {ds:List GDg} {r:List GTk} {x:GNode} {k:Nat} (hd:ds.length < 20) (h:itemF len ds r=.ok (x,k,ds)):∃ a q,r=a++q∧a.length=k∧ItemT a x:=by
 unfold itemF at h
 split at h
 rotate_left
 ·cases h
 rename_i h1
 split at h
 rotate_left
 ·cases h
 rename_i h2
 have hl2:1 < r.length:=k1_lt (len:=len) (j:=1) h2.1
 obtain ⟨t,m,r,rfl⟩:∃ t m r',r=t :: m :: r':=by
  cases r with
  | nil=>simp at hl2
  | cons t r =>
   cases r with
   | nil=>simp at hl2
   | cons m r=>exact ⟨t,m,r,rfl⟩
 simp only [pk_cons,List.drop_succ_cons,List.drop_zero] at h1 h2 h
 obtain ⟨a,q,e1,e2,e3,e4⟩:=attF_B ((t :: m :: r).length+1) r (by simp only [List.length_cons]; omega)
 generalize attF ((t :: m :: r).length+1) r=A at e2 e3 h
 subst e1
 rw [← e2] at h
 rw [show (t :: m :: (a++q)).drop (2+a.length)=q from by rw [Nat.add_comm 2,List.drop_succ_cons,List.drop_succ_cons,drop_len a _ _ rfl],show (t :: m :: (a++q)).drop (3+a.length)=q.drop 1 from by rw [show 3+a.length=a.length+1+2 from by omega,List.drop_succ_cons,List.drop_succ_cons,← List.drop_drop,drop_len a _ _ rfl]] at h
 split at h
 ·rename_i h7
  split at h
  rotate_left
  ·cases h
  rename_i hp
  have hq:0 < q.length:=pu_lt (j:=0) hp
  cases q with
  | nil=>simp at hq
  | cons e q =>
   rw [pk_cons] at hp
   simp only [List.drop_succ_cons,List.drop_zero,Except.ok.injEq,Prod.mk.injEq] at h
   obtain ⟨rfl,rfl,h3⟩:=h
   obtain ⟨b,q',f1,f2,f3⟩:=artsF_B _ len ds q (by simp only [List.length_cons,List.length_append]; omega) hd h3
   generalize artsF ((t :: m :: (a++e :: q)).length+1) len ds q=Z at f2 f3
   refine ⟨t :: m :: (a++e :: b),q',by rw [f1]; simp,?_, .tariff h1.1 h7 h2.1 h2.2 e3 hp f3⟩
   simp only [List.length_cons,List.length_append,← f2]
   omega
 ·rename_i h7
  split at h
  rotate_left
  ·cases h
  rename_i hp
  have hq:0 < q.length:=pu_lt (j:=0) hp
  cases q with
  | nil=>simp at hq
  | cons e q =>
   rw [pk_cons] at hp
   simp only [Except.ok.injEq,Prod.mk.injEq] at h
   obtain ⟨rfl,rfl,_⟩:=h
   refine ⟨t :: m :: (a++[e]),q,by simp,?_, .plain h1.1 h1.2 h7 h2.1 h2.2 e3 hp⟩
   simp only [List.length_cons,List.length_append,List.length_nil]
   omega
theorem itemsF_e (f:Nat) (len:Int) (ds:List GDg) (r:List GTk):itemsF (f+1) len ds r=if r=[]∨20≤ds.length then ([],ds) else match itemF len ds r with
  | .ok (x,k,ds')=>let z:=itemsF f len ds' (r.drop k); (GNode.cs x :: z.1,z.2)
  | .error (e,k)=>itemsF f len (ds++[⟨7,e⟩]) (r.drop (k+(skipF (r.drop k)).2)):=rfl
theorem itemF_ok {len:Int} {ds ds':List GDg} {r:List GTk} {x:GNode} {k:Nat} (h:itemF len ds r=.ok (x,k,ds')):3≤k∧k≤r.length∧ds.length≤ds'.length∧(ds.length≤20→ds'.length≤20):=by
 unfold itemF at h
 split at h
 rotate_left
 ·cases h
 split at h
 rotate_left
 ·cases h
 have hal:=attF_le (r.length+1) (r.drop 2)
 rw [List.length_drop] at hal
 simp only at h
 generalize attF (r.length+1) (r.drop 2)=A at hal h
 split at h
 ·split at h
  rotate_left
  ·cases h
  rename_i hp
  have:=pu_lt hp
  simp only [Except.ok.injEq,Prod.mk.injEq] at h
  obtain ⟨rfl,rfl,rfl⟩:=h
  have hz:=artsF_le (r.length+1) len ds (r.drop (3+A.2))
  have hm:=artsF_mono (r.length+1) len ds (r.drop (3+A.2))
  rw [List.length_drop] at hz
  omega
 ·split at h
  rotate_left
  ·cases h
  rename_i hp
  have:=pu_lt hp
  simp only [Except.ok.injEq,Prod.mk.injEq] at h
  obtain ⟨rfl,rfl,rfl⟩:=h
  omega
theorem itemF_err {len e:Int} {ds:List GDg} {r:List GTk} {k:Nat} (h:itemF len ds r=.error (e,k)):k≤r.length∧e=(pk len (r.drop k)).At:=by
 unfold itemF at h
 split at h
 rotate_left
 ·simp only [Except.error.injEq,Prod.mk.injEq] at h
  obtain ⟨rfl,rfl⟩:=h
  exact ⟨by omega,rfl⟩
 rename_i h1
 have h0:0 < r.length:=k1_lt (len:=len) (j:=0) h1.1
 split at h
 rotate_left
 ·simp only [Except.error.injEq,Prod.mk.injEq] at h
  obtain ⟨rfl,rfl⟩:=h
  exact ⟨by omega,rfl⟩
 rename_i h2
 have hl2:1 < r.length:=k1_lt (len:=len) (j:=1) h2.1
 have hal:=attF_le (r.length+1) (r.drop 2)
 rw [List.length_drop] at hal
 simp only at h
 generalize attF (r.length+1) (r.drop 2)=A at hal h
 split at h
 ·split at h
  ·cases h
  ·simp only [Except.error.injEq,Prod.mk.injEq] at h
   obtain ⟨rfl,rfl⟩:=h
   exact ⟨by omega,rfl⟩
 ·split at h
  ·cases h
  ·simp only [Except.error.injEq,Prod.mk.injEq] at h
   obtain ⟨rfl,rfl⟩:=h
   exact ⟨by omega,rfl⟩
theorem itemsF_fuel:∀ (f f':Nat) (len:Int) (ds:List GDg) (r:List GTk),r.length < f→r.length < f'→itemsF f len ds r=itemsF f' len ds r
 | 0,_,_,_,_,h,_=>absurd h (Nat.not_lt_zero _)
 | _,0,_,_,_,_,h=>absurd h (Nat.not_lt_zero _)
 | f+1,f'+1,len,ds,r,h,h'=>by
  rw [itemsF_e,itemsF_e]
  by_cases h0:r=[]∨20≤ds.length
  ·rw [if_pos h0,if_pos h0]
  rw [if_neg h0,if_neg h0]
  cases hI:itemF len ds r with
  | ok y =>
   obtain ⟨x,k,ds'⟩:=y
   have:=itemF_ok hI
   simp only
   rw [itemsF_fuel f f' len ds' (r.drop k) (by rw [List.length_drop]; omega) (by rw [List.length_drop]; omega)]
  | error y =>
   obtain ⟨e,k⟩:=y
   have:=itemF_err hI
   have h1:r ≠ []:=fun h=>h0 (.inl h)
   have h2:1≤k+(skipF (r.drop k)).2:=by
    cases k with
    | zero=>have:=skip_pos (l:=r.drop 0) h1; omega
    | succ k=>omega
   have h3:0 < r.length:=List.length_pos_iff.2 h1
   simp only
   exact itemsF_fuel f f' len _ _ (by rw [List.length_drop]; omega) (by rw [List.length_drop]; omega)
theorem itemsF_A {l:List GTk} {xs:List (List PV)} (h:Items l xs):∀ (f f':Nat) (len:Int) (ds:List GDg) (q:List GTk),(l++q).length < f→q.length < f'→ds.length < 20→itemsF f len ds (l++q)=(xs++(itemsF f' len ds q).1,(itemsF f' len ds q).2):=by
 induction h with
 | nil =>
  intro f f' len ds q hf hf' hd
  rw [List.nil_append,List.nil_append,itemsF_fuel f f' len ds q hf hf']
 | @cons a r x xs ha h ih =>
  intro f f' len ds q hf hf' hd
  obtain ⟨f,rfl⟩:∃ f',f=f'+1:=⟨f - 1,by omega⟩
  have hpos:0 < a.length:=by cases ha <;> simp
  simp only [List.append_assoc,List.length_append] at hf ⊢
  have hne:¬ (a++(r++q)=[]∨20≤ds.length):=by
   rintro (h | h)
   ·have:=congrArg List.length h
    simp only [List.length_append,List.length_nil] at this
    omega
   ·omega
  rw [itemsF_e,if_neg hne,itemF_A ha len ds (r++q) hd]
  simp only
  rw [drop_len a _ _ rfl,ih f f' len ds q (by simp only [List.length_append]; omega) hf' hd]
  simp
theorem itemsF_mono:∀ (f:Nat) (len:Int) (ds:List GDg) (r:List GTk),ds.length≤(itemsF f len ds r).2.length∧(ds.length≤20→(itemsF f len ds r).2.length≤20)
 | 0,_,_,r=>by simp [itemsF]
 | f+1,len,ds,r=>by
  rw [itemsF_e]
  split
  ·exact ⟨Nat.le_refl _,fun h=>h⟩
  rename_i h0
  cases hI:itemF len ds r with
  | ok y =>
   obtain ⟨x,k,ds'⟩:=y
   have:=itemF_ok hI
   have:=itemsF_mono f len ds' (r.drop k)
   simp only
   omega
  | error y =>
   obtain ⟨e,k⟩:=y
   have:=itemsF_mono f len (ds++[(⟨7,e⟩:GDg)]) (r.drop (k+(skipF (r.drop k)).2))
   simp only [List.length_append,List.length_singleton] at this ⊢
   omega
theorem itemsF_B:∀ (f:Nat) (len:Int) (ds:List GDg) (r:List GTk),r.length < f→ds.length < 20→(itemsF f len ds r).2=ds→Items r (itemsF f len ds r).1
 | 0,_,_,_,h,_,_=>absurd h (Nat.not_lt_zero _)
 | f+1,len,ds,r,hf,hd,he=>by
  rw [itemsF_e] at he ⊢
  by_cases h0:r=[]
  ·subst h0
   rw [if_pos (.inl rfl)]
   exact .nil
  have h0':¬ (r=[]∨20≤ds.length):=by
   rintro (h | h)
   ·exact h0 h
   ·omega
  rw [if_neg h0'] at he ⊢
  cases hI:itemF len ds r with
  | ok y =>
   obtain ⟨x,k,ds'⟩:=y
   rw [hI] at he
   simp only at he ⊢
   have h1:=itemF_ok hI
   have h2:=itemsF_mono f len ds' (r.drop k)
   rw [he] at h2
   obtain rfl:ds'=ds:=by
    have h3:=h1.2.2.1
    have h4:=h2.1
    exact itemF_ds hI (by omega)
   obtain ⟨a,q,rfl,rfl,ha⟩:=itemF_B hd hI
   have hpos:0 < a.length:=by omega
   rw [drop_len a _ _ rfl] at he ⊢
   simp only [List.length_append] at hf
   exact .cons ha (itemsF_B f len ds' q (by omega) hd he)
  | error y =>
   obtain ⟨e,k⟩:=y
   rw [hI] at he
   simp only at he
   exfalso
   have:=(itemsF_mono f len (ds++[(⟨7,e⟩:GDg)]) (r.drop (k+(skipF (r.drop k)).2))).1
   rw [he] at this
   simp at this
   omega
end Go.Proofs
namespace Go.Proofs
open Go Go.Abs
set_option maxRecDepth 100000
set_option linter.unusedVariables false
theorem lpN_s {V R:Type} (B:(V→Option R)→V→Option R) (n:Nat) (v:V):loopN B (n+1) v=B (loopN B n) v:=rfl
def treeP:Nat→GNode→Prop
 | 0,_=>False
 | d+1,x=>x.Kids.length≤10000∧(0≤x.At∧x.At≤100000)∧∀ k ∈ x.Kids,∃ y,GNode.of k=some y∧treeP d y
theorem treeP_s (d:Nat) (x:GNode):treeP (d+1) x=(x.Kids.length≤10000∧(0≤x.At∧x.At≤100000)∧∀ k ∈ x.Kids,∃ y,GNode.of k=some y∧treeP d y):=rfl
theorem kidP_at {d:Nat} {l:List (List PV)} (h:∀ k ∈ l,∃ y,GNode.of k=some y∧treeP d y) {i:Nat} (hi:i < l.length):∃ y,Option.bind (getI l (i:Int)) GNode.of=some y∧treeP d y∧GNode.of (l[i]'hi)=some y:=by
 obtain ⟨y,e,t⟩:=h (l[i]'hi) (List.getElem_mem hi)
 refine ⟨y,?_,t,e⟩
 rw [getI_nat,List.getElem?_eq_getElem hi]
 exact e
theorem le_lt (a b:Int):leI a b=!ltI b a:=by
 unfold leI ltI
 by_cases h:a≤b
 ·rw [dzT h,dzF (by omega)]; rfl
 ·rw [dzF h,dzT (by omega)]; rfl
theorem count_eq:∀ (n d:Nat) (x:GNode) (l:Int),treeP d x→g_p_count n x l=g_ref02_Count n x l
 | 0,_,_,_,_=>rfl
 | n+1,0,_,_,h=>h.elim
 | n+1,d+1,x,l,h=>by
  obtain ⟨hl,_,hk⟩:=(treeP_s d x ▸ h)
  show g_p_count_body n (g_p_count n) x l=g_ref02_Count_body n (g_ref02_Count n) x l
  have ih:=fun y l hy=>count_eq n d y l hy
  generalize g_p_count n=A at ih ⊢
  generalize g_ref02_Count n=B at ih ⊢
  unfold g_p_count_body g_ref02_Count_body
  have key:∀ (j:Nat) (s:Int) (i:Nat),i≤x.Kids.length→loopN (fun recl1 (v:Int × Int)=>g_p_count_l1 x l A recl1 v.1 v.2) j (s,(i:Int))=loopN (fun recl1 (v:Int × Int)=>g_ref02_Count_l1 x l B recl1 v.1 v.2) j (s,(i:Int)):=by
   intro j
   induction j with
   | zero=>intro s i _; rfl
   | succ j ihj =>
    intro s i hi
    unfold loopN
    generalize loopN (fun recl1 (v:Int × Int)=>g_p_count_l1 x l A recl1 v.1 v.2) j=L1 at ihj ⊢
    generalize loopN (fun recl1 (v:Int × Int)=>g_ref02_Count_l1 x l B recl1 v.1 v.2) j=L2 at ihj ⊢
    show g_p_count_l1 x l A L1 s (i:Int)=g_ref02_Count_l1 x l B L2 s (i:Int)
    unfold g_p_count_l1 g_ref02_Count_l1
    simp only [map_idc,lenI,ltI,le_lt]
    by_cases c:i < x.Kids.length
    rotate_left
    ·rw [dzF (by omega)]; rfl
    obtain ⟨y,hy,ty,_⟩:=kidP_at hk c
    rw [dzT (by omega),cond_true,cond_true,hy]
    simp only [obs]
    by_cases c2:l < s
    ·rw [dzT c2]; rfl
    ·rw [dzF c2]
     simp only [Bool.not_false,cond_true,cond_false]
     rw [ih y _ ty]
     congr 1
     funext r
     rw [wi_id (x:=(i:Int)+1) (by omega) (by omega)]
     exact ihj _ (i+1) c
  exact key n 1 0 (Nat.zero_le _)
theorem count_totP:∀ (m n d:Nat) (x:GNode) (most:Int),treeP d x→0≤most→most≤m→m≤1000000→m+3≤n→Does (g_ref02_Count n x most) (fun r=>1≤r∧r≤most+1):=by
 intro m
 induction m with
 | zero =>
  intro n d x most ht h0 h1 h2 h3
  obtain ⟨n,rfl⟩:∃ q,n=q+1+1:=⟨n - 2,by omega⟩
  obtain rfl:most=0:=by omega
  refine ⟨1,?_,by omega,by omega⟩
  unfold g_ref02_Count g_ref02_Count_body
  rw [lpN_s]
  unfold g_ref02_Count_l1
  simp only [show leI 1 0=false from rfl,cond_some,obs]
  cases ltI 0 (lenI (List.map idc x.Kids)) <;> rfl
 | succ m ih =>
  intro n d x most ht h0 h1 h2 h3
  obtain ⟨n,rfl⟩:∃ q,n=q+1:=⟨n - 1,by omega⟩
  cases d with
  | zero=>exact ht.elim
  | succ e =>
  obtain ⟨hl,_,hk⟩:=(treeP_s e x ▸ ht)
  unfold g_ref02_Count g_ref02_Count_body
  refine does_loop (Q:=fun _ r=>1≤r∧r≤most+1) (fun v=>(most+1 - v.1).toNat) (fun v=>1≤v.1∧v.1≤most+1∧∃ i:Nat,v.2=(i:Int)∧i≤x.Kids.length) ?_ ⟨by omega,by omega,0,rfl,by omega⟩ (by simp only; omega)
  rintro rec ⟨many,idx⟩ ⟨g1,g2,i,hi,hil⟩ hrec
  simp only at g1 g2 hi hrec ⊢
  subst hi
  unfold g_ref02_Count_l1
  simp only [lenI,List.length_map,ltI,leI]
  by_cases c1:i < x.Kids.length
  rotate_left
  ·rw [dzF (by omega)]
   exact does_some ⟨g1,g2⟩
  rw [dzT (by omega)]
  by_cases c2:many≤most
  rotate_left
  ·rw [dzF c2]
   exact does_some ⟨g1,g2⟩
  rw [dzT c2]
  obtain ⟨y,hy,hty,_⟩:=kidP_at hk c1
  simp only [cond_true,obs]
  rw [hy,obs,wi_id (x:=most - many) (by omega) (by omega)]
  refine does_bind (ih n e y (most - many) hty (by omega) (by omega) (by omega) (by omega)) ?_
  rintro r ⟨r1,r2⟩
  rw [wi_id (x:=many+r) (by omega) (by omega),wi_id (x:=(i:Int)+1) (by omega) (by omega)]
  exact hrec (many+r,(i:Int)+1) ⟨by simp only; omega,by simp only; omega,i+1,by simp,c1⟩ (by simp only; omega)
theorem same_refl:∀ (d n:Nat) (x:GNode),treeP d x→20000+d≤n→g_ref02_Same n x x=some true
 | 0,_,_,h,_=>h.elim
 | d+1,0,_,_,h=>by omega
 | d+1,n+1,x,h,hn=>by
  obtain ⟨hl,_,hk⟩:=(treeP_s d x ▸ h)
  show g_ref02_Same_body n (g_ref02_Same n) x x=some true
  have ih:=fun y hy=>same_refl d n y hy (by omega)
  generalize g_ref02_Same n=A at ih ⊢
  unfold g_ref02_Same_body
  simp only [eqI_d,decide_true,Bool.not_true,cond_false,show eqS x.Name x.Name=true from by simp [eqS],obs]
  refine loop_list (l:=x.Kids) (F:=fun _=>true) (by omega) ?_ ?_ 0 (Nat.zero_le _) (by omega)
  ·intro rec
   unfold g_ref02_Same_l6
   simp only [map_idc,lenI,ltI]
   rw [dzF (by omega)]; rfl
  ·intro rec i c r hd hi hlt hw hr
   obtain ⟨y,hy,ty,_⟩:=kidP_at hk hlt
   unfold g_ref02_Same_l6
   simp only [map_idc,lenI,ltI]
   rw [dzT (by omega),cond_true,hy,obs,obs,ih y ty,obs,hw,hr]
   rfl
def shN:Nat→Int→GNode→GNode
 | 0,_,x=>x
 | k+1,d,x=>⟨x.Kind,x.Name,x.N,x.At+d,x.Kids.map (fun c=>match GNode.of c with | some y=>GNode.cs (shN k d y) | none=>c)⟩
def shC (k:Nat) (d:Int) (c:List PV):List PV:=match GNode.of c with | some y=>GNode.cs (shN k d y) | none=>c
theorem shN_s (k:Nat) (d:Int) (x:GNode):shN (k+1) d x=⟨x.Kind,x.Name,x.N,x.At+d,x.Kids.map (shC k d)⟩:=rfl
theorem of_cs1 (x:GNode):GNode.of (GNode.cs x)=some x:=of_cs' _ _ _ _ _
theorem shC_cs (k:Nat) (d:Int) (x:GNode):shC k d (GNode.cs x)=GNode.cs (shN k d x):=by
 unfold shC; rw [of_cs1]
theorem shifted_ok:∀ (d n:Nat) (x:GNode) (by_:Int),treeP d x→0≤by_→by_≤100000→20000+d≤n→g_law02_shifted n x by_=some (shN d by_ x)
 | 0,_,_,_,h,_,_,_=>h.elim
 | d+1,0,_,_,_,_,_,h=>by omega
 | d+1,n+1,x,by_,h,b0,b1,hn=>by
  obtain ⟨hl,ha,hk⟩:=(treeP_s d x ▸ h)
  show g_law02_shifted_body n (g_law02_shifted n) x by_=some (shN (d+1) by_ x)
  have ih:=fun y hy=>shifted_ok d n y by_ hy b0 b1 (by omega)
  generalize g_law02_shifted n=A at ih ⊢
  unfold g_law02_shifted_body
  have:=loop_gen (l:=x.Kids) (fun (acc:List (List PV)) (i:Int)=>(i,acc)) (B:=fun recl1 (v:Int × List (List PV))=>g_law02_shifted_l1 x by_ A recl1 v.1 v.2) (F:=fun acc r=>(⟨x.Kind,x.Name,x.N,x.At+by_,acc++r.map (shC d by_)⟩:GNode)) (fun i acc=>acc.length=i) (by omega)
   (by
    intro rec acc hi
    show g_law02_shifted_l1 x by_ A rec _ acc=_
    unfold g_law02_shifted_l1
    simp only [map_idc,lenI,ltI]
    rw [dzF (by omega),cond_false,wi_id (x:=x.At+by_) (by omega) (by omega)]
    simp)
   (by
    intro rec acc i c r hinv hd hi hlt hw hr
    show g_law02_shifted_l1 x by_ A rec (i:Int) acc=_
    obtain ⟨y,hy,ty,hof⟩:=kidP_at hk hlt
    have hc:c=x.Kids[i]'hlt:=by rw [List.getElem?_eq_getElem hlt] at hi; exact (Option.some.inj hi).symm
    unfold g_law02_shifted_l1
    simp only [map_idc,lenI,ltI]
    rw [dzT (by omega),cond_true,hy,obs,ih y ty,obs]
    have hroom:∀ z:List PV,roomB (List.length (acc++[z])) 64=true:=by intro z; simp [roomB]; omega
    rw [hroom,cond_true,hw,hr _ (by simp [hinv])]
    simp only [List.map_cons,List.append_assoc,List.singleton_append]
    rw [show shC d by_ c=GNode.cs (shN d by_ y) from by unfold shC; rw [hc,hof]])
   (n:=n) 0 [] rfl (Nat.zero_le _) (by omega)
  rw [List.drop_zero] at this
  exact this
theorem vn_sh (d:Int) (t:GTk):vcs (shT d t)=shC 1 d (vcs t):=by
 unfold vcs
 rw [shC_cs,shN_s]
 unfold vnode
 by_cases h:t.Kind=2
 ·simp [h,shT]
 ·simp [h,shT]
theorem map_vs (d:Int) (v:List GTk):(v.map (shT d)).map vcs=(v.map vcs).map (shC 1 d):=by
 simp only [List.map_map]
 congr 1
 funext t
 exact vn_sh d t
theorem ArtT_sh (d:Int) {a:List GTk} {x:GNode} (h:ArtT a x):ArtT (a.map (shT d)) (shN 2 d x):=by
 cases h with
 | @mk t e v h1 h2 h3 h4 =>
  have:=ArtT.mk (t:=shT d t) (e:=shT d e) (v:=v.map (shT d)) h1 h2 (by
   intro x hx
   obtain ⟨y,hy,rfl⟩:=List.mem_map.1 hx
   exact h3 y hy) h4
  rw [map_vs] at this
  rw [shN_s,List.map_cons,List.map_append]
  exact this
theorem Atts_sh (d:Int) {a:List GTk} {xs:List (List PV)} (h:Atts a xs):Atts (a.map (shT d)) (xs.map (shC 2 d)):=by
 induction h with
 | nil=>exact .nil
 | @cons t v r xs h1 h2 h3 h4 ih =>
  have:=Atts.cons (t:=shT d t) (v:=v.map (shT d)) h1 h2 (by
   intro x hx
   obtain ⟨y,hy,rfl⟩:=List.mem_map.1 hx
   exact h3 y hy) ih
  rw [map_vs] at this
  rw [List.map_cons,List.map_append,List.map_cons,shC_cs,shN_s]
  exact this
theorem Arts_sh (d:Int) {a:List GTk} {xs:List (List PV)} (h:Arts a xs):Arts (a.map (shT d)) (xs.map (shC 2 d)):=by
 induction h with
 | @nil e he=>exact Arts.nil (e:=shT d e) he
 | @cons a r x xs h1 h2 ih =>
  rw [List.map_append,List.map_cons,shC_cs]
  exact .cons (ArtT_sh d h1) ih
theorem ItemT_sh (d:Int) {a:List GTk} {x:GNode} (h:ItemT a x):ItemT (a.map (shT d)) (shN 3 d x):=by
 cases h with
 | @plain t m e a xs h1 h2 h3 h4 h5 h6 h7 =>
  have:=ItemT.plain (t:=shT d t) (m:=shT d m) (e:=shT d e) h1 h2 h3 h4 h5 (Atts_sh d h6) h7
  rw [shN_s,List.map_cons,List.map_cons,List.map_append]
  exact this
 | @tariff t m e a b xs ys h1 h2 h4 h5 h6 h7 h8 =>
  have:=ItemT.tariff (t:=shT d t) (m:=shT d m) (e:=shT d e) h1 h2 h4 h5 (Atts_sh d h6) h7 (Arts_sh d h8)
  rw [shN_s,List.map_cons,List.map_cons,List.map_append,List.map_cons,List.map_append]
  exact this
theorem Items_sh (d:Int) {a:List GTk} {xs:List (List PV)} (h:Items a xs):Items (a.map (shT d)) (xs.map (shC 3 d)):=by
 induction h with
 | nil=>exact .nil
 | @cons a r x xs h1 h2 ih =>
  rw [List.map_append,List.map_cons,shC_cs]
  exact .cons (ItemT_sh d h1) ih
theorem Items_app {a b:List GTk} {xs ys:List (List PV)} (h:Items a xs) (h':Items b ys):Items (a++b) (xs++ys):=by
 induction h with
 | nil=>exact h'
 | cons h1 h2 ih=>rw [List.append_assoc]; exact .cons h1 ih
def atB (l:List GTk):Prop:=∀ t ∈ l,0≤t.At∧t.At≤100000
theorem atB_app {a b:List GTk}:atB (a++b)↔atB a∧atB b:=by
 unfold atB
 simp only [List.mem_append]
 exact ⟨fun h=>⟨fun t ht=>h t (.inl ht),fun t ht=>h t (.inr ht)⟩,fun h t ht=>ht.elim (h.1 t) (h.2 t)⟩
theorem atB_cons {t:GTk} {b:List GTk}:atB (t :: b)↔(0≤t.At∧t.At≤100000)∧atB b:=by
 unfold atB
 simp
def goodK (d:Nat) (xs:List (List PV)):Prop:=∀ k ∈ xs,∃ y,GNode.of k=some y∧treeP d y
theorem good_cons {d:Nat} {x:GNode} {xs:List (List PV)} (h:treeP d x) (h':goodK d xs):goodK d (GNode.cs x :: xs):=by
 intro k hk
 rcases List.mem_cons.1 hk with rfl | hk
 ·exact ⟨x,of_cs1 x,h⟩
 ·exact h' k hk
theorem good_app {d:Nat} {xs ys:List (List PV)} (h:goodK d xs) (h':goodK d ys):goodK d (xs++ys):=by
 intro k hk
 rcases List.mem_append.1 hk with hk | hk
 ·exact h k hk
 ·exact h' k hk
theorem vals_good {v:List GTk} (h:atB v):goodK 1 (v.map vcs):=by
 intro k hk
 obtain ⟨t,ht,rfl⟩:=List.mem_map.1 hk
 refine ⟨vnode t,of_cs1 _,?_⟩
 rw [treeP_s]
 have:=h t ht
 unfold vnode
 split
 ·exact ⟨by simp,this,by simp⟩
 ·exact ⟨by simp,this,by simp⟩
theorem ArtT_good {a:List GTk} {x:GNode} (h:ArtT a x) (hl:a.length≤10000) (hb:atB a):treeP 2 x:=by
 cases h with
 | mk h1 h2 h3 h4 =>
  simp only [List.length_cons,List.length_append,List.length_nil] at hl
  rw [atB_cons,atB_app] at hb
  rw [treeP_s]
  exact ⟨by simp; omega,hb.1,vals_good hb.2.1⟩
theorem Atts_good {a:List GTk} {xs:List (List PV)} (h:Atts a xs) (hl:a.length≤10000) (hb:atB a):goodK 2 xs∧xs.length≤a.length:=by
 induction h with
 | nil=>exact ⟨fun k hk=>(by cases hk),Nat.le_refl _⟩
 | cons h1 h2 h3 h4 ih =>
  simp only [List.length_cons,List.length_append] at hl
  rw [atB_cons,atB_app] at hb
  have:=ih (by omega) hb.2.2
  refine ⟨good_cons ?_ this.1,by simp only [List.length_cons,List.length_append]; omega⟩
  rw [treeP_s]
  exact ⟨by simp; omega,hb.1,vals_good hb.2.1⟩
theorem Arts_good {a:List GTk} {xs:List (List PV)} (h:Arts a xs) (hl:a.length≤10000) (hb:atB a):goodK 2 xs∧xs.length≤a.length:=by
 induction h with
 | nil=>exact ⟨fun k hk=>(by cases hk),by simp⟩
 | cons h1 h2 ih =>
  simp only [List.length_append] at hl
  rw [atB_app] at hb
  have:=ih (by omega) hb.2
  have hp:=ArtT_good h1 (by omega) hb.1
  refine ⟨good_cons hp this.1,?_⟩
  cases h1
  simp only [List.length_cons,List.length_append]
  omega
theorem ItemT_good {a:List GTk} {x:GNode} (h:ItemT a x) (hl:a.length≤10000) (hb:atB a):treeP 3 x:=by
 cases h with
 | plain h1 h2 h3 h4 h5 h6 h7 =>
  simp only [List.length_cons,List.length_append,List.length_nil] at hl
  rw [atB_cons,atB_cons,atB_app] at hb
  have:=Atts_good h6 (by omega) hb.2.2.1
  rw [treeP_s]
  exact ⟨by simp only; omega,hb.1,this.1⟩
 | tariff h1 h2 h4 h5 h6 h7 h8 =>
  simp only [List.length_cons,List.length_append] at hl
  rw [atB_cons,atB_cons,atB_app,atB_cons] at hb
  have hA:=Atts_good h6 (by omega) hb.2.2.1
  have hB:=Arts_good h8 (by omega) hb.2.2.2.2
  rw [treeP_s]
  exact ⟨by simp only [List.length_append]; omega,hb.1,good_app hA.1 hB.1⟩
theorem Items_good {a:List GTk} {xs:List (List PV)} (h:Items a xs) (hl:a.length≤10000) (hb:atB a):goodK 3 xs∧xs.length≤a.length:=by
 induction h with
 | nil=>exact ⟨fun k hk=>(by cases hk),by simp⟩
 | cons h1 h2 ih =>
  simp only [List.length_append] at hl
  rw [atB_app] at hb
  have:=ih (by omega) hb.2
  refine ⟨good_cons (ItemT_good h1 (by omega) hb.1) this.1,?_⟩
  cases h1 <;> simp only [List.length_cons,List.length_append] <;> omega
theorem items_gen (n:Nat) (T:List GTk) (len:Int) (hT:T.length≤2100) (hn:10000≤n) :
  ∀ (j i f:Nat) (acc:List (List PV)) (ds:List GDg),T.length - i < j→i≤T.length→acc.length≤i→ds.length≤20→T.length - i < f →
   ∃ i':Int,loopN (fun recl4 (v:List (List PV) × List GTk × Int × Int × List GDg)=>g_p_Parse_l4 n recl4 v.1 v.2.1 v.2.2.1 v.2.2.2.1 v.2.2.2.2) j (acc,T,(i:Int),len,ds)=some (acc++(itemsF f len ds (T.drop i)).1,T,i',len,(itemsF f len ds (T.drop i)).2):=by
 intro j
 induction j with
 | zero=>intro i f acc ds h; omega
 | succ j ih =>
  intro i f acc ds h1 h2 h3 h4 h5
  obtain ⟨f,rfl⟩:∃ f',f=f'+1:=⟨f - 1,by omega⟩
  unfold loopN
  generalize loopN (fun recl4 (v:List (List PV) × List GTk × Int × Int × List GDg)=>g_p_Parse_l4 n recl4 v.1 v.2.1 v.2.2.1 v.2.2.2.1 v.2.2.2.2) j=L at ih ⊢
  show ∃ i',g_p_Parse_l4 n L acc T (i:Int) len ds=_
  rw [itemsF_e]
  unfold g_p_Parse_l4
  simp only [p_full,obs,ltI,lenI,List.length_map,cond_some]
  by_cases h0:T.drop i=[]∨20≤ds.length
  ·rw [if_pos h0]
   have:(bif decide ((i:Int) < (T.length:Int)) then !decide (20≤ds.length) else false)=false:=by
    rcases h0 with h | h
    ·rw [List.drop_eq_nil_iff] at h
     rw [dzF (by omega)]; rfl
    ·rw [dzT h]; cases decide ((i:Int) < (T.length:Int)) <;> rfl
   rw [this]
   exact ⟨(i:Int),by simp⟩
  rw [if_neg h0]
  have hi:i < T.length:=by
   apply Classical.byContradiction
   intro h
   exact h0 (.inl (List.drop_eq_nil_of_le (by omega)))
  have hd:¬ 20≤ds.length:=fun h=>h0 (.inr h)
  rw [dzT (by omega),dzF hd]
  simp only [Bool.not_false,cond_true]
  rw [p_item n T i len ds hT h2 h4 hn]
  have hroom:∀ z:List PV,roomB (List.length (acc++[z])) 64=true:=by intro z; simp [roomB]; omega
  have hroom2:∀ z:GDg,roomB (List.length (ds++[z])) 16=true:=by intro z; simp [roomB]; omega
  cases hI:itemF len ds (T.drop i) with
  | ok y =>
   obtain ⟨x,k,ds'⟩:=y
   have hk:=itemF_ok hI
   rw [List.length_drop] at hk
   simp only [obs,exc,cond_true,hroom]
   obtain ⟨i',e⟩:=ih (i+k) f (acc++[GNode.cs x]) ds' (by omega) (by omega) (by simp; omega) (hk.2.2.2 h4) (by omega)
   refine ⟨i',e.trans ?_⟩
   rw [drop_drop']
   simp
  | error y =>
   obtain ⟨e,k⟩:=y
   have hk:=(itemF_err hI).1
   rw [List.length_drop] at hk
   simp only [obs,exc,hroom2,cond_true]
   rw [p_skip n T (i+k) len [] hT (by omega) hn]
   simp only [obs,cond_false]
   rw [show T.drop (i+k)=(T.drop i).drop k from drop_drop' ..]
   have hs:=skip_le ((T.drop i).drop k)
   rw [List.length_drop,List.length_drop] at hs
   have hpos:1≤k+(skipF ((T.drop i).drop k)).2:=by
    cases k with
    | zero=>have:=skip_pos (l:=(T.drop i).drop 0) (fun h=>h0 (.inl h)); omega
    | succ k=>omega
   generalize (skipF ((T.drop i).drop k)).2=m at hs hpos ⊢
   rw [show i+k+m=i+(k+m) from by omega]
   obtain ⟨i',e'⟩:=ih (i+(k+m)) f acc (ds++[⟨7,e⟩]) (by omega) (by omega) (by omega) (by simp; omega) (by omega)
   refine ⟨i',e'.trans ?_⟩
   rw [drop_drop' T i (k+m)]
theorem itemsF_len:∀ (f:Nat) (len:Int) (ds:List GDg) (r:List GTk),(itemsF f len ds r).1.length≤r.length
 | 0,_,_,r=>by simp [itemsF]
 | f+1,len,ds,r=>by
  rw [itemsF_e]
  split
  ·simp
  rename_i h0
  cases hI:itemF len ds r with
  | ok y =>
   obtain ⟨x,k,ds'⟩:=y
   have:=itemF_ok hI
   have h2:=itemsF_len f len ds' (r.drop k)
   rw [List.length_drop] at h2
   simp only [List.length_cons]
   omega
  | error y =>
   obtain ⟨e,k⟩:=y
   have h2:=itemsF_len f len (ds++[(⟨7,e⟩:GDg)]) (r.drop (k+(skipF (r.drop k)).2))
   rw [List.length_drop] at h2
   simp only
   omega
def nz:GNode:=⟨0,[],0,0,[]⟩
def srcN (xs:List (List PV)):GNode:=⟨1,[],0,0,xs⟩
theorem p_Parse (n:Nat) (s:List UInt8) (hn:10000≤n):g_p_Parse n s=match lexS s with
  | .error (e,p)=>cond (!eqI e 0) (some (nz,[⟨e,(p:Int)⟩])) (g_p_Parse n s)
  | .ok T=>if (itemsF (T.length+1) (s.length:Int) [] T).2 ≠ [] then some (nz,(itemsF (T.length+1) (s.length:Int) [] T).2) else
    (g_p_count n (srcN (itemsF (T.length+1) (s.length:Int) [] T).1) 1500).bind fun c=>cond (ltI 1500 c) (some (nz,[⟨2,0⟩])) (some (srcN (itemsF (T.length+1) (s.length:Int) [] T).1,[])):=by
 have hL:=l_Lex n s hn
 cases hS:lexS s with
 | error y =>
  obtain ⟨e,p⟩:=y
  rw [hS] at hL
  simp only
  cases he:!eqI e 0
  ·rfl
  ·unfold g_p_Parse
   rw [hL]
   simp only [resL,obs,he,cond_true]
   rfl
 | ok T =>
  rw [hS] at hL
  obtain ⟨_,_,hT⟩:=(lexS_iff s T).1 hS
  unfold g_p_Parse
  rw [hL]
  simp only [resL,obs,List.nil_append,show (!eqI 0 0)=false from rfl,cond_false]
  obtain ⟨i',e⟩:=items_gen n T (s.length:Int) (by omega) hn n 0 (T.length+1) [] [] (by omega) (Nat.zero_le _) (by simp) (by simp) (by omega)
  rw [List.drop_zero,List.nil_append] at e
  refine bind_of (x:=((itemsF (T.length+1) (s.length:Int) [] T).1,T,i',(s.length:Int),(itemsF (T.length+1) (s.length:Int) [] T).2)) ?_ ?_
  ·refine bind_of e ?_
   show cond (roomB (List.length (itemsF (T.length+1) (s.length:Int) [] T).1) 64) _ none=_
   have:(itemsF (T.length+1) (s.length:Int) [] T).1.length≤T.length:=itemsF_len _ _ _ _
   rw [show roomB (List.length (itemsF (T.length+1) (s.length:Int) [] T).1) 64=true from by simp [roomB]; omega,cond_true]
  ·show cond (ltI 0 (lenI (List.map GDg.cs (itemsF (T.length+1) (s.length:Int) [] T).2))) _ _=_
   generalize itemsF (T.length+1) (s.length:Int) [] T=Z
   simp only [ltI,lenI,List.length_map]
   by_cases h:Z.2=[]
   ·rw [if_neg (by simpa using h),h]
    rfl
   ·have:0 < Z.2.length:=List.length_pos_iff.2 h
    rw [if_pos h,dzT (by omega)]
    rfl
end Go.Proofs
namespace Go.Proofs
open Go Go.Abs
set_option maxRecDepth 100000
set_option linter.unusedVariables false
theorem tk_err {t:List UInt8} {e:Int} (h:tkOf t=.error e):e ≠ 0:=by
 unfold tkOf at h
 repeat (first | (split at h) | (simp only [Except.error.injEq] at h; omega) | (exact nomatch h))
theorem lexF_err:∀ (f p k:Nat) (s:List UInt8) (e:Int) (q:Nat),s.length < f→lexF f p s k=.error (e,q)→e ≠ 0∧p≤q∧q≤p+s.length
 | 0,_,_,_,_,_,h,_=>absurd h (Nat.not_lt_zero _)
 | f+1,p,k,s,e,q,hf,h=>by
  have hg:=gap_le s false
  cases hd:s.drop (gapN false s) with
  | nil=>rw [lex_end _ _ _ _ hd] at h; cases h
  | cons c r =>
   rw [lex_step _ _ _ _ c r hd] at h
   split at h
   ·simp only [Except.error.injEq,Prod.mk.injEq] at h
    obtain ⟨rfl,rfl⟩:=h
    exact ⟨by omega,by omega,by omega⟩
   cases ht:tkOf (tkT (c :: r)) with
   | error e' =>
    rw [ht] at h
    simp only [Except.error.injEq,Prod.mk.injEq] at h
    obtain ⟨rfl,rfl⟩:=h
    exact ⟨tk_err ht,by omega,by omega⟩
   | ok y =>
    obtain ⟨kk,x,v⟩:=y
    rw [ht] at h
    simp only at h
    have hp:=tkT_pos ht
    have hle:=tkT_le (c :: r)
    have hlen:(c :: r).length=s.length - gapN false s:=by rw [← hd,List.length_drop]
    cases hl:lexF f (p+gapN false s+(tkT (c :: r)).length) ((c :: r).drop (tkT (c :: r)).length) (k+1) with
    | ok l=>rw [hl] at h; cases h
    | error z =>
     rw [hl] at h
     simp only [Except.error.injEq] at h
     subst h
     have:=lexF_err f _ _ _ _ _ (by rw [List.length_drop]; omega) hl
     rw [List.length_drop] at this
     exact ⟨this.1,by omega,by omega⟩
theorem lexS_err {s:List UInt8} {e:Int} {q:Nat} (h:lexS s=.error (e,q)):e ≠ 0∧q≤s.length:=by
 unfold lexS at h
 split at h
 ·simp only [Except.error.injEq,Prod.mk.injEq] at h
  obtain ⟨rfl,rfl⟩:=h
  exact ⟨by omega,Nat.zero_le _⟩
 ·have:=lexF_err _ _ _ _ _ _ (by omega) h
  exact ⟨this.1,by omega⟩
theorem lexS_at {s:List UInt8} {T:List GTk} (h:lexS s=.ok T):(∀ t ∈ T,0≤t.At∧t.At < (s.length:Int))∧T.Pairwise (fun a b=>a.At < b.At)∧atB T∧T.length≤2000∧s.length≤8000:=by
 obtain ⟨h1,h2,h3⟩:=(lexS_iff s T).1 h
 have:=Lx_at h2
 refine ⟨fun t ht=>?_,this.2,fun t ht=>?_,h3,h1⟩
 ·have:=this.1 t ht; omega
 ·have:=this.1 t ht; omega
def Good (n:Nat) (s:List UInt8) (T:List GTk) (xs:List (List PV)):Prop:=lexS s=.ok T∧Items T xs∧∃ c,g_ref02_Count n (srcN xs) 1500=some c∧c≤1500
theorem src_tree {s:List UInt8} {T:List GTk} {xs:List (List PV)} (h:lexS s=.ok T) (hI:Items T xs):treeP 4 (srcN xs):=by
 have hA:=lexS_at h
 have:=Items_good hI (by omega) hA.2.2.1
 rw [treeP_s]
 exact ⟨by unfold srcN; simp only; omega,⟨by simp [srcN],by simp [srcN]⟩,this.1⟩
theorem good_parse {n:Nat} {s:List UInt8} {T:List GTk} {xs:List (List PV)} (hn:30000≤n) (h:Good n s T xs):g_p_Parse n s=some (srcN xs,[]):=by
 obtain ⟨h1,h2,c,h3,h4⟩:=h
 rw [p_Parse n s (by omega),h1]
 simp only
 have:=itemsF_A h2 (T.length+1) 1 (s.length:Int) [] [] (by simp) (by simp) (by simp)
 rw [List.append_nil] at this
 rw [this]
 have e:itemsF 1 (s.length:Int) [] []=([],[]):=rfl
 rw [e]
 simp only [List.append_nil]
 rw [if_neg (by simp),count_eq n 4 _ _ (src_tree h1 h2),h3,obs,show ltI 1500 c=false from dzF (by omega)]
 rfl
theorem parse_cases (n:Nat) (s:List UInt8) (hn:30000≤n):∃ r,g_p_Parse n s=some r∧((r.2=[]∧∃ T xs,Good n s T xs∧r.1=srcN xs)∨(r.1=nz∧r.2 ≠ []∧(r.2=[⟨2,0⟩]∨(∃ T,lexS s=.ok T∧r.2=(itemsF (T.length+1) (s.length:Int) [] T).2)∨∃ e q,lexS s=.error (e,q)∧r.2=[⟨e,(q:Int)⟩]))):=by
 have hP:=p_Parse n s (by omega)
 cases hS:lexS s with
 | error y =>
  obtain ⟨e,q⟩:=y
  rw [hS] at hP
  simp only at hP
  have:=lexS_err hS
  rw [show (!eqI e 0)=true from by rw [eqI_d,dzF this.1]; rfl,cond_true] at hP
  exact ⟨_,hP, .inr ⟨rfl,by simp, .inr (.inr ⟨e,q,rfl,rfl⟩)⟩⟩
 | ok T =>
  rw [hS] at hP
  simp only at hP
  by_cases h:(itemsF (T.length+1) (s.length:Int) [] T).2=[]
  rotate_left
  ·rw [if_pos h] at hP
   exact ⟨_,hP, .inr ⟨rfl,h, .inr (.inl ⟨T,rfl,rfl⟩)⟩⟩
  rw [if_neg (by simpa using h)] at hP
  have hI:=itemsF_B (T.length+1) (s.length:Int) [] T (by omega) (by simp) h
  generalize (itemsF (T.length+1) (s.length:Int) [] T).1=xs at hP hI
  have ht:=src_tree hS hI
  obtain ⟨c,hc,hc1,hc2⟩:=count_totP 1500 n 4 _ 1500 ht (by omega) (by omega) (by omega) (by omega)
  rw [count_eq n 4 _ _ ht,hc,obs] at hP
  by_cases h15:c≤1500
  ·rw [show ltI 1500 c=false from dzF (by omega),cond_false] at hP
   exact ⟨_,hP, .inl ⟨rfl,T,xs,⟨hS,hI,c,hc,h15⟩,rfl⟩⟩
  ·rw [show ltI 1500 c=true from dzT (by omega),cond_true] at hP
   exact ⟨_,hP, .inr ⟨rfl,by simp, .inl rfl⟩⟩
theorem usable_ok (n:Nat) (s:List UInt8) (hn:10000≤n):g_law02_usable n s=some (match lexS s with | .ok _=>true | .error (e,_)=>eqI e 0):=by
 unfold g_law02_usable
 rw [rl_Lex n s hn,obs]
 cases lexS s with
 | ok T=>rfl
 | error y=>rfl
theorem usable_t {n:Nat} {s:List UInt8} (hn:10000≤n):(g_law02_usable n s=some true∧∃ T,lexS s=.ok T)∨g_law02_usable n s=some false:=by
 rw [usable_ok n s hn]
 cases h:lexS s with
 | ok T=>exact .inl ⟨rfl,T,rfl⟩
 | error y =>
  obtain ⟨e,q⟩:=y
  have:=(lexS_err h).1
  right
  simp only [eqI_d]
  rw [dzF this]
theorem Lx0 {s:List UInt8} {T:List GTk} (h:lexS s=.ok T):Lx 0 s T:=((lexS_iff s T).1 h).2.1
theorem lex_join {a b:List UInt8} {T A B:List GTk} (h:lexS (a++10 :: b)=.ok T) (ha:lexS a=.ok A) (hb:lexS b=.ok B):T=A++B.map (shT ((a.length:Int)+1)):=by
 have hB:=Lx_shift (a.length+1) (Lx0 hb)
 rw [Nat.zero_add] at hB
 have:=Lx_line (Lx0 ha) (d:=10) rfl b (B.map (shT ((a.length+1:Nat):Int))) (by rw [Nat.zero_add]; exact hB)
 have e:=Lx_fun (Lx0 h) this
 rw [e]
 congr 1
theorem parse_few {n:Nat} {s:List UInt8} {r:GNode × List GDg} (hr:g_p_Parse n s=some r) (h:(r.2=[]∧∃ T xs,Good n s T xs∧r.1=srcN xs)∨(r.1=nz∧r.2 ≠ []∧(r.2=[⟨2,0⟩]∨(∃ T,lexS s=.ok T∧r.2=(itemsF (T.length+1) (s.length:Int) [] T).2)∨∃ e q,lexS s=.error (e,q)∧r.2=[⟨e,(q:Int)⟩]))):r.2.length≤20:=by
 rcases h with ⟨e,_⟩ | ⟨_,_,e | ⟨T,_,e⟩ | ⟨_,_,_,e⟩⟩
 ·rw [e]; simp
 ·rw [e]; simp
 ·rw [e]; exact (itemsF_mono _ _ _ _).2 (by simp)
 ·rw [e]; simp
theorem join_loop (n:Nat) (a:List UInt8) (ys:List (List PV)) (d:List GDg) (acc:List (List PV)) (hg:goodK 3 ys) (hl:ys.length≤10000) (hacc:acc.length≤100000) (ha:a.length≤10000) (hn:30000≤n) :
  loopN (fun recl6 (v:Int × List (List PV))=>g_law02_ParserJoining_l6 n a (srcN ys,d) recl6 v.1 v.2) n (0,acc)=some (acc++ys.map (shC 3 ((a.length:Int)+1))):=by
 have:=loop_gen (l:=ys) (fun (acc:List (List PV)) (i:Int)=>(i,acc)) (B:=fun recl6 (v:Int × List (List PV))=>g_law02_ParserJoining_l6 n a (srcN ys,d) recl6 v.1 v.2) (F:=fun acc r=>acc++r.map (shC 3 ((a.length:Int)+1))) (fun i acc=>acc.length≤100000+i) (by omega)
  (by
   intro rec acc hi
   show g_law02_ParserJoining_l6 n a (srcN ys,d) rec _ acc=_
   unfold g_law02_ParserJoining_l6
   simp only [map_idc,lenI,ltI,srcN]
   rw [dzF (by omega),cond_false]
   simp)
  (by
   intro rec acc i c r hinv hd hi hlt hw hr
   show g_law02_ParserJoining_l6 n a (srcN ys,d) rec (i:Int) acc=_
   obtain ⟨y,hy,ty,hof⟩:=kidP_at hg hlt
   have hc:c=ys[i]'hlt:=by rw [List.getElem?_eq_getElem hlt] at hi; exact (Option.some.inj hi).symm
   unfold g_law02_ParserJoining_l6
   simp only [map_idc,lenI,ltI,srcN]
   rw [dzT (by omega),cond_true,hy,obs,wi_id (x:=(a.length:Int)+1) (by omega) (by omega),shifted_ok 3 n y _ ty (by omega) (by omega) (by omega),obs]
   have hroom:∀ z:List PV,roomB (List.length (acc++[z])) 64=true:=by intro z; simp [roomB]; omega
   rw [hroom,cond_true,hw,hr _ (by simp; omega)]
   simp only [List.map_cons,List.append_assoc,List.singleton_append]
   rw [show shC 3 ((a.length:Int)+1) c=GNode.cs (shN 3 ((a.length:Int)+1) y) from by unfold shC; rw [hc,hof]])
  (n:=n) 0 acc (by omega) (Nat.zero_le _) (by omega)
 rw [List.drop_zero] at this
 exact this
theorem joining (n:Nat) (hn:30000≤n) (hh:g_law02_head n=some true) (a b:List UInt8) (hab:a.length+b.length+1≤9223372036854775807):g_law02_ParserJoining n a b=some true:=by
 have hs1:sumB a [10]=true:=dzT (by simp only [List.length_singleton]; omega)
 have hs2:sumB (a++[10]) b=true:=dzT (by simp only [List.length_append,List.length_singleton]; omega)
 have hab':a++[10]++b=a++10 :: b:=by simp
 unfold g_law02_ParserJoining
 rw [hh,obs,hs1,hs2,cond_true,cond_true,hab']
 rcases usable_t (n:=n) (s:=a++10 :: b) (by omega) with ⟨hu,T,hT⟩ | hu
 rotate_left
 ·rw [hu]; rfl
 rw [hu,obs]
 simp only [Bool.not_true,cond_false,cond_true]
 obtain ⟨r,hr,hrc⟩:=parse_cases n a hn
 obtain ⟨r',hr',hrc'⟩:=parse_cases n b hn
 have hlen:=(lexS_at hT).2.2.2.2
 simp only [List.length_append,List.length_cons] at hlen
 have hkids:r.1.Kids.length≤10000:=by
  rcases hrc with ⟨_,A,xs,hA,e⟩ | ⟨e,_⟩
  ·have:=(src_tree hA.1 hA.2.1); rw [e]; exact (treeP_s 3 _ ▸ this).1
  ·rw [e]; exact Nat.zero_le _
 have hroom:roomB (List.length ([]++r.1.Kids)) 64=true:=by simp [roomB]; omega
 have hk':∃ ys,r'.1=⟨r'.1.Kind,r'.1.Name,r'.1.N,r'.1.At,ys⟩∧goodK 3 ys∧ys.length≤10000:=by
  rcases hrc' with ⟨_,B,ys,hB,e⟩ | ⟨e,_⟩
  ·have:=(src_tree hB.1 hB.2.1)
   rw [treeP_s] at this
   exact ⟨ys,by rw [e]; rfl,this.2.2,this.1⟩
  ·exact ⟨[],by rw [e]; rfl,fun k hk=>(by cases hk),Nat.zero_le _⟩
 obtain ⟨ys,hys,hg,hl⟩:=hk'
 rw [hr,hr',obs,obs,hroom,cond_true,List.nil_append]
 refine bind_of (x:=r.1.Kids++ys.map (shC 3 ((a.length:Int)+1))) ?_ ?_
 ·have:=join_loop n a ys r'.2 r.1.Kids hg hl (by omega) (by omega) hn
  refine Eq.trans ?_ this
  have e:∀ recl v1 v2,g_law02_ParserJoining_l6 n a r' recl v1 v2=g_law02_ParserJoining_l6 n a (srcN ys,r'.2) recl v1 v2:=by
   intro recl v1 v2
   have hk:r'.1.Kids=ys:=by rw [hys]
   unfold g_law02_ParserJoining_l6
   rw [hk]
   rfl
  simp only [e]
 have hd1:r.2.length≤20:=parse_few hr hrc
 have hd2:r'.2.length≤20:=parse_few hr' hrc'
 simp only [lenI,List.length_map]
 rw [wi_id (x:=(r.2.length:Int)+(r'.2.length:Int)) (by omega) (by omega)]
 by_cases hz:r.2.length+r'.2.length=0
 rotate_left
 ·rw [show ltI 0 ((r.2.length:Int)+(r'.2.length:Int))=true from dzT (by omega)]
  rfl
 rw [show ltI 0 ((r.2.length:Int)+(r'.2.length:Int))=false from dzF (by omega)]
 have e1:r.2=[]:=List.eq_nil_of_length_eq_zero (by omega)
 have e2:r'.2=[]:=List.eq_nil_of_length_eq_zero (by omega)
 rcases hrc with ⟨_,A,xs,hA,e⟩ | ⟨_,h,_⟩
 rotate_left
 ·exact absurd e1 h
 rcases hrc' with ⟨_,B,ys',hB,e'⟩ | ⟨_,h,_⟩
 rotate_left
 ·exact absurd e2 h
 have hyy:ys=ys':=by
  have:r'.1.Kids=ys:=by rw [hys]
  rw [← this,e']; rfl
 subst hyy
 have hkx:r.1.Kids=xs:=by rw [e]; rfl
 rw [hkx]
 have hTT:=lex_join hT hA.1 hB.1
 have hI:Items T (xs++ys.map (shC 3 ((a.length:Int)+1))):=by rw [hTT]; exact Items_app hA.2.1 (Items_sh _ hB.2.1)
 have ht:=src_tree hT hI
 obtain ⟨c,hc,hc1,hc2⟩:=count_totP 1500 n 4 _ 1500 ht (by omega) (by omega) (by omega) (by omega)
 have hc':g_ref02_Count n (⟨1,[],0,0,xs++ys.map (shC 3 ((a.length:Int)+1))⟩:GNode) 1500=some c:=hc
 simp only [cond_false]
 rw [hc',obs,obs]
 by_cases h15:c≤1500
 rotate_left
 ·rw [show ltI 1500 c=true from dzT (by omega)]; rfl
 rw [show ltI 1500 c=false from dzF (by omega),cond_false,good_parse hn ⟨hT,hI,c,hc,h15⟩]
 simp only [obs]
 have hsm:=same_refl 4 n _ ht (by omega)
 have hsm':g_ref02_Same n (srcN (xs++ys.map (shC 3 ((a.length:Int)+1)))) (⟨1,[],0,0,xs++ys.map (shC 3 ((a.length:Int)+1))⟩:GNode)=some true:=hsm
 rw [hsm']
 rfl
end Go.Proofs
namespace Go.Proofs
open Go Go.Abs
set_option maxRecDepth 100000
theorem head_02:g_law02_head 36893488147419103232=some true:=by kernel_rfl
theorem fuel_02:30000≤36893488147419103232:=by decide
theorem joining_plain (a b:List UInt8) (h:a.length+b.length+1≤9223372036854775807):∃ n,g_law02_ParserJoining n a b=some true:=⟨_,joining _ fuel_02 head_02 a b h⟩
end Go.Proofs
namespace Go.Proofs.Ytniaojaeacgpoaa
open Go Go.Abs Go.Proofs
theorem parserJoining_holds:Rows.ParserJoiningSaid:=parserJoining_said fun a b ha hb=>joining_plain a b (by omega)
end Go.Proofs.Ytniaojaeacgpoaa
