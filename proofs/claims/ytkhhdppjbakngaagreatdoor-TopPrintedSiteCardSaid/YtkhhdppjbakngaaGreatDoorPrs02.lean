/-
  A part of the proof of a statement of the seat YtkhhdppjbakngaaGreatDoor.
-/
import Derived.Test.YtkhhdppjbakngaaGreatDoorPrs01
set_option linter.unusedVariables false
namespace Go.Abs
open Go
variable {D:DB}{H:List (Nat×Blk)}{K:St→Prop}{M M' M0:ZR}{N:Nat}{P:Program}{Q:AX→St→Prop}{Q':Exit→Act→World→Prop}{R:KQ→QY→Prop}{T T':Nat→Option AV}{a:Act}{args args':List AV}{b:Nat}{body:Code}{by_:Nat}{c:Code}{d:Nat}{dst:Option Tmp}{e:TypeId}{α:Type}{enc:α→List PV}{f:FuncId}{fn:Func}{g:FuncId}{h h' h0:QY}{hc hc':List (Nat×Blk)}{hi:Option Operand}{i id:Nat}{ix:Operand}{j:Nat}{l:List α}{listed:Array Bool}{lo:Option Operand}{n:Nat}{nf:BB}{nn:Nat}{o:Oper}{off:Nat}{ok:Bool}{ops:Array Oper}{p:AV}{pd:Option Code}{ro:Option Nat}{s s' s1:St}{st:LoopState}{tb:TypeId}{tk:Nat}{tx ty:TypeId}{v:Value}{w w' w'' w0:World}{x:Operand}{xv:AV}{y:Operand}{β:Type}{ρ φ φ' φ0:Nat→Nat}
theorem zy{P:Program}{N:Nat}{ro:Option Nat}{D:DB}{ops:Array Oper}{Q:AX→St→Prop}:∀(l:List Oper) (k:Nat) (s:St) (φ0:Nat→Nat) (h0:QY) (w0:World) (φ:Nat→Nat) (M0:ZR) (a:Act) (w:World),
  (∀j,l[j]?=ops[k+j]?)→Zi φ0 h0 w0 φ (look s.H) w→Zy φ M0 N D (look s.T) (look s.H) a w→YG P N ops Q l s →
  wpOpsIn (wd ro) 0 P ops (Post N D Q φ0 M0 h0 w0) ((List.range l.length).map (k+·)) a w
|[],k,s,φ0,h0,w0,φ,M0,a,w,J,E,r,h=>⟨φ,.normal,s,h,r,E,rfl⟩
|o::l,k,s,φ0,h0,w0,φ,M0,a,w,J,E,r,h=>by
  have h1:ops[k]?=some o:=by simpa using (J 0).symm
  have Y:(List.range (o::l).length).map (k+·)=k::(List.range l.length).map (k+1+·):=by
   simp only[DU,List.range_succ_eq_map,JR,List.map_map,Nat.add_zero,List.cons.injEq,true_and]
   grind [List.map_congr_left]
  rw[Y];simp only[wpOpsIn,h1];have G:∀j,l[j]?=ops[k+1+j]?:=fun j=>by have:=J<|j+1;grind
  simp only[YG] at h;split at h
  ·rename_i b hw;rw[Rn r hw];refine FH h (fun hb g=>?_) (fun hb g=>?_)
   ·subst hb;simp only[if_true];have Z:=GU hw;have r1:Zy φ M0 N D (look<|ZE ops o s.T true) (look s.H) a w:=by grind
    refine Go.Abs.Oper.wpIn_mono2 (QiL (s:=⟨ZE ops o s.T true,s.H⟩) g r1) ?_ ?_
    ·rintro a' w' ⟨φ',s',U,O,h4⟩;exact zy l (k+1) s' φ0 h0 w0 φ' M0 a' w' G (E.trans h4) O U
    ·intro e a' w' p;exact p.trans E
   ·subst hb;simp only[Bool.false_eq_true,if_false];have Z:=GU hw;have r1:Zy φ M0 N D (look<|ZE ops o s.T false) (look s.H) a w:=by grind
    refine⟨fun _ _=>trivial,zy l (k+1) _ φ0 h0 w0 φ M0 _ w G ?_ (Zy.put (s:=⟨ZE ops o s.T false,s.H⟩) r1 (Kc g.1)<|by rfl) g.2⟩;cases o.dst<;>exact E
  grind
def Fb(ops:Array Oper):Bool:=ops.toList.all fun o=>match o.op with|.defer _=>false|_=>true
theorem PR{P:Program}{ro:Option Nat}{ops:Array Oper}{Q:Exit→Act→World→Prop}(O:Fb ops=true)(Y:¬LetsOut Q):∀(G:Nat) (listed:Array Bool) (a:Act) (w:World),wpAny P .any ops Q G listed a w→wpAnyIn (wd ro) 0 P .any ops Q G listed a w
|0,listed,a,w,h=>h
|G+1,listed,a,w,h=>by
  refine⟨h.1,fun i hi=>?_⟩;have J:=h.2 i hi;unfold wpOp at J;unfold wpOpIn;cases ho:ops[i]? with
 |none=>simp only[ho] at J ⊢;exact PR O Y G _ a w J
 |some o =>
   simp only[ho] at J ⊢
   have U:∀c,o.op≠.defer c:=by
    intro c hc;have:=Fx.1 O o zc
    grind
   split at J
   ·rename_i hw;simp only[hw,if_true];rcases J with Z|Z
    ·exact QhR (Oper.wp_mono (fun a w=>PR O Y G _ a w) Z) U
    grind
   ·rename_i hw;simp only[hw];exact⟨fun _ _=>trivial,PR O Y G _ _ w J⟩
theorem JC:¬LetsOut (Post N D Q φ M0 h w):=by
 rintro⟨a,w',φ',x,s',O,Y,U,G⟩;cases x with
|normal=>cases G
|exit i=>cases G
|ret=>cases G
|panic v=>obtain⟨u,J,_⟩:=G;cases J
theorem wL(h:YG P N ops Q ops.toList s):Ex P N ro (.region id ops false) s Q:=by
 intro φ M0 D a w r;refine wpIn_region ?_;have:=zy (ro:=ro) ops.toList 0 s φ (look s.H) w φ M0 a w zq (Zi.refl _ _ _) r h
 simp_all
section
variable {P:Program}{o:Oper}{T T':Nat→Option AV}{h h':QY}
theorem Ci:∀{l:List Operand},(∀x∈l,Zn T' x=Zn T x)→A7 T' l=A7 T l
|[],_=>rfl
|x::l,hh=>by simp only[A7,hh x zq,Ci (l:=l) fun y G=>hh y<|by simp[G]]
theorem Cj:∀{l:List (Nat×Operand)},(∀x∈l.map (·.2),Zn T' x=Zn T x)→qW T' l=qW T l
|[],_=>rfl
|(i,x)::l,hh=>by simp only[qW,hh x zq,Cj (l:=l) fun y G=>hh y<|zc]
theorem fJ(hs:∀x∈o.op.operands,Zn T' x=Zn T x):Gx P T' o=Gx P T o:=by
 have U:∀x∈o.op.operands.toList,known T' x=known T x:=fun x J=>by grind [known]
 have G:allKnown T' o.op.operands.toList=allKnown T o.op.operands.toList:=by
  have:∀l:List Operand,(∀x∈l,known T' x=known T x)→allKnown T' l=allKnown T l:=by
   intro l
   induction l with
  |nil=>intro _;rfl
  |cons x l O=>grind [allKnown]
  grind
 unfold Gx;rw[G];split
 ·rename_i hc;simp only[Ku] at hc
  grind [known,undef,Hl,execOp_congr]
 ·rfl
theorem BZ{x:Option Operand}(hh:∀y,x=some y→Zn T' y=Zn T y):WO T' d x=WO T d x:=by
 cases x with
|none=>rfl
|some y=>simp only[WO,hh y rfl]
theorem zz{u:Kv}{t:TypeId}{i:Operand}(G:XV P T h t x i ok=some u)(J:Zn T' x=Zn T x)(hi:Zn T' i=Zn T i)(hh:∀b∈u.2.2,h' b=h b) :
  XV P T' h' t x i ok=some u∧UJ P T' h' t x i ok=none:=by
 unfold XV at G;split at G;rotate_left
 ·cases G
 grind [XV,UJ]
theorem zA{u:Kv}{t:TypeId}{i:Operand}(G:XW P T h t x i y=some u)(O:VO P T h t x i y=none)(J:Zn T' x=Zn T x)(hi:Zn T' i=Zn T i)(U:Zn T' y=Zn T y)(hh:∀b∈u.2.2,h' b=h b) :
  XW P T' h' t x i y=some u∧VO P T' h' t x i y=none:=by
 unfold XW at G;split at G;rotate_left
 ·cases G
 grind [XW,VO]
theorem zB{u:Kv}{t:TypeId}{i:Operand}(J:LQ P T h t x i=some u)(G:Zn T' x=Zn T x)(hi:Zn T' i=Zn T i)(hh:∀b∈u.2.2,h' b=h b):LQ P T' h' t x i=some u:=by
 grind [LQ]
theorem xy{u:Kv}{t:TypeId}{i:Operand}(J:UJ P T h t x i ok=some u)(G:Zn T' x=Zn T x)(hi:Zn T' i=Zn T i)(hh:∀b∈u.2.2,h' b=h b):UJ P T' h' t x i ok=some u:=by
 simp only[UJ,G,hi] at J ⊢
 grind
theorem OZ{u:Kv}{t:TypeId}{i:Operand}(J:VO P T h t x i y=some u)(G:Zn T' x=Zn T x)(hi:Zn T' i=Zn T i)(O:Zn T' y=Zn T y)(hh:∀b∈u.2.2,h' b=h b):VO P T' h' t x i y=some u:=by
 grind [VO]
theorem wM{x y:Option Kv}{u:Kv}(G:Ti x y=some u):x=some u∨x=none∧y=some u:=by
 unfold Ti at G
 grind
theorem Qah{u:Kv}(G:We P o T h=some u)(hs:∀x∈o.op.operands,Zn T' x=Zn T x)(hh:∀b∈u.2.2,h' b=h b):We P o T' h'=some u:=by
 have hp:=fJ (P:=P) hs;unfold We at G ⊢;generalize ab:o.op=q at G hs ⊢;cases q
 case move x=>grind [WT,Op.operands]
 case assign x=>grind [WT,Op.operands]
 case pick c x y=>grind [Pe,WT,Op.operands]
 case alloc ty =>
  grind [vk]
 case box ty x =>
  grind [Op.operands,vk]
 case build t ps =>
  grind [qX,Op.operands,Cj]
 case makeMap t rsv =>
  simp only[BR] at G ⊢
  grind
 case lookup t x i ok =>
  grind [Op.operands,Ti,wM,xy,zz]
 case mapUpdate t x i y =>
  grind [Op.operands,Ti,wM,OZ,zA]
 case makeSlice t x y=>grind [Op.operands,fA]
 case buildSlice t n ps =>
  simp only at G ⊢;split at G
  ·rename_i hn;rw[if_pos hn];exact dK G hh
  rename_i hn;rw[if_neg hn];rw[Qag (T:=T) (l:=ps.toList) fun x O=>hs x<|by grind [Op.operands]];split at G
  ·rename_i hB;rw[if_pos hB];simp only[FD,Cj (T':=T') (T:=T) (l:=ps.toList) fun x O=>hs x<|by grind [Op.operands]] at G ⊢;split at G
   ·grind
   ·cases G
  rename_i hB;rw[if_neg hB];simp only[FB,Cj (T':=T') (T:=T) (l:=ps.toList) fun x O=>hs x<|by grind [Op.operands]] at G ⊢;split at G
  ·rename_i e d qs _ _ _;split at G
   ·rename_i i _;split at G
    ·grind
    ·cases G
   ·cases G
  ·cases G
 case load ty x =>
  have O:=hs x (by simp[Op.operands]);simp only at G ⊢;rw[O];split at G
  ·rename_i J;rw[if_pos J];grind [fw]
  rename_i J;rw[if_neg J];simp only[Og,hs x<|by simp[Op.operands]] at G ⊢;split at G
  ·grind
  ·cases G
 case store ty x y =>
  have O:=hs x (by simp[Op.operands]);have U:=hs y (by simp[Op.operands]);simp only at G ⊢;rw[O];split at G
  ·rename_i J;rw[if_pos J];grind [xm]
  grind [qU,Op.operands]
 case nilCheck x =>
  have O:=hs x (by simp[Op.operands]);simp only at G ⊢;rw[O];split at G
  ·rename_i J;rw[if_pos J];grind [dH]
  grind [GJ]
 case fieldAddr t x f =>
  have O:=hs x (by simp[Op.operands]);simp only at G ⊢;rw[O];split at G
  ·rename_i J;rw[if_pos J];grind [Ia]
  simp_all [UY]
 case field t x f=>grind [qV,Op.operands]
 case indexAddr t x i =>
  have O:=hs x (by simp[Op.operands]);have hi:=hs i (by simp[Op.operands]);simp only at G ⊢;rw[O];split at G
  ·rename_i J;rw[if_pos J];grind [A9]
  rename_i J;rw[if_neg J];have Y:JA P T' t x i=JA P T t x i:=by grind [JA]
  grind [GQ,zw,Ib]
 case index t x i=>grind [AZ,Ny,Op.operands]
 case slice t x lo hi mx =>
  have Y:∀d,WO T' d lo=WO T d lo:=fun d=>BZ (fun y U=>hs y<|by simp[Op.operands,U])
  have e2:∀d,WO T' d hi=WO T d hi:=fun d=>BZ (fun y U=>hs y<|by simp[Op.operands,U])
  have e3:∀d,WO T' d mx=WO T d mx:=fun d=>BZ (fun y U=>hs y<|by simp[Op.operands,U])
  have O:=hs x (by simp[Op.operands]);have e4:F6 P T' t x lo hi mx=F6 P T t x lo hi mx:=by simp only[F6,O,Y,e2,e3]
  grind [zw,xq]
 case extract x i=>grind [Ri,Op.operands]
 case makeFunc f a b =>
  grind [Da,Op.operands,Ci]
 case makeInterface t x=>grind [Xu,Op.operands]
 case typeAssert x xt t ok=>grind [Fy,Op.operands]
 case binOp op tx x y ty =>
  have O:=hs x (by simp[Op.operands]);have U:=hs y (by simp[Op.operands]);have Y:OW T' op x y=OW T op x y:=by grind [OW]
  have e2:aEq P T' op tx x y=aEq P T op tx x y:=by simp only[aEq,fB,O,U]
  simp only[Y,e2,hp] at G ⊢
  have last:Ic P T h op tx x y=some u→Ic P T' h' op tx x y=some u:=by
   grind [Ic]
  cases q1:OW T op x y with
 |some z=>rw[q1] at G;exact G
 |none =>
   rw[q1] at G;cases q2:aEq P T op tx x y with
  |some z=>rw[q2] at G;exact G
  |none =>
    rw[q2] at G;cases q3:Gx P T o with
   |some z=>rw[q3] at G;exact G
   |none =>
     rw[q3] at G;exact last G
 case unOp op tx x=>grind [aUn,Op.operands]
 case convert src dst x=>grind [fo,Op.operands]
 case call c =>
  obtain⟨callee,args,types⟩:=c;cases callee
  case builtin b =>
   cases b
   case len =>
    simp only at G ⊢;split at G
    ·rename_i x t;have O:=hs x (by simp[Op.operands,Call.operands]);rw[O];split at G
     ·rename_i J;rw[if_pos J];grind [dJ]
     rename_i J;rw[if_neg J]
     grind [iO,wG,Qaf,zw,dL]
    ·cases G
   case delete =>
    grind [Op.operands,Call.operands,zB]
   case append =>
    simp only at G ⊢;split at G
    ·rename_i s x t t';split at G
     ·rename_i ht;subst ht;simp only[if_true];have Z:=hs s (by simp[Op.operands,Call.operands]);have aa:=hs x (by simp[Op.operands,Call.operands]);rw[Z];split at G
      ·rename_i J;rw[if_pos J];grind [vD]
      rename_i J;rw[if_neg J];simp only[D9,hs s (by simp[Op.operands,Call.operands]),hs x<|by simp[Op.operands,Call.operands]] at G ⊢;split at G
      ·split at G
       ·split at G
        ·grind
        ·cases G
       ·cases G
      ·cases G
     ·cases G
    ·cases G
   case clear =>
    grind [Op.operands,Call.operands,xu]
   case max=>grind
   case min=>grind
   all_goals cases G
  all_goals cases G
 all_goals cases G
end
def H8{α:Type}(F:Nat→Option α):Option (Nat×α)→Nat→Option α|none=>F|some (b,v)=>fun t=>if b=t then some v else F t
def vF{α:Type}:List (Option<|Nat×α)→(Nat→Bool)→(Nat→Option α)→Nat→Option α|[],_,F=>F|c::G,L,F=>vF G (fun j=>L<|j+1) (if L 0 then H8 F c else F)
theorem H9{α:Type}{t:Nat}:∀(G:List (Option<|Nat×α)) (L J:Nat→Bool) (F O:Nat→Option α),F t=O t→(∀(j:Nat) v,G[j]?=some (some (t,v))→L j=J j)→vF G L F t=vF G J O t
|[],_,_,_,_,U,_=>U
|c::G,L,J,F,O,U,hh=>by
  simp only[vF];refine H9 G _ _ _ _ ?_ (fun j v Y=>hh (j+1) v<|zc);cases c with
 |none=>simp_all [H8]
 |some Z =>
   grind [H8]
theorem lC{α:Type}{t:Nat}{v:α}:∀(G:List (Option<|Nat×α)) (L:Nat→Bool) (F:Nat→Option α) (i:Nat),G[i]?=some (some (t,v))→L i=true→(∀(j:Nat) u,i<j→G[j]?=some (some (t,u))→L j=false)→vF G L F t=some v
|[],_,_,i,hi,_,_=>by simp at hi
|c::G,L,F,0,hi,J,hh=>by
  simp only[List.getElem?_cons_zero,ZA] at hi;subst hi;simp only[vF,J,if_true];rw[H9 G (fun j=>L<|j+1) (fun _=>false) _ (fun _=>some v) (by simp[H8]) fun j u O=>hh (j+1) u zo<|zc]
  have:∀(G:List (Option<|Nat×α)) (F:Nat→Option α),vF G (fun _=>false) F=F:=by
   intro G
   induction G with
  |nil=>intro F;rfl
  |cons c G Y=>assumption
  rw[this]
|c::G,L,F,i+1,hi,J,hh=>by
  simp only[vF];exact lC G (fun j=>L<|j+1) _ i zc J (fun j u U O=>hh (j+1) u zo<|zc)
theorem xz(G:List (Option<|Nat×α))(L:Nat→Bool)(F:Nat→Option α)(i:Nat)(c:Option (Nat×α))(hi:G[i]?=some c)(hh:∀b v,c=some (b,v)→∀(j:Nat) u,i<j→G[j]?=some (some (b,u))→L j=false) :
  vF G (fun j=>L j||decide (j=i)) F=H8 (vF G L F) c:=by
 funext t;cases c with
|none =>
  refine H9 G _ _ _ _ rfl fun j v J=>?_;have:j≠i:=fun e=>by grind
  simp[this]
|some U =>
  obtain⟨b,v⟩:=U;by_cases e:b=t
  ·subst e;simp only[H8,if_true];refine lC G _ F i hi zq (fun j u O J=>?_)
   grind
  ·simp only[H8,e,if_false];refine H9 G _ _ _ _ rfl fun j u J=>?_;have:j≠i:=fun Y=>by grind
   simp[this]
theorem Qca(G:List (Option<|Nat×α))(L J:Nat→Bool)(F:Nat→Option α)(hh:∀j,j<G.length→L j=J j):vF G L F=vF G J F:=by
 funext t;exact H9 G L J F F rfl fun j v O=>hh j (wB.1 O).1
theorem Tj{α:Type}:∀(G:List (Option<|Nat×α)) (L:Nat→Bool) (F:Nat→Option α),(∀j,j<G.length→L j=false)→vF G L F=F
|[],_,_,_=>rfl
|c::G,L,F,hh=>by
  simp only[vF,hh 0 zq,Bool.false_eq_true,if_false];exact Tj G _ F (fun j J=>hh (j+1) (by simp;omega))
structure Ev where
 x:AV
 wr:Option (Nat×Blk)
 rd:List Nat
def wT(o:Oper)(e:Ev):Option (Nat×AV):=o.dst.map fun d=>(d,e.x)
def pvs(G:List Value):List AV:=G.map fun v=>.p<|.val v
def Qk5(G:List AV→AV):Prop:=∀(φ:Nat→Nat) (h:QY) (w:World) (M:ZR) (args:List AV) (J:List Value) (v:Value),Ql φ h w M args J→Qf φ h w M (G<|pvs J) v→Qf φ h w M (G args) v
def Qcb:AV→Bool|.tsl _ _ _=>true|.p (.sl _ _)=>true|_=>false
def SlV(G:List Value):Prop:=∀v∈G,∃a l c,v=Value.slice a l c
theorem lD{φ:Nat→Nat}{h:QY}{w:World}{M:ZR}:∀{xs:List AV} {O:List Value},xs.all Qcb=true→Ql φ h w M xs O→SlV O
|[],O,_,hh=>by simp only[Ql] at hh;subst hh;intro v G;cases G
|x::xs,O,J,hh=>by
  simp only[Ql] at hh;obtain⟨y,ys,rfl,Y,U⟩:=hh;simp only[List.all_cons,Ku] at J;intro v G;rcases List.mem_cons.1 G with rfl|G
  ·have hp:∀S es,Zj w M (.sl S es) v→∃a l c,v=Value.slice a l c:=by
    grind [Zj]
   cases x with
  |tsl S es t=>grind [Qf]
  |p q =>
    cases q with
   |sl S es=>grind [Qf]
   |_=>simp[Qcb] at J
  |_=>simp[Qcb] at J
  ·exact lD J.2 U v G
def Step1(P:Program)(N:Nat)(ops:Array Oper)(o:Oper)(T:Nat→Option AV)(h:QY)(e:Ev):Prop :=
  KL N o.dst=true ∧
  ((ZT ops o T=some false∧e=⟨.p<|.val undef,none,[]⟩) ∨
   (ZT ops o T=some true∧We P o T h=some (e.x,e.wr,e.rd)) ∨
   (ZT ops o T=some true∧∃f args args',Kk T o.op=some (f,args)∧(P.funcs[f]?).any (fun fn=>fn.body.isSome&&fn.name != "runtime.NumGoroutine")=true∧EO args args'∧Vw args'=true ∧
     Zc P f args' (.ret e.x)∧YC e.x=true∧e.wr=none∧e.rd=[]) ∨
   (ZT ops o T=some true∧∃(f:FuncId) (args:List AV) (J:List AV→AV),Kk T o.op=some (f,args)∧(P.funcs[f]?).any (fun fn=>fn.body.isSome&&fn.name != "runtime.NumGoroutine")=true ∧
     args.all Qcb=true∧(∀G:List Value,SlV G→G.length=args.length→Zc P f (pvs G) (.ret<|J<|pvs G))∧(∀G,YC (J<|pvs G)=true)∧Qk5 J∧e.x=J args∧e.wr=none∧e.rd=[]))
theorem Qai(G:∀t∈o.looksAt ops,T' t=T t):∀x∈o.op.operands,Zn T' x=Zn T x:=by
 intro x J;cases x with
|tmp t=>exact G t (List.mem_append_left _<|List.mem_filterMap.2 ⟨.tmp t,zc,rfl⟩)
|_=>rfl
theorem fK(J:∀t∈o.looksAt ops,T' t=T t):ZT ops o T'=ZT ops o T:=by
 unfold ZT;cases hg:o.guard with
|none=>rfl
|some G =>
  grind [Oper.looksAt]
theorem xA(hs:∀x∈o.op.operands,Zn T' x=Zn T x):Kk T' o.op=Kk T o.op:=by
 unfold Kk;split
 ·grind [Op.operands,Call.operands,Ci]
 ·rename_i t args ts J;have G:T' t=T t:=hs (.tmp t) (by grind [Op.operands,Call.operands])
  grind [Op.operands,Call.operands,Ci]
 ·rfl
theorem Step1.loc{e:Ev}(s:Step1 P N ops o T h e)(J:∀t∈o.looksAt ops,T' t=T t)(hh:∀b∈e.rd,h' b=h b) :
  Step1 P N ops o T' h' e:=by
 have hs:=Qai J;refine⟨s.1,?_⟩;rw[fK J,xA hs];rcases s.2 with G|⟨G,O⟩|G|G
 ·grind
 ·grind [Qah]
 ·grind
 grind
theorem Zy.putT(r:Zy φ M0 N D T h a w){d:Option Tmp}{x:AV}(J:∀t,d=some t→t<N)(O:Qf φ h w (MM φ h M0) x v):Zy φ M0 N D (H8 T (d.map fun d=>(d,x))) h (a.put d v) w:=by
 cases d with
|none=>exact r
|some d =>
  have hlt:=J d rfl;refine⟨r.dfs,by simp[Act.put,r.siz],r.hp,fun t y G=>?_⟩;simp only[Option.map_some,H8] at G;by_cases e:d=t
  ·simp only[e,if_true,ZA] at G;subst G;refine⟨e▸hlt,?_⟩;have:(a.put (some d) v).tmps.getD t undef=v:=by subst e;simp[Act.put,r.siz,hlt]
   grind
  ·simp only[e,if_false] at G;refine⟨(r.tm t y G).1,?_⟩;have:(a.put (some d) v).tmps.getD t undef=a.tmps.getD t undef:=by simp_all [Act.put]
   rw[this];exact(r.tm t y G).2
theorem Qfi(h:QY)(c:Option (Nat×Blk)):ap h c=H8 h c:=by
 cases c with
|none=>rfl
|some G=>rfl
theorem Step1.wp{e:Ev}{Q:Exit→Act→World→Prop}(hi:ops[i]?=some o)(s:Step1 P N ops o T h e)(r:Zy φ M0 N D T h a w){K:Act→World→Prop}(hK:∀φ' a' w',Zy φ' M0 N D (H8 T<|wT o e) (H8 h e.wr) a' w'→Zi φ h w φ' (H8 h e.wr) w'→K a' w'):wpOp P ops Q i K a w:=by
 unfold wpOp;simp only[hi];obtain⟨hd,hs⟩:=s;rcases hs with⟨G,rfl⟩|⟨G,J⟩|⟨G,f,args,args',J,O,h4,h5,h6,h7,h8,h9⟩|⟨G,f,args,τ,J,O,h10,h6,h7,h5,h4,h8,h9⟩
 ·rw[Rn r G];simp only[Bool.false_eq_true,if_false];exact hK φ _ w (r.putT (Kc hd)<|by rfl)<|Zi.refl _ _ _
 ·rw[Rn r G];simp only[if_true];refine .inl ?_;obtain⟨nx,v,w',φ',g1,g2,g3,g4,g5,g6⟩:=Qb4 r J;simp only[Qfi] at g3 g4 g5 g6;have r3:Zy φ' M0 N D T (H8 h e.wr) a w':=r.keep g5 g6 g4;have Y:=r3.putT (d:=o.dst) (x:=e.x) (v:=v) (Kc hd) g3;unfold Oper.wp;rw[g1];rcases g2 with rfl|⟨rfl,rfl⟩
  ·exact hK φ' _ w' Y g5
  ·exact hK φ' _ w' Y g5
 ·rw[Rn r G];simp only[if_true];refine .inl ?_;obtain⟨Z,g1,g2⟩:=PQ r J O;unfold Oper.wp;rw[g2];simp only[Oper.upon];have hH:ZX φ R5 w (MB φ h w M0):=FE (fun x o hm=>fG hm) r.hp.gm.w r.hp.gm.mb;have hM:∀r o v,w.cell? ⟨r,o,none⟩=some v→¬MM φ h M0 r o→w.cell? ⟨r,o,none⟩=some v∧¬MM φ R5 (MB φ h w M0) r o:=fun r o v G J=>⟨G,fun O=>O.elim Jp fun h4=>J h4.1⟩
  refine(h6 φ (MB φ h w M0) w Z hH<|(J5 hM).2 _ _ h5 (Uk.2 _ _ _ h4 g1)).mono ?_;rintro e1 w' ⟨φ',r',h',⟨rfl,rfl⟩,aa,E,v,rfl,hv⟩;have U:∀ro o v,w'.cell? ⟨ro,o,none⟩=some v→¬MM φ' R5 (MB φ h w M0) ro o→w'.cell? ⟨ro,o,none⟩=some v∧¬MM (Ym φ w.heap.size<|w'.heap.size-w.heap.size) h M0 ro o:=fun ro o v G J=>⟨G,ql r.hp E.size G fun O=>J<|.inr O⟩
  obtain⟨r,E1,X1,hC⟩:=r.lift<|w'.heap.size-w.heap.size;obtain⟨E2,X2,H2⟩:=GR E.os E.tape E.output E.size (fun x hx=>E.same x hx fun b hb=>absurd rfl hb) r.hp hC;have Y:Zy _ M0 N D T h a w':=r.keep E2 X2 H2;have r3:=Y.putT (d:=o.dst) (x:=e.x) (v:=v) (Kc hd)<|(J5 U).1 _ _ h7 hv;have e8:H8 h e.wr=h:=by rw[h8];rfl
  exact hK _ _ w' (by rw[e8];exact r3) (by rw[e8];exact E1.trans E2)
 ·rw[Rn r G];simp only[if_true];refine .inl ?_;obtain⟨Z,g1,g2⟩:=PQ r J O;unfold Oper.wp;rw[g2];simp only[Oper.upon];have hH:ZX φ R5 w (MB φ h w M0):=FE (fun x o hm=>fG hm) r.hp.gm.w r.hp.gm.mb;refine(h6 Z (lD h10 g1) (ZY g1).symm φ (MB φ h w M0) w Z hH<|Rf Z).mono ?_;rintro e1 w' ⟨φ',r',h',⟨rfl,rfl⟩,aa,E,v,rfl,hv⟩;have U:∀ro o v,w'.cell? ⟨ro,o,none⟩=some v→¬MM φ' R5 (MB φ h w M0) ro o→w'.cell? ⟨ro,o,none⟩=some v∧¬MM (Ym φ w.heap.size<|w'.heap.size-w.heap.size) h M0 ro o:=fun ro o v G J=>⟨G,ql r.hp E.size G fun O=>J<|.inr O⟩
  obtain⟨r,E1,X1,hC⟩:=r.lift<|w'.heap.size-w.heap.size;obtain⟨E2,X2,H2⟩:=GR E.os E.tape E.output E.size (fun x hx=>E.same x hx fun b hb=>absurd rfl hb) r.hp hC;have Y:Zy _ M0 N D T h a w':=r.keep E2 X2 H2;have ab:=(J5 (φ':=Ym φ w.heap.size<|w'.heap.size-w.heap.size) (h':=h) U).1 _ _ (h7 Z) hv;have r3:=Y.putT (d:=o.dst) (x:=e.x) (v:=v) (Kc hd) (by rw[h4];exact h5 _ _ _ _ _ _ _ ((QV (E2.keeps M0) X2).2 _ _ ((QV (E1.keeps M0) X1).2 _ _ g1)) ab);have e8:H8 h e.wr=h:=by rw[h8];rfl
  exact hK _ _ w' (by rw[e8];exact r3) (by rw[e8];exact E1.trans E2)
abbrev YU:=Option Nat×List Nat
def Vg(a b:YU):Bool :=
 (match a.1 with|some x=>!b.2.contains x&&b.1 != some x|none=>true)&&(match b.1 with|some y=>!a.2.contains y|none=>true)
def waits(G:Oper)(i:Nat):Bool:=G.after.toList.any fun e=>Region.binds .any e&&e.on==i
def zD(ops:Array Oper)(G:Oper)(i:Nat):Bool:=waits G i||G.after.toList.any fun e=>Region.binds .any e&&(ops[e.on]?).any (waits · i)
theorem Tm{O:Oper}(h:zD ops O i=true) :
  (∃G,G∈O.after∧Region.binds .any G=true∧G.on=i)∨(∃G ok J,G∈O.after∧Region.binds .any G=true∧ops[G.on]?=some ok∧J∈ok.after∧Region.binds .any J=true∧J.on=i):=by
 have key:∀(o:Oper),waits o i=true→∃G,G∈o.after∧Region.binds .any G=true∧G.on=i:=by
  grind [waits]
 grind [zD]
def NE(ops:Array Oper)(J:Oper)(i:Nat)(O:YU):List Oper→List YU→Bool|G::l,Y::U=>(zD ops G i||(J.apart ops G&&Vg O Y))&&NE ops J i O l U|_,_=>true
def lF(ops:Array Oper):Nat→List Oper→List YU→Bool|i,J::l,O::G=>NE ops J i O l G&&lF ops (i+1) l G|_,_,_=>true
def LU:Nat→List Oper→Bool|_,[]=>true|j,o::l=>(o.after.toList.all fun e=>!Region.binds .any e||decide (e.on<j))&&LU (j+1) l
def Yq(ops:Array Oper)(G:List YU):Bool:=lF ops 0 ops.toList G&&LU 0 ops.toList
theorem Md{ops:Array Oper}{Y:Oper}{i:Nat}{Z:YU}:∀{l:List Oper} {O:List YU},NE ops Y i Z l O=true→∀(j:Nat) G J,l[j]?=some G→O[j]?=some J→zD ops G i=true∨(Y.apart ops G=true∧Vg Z J=true)
|[],O,_,j,G,J,U,_=>by simp at U
|o::l,[],_,j,G,J,_,hf=>by simp at hf
|o::l,f::O,hp,j,G,J,U,hf=>by
  simp only[NE,Ku,Bool.or_eq_true] at hp;cases j with
 |zero=>grind
 |succ j=>exact Md hp.2 j G J zc zc
theorem Ro{ops:Array Oper}:∀{l:List Oper} {Y:List YU} {k:Nat},lF ops k l Y=true→∀(i j:Nat) O G U J,i<j→l[i]?=some O→l[j]?=some G→Y[i]?=some U→Y[j]?=some J →
  zD ops G (k+i)=true∨(O.apart ops G=true∧Vg U J=true)
|[],Y,k,_,i,j,O,G,U,J,_,hi,_,_,_=>by simp at hi
|o::l,[],k,_,i,j,O,G,U,J,_,_,_,hf,_=>by simp at hf
|o::l,f::Y,k,hp,i,j,O,G,U,J,ab,hi,hj,aa,Z=>by
  simp only[lF,Ku] at hp;cases j with
 |zero=>omega
 |succ j =>
   cases i with
  |zero =>
    grind [Md]
  |succ i =>
    have:=Ro hp.2 i j O G U J zo zc zc zc zc
    grind
theorem WV:∀{l:List Oper} {k:Nat},LU k l=true→∀(j:Nat) o,l[j]?=some o→∀e∈o.after,Region.binds .any e=true→e.on<k+j
|[],k,_,j,o,G=>by simp at G
|o::l,k,hp,j,J,G=>by
  simp only[LU,Ku] at hp;cases j with
 |zero =>
   grind
 |succ j =>
   intro e O hb;have:=WV hp.2 j J zc e O hb;omega
def qm(listed:Array Bool):Nat→Nat|0=>0|n+1=>qm listed n+(if listed.getD n true then 0 else 1)
theorem EP{listed:Array Bool}{i:Nat}(hi:listed.getD i true=false):∀n,qm (listed.setIfInBounds i true) n+(if i<n then 1 else 0)=qm listed n
|0=>by simp[qm]
|n+1=>by
  have G:=EP hi n;simp only[qm]
  have hlt:i<listed.size:=by
   grind
  by_cases e:i=n
  ·simp_all
  ·rw[getD_set_ne true e]
   grind
theorem Me{listed:Array Bool}:∀{n:Nat},qm listed n=0→∀i,i<n→listed.getD i true=true
|0,_,i,hi=>by omega
|n+1,hu,i,hi=>by
  simp only[qm] at hu;by_cases e:i=n
  ·grind
  ·exact Me (n:=n) (Nat.eq_zero_of_add_eq_zero_right hu) i zo
theorem Qcc{Q:Exit→Act→World→Prop}{T0:Nat→Option AV}(es:List Ev)(az:es.length=ops.size)(an:∀(i:Nat) o e,ops[i]?=some o→es[i]?=some e→Step1 P N ops o (vF ((ops.toList.zip es).map fun p=>wT p.1 p.2) (fun j=>decide (j<i)) T0) (vF (es.map (·.wr)) (fun j=>decide (j<i)) h0) e)(am:Yq ops (es.map fun e=>(e.wr.map (·.1),e.rd))=true)(hQ:∀φ a w,Zy φ M0 N D (vF ((ops.toList.zip es).map fun p=>wT p.1 p.2) (fun _=>true) T0) (vF (es.map (·.wr)) (fun _=>true) h0) a w→Zi φ0 h0 w0 φ (vF (es.map (·.wr)) (fun _=>true) h0) w→Q .normal a w) :
  ∀(Y:Nat) (listed:Array Bool) (a:Act) (w:World) (φ:Nat→Nat),listed.size=ops.size→qm listed ops.size≤Y →
   (∀(j:Nat) o,ops[j]?=some o→listed.getD j false=true→∀e∈o.after,Region.binds .any e=true→listed.getD e.on false=true) →
   Zy φ M0 N D (vF ((ops.toList.zip es).map fun p=>wT p.1 p.2) (fun j=>listed.getD j false) T0) (vF (es.map (·.wr)) (fun j=>listed.getD j false) h0) a w →
   Zi φ0 h0 w0 φ (vF (es.map (·.wr)) (fun j=>listed.getD j false) h0) w→wpAny P .any ops Q Y listed a w:=by
 simp only[Yq,Ku] at am;obtain⟨ab,ar⟩:=am;have bh:∀(listed:Array Bool) (i:Nat),i<listed.size→listed.getD i true=listed.getD i false:=fun listed i hi=>by simp[hi]
 have be:((ops.toList.zip es).map fun p=>wT p.1 p.2).length=ops.size:=by simp[az]
 have ae:∀(listed:Array Bool) (a:Act) (w:World) (φ:Nat→Nat),listed.size=ops.size→(∀i,i<ops.size→listed.getD i true=true) →
   Zy φ M0 N D (vF ((ops.toList.zip es).map fun p=>wT p.1 p.2) (fun j=>listed.getD j false) T0) (vF (es.map (·.wr)) (fun j=>listed.getD j false) h0) a w →
   Zi φ0 h0 w0 φ (vF (es.map (·.wr)) (fun j=>listed.getD j false) h0) w→Q .normal a w:=by
  grind [vF,wT,Qca,WF]
 have al:∀(listed:Array Bool),listed.size=ops.size→Region.ready .any ops listed=[]→∀i,i<ops.size→listed.getD i true=true:=by
  intro listed ac hr i
  induction i using Nat.strongRecOn with
 |_ i ih =>
   intro hi;cases hq:listed.getD i true with
  |true=>rfl
  |false =>
    have:i∈Region.ready .any ops listed:=by
     rw[mem_ready];refine⟨hq,ops[i],Array.getElem?_eq_getElem hi,fun e he hb=>?_⟩;have h1:=WV ar i ops[i] (by simp[hi]) e he hb
     grind
    grind
 intro Y
 induction Y with
|zero =>
  intro listed a w φ ac hu ba r E;have ai:=Me (n:=ops.size) (listed:=listed) zo;refine⟨?_,ae listed a w φ ac ai r E⟩;apply List.eq_nil_iff_forall_not_mem.2
  grind [mem_ready,AY]
|succ Y ih =>
  intro listed a w φ ac hu ba r E;refine⟨fun hr=>ae listed a w φ ac (al listed ac hr) r E,fun i hi=>?_⟩;rw[mem_ready] at hi;obtain⟨bb,o,ho,ai⟩:=hi;have aw:i<ops.size:=(AY.1 ho).1;have ax:listed.getD i false=false:=by grind
  obtain⟨e,he⟩:∃e,es[i]?=some e:=⟨es[i],List.getElem?_eq_getElem zo⟩
  have ah:∀(j:Nat) J G,ops[j]?=some J→es[j]?=some G→j≠i→¬(listed.getD j false=decide (j<i))→J.apart ops o=true∧Vg (G.wr.map (·.1),G.rd) (e.wr.map (·.1),e.rd)=true∨(o.apart ops J=true∧Vg (e.wr.map (·.1),e.rd) (G.wr.map (·.1),G.rd)=true):=by
   intro j J G Z O aq aa;rcases Nat.lt_or_ge j i with hlt|bg
   ·have:=Ro ab j i J o (G.wr.map (·.1),G.rd) (e.wr.map (·.1),e.rd) hlt (by simpa using Z) (by simpa using ho) (by simp[O]) (by simp[he]);rcases this with hw|bc
    ·exfalso;simp only[Nat.zero_add] at hw;rcases Tm hw with⟨ed,ay,hb,a6⟩|⟨ed,ok,bf,ay,hb,hok,bd,bi,a6⟩
     ·have:=ai ed ay hb;rw[a6] at this
      grind
     grind
    grind
   ·have au:i<j:=by omega
    have:=Ro ab i j o J (e.wr.map (·.1),e.rd) (G.wr.map (·.1),G.rd) au (by simpa using ho) (by simpa using Z) (by simp[he]) (by simp[O]);rcases this with hw|bc
    ·exfalso;simp only[Nat.zero_add] at hw
     grind [Tm]
    grind
  have af:∀(j:Nat) t v,((ops.toList.zip es).map fun p=>wT p.1 p.2)[j]?=some (some (t,v))→∃J G,ops[j]?=some J∧es[j]?=some G∧J.dst=some t:=by
   intro j t v hj;simp only[List.getElem?_map,F3] at hj;obtain⟨p,hp,hw⟩:=hj;rw[List.getElem?_zip_eq_some] at hp;refine⟨p.1,p.2,by simpa using hp.1,hp.2,?_⟩;unfold wT at hw;cases hd:p.1.dst with
  |none=>rw[hd] at hw;cases hw
  |some d=>rw[hd] at hw;simp only[Option.map_some,ZA,LK] at hw;rw[hw.1]
  have ao:∀(j:Nat) b k,(es.map (·.wr))[j]?=some (some (b,k))→∃J G,ops[j]?=some J∧es[j]?=some G∧G.wr=some (b,k):=by
   grind
  have ak:=(an i o e ho he).loc (T':=vF ((ops.toList.zip es).map fun p=>wT p.1 p.2) (fun j=>listed.getD j false) T0) (h':=vF (es.map (·.wr)) (fun j=>listed.getD j false) h0) (by
   intro t ht;refine H9 _ _ _ _ _ rfl fun j v hj=>?_;obtain⟨J,G,Z,O,U⟩:=af j t v hj;apply Classical.byContradiction;intro aa;by_cases aq:j=i
   ·subst aq;exact aa (by rw[ax];simp)
   ·rcases ah j J G Z O aq aa with⟨h1,_⟩|⟨h1,_⟩
    ·exact(Oper.apart_spec h1).1 t U ht
    ·exact(Oper.apart_spec h1).2.2 t U ht) (by
   intro b hb;refine H9 _ _ _ _ _ rfl fun j k hj=>?_
   grind [Vg])
  refine ak.wp ho r ?_;intro φ' a' w' r' E'
  have eL:∀j,(listed.setIfInBounds i true).getD j false=(listed.getD j false||decide (j=i)):=by
   intro j;by_cases av:j=i
   ·subst av;have:j<listed.size:=by omega
    simp[this]
   ·rw[getD_set_ne false<|Ne.symm av];simp[av]
  have hT:vF ((ops.toList.zip es).map fun p=>wT p.1 p.2) (fun j=>(listed.setIfInBounds i true).getD j false) T0=H8 (vF ((ops.toList.zip es).map fun p=>wT p.1 p.2) (fun j=>listed.getD j false) T0) (wT o e):=by
   simp only[eL];refine xz _ _ _ i (wT o e) ?_ ?_
   ·grind
   ·intro b v ad j u au hj;obtain⟨J,G,Z,O,U⟩:=af j b u hj
    have aj:o.dst=some b:=by
     unfold wT at ad;cases hd:o.dst with
    |none=>rw[hd] at ad;cases ad
    |some d=>rw[hd] at ad;simp only[Option.map_some,ZA,LK] at ad;rw[ad.1]
    cases hq:listed.getD j false with
   |false=>rfl
   |true =>
     exfalso;rcases ah j J G Z O zo (by rw[hq];simp[show ¬j<i by omega]) with⟨h1,_⟩|⟨h1,_⟩
     ·exact(Oper.apart_spec h1).2.1 b U aj
     ·exact(Oper.apart_spec h1).2.1 b aj U
  have hH:vF (es.map (·.wr)) (fun j=>(listed.setIfInBounds i true).getD j false) h0=H8 (vF (es.map (·.wr)) (fun j=>listed.getD j false) h0) e.wr:=by
   simp only[eL];refine xz _ _ _ i e.wr (by simp[he]) ?_;intro b k a7 j u au hj;obtain⟨J,G,Z,O,a8⟩:=ao j b u hj;cases hq:listed.getD j false with
  |false=>rfl
  |true =>
    exfalso;rcases ah j J G Z O zo (by rw[hq];simp[show ¬j<i by omega]) with⟨_,h1⟩|⟨_,h1⟩
    ·simp only[Vg,a8,a7,Option.map_some,Ku,bne_iff_ne] at h1;exact h1.1.2 rfl
    ·simp only[Vg,a8,a7,Option.map_some,Ku,bne_iff_ne] at h1;exact h1.1.2 rfl
  refine ih (listed.setIfInBounds i true) a' w' φ' (by simpa using ac) ?_ ?_ (by rw[hT,hH];exact r') (by rw[hH];exact E.trans E')
  ·have:=EP bb ops.size;rw[if_pos aw] at this;omega
  grind
def UK(ops:Array Oper)(m:Nat):Bool:=(List.range m).all fun j=>(List.range<|m+1).any fun k=>decide (j<k)&&(ops[k]?).any (waits · j)
def LV(o:Oper):Bool:=match o.op with|.call ⟨.value (.tmp _),_,_⟩=>false|_=>true
def Tn(ops:Array Oper)(m:Nat):Bool:=(List.range ops.size).all fun k=>decide (k≤m)||(ops[k]?).any (waits · (k-1))
theorem dP{Q:Exit→Act→World→Prop}(m:Nat)(Z:∀i,(hi:i<ops.size)→∀e∈(ops[i]).after,Region.binds .any e=true→e.on<i)(O:Tn ops m=true) :
  ∀(d k G:Nat) (listed:Array Bool) (a:Act) (w:World),k+d=ops.size→m≤k→d≤G→listed.size=ops.size→(∀i,i<k→listed.getD i false=true)→(∀i,k≤i→listed.getD i false=false) →
   wpOps P ops Q ((List.range d).map (k+·)) a w→wpAny P .any ops Q G listed a w:=by
 have ad:∀(listed:Array Bool) (i:Nat),i<listed.size→listed.getD i true=listed.getD i false:=fun listed i hi=>by simp[hi]
 intro d
 induction d with
|zero =>
  intro k G listed a w hk aa hf Y h1 h2 h
  have J:Region.ready .any ops listed=[]:=by
   apply List.eq_nil_iff_forall_not_mem.2;intro i hi;rw[mem_ready] at hi;obtain⟨h3,o,ho,_⟩:=hi
   grind
  cases G with
 |zero=>exact⟨J,h⟩
 |succ G=>exact⟨fun _=>h,fun i hi=>by grind⟩
|succ d ih =>
  intro k G listed a w hk aa hf Y h1 h2 h;obtain⟨G,rfl⟩:∃f,G=f+1:=⟨G-1,by omega⟩;have U:k<ops.size:=by omega
  have hr:(List.range<|d+1).map (k+·)=k::(List.range d).map (k+1+·):=by
   simp only[List.range_succ_eq_map,JR,List.map_map,Nat.add_zero,List.cons.injEq,true_and]
   grind [List.map_congr_left]
  rw[hr,wpOps_cons] at h;refine⟨fun J=>?_,fun i hi=>?_⟩
  ·exfalso
   have:k∈Region.ready .any ops listed:=by
    rw[mem_ready];refine⟨zc,ops[k],Array.getElem?_eq_getElem U,fun e he hb=>?_⟩
    grind
   grind
  ·rw[mem_ready] at hi;obtain⟨h3,o,ho,af⟩:=hi;have ae:i<ops.size:=(AY.1 ho).1;rw[ad listed i zo] at h3
   have ab:i=k:=by
    rcases Nat.lt_trichotomy i k with hlt|ac|ah
    ·grind
    ·exact ac
    ·exfalso;have h4:=Fx.1 O i (by simp;omega)
     grind [waits]
   subst ab;refine wpOp_mono (fun a' w' hq=>ih (i+1) G _ a' w' zo zo zo zc ?_ ?_ hq) h
   ·intro j hj;by_cases e:i=j
    ·subst e;have:i<listed.size:=by omega
     simp[this]
    ·rw[getD_set_ne false e]
     grind
   ·intro j hj;rw[getD_set_ne false zo]
    grind
theorem wN{Q:Exit→Act→World→Prop}{T0:Nat→Option AV}(es:List Ev)(m:Nat)(hm:m<ops.size)(bq:es.length=m)(az:∀(i:Nat) o e,ops[i]?=some o→es[i]?=some e→Step1 P N ops o (vF ((ops.toList.zip es).map fun p=>wT p.1 p.2) (fun j=>decide (j<i)) T0) (vF (es.map (·.wr)) (fun j=>decide (j<i)) h0) e)(ax:Yq ops (es.map fun e=>(e.wr.map (·.1),e.rd))=true)(bp:UK ops m=true)(ay:Tn ops m=true)(hQ:∀φ a w,Zy φ M0 N D (vF ((ops.toList.zip es).map fun p=>wT p.1 p.2) (fun _=>true) T0) (vF (es.map (·.wr)) (fun _=>true) h0) a w→Zi φ0 h0 w0 φ (vF (es.map (·.wr)) (fun _=>true) h0) w→wpOps P ops Q ((List.range<|ops.size-m).map (m+·)) a w) :
  ∀(ab:Nat) (listed:Array Bool) (a:Act) (w:World) (φ:Nat→Nat),listed.size=ops.size→qm listed ops.size≤ab→(∀j,m≤j→listed.getD j false=false) →
   (∀(j:Nat) o,ops[j]?=some o→listed.getD j false=true→∀e∈o.after,Region.binds .any e=true→listed.getD e.on false=true) →
   Zy φ M0 N D (vF ((ops.toList.zip es).map fun p=>wT p.1 p.2) (fun j=>listed.getD j false) T0) (vF (es.map (·.wr)) (fun j=>listed.getD j false) h0) a w →
   Zi φ0 h0 w0 φ (vF (es.map (·.wr)) (fun j=>listed.getD j false) h0) w→wpAny P .any ops Q ab listed a w:=by
 simp only[Yq,Ku] at ax;obtain⟨ah,aq⟩:=ax;have bc:∀(listed:Array Bool) (i:Nat),i<listed.size→listed.getD i true=listed.getD i false:=fun listed i hi=>by simp[hi]
 have br:((ops.toList.zip es).map fun p=>wT p.1 p.2).length=m:=by grind
 have a6:∀(listed:Array Bool) (a:Act) (w:World) (φ:Nat→Nat),listed.size=ops.size→(∀i,i<m→listed.getD i false=true) →
   Zy φ M0 N D (vF ((ops.toList.zip es).map fun p=>wT p.1 p.2) (fun j=>listed.getD j false) T0) (vF (es.map (·.wr)) (fun j=>listed.getD j false) h0) a w →
   Zi φ0 h0 w0 φ (vF (es.map (·.wr)) (fun j=>listed.getD j false) h0) w→wpOps P ops Q ((List.range<|ops.size-m).map (m+·)) a w:=by
  grind [vF,wT,Qca,WF]
 have bj:∀(listed:Array Bool),listed.size=ops.size→Region.ready .any ops listed=[]→∀i,i<ops.size→listed.getD i true=true:=by
  intro listed al hr i
  induction i using Nat.strongRecOn with
 |_ i ih =>
   intro hi;cases hq:listed.getD i true with
  |true=>rfl
  |false =>
    have:i∈Region.ready .any ops listed:=by
     rw[mem_ready];refine⟨hq,ops[i],Array.getElem?_eq_getElem hi,fun e he hb=>?_⟩;have O:=WV aq i ops[i] (by simp[hi]) e he hb
     grind
    grind
 intro ab
 induction ab with
|zero =>
  intro listed a w φ al hu ak av r E;have ac:=Me (n:=ops.size) (listed:=listed) zo;have:=ac m zo;rw[bc listed m zo,ak m<|KD _] at this;cases this
|succ ab ih =>
  intro listed a w φ al hu ak av r E
  have be:∀n,n≤ops.size→(∀i,m≤i→i<n→listed.getD i true=false)→n-m≤qm listed n:=by
   intro n
   induction n with
  |zero=>omega
  |succ n bw =>
    grind [qm]
  by_cases a7:∀i,i<m→listed.getD i false=true
  ·have hf:=be ops.size (KD _) (fun i O h2=>by rw[bc listed i zo];exact ak i O);exact dP m (fun i hi e he hb=>by have:=WV aq i ops[i] (by simp[hi]) e he hb;omega) ay (ops.size-m) m (ab+1) listed a w zo (KD _) zo al a7 ak<|a6 listed a w φ al a7 r E
  refine⟨fun hr=>?_,fun i hi=>?_⟩
  ·grind
  rw[mem_ready] at hi;obtain⟨bh,o,ho,ac⟩:=hi;have bf:i<ops.size:=(AY.1 ho).1;have aw:listed.getD i false=false:=by rw[←bc listed i zo];exact bh
  by_cases bu:m≤i
  ·exfalso
   have bm:i=m:=by
    apply Classical.byContradiction;intro ae;have h4:=Fx.1 ay i (by simp;omega);simp only[Bool.or_eq_true,Pd] at h4;rcases h4 with h4|h4
    ·omega
    ·rw[ho] at h4;simp only[Option.any_some,waits,List.any_eq_true,Ku,beq_iff_eq] at h4;obtain⟨ed,Z,hb,af⟩:=h4;have:=ac ed (by simpa using Z) hb;rw[af,ak (i-1) zo] at this;cases this
   subst bm
   have bb:∀d j,j+d+1=i→listed.getD j false=true:=by
    intro d
    induction d using Nat.strongRecOn with
   |_ d bn =>
     intro j U;have O:=Fx.1 bp j (by simp;omega);simp only[List.any_eq_true,List.mem_range,Ku,Pd] at O;obtain⟨k,hk,bv,hw⟩:=O;cases hok:ops[k]? with
    |none=>rw[hok] at hw;cases hw
    |some ok =>
      rw[hok] at hw;simp only[Option.any_some,waits,List.any_eq_true,Ku,beq_iff_eq] at hw;obtain⟨ed,Z,hb,af⟩:=hw;by_cases bx:k=i
      ·grind
      ·have:=av k ok hok (bn (i-k-1) zo k zo) ed (by simpa using Z) hb
       rwa [af] at this
   exact a7 fun j U=>bb (i-j-1) j zo
  obtain⟨e,he⟩:∃e,es[i]?=some e:=⟨es[i],List.getElem?_eq_getElem zo⟩
  have ai:∀(j:Nat) oj Y,ops[j]?=some oj→es[j]?=some Y→j≠i→¬(listed.getD j false=decide (j<i))→oj.apart ops o=true∧Vg (Y.wr.map (·.1),Y.rd) (e.wr.map (·.1),e.rd)=true∨(o.apart ops oj=true∧Vg (e.wr.map (·.1),e.rd) (Y.wr.map (·.1),Y.rd)=true):=by
   intro j oj Y J aa ae G;rcases Nat.lt_or_ge j i with hlt|bt
   ·have:=Ro ah j i oj o (Y.wr.map (·.1),Y.rd) (e.wr.map (·.1),e.rd) hlt (by simpa using J) (by simpa using ho) (by simp[aa]) (by simp[he]);rcases this with hw|bd
    ·exfalso;simp only[Nat.zero_add] at hw;rcases Tm hw with⟨ed,Z,hb,af⟩|⟨ed,ok,bl,Z,hb,hok,bi,bo,af⟩
     ·have:=ac ed Z hb;rw[af] at this;exact G (by rw[this];simp[hlt])
     ·have:=av ed.on ok hok (ac ed Z hb) bl bi bo;rw[af] at this;exact G (by rw[this];simp[hlt])
    ·exact .inl bd
   ·have a8:i<j:=by omega
    have:=Ro ah i j o oj (e.wr.map (·.1),e.rd) (Y.wr.map (·.1),Y.rd) a8 (by simpa using ho) (by simpa using J) (by simp[he]) (by simp[aa]);rcases this with hw|bd
    ·exfalso;simp only[Nat.zero_add] at hw
     grind [Tm]
    ·exact .inr bd
  have an:∀(j:Nat) t v,((ops.toList.zip es).map fun p=>wT p.1 p.2)[j]?=some (some (t,v))→∃oj Y,ops[j]?=some oj∧es[j]?=some Y∧oj.dst=some t:=by
   intro j t v U;simp only[List.getElem?_map,F3] at U;obtain⟨p,hp,hw⟩:=U;rw[List.getElem?_zip_eq_some] at hp;refine⟨p.1,p.2,by simpa using hp.1,hp.2,?_⟩;unfold wT at hw;cases hd:p.1.dst with
  |none=>rw[hd] at hw;cases hw
  |some d=>rw[hd] at hw;simp only[Option.map_some,ZA,LK] at hw;rw[hw.1]
  have am:∀(j:Nat) b k,(es.map (·.wr))[j]?=some (some (b,k))→∃oj Y,ops[j]?=some oj∧es[j]?=some Y∧Y.wr=some (b,k):=by
   intro j b k U;simp only[List.getElem?_map,F3] at U;obtain⟨p,hp,hw⟩:=U;have bk:j<ops.size:=by have:=(wB.1 hp).1;omega
   exact⟨ops[j],p,Array.getElem?_eq_getElem bk,hp,hw⟩
  have au:=(az i o e ho he).loc (T':=vF ((ops.toList.zip es).map fun p=>wT p.1 p.2) (fun j=>listed.getD j false) T0) (h':=vF (es.map (·.wr)) (fun j=>listed.getD j false) h0) (by
   intro t ht;refine H9 _ _ _ _ _ rfl fun j v U=>?_;obtain⟨oj,Y,J,aa,ad⟩:=an j t v U;apply Classical.byContradiction;intro G;by_cases ae:j=i
   ·subst ae;exact G (by rw[aw];simp)
   ·rcases ai j oj Y J aa ae G with⟨O,_⟩|⟨O,_⟩
    ·exact(Oper.apart_spec O).1 t ad ht
    ·exact(Oper.apart_spec O).2.2 t ad ht) (by
   intro b hb;refine H9 _ _ _ _ _ rfl fun j k U=>?_;obtain⟨oj,Y,J,aa,ao⟩:=am j b k U;apply Classical.byContradiction;intro G;by_cases ae:j=i
   ·subst ae;exact G (by rw[aw];simp)
   ·rcases ai j oj Y J aa ae G with⟨_,O⟩|⟨_,O⟩
    ·simp only[Vg,ao,Option.map_some,Ku,Bool.not_eq_true'] at O;have:=O.1.1;simp[hb] at this
    ·simp only[Vg,ao,Option.map_some,Ku,Bool.not_eq_true'] at O;have:=O.2;simp[hb] at this)
  refine au.wp ho r ?_;intro φ' a' w' r' E'
  have eL:∀j,(listed.setIfInBounds i true).getD j false=(listed.getD j false||decide (j=i)):=by
   intro j;by_cases ba:j=i
   ·subst ba;have:j<listed.size:=by omega
    simp[this]
   ·rw[getD_set_ne false<|Ne.symm ba];simp[ba]
  have hT:vF ((ops.toList.zip es).map fun p=>wT p.1 p.2) (fun j=>(listed.setIfInBounds i true).getD j false) T0=H8 (vF ((ops.toList.zip es).map fun p=>wT p.1 p.2) (fun j=>listed.getD j false) T0) (wT o e):=by
   simp only[eL];refine xz _ _ _ i (wT o e) ?_ ?_
   ·rw[List.getElem?_map,List.getElem?_zip_eq_some.2 (show ops.toList[i]?=some (o,e).1∧es[i]?=some (o,e).2 from⟨by simpa using ho,he⟩)];rfl
   ·intro b v aj j u a8 U;obtain⟨oj,Y,J,aa,ad⟩:=an j b u U
    have ar:o.dst=some b:=by
     unfold wT at aj;cases hd:o.dst with
    |none=>rw[hd] at aj;cases aj
    |some d=>rw[hd] at aj;simp only[Option.map_some,ZA,LK] at aj;rw[aj.1]
    cases hq:listed.getD j false with
   |false=>rfl
   |true =>
     exfalso;rcases ai j oj Y J aa zo (by rw[hq];simp[show ¬j<i by omega]) with⟨O,_⟩|⟨O,_⟩
     ·exact(Oper.apart_spec O).2.1 b ad ar
     ·exact(Oper.apart_spec O).2.1 b ar ad
  have hH:vF (es.map (·.wr)) (fun j=>(listed.setIfInBounds i true).getD j false) h0=H8 (vF (es.map (·.wr)) (fun j=>listed.getD j false) h0) e.wr:=by
   simp only[eL];refine xz _ _ _ i e.wr (by simp[he]) ?_;intro b k bg j u a8 U;obtain⟨oj,Y,J,aa,ao⟩:=am j b u U;cases hq:listed.getD j false with
  |false=>rfl
  |true =>
    exfalso;rcases ai j oj Y J aa zo (by rw[hq];simp[show ¬j<i by omega]) with⟨_,O⟩|⟨_,O⟩
    ·simp only[Vg,ao,bg,Option.map_some,Ku,bne_iff_ne] at O;exact O.1.2 rfl
    ·simp only[Vg,ao,bg,Option.map_some,Ku,bne_iff_ne] at O;exact O.1.2 rfl
  refine ih (listed.setIfInBounds i true) a' w' φ' (by simpa using al) ?_ (fun j U=>by rw[getD_set_ne false zo];exact ak j U) ?_ (by rw[hT,hH];exact r') (by rw[hH];exact E.trans E')
  ·have:=EP bh ops.size;rw[if_pos bf] at this;omega
  ·intro j oj J U ed Z hb;rw[eL] at U ⊢;simp only[Bool.or_eq_true,Pd] at U ⊢;rcases U with U|rfl
   ·exact .inl (av j oj J U ed Z hb)
   ·rw[ho] at J;cases J;exact .inl (ac ed Z hb)
def fM(N:Nat)(o:Oper)(s:St)(K:St→Prop):Option Kv→Prop|some u=>KL N o.dst=true∧K (s.put o.dst u.1)|none=>False
def Qk6(N:Nat)(o:Oper)(s:St)(acc:List YU)(K:List YU→St→Prop):Option Kv→Prop|some u=>KL N o.dst=true∧K ((u.2.1.map (·.1),u.2.2)::acc) (Uu s o.dst u)|none=>False
def fO(ops:Array Oper)(s:St):List Oper→Bool|[]=>true|o::rest=>(LV o||(yieldOf (look<|ZE ops o s.T true) o.op).isNone)&&rest.all LV
theorem fP{l:List Oper}(h:l.all LV=true):fO ops s l=true:=by
 cases l with
|nil=>rfl
|cons o l =>
  grind [fO]
def dQ(P:Program)(N:Nat)(ops:Array Oper)(Q:AX→St→Prop)(o:Oper)(op:Op)(rest:List Oper)(acc:List YU)(s0 s:St)(K:St→Prop):Prop :=(∃f args args' x,Kk (look s.T) op=some (f,args)∧Vx P f=true∧KL N o.dst=true∧EO args args'∧Vw args'=true∧YC x=true∧Zc P f args' (.ret x)∧K (s.put o.dst x)) ∨ (rest=[]∧UK ops acc.length=true∧Yq ops acc.reverse=true∧H6 P N o s (Q .normal) Q) ∨ (UK ops acc.length=true∧Yq ops acc.reverse=true∧Tn ops acc.length=true∧fO ops s0 (o::rest)=true∧YG P N ops Q (o::rest) s0) ∨ (∃(f:FuncId) (args:List AV) (J:List AV→AV),Kk (look s.T) op=some (f,args)∧Vx P f=true∧KL N o.dst=true∧args.all Qcb=true∧(∀G:List Value,SlV G→G.length=args.length→Zc P f (pvs G) (.ret<|J<|pvs G))∧(∀G,YC (J<|pvs G)=true)∧Qk5 J∧K (s.put o.dst<|J args))
def QhS(P:Program)(N:Nat)(ops:Array Oper)(Q:AX→St→Prop)(o:Oper)(rest:List Oper)(acc:List YU)(s0:St):Prop :=UK ops acc.length=true∧Yq ops acc.reverse=true∧Tn ops acc.length=true∧fO ops s0 (o::rest)=true∧YG P N ops Q (o::rest) s0
def Ya(P:Program)(N:Nat)(ops:Array Oper)(Q:AX→St→Prop):List Oper→List YU→St→Prop
 |[],acc,s=>Yq ops acc.reverse=true∧Q .normal s
 |o::rest,acc,s =>
    match ZT ops o (look s.T) with
   |some b=>TI b
        (match o.op with
        |.pick c x y=>match Zn (look<|ZE ops o s.T true) c with
          |some (.p (.val (.bool t)))=>TI t (fM N o ⟨ZE ops o s.T true,s.H⟩ (Ya P N ops Q rest ((none,[])::acc))<|WT (look<|ZE ops o s.T true) x)<|fM N o ⟨ZE ops o s.T true,s.H⟩ (Ya P N ops Q rest ((none,[])::acc))<|WT (look<|ZE ops o s.T true) y
          |_=>False
        |.call ⟨.value f,args,ts⟩=>dQ P N ops Q o (.call ⟨.value f,args,ts⟩) rest acc s ⟨ZE ops o s.T true,s.H⟩<|Ya P N ops Q rest ((none,[])::acc)
        |.panic x=>rest=[]∧UK ops acc.length=true∧Yq ops acc.reverse=true∧H6 P N o ⟨ZE ops o s.T true,s.H⟩ (Q .normal) Q
        |_=>Qk6 N o ⟨ZE ops o s.T true,s.H⟩ acc (Ya P N ops Q rest) (We P o (look<|ZE ops o s.T true)<|look s.H)∨QhS P N ops Q o rest acc s)
        (KL N o.dst=true∧Ya P N ops Q rest ((none,[])::acc) (St.put ⟨ZE ops o s.T false,s.H⟩ o.dst<|.p<|.val undef))
   |none=>False
def Qaj(e:Ev):YU:=(e.wr.map (·.1),e.rd)
theorem Qfj(c:Option (Nat×α))(G:List (Option<|Nat×α))(i:Nat)(F:Nat→Option α):vF (c::G) (fun j=>decide (j<i+1)) F=vF G (fun j=>decide (j<i)) (H8 F c):=by
 simp[vF]
def EQ(P:Program)(N:Nat)(ops:Array Oper)(l:List Oper)(es:List Ev)(T0:Nat→Option AV)(h0:QY):Prop :=∀(i:Nat) o e,l[i]?=some o→es[i]?=some e→Step1 P N ops o (vF ((l.zip es).map fun p=>wT p.1 p.2) (fun j=>decide (j<i)) T0) (vF (es.map (·.wr)) (fun j=>decide (j<i)) h0) e
theorem Cm{l:List Oper}{e:Ev}{es:List Ev}{T0:Nat→Option AV}(U:Step1 P N ops o T0 h0 e)(O:EQ P N ops l es (H8 T0<|wT o e) (H8 h0 e.wr)):EQ P N ops (o::l) (e::es) T0 h0:=by
 intro i G J Y Z;cases i with
|zero =>
  grind [Tj]
|succ i =>
  simp only[List.zip_cons_cons,JR,Qfj];exact O i G J zc zc
theorem Qak(s:St)(o:Oper)(u:Kv):look (Uu s o.dst u).T=H8 (look s.T) (wT o ⟨u.1,u.2.1,u.2.2⟩)∧look (Uu s o.dst u).H=H8 (look s.H) u.2.1:=by
 constructor
 ·unfold Uu wT;cases o.dst<;>rfl
 ·unfold Uu;cases hq:u.2.1 with
 |none=>rfl
 |some G=>rfl
theorem ER(s:St)(o:Oper)(e:Ev)(hw:e.wr=none):look (s.put o.dst e.x).T=H8 (look s.T) (wT o e)∧look (s.put o.dst e.x).H=H8 (look s.H) e.wr:=by
 rw[hw];unfold wT St.put;cases o.dst<;>exact⟨rfl,rfl⟩
def Oy(P:Program)(N:Nat)(ops:Array Oper)(Q:AX→St→Prop)(l:List Oper)(acc:List YU)(s:St):Prop :=(∃(es:List Ev) (s':St),es.length=l.length∧EQ P N ops l es (look s.T) (look s.H)∧Yq ops (acc.reverse++es.map Qaj)=true ∧ look s'.T=vF ((l.zip es).map fun p=>wT p.1 p.2) (fun _=>true) (look s.T)∧look s'.H=vF (es.map (·.wr)) (fun _=>true) (look s.H)∧Q .normal s') ∨ (∃(pre:List Oper) (o:Oper) (es:List Ev) (s':St),l=pre++[o]∧es.length=pre.length∧EQ P N ops l es (look s.T) (look s.H)∧Yq ops (acc.reverse++es.map Qaj)=true∧UK ops (acc.length+pre.length)=true ∧ look s'.T=vF ((l.zip es).map fun p=>wT p.1 p.2) (fun _=>true) (look s.T)∧look s'.H=vF (es.map (·.wr)) (fun _=>true) (look s.H)∧ZT ops o (look s'.T)=some true∧H6 P N o s' (Q .normal) Q) ∨ (∃(pre:List Oper) (o:Oper) (rest:List Oper) (es:List Ev) (s':St),l=pre++o::rest∧es.length=pre.length∧EQ P N ops l es (look s.T) (look s.H)∧Yq ops (acc.reverse++es.map Qaj)=true∧UK ops (acc.length+pre.length)=true∧Tn ops (acc.length+pre.length)=true∧fO ops s' (o::rest)=true ∧ look s'.T=vF ((l.zip es).map fun p=>wT p.1 p.2) (fun _=>true) (look s.T)∧look s'.H=vF (es.map (·.wr)) (fun _=>true) (look s.H)∧YG P N ops Q (o::rest) s')
theorem Oz{l:List Oper}{acc:List YU}(J:look s1.T=look s.T)(G:look s1.H=look s.H)(h:Oy P N ops Q l acc s1):Oy P N ops Q l acc s:=by
 unfold Oy at h ⊢;rw[J,G] at h;exact h
theorem zF{P:Program}{N:Nat}{ops:Array Oper}{Q:AX→St→Prop}:∀(l:List Oper) (acc:List YU) (s:St),Ya P N ops Q l acc s→Oy P N ops Q l acc s
 |[],acc,s,h=>.inl ⟨[],s,rfl,fun i o e ho=>by simp at ho,by simpa using h.1,rfl,rfl,h.2⟩
 |o::l,acc,s,h=>by
    have step:∀(s:St) (e:Ev) (s1:St),Step1 P N ops o (look s.T) (look s.H) e→look s1.T=H8 (look s.T) (wT o e)→look s1.H=H8 (look s.H) e.wr→Ya P N ops Q l (Qaj e::acc) s1→Oy P N ops Q (o::l) acc s:=by
      intro s e s1 hs hT hH hd;rcases zF l (Qaj e::acc) s1 hd with⟨es,s',O,h2,Y,J,G,h6⟩|⟨pre,o',es,s',h0,O,h2,Y,J,G,h6,h7,h8⟩|⟨pre,o',rest,es,s',h0,O,h2,Y,J,ai,aa,G,h6,h8⟩
      · refine .inl ⟨e::es,s',by simp[O],Cm hs zc,zc,?_,?_,h6⟩
        · rw[J,hT];rfl
        · rw[G,hH];rfl
      · refine .inr (.inl ⟨o::pre,o',e::es,s',by simp[h0],by simp[O],Cm hs zc,zc,?_,?_,?_,h7,h8⟩)
        · grind
        · rw[G,hT];rfl
        · rw[h6,hH];rfl
      · have this:(Qaj e::acc).length+pre.length=acc.length+(o::pre).length:=by simp;omega
        refine .inr (.inr ⟨o::pre,o',rest,e::es,s',by simp[h0],by simp[O],Cm hs zc,zc,zc,zc,aa,?_,?_,h8⟩)
        · rw[G,hT];rfl
        · rw[h6,hH];rfl
    have tail:∀(s:St),ZT ops o (look s.T)=some true→(l=[]∧UK ops acc.length=true∧Yq ops acc.reverse=true∧H6 P N o s (Q .normal) Q)→Oy P N ops Q (o::l) acc s:=by
      rintro s hw ⟨O,h2,Y,J⟩;subst O;exact .inr (.inl ⟨[],o,[],s,rfl,rfl,fun i o e _ he=>by simp at he,zc,by omega,rfl,rfl,hw,J⟩)
    have af:∀s0 s:St,look s.T=look s0.T→s.H=s0.H→ZT ops o (look s.T)=some true→(match o.op with
        |.pick c x y=>match Zn (look s.T) c with
          |some (.p (.val (.bool t)))=>TI t (fM N o s (Ya P N ops Q l ((none,[])::acc))<|WT (look s.T) x)<|fM N o s (Ya P N ops Q l ((none,[])::acc))<|WT (look s.T) y
          |_=>False
        |.call ⟨.value f,args,ts⟩=>dQ P N ops Q o (.call ⟨.value f,args,ts⟩) l acc s0 s<|Ya P N ops Q l ((none,[])::acc)
        |.panic x=>l=[]∧UK ops acc.length=true∧Yq ops acc.reverse=true∧H6 P N o s (Q .normal) Q
        |_=>Qk6 N o s acc (Ya P N ops Q l) (We P o (look s.T)<|look s.H)∨QhS P N ops Q o l acc s0)→Oy P N ops Q (o::l) acc s:=by
        intro s0 s ab ad hw g;split at g
        · rename_i c x y ho
          split at g
          · rename_i t hc
            have U:∀z,fM N o s (Ya P N ops Q l ((none,[])::acc)) (WT (look s.T) z)→Pe (look s.T) c x y=WT (look s.T) z→Oy P N ops Q (o::l) acc s:=by
              intro z Z hp;cases hm:WT (look s.T) z with
             |none=>rw[hm] at Z;exact Z.elim
             |some u =>
                rw[hm] at Z hp
                have hu:u.2=(none,[]):=by
                  grind [WT]
                have ae:We P o (look s.T) (look s.H)=some (u.1,none,[]):=by
                  grind [We]
                have ac:=ER s o ⟨u.1,none,[]⟩ rfl;exact step s ⟨u.1,none,[]⟩ _ ⟨Z.1,.inr<|.inl ⟨hw,ae⟩⟩ ac.1 ac.2 Z.2
            refine FH g (fun ht Z=>U x Z ?_) fun ht Z=>U y Z ?_
            · grind [Pe]
            grind [Pe]
          grind
        · rename_i f ah ts ho
          rcases g with⟨f,args,args',x,O,h2,Y,J,G,h6,h7,h8⟩|O|⟨O,h2,Y,J,G⟩|⟨f,args,τ,O,h2,Y,h8,J,G,h6,h7⟩
          · have hp:=ER s o ⟨x,none,[]⟩ rfl
            exact step s ⟨x,none,[]⟩ _ ⟨Y,.inr<|.inr<|.inl ⟨hw,f,args,args',zc,h2,J,G,h7,h6,rfl,rfl⟩⟩ hp.1 hp.2 h8
          · grind
          · exact .inr (.inr ⟨[],o,l,[],s0,rfl,rfl,fun i o e _ he=>by simp at he,zc,by omega,by omega,J,ab.symm,by rw[ad];rfl,G⟩)
          · have hp:=ER s o ⟨τ args,none,[]⟩ rfl
            exact step s ⟨τ args,none,[]⟩ _ ⟨Y,.inr<|.inr<|.inr ⟨hw,f,args,τ,zc,h2,h8,J,G,h6,rfl,rfl,rfl⟩⟩ hp.1 hp.2 h7
        · grind
        · rcases g with g|⟨O,h2,Y,J,G⟩
          rotate_left
          · exact .inr (.inr ⟨[],o,l,[],s0,rfl,rfl,fun i o e _ he=>by simp at he,zc,by omega,by omega,J,ab.symm,by rw[ad];rfl,G⟩)
          cases hu:We P o (look s.T) (look s.H) with
         |none=>rw[hu] at g;exact g.elim
         |some u =>
            rw[hu] at g;have hp:=Qak s o u;exact step s ⟨u.1,u.2.1,u.2.2⟩ _ ⟨g.1,.inr<|.inl ⟨hw,hu⟩⟩ hp.1 hp.2 g.2
    simp only[Ya] at h;split at h
    · rename_i b hw
      refine FH h (fun hb g=>?_) fun hb g=>?_
      · subst hb
        have em:=GU hw;exact Oz (s1:=⟨ZE ops o s.T true,s.H⟩) em rfl (af s ⟨ZE ops o s.T true,s.H⟩ em rfl zc g)
      · subst hb
        have em:=GU hw;refine Oz (s1:=⟨ZE ops o s.T false,s.H⟩) em rfl ?_;have hp:=ER ⟨ZE ops o s.T false,s.H⟩ o ⟨.p<|.val undef,none,[]⟩ rfl;exact step ⟨ZE ops o s.T false,s.H⟩ ⟨.p<|.val undef,none,[]⟩ _ ⟨g.1,.inl ⟨zc,rfl⟩⟩ hp.1 hp.2 g.2
    grind
theorem fQ(h:LV o=true):yieldOf T o.op=none:=by
 grind [LV,yieldOf]
theorem dR(h:(LV o||(yieldOf (look<|ZE ops o s.T true) o.op).isNone)=true):yieldOf (look<|ZE ops o s.T true) o.op=none:=by
 rcases Bool.or_eq_true _ _ |>.mp h with h|h
 ·exact fQ h
 simp_all
theorem Ih{P:Program}{N:Nat}{D:DB}{ops:Array Oper}{Q:AX→St→Prop}:∀(l:List Oper) (k:Nat) (s:St) (φ0:Nat→Nat) (h0:QY) (w0:World) (φ:Nat→Nat) (M0:ZR) (a:Act) (w:World),
  (∀j,l[j]?=ops[k+j]?)→fO ops s l=true→Zi φ0 h0 w0 φ (look s.H) w→Zy φ M0 N D (look s.T) (look s.H) a w→YG P N ops Q l s →
  wpOps P ops (Post N D Q φ0 M0 h0 w0) ((List.range l.length).map (k+·)) a w
|[],k,s,φ0,h0,w0,φ,M0,a,w,O,G,E,r,h=>⟨φ,.normal,s,h,r,E,rfl⟩
|o::l,k,s,φ0,h0,w0,φ,M0,a,w,O,G,E,r,h=>by
  have h1:ops[k]?=some o:=by simpa using (O 0).symm
  have Z:(List.range (o::l).length).map (k+·)=k::(List.range l.length).map (k+1+·):=by
   simp only[DU,List.range_succ_eq_map,JR,List.map_map,Nat.add_zero,List.cons.injEq,true_and]
   grind [List.map_congr_left]
  rw[Z,wpOps_cons];unfold wpOp;simp only[h1];simp only[fO,Ku] at G;have J:∀j,l[j]?=ops[k+1+j]?:=fun j=>by have:=O<|j+1;grind
  simp only[YG] at h;split at h
  ·rename_i b hw;rw[Rn r hw];refine FH h (fun hb g=>?_) (fun hb g=>?_)
   ·subst hb;simp only[if_true];have em:=GU hw;have r1:Zy φ M0 N D (look<|ZE ops o s.T true) (look s.H) a w:=by grind
    rw[dR G.1] at g;refine .inl<|Go.Abs.Oper.wp_mono2 (ND (s:=⟨ZE ops o s.T true,s.H⟩) g r1) ?_ ?_
    ·rintro a' w' ⟨φ',s',Y,U,h4⟩;exact Ih l (k+1) s' φ0 h0 w0 φ' M0 a' w' J (fP G.2) (E.trans h4) U Y
    ·intro e a' w' p;exact p.trans E
   ·subst hb;simp only[Bool.false_eq_true,if_false];have em:=GU hw;have r1:Zy φ M0 N D (look<|ZE ops o s.T false) (look s.H) a w:=by grind
    refine Ih l (k+1) _ φ0 h0 w0 φ M0 _ w J (fP G.2) ?_ (Zy.put (s:=⟨ZE ops o s.T false,s.H⟩) r1 (Kc g.1)<|by rfl) g.2;cases o.dst<;>exact E
  grind
theorem zG(h:Ya P N ops Q ops.toList [] s)(r:Zy φ M0 N D (look s.T) (look s.H) a w) :
  wpAny P .any ops (Post N D Q φ M0 (look s.H) w) ops.size (Array.replicate ops.size false) a { w with drawn:=w.drawn+1 }:=by
 have hd:Zi φ (look s.H) w φ (look s.H) { w with drawn:=w.drawn+1 }:=T9 rfl rfl rfl rfl;have r1:Zy φ M0 N D (look s.T) (look s.H) a { w with drawn:=w.drawn+1 }:=r.keep hd (LM rfl)<|Nr (w:=w) rfl hd r.hp
 have aa:∀(j:Nat),(Array.replicate ops.size false).getD j false=false:=by
  intro j;rcases Nat.lt_or_ge j ops.size with h|h
  ·simp[h]
  ·simp[h]
 have G:∀n,qm (Array.replicate ops.size false) n≤n:=by
  intro n
  induction n with
 |zero=>simp[qm]
 |succ n ih=>grind [qm]
 rcases zF _ _ _ h with⟨es,s',h1,h2,h3,h4,U,O⟩|⟨pre,o,es,s',h0,h1,h2,h3,h4,U,O,h7,h8⟩|⟨pre,o,rest,es,s',h0,h1,h2,h3,h4,ah,Y,U,O,h8⟩
 ·refine Qcc (D:=D) (T0:=look s.T) (h0:=look s.H) (φ0:=φ) (w0:=w) (M0:=M0) (N:=N) es zo (fun i o e ho he=>h2 i o e zc he) (by assumption) ?_ ops.size _ a _ φ zq (G _) (fun j o _ hj=>by grind) ?_ ?_
  ·intro φ' a' w' r' J;rw[←h4,←U] at r';rw[←U] at J;exact⟨φ',.normal,s',O,r',J,rfl⟩
  ·grind [Tj]
  grind [Tj]
 ·have ab:ops.size=pre.length+1:=by have:=congrArg List.length h0;grind
  have ae:ops[pre.length]?=some o:=by
   have:ops.toList[pre.length]?=some o:=by grind
   grind
  have ac:Tn ops pre.length=true:=by
   grind [Tn]
  refine wN (D:=D) (T0:=look s.T) (h0:=look s.H) (φ0:=φ) (w0:=w) (M0:=M0) (N:=N) es pre.length zo h1 (fun i o e ho he=>h2 i o e zc he) (by assumption) zc ac ?_ ops.size _ a _ φ zq (G _) (fun j _=>aa j) (fun j o _ hj=>by grind) ?_ ?_
  ·intro φ' a' w' r' J;rw[←U,←O] at r';rw[←O] at J;rw[show ops.size-pre.length=1 from by omega];show wpOps _ _ _ [pre.length+0] _ _;rw[wpOps_cons,Nat.add_zero];unfold wpOp;simp only[ae,Rn r' h7,if_true];refine .inl (Go.Abs.Oper.wp_mono2 (ND h8 r') ?_ ?_)
   ·rintro af w'' ⟨Z,ad,g1,g2,g3⟩;exact⟨Z,.normal,ad,g1,g2,J.trans g3,rfl⟩
   ·intro e af w'' p;exact p.trans J
  ·grind [Tj]
  grind [Tj]
 ·have ab:ops.size=pre.length+(rest.length+1):=by have:=congrArg List.length h0;grind
  refine wN (D:=D) (T0:=look s.T) (h0:=look s.H) (φ0:=φ) (w0:=w) (M0:=M0) (N:=N) es pre.length zo h1 (fun i o e ho he=>h2 i o e zc he) (by assumption) zc zc ?_ ops.size _ a _ φ zq (G _) (fun j _=>aa j) (fun j o _ hj=>by grind) ?_ ?_
  ·intro φ' a' w' r' J;rw[←U,←O] at r';rw[←O] at J
   have:=Ih (o::rest) pre.length s' φ (look s.H) w φ' M0 a' w' (fun j=>by
    have e1:ops[pre.length+j]?=ops.toList[pre.length+j]?:=by simp
    simp_all [List.getElem?_append_right]) Y J r' h8
   grind
  ·grind [Tj]
  grind [Tj]
theorem lG(J:P.follows .mixedOrders=true)(G:Fb ops=true)(h:Ya P N ops Q ops.toList [] s):Ex P N ro (.region id ops true) s Q :=
 fun _ _ _ _ _ r=>wpIn_region_any J<|PR G JC _ _ _ _<|zG h r
def Xw:Nat→List AV→List (Nat×AV)|_,[]=>[]|k,x::xs=>(k,x)::Xw (k+1) xs
theorem zH:∀(xs:List AV) (k t:Nat) (x:AV),look (Xw k xs) t=some x→k≤t∧xs[t-k]?=some x
|[],k,t,x,h=>by simp[Xw,look] at h
|y::xs,k,t,x,h=>by
  simp only[Xw,look] at h;by_cases e:k=t
  ·grind
  ·simp only[e,if_false] at h;obtain⟨G,J⟩:=zH xs (k+1) t x h
   grind
def Qfk(P:Program)(T:Nat→Option AV)(h:QY):ResultVar→Option AV
|.tmp t=>T t
|.cell t ty=>match Og P T h ty (.tmp t) with|some u=>some u.1|none=>none
def wO(P:Program)(T:Nat→Option AV)(h:QY):List ResultVar→Option (List AV)
|[]=>some []
|x::xs=>match Qfk P T h x,wO P T h xs with|some v,some G=>some (v::G)|_,_=>none
def Mh(P:Program)(fn:Func)(T:Nat→Option AV)(h:QY):Option AV :=
 match wO P T h fn.results.toList with
|some [x]=>some x
|some xs=>some<|.tup xs
|none=>none
theorem zI{x:Value}(h:(Instr.loadAt ty v).run P w=.ok x w'):(do loadVar ty (←asAddr v):Sem Value).run P w=.ok x w':=by
 cases v with
|pointer q =>
  cases q with
 |none=>simp[Instr.loadAt,Instr.sureAddr,stuck] at h
 |some a=>assumption
|_=>simp[Instr.loadAt,Instr.sureAddr,stuck] at h
def Qal(tmps:Array Value):ResultVar→Sem Value
|.tmp t=>pure<|tmps.getD t undef
|.cell t ty=>do loadVar ty (←asAddr (tmps.getD t undef))
theorem Qfl(r:Zy φ M0 N D T h a w){x:ResultVar}{v:AV}(G:Qfk P T h x=some v) :
  ∃y,(Qal a.tmps x).run P w=.ok y w∧Qf φ h w (MM φ h M0) v y:=by
 cases x with
|tmp t=>exact⟨_,rfl,(r.tm t v G).2⟩
|cell t ty =>
  simp only[Qfk] at G;split at G
  ·rename_i u hu;simp only[ZA] at G;subst G;obtain⟨_,y,J,O⟩:=qQ (P:=P) r hu;exact⟨y,zI J,O⟩
  ·cases G
theorem zJ{P:Program}{φ:Nat→Nat}{M0:ZR}{N:Nat}{D:DB}{T:Nat→Option AV}{h:QY}{a:Act}{w:World}(r:Zy φ M0 N D T h a w):∀{l:List ResultVar} {J:List AV},wO P T h l=some J →
  ∃ys,(l.mapM<|Qal a.tmps).run P w=.ok ys w∧Ql φ h w (MM φ h M0) J ys
|[],J,G=>by simp_all [wO,Ql]
|x::l,J,G=>by
  simp only[wO] at G;split at G
  ·rename_i v O U Y;simp only[ZA] at G;subst G;obtain⟨y,g1,g2⟩:=Qfl r U;obtain⟨ys,g3,g4⟩:=zJ r Y;exact⟨y::ys,by simp_all,by simp only[Ql];grind⟩
  ·cases G
theorem lH(r:Zy φ M0 N D T h a w){x:AV}(G:Mh P fn T h=some x) :
  ∃v,(results fn a.tmps).run P w=.ok v w∧Qf φ h w (MM φ h M0) x v:=by
 have Y:∀ys:List Value,(fn.results.toList.mapM<|Qal a.tmps).run P w=.ok ys w→(results fn a.tmps).run P w=.ok (if hh:ys.toArray.size=1 then ys.toArray[0] else .tuple ys.toArray) w:=by
  intro ys hy;have e1:fn.results.mapM (Qal a.tmps)=Functor.map List.toArray (fn.results.toList.mapM<|Qal a.tmps):=Array.mapM_eq_mapM_toList ..
  have e2:results fn a.tmps=(do let J ←fn.results.mapM (Qal a.tmps);pure (if hh:J.size=1 then J[0] else .tuple J)):=by
   rfl
  simp_all
 unfold Mh at G;split at G
 ·rename_i y hy;simp only[ZA] at G;subst G;obtain⟨ys,g1,g2⟩:=zJ r hy;simp only[Ql] at g2
  grind
 ·rename_i xs O U;simp only[ZA] at G;subst G;obtain⟨ys,g1,g2⟩:=zJ r U;have hl:=ZY g2
  have aa:¬ys.toArray.size=1:=by
   intro Z;simp only[List.size_toArray] at Z;rw[Z] at hl
   match xs,hl with
  |[x],_=>exact O x rfl
  refine⟨.tuple ys.toArray,zc,?_⟩;simp only[Qf]
  grind
 ·cases G
def Qk7(P:Program)(f:FuncId)(args:List AV)(R:KQ→Prop):Prop:=VC P f args R5 fun r h'=>R r∧h'=R5
def Qcd(P:Program)(fn:Func)(R:KQ→Prop):AX→St→Prop|.ret,s=>∃x y,Mh P fn (look s.T) (look s.H)=some x∧le x y∧YC y=true∧R (.ret y)|.normal,s=>∃x y,Mh P fn (look s.T) (look s.H)=some x∧le x y∧YC y=true∧R (.ret y)|.panic x,s=>YC x=true∧R (.panic x)|.exit _,_=>False
theorem Qam(E:Zi φ R5 w φ' h w'):Zi φ R5 w φ' R5 w' :=
 ⟨E.os,E.tape,E.output,E.size,E.same,E.cell,fun _ _ _ x=>absurd x Jp,(fun _ _ _ _ x=>by cases x),(fun _ _ _ _ _ x=>by cases x),(fun _ _ _ _ _ x=>by cases x),(fun _ _ _ _ x=>by cases x)⟩
structure F7(ms:List Nat)(w w':World):Prop where
 os:w'.os=w.os
 tape:w'.tape=w.tape
 output:w'.output=w.output
 size:w'.heap.size=w.heap.size
 same:∀k,k∉ms→w'.heap[k]?=w.heap[k]?
 turn:∀k,k∈ms→w'.heap[k]?=some (.deferred none)
def UL(P:Program)(fn:Func)(tmps:Array Value)(R:Ending→World→Prop):List Deferred→FrameMode→World→Prop|[],u,w=>Leaves P fn tmps R [] u w|d::ds,u,w=>u≠.run ∧ ((∃r w',d.target=.collected r∧(Instr.takeDeferred r).run P w=.ok [] w'∧UL P fn tmps R ds u w') ∨ (∃fv cap f args,d.target=.fn fv cap∧(invoke d.target d.args).run P w=.ok (.enter f args) w ∧ CallsD P f args u w fun|.returned _,G,w'=>UL P fn tmps R ds (settle G) w'|.panicked chain,G,w'=>UL P fn tmps R ds (raised G chain) w'|.outgrown,_,w'=>R .outgrown w'))
theorem TJ{tmps:Array Value}{R:Ending→World→Prop}:∀(ds:List Deferred) (u:FrameMode) (w:World) (fr:Frame)
  (cs:List Frame),fr.mode=u→fr.defers=ds→fr.tmps=tmps→P.funcs[fr.fn]?=some fn→fr.kind=.normal→UL P fn tmps R ds u w →
  ∃e w' J,R e w'∧Comes P (lone fr cs w) (lone J cs w') e∧J.fn=fr.fn∧J.leaving P w' e:=by
 intro ds
 induction ds with
|nil=>exact fun u w fr cs hu hd ht hf hk h=>leaves_steps [] u w fr cs hu hd ht hf hk h
|cons d ds ih =>
  intro u w fr cs hu hd ht hf hk h;obtain⟨ab,h⟩:=h;rcases h with⟨r,w',Z,ad,ac⟩|⟨fv,cap,f,args,Z,af,hcall⟩
  ·have h1:=step_collected (cs:=cs) (hu▸ab) hd Z ad;obtain⟨e',w'',J,Y,U,O,aa⟩:=ih u w' { fr with defers:=[]++ds } cs hu rfl ht hf hk ac;exact⟨e',w'',J,Y,Comes.of_steps (.one h1) U,O,aa⟩
  ·have h1:=step_defer (cs:=cs) (hu▸ab) hd Z af;obtain⟨e,u',w',ai,hR,G,ah,ae⟩:=hcall { fr with defers:=ds } cs hu;cases e with
  |outgrown=>exact⟨.outgrown,w',fr,hR,Outgrown.of_steps (.one h1) G,rfl,trivial⟩
  |returned v =>
    have h2:=step_going_returned (c:={ { fr with defers:=ds } with mode:=u' }) (cs:=cs) ah ae;obtain⟨e',w'',J,Y,U,O,aa⟩:=ih (settle u') w' { { { fr with defers:=ds } with mode:=u' } with mode:=settle u' } cs rfl rfl ht hf hk hR;exact⟨e',w'',J,Y,Comes.of_steps (.head h1<|Steps.trans G<|.one h2) U,O,aa⟩
  |panicked chain =>
    have h2:=step_going_panicked (c:={ { fr with defers:=ds } with mode:=u' }) (cs:=cs) ae;obtain⟨e',w'',J,Y,U,O,aa⟩:=ih (raised u' chain) w' { { { fr with defers:=ds } with mode:=u' } with mode:=raised u' chain } cs rfl rfl ht hf hk hR;exact⟨e',w'',J,Y,Comes.of_steps (.head h1<|Steps.trans G<|.one h2) U,O,aa⟩
def Qan(P:Program)(fn:Func)(R:Ending→World→Prop):Exit→Act→World→Prop|.normal,a,w|.ret,a,w=>UL P fn a.tmps R a.defers .returning w|.panic chain,a,w=>UL P fn a.tmps R a.defers (.panicking chain) w|.outgrown,_,w=>R .outgrown w|_,_,_=>False
theorem ES{args:Array Value}{R:Ending→World→Prop}(hf:P.funcs[f]?=some fn)(hb:fn.body=some c)(h:c.wpIn (wd none) 0 P (Qan P fn R) { tmps:=args++Array.replicate (fn.ntmps-args.size) undef,defers:=[] } w):Calls P f args w R:=by
 have h:=wpIn_wide.1 h;intro cs
 let b:Frame:={ (default:Frame) with fn:=f,kind:=.normal }
 have Y:Frame.enter P f args .normal=b.at { tmps:=args++Array.replicate (fn.ntmps-args.size) undef,defers:=[] } [.code c]:=by
  grind [Frame.enter,Frame.at]
 obtain⟨e,a',w',Z,G⟩:=h b [] cs;rw[←Y] at G;cases e with
|normal =>
  obtain⟨e',w'',O,hR,hs,U,hl⟩:=TJ a'.defers .returning w' { b.at a' [] with mode:=.returning } cs rfl rfl rfl hf rfl Z;exact⟨e',w'',O,hR,Comes.of_steps (Steps.trans G<|.one step_end) hs,U,hl⟩
|ret =>
  obtain⟨todo,J⟩:=G;obtain⟨e',w'',O,hR,hs,U,hl⟩:=TJ a'.defers .returning w' { b.at a' todo with mode:=.returning } cs rfl rfl rfl hf rfl Z;exact⟨e',w'',O,hR,Comes.of_steps J hs,U,hl⟩
|panic chain =>
  obtain⟨todo,J⟩:=G;obtain⟨e',w'',O,hR,hs,U,hl⟩:=TJ a'.defers (.panicking chain) w' { b.at a' todo with mode:=.panicking chain } cs rfl rfl rfl hf rfl Z;exact⟨e',w'',O,hR,Comes.of_steps J hs,U,hl⟩
|exit id=>exact Z.elim
|goto l=>exact Z.elim
|outgrown=>exact⟨.outgrown,w',b,Z,G.resolve_left (by simp[b]),rfl,trivial⟩
theorem ET{P:Program}{fn:Func}{tmps:Array Value}{R:Ending→World→Prop}{u:FrameMode}(hu:u≠.run)(ds:List Deferred):∀(J:List Nat) (w:World),J.Nodup→(∀r∈J,w.heap[r]?=some (.deferred<|some [])) →
  (∀w',F7 J w w'→UL P fn tmps R ds u w')→UL P fn tmps R ((J.map fun r=>({ target:=.collected r,args:=#[] }:Deferred))++ds) u w
|[],w,_,_,h=>h w ⟨rfl,rfl,rfl,rfl,fun _ _=>rfl,fun k G=>by cases G⟩
|r::J,w,Z,hb,h=>by
  have h0:=hb r zq;have hlt:r<w.heap.size:=(AY.1 h0).1
  let U:World:=w.putObj r<|.deferred none
  have Y:∀k:Nat,U.heap[k]?=(w.heap.setIfInBounds r<|.deferred none)[k]?:=fun k=>rfl
  have O:(Instr.takeDeferred r).run P w=.ok [] U:=run_takeDeferred h0;refine⟨hu,.inl ⟨r,U,rfl,O,ET hu ds J U (List.nodup_cons.1 Z).2 ?_ ?_⟩⟩
  ·grind
  ·intro w' t;refine h w' ⟨t.os,t.tape,t.output,by rw[t.size];simp[U,World.putObj],fun k G=>?_,fun k G=>?_⟩
   ·simp only[List.mem_cons,not_or] at G;rw[t.same k G.2,Y,Array.getElem?_setIfInBounds_ne<|Ne.symm G.1]
   ·rcases List.mem_cons.1 G with e|e
    ·subst e;rw[t.same k (List.nodup_cons.1 Z).1,Y];simp[hlt]
    ·exact t.turn k e
theorem Qfm{tmps:Array Value}{R:Ending→World→Prop}{u:FrameMode}(hu:u≠.run)(G:List Nat)(w:World)(J:G.Nodup)(hb:∀r∈G,w.heap[r]?=some (.deferred (some [])))(h:∀w',F7 G w w'→Leaves P fn tmps R [] u w'):UL P fn tmps R (G.map fun r=>({ target:=.collected r,args:=#[] }:Deferred)) u w:=by
 have:=ET (P:=P) (fn:=fn) (tmps:=tmps) (R:=R) hu [] G w J hb h
 grind
theorem Zy.turned{Y:List Nat}(r:Zy φ M0 N D T h a w)(t:F7 Y w w')(hm:∀r∈Y,w.heap[r]?=some (.deferred (some []))∧∀b,h b≠none→φ b≠r):Zy φ M0 N ⟨[],0⟩ T h { a with defers:=[] } w':=by
 have J:∀b k,h b=some k→w'.heap[φ b]?=w.heap[φ b]?:=fun b k hb=>t.same _ fun G=>(hm _ G).2 b zc rfl
 have X:VF φ h w φ h w':=⟨fun _ _ _ x=>⟨⟨_,_,x⟩,rfl⟩,fun b ty S n x=>⟨_,x,KD _,fun _=>Ve (rfl)<|zc⟩,
  fun b ty S n x=>⟨_,x,KD _,fun _=>⟨rfl,fun c hc=>⟨c,zc,rfl⟩⟩⟩,fun _ _ _ O U=>⟨⟨_,O,U⟩,rfl⟩⟩
 have Z:∀r o v,w.cell? ⟨r,o,none⟩=some v→¬MM φ h M0 r o→w'.cell? ⟨r,o,none⟩=some v∧¬MM φ h M0 r o:=by
  intro x o v O U;refine⟨?_,U⟩
  have:x∉Y:=fun G=>by
   grind [World.cell?]
  rw[←O];simp[World.cell?,t.same x this]
 refine⟨⟨Nat.zero_le _,[],rfl,List.nodup_nil,fun r hr=>by cases hr⟩,r.siz,⟨r.hp.inj,fun b k hb=>Ke Z X (J b k hb)<|r.hp.blk b k hb,r.hp.fr,fun x o G=>by rw[t.size];exact r.hp.lt x o G,gP (fun g hg=>t.same g fun G=>QiC r.hp.gm.w g hg _ (hm g G).1) r.hp.gm.w,r.hp.gm.m⟩,
  fun x y G=>⟨(r.tm x y G).1,(QV Z X).1 _ _ (r.tm x y G).2⟩⟩
theorem Mj{O:List Nat}(t:F7 O w w')(Z:∀r∈O,w.heap[r]?=some (.deferred<|some [])∧∀b,h b≠none→φ b≠r)(x:AV)(v:Value)(hv:Qf φ h w (MM φ h M0) x v):Qf φ h w' (MM φ h M0) x v:=by
 have Y:∀b k,h b=some k→w'.heap[φ b]?=w.heap[φ b]?:=fun b k hb=>t.same _ fun U=>(Z _ U).2 b zc rfl
 have X:VF φ h w φ h w':=⟨fun _ _ _ x=>⟨⟨_,_,x⟩,rfl⟩,fun b ty S n x=>⟨_,x,KD _,fun _=>Ve (rfl)<|zc⟩,
  fun b ty S n x=>⟨_,x,KD _,fun _=>⟨rfl,fun c hc=>⟨c,zc,rfl⟩⟩⟩,fun _ _ _ G J=>⟨⟨_,G,J⟩,rfl⟩⟩
 refine(QV (fun r o v G J=>⟨?_,J⟩) X).1 _ _ hv
 have:r∉O:=fun U=>by
  grind [World.cell?]
 rw[←G];simp[World.cell?,t.same r this]
theorem Zi.turned{ms:List Nat}(E:Zi φ h w φ' h' w')(t:F7 ms w' w'')(aa:∀r∈ms,w.heap.size≤r)(hm:∀r∈ms,w'.heap[r]?=some (.deferred<|some [])∧∀b,h' b≠none→φ' b≠r):Zi φ h w φ' h' w'':=by
 have U:∀r,r<w.heap.size→w''.heap[r]?=w'.heap[r]?:=fun r O=>t.same r fun J=>by grind
 have G:∀b k,h' b=some k→w''.heap[φ' b]?=w'.heap[φ' b]?:=fun b k hb=>t.same _ fun J=>(hm _ J).2 b zc rfl
 refine⟨t.os.trans E.os,t.tape.trans E.tape,t.output.trans E.output,by rw[t.size];exact E.size,fun r O Z=>(U r O).trans<|E.same r O Z,fun r o O hm=>?_,E.mu,E.kb,?_,?_,E.ko⟩
 ·rw[←E.cell r o O hm];grind [World.cell?]
 ·intro b ty S n hb J;obtain⟨n',h1,h2,Y⟩:=E.kt b ty S n hb J;refine⟨n',h1,h2,fun e=>⟨fun h=>by rw[G b _ h1];exact(Y e).1 h,(Y e).2.imp (fun h=>h) fun Y=>⟨Y.1,fun c hc=>?_⟩⟩⟩
  grind
 ·intro b ty S n hb J;obtain⟨n',h1,h2,Y⟩:=E.kv b ty S n hb J
  grind
def Out(R:KQ→QY→Prop)(φ:Nat→Nat)(h:QY)(w:World)(M0:ZR)(e:Ending)(w':World):Prop :=∃φ' r h',R r h'∧ZX φ' h' w' M0∧Zi φ h w φ' h' w'∧Qb5 φ' h' w' (MM φ' h' M0) r e
theorem Ii{G:List Value}(Z:ZX φ h w M0)(U:Ql φ h w (MM φ h M0) args G)(hl:args.length≤n) :
  Zy φ M0 n ⟨[],w.heap.size⟩ (look<|Xw 0 args) h { tmps:=G.toArray++Array.replicate (n-G.toArray.size) undef,defers:=[] } w:=by
 have O:=ZY U;refine⟨⟨KD _,[],rfl,List.nodup_nil,fun r Y=>by cases Y⟩,by simp;omega,Z,fun t x ht=>?_⟩;obtain⟨_,J⟩:=zH args 0 t x ht;simp only[Nat.sub_zero] at J;have hlt:t<args.length:=(wB.1 J).1;obtain⟨v,h3,h4⟩:=GG U J;refine⟨by omega,?_⟩
 have:(G.toArray++Array.replicate (n-G.toArray.size) undef).getD t undef=v:=by
  simp_all [Array.getD_eq_getD_getElem?,Array.getElem?_append_left]
 grind
theorem OA{vs:List Value}{h:List (Nat×Blk)}(hf:P.funcs[f]?=some fn)(hb:fn.body=some c)(hl:args.length≤fn.ntmps)(hH:ZX φ (look h) w M0)(ha:Ql φ (look h) w (MM φ (look h) M0) args vs)(hx:Ex P fn.ntmps none c ⟨Xw 0 args,h⟩ Q)(O:∀x s φ' a w',Q x s→x=.normal∨x=.ret→Zy φ' M0 fn.ntmps ⟨[],0⟩ (look s.T) (look s.H) a w'→Zi φ (look h) w φ' (look s.H) w'→∃v,(results fn a.tmps).run P w'=.ok v w'∧Out R φ (look h) w M0 (.returned v) w')(aa:∀x s φ' a w' v,Q (.panic x) s→Zy φ' M0 fn.ntmps ⟨[],0⟩ (look s.T) (look s.H) a w'→Zi φ (look h) w φ' (look s.H) w'→Qf φ' (look s.H) w' (MM φ' (look s.H) M0) x v→Out R φ (look h) w M0 (.panicked [{ v:=v,recovered:=false }]) w')(ac:∀i s,¬Q (.exit i) s):Calls P f vs.toArray w (Out R φ (look h) w M0):=by
 refine ES hf hb<|wpIn_mono (hx φ M0 _ _ w<|Ii hH ha hl) ?_;rintro e a' w' ⟨φ',k,s',h1,h2,h3,h4⟩;obtain⟨ae,ms,hd,ab,U⟩:=h2.dfs;have ad:a'.defers=ms.map fun r=>({ target:=.collected r,args:=#[] }:Deferred):=by grind
 have Y:∀r∈ms,w'.heap[r]?=some (.deferred<|some [])∧∀b,look s'.H b≠none→φ' b≠r:=fun r Z=>(U r Z).2
 have go:∀(u:FrameMode),u≠.run→(∀w'',F7 ms w' w''→Zy φ' M0 fn.ntmps ⟨[],0⟩ (look s'.T) (look s'.H) { a' with defers:=[] } w''→Zi φ (look h) w φ' (look s'.H) w''→Leaves P fn a'.tmps (Out R φ (look h) w M0) [] u w'') →
   UL P fn a'.tmps (Out R φ (look h) w M0) a'.defers u w':=by
  intro u hu g;rw[ad];exact Qfm hu ms w' ab (fun r Z=>(U r Z).2.1) fun w'' t=>g w'' t (h2.turned t Y)<|h3.turned t (fun r Z=>(U r Z).1) Y
 cases k with
|normal =>
  simp only[H5] at h4;subst h4;exact go .returning zq fun w'' t J G=>O _ _ _ { a' with defers:=[] } _ h1 (.inl rfl) J G
|ret =>
  simp only[H5] at h4;subst h4;exact go .returning zq fun w'' t J G=>O _ _ _ { a' with defers:=[] } _ h1 (.inr rfl) J G
|exit i=>grind
|panic x =>
  obtain⟨v,rfl,h5⟩:=h4;refine go (.panicking [{ v:=v,recovered:=false }]) zq fun w'' t J G=>aa _ _ _ _ _ _ h1 J G ?_
  grind [Mj]
theorem fT{R:KQ→Prop}(hf:P.funcs[f]?=some fn)(hb:fn.body=some c)(hl:args.length≤fn.ntmps)(h:Ex P fn.ntmps none c ⟨Xw 0 args,[]⟩ (Qcd P fn R)):Qk7 P f args R:=by
 intro φ M0 w vs hH ha;have Y:∀{φ':Nat→Nat} {s:St} {w':World},Zi φ R5 w φ' (look s.H) w'→Zi φ R5 w φ' R5 w':=fun E=>Qam E
 have Z:∀{φ':Nat→Nat} {s:St} {w':World},∀r o v,w'.cell? ⟨r,o,none⟩=some v→¬MM φ' (look s.H) M0 r o→w'.cell? ⟨r,o,none⟩=some v∧¬MM φ' R5 M0 r o:=fun r o v g1 g2=>⟨g1,fun g3=>g3.elim Jp fun g4=>g2<|.inr g4⟩
 refine OA (h:=[]) hf hb hl hH ha h ?_ ?_ ?_
 ·intro x s φ' a w' G hx r E;have U:∃x y,Mh P fn (look s.T) (look s.H)=some x∧le x y∧YC y=true∧R (.ret y):=by rcases hx with rfl|rfl<;>exact G
  obtain⟨x,y,g1,g2,g3,g4⟩:=U;obtain⟨v,g5,g6⟩:=lH r g1;exact⟨v,g5,φ',.ret y,R5,⟨g4,rfl⟩,FE (fun x o J=>r.hp.lt x o J) r.hp.gm.w fun g O o h=>r.hp.gm.m g O o<|.inr h,Y E,v,rfl,(J5 Z).1 _ _ g3 (Uk.1 _ _ _ g2 g6)⟩
 ·intro x s φ' a w' v G r E hv;exact⟨φ',.panic x,R5,⟨G.2,rfl⟩,FE (fun x o J=>r.hp.lt x o J) r.hp.gm.w fun g O o h=>r.hp.gm.m g O o<|.inr h,Y E,v,rfl,(J5 Z).1 _ _ G.1 hv⟩
 ·intro i s G;exact G
theorem fU{X:KQ}(hf:P.funcs[f]?=some fn)(hb:fn.body=some c)(G:args.length≤fn.ntmps)(h:Ex P fn.ntmps none c ⟨Xw 0 args,[]⟩ (Qcd P fn (·=X))):Zc P f args X:=fT hf hb G h
theorem fV:(∀x:AV,le x x)∧(∀xs:List AV,EO xs xs):=by
 have key:∀n:Nat,(∀(x:AV),SizeOf.sizeOf x≤n→le x x)∧(∀(xs:List AV),SizeOf.sizeOf xs≤n→EO xs xs):=by
  intro n
  induction n with
 |zero =>
   refine⟨fun x G=>?_,fun es G=>?_⟩
   ·cases x<;>simp at G
   ·cases es<;>simp at G
 |succ n J =>
   obtain⟨i1,i2⟩:=J;refine⟨fun x G=>?_,fun xs G=>?_⟩
   ·cases x with
   |p x=>cases x<;>simp[le]
   |agg cs=>simp only[le];grind
   |tup cs=>simp only[le];grind
   |_=>simp[le]
   ·cases xs with
   |nil=>simp[EO]
   |cons x xs=>simp only[EO];grind
 exact⟨fun x=>(key<|SizeOf.sizeOf x).1 x (KD _),fun xs=>(key<|SizeOf.sizeOf xs).2 xs (KD _)⟩
theorem le_refl(x:AV):le x x:=fV.1 x
theorem fZ(xs:List AV):EO xs xs:=fV.2 xs
mutual
def Kw(h:QY):AV→Bool|.p _=>true|.eptr _=>true|.tsl _ _ t=>(h t).isSome|.ptr b _=>(h b).isSome|.vnil=>true|.vsl _ t _=>(h t).isSome|.vptr t _ _ _=>(h t).isSome|.vtl _ t _ _ _=>(h t).isSome|.yv b=>(h b).isSome|.mv b=>(h b).isSome|.bsl b _=>(h b).isSome|.sfp b=>(h b).isSome|.iv b=>(h b).isSome|.agg cs=>K5 h cs|.tup cs=>K5 h cs|.fn _ a b=>K5 h a&&K5 h b|.ifc _ x=>Kw h x
def K5(h:QY):List AV→Bool|[]=>true|x::xs=>Kw h x&&K5 h xs
end
theorem EU(h:QY):∀l:List PV,K5 h (l.map .p)=true
|[]=>by rfl
|x::l=>by simp[K5,Kw,EU h l]
def leB:Blk→Blk→Prop|.box ty cs,k=>∃cs',k=.box ty cs'∧EO cs cs'|.arr ty S n,k=>k=.arr ty S n|.vec ty S es,k=>k=.vec ty S es|.lp T nf st pd,k=>k=.lp T nf st pd|.mp es,k=>k=.mp es|.mf es,k=>k=.mf es|.mg en G es,k=>k=.mg en G es|.it m G sn,k=>k=.it m G sn
theorem Ga{k k':Blk}{x:OB}(h:leB k k')(G:k.ob=some x):k'.ob=some x:=by
 cases k with
|box ty cs=>cases G
|arr ty S n=>cases G
|vec ty S es=>cases G
|lp T nf st pd=>grind [leB]
|mp es=>grind [leB]
|mf es=>grind [leB]
|mg en J es=>grind [leB]
|it m J sn=>grind [leB]
theorem EW(hM:∀r o,M' r o→M r o)(hh:∀b k',h' b=some k'→∃k,h b=some k∧leB k k') :
  (∀(x:AV) (v:Value),Kw h' x=true→Qf φ h w M x v→Qf φ h' w M' x v)∧(∀(xs:List AV) (l:List Value),K5 h' xs=true→Ql φ h w M xs l→Ql φ h' w M' xs l):=by
 obtain⟨kp,ke,kc⟩:=Kb (w:=w) (w':=w) (M:=M) (M':=M') fun r o v Z h2=>⟨Z,fun J=>h2<|hM r o J⟩
 have key:∀n:Nat,(∀(x:AV),SizeOf.sizeOf x≤n→∀v,Kw h' x=true→Qf φ h w M x v→Qf φ h' w M' x v)∧(∀(xs:List AV),SizeOf.sizeOf xs≤n→∀l,K5 h' xs=true→Ql φ h w M xs l→Ql φ h' w M' xs l):=by
  intro n
  induction n with
 |zero =>
   refine⟨fun x G=>?_,fun es G=>?_⟩
   ·cases x<;>simp at G
   ·cases es<;>simp at G
 |succ n Y =>
   obtain⟨i1,i2⟩:=Y;refine⟨fun x G v U O=>?_,fun xs G l U O=>?_⟩
   ·cases x with
   |p x=>grind [Qf]
   |tsl S es t =>
     grind [Kw,Qf,leB,TZ]
   |ptr b off =>
     grind [Kw,Qf,leB,TZ]
   |bsl b n =>
     grind [Kw,Qf,leB,TZ]
   |sfp b =>
     grind [Kw,Qf,leB,TZ]
   |vnil=>assumption
   |vsl S t n =>
     grind [Kw,Qf,leB,TZ]
   |vtl S t n k m0 =>
     grind [Kw,Qf,leB,TZ]
   |vptr t n k f =>
     grind [Kw,Qf,leB,TZ]
   |yv b =>
     grind [Kw,Qf,TZ,Ga]
   |mv b =>
     grind [Kw,Qf,TZ,Ga]
   |iv b =>
     grind [Kw,Qf,TZ,Ga]
   |eptr cs =>
     grind [Qf]
   |agg cs =>
     grind [Qf,Kw]
   |tup cs =>
     grind [Qf,Kw]
   |fn f a b =>
     grind [Qf,Kw]
   |ifc t x =>
     grind [Qf,Kw]
   ·cases xs with
   |nil=>assumption
   |cons x xs =>
     grind [Ql,K5]
 exact⟨fun x v=>(key<|SizeOf.sizeOf x).1 x (KD _) v,fun xs l=>(key<|SizeOf.sizeOf xs).2 xs (KD _) l⟩
def leO:Option AV→AV→Prop|some y,x=>le y x|none,_=>False
def QiM:Option Blk→Blk→Prop|some k,k'=>leB k k'|none,_=>False
def zK(T:Nat→Option AV)(h':QY):List (Nat×AV)→Prop|[]=>True|(t,x)::l=>leO (T t) x∧Kw h' x=true∧zK T h' l
def okRefB(h:QY):Blk→Bool|.box _ cs=>K5 h cs|.arr _ _ _=>true|.vec _ _ _=>true|.lp T _ _ _=>K5 h (T.map (·.2))|.mp es=>true|.mf es=>K5 h (es.map (·.2.2))|.mg _ _ es=>K5 h (es.map (·.2.2))|.it m _ _=>(h m).isSome
def NU(h h':QY):List (Nat×Blk)→Prop|[]=>True|(b,k)::l=>QiM (h b) k∧okRefB h' k=true∧NU h h' l
def YH(h':QY):List (Nat×Blk)→Bool|[]=>true|(b,_)::l=>(decide (b<1000)||(h' b).isSome)&&YH h' l
theorem NF{T:Nat→Option AV}{h':QY}:∀{l:List (Nat×AV)},zK T h' l→∀t x,look l t=some x→∃y,T t=some y∧le y x∧Kw h' x=true
|[],_,t,x,G=>by simp[look] at G
|(t0,J)::l,hs,t,x,G=>by
  simp only[zK] at hs;simp only[look] at G;by_cases e:t0=t
  ·simp only[e,if_true,ZA] at G;subst G e;cases hq:T t0 with
  |none=>rw[hq] at hs;exact hs.1.elim
  |some y=>rw[hq] at hs;exact⟨y,rfl,hs.1,hs.2.1⟩
  ·simp only[e,if_false] at G;exact NF hs.2.2 t x G
theorem XX{h h':QY}:∀{l:List (Nat×Blk)},NU h h' l→∀b k',look l b=some k'→(∃k,h b=some k∧leB k k')∧okRefB h' k'=true
|[],_,t,x,G=>by simp[look] at G
|(t0,J)::l,hs,t,x,G=>by
  simp only[NU] at hs;simp only[look] at G;by_cases e:t0=t
  ·simp only[e,if_true,ZA] at G;subst G e;cases hq:h t0 with
  |none=>rw[hq] at hs;exact hs.1.elim
  |some y=>rw[hq] at hs;exact⟨⟨y,rfl,hs.1⟩,hs.2.1⟩
  ·simp only[e,if_false] at G;exact XX hs.2.2 t x G
theorem Yo{h':QY}:∀{l:List (Nat×Blk)},YH h' l=true→∀b k,1000≤b→look l b=some k→∃k',h' b=some k'
|[],_,b,k,_,G=>by simp[look] at G
|(b0,k0)::l,hs,b,k,hb,G=>by
  simp only[YH,Ku,Bool.or_eq_true,Pd] at hs;simp only[look] at G;by_cases e:b0=b
  ·grind [TZ]
  ·simp only[e,if_false] at G;exact Yo hs.2 b k hb G
theorem Df(h:QY):∀(es:List (Value×PV)),K5 h (es.map fun p=>.p p.2)=true
|[]=>rfl
|x::es=>by simp only[JR,K5,Kw,Bool.true_and];exact Df h es
theorem J6{h:QY}:∀{es:List (Bool×List UInt8×AV)},K5 h (es.map (·.2.2))=true→K5 h ((DZ es).map (·.2.2))=true
|[],_=>rfl
|(f,k,x)::es,G=>by
  simp only[JR,K5,Ku] at G;cases f with
 |false=>exact J6 (es:=es) G.2
 |true=>simp only[DZ,List.filter_cons_of_pos,JR,K5,Ku];exact⟨G.1,J6 (es:=es) G.2⟩
theorem FI{h:QY}:∀{T:List (Nat×AV)} {t:Nat} {x:AV},K5 h (T.map (·.2))=true→look T t=some x→Kw h x=true
|[],t,x,_,G=>by simp[look] at G
|(k,y)::T,t,x,J,G=>by
  simp only[JR,K5,Ku] at J;simp only[look] at G;by_cases e:k=t
  ·grind
  ·simp only[e,if_false] at G;exact FI J.2 G
theorem mh(hT:zK (look s.T) (look s'.H) s'.T)(hH:NU (look s.H) (look s'.H) s'.H)(hK:YH (look s'.H) s.H=true)(r:Zy φ M0 N D (look s.T) (look s.H) a w):Zy φ M0 N D (look s'.T) (look s'.H) a w∧Zi φ (look s.H) w φ (look s'.H) w:=by
 have hh:∀b k',look s'.H b=some k'→∃k,look s.H b=some k∧leB k k':=fun b k' hb=>(XX hH b k' hb).1
 have aa:∀r o,Bv φ (look s'.H) r o→Bv φ (look s.H) r o:=by
  rintro x o ⟨b,k',O,G,J⟩;obtain⟨k,h4,h5⟩:=hh b k' O;refine⟨b,k,h4,G,?_⟩
  grind [leB]
 have hM:∀r o,MM φ (look s'.H) M0 r o→MM φ (look s.H) M0 r o:=fun x o hx=>hx.elim (fun h=>.inl<|aa x o h) .inr
 have U:∀b,look s'.H b≠none→look s.H b≠none:=fun b hb=>by
  cases hq:look s'.H b with
 |none=>grind
 |some k'=>grind
 obtain⟨c1,c2⟩:=EW (φ:=φ) (w:=w) hM hh
 have ad:ZX φ (look s'.H) w M0:=by
  refine⟨fun b c hb hc=>r.hp.inj b c (U b hb)<|U c hc,fun b k' hb=>?_,fun b hb=>r.hp.fr b<|U b hb,r.hp.lt,r.hp.gm.sub hM⟩;obtain⟨⟨k,O,G⟩,J⟩:=XX hH b k' hb;have h4:=r.hp.blk b k O;cases k with
 |box ty cs =>
   simp only[leB] at G;obtain⟨cs',rfl,h5⟩:=G;obtain⟨c,h6,h7⟩:=h4;exact⟨c,h6,c2 _ _ J<|Uk.2 _ _ _ h5 h7⟩
 |arr ty S n=>simp only[leB] at G;subst G;exact h4
 |vec ty S es =>
   simp only[leB] at G;subst G;obtain⟨c,cap,g1,g2,g3,g4,g5,g6,g7⟩:=h4;exact⟨c,cap,g1,g2,g3,g4,g5,g6,c2 _ _ (EU _ _) g7⟩
 |lp T nf st pd =>
   simp only[leB] at G;subst G;obtain⟨tmps,d,g1,g2,g3⟩:=h4;exact⟨tmps,d,g1,g2,fun t x ht=>⟨(g3 t x ht).1,c1 _ _ (FI J ht) (g3 t x ht).2⟩⟩
 |mp es =>
   simp only[leB] at G;subst G;obtain⟨en,cl,g1,g2,g3⟩:=h4;exact⟨en,cl,g1,g2,c2 _ _ (Df _ _) g3⟩
 |mf es =>
   simp only[leB] at G;subst G;obtain⟨en,cl,g1,g2,g3,g5⟩:=h4;exact⟨en,cl,g1,g2,c2 _ _ (J6 J) g3,g5⟩
 |mg en cl es =>
   simp only[leB] at G;subst G;obtain⟨g1,g2,g3,g5⟩:=h4;exact⟨g1,g2,c2 _ _ (J6 J) g3,g5⟩
 |it m cl sn =>
   simp only[leB] at G;subst G;obtain⟨g1,k0,g2,g3⟩:=h4;obtain⟨km,ac⟩:=TZ.1 J;obtain⟨k1,g5,g6⟩:=hh m km ac;rw[g2] at g5;cases g5;exact⟨g1,km,ac,Ga g6 g3⟩
 have ab:Marks φ D (look s'.H) a w:=by
  obtain⟨h0,ms,O,G,J⟩:=r.dfs;exact⟨h0,ms,O,G,fun x hx=>⟨(J x hx).1,(J x hx).2.1,fun b hb=>(J x hx).2.2 b (U b hb)⟩⟩
 refine⟨⟨ab,r.siz,ad,fun t x ht=>?_⟩,⟨rfl,rfl,rfl,KD _,fun _ _ _=>rfl,fun _ _ _ _=>rfl,fun x o _ hx=>aa x o hx,?_,?_,?_,?_⟩⟩
 ·obtain⟨y,O,G,J⟩:=NF hT t x ht;exact⟨(r.tm t y O).1,c1 _ _ J<|Uk.1 _ _ _ G (r.tm t y O).2⟩
 ·intro b ty cs hb Z;obtain⟨k',O⟩:=Yo hK b _ hb Z;obtain⟨k,G,J⟩:=hh b k' O;rw[Z] at G;cases G;simp only[leB] at J
  grind
 ·intro t ty S n ht Y;obtain⟨k',O⟩:=Yo hK t _ ht Y;obtain⟨k,G,J⟩:=hh t k' O;rw[Y] at G;cases G;simp only[leB] at J;exact⟨n,by rw[O,J],KD _,fun _=>Ve (rfl) rfl⟩
 ·intro t ty S n ht Y;obtain⟨k',O⟩:=Yo hK t _ ht Y;obtain⟨k,G,J⟩:=hh t k' O;rw[Y] at G;cases G;simp only[leB] at J
  grind
 ·intro b k x hb Z ho;obtain⟨k',O⟩:=Yo hK b _ hb Z;obtain⟨k2,G,J⟩:=hh b k' O;rw[Z] at G;cases G;exact⟨⟨k',O,Ga J ho⟩,rfl⟩
theorem Qce(J:zK (look s.T) (look s'.H) s'.T)(G:NU (look s.H) (look s'.H) s'.H)(O:YH (look s'.H) s.H=true):Weak N s s' :=
 fun φ _ _ _ _ r=>⟨φ,mh J G O r⟩
attribute [go_sem] D7 Fz V9 Oh qY wC QhQ
attribute [go_sem ↓] YG H6 Ya Z9 Lu
attribute [go_sem] yieldOf ZT ZE We WT Zn A7 qW look Xw Uu St.put y7 KL Ti OW aUn fo qZ D8 EF xg Og qU vk cellsOf GH AV.one F5 UY JA GQ Qaf FD isB elems gX qV AZ Ri Da Xu Fy GJ iO wG Ny aEq fB eqV eqV.eqFs FC isConst AR BD qX EB xc FB F6 WO D9 BI isNil Kk wF Ol BM U0 JB fu Td Om dF Xv Ce fC BO Tc Value.oneCell' Mh wO Qfk Z9 Lu iU Ta BJ QbY Pg
mutual
def Xb(ρ:Nat→Nat):AV→AV|.p x=>.p x|.eptr cs=>.eptr cs|.tsl S es t=>.tsl S es (ρ t)|.ptr b off=>.ptr (ρ b) off|.vnil=>.vnil|.vsl S t n=>.vsl S (ρ t) n|.vptr t n k f=>.vptr (ρ t) n k f|.vtl S t n k m=>.vtl S (ρ t) n k m|.yv b=>.yv (ρ b)|.mv b=>.mv (ρ b)|.bsl b n=>.bsl (ρ b) n|.sfp b=>.sfp (ρ b)|.iv b=>.iv (ρ b)|.agg cs=>.agg (Jn ρ cs)|.tup cs=>.tup (Jn ρ cs)|.fn f a b=>.fn f (Jn ρ a) (Jn ρ b)|.ifc t x=>.ifc t<|Xb ρ x
def Jn(ρ:Nat→Nat):List AV→List AV|[]=>[]|x::xs=>Xb ρ x::Jn ρ xs
end
def KR(ρ:Nat→Nat):Blk→Blk|.box ty cs=>.box ty (Jn ρ cs)|.arr ty S n=>.arr ty S n|.vec ty S es=>.vec ty S es|.lp T nf st pd=>.lp (T.map fun p=>(p.1,Xb ρ p.2)) nf st pd|.mp es=>.mp es|.mf es=>.mf (es.map fun e=>(e.1,e.2.1,Xb ρ e.2.2))|.mg en G es=>.mg en G (es.map fun e=>(e.1,e.2.1,Xb ρ e.2.2))|.it m G sn=>.it (ρ m) G sn
def dS(ρ:Nat→Nat):OB→OB|.lp T nf=>.lp (T.map fun p=>(p.1,Xb ρ p.2)) nf|.mp=>.mp
theorem UM(ρ:Nat→Nat)(k:Blk):(KR ρ k).ob=k.ob.map (dS ρ):=by cases k<;>rfl
theorem QiN{k:Blk}(h:(KR ρ k).ob=some .mp):k.ob=some .mp:=by
 rw[UM] at h;cases hk:k.ob with
|none=>grind
|some x =>
  rw[hk] at h;cases x with
 |mp=>rfl
 |lp T nf=>simp[dS] at h
theorem NG(ρ:Nat→Nat):∀(T:List (Nat×AV)) (t:Nat),look (T.map fun p=>(p.1,Xb ρ p.2)) t=(look T t).map (Xb ρ)
|[],t=>rfl
|(k,v)::T,t=>by
  simp only[JR,look];by_cases e:k=t
  ·simp[e]
  ·simp only[e,if_false];exact NG ρ T t
theorem xB(ρ:Nat→Nat):∀(es:List (Value×PV)),Jn ρ (es.map fun p=>.p p.2)=es.map fun p=>.p p.2
|[]=>rfl
|x::es=>by simp only[JR,Jn,Xb];rw[xB ρ es]
theorem Tp(ρ:Nat→Nat):∀(es:List (Bool×List UInt8×AV)),(DZ<|es.map fun e=>(e.1,e.2.1,Xb ρ e.2.2)).map (·.2.2)=Jn ρ ((DZ es).map (·.2.2))
|[]=>rfl
|(f,k,x)::es=>by
  cases f with
 |false=>exact Tp ρ es
 |true =>
   have:=Tp ρ es
   grind [DZ,Jn]
theorem Tq(ρ:Nat→Nat):∀(es:List (Bool×List UInt8×AV)),(DZ<|es.map fun e=>(e.1,e.2.1,Xb ρ e.2.2)).map (fun e=>BC e.2.1)=(DZ es).map (fun e=>BC e.2.1)
|[]=>rfl
|(f,k,x)::es=>by
  cases f with
 |false=>exact Tq ρ es
 |true =>
   have:=Tq ρ es
   grind [DZ]
section
variable {ρ φ φc:Nat→Nat}{h hc:QY}{w:World}{M Mc:ZR}
theorem QiO(ad:∀c,hc c≠none→φc c=φ (ρ c))(hM:∀r o,Mc r o→M r o)(hh:∀c k,hc c=some k→∃k0,h (ρ c)=some k0∧leB k0 (KR ρ k)) :
  (∀(x:AV) (v:Value),Kw hc x=true→Qf φ h w M (Xb ρ x) v→Qf φc hc w Mc x v)∧(∀(xs:List AV) (l:List Value),K5 hc xs=true→Ql φ h w M (Jn ρ xs) l→Ql φc hc w Mc xs l):=by
 obtain⟨kp,ke,kc⟩:=Kb (w:=w) (w':=w) (M:=M) (M':=Mc) fun r o v h1 Y=>⟨h1,fun h3=>Y<|hM r o h3⟩
 have key:∀n:Nat,(∀(x:AV),SizeOf.sizeOf x≤n→∀v,Kw hc x=true→Qf φ h w M (Xb ρ x) v→Qf φc hc w Mc x v)∧(∀(xs:List AV),SizeOf.sizeOf xs≤n→∀l,K5 hc xs=true→Ql φ h w M (Jn ρ xs) l→Ql φc hc w Mc xs l):=by
  intro n
  induction n with
 |zero =>
   refine⟨fun x hx=>?_,fun es hx=>?_⟩
   ·cases x<;>simp at hx
   ·cases es<;>simp at hx
 |succ n ih =>
   obtain⟨i1,i2⟩:=ih;refine⟨fun x hx v U O=>?_,fun xs hx l U O=>?_⟩
   ·cases x with
   |p x=>grind [Xb,Qf]
   |tsl S es t =>
     simp only[Kw] at U;obtain⟨k,J⟩:=TZ.1 U;simp only[Xb,Qf] at O ⊢;obtain⟨h1,ty,m,Y,h3⟩:=O;obtain⟨k0,G,Z⟩:=hh t k J;rw[Y] at G;cases G
     have aa:k=.arr ty S m:=by
      cases k with
     |arr _ _ _=>assumption
     |_=>simp[leB,KR] at Z
     grind
   |ptr b off =>
     simp only[Kw] at U;obtain⟨k,J⟩:=TZ.1 U;simp only[Xb,Qf] at O ⊢;obtain⟨h1,ty,cs,Y⟩:=O;obtain⟨k0,G,Z⟩:=hh b k J;rw[Y] at G;cases G;cases k with
    |box ab cs'=>grind
    |_=>simp[leB,KR] at Z
   |bsl b n =>
     simp only[Kw] at U;obtain⟨k,J⟩:=TZ.1 U;simp only[Xb,Qf] at O ⊢;obtain⟨h1,ty,cs,Y⟩:=O;obtain⟨k0,G,Z⟩:=hh b k J;rw[Y] at G;cases G;cases k with
    |box ab cs'=>grind
    |_=>simp[leB,KR] at Z
   |sfp b =>
     simp only[Kw] at U;obtain⟨k,J⟩:=TZ.1 U;simp only[Xb,Qf] at O ⊢;obtain⟨h1,ty,cs,Y⟩:=O;obtain⟨k0,G,Z⟩:=hh b k J;rw[Y] at G;cases G;cases k with
    |box ab cs'=>grind
    |_=>simp[leB,KR] at Z
   |vnil=>assumption
   |vsl S t n =>
     simp only[Kw] at U;obtain⟨k,J⟩:=TZ.1 U;simp only[Xb,Qf] at O ⊢;obtain⟨h1,ty,m,Y,h3⟩:=O;obtain⟨k0,G,Z⟩:=hh t k J;rw[Y] at G;cases G
     have aa:k=.vec ty S m:=by
      cases k with
     |vec _ _ _=>assumption
     |_=>simp[leB,KR] at Z
     grind
   |vtl S t n ae m0 =>
     simp only[Kw] at U;obtain⟨k,J⟩:=TZ.1 U;simp only[Xb,Qf] at O ⊢;obtain⟨h1,ty,m,Y,h3⟩:=O;obtain⟨k0,G,Z⟩:=hh t k J;rw[Y] at G;cases G
     have aa:k=.vec ty S m:=by
      cases k with
     |vec _ _ _=>assumption
     |_=>simp[leB,KR] at Z
     grind
   |vptr t n k f =>
     simp only[Kw] at U;obtain⟨k,J⟩:=TZ.1 U;simp only[Xb,Qf] at O ⊢;obtain⟨h1,ty,S,m,Y,h3⟩:=O;obtain⟨k0,G,Z⟩:=hh t k J;rw[Y] at G;cases G
     have aa:k=.vec ty S m:=by
      cases k with
     |vec _ _ _=>assumption
     |_=>simp[leB,KR] at Z
     grind
   |yv b =>
     simp only[Kw] at U;obtain⟨k,J⟩:=TZ.1 U;simp only[Xb,Qf] at O ⊢;obtain⟨h1,k1,T,nf,Y,h3⟩:=O;obtain⟨k0,G,Z⟩:=hh b k J;rw[Y] at G;cases G;have e3:=Ga Z h3;rw[UM] at e3;refine⟨zc,k,?_⟩;cases k with
    |lp T' ac st pd=>exact⟨T',ac,J,rfl⟩
    |_=>simp[Blk.ob,dS] at e3
   |mv b =>
     simp only[Kw] at U;obtain⟨k,J⟩:=TZ.1 U;simp only[Xb,Qf] at O ⊢;obtain⟨h1,k1,Y,h3⟩:=O;obtain⟨k0,G,Z⟩:=hh b k J;rw[Y] at G;cases G;have e3:=Ga Z h3;rw[UM] at e3;refine⟨zc,k,?_⟩;cases k with
    |mp es=>exact⟨J,rfl⟩
    |mf es=>exact⟨J,rfl⟩
    |mg en cl es=>exact⟨J,rfl⟩
    |it m cl sn=>exact⟨J,rfl⟩
    |_=>simp[Blk.ob,dS] at e3
   |iv b =>
     simp only[Kw] at U;obtain⟨k,J⟩:=TZ.1 U;simp only[Xb,Qf] at O ⊢;obtain⟨h1,k1,Y,h3⟩:=O;obtain⟨k0,G,Z⟩:=hh b k J;rw[Y] at G;cases G;have e3:=Ga Z h3;rw[UM] at e3;refine⟨zc,k,?_⟩;cases k with
    |mp es=>exact⟨J,rfl⟩
    |mf es=>exact⟨J,rfl⟩
    |mg en cl es=>exact⟨J,rfl⟩
    |it m cl sn=>exact⟨J,rfl⟩
    |_=>simp[Blk.ob,dS] at e3
   |eptr cs =>
     grind [Xb,Qf]
   |agg cs =>
     grind [Xb,Qf,Kw]
   |tup cs =>
     grind [Xb,Qf,Kw]
   |fn f a b =>
     grind [Xb,Qf,Kw]
   |ifc t x =>
     grind [Xb,Qf,Kw]
   ·cases xs with
   |nil=>assumption
   |cons x xs =>
     grind [Jn,Ql,K5]
 exact⟨fun x v=>(key<|SizeOf.sizeOf x).1 x (KD _) v,fun xs l=>(key<|SizeOf.sizeOf xs).2 xs (KD _) l⟩
theorem mi(aa:∀c,hc c≠none→φ (ρ c)=φc c)(hM:∀r o v,w.cell? ⟨r,o,none⟩=some v→M r o→Mc r o)(hh:∀c k,hc c=some k→h (ρ c)=some (KR ρ k)) :
  (∀(x:AV) (v:Value),Qf φc hc w Mc x v→Qf φ h w M (Xb ρ x) v)∧(∀(xs:List AV) (l:List Value),Ql φc hc w Mc xs l→Ql φ h w M (Jn ρ xs) l):=by
 obtain⟨Z,ke,kc⟩:=Kb (w:=w) (w':=w) (M:=Mc) (M':=M) fun r o v O J=>⟨O,fun U=>J<|hM r o v O U⟩
 have key:∀n:Nat,(∀(x:AV),SizeOf.sizeOf x≤n→∀v,Qf φc hc w Mc x v→Qf φ h w M (Xb ρ x) v)∧(∀(xs:List AV),SizeOf.sizeOf xs≤n→∀l,Ql φc hc w Mc xs l→Ql φ h w M (Jn ρ xs) l):=by
  intro n
  induction n with
 |zero =>
   refine⟨fun x Y=>?_,fun es Y=>?_⟩
   ·cases x<;>simp at Y
   ·cases es<;>simp at Y
 |succ n ih =>
   obtain⟨i1,i2⟩:=ih;refine⟨fun x Y v G=>?_,fun xs Y l G=>?_⟩
   ·cases x with
   |p x=>grind [Xb,Qf]
   |tsl S es t =>
     simp only[Xb,Qf] at G ⊢;obtain⟨O,ty,m,J,U⟩:=G;refine⟨Z _ _ O,ty,m,by rw[hh t _ J];rfl,?_⟩
     grind
   |ptr b off =>
     simp only[Xb,Qf] at G ⊢;obtain⟨O,ty,cs,J⟩:=G;exact⟨zc,ty,Jn ρ cs,by rw[hh b _ J];rfl⟩
   |bsl b n =>
     simp only[Xb,Qf] at G ⊢;obtain⟨O,ty,cs,J⟩:=G;exact⟨zc,ty,Jn ρ cs,by rw[hh b _ J];rfl⟩
   |sfp b =>
     simp only[Xb,Qf] at G ⊢;obtain⟨O,ty,cs,J⟩:=G;exact⟨zc,ty,Jn ρ cs,by rw[hh b _ J];rfl⟩
   |vnil=>assumption
   |vsl S t n =>
     simp only[Xb,Qf] at G ⊢;obtain⟨O,ty,m,J,U⟩:=G;refine⟨O,ty,m,by rw[hh t _ J];rfl,?_⟩
     grind
   |vtl S t n k m0 =>
     simp only[Xb,Qf] at G ⊢;obtain⟨O,ty,m,J,U⟩:=G;refine⟨O,ty,m,by rw[hh t _ J];rfl,?_⟩
     grind
   |vptr t n k f =>
     simp only[Xb,Qf] at G ⊢;obtain⟨O,ty,S,m,J,U⟩:=G;refine⟨O,ty,S,m,by rw[hh t _ J];rfl,?_⟩
     grind
   |yv b =>
     simp only[Xb,Qf] at G ⊢;obtain⟨O,k,T,nf,J,U⟩:=G;exact⟨zc,KR ρ k,_,nf,hh b _ J,by rw[UM,U];rfl⟩
   |mv b =>
     simp only[Xb,Qf] at G ⊢;obtain⟨O,k,J,U⟩:=G;exact⟨zc,KR ρ k,hh b _ J,by rw[UM,U];rfl⟩
   |iv b =>
     simp only[Xb,Qf] at G ⊢;obtain⟨O,k,J,U⟩:=G;exact⟨zc,KR ρ k,hh b _ J,by rw[UM,U];rfl⟩
   |eptr cs =>
     grind [Xb,Qf]
   |agg cs =>
     grind [Xb,Qf]
   |tup cs =>
     grind [Xb,Qf]
   |fn f a b =>
     grind [Xb,Qf]
   |ifc t x =>
     grind [Xb,Qf]
   ·cases xs with
   |nil=>assumption
   |cons x xs =>
     grind [Jn,Ql]
 exact⟨fun x v=>(key<|SizeOf.sizeOf x).1 x (KD _) v,fun xs l=>(key<|SizeOf.sizeOf xs).2 xs (KD _) l⟩
theorem Qfn(G:∀c,hc c≠none→φ (ρ c)=φc c)(J:∀r o,M r o→Mc r o)(hh:∀c k,hc c=some k→h (ρ c)=some (KR ρ k)) :
  (∀(x:AV) (v:Value),Qf φc hc w Mc x v→Qf φ h w M (Xb ρ x) v)∧(∀(xs:List AV) (l:List Value),Ql φc hc w Mc xs l→Ql φ h w M (Jn ρ xs) l) :=
 mi G (fun r o _ _=>J r o) hh
end
def KM(ρ:Nat→Nat)(hc':List (Nat×Blk))(H:List (Nat×Blk)):List (Nat×Blk):=hc'.map (fun p=>(ρ p.1,KR ρ p.2))++H
def Rq(ρ:Nat→Nat)(hc hc' H:List (Nat×Blk)):Prop :=(∀c∈hc.map (·.1),c∈hc'.map (·.1))∧(∀c∈hc'.map (·.1),c∈hc.map (·.1)∨look H (ρ c)=none)∧(∀c∈hc'.map (·.1),∀d∈hc'.map (·.1),ρ c=ρ d→c=d)
theorem Ij{φ φ':Nat→Nat}{h h':QY}{w:World}{M M':ZR}(Z:∀r o v,w.cell? ⟨r,o,none⟩=some v→M' r o→M r o):∀(l:List PV) (G:List Value),Ql φ h w M (l.map .p) G→Ql φ' h' w M' (l.map .p) G
|[],G,U=>by assumption
|x::l,G,U=>by
  simp only[JR,Ql,Qf] at U ⊢;obtain⟨y,ys,J,Y,O⟩:=U;exact⟨y,ys,J,(Kb (w:=w) (w':=w) (M:=M) (M':=M') fun r o v J Y=>⟨J,fun O=>Y<|Z r o v J O⟩).1 x y Y,Ij Z l ys O⟩
theorem EX(J:∀r o,M' r o→M r o)(l:List PV)(G:List Value):Ql φ h w M (l.map .p) G→Ql φ' h' w M' (l.map .p) G :=
 Ij (fun r o _ _=>J r o) l G
theorem Mo{α:Type}:∀(a b:List (Nat×α)) (t:Nat),look (a++b) t=match look a t with|some v=>some v|none=>look b t
|[],b,t=>rfl
|(k,v)::a,b,t=>by
  simp only[List.cons_append,look];by_cases e:k=t
  ·simp[e]
  ·simp only[e,if_false];exact Mo a b t
theorem YY{α:Type}:∀{a:List (Nat×α)} {t:Nat},look a t≠none↔t∈a.map (·.1)
|[],t=>by simp[look]
|(k,v)::a,t=>by
  simp only[look,JR,List.mem_cons];by_cases e:k=t
  ·simp[e]
  ·simp only[e,if_false,YY]
   grind
theorem zL{ρ:Nat→Nat}:∀{hc:List (Nat×Blk)} {t:Nat},(∀c d,c∈hc.map (·.1)→d∈t::hc.map (·.1)→ρ c=ρ d→c=d)→look (hc.map fun p=>(ρ p.1,KR ρ p.2)) (ρ t)=(look hc t).map (KR ρ)
|[],t,_=>rfl
|(k,v)::hc,t,hi=>by
  simp only[JR,look];by_cases e:k=t
  ·simp[e]
  ·have:¬ρ k=ρ t:=fun h=>e (hi k t zq zq h)
   simp only[e,this,if_false];refine zL (fun c d hc G h=>hi c d zc ?_ h)
   grind
theorem Pi{ρ:Nat→Nat}:∀{hc:List (Nat×Blk)} {b:Nat},(∀c,c∈hc.map (·.1)→ρ c≠b)→look (hc.map fun p=>(ρ p.1,KR ρ p.2)) b=none
|[],b,_=>rfl
|(k,v)::hc,b,hi=>by
  simp only[JR,look];have:¬ρ k=b:=hi k zq;simp only[this,if_false];exact Pi (fun c hc=>hi c<|zc)
theorem LA:∀(l:List Nat) (x:Nat),x∈l→x≤l.foldr max 0
|a::l,x,h=>by
  simp only[List.foldr_cons];rcases List.mem_cons.1 h with e|e
  ·omega
  ·exact Nat.le_trans (LA l x e)<|Nat.le_max_right _ _
theorem PS{C:(Nat→Nat)→Array Value→World→(Ending→World→Prop)→Prop}(bd:∀φ vs w R R',C φ vs w R→(∀e w',R e w'→R' e w')→C φ vs w R')(ρ:Nat→Nat)(hcall:∀φ M0 w vs,ZX φ (look hc) w M0→Ql φ (look hc) w (MM φ (look hc) M0) args' vs→C φ vs.toArray w fun e w'=>∃φ' r h',R r h'∧ZX φ' h' w' M0∧Zi φ (look hc) w φ' h' w'∧Qb5 φ' h' w' (MM φ' h' M0) r e)(bf:EO args (Jn ρ args'))(hok:K5 (look hc) args'=true)(an:∀c∈hc.map (·.1),1000≤c)(ak:∀c k,look hc c=some k→okRefB (look hc) k=true)(hsub:∀c k,look hc c=some k→∃k0,look s.H (ρ c)=some k0∧leB k0 (KR ρ k))(bi:∀c∈hc.map (·.1),∀d∈hc.map (·.1),ρ c=ρ d→c=d)(hd:∀t,dst=some t→t<N)(bl:∀r h',R r h'→∃hc' H2,h'=look hc'∧Rq ρ hc hc' s.H∧(∀b,look H2 b=look (KM ρ hc' s.H) b) ∧
   (match r with|.ret x=>K (St.put ⟨s.T,H2⟩ dst<|Xb ρ x)|.panic x=>Q (.panic<|Xb ρ x) ⟨s.T,H2⟩)) :
  ∀φ M0 D a w vs,Zy φ M0 N D (look s.T) (look s.H) a w→Ql φ (look s.H) w (MM φ (look s.H) M0) args vs→C (fun c=>φ<|ρ c) vs.toArray w fun e w' =>
   match e with
  |.returned v=>∃φ' s',K s'∧Zy φ' M0 N D (look s'.T) (look s'.H) (a.put dst v) w'∧Zi φ (look s.H) w φ' (look s'.H) w'
  |.panicked chain=>Post N D Q φ M0 (look s.H) w (.panic chain) a w'
  |.outgrown=>False:=by
 intro φ M0 D a w vs r ha
 let hr:QY:=fun b=>if b∈(hc.map (·.1)).map ρ then none else look s.H b
 let φc:Nat→Nat:=fun c=>φ<|ρ c
 have bp:∀b k,hr b=some k→look s.H b=some k∧b∉(hc.map (·.1)).map ρ:=by
  grind
 have aw:∀x o,Bv φ hr x o→Bv φ (look s.H) x o:=by
  rintro x o ⟨b,k,h1,G,h3⟩;exact⟨b,k,(bp b k h1).1,G,h3⟩
 have af:∀c,look hc c≠none→c∈hc.map (·.1):=fun c h=>YY.1 h
 have al:∀x o,Bv φc (look hc) x o→Bv φ (look s.H) x o:=by
  rintro x o ⟨c,k,h1,G,h3⟩;obtain⟨k0,h4,h5⟩:=hsub c k h1;refine⟨ρ c,k0,h4,G,?_⟩;cases k0 with
 |arr ty S n =>
   cases k with
  |arr b9 S' n'=>simp only[leB,KR,Blk.arr.injEq] at h5;grind
  |_=>simp[leB,KR] at h5
 |_=>trivial
 have be:∀x o,MM φc (look hc) (MB φ hr w M0) x o→MM φ (look s.H) M0 x o:=by
  rintro x o (h1|⟨h1|h1,_⟩)
  ·exact .inl<|al x o h1
  ·exact .inl<|aw x o h1
  ·exact .inr h1
 obtain⟨b5,au⟩:=QiO (w:=w) (ρ:=ρ) (φ:=φ) (φc:=φc) (h:=look s.H) (hc:=look hc) (fun _ _=>rfl) be hsub
 have bz:ZX φc (look hc) w (MB φ hr w M0):=by
  refine⟨fun c d ad ae he=>?_,fun c k hk=>?_,fun c ad o U=>?_,fun x o U=>?_,r.hp.gm.sub be⟩
  ·obtain⟨kc,av⟩:=OV.1 ad;obtain⟨kd,aj⟩:=OV.1 ae;obtain⟨k0,e0,_⟩:=hsub c kc av;obtain⟨k1,e1,_⟩:=hsub d kd aj;exact bi c (af c ad) d (af d ae) (r.hp.inj (ρ c) (ρ d) zc zc he)
  ·obtain⟨k0,h1,G⟩:=hsub c k hk;have h3:=r.hp.blk (ρ c) k0 h1;cases k with
  |box ty cs =>
    cases k0 with
   |box gp cm =>
     simp only[leB,KR,Blk.box.injEq] at G;obtain⟨cs',⟨e1,e2⟩,h5⟩:=G;obtain⟨c0,h6,h7⟩:=h3;refine⟨c0,zc,au _ _ (ak c _ hk) ?_⟩;rw[e2];exact Uk.2 _ _ _ h5 h7
   |_=>simp[leB,KR] at G
  |arr ty S n =>
    cases k0 with
   |arr gp S0 n0=>simp only[leB,KR,Blk.arr.injEq] at G;obtain⟨rfl,rfl,rfl⟩:=G;exact h3
   |_=>simp[leB,KR] at G
  |vec ty S es =>
    cases k0 with
   |vec gp S0 n0 =>
     simp only[leB,KR,Blk.vec.injEq] at G;obtain⟨rfl,rfl,rfl⟩:=G;obtain⟨c0,cap,g1,g2,g3,g4,g5,g6,g7⟩:=h3;exact⟨c0,cap,g1,g2,g3,g4,g5,g6,EX be _ _ g7⟩
   |_=>simp[leB,KR] at G
  |lp T nf st pd =>
    cases k0 with
   |lp T0 cd cg ca =>
     simp only[leB,KR,Blk.lp.injEq] at G;obtain⟨rfl,rfl,rfl,rfl⟩:=G;obtain⟨tmps,d,g1,g2,g3⟩:=h3;refine⟨tmps,d,g1,g2,fun t x ht=>?_⟩;have g4:=g3 t (Xb ρ x) (by rw[NG,ht];rfl);exact⟨g4.1,b5 _ _ (FI (ak c _ hk) ht) g4.2⟩
   |_=>simp[leB,KR] at G
  |mp es =>
    cases k0 with
   |mp bm =>
     simp only[leB,KR,Blk.mp.injEq] at G;subst G;obtain⟨en,cl,g1,g2,g3⟩:=h3;refine⟨en,cl,g1,g2,au _ _ (Df _ _) ?_⟩
     grind [xB]
   |_=>simp[leB,KR] at G
  |mf es =>
    cases k0 with
   |mf bm =>
     simp only[leB,KR,Blk.mf.injEq] at G;subst G;obtain⟨en,cl,g1,g2,g3,g4⟩:=h3;rw[Tq] at g2;rw[Tp] at g3;exact⟨en,cl,g1,g2,au _ _ (J6<|ak c _ hk) g3,g4⟩
   |_=>simp[leB,KR] at G
  |mg en cl es =>
    cases k0 with
   |mg cc b6 bm =>
     simp only[leB,KR,Blk.mg.injEq] at G;obtain⟨rfl,rfl,rfl⟩:=G;obtain⟨g1,g2,g3,g4⟩:=h3;rw[Tq] at g2;rw[Tp] at g3;exact⟨g1,g2,au _ _ (J6<|ak c _ hk) g3,g4⟩
   |_=>simp[leB,KR] at G
  |it m cl sn =>
    cases k0 with
   |it m0 b6 ch =>
     simp only[leB,KR,Blk.it.injEq] at G;obtain⟨e1,rfl,rfl⟩:=G;obtain⟨g1,k1,g2,g3⟩:=h3;obtain⟨km,bj⟩:=TZ.1<|ak c _ hk;obtain⟨k2,g4,g5⟩:=hsub m km bj;rw[←e1] at g1 g2;rw[g2] at g4;cases g4;exact⟨g1,km,bj,QiN<|Ga g5 g3⟩
   |_=>simp[leB,KR] at G
  ·obtain⟨kc,av⟩:=OV.1 ad;obtain⟨k0,e0,_⟩:=hsub c kc av;rcases U with⟨⟨b,k,h1,G,_⟩|U,_⟩
   ·obtain⟨h4,h5⟩:=bp b k h1;have:=r.hp.inj b (ρ c) zc zc G
    grind
   ·exact r.hp.fr (ρ c) zc o U
  ·exact U.2
 refine bd _ _ _ _ _ (hcall φc (MB φ hr w M0) w vs bz<|au _ _ hok<|Uk.2 _ _ _ bf ha) ?_;rintro e w' ⟨Z,bq,h',hR,ao,E,hE⟩;obtain⟨hc',H2,rfl,⟨hd1,hd2,bt⟩,b8,ba⟩:=bl bq h' hR;have a7:look H2=look (KM ρ hc' s.H):=funext b8
 have az:∀b k,look s.H b=some k→b∉(hc.map (·.1)).map ρ→b∉(hc'.map (·.1)).map ρ:=by
  grind
 have bh:∀b,b∉(hc'.map (·.1)).map ρ→b∉(hc.map (·.1)).map ρ:=by
  grind
 obtain⟨KK,cf⟩:∃KK,KK=w'.heap.size+((hc'.map (·.1)).map Z).foldr max 0+1:=⟨_,rfl⟩;have ab:∀b,φ b<w.heap.size→Ym φ w.heap.size KK b=φ b:=fun b hb=>by simp[Ym,hb]
 have bb:∀b,¬φ b<w.heap.size→Ym φ w.heap.size KK b=φ b+KK:=fun b hb=>by simp[Ym,hb]
 have bk:∀b c,c∈hc'.map (·.1)→¬φ b<w.heap.size→Z c<Ym φ w.heap.size KK b:=by
  intro b c O hb;have:=LA ((hc'.map (·.1)).map Z) (Z c)<|List.mem_map_of_mem O
  grind
 have a6:∀b d,Ym φ w.heap.size KK b=Ym φ w.heap.size KK d→φ b=φ d:=by
  grind
 have hex:∃φ':Nat→Nat,(∀c,c∈hc'.map (·.1)→φ' (ρ c)=Z c)∧(∀b,b∉(hc'.map (·.1)).map ρ→φ' b=Ym φ w.heap.size KK b):=by
  refine⟨fun b=>match (hc'.map (·.1)).find? (fun c=>ρ c==b) with|some c=>Z c|none=>Ym φ w.heap.size KK b,fun c ad=>?_,fun b hb=>?_⟩
  ·grind
  grind
 obtain⟨φ',aa,J⟩:=hex;have am:∀c k,look hc' c=some k→c∈hc'.map (·.1):=fun c k hk=>YY.1 zc
 have Y:∀c k,look hc' c=some k→look (KM ρ hc' s.H) (ρ c)=some (KR ρ k):=by
  intro c k hk;unfold KM;rw[Mo,zL (fun x y hx hy bv=>bt x hx y zc bv),hk];rfl
 have ar:∀b,b∉(hc'.map (·.1)).map ρ→look (KM ρ hc' s.H) b=look s.H b:=by
  intro b hb;unfold KM;rw[Mo,Pi fun c ad e=>hb<|zc]
 have ah:∀b k,look (KM ρ hc' s.H) b=some k→(∃c k',look hc' c=some k'∧ρ c=b∧k=KR ρ k')∨(b∉(hc'.map (·.1)).map ρ∧look s.H b=some k):=by
  intro b k hb;by_cases U:b∈(hc'.map (·.1)).map ρ
  ·obtain⟨c,O,rfl⟩:=List.mem_map.1 U;obtain⟨k',cj⟩:=OV.1 (YY.2 O)
   grind
  grind
 have ax:∀x o,Bv φ' (look<|KM ρ hc' s.H) x o→Bv Z (look hc') x o∨(Bv φ hr x o∧x<w.heap.size)∨w'.heap.size≤x:=by
  rintro x o ⟨b,k,h1,G,h3⟩;rcases ah b k h1 with⟨c,k',g1,rfl,rfl⟩|⟨g1,g2⟩
  ·left;refine⟨c,k',g1,?_,?_⟩
   ·grind
   ·cases k'<;>exact h3
  ·right;rw[J b g1] at G;by_cases hlt:φ b<w.heap.size
   ·rw[ab b hlt] at G;exact .inl ⟨⟨b,k,zc,G,h3⟩,by omega⟩
   grind
 have bn:∀x o v,w'.cell? ⟨x,o,none⟩=some v→MM φ' (look<|KM ρ hc' s.H) M0 x o→MM Z (look hc') (MB φ hr w M0) x o:=by
  rintro x o v bg (h1|h1)
  ·rcases ax x o h1 with G|G|G
   ·exact .inl G
   ·exact .inr ⟨.inl G.1,G.2⟩
   ·have:=Nq bg;omega
  ·exact .inr ⟨.inr h1,r.hp.lt x o h1⟩
 obtain⟨aq,a8⟩:=mi (w:=w') (ρ:=ρ) (φ:=φ') (φc:=Z) (h:=look (KM ρ hc' s.H)) (hc:=look hc') (fun c ad=>aa c (YY.1 ad)) bn Y
 have b4:Zi φ (look s.H) w φ' (look (KM ρ hc' s.H)) w'∧VF φ (look s.H) w φ' (look (KM ρ hc' s.H)) w':=by
  have hb:∀b ty cs,look s.H b=some (.box ty cs)→(∃cs',look (KM ρ hc' s.H) b=some (.box ty cs'))∧φ' b=φ b:=by
   intro b ty cs hb;by_cases U:b∈(hc.map (·.1)).map ρ
   ·obtain⟨c,O,rfl⟩:=List.mem_map.1 U;obtain⟨k,hk⟩:=OV.1 (YY.2 O);obtain⟨k0,e0,e1⟩:=hsub c k hk;rw[hb] at e0;cases e0;cases k with
   |box Ed br =>
     simp only[leB,KR,Blk.box.injEq] at e1;obtain⟨ce,⟨e2,_⟩,_⟩:=e1;obtain⟨⟨b3,e3⟩,e4⟩:=E.kb c Ed br (an c O) hk;refine⟨⟨Jn ρ b3,by rw[Y c _ e3,e2];rfl⟩,zc⟩
   |_=>simp[leB,KR] at e1
   ·have ai:=az b _ hb U;exact⟨⟨cs,zc⟩,(J b ai).trans<|Rh r.hp KK hb fun _ _ e=>by cases e⟩
  have ht:∀t ty S n,look s.H t=some (.arr ty S n)→∃n',look (KM ρ hc' s.H) t=some (.arr ty S n')∧n≤n' ∧
    (n'=n→AKept w w' (φ t) (φ' t) ty):=by
   intro t ty S n ac;by_cases U:t∈(hc.map (·.1)).map ρ
   ·obtain⟨c,O,rfl⟩:=List.mem_map.1 U;obtain⟨k,hk⟩:=OV.1<|YY.2 O;obtain⟨k0,e0,e1⟩:=hsub c k hk;rw[ac] at e0;cases e0;cases k with
   |arr Ed S1 n1 =>
     simp only[leB,KR,Blk.arr.injEq] at e1;obtain⟨rfl,rfl,rfl⟩:=e1;obtain⟨n',e3,e4,e5⟩:=E.kt c Ed S1 n1 (an c O) hk;refine⟨n',by rw[Y c _ e3];rfl,e4,fun e6=>?_⟩
     grind
   |_=>simp[leB,KR] at e1
   ·have ai:=az t _ ac U;refine⟨n,zc,KD _,fun _=>?_⟩;by_cases hlt:φ t<w.heap.size;rotate_left
    ·exact PN (Xt zo) (by rw[J t ai,bb t hlt];exact Xt zo)
    refine Ve ((J t ai).trans<|ab t hlt)<|E.same (φ t) hlt fun d ae he=>?_
    ·obtain⟨kd,aj⟩:=OV.1 ae;obtain⟨k0,e0,_⟩:=hsub d kd aj;have:=r.hp.inj (ρ d) t zc zc he;exact U (by rw[←this];exact List.mem_map_of_mem<|af d ae)
  have hv:∀t ty S n,look s.H t=some (.vec ty S n)→∃n',look (KM ρ hc' s.H) t=some (.vec ty S n')∧n.length≤n'.length ∧
    (n'.length=n.length→φ' t=φ t∧∀c,w.heap[φ t]?=some (.cells c ty (0,0))→∃c',w'.heap[φ t]?=some (.cells c' ty (0,0))∧c'.size=c.size):=by
   intro t ty S n ac;by_cases U:t∈(hc.map (·.1)).map ρ
   ·obtain⟨c,O,rfl⟩:=List.mem_map.1 U;obtain⟨k,hk⟩:=OV.1<|YY.2 O;obtain⟨k0,e0,e1⟩:=hsub c k hk;rw[ac] at e0;cases e0;cases k with
   |vec Ed S1 n1 =>
     simp only[leB,KR,Blk.vec.injEq] at e1;obtain⟨rfl,rfl,rfl⟩:=e1;obtain⟨n',e3,e4,e5⟩:=E.kv c Ed S1 n1 (an c O) hk;refine⟨n',by rw[Y c _ e3];rfl,e4,fun e6=>?_⟩;obtain⟨e7,e8⟩:=e5 e6;exact⟨by rw[aa c<|hd1 c O,e7],e8⟩
   |_=>simp[leB,KR] at e1
   ·have ai:=az t _ ac U;refine⟨n,by rw[ar t ai];exact ac,KD _,fun _=>⟨(J t ai).trans<|ab t<|gQ r.hp ac,fun c ad=>⟨c,?_,rfl⟩⟩⟩;rw[E.same (φ t) (gQ r.hp ac) fun d ae he=>?_]
    ·exact ad
    ·obtain⟨kd,aj⟩:=OV.1 ae;obtain⟨k0,e0,_⟩:=hsub d kd aj;have:=r.hp.inj (ρ d) t zc zc he;exact U (by rw[←this];exact List.mem_map_of_mem<|af d ae)
  have bo:∀b k x,look s.H b=some k→k.ob=some x→(∃k',look (KM ρ hc' s.H) b=some k'∧k'.ob=some x)∧φ' b=φ b:=by
   intro b k x hb ho;by_cases U:b∈(hc.map (·.1)).map ρ
   ·obtain⟨c,O,rfl⟩:=List.mem_map.1 U;obtain⟨k2,hk⟩:=OV.1<|YY.2 O;obtain⟨k0,e0,e1⟩:=hsub c k2 hk;rw[hb] at e0;cases e0;have e2:=Ga e1 ho;rw[UM] at e2;cases ho2:k2.ob with
   |none=>rw[ho2] at e2;cases e2
   |some x2 =>
     rw[ho2] at e2;obtain⟨⟨k',e3,e4⟩,e5⟩:=E.ko c k2 x2 (an c O) hk ho2;exact⟨⟨KR ρ k',Y c _ e3,by rw[UM,e4];exact e2⟩,by rw[aa c<|hd1 c O,e5]⟩
   ·have ai:=az b _ hb U;exact⟨⟨k,by rw[ar b ai];exact hb,ho⟩,(J b ai).trans<|Rh r.hp KK hb (fun ty S e=>by rw[e] at ho;cases ho)⟩
  refine⟨⟨E.os,E.tape,E.output,E.size,fun x hx bw=>E.same x hx fun c ad he=>?_,fun x o hx U=>E.cell x o hx fun h1=>U<|al x o h1,fun x o hx U=>?_,fun b ty cs _ ay=>hb b ty cs ay,fun t ty S n _ ac=>ht t ty S n ac,fun t ty S n _ ac=>hv t ty S n ac,fun b k x _=>bo b k x⟩,
   fun b ty cs ay=>⟨(hb b ty cs ay).1.elim fun cs' h=>⟨ty,cs',h⟩,(hb b ty cs ay).2⟩,ht,hv,bo⟩
  ·obtain⟨kc,av⟩:=OV.1 ad;obtain⟨k0,e0,_⟩:=hsub c kc av;exact bw (ρ c) (by rw[e0];simp) he
  ·rcases ax x o U with h1|h1|h1
   ·exact al x o<|E.mu x o hx h1
   ·exact aw x o h1.1
   ·have:=E.size;omega
 obtain⟨E1,X1⟩:=b4
 have bu:ZX φ' (look<|KM ρ hc' s.H) w' M0:=by
  refine⟨fun b d hb b7 he=>?_,fun b k hb=>?_,fun b hb o U=>?_,fun x o U=>Nat.lt_of_lt_of_le (r.hp.lt x o U) E.size,r.hp.gm.evol E1⟩
  ·obtain⟨kb,bc⟩:=OV.1 hb;obtain⟨kd,aj⟩:=OV.1 b7
   have mixed:∀c k' b k,look hc' c=some k'→b∉(hc'.map (·.1)).map ρ→look s.H b=some k→Z c≠Ym φ w.heap.size KK b:=by
    intro c k' b k g1 g2 g3 g4;by_cases hlt:φ b<w.heap.size;rotate_left
    ·have:=bk b c (am _ _ g1) hlt;omega
    rw[ab b hlt] at g4;have bx:hr b=some k:=by grind
    obtain⟨o,ho⟩:=EA (φ:=φ) bx;exact ao.fr c zc o (by rw[g4];exact⟨.inl ho,hlt⟩)
   rcases ah b kb bc with⟨c,k',g1,rfl,_⟩|⟨g1,g2⟩<;>rcases ah d kd aj with⟨c2,k2,g3,rfl,_⟩|⟨g3,g4⟩
   ·rw[aa c (am _ _ g1),aa c2 (am _ _ g3)] at he;rw[ao.inj c c2 zc zc he]
   ·rw[aa c (am _ _ g1),J d g3] at he;exact absurd he (mixed c k' d kd g1 g3 g4)
   ·rw[aa c2 (am _ _ g3),J b g1] at he;exact absurd he.symm (mixed c2 k2 b kb g3 g1 g2)
   ·rw[J b g1,J d g3] at he;exact r.hp.inj b d zc zc (a6 b d he)
  ·rcases ah b k hb with⟨c,k',g1,rfl,rfl⟩|⟨g1,g2⟩
   ·rw[aa c (am _ _ g1)];have:=ao.blk c k' g1;cases k' with
   |box ty cs=>obtain⟨c0,h1,G⟩:=this;exact⟨c0,h1,a8 _ _ G⟩
   |arr ty S n=>exact this
   |vec ty S es=>obtain⟨c0,cap,q1,q2,q3,q4,q5,q6,q7⟩:=this;exact⟨c0,cap,q1,q2,q3,q4,q5,q6,Ij bn _ _ q7⟩
   |lp T nf st pd =>
     obtain⟨tmps,d,q1,q2,q3⟩:=this;refine⟨tmps,d,q1,q2,fun t x ht=>?_⟩;rw[NG] at ht;cases hl:look T t with
    |none=>rw[hl] at ht;cases ht
    |some y =>
      rw[hl] at ht;cases ht;exact⟨(q3 t y hl).1,aq _ _ (q3 t y hl).2⟩
   |mp es =>
     obtain⟨en,cl,q1,q2,q3⟩:=this;refine⟨en,cl,q1,q2,?_⟩;have:=a8 _ _ q3;rw[xB] at this;exact this
   |mf es =>
     obtain⟨en,cl,q1,q2,q3,q4⟩:=this;exact⟨en,cl,q1,by rw[Tq];exact q2,by rw[Tp];grind,q4⟩
   |mg en cl es =>
     obtain⟨q1,q2,q3,q4⟩:=this;exact⟨q1,by rw[Tq];exact q2,by rw[Tp];grind,q4⟩
   |it m cl sn =>
     obtain⟨q1,k2,q2,q3⟩:=this;exact⟨zc,KR ρ k2,Y m _ q2,by rw[UM,q3];rfl⟩
   ·rw[J b g1];by_cases hlt:φ b<w.heap.size;rotate_left
    ·refine Ke (E1.keeps M0) X1 ?_<|r.hp.blk b k g2;rw[Xt (by omega:w.heap.size≤φ b),Xt<|zc]
    rw[ab b hlt];refine Ke (E1.keeps M0) X1 (E.same (φ b) hlt fun d ae he=>?_)<|r.hp.blk b k g2;obtain⟨kd,aj⟩:=OV.1 ae;obtain⟨k0,e0,_⟩:=hsub d kd aj;have:=r.hp.inj (ρ d) b zc zc he;exact bh b g1 (by rw[←this];exact List.mem_map_of_mem<|af d ae)
  ·obtain⟨kb,bc⟩:=OV.1 hb;rcases ah b kb bc with⟨c,k',g1,rfl,_⟩|⟨g1,g2⟩
   ·rw[aa c (am _ _ g1)] at U;exact ao.fr c zc o ⟨.inr U,r.hp.lt _ _ U⟩
   ·rw[J b g1] at U;by_cases hlt:φ b<w.heap.size
    ·rw[ab b hlt] at U;exact r.hp.fr b zc o U
    ·have:=r.hp.lt _ _ U
     grind
 have r1:Zy φ' M0 N D (look s.T) (look H2) a w':=by rw[a7];exact r.keep E1 X1 bu
 rw[←a7] at E1 aq;cases bq with
|ret x =>
  obtain⟨v,rfl,hv⟩:=hE;refine⟨φ',_,ba,Zy.put (s:=⟨s.T,H2⟩) r1 hd<|aq _ _ hv,?_⟩;cases dst<;>exact E1
|panic x =>
  obtain⟨v,rfl,hv⟩:=hE;exact⟨φ',.panic<|Xb ρ x,_,ba,r1,E1,v,rfl,aq _ _ hv⟩
theorem PT(ρ:Nat→Nat)(hcall:VC P f args' (look hc) R)(G:EO args (Jn ρ args'))(hok:K5 (look hc) args'=true)(J:∀c∈hc.map (·.1),1000≤c)(U:∀c k,look hc c=some k→okRefB (look hc) k=true)(hsub:∀c k,look hc c=some k→∃k0,look s.H (ρ c)=some k0∧leB k0 (KR ρ k))(Y:∀c∈hc.map (·.1),∀d∈hc.map (·.1),ρ c=ρ d→c=d)(hd:∀t,dst=some t→t<N)(O:∀r h',R r h'→∃hc' H2,h'=look hc'∧Rq ρ hc hc' s.H∧(∀b,look H2 b=look (KM ρ hc' s.H) b) ∧
   (match r with|.ret x=>K (St.put ⟨s.T,H2⟩ dst<|Xb ρ x)|.panic x=>Q (.panic<|Xb ρ x) ⟨s.T,H2⟩)):TH P N f args dst s K Q :=
 fun φ M0 D a w Z r ha=>PS (C:=fun _ Z w R=>Calls P f Z w R) (fun _ _ _ _ _ h hq=>h.mono hq) ρ hcall G hok J U hsub Y hd O φ M0 D a w Z r ha
theorem YAt.mono{l:Nat}{args:Array Value}{R G:Ending→World→Prop}(h:YAt P l args w R)(O:∀e w',R e w'→G e w'):YAt P l args w G:=by
 obtain⟨fn,tmps,assign,body,J,U⟩:=h;exact⟨fn,tmps,assign,body,J,U.mono O⟩
theorem mo(ρ:Nat→Nat)(hcall:Qb6 P b args' (look hc) R)(G:EO args (Jn ρ args'))(hok:K5 (look hc) args'=true)(J:∀c∈hc.map (·.1),1000≤c)(U:∀c k,look hc c=some k→okRefB (look hc) k=true)(hsub:∀c k,look hc c=some k→∃k0,look s.H (ρ c)=some k0∧leB k0 (KR ρ k))(Y:∀c∈hc.map (·.1),∀d∈hc.map (·.1),ρ c=ρ d→c=d)(hd:∀t,dst=some t→t<N)(O:∀r h',R r h'→∃hc' H2,h'=look hc'∧Rq ρ hc hc' s.H∧(∀b,look H2 b=look (KM ρ hc' s.H) b) ∧
   (match r with|.ret x=>K (St.put ⟨s.T,H2⟩ dst<|Xb ρ x)|.panic x=>Q (.panic<|Xb ρ x) ⟨s.T,H2⟩)):YEx P N (ρ b) args dst s K Q :=
 fun φ M0 D a w Z r ha=>PS (C:=fun φ Z w R=>YAt P (φ b) Z w R) (fun _ _ _ _ _ h hq=>h.mono hq) ρ hcall G hok J U hsub Y hd O φ M0 D a w Z r ha
def O0(P:Program)(fn:Func)(hc:List (Nat×Blk))(R:KQ→QY→Prop)(s:St):Prop :=∃x y hc',Mh P fn (look s.T) (look s.H)=some x∧le x y∧Kw (look hc') y=true∧NU (look s.H) (look hc') hc'∧YH (look hc') hc=true∧R (.ret y) (look hc')
def lI(P:Program)(fn:Func)(hc:List (Nat×Blk))(R:KQ→QY→Prop):AX→St→Prop|.ret,s=>O0 P fn hc R s|.normal,s=>O0 P fn hc R s|.panic x,s=>∃y hc',le x y∧Kw (look hc') y=true∧NU (look s.H) (look hc') hc'∧YH (look hc') hc=true∧R (.panic y) (look hc')|.exit _,_=>False
theorem EY(r:Zy φ M0 N D (look s.T) (look s.H) a w)(E:Zi φ0 (look hc) w0 φ (look s.H) w)(h1:NU (look s.H) (look hc') hc')(h2:YH (look hc') hc=true) :
  ZX φ (look hc') w M0∧Zi φ0 (look hc) w0 φ (look hc') w∧∀x v,Kw (look hc') x=true→Qf φ (look s.H) w (MM φ (look s.H) M0) x v→Qf φ (look hc') w (MM φ (look hc') M0) x v:=by
 have hh:∀b k',look hc' b=some k'→∃k,look s.H b=some k∧leB k k':=fun b k' hb=>(XX h1 b k' hb).1
 have Y:∀r o,Bv φ (look hc') r o→Bv φ (look s.H) r o:=by
  rintro x o ⟨b,k',g1,g2,g3⟩;obtain⟨k,g4,g5⟩:=hh b k' g1;refine⟨b,k,g4,g2,?_⟩
  grind [leB]
 have hM:∀r o,MM φ (look hc') M0 r o→MM φ (look s.H) M0 r o:=fun x o hx=>hx.elim (fun h=>.inl<|Y x o h) .inr
 have O:∀b,look hc' b≠none→look s.H b≠none:=fun b hb=>by
  cases hq:look hc' b with
 |none=>grind
 |some k'=>grind
 obtain⟨c1,c2⟩:=EW (φ:=φ) (w:=w) hM hh;refine⟨⟨fun b c hb hc=>r.hp.inj b c (O b hb)<|O c hc,fun b k' hb=>?_,fun b hb=>r.hp.fr b<|O b hb,r.hp.lt,r.hp.gm.sub hM⟩,?_,fun x v hx hv=>c1 x v hx hv⟩
 ·obtain⟨⟨k,g1,g2⟩,g3⟩:=XX h1 b k' hb;have g4:=r.hp.blk b k g1;cases k with
 |box ty cs =>
   simp only[leB] at g2;obtain⟨cs',rfl,g5⟩:=g2;obtain⟨c,g6,g7⟩:=g4;exact⟨c,g6,c2 _ _ g3<|Uk.2 _ _ _ g5 g7⟩
 |arr ty S n=>simp only[leB] at g2;subst g2;exact g4
 |vec ty S es=>simp only[leB] at g2;subst g2;obtain⟨c,cap,J,U,G,q4,q5,q6,q7⟩:=g4;exact⟨c,cap,J,U,G,q4,q5,q6,c2 _ _ (EU _ _) q7⟩
 |lp T nf st pd=>simp only[leB] at g2;subst g2;obtain⟨tmps,d,J,U,G⟩:=g4;exact⟨tmps,d,J,U,fun t x ht=>⟨(G t x ht).1,c1 _ _ (FI g3 ht) (G t x ht).2⟩⟩
 |mp es=>simp only[leB] at g2;subst g2;obtain⟨en,cl,J,U,G⟩:=g4;exact⟨en,cl,J,U,c2 _ _ (Df _ _) G⟩
 |mf es=>simp only[leB] at g2;subst g2;obtain⟨en,cl,J,U,G,q4⟩:=g4;exact⟨en,cl,J,U,c2 _ _ (J6 g3) G,q4⟩
 |mg en cl es=>simp only[leB] at g2;subst g2;obtain⟨J,U,G,q4⟩:=g4;exact⟨J,U,c2 _ _ (J6 g3) G,q4⟩
 |it m cl sn =>
   simp only[leB] at g2;subst g2;obtain⟨J,k0,U,G⟩:=g4;obtain⟨km,ab⟩:=TZ.1 g3;obtain⟨k1,q5,q6⟩:=hh m km ab;rw[U] at q5;cases q5;exact⟨J,km,ab,Ga q6 G⟩
 ·refine⟨E.os,E.tape,E.output,E.size,E.same,E.cell,fun x o hx hm=>E.mu x o hx<|Y x o hm,?_,?_,?_,?_⟩
  ·intro b ty cs hb aa;obtain⟨⟨ac,g1⟩,g2⟩:=E.kb b ty cs hb aa
   grind [leB,Yo]
  ·intro t ty S n ht Z;obtain⟨n',g1,g2,g3⟩:=E.kt t ty S n ht Z
   grind [leB,Yo]
  ·intro t ty S n ht Z;obtain⟨n',g1,g2,g3⟩:=E.kv t ty S n ht Z
   grind [leB,Yo]
  ·intro b k x hb aa ho;obtain⟨⟨k1,g1,g2⟩,g3⟩:=E.ko b k x hb aa ho
   grind [Yo,Ga]
theorem zM(r:Zy φ M0 N D (look s.T) (look s.H) a w)(E:Zi φ0 (look hc) w0 φ (look s.H) w)(h:O0 P fn hc R s):∃v,(results fn a.tmps).run P w=.ok v w∧Out R φ0 (look hc) w0 M0 (.returned v) w:=by
 obtain⟨x,y,hc',O,h2,U,h4,Z,G⟩:=h;obtain⟨v,g1,g2⟩:=lH r O;obtain⟨k1,Y,J⟩:=EY r E h4 Z;exact⟨v,g1,φ,.ret y,look hc',G,k1,Y,v,rfl,J _ _ U<|Uk.1 _ _ _ h2 g2⟩
theorem OC(hf:P.funcs[f]?=some fn)(hb:fn.body=some c)(hl:args.length≤fn.ntmps)(h:Ex P fn.ntmps none c ⟨Xw 0 args,hc⟩ (lI P fn hc R)):VC P f args (look hc) R:=by
 intro φ M0 w vs Z U;refine OA hf hb hl Z U h ?_ ?_ ?_
 ·intro x s φ' a w' G J r E;exact zM r E (by rcases J with rfl|rfl<;>exact G)
 ·intro x s φ' a w' v G r E hv;obtain⟨y,hc',g1,g2,g3,g4,g5⟩:=G;obtain⟨k1,O,Y⟩:=EY r E g3 g4;exact⟨φ',.panic y,look hc',g5,k1,O,v,rfl,Y _ _ g2<|Uk.1 _ _ _ g1 hv⟩
 ·intro i s G;exact G
def Qcf:AV:=.p<|.val .nilIface
theorem Ik:∀{a b:List Nat},(a.map fun r=>({ target:=.collected r,args:=#[] }:Deferred))=(b.map fun r=>({ target:=.collected r,args:=#[] }:Deferred))→a=b
|[],[],_=>rfl
|[],_::_,h=>by cases h
|_::_,[],h=>by cases h
|x::a,y::b,h=>by
  simp only[JR,List.cons.injEq,Deferred.mk.injEq,Target.collected.injEq,and_true] at h;rw[h.1,Ik h.2]
theorem Qfo{T:List (Nat×AV)}{st':LoopState}{pd':Option Code}{o:Obj}(hb:h b=some (.lp T nf st pd))(ab:∀c t f,w.heap[φ b]?≠some (.cells c t f))(r:ZX φ h w M0)(ho:∀(φ':Nat→Nat) (h':QY) (w':World) (M:ZR),True) :
  Zi φ h w φ (upd h b<|.lp T nf st' pd') (w.putObj (φ b) o)∧VF φ h w φ (upd h b<|.lp T nf st' pd') (w.putObj (φ b) o):=by
 have hlt:=Ns r hb (fun _ _ e=>by cases e);have aa:∀x,x≠φ b→(w.putObj (φ b) o).heap[x]?=w.heap[x]?:=fun x hx=>World.putObj_heap_other hx
 have G:∀c k,h c=some k→k.ob=none→¬b=c:=fun c k hc hk e=>by rw[←e,hb] at hc;cases hc;cases hk
 have ac:∀c k,h c=some k→¬b=c→φ c≠φ b:=fun c k hc e h2=>e (r.inj c b zc zc h2).symm
 have O:∀c ty cs,h c=some (.box ty cs)→upd h b (.lp T nf st' pd') c=some (.box ty cs):=fun c ty cs hc=>by simp[upd,G c _ hc rfl,hc]
 have U:∀t ty S n,h t=some (.arr ty S n)→∃n',upd h b (.lp T nf st' pd') t=some (.arr ty S n')∧n≤n'∧(n'=n→AKept w (w.putObj (φ b) o) (φ t) (φ t) ty):=by
  intro t ty S n Z;have e:=G t _ Z rfl;exact⟨n,by simp[upd,e,Z],KD _,fun _=>Ve (rfl)<|zc⟩
 have Y:∀t ty S es,h t=some (.vec ty S es)→∃es',upd h b (.lp T nf st' pd') t=some (.vec ty S es')∧es.length≤es'.length∧(es'.length=es.length→φ t=φ t∧∀c,w.heap[φ t]?=some (.cells c ty (0,0))→∃c',(w.putObj (φ b) o).heap[φ t]?=some (.cells c' ty (0,0))∧c'.size=c.size):=by
  intro t ty S n Z;have e:=G t _ Z rfl;exact⟨n,by simp[upd,e,Z],KD _,fun _=>⟨rfl,fun c hc=>⟨c,zc,rfl⟩⟩⟩
 have J:∀c k x,h c=some k→k.ob=some x→(∃k',upd h b (.lp T nf st' pd') c=some k'∧k'.ob=some x)∧φ c=φ c:=by
  intro c k x hc ho;by_cases e:b=c
  ·subst e;rw[hb] at hc;cases hc;exact⟨⟨.lp T nf st' pd',by simp[upd],ho⟩,rfl⟩
  ·exact⟨⟨k,by simp[upd,e,hc],ho⟩,rfl⟩
 refine⟨⟨rfl,rfl,rfl,by simp,?_,?_,?_,fun c ty cs _ hc=>⟨⟨cs,O c ty cs hc⟩,rfl⟩,fun t ty S n _=>U t ty S n,fun t ty S es _=>Y t ty S es,fun c k x _=>J c k x⟩,fun c ty cs hc=>⟨⟨ty,cs,O c ty cs hc⟩,rfl⟩,U,Y,J⟩
 ·grind
 ·intro x y _ hm;have:x≠φ b:=fun e=>hm ⟨b,_,hb,e.symm,trivial⟩
  grind [World.cell?]
 ·rintro x y _ ⟨d,q,h1,h2,h3⟩;by_cases e:b=d
  ·exact⟨b,_,hb,zc,trivial⟩
  ·exact⟨d,q,by grind [upd],h2,h3⟩
theorem dU{G:List (Nat×AV)}(r:Zy φ M0 N D T h a w)(hb:h b=some (.lp G nf st pd)) :
  ∃rec:Loop,w.heap[φ b]?=some (.loop rec)∧rec.state=st∧rec.pending=pd∧rec.fn=nf.fn∧rec.params=nf.ps∧rec.assign=nf.assign∧rec.body=nf.body∧rec.tmps.size=nf.N ∧
   (∀t x,look G t=some x→t<nf.N∧Qf φ h w (MM φ h M0) x (rec.tmps.getD t undef)) ∧
   ∀st' pd',Zy φ M0 N D T (upd h b<|.lp G nf st' pd') a (w.putObj (φ b)<|.loop { rec with state:=st',pending:=pd' })∧Zi φ h w φ (upd h b<|.lp G nf st' pd') (w.putObj (φ b)<|.loop { rec with state:=st',pending:=pd' }):=by
 obtain⟨tmps,d,h1,J,O⟩:=r.hp.blk b _ hb;refine⟨_,h1,rfl,rfl,rfl,rfl,rfl,rfl,J,O,fun st' pd'=>?_⟩;obtain⟨E,X⟩:=Qfo (st':=st') (pd':=pd') (o:=.loop { state:=st',pending:=pd',fn:=nf.fn,tmps:=tmps,params:=nf.ps,assign:=nf.assign,body:=nf.body,defers:=d }) hb zc r.hp fun _ _ _ _=>trivial;refine⟨r.keep E X ?_,E⟩;have hlt:=Ns r.hp hb (fun _ _ e=>by cases e)
 have g:∀d,upd h b (.lp G nf st' pd') d≠none→h d≠none:=fun d Y=>by
  grind [upd]
 refine⟨fun c d hc Y Z=>r.hp.inj c d (g c hc) (g d Y) Z,fun c k hc=>?_,fun c hc=>r.hp.fr c<|g c hc,fun x o hx=>by simpa using r.hp.lt x o hx,r.hp.gm.evol E⟩;by_cases e:b=c
 ·subst e;have:k=.lp G nf st' pd':=by grind [upd]
  subst this;exact⟨tmps,d,World.putObj_heap_same hlt,J,fun t x U=>⟨(O t x U).1,(QV (E.keeps M0) X).1 _ _ (O t x U).2⟩⟩
 ·have hc':h c=some k:=by grind [upd]
  refine Ke (E.keeps M0) X (World.putObj_heap_other fun J=>e (r.hp.inj c b zc zc J).symm)<|r.hp.blk c k hc'
def psT:List Tmp→List AV→List (Nat×AV)→List (Nat×AV)|p::ps,x::xs,T=>psT ps xs ((p,x)::T)|_,_,T=>T
theorem lJ{φ:Nat→Nat}{h:QY}{w:World}{M:ZR}{N:Nat}:∀(ps:List Tmp) (xs:List AV) (G:List Value) (T:List (Nat×AV)) (tmps:Array Value),(∀p∈ps,p<N)→ps.length=xs.length→Ql φ h w M xs G→tmps.size=N →
  (∀t x,look T t=some x→t<N∧Qf φ h w M x (tmps.getD t undef)) →
  ((ps.zip G).foldl (fun tmps (p:Tmp×Value)=>tmps.setIfInBounds p.1 p.2) tmps).size=N∧∀t x,look (psT ps xs T) t=some x→t<N∧Qf φ h w M x (((ps.zip G).foldl (fun tmps (p:Tmp×Value)=>tmps.setIfInBounds p.1 p.2) tmps).getD t undef)
|[],xs,G,T,tmps,_,U,J,hs,O=>by
  grind [psT,List.eq_nil_of_length_eq_zero,List.zip_nil_left]
|p::ps,[],G,T,tmps,_,U,J,hs,O=>by simp at U
|p::ps,x::xs,G,T,tmps,hp,U,J,hs,O=>by
  simp only[Ql] at J;obtain⟨v,Y,rfl,h1,h2⟩:=J;simp only[List.zip_cons_cons,List.foldl_cons,psT];refine lJ ps xs Y _ _ (fun q hq=>hp q<|by simp[hq]) zc h2 zc ?_;intro t y Z;simp only[look] at Z;have aa:=hp p zq;by_cases e:p=t
  ·simp_all
  ·simp only[e,if_false] at Z;refine⟨(O t y Z).1,?_⟩;have:(tmps.setIfInBounds p v).getD t undef=tmps.getD t undef:=by simp_all
   grind
def Mq(H:List (Nat×Blk))(b:Nat)(T:List (Nat×AV))(nf:BB)(R:KQ→QY→Prop)(G:Bool)(st:LoopState)(pd:Option Code)(s:St):Prop :=∃hc' J O,NU (look s.H) (look hc') hc'∧YH (look hc') H=true∧look hc' b=some (.lp T nf J O)∧R (.ret<|.p<|.val<|.bool G) (look ((b,.lp T nf st pd)::hc'))
def Qcg(H:List (Nat×Blk))(b:Nat)(T:List (Nat×AV))(nf:BB)(R:KQ→QY→Prop):AX→St→Prop|.normal,s=>Mq H b T nf R true .ready none s|.ret,s=>Mq H b T nf R false .done (some .ret) s|.exit i,s=>Mq H b T nf R false .done (some<|.exit i) s|.panic _,_=>False
theorem Qfp(r:Zy φ M0 N D (look s.T) (look s.H) a w)(E:Zi φ0 (look hc) w0 φ (look s.H) w)(J:NU (look s.H) (look hc') hc')(Y:YH (look hc') hc=true):Zy φ M0 N D (look []) (look hc') a w∧Zi φ0 (look hc) w0 φ (look hc') w:=by
 obtain⟨k1,O,_⟩:=EY r E J Y;refine⟨⟨?_,r.siz,k1,fun t x U=>by cases U⟩,O⟩;obtain⟨h0,Z,g1,g2,g3⟩:=r.dfs;refine⟨h0,Z,g1,g2,fun x G=>⟨(g3 x G).1,(g3 x G).2.1,fun b hb=>(g3 x G).2.2 b ?_⟩⟩;cases hq:look hc' b with
|none=>grind
|some k'=>obtain⟨⟨k,e1,_⟩,_⟩:=XX J b k' hq;grind
theorem mq{T:List (Nat×AV)}(af:1000≤b)(hb:look H b=some (.lp T nf .ready pd))(al:nf.ps.size=args.length)(aj:∀p∈nf.ps.toList,p<nf.N)(h:∀l,Ex P nf.N (some l) nf.assign ⟨psT nf.ps.toList args T,H⟩ (fun x s1=>x=.normal∧∃J,look s1.H b=some (.lp T nf .ready J) ∧
   Ex P nf.N (some l) nf.body ⟨s1.T,(b,.lp T nf .busy J)::s1.H⟩ (Qcg H b T nf R))):Qb6 P b args (look H) R:=by
 intro φ M0 w vs hH ha;obtain⟨tmps,d,ac,ah,hT⟩:=hH.blk b _ hb;have ar:=ZY ha;have ae:=run_yield (P:=P) (args:=vs.toArray) ac (by simp;omega);refine⟨_,_,_,_,ae,?_⟩;refine roundIn_of_wpIn trivial ?_
 have am:(nf.ps.zip vs.toArray).foldl (fun tmps (x:Tmp×Value)=>match x with|(t,a)=>tmps.setIfInBounds t a) tmps=(nf.ps.toList.zip vs).foldl (fun tmps (p:Tmp×Value)=>tmps.setIfInBounds p.1 p.2) tmps:=by
  rw[←Array.foldl_toList];simp
 obtain⟨p1,p2⟩:=lJ (φ:=φ) (h:=look H) (w:=w) (M:=MM φ (look H) M0) (N:=nf.N) nf.ps.toList args vs T tmps aj zo ha ah hT
 have r:Zy φ M0 nf.N ⟨[],w.heap.size⟩ (look<|psT nf.ps.toList args T) (look H) { tmps:=(nf.ps.zip vs.toArray).foldl (fun tmps (x:Tmp×Value)=>match x with|(t,a)=>tmps.setIfInBounds t a) tmps,defers:=[] } w:=by
  refine⟨⟨KD _,[],rfl,List.nodup_nil,fun r hr=>by cases hr⟩,?_,hH,?_⟩
  ·grind
  grind
 refine wpIn_mono (h (φ b) φ M0 _ _ w r) ?_;rintro e a1 w1 ⟨G,k,s1,⟨rfl,J,ak,O⟩,r1,E1,Y⟩;simp only[H5] at Y;subst Y;have U:G b=φ b:=(E1.ko b _ _ af hb rfl).2;obtain⟨rec,g1,g2,g3,g4,g5,g6,g7,g8,g9,g10⟩:=dU r1 ak;obtain⟨r2,E2⟩:=g10 .busy J;refine⟨_,by rw[←U];exact run_beginRound g1 g2,?_⟩;have ai:(w1.putObj (G b)<|.loop { rec with state:=.busy })=w1.putObj (G b) (.loop { rec with state:=.busy,pending:=J }):=by rw[←g3]
 rw[←U,ai];rw[←U] at O;refine wpIn_mono (O G M0 _ a1 _ r2) ?_;rintro e a3 w3 ⟨ab,k,s3,hq,r3,E3,Y⟩;have aa:=(E1.trans E2).trans E3
 have fin:∀(Z:Bool) (jump:Option Code),jump.isNone=Z→Mq H b T nf R Z (if jump.isNone then .ready else .done) jump s3 →
   ∃v w',(Instr.endRound (G b) jump).run P w3=.ok v w'∧∃φ' r h',R r h'∧ZX φ' h' w' M0∧Zi φ (look H) w φ' h' w'∧Qb5 φ' h' w' (MM φ' h' M0) r (.returned v):=by
  rintro Z jump hj ⟨hc',ao,aq,q1,q2,q3,q4⟩;obtain⟨r4,E4⟩:=Qfp r3 aa q1 q2;obtain⟨an,f1,f2,f3,f4,f5,f6,f7,f8,f9,f10⟩:=dU r4 q3;obtain⟨r5,E5⟩:=f10 (if jump.isNone then .ready else .done) jump
  have ad:ab b=G b:=by
   have e1:ab b=φ b:=by
    have:=aa.ko b _ _ af hb rfl;omega
   omega
  refine⟨.bool jump.isNone,_,by rw[←ad];exact run_endRound jump f1,ab,.ret<|.p<|.val<|.bool Z,_,q4,r5.hp,E4.trans E5,.bool jump.isNone,rfl,by simp[Qf,Zj,hj]⟩
 cases k with
|normal =>
  simp only[H5] at Y;subst Y;exact fin true none rfl hq
|ret =>
  simp only[H5] at Y;subst Y;exact fin false (some .ret) rfl hq
|exit i =>
  simp only[H5] at Y;subst Y;exact fin false (some<|.exit i) rfl hq
|panic x=>exact hq.elim
def Qch(G:Nat)(T:List (Nat×AV))(nf:BB)(Q:AX→St→Prop)(s:St):Prop :=
  ∃st pd,look s.H G=some (.lp T nf st pd)∧st≠.busy ∧
    (match pd with
    |none=>Q .normal ⟨s.T,(G,.lp T nf .exhausted none)::s.H⟩
    |some .ret=>Q .ret ⟨s.T,(G,.lp T nf .exhausted<|some .ret)::s.H⟩
    |some (.exit i)=>Q (.exit i) ⟨s.T,(G,.lp T nf .exhausted<|some<|.exit i)::s.H⟩
    |some _=>False)
theorem xD{f:Operand}{ps:Array Tmp}{assign:Code}{l m:List AV}(G:Nat)(al:1000≤G)(hf:Zn (look s.T) f=some (.fn (.func g) l m))(hok:Vx P g=true)(hD:look s.H G=none)(hcall:∀fn,TH P N g (l++[.yv G]++m) none ⟨s.T,(G,.lp s.T ⟨N,fn,ps,assign,body⟩ .ready none)::s.H⟩ (Qch G s.T ⟨N,fn,ps,assign,body⟩ Q) Q):Ex P N none (.rangeFunc f ps assign body) s Q:=by
 intro φ0 M0 D a w r0;obtain⟨r,ae,am,hC⟩:=r0.lift 2;refine wpIn_mono ?_ fun _ _ _ p=>Post.trans ae p;generalize Ym φ0 w.heap.size 2=φ at r ae am hC;refine wpIn_rangeFunc fun fn _=>?_
 have ai:=r.ev hf;simp only[Qf] at ai;obtain⟨l',m',aw,au,an⟩:=ai
 let Z:Loop:={ state:=.ready,pending:=none,fn:=fn,tmps:=a.tmps,params:=ps,assign:=assign,body:=body,defers:=w.heap.size }
 let O:World:=w.alloc<|.deferred<|some []
 let w1:World:=O.alloc<|.loop Z
 have a7:O.heap=w.heap.push (.deferred<|some []):=rfl;have ar:O.heap.size=w.heap.size+1:=by grind
 obtain⟨Ea,Xa,Ha⟩:=GR (w:=w) (w':=O) (φ:=φ) (h:=look s.H) (M0:=M0) rfl rfl rfl zo (fun x hx=>by grind) r.hp (fun b hb=>(hC b hb).imp (fun h=>h) fun h=>by omega);have af:Clear φ (look s.H) O 1:=fun b hb=>(hC b hb).imp (fun h=>by omega) (fun h=>by omega)
 have ra:Zy φ M0 N D (look s.T) (look s.H) a O:=r.keep Ea Xa Ha;have hh:w1.heap=O.heap.push (.loop Z):=rfl;obtain⟨E1,X1⟩:=Uo (k:=.lp s.T ⟨N,fn,ps,assign,body⟩ .ready none) hh rfl rfl rfl hD Ha af
 have H1:ZX (QL φ G O.heap.size) (upd (look s.H) G<|.lp s.T ⟨N,fn,ps,assign,body⟩ .ready none) w1 M0:=by
  refine Ur hh hD Ha af E1 X1 ⟨a.tmps,w.heap.size,?_,r.siz,fun t x ht=>⟨(ra.tm t x ht).1,(QV (E1.keeps M0) X1).1 _ _ (ra.tm t x ht).2⟩⟩
  grind
 let a':Act:={ a with defers:=[{ target:=.collected w.heap.size,args:=#[] }]++a.defers }
 have r1:Zy (QL φ G O.heap.size) M0 N D (look s.T) (look ((G,.lp s.T ⟨N,fn,ps,assign,body⟩ .ready none)::s.H)) a' w1:=by
  have ac:=ra.keep E1 X1 H1;refine⟨?_,ac.siz,H1,ac.tm⟩;obtain⟨h0,ms,g1,g2,g3⟩:=ac.dfs;obtain⟨aq,ak,a6,az,ax⟩:=r.dfs
  have a8:ms=ak:=by
   grind [Ik,List.append_cancel_right]
  refine⟨h0,w.heap.size::ms,zc,List.nodup_cons.2 ⟨fun hx=>?_,g2⟩,fun x hx=>?_⟩
  ·grind
  ·rcases List.mem_cons.1 hx with rfl|hx
   ·refine⟨aq,?_,fun b hb he=>?_⟩
    ·grind
    ·by_cases e:G=b
     ·grind [QL]
     ·have ah:look s.H b≠none:=by grind [look]
      simp only[QL,e,if_false] at he;obtain⟨k,hk⟩:=OV.1 ah;rcases hC b ah with h7|h7<;>omega
   ·exact g3 x hx
 have aj:QL φ G O.heap.size G=w.heap.size+1:=by simp[QL,ar]
 have aa:Zi φ (look s.H) w (QL φ G O.heap.size) (look ((G,.lp s.T ⟨N,fn,ps,assign,body⟩ .ready none)::s.H)) w1:=Ea.trans E1
 have ab:Ql (QL φ G O.heap.size) (look ((G,.lp s.T ⟨N,fn,ps,assign,body⟩ .ready none)::s.H)) w1 (MM (QL φ G O.heap.size) (look ((G,.lp s.T ⟨N,fn,ps,assign,body⟩ .ready none)::s.H)) M0) (l++[.yv G]++m) (l'++[Value.func (.yield<|w.heap.size+1) #[] #[]]++m'):=by
  have k1:=(QV (E1.keeps M0) X1).2 _ _ ((QV (Ea.keeps M0) Xa).2 _ _ au);have k2:=(QV (E1.keeps M0) X1).2 _ _ ((QV (Ea.keeps M0) Xa).2 _ _ an);refine ZZ (ZZ k1 ?_) k2;simp only[Ql,Qf];exact⟨_,[],rfl,⟨by rw[aj],_,s.T,⟨N,fn,ps,assign,body⟩,by simp[look];rfl,rfl⟩,rfl⟩
 refine⟨w.heap.size+1,_,_,{ target:=.fn (.func g) m'.toArray,args:=l'.toArray++#[Value.func (.yield<|w.heap.size+1) #[] #[]] },w1,g,(l'++[Value.func (.yield<|w.heap.size+1) #[] #[]]++m').toArray,w1,run_enterLoop_outer fn a.tmps ps assign body,?_,fun _ _=>trivial,?_,(fun h=>by cases h),?_⟩
 ·grind [Array.map,Act.eval,resolve,Deferred.ofValue,Sem.run_pure]
 ·simp only[invoke];rw[H7 hok];simp
 ·refine callsIn_wide.2<|(hcall fn _ M0 D a' w1 _ r1 ab).mono ?_;intro e w3 he;cases e with
 |returned v =>
   obtain⟨J,s3,⟨st,pd,q1,q2,q3⟩,r3,E3⟩:=he;have ao:Zy J M0 N D (look s3.T) (look s3.H) a' w3:=r3
   have av:J G=w.heap.size+1:=by
    have:=(E3.ko G _ _ al (by simp[look];rfl) rfl).2;omega
   obtain⟨U,f1,f2,f3,f4,f5,f6,f7,f8,f9,f10⟩:=dU ao q1;obtain⟨r4,E4⟩:=f10 .exhausted pd;have ay:w3.putObj (J G) (.loop { U with state:=.exhausted })=w3.putObj (J G) (.loop { U with state:=.exhausted,pending:=pd }):=by rw[←f3]
   have ad:(Instr.endLoop<|w.heap.size+1).run P w3=.ok pd (w3.putObj (J G)<|.loop { U with state:=.exhausted,pending:=pd }):=by
    grind [run_endLoop]
   have Y:=(aa.trans E3).trans E4;refine⟨pd,_,ad,?_⟩;cases pd with
  |none=>exact⟨J,.normal,⟨s3.T,(G,.lp s.T ⟨N,fn,ps,assign,body⟩ .exhausted none)::s3.H⟩,q3,r4,Y,rfl⟩
  |some c =>
    cases c with
   |ret=>exact wpIn_ret ⟨J,.ret,⟨s3.T,(G,.lp s.T ⟨N,fn,ps,assign,body⟩ .exhausted<|some .ret)::s3.H⟩,q3,r4,Y,rfl⟩
   |exit i=>exact wpIn_exit ⟨J,.exit i,⟨s3.T,(G,.lp s.T ⟨N,fn,ps,assign,body⟩ .exhausted<|some<|.exit i)::s3.H⟩,q3,r4,Y,rfl⟩
   |_=>grind
 |panicked chain=>exact Post.trans aa he
 |outgrown=>grind
theorem Cn{φ:Nat→Nat}{h:QY}{w:World}{M:ZR}:∀{cs:List PV} {l:List Value},Ql φ h w M (cs.map .p) l→∀(j:Nat) (c:PV),cs[j]?=some c→∃v:Value,l[j]?=some v∧Zj w M c v
|[],l,_,j,c,J=>by simp at J
|x::cs,l,G,j,c,J=>by
  simp only[JR,Ql,Qf] at G;obtain⟨y,ys,rfl,Y,O⟩:=G;cases j with
 |zero=>grind
 |succ j =>
   obtain⟨v,U,Z⟩:=Cn O j c zc
   grind
structure Good(ks:List Nat)(H:List (Nat×Blk)):Prop where
 keys:H.map (·.1)=ks
 ok:∀c k,look H c=some k→okRefB (look H) k=true
theorem Qci{ι:Type}(S:ι→St)(μ:ι→Nat)(i0:ι)(hw:Weak N s (S i0))(round:∀i (K:St→Prop),(∀s',(∃j,μ j<μ i∧Weak N s' (S j))→K s')→Ex P N ro c (S i) (andThen K Q)):Ex P N ro (.loop c) s Q :=
 R9 hw (tY S μ i0 fun i=>round i _ fun _ h=>h)
attribute [go_sem] YC Vw Xb Jn QiM leB le EO Kw K5
mutual
def flat:AV→Bool|.p (.val _)=>true|.agg l=>zN l|.tup l=>zN l|.ifc _ x=>flat x|_=>false
def zN:List AV→Bool|[]=>true|x::xs=>flat x&&zN xs
end
theorem wP:(∀(x:AV) (v:Value),flat x=true→Qf φ h w M x v→Qf φ' h' w' M' x v)∧(∀(xs:List AV) (l:List Value),zN xs=true→Ql φ h w M xs l→Ql φ' h' w' M' xs l):=by
 have key:∀n:Nat,(∀(x:AV),SizeOf.sizeOf x≤n→∀v,flat x=true→Qf φ h w M x v→Qf φ' h' w' M' x v)∧(∀(xs:List AV),SizeOf.sizeOf xs≤n→∀l,zN xs=true→Ql φ h w M xs l→Ql φ' h' w' M' xs l):=by
  intro n
  induction n with
 |zero =>
   refine⟨fun x G=>?_,fun es G=>?_⟩
   ·cases x<;>simp at G
   ·cases es<;>simp at G
 |succ n O =>
   obtain⟨i1,i2⟩:=O;refine⟨fun x G v hf J=>?_,fun xs G l hf J=>?_⟩
   ·cases x with
   |p x=>cases x with
    |val u=>assumption
    |sl S es=>simp[flat] at hf
   |agg l=>grind [flat,Qf]
   |tup l=>grind [flat,Qf]
   |ifc t x=>grind [flat,Qf]
   |_=>simp[flat] at hf
   ·cases xs with
   |nil=>assumption
   |cons x xs =>
     grind [zN,Ql]
 exact⟨fun x v=>(key<|SizeOf.sizeOf x).1 x (KD _) v,fun xs l=>(key<|SizeOf.sizeOf xs).2 xs (KD _) l⟩
def leR(H:QY)(x y:AV):Prop :=le x y∨∃(b off:Nat) (ty:TypeId) (l:List AV) (cs:List PV),x=.ptr b off∧y=.eptr (cs.drop off)∧H b=some (.box ty l)∧EO l (cs.map .p)∧GH (cs.map .p)=true
def dV(H:QY):List AV→List AV→Prop|[],ys=>ys=[]|x::xs,ys=>∃z G,ys=z::G∧leR H x z∧dV H xs G
def roK(K:St→Prop)(Q:AX→St→Prop)(s:St)(dst:Option Tmp):KQ→Prop|.ret x=>flat x=true∧K (s.put dst x)|.panic x=>flat x=true∧Q (.panic x) s
theorem xH{X:KQ}(hc:Zc P f args' X)(ab:dV (look s.H) args args')(hn:Vw args'=true)(hd:∀t,dst=some t→t<N)(J:roK K Q s dst X):TH P N f args dst s K Q:=by
 intro φ M0 D a w O r ha
 let M1:ZR:=fun x o=>MB φ (look s.H) w M0 x o∧¬∃b ty l,look s.H b=some (.box ty l)∧φ b=x
 have hH:ZX φ R5 w M1:=FE (fun x o hm=>fG hm.1) r.hp.gm.w fun g hg o h=>r.hp.gm.m g hg o h.1.1;have hM:∀r o v,w.cell? ⟨r,o,none⟩=some v→¬MM φ (look s.H) M0 r o→w.cell? ⟨r,o,none⟩=some v∧¬MM φ R5 M1 r o:=fun r o v G h2=>⟨G,fun Z=>Z.elim Jp fun h4=>h2 h4.1.1⟩
 have hP:=(Kb (w:=w) (w':=w) (M:=MM φ (look s.H) M0) (M':=MM φ R5 M1) hM)
 have conv:∀(xs ys:List AV) (O:List Value),dV (look s.H) xs ys→Vw ys=true→Ql φ (look s.H) w (MM φ (look s.H) M0) xs O→Ql φ R5 w (MM φ R5 M1) ys O:=by
  intro xs
  induction xs with
 |nil=>grind [dV,Ql]
 |cons x xs ih =>
   intro ys O G h0 h2;simp only[dV] at G;obtain⟨z,zs,rfl,Z,h4⟩:=G;simp only[Vw,Ku] at h0;simp only[Ql] at h2 ⊢;obtain⟨v,U,rfl,h5,h6⟩:=h2;refine⟨v,U,rfl,?_,ih zs U h4 h0.2 h6⟩;rcases Z with Z|⟨b,off,ty,l,cs,rfl,rfl,hb,hl,G⟩
   ·exact(J5 hM).1 _ _ h0.1 (Uk.1 _ _ _ Z h5)
   ·simp only[Qf] at h5 ⊢;obtain⟨rfl,_⟩:=h5;refine⟨φ b,off,rfl,?_⟩;obtain⟨c0,ac,aa⟩:=r.hp.blk b _ hb;have Y:=Uk.2 _ _ _ hl aa;rw[LP];intro j c hj;rw[List.getElem?_drop] at hj;obtain⟨u,g1,g2⟩:=Cn Y (off+j) c hj;refine⟨u,?_,?_,D6 G Y u<|List.mem_of_getElem? g1,hP.1 _ _ g2⟩
    ·grind [KE]
    ·rintro(h7|h7)
     ·exact Jp h7
     grind
 refine(hc φ M1 w O hH (conv _ _ _ ab hn ha)).mono ?_;rintro e w' ⟨φ',r',h',⟨rfl,rfl⟩,ad,E,he⟩;obtain⟨r,E1,X1,hC⟩:=r.lift<|w'.heap.size-w.heap.size;obtain⟨E2,X2,H2⟩:=GR E.os E.tape E.output E.size (fun x J=>E.same x J fun b hb=>absurd rfl hb) r.hp hC;have r2:Zy _ M0 N D (look s.T) (look s.H) a w':=r.keep E2 X2 H2;cases r' with
|ret x =>
  obtain⟨v,rfl,hv⟩:=he;exact⟨_,s.put dst x,J.2,r2.put hd<|wP.1 _ _ J.1 hv,by cases dst<;>exact E1.trans E2⟩
|panic x =>
  obtain⟨v,rfl,hv⟩:=he;exact⟨_,.panic x,s,J.2,r2,E1.trans E2,v,rfl,wP.1 _ _ J.1 hv⟩
theorem Qfq{H:QY}{l:List AV}{cs ds:List PV}(hb:H b=some (.box ty l))(G:EO l (cs.map .p))(J:GH (cs.map .p)=true)(O:ds=cs.drop off):leR H (.ptr b off) (.eptr ds) :=
 .inr ⟨b,off,ty,l,cs,rfl,by rw[O],hb,G,J⟩
theorem Qfr{op:Op}{rest:List Oper}{acc:List YU}{s0:St}{x:AV}(hc:Zc P f args' (.ret x))(hcall:Kk (look s.T) op=some (f,args))(hb:Vx P f=true)(U:KL N o.dst=true)(G:EO args args')(J:Vw args'=true)(O:YC x=true)(h:K (s.put o.dst x)):dQ P N ops Q o op rest acc s0 s K :=
 .inl ⟨f,args,args',x,hcall,hb,U,G,J,O,hc,h⟩
attribute [go_sem] flat zN
mutual
def zO(t S:Nat)(es:List (List PV)):AV→AV|.vsl J G n=>if G=t then .p (.sl S es) else .vsl J G n|.agg l=>.agg (Il t S es l)|.tup l=>.tup (Il t S es l)|.fn f l m=>.fn f (Il t S es l) (Il t S es m)|.ifc ty x=>.ifc ty (zO t S es x)|x=>x
def Il(t S:Nat)(es:List (List PV)):List AV→List AV|[]=>[]|x::xs=>zO t S es x::Il t S es xs
end
mutual
def vns(t:Nat):AV→Option (List Nat)
|.vsl _ G n=>if G=t then some [n] else some []
|.vptr G _ _ _=>if G=t then none else some []
|.vtl _ G _ _ _=>if G=t then none else some []
|.agg l=>O1 t l
|.tup l=>O1 t l
|.fn _ l m=>match O1 t l,O1 t m with|some a,some b=>some (a++b)|_,_=>none
|.ifc _ x=>vns t x
|_=>some []
def O1(t:Nat):List AV→Option (List Nat)
|[]=>some []
|x::xs=>match vns t x,O1 t xs with|some a,some b=>some (a++b)|_,_=>none
end
def Qfs(t S:Nat)(es:List (List PV)):Blk→Blk|.box ty l=>.box ty (Il t S es l)|k=>k
def Qk8(t:Nat):Blk→Option (List Nat)|.box _ l=>O1 t l|_=>some []
def Io(t S:Nat)(es:List (List PV)):List (Nat×Blk)→List (Nat×Blk)|[]=>[]|(c,k)::l=>if c=t then Io t S es l else(c,Qfs t S es k)::Io t S es l
def Qft(t:Nat):List (Nat×Blk)→Option (List Nat)
|[]=>some []
|(c,k)::l=>match Qk8 t k,Qft t l with|some a,some b=>some (a++b)|_,_=>none
def Qk9(t:Nat)(s:St):Option (List Nat):=match O1 t (s.T.map (·.2)),Qft t s.H with|some a,some b=>some (a++b)|_,_=>none
theorem Ho(t S:Nat)(es:List (List PV)):∀(H:List (Nat×Blk)) (c:Nat),look (Io t S es H) c=if c=t then none else(look H c).map (Qfs t S es)
|[],c=>by simp[Io,look]
|(d,k)::H,c=>by
  simp only[Io];by_cases e:d=t
  ·simp only[e,if_true,Ho t S es H c,look]
   grind
  ·simp only[e,if_false,look,Ho t S es H c]
   grind
theorem wQ(t S:Nat)(es:List (List PV)):∀(T:List (Nat×AV)) (x:Nat),look (T.map fun p=>(p.1,zO t S es p.2)) x=(look T x).map (zO t S es)
|[],x=>rfl
|(k,v)::T,x=>by
  simp only[JR,look];by_cases e:k=x
  ·simp[e]
  ·simp only[e,if_false];exact wQ t S es T x
theorem Qcj(t S:Nat)(es:List (List PV))(n0:Nat)(hM:∀r o,M' r o→M r o)(hh:∀c k,c≠t→h c=some k→h' c=some (Qfs t S es k))(hb:∃ty,h t=some (.vec ty S es))(ac:∀v,(∃cap c ty,v=.slice (some ⟨φ t,0,none⟩) es.length cap∧w.heap[φ t]?=some (.cells c ty (0,0))∧es.length≤cap)→Zj w M' (.sl S es) v)(aa:∀c k,h c=some k→k.ob=none∨∃es,k=.mp es) :
  (∀(x:AV) (v:Value) (L:List Nat),vns t x=some L→(∀n∈L,n=es.length)→Qf φ h w M x v→Qf φ h' w M' (zO t S es x) v)∧(∀(xs:List AV) (l:List Value) (L:List Nat),O1 t xs=some L→(∀n∈L,n=es.length)→Ql φ h w M xs l→Ql φ h' w M' (Il t S es xs) l):=by
 obtain⟨kp,ke,kc⟩:=Kb (w:=w) (w':=w) (M:=M) (M':=M') fun r o v O G=>⟨O,fun Y=>G<|hM r o Y⟩;obtain⟨gp,hb⟩:=hb
 have key:∀n:Nat,(∀(x:AV),SizeOf.sizeOf x≤n→∀v L,vns t x=some L→(∀n∈L,n=es.length)→Qf φ h w M x v→Qf φ h' w M' (zO t S es x) v)∧(∀(xs:List AV),SizeOf.sizeOf xs≤n→∀l L,O1 t xs=some L→(∀n∈L,n=es.length)→Ql φ h w M xs l→Ql φ h' w M' (Il t S es xs) l):=by
  intro n
  induction n with
 |zero =>
   refine⟨fun x hx=>?_,fun es hx=>?_⟩
   ·cases x<;>simp at hx
   ·cases es<;>simp at hx
 |succ n ih =>
   obtain⟨i1,i2⟩:=ih;refine⟨fun x hx v L Z hn J=>?_,fun xs hx l L Z hn J=>?_⟩
   ·cases x with
   |p x=>grind [zO,Qf]
   |tsl S' es' t' =>
     simp only[zO,Qf] at J ⊢;obtain⟨O,ty,m,G,Y⟩:=J;have U:t'≠t:=fun e=>by grind
     exact⟨kp _ _ O,ty,m,by rw[hh t' _ U G];rfl,Y⟩
   |ptr c off =>
     simp only[zO,Qf] at J ⊢;obtain⟨O,ty,l,G⟩:=J;have U:c≠t:=fun e=>by grind
     exact⟨O,ty,Il t S es l,by rw[hh c _ U G];rfl⟩
   |bsl c off =>
     simp only[zO,Qf] at J ⊢;obtain⟨O,ty,l,G⟩:=J;have U:c≠t:=fun e=>by grind
     exact⟨O,ty,Il t S es l,by rw[hh c _ U G];rfl⟩
   |sfp c =>
     simp only[zO,Qf] at J ⊢;obtain⟨O,ty,l,G⟩:=J;have U:c≠t:=fun e=>by grind
     exact⟨O,ty,Il t S es l,by rw[hh c _ U G];rfl⟩
   |vnil=>assumption
   |vsl S' t' m =>
     by_cases e:t'=t
     ·subst e;simp only[vns,if_true,ZA] at Z;subst Z;have hm:=hn m zq
      grind [zO,Qf]
     ·simp only[zO,e,if_false,Qf] at J ⊢;obtain⟨O,ty,m',G,Y⟩:=J;exact⟨O,ty,m',by rw[hh t' _ e G];rfl,Y⟩
   |vtl S' t' m k m0 =>
     by_cases e:t'=t
     ·grind [vns]
     ·simp only[zO,Qf] at J ⊢;obtain⟨O,ty,m',G,Y⟩:=J;exact⟨O,ty,m',by rw[hh t' _ e G];rfl,Y⟩
   |vptr t' m k f =>
     by_cases e:t'=t
     ·grind [vns]
     ·simp only[zO,Qf] at J ⊢;obtain⟨O,ty,S',m',G,Y⟩:=J;exact⟨O,ty,S',m',by rw[hh t' _ e G];rfl,Y⟩
   |eptr l =>
     grind [zO,Qf]
   |yv c =>
     simp only[Qf] at J;obtain⟨_,k,T,nf,G,Y⟩:=J;rcases aa c k G with h4|⟨_,rfl⟩
     ·grind
     ·cases Y
   |mv c =>
     simp only[zO,Qf] at J ⊢;obtain⟨O,k,G,Y⟩:=J;rcases aa c k G with h4|⟨es',rfl⟩
     ·grind
     ·have U:c≠t:=fun e=>by grind
      exact⟨O,.mp es',by rw[hh c _ U G];rfl,rfl⟩
   |iv c =>
     simp only[zO,Qf] at J ⊢;obtain⟨O,k,G,Y⟩:=J;rcases aa c k G with h4|⟨es',rfl⟩
     ·grind
     ·have U:c≠t:=fun e=>by grind
      exact⟨O,.mp es',by rw[hh c _ U G];rfl,rfl⟩
   |agg l =>
     grind [zO,vns,Qf]
   |tup l =>
     grind [zO,vns,Qf]
   |fn f p q =>
     simp only[zO,vns,Qf] at J Z ⊢;obtain⟨l,m,O,G,Y⟩:=J;simp at hx;split at Z
     ·rename_i La Lb ha ab;simp only[ZA] at Z;subst Z;exact⟨l,m,O,i2 p zo l La ha (fun n h=>hn n<|by simp[h]) G,i2 q zo m Lb ab (fun n h=>hn n<|by simp[h]) Y⟩
     ·cases Z
   |ifc ty x =>
     grind [zO,vns,Qf]
   ·cases xs with
   |nil=>assumption
   |cons x xs =>
     simp only[Il,O1,Ql] at J Z ⊢;simp at hx;obtain⟨y,ys,O,G,Y⟩:=J;split at Z
     ·rename_i La Lb ha ab;simp only[ZA] at Z;subst Z;exact⟨y,ys,O,i1 x zo y La ha (fun n h=>hn n<|by simp[h]) G,i2 xs zo ys Lb ab (fun n h=>hn n<|by simp[h]) Y⟩
     ·cases Z
 exact⟨fun x v=>(key<|SizeOf.sizeOf x).1 x (KD _) v,fun xs l=>(key<|SizeOf.sizeOf xs).2 xs (KD _) l⟩
theorem wR{t:Nat}:∀{T:List (Nat×AV)} {L:List Nat} {x:Nat} {v:AV},O1 t (T.map (·.2))=some L→look T x=some v→∃J,vns t v=some J∧∀n∈J,n∈L
|[],L,x,v,_,h=>by simp[look] at h
|(k,y)::T,L,x,v,G,h=>by
  simp only[JR,O1] at G;split at G
  ·rename_i Y O U hb;simp only[ZA] at G;subst G;simp only[look] at h;by_cases e:k=x
   ·grind
   ·simp only[e,if_false] at h;obtain⟨J,Z,h2⟩:=wR hb h
    grind
  ·cases G
theorem wS{t:Nat}:∀{H:List (Nat×Blk)} {L:List Nat} {c:Nat} {k:Blk},Qft t H=some L→look H c=some k→∃J,Qk8 t k=some J∧∀n∈J,n∈L
|[],L,x,v,_,h=>by simp[look] at h
|(b,y)::H,L,c,k,G,h=>by
  simp only[Qft] at G;split at G
  ·rename_i Y O U hb;simp only[ZA] at G;subst G;simp only[look] at h;by_cases e:b=c
   ·grind
   ·simp only[e,if_false] at h;obtain⟨J,Z,h2⟩:=wS hb h
    grind
  ·cases G
def lK:List (Nat×Blk)→Bool
|[]=>true
|(_,k)::l=>(match k with|.mp _=>true|k=>k.ob.isNone)&&lK l
theorem U2:∀{H:List (Nat×Blk)},lK H=true→∀c k,look H c=some k→k.ob=none∨∃es,k=.mp es
|[],_,c,k,h=>by cases h
|(b,q)::H,G,c,k,h=>by
  simp only[lK,Ku] at G;simp only[look] at h;split at h
  ·cases h;have:=G.1;split at this
   ·simp
   simp_all
  ·exact U2 G.2 c k h
theorem EZ(t:Nat)(ty:TypeId)(S:Nat)(es:List (List PV))(L:List Nat)(hb:look s.H t=some (.vec ty S es))(hL:Qk9 t s=some L)(hn:∀n∈L,n=es.length)(hlt:Nat.blt t 1000=true)(U:lK s.H=true) :
  Weak N s ⟨s.T.map fun p=>(p.1,zO t S es p.2),Io t S es s.H⟩:=by
 have al:t<1000:=by simp_all
 unfold Qk9 at hL;split at hL;rotate_left
 ·cases hL
 rename_i L1 L2 aj af;simp only[ZA] at hL;subst hL;intro φ M0 D a w r;refine⟨φ,?_⟩
 have J:∀c k',look (Io t S es s.H) c=some k'→c≠t∧∃k,look s.H c=some k∧k'=Qfs t S es k:=by
  intro c k' hc;rw[Ho] at hc;by_cases e:c=t
  ·grind
  ·simp only[e,if_false] at hc;cases hk:look s.H c with
  |none=>grind
  |some k=>grind
 have aa:∀x o,Bv φ (look<|Io t S es s.H) x o→Bv φ (look s.H) x o∧x≠φ t:=by
  rintro x o ⟨c,k',g1,g2,g3⟩;obtain⟨e,k,g4,rfl⟩:=J c k' g1;refine⟨⟨c,k,g4,g2,by cases k<;>exact g3⟩,fun hx=>e ?_⟩;exact r.hp.inj c t zc zc (by rw[g2,hx])
 have hM:∀x o,MM φ (look<|Io t S es s.H) M0 x o→MM φ (look s.H) M0 x o:=fun x o hx=>hx.elim (fun h=>.inl (aa x o h).1) .inr
 have ai:∀o,¬MM φ (look<|Io t S es s.H) M0 (φ t) o:=by
  rintro o (hx|hx)
  ·grind
  ·exact r.hp.fr t zc o hx
 obtain⟨c0,am,aq,an,ar,ao,hS,h1,ad⟩:=r.hp.blk t _ hb
 have ak:∀v,(∃cap c ty,v=.slice (some ⟨φ t,0,none⟩) es.length cap∧w.heap[φ t]?=some (.cells c ty (0,0))∧es.length≤cap)→Zj w (MM φ (look<|Io t S es s.H) M0) (.sl S es) v:=by
  rintro v ⟨cap,c,Y,rfl,hc,ac⟩;simp only[Zj];refine .inl ⟨φ t,0,cap,rfl,ac,?_⟩;rw[KY];refine⟨hS,?_⟩;rw[LP];intro j q hj;obtain⟨u,g1,g2⟩:=Cn ad j q hj
  have g3:c0.toList[j]?=some u:=by
   grind
  refine⟨u,?_,ai _,h1 u<|List.mem_of_getElem? g3,(Kb (w:=w) (w':=w) fun r o v h1 h2=>⟨h1,fun h3=>h2<|hM r o h3⟩).1 _ _ g2⟩
  grind [KE]
 obtain⟨k1,k2⟩:=Qcj (φ:=φ) (h:=look s.H) (h':=look<|Io t S es s.H) (w:=w) (M:=MM φ (look s.H) M0) t S es es.length hM
  (fun c k G hk=>by rw[Ho,if_neg G,hk];rfl) ⟨ty,hb⟩ ak (U2 U)
 have E:Zi φ (look s.H) w φ (look<|Io t S es s.H) w:=by
  refine⟨rfl,rfl,rfl,KD _,fun _ _ _=>rfl,fun _ _ _ _=>rfl,fun x o _ hx=>(aa x o hx).1,?_,?_,?_,?_⟩
  ·intro c Y l hc O;have G:c≠t:=by omega
   exact⟨⟨Il t S es l,by rw[Ho,if_neg G,O];rfl⟩,rfl⟩
  ·intro c Y S' n hc O;have G:c≠t:=by omega
   exact⟨n,by rw[Ho,if_neg G,O];rfl,KD _,fun _=>Ve (rfl) rfl⟩
  ·intro c Y S' n hc O;have G:c≠t:=by omega
   exact⟨n,by rw[Ho,if_neg G,O];rfl,KD _,fun _=>⟨rfl,fun c hc=>⟨c,hc,rfl⟩⟩⟩
  ·intro c k x hc O ho;rcases U2 U c k O with Z|⟨es',rfl⟩
   ·grind
   ·have G:c≠t:=by omega
    exact⟨⟨.mp es',by rw[Ho,if_neg G,O];rfl,ho⟩,rfl⟩
 refine⟨⟨r.dfs.keep E,r.siz,⟨?_,?_,?_,r.hp.lt,r.hp.gm.evol E⟩,?_⟩,E⟩
 ·intro c d hc hd he;obtain⟨kc,ab⟩:=OV.1 hc;obtain⟨kd,ah⟩:=OV.1 hd;obtain⟨_,k1,e1,_⟩:=J c kc ab;obtain⟨_,k2,e2,_⟩:=J d kd ah;exact r.hp.inj c d zc zc he
 ·intro c k' ae;obtain⟨_,k,e1,rfl⟩:=J c k' ae;have:=r.hp.blk c k e1;cases k with
 |box Y l =>
   obtain⟨c1,q1,q2⟩:=this;obtain⟨L',g1,g2⟩:=wS af e1;exact⟨c1,q1,k2 _ _ L' g1 (fun n h=>hn n<|zc) q2⟩
 |arr Y S n=>exact this
 |vec Y S es=>obtain⟨c1,cap,q1,q2,q3,q4,q5,q6,q7⟩:=this;exact⟨c1,cap,q1,q2,q3,q4,q5,q6,EX hM _ _ q7⟩
 |lp T nf st pd=>rcases U2 U c _ e1 with Z|⟨_,Z⟩<;>cases Z
 |mp es =>
   obtain⟨en,cl,q1,q2,q3⟩:=this;have e:es.map (fun p=>AV.p p.2)=(es.map (·.2)).map .p:=by simp
   refine⟨en,cl,q1,q2,?_⟩
   grind [EX]
 |mf es=>rcases U2 U c _ e1 with Z|⟨_,Z⟩<;>cases Z
 |mg en cl es=>rcases U2 U c _ e1 with Z|⟨_,Z⟩<;>cases Z
 |it m cl sn=>rcases U2 U c _ e1 with Z|⟨_,Z⟩<;>cases Z
 ·intro c hc o hm;obtain⟨kc,ab⟩:=OV.1 hc;obtain⟨_,k1,e1,_⟩:=J c kc ab;exact r.hp.fr c zc o hm
 ·intro x y hy;rw[wQ] at hy;cases hq:look s.T x with
 |none=>grind
 |some z =>
   rw[hq] at hy;cases hy;obtain⟨L',g1,g2⟩:=wR aj hq;exact⟨(r.tm x z hq).1,k1 _ _ L' g1 (fun n h=>hn n<|zc) (r.tm x z hq).2⟩
theorem zP{P:Program}{cs:List Frame}:∀(J:List Nat) (fr:Frame) (w:World),fr.mode≠.run→J.Nodup→(∀r∈J,w.heap[r]?=some (.deferred<|some [])) →
  fr.defers=(J.map fun r=>({ target:=.collected r,args:=#[] }:Deferred))→∃w',F7 J w w'∧Steps P (lone fr cs w) (lone { fr with defers:=[] } cs w')
|[],fr,w,_,_,_,Y=>by
  refine⟨w,⟨rfl,rfl,rfl,rfl,fun _ _=>rfl,fun k G=>by cases G⟩,?_⟩;have:{ fr with defers:=[] }=fr:=by cases fr;grind
  grind [Steps.refl]
|r::J,fr,w,Z,U,hb,Y=>by
  have h0:=hb r zq;have hlt:r<w.heap.size:=(AY.1 h0).1;have O:∀k:Nat,(w.putObj r<|.deferred none).heap[k]?=(w.heap.setIfInBounds r<|.deferred none)[k]?:=fun k=>rfl
  have h1:=step_collected (cs:=cs) Z Y rfl<|run_takeDeferred (P:=P) h0
  obtain⟨w',t,hs⟩:=zP (P:=P) (cs:=cs) J { fr with defers:=[]++(J.map fun r=>({ target:=.collected r,args:=#[] }:Deferred)) } (w.putObj r<|.deferred none) Z (List.nodup_cons.1 U).2 (fun k G=>by
   grind) rfl
  refine⟨w',⟨t.os,t.tape,t.output,by rw[t.size];simp,fun k G=>?_,fun k G=>?_⟩,.head h1 hs⟩
  ·simp only[List.mem_cons,not_or] at G;rw[t.same k G.2,O,Array.getElem?_setIfInBounds_ne<|Ne.symm G.1]
  ·rcases List.mem_cons.1 G with e|e
   ·subst e;rw[t.same k (List.nodup_cons.1 U).1,O];simp[hlt]
   ·exact t.turn k e
theorem xI{args:Array Value}{u:FrameMode}{R:Ending→FrameMode→World→Prop}(hf:P.funcs[f]?=some fn)(hb:fn.body=some c)(h:∀(G:Frame) (cs:List Frame),G.mode=u→c.wpS P (fun e a cs' w'=>(e=.normal∨e=.ret)∧∃Y U,a.defers=(Y.map fun r=>({ target:=.collected r,args:=#[] }:Deferred))∧Y.Nodup∧(∀r∈Y,w'.heap[r]?=some (.deferred<|some [])) ∧
   cs'={ G with mode:=U }::cs∧∀w'',F7 Y w' w''→∃v,(results fn a.tmps).run P w''=.ok v w''∧R (.returned v) U w'') { tmps:=args++Array.replicate (fn.ntmps-args.size) undef,defers:=[] } (G::cs) w):CallsD P f args u w R:=by
 intro G cs hu
 let b:Frame:={ (default:Frame) with fn:=f,kind:=.deferred }
 have O:Frame.enter P f args .deferred=b.at { tmps:=args++Array.replicate (fn.ntmps-args.size) undef,defers:=[] } [.code c]:=by
  grind [Frame.enter,Frame.at]
 obtain⟨e,a',cs',w',⟨he,Y,U,hd,hn,aa,rfl,hq⟩,J⟩:=h G cs hu b [] rfl rfl;rw[←O] at J
 have fin:∀todo,Steps P (lone (Frame.enter P f args .deferred) (G::cs) w) (lone { b.at a' todo with mode:=.returning } ({ G with mode:=U }::cs) w') →
   ∃e Z w'' fr,R e Z w''∧Comes P (lone (Frame.enter P f args .deferred) (G::cs) w) (lone fr ({ G with mode:=Z }::cs) w'') e∧fr.kind=.deferred∧fr.going P w'' e:=by
  intro todo hs;obtain⟨w'',t,ab⟩:=zP (P:=P) (cs:={ G with mode:=U }::cs) Y { b.at a' todo with mode:=.returning } w' zq hn aa hd;obtain⟨v,hr,hR⟩:=hq w'' t;exact⟨.returned v,U,w'',_,hR,Steps.trans hs ab,rfl,rfl,rfl,fn,hf,hr⟩
 rcases he with rfl|rfl
 ·exact fin [] (Steps.trans J (.one step_end))
 ·obtain⟨todo,hs⟩:=J
  grind
structure KZ(P:Program)(g:FuncId) where
 fn:Func
 id:Nat
 o1:Oper
 o2:Oper
 d1:Tmp
 d2:Tmp
 ts:Array TypeId
 rest:Code
 hf:P.funcs[g]?=some fn
 hb:fn.body=some (.seq (.region id #[o1,o2] false) rest)
 hop1:o1.op=.call ⟨.builtin .recover,#[],ts⟩
 hop2:o2.op=.assign (.tmp d1)
 hg1:o1.guard=none
 hg2:o2.guard=none
 hd1:o1.dst=some d1
 hd2:o2.dst=some d2
 hlt1:d1<fn.ntmps
 hlt2:d2<fn.ntmps
def QhT(u G:FrameMode)(v:Value):Prop:=∀(c0:Frame) (cs:List Frame),c0.mode=u→(recoverD (c0::cs)=some (v,{ c0 with mode:=G }::cs))∨(recoverD (c0::cs)=none∧v=.nilIface∧G=u)
def CD(P:Program)(g:FuncId)(U:Array Value)(w:World)(R:Ending→World→Prop):Prop:=∀u O v J,U=(v::J).toArray→QhT u O v→CallsD P g J.toArray u w fun e G w'=>G=O∧R e w'
def QhU(P:Program)(fn:Func)(hc:List (Nat×Blk))(R:KQ→QY→Prop):AX→St→Prop|.panic _,_=>False|x,s=>lI P fn hc R x s
theorem lL{T:List (Nat×AV)}{d:Tmp}{x:AV}(r:Zy φ M0 N D (look T) h a w)(J:d<N)(O:Qf φ h w (MM φ h M0) x v):Zy φ M0 N D (look ((d,x)::T)) h (a.put (some d) v) w:=by
 refine⟨r.dfs,by simp[Act.put,r.siz],r.hp,fun t y G=>?_⟩;simp only[look] at G;by_cases e:d=t
 ·simp only[e,if_true,ZA] at G;subst G;subst e;refine⟨J,?_⟩;have h0:d<a.tmps.size:=by rw[r.siz];exact J
  simp_all [undef,Act.put]
 ·simp only[e,if_false] at G;obtain⟨g1,g2⟩:=r.tm t y G
  simp_all [undef,Act.put]
theorem mr(C:KZ P g){rv:AV}{caps:List AV}(hl:caps.length≤C.fn.ntmps)(h:Ex P C.fn.ntmps none C.rest ⟨(C.d2,rv)::(C.d1,rv)::Xw 0 caps,hc⟩ (QhU P C.fn hc R)) :
  ∀φ M0 w vs,ZX φ (look hc) w M0→Ql φ (look hc) w (MM φ (look hc) M0) (rv::caps) vs→CD P g vs.toArray w (Out R φ (look hc) w M0):=by
 intro φ M0 w vs hH ha u u' v vl ar af;simp only[Ql] at ha;obtain⟨y,ys,rfl,ah,hcaps⟩:=ha
 have ae:y=v∧ys=vl:=by
  grind
 obtain⟨rfl,rfl⟩:=ae;refine xI C.hf C.hb fun c0 cs hm=>wpS_seq<|wpS_region ?_
 have Y:List.range (#[C.o1,C.o2]:Array Oper).size=[0,1]:=rfl;rw[Y];have am:∀y,Region.wanted C.o1 y=true:=fun y=>by simp[Region.wanted,C.hg1]
 have al:∀y,Region.wanted C.o2 y=true:=fun y=>by simp[Region.wanted,C.hg2]
 have ab:∀(a:Act) (w:World),(execOp a.eval C.o1).run P w=.ok .recover w:=fun a w=>by simp[execOp,C.hop1,resolve,invoke,builtin]
 have r0:=Ii hH hcaps hl;generalize aq:({ tmps:=ys.toArray++Array.replicate (C.fn.ntmps-ys.toArray.size) undef,defers:=[] }:Act)=a0 at r0;have r1:=lL (d:=C.d1) r0 C.hlt1 ah
 have ac:(a0.put C.o1.dst y).eval (.tmp C.d1)=y:=by
  have h0:C.d1<a0.tmps.size:=by rw[r0.siz];exact C.hlt1
  simp[Act.put,C.hd1,Act.eval,h0]
 have r2:=lL (d:=C.d2) r1 C.hlt2 ah
 have rest:∀(O:List Frame),O={ c0 with mode:=u' }::cs→wpOpsS P #[C.o1,C.o2] (Exit.thenS (C.rest.wpS P (fun e a cs' w'=>(e=.normal∨e=.ret)∧∃G J,a.defers=(G.map fun r=>({ target:=.collected r,args:=#[] }:Deferred))∧G.Nodup∧(∀r∈G,w'.heap[r]?=some (.deferred<|some [])) ∧
   cs'={ c0 with mode:=J }::cs∧∀w'',F7 G w' w''→∃v,(results C.fn a.tmps).run P w''=.ok v w''∧(J=u'∧Out R φ (look hc) w M0 (.returned v) w''))) (fun e a cs' w'=>(e=.normal∨e=.ret)∧∃G J,a.defers=(G.map fun r=>({ target:=.collected r,args:=#[] }:Deferred))∧G.Nodup∧(∀r∈G,w'.heap[r]?=some (.deferred<|some [])) ∧
   cs'={ c0 with mode:=J }::cs∧∀w'',F7 G w' w''→∃v,(results C.fn a.tmps).run P w''=.ok v w''∧(J=u'∧Out R φ (look hc) w M0 (.returned v) w''))) [1] (a0.put C.o1.dst y) O w:=by
  intro O aj;have U:(#[C.o1,C.o2]:Array Oper)[1]?=some C.o2:=rfl
  have aa:(execOp (a0.put C.o1.dst y).eval C.o2).run P w=.ok (.value y) w:=by
   generalize a0.put C.o1.dst y=A at ac;simp[execOp,C.hop2,ac]
  simp only[wpOpsS,U,al,if_true,aa,Oper.upon];show C.rest.wpS P _ ((a0.put C.o1.dst y).put C.o2.dst y) O w;rw[C.hd1,C.hd2];refine wpS_of_wp<|wpIn_wide.1<|wpIn_mono (h φ M0 _ _ w r2) ?_;rintro e a' w' ⟨φ',k,s',h1,h2,h3,h4⟩;obtain⟨an,G,hd,ak,ai⟩:=h2.dfs;have ao:a'.defers=G.map fun r=>({ target:=.collected r,args:=#[] }:Deferred):=by grind
  have Z:∀r∈G,w'.heap[r]?=some (.deferred<|some [])∧∀b,look s'.H b≠none→φ' b≠r:=fun r hr=>(ai r hr).2
  have go:O0 P C.fn hc R s'→∃G J,a'.defers=(G.map fun r=>({ target:=.collected r,args:=#[] }:Deferred))∧G.Nodup∧(∀r∈G,w'.heap[r]?=some (.deferred<|some [])) ∧
    O={ c0 with mode:=J }::cs∧∀w'',F7 G w' w''→∃v,(results C.fn a'.tmps).run P w''=.ok v w''∧(J=u'∧Out R φ (look hc) w M0 (.returned v) w''):=by
   intro ad;refine⟨G,u',ao,ak,fun r hr=>(Z r hr).1,aj,fun w'' t=>?_⟩;obtain⟨v,g1,g2⟩:=zM (h2.turned t Z) (h3.turned t (fun r hr=>(ai r hr).1) Z) ad
   grind
  cases k with
 |normal =>
   simp only[H5] at h4;subst h4;exact⟨.inl rfl,go h1⟩
 |ret =>
   simp only[H5] at h4;subst h4;exact⟨.inr rfl,go h1⟩
 |exit i=>exact h1.elim
 |panic x=>exact h1.elim
 have U:(#[C.o1,C.o2]:Array Oper)[0]?=some C.o1:=rfl;rcases af c0 cs hm with h1|⟨h1,rfl,rfl⟩
 ·rw[wpOpsS]
  grind
 ·rw[wpOpsS];simp only[U,am,if_true,ab,h1];exact rest _ (by subst hm;rfl)
def DEx(P:Program)(N:Nat)(g:FuncId)(args:List AV)(s:St)(K:St→Prop):Prop :=
 ∀φ M0 D a w G,Zy φ M0 N D (look s.T) (look s.H) a w→Ql φ (look s.H) w (MM φ (look s.H) M0) args G→CD P g G.toArray w fun e w' =>
  match e with
 |.returned v=>∃φ' s',K s'∧Zy φ' M0 N D (look s'.T) (look s'.H) a w'∧Zi φ (look s.H) w φ' (look s'.H) w'
 |_=>False
theorem Qao(ρ:Nat→Nat)(hcall:∀φ M0 w G,ZX φ (look hc) w M0→Ql φ (look hc) w (MM φ (look hc) M0) args' G→CD P g G.toArray w (Out R φ (look hc) w M0))(J:EO args (Jn ρ args'))(hok:K5 (look hc) args'=true)(Y:∀c∈hc.map (·.1),1000≤c)(O:∀c k,look hc c=some k→okRefB (look hc) k=true)(hsub:∀c k,look hc c=some k→∃k0,look s.H (ρ c)=some k0∧leB k0 (KR ρ k))(U:∀c∈hc.map (·.1),∀d∈hc.map (·.1),ρ c=ρ d→c=d)(Z:∀r h',R r h'→∃hc' H2,h'=look hc'∧Rq ρ hc hc' s.H∧(∀b,look H2 b=look (KM ρ hc' s.H) b) ∧
   (match r with|.ret x=>K (St.put ⟨s.T,H2⟩ none<|Xb ρ x)|.panic x=>False)):DEx P N g args s K:=by
 intro φ M0 D a w G r ha;have:=PS (C:=fun _ G w R=>CD P g G w R) (fun _ G w R R' h hq u u' v vl e hr=>(h u u' v vl e hr).mono fun e aa w' p=>⟨p.1,hq _ _ p.2⟩) (N:=N) (dst:=none) (K:=K) (Q:=fun _ _=>False) ρ hcall J hok Y O hsub U (fun t ht=>by cases ht) Z φ M0 D a w G r ha;intro u u' v vl e hr;refine(this u u' v vl e hr).mono ?_;rintro e aa w' ⟨rfl,he⟩;refine⟨rfl,?_⟩;cases e with
|returned v=>exact he
|panicked c=>obtain⟨_,x,_,hF,_,_,hx⟩:=he;exact hF
|outgrown=>exact he
def sg(L:List (Nat×Nat))(x:Nat):Nat:=(look L x).getD x
def sgI(L:List (Nat×Nat))(x:Nat):Nat:=sg (L.map fun p=>(p.2,p.1)) x
def sgT(L:List (Nat×Nat))(T:List (Nat×AV)):List (Nat×AV):=T.map fun p=>(p.1,Xb (sg L) p.2)
def mD(L:List (Nat×Nat))(H:List (Nat×Blk)):List (Nat×Blk):=H.map fun p=>(sg L p.1,KR (sg L) p.2)
def QiQ(L:List (Nat×Nat))(H:List (Nat×Blk)):Bool:=H.all (fun p=>sgI L (sg L p.1)==p.1)&&L.all (fun p=>Nat.blt p.1 1000&&Nat.ble 1000 p.2&&sg L p.1==p.2&&(match look H p.1 with|some (.box _ _)=>true|_=>false))
def Dh(L:List (Nat×Nat)):List AV:=L.map fun p=>.ptr p.2 0
theorem mE(L:List (Nat×Nat)):∀(T:List (Nat×AV)) (t:Nat),look (sgT L T) t=(look T t).map (Xb<|sg L)
|[],t=>rfl
|(k,v)::T,t=>by
  simp only[sgT,JR,look];by_cases e:k=t
  ·simp[e]
  ·simp only[e,if_false];exact mE L T t
structure Di(fn:Func)(g:FuncId) where
 r1:Code
 rest:Code
 id:Nat
 o1:Oper
 o2:Oper
 caps:Array Operand
 tbs:List Tmp
 tc:Tmp
 ts:Array TypeId
 hb:fn.body=some (.seq r1<|.seq (.region id #[o1,o2] false) rest)
 hop1:o1.op=.makeFunc (.func g) #[] caps
 hcaps:caps.toList=tbs.map .tmp
 hop2:o2.op=.defer ⟨.value<|.tmp tc,#[],ts⟩
 hg1:o1.guard=none
 hg2:o2.guard=none
 hd1:o1.dst=some tc
 hd2:o2.dst=none
 hlt:tc<fn.ntmps
def lM(P:Program)(fn:Func)(hc:List (Nat×Blk))(N:Nat)(g:FuncId)(caps:List AV)(R:KQ→QY→Prop):AX→St→Prop|.ret,s=>DEx P N g (Qcf::caps) s (O0 P fn hc R)|.normal,s=>DEx P N g (Qcf::caps) s (O0 P fn hc R)|.panic v,s=>DEx P N g (v::caps) s (O0 P fn hc R)|.exit _,_=>False
theorem xJ(F:Di fn g)(L:List (Nat×Nat))(hf:P.funcs[f]?=some fn)(hl:args.length≤fn.ntmps)(bz:Vx P g=true)(h:Ex P fn.ntmps none F.r1 ⟨Xw 0 args,hc⟩ (fun x s=>x=.normal∧F.tbs.map (look s.T)=L.map (fun p=>some<|.ptr p.1 0)∧QiQ L s.H=true∧(∀c k x,look s.H c=some k→k.ob=some x→(some x).map (dS<|sg L)=some x) ∧
   Ex P fn.ntmps none F.rest ⟨(F.tc,.fn (.func g) []<|Dh L)::sgT L s.T,mD L s.H⟩ (lM P fn hc fn.ntmps g (Dh L) R))):VC P f args (look hc) R:=by
 intro φ M0 w vs hH ha;refine ES hf F.hb ?_;refine wpIn_seq<|wpIn_mono (h φ M0 _ _ w<|Ii hH ha hl) ?_;rintro e a1 w1 ⟨J,k,s,⟨rfl,cf,bc,cg,an⟩,r1,E1,Y⟩;simp only[H5] at Y;subst Y;show Code.wpIn (wd none) 0 P (.seq (.region F.id #[F.o1,F.o2] false) F.rest) _ a1 w1;simp only[QiQ,Ku,Fx,beq_iff_eq] at bc;obtain⟨ce,af⟩:=bc
 have hL:∀p∈L,p.1<1000∧1000≤p.2∧∃ty cs,look s.H p.1=some (.box ty cs):=by
  intro p hp;have:=af p hp;obtain⟨⟨⟨g1,g2⟩,_⟩,g3⟩:=this;refine⟨by simp_all,Nat.le_of_ble_eq_true g2,?_⟩
  grind
 let ps:Array Value:=F.caps.map a1.eval
 have bv:ps.toList=F.tbs.map fun t=>a1.eval (.tmp t):=by simp[ps,F.hcaps,Function.comp_def]
 have ba:ps.toList=L.map fun p=>.pointer (some ⟨J p.1,0,none⟩):=by
  rw[bv]
  have:∀(ts:List Tmp) (L:List (Nat×Nat)),ts.map (look s.T)=L.map (fun p=>some<|.ptr p.1 0)→ts.map (fun t=>a1.eval<|.tmp t)=L.map fun p=>.pointer (some ⟨J p.1,0,none⟩):=by
   intro ts
   induction ts with
  |nil=>simp
  |cons t ts ih=>intro L hh;cases L with
   |nil=>cases hh
   |cons p L =>
     simp only[JR,List.cons.injEq] at hh ⊢;refine⟨?_,ih L hh.2⟩;have:=(r1.tm t _ hh.1).2;simp only[Qf] at this;exact this.1
  grind
 let d:Deferred:={ target:=.fn (.func g) ps,args:=#[] }
 let a2:Act:={ tmps:=a1.tmps.setIfInBounds F.tc<|.func (.func g) #[] ps,defers:=d::a1.defers }
 have b7:∀Q,Code.wpIn (wd none) 0 P F.rest Q a2 w1→Code.wpIn (wd none) 0 P (.seq (.region F.id #[F.o1,F.o2] false) F.rest) Q a1 w1:=by
  intro Q hq;refine wpIn_seq<|wpIn_region ?_;have ai:List.range (#[F.o1,F.o2]:Array Oper).size=[0,1]:=rfl;rw[ai];have ax:(#[F.o1,F.o2]:Array Oper)[0]?=some F.o1:=rfl;have az:(#[F.o1,F.o2]:Array Oper)[1]?=some F.o2:=rfl;have b3:∀y,Region.wanted F.o1 y=true:=fun y=>by simp[Region.wanted,F.hg1]
  have bp:∀y,Region.wanted F.o2 y=true:=fun y=>by simp[Region.wanted,F.hg2]
  have a7:(execOp a1.eval F.o1).run P w1=.ok (.value<|.func (.func g) #[] ps) w1:=by simp[execOp,F.hop1,Instr.makeFunc,ps]
  have b8:(a1.put F.o1.dst<|.func (.func g) #[] ps).eval (.tmp F.tc)=.func (.func g) #[] ps:=by
   have h0:F.tc<a1.tmps.size:=by rw[r1.siz];exact F.hlt
   simp[Act.put,F.hd1,Act.eval,h0]
  have ar:(execOp (a1.put F.o1.dst<|.func (.func g) #[] ps).eval F.o2).run P w1=.ok (.defer d) w1:=by
   simp[execOp,F.hop2,resolve,b8,Deferred.ofValue,d]
  simp only[wpOpsIn,ax,az,b3,bp,if_true];refine⟨fun _ _=>trivial,?_⟩;show Oper.uponIn _ _ _ _ _ _ _ (Sem.run P (execOp a1.eval F.o1) w1);rw[a7];refine⟨fun _ _=>trivial,?_⟩;show Oper.uponIn _ _ _ _ _ _ _ (Sem.run P (execOp (a1.put F.o1.dst<|.func (.func g) #[] ps).eval F.o2) w1);rw[ar];show Code.wpIn (wd none) 0 P F.rest Q _ w1
  have:({ (a1.put F.o1.dst<|.func (.func g) #[] ps) with defers:=d::(a1.put F.o1.dst<|.func (.func g) #[] ps).defers }:Act).put F.o2.dst undef=a2:=by
   simp[Act.put,F.hd1,F.hd2,a2]
  grind
 refine b7 _ ?_
 have cd:∀c∈s.H.map (·.1),sgI L (sg L c)=c:=by
  grind
 have bu:∀c,1000≤c→sg L c=c:=by
  intro c hc;unfold sg;cases hq:look L c with
 |none=>rfl
 |some d =>
   have:c∈L.map (·.1):=YY.1 (by rw[hq];simp);obtain⟨p,hp,rfl⟩:=List.mem_map.1 this;have:=(hL p hp).1;omega
 let U:Nat→Nat:=fun x=>J<|sgI L x
 have Z:∀c,look s.H c≠none→U (sg L c)=J c:=fun c hc=>by grind [YY]
 have aw:∀c d,c∈s.H.map (·.1)→d∈s.H.map (·.1)→sg L c=sg L d→c=d:=fun c d hc hd he=>by grind
 have ab:∀c k,look s.H c=some k→look (mD L s.H) (sg L c)=some (KR (sg L) k):=by
  intro c k hk;have ch:c∈s.H.map (·.1):=YY.1 zc;unfold mD;rw[zL (fun x y Y hy bx=>aw x y Y zc bx),hk];rfl
 have O:∀x k,look (mD L s.H) x=some k→∃c k',look s.H c=some k'∧sg L c=x∧k=KR (sg L) k':=by
  intro x k Y;have:x∈(mD L s.H).map (·.1):=YY.1 zc;simp only[mD,List.map_map,List.mem_map,Function.comp] at this;obtain⟨q,hq,rfl⟩:=this;have b9:q.1∈s.H.map (·.1):=List.mem_map_of_mem hq;obtain⟨k',cm⟩:=OV.1<|YY.2 b9
  grind
 have am:∀x o,Bv U (look<|mD L s.H) x o→Bv J (look s.H) x o:=by
  rintro x o ⟨y,k,g1,g2,g3⟩;obtain⟨c,k',g4,rfl,rfl⟩:=O y k g1;refine⟨c,k',g4,?_,?_⟩
  ·grind
  ·cases k'<;>exact g3
 have hM:∀x o,MM U (look<|mD L s.H) M0 x o→MM J (look s.H) M0 x o:=fun x o Y=>Y.elim (fun h=>.inl<|am x o h) .inr
 obtain⟨o1,o2⟩:=Qfn (w:=w1) (ρ:=sg L) (φ:=U) (φc:=J) (h:=look<|mD L s.H) (hc:=look s.H) Z hM ab
 have cc:ZX U (look<|mD L s.H) w1 M0:=by
  refine⟨fun x y Y hy he=>?_,fun x k Y=>?_,fun x Y o hm=>?_,r1.hp.lt,r1.hp.gm.sub hM⟩
  ·obtain⟨kx,ao⟩:=OV.1 Y;obtain⟨ky,ca⟩:=OV.1 hy;obtain⟨c,k1,g1,rfl,_⟩:=O x kx ao;obtain⟨c',k2,g2,rfl,_⟩:=O y ky ca;rw[Z c zc,Z c'<|zc] at he;rw[r1.hp.inj c c' zc zc he]
  ·obtain⟨c,k',g1,rfl,rfl⟩:=O x k Y;rw[Z c<|zc];have:=r1.hp.blk c k' g1;cases k' with
  |box ty cs=>obtain⟨c0,q1,q2⟩:=this;exact⟨c0,q1,o2 _ _ q2⟩
  |arr ty S n=>exact this
  |vec ty S es=>obtain⟨c0,cap,q1,q2,q3,q4,q5,q6,q7⟩:=this;exact⟨c0,cap,q1,q2,q3,q4,q5,q6,EX hM _ _ q7⟩
  |lp T nf st pd =>
    obtain⟨tmps,d,q1,q2,q3⟩:=this;refine⟨tmps,d,q1,q2,fun t x ht=>?_⟩;rw[NG] at ht;cases hl:look T t with
   |none=>grind
   |some y =>
     rw[hl] at ht;cases ht
     grind
  |mp es =>
    obtain⟨en,cl,q1,q2,q3⟩:=this;refine⟨en,cl,q1,q2,?_⟩
    grind [xB]
  |mf es =>
    obtain⟨en,cl,q1,q2,q3,q4⟩:=this;exact⟨en,cl,q1,by rw[Tq];exact q2,by grind [Tp],q4⟩
  |mg en cl es =>
    obtain⟨q1,q2,q3,q4⟩:=this;exact⟨q1,by rw[Tq];exact q2,by grind [Tp],q4⟩
  |it m cl sn =>
    obtain⟨q1,k2,q2,q3⟩:=this;exact⟨zc,_,ab m _ q2,by rw[UM,q3];rfl⟩
  ·obtain⟨kx,ao⟩:=OV.1 Y;obtain⟨c,k1,g1,rfl,_⟩:=O x kx ao;rw[Z c<|zc] at hm;exact r1.hp.fr c zc o hm
 have bl:Zi J (look s.H) w1 U (look<|mD L s.H) w1:=by
  have ac:∀c k,1000≤c→look s.H c=some k→look (mD L s.H) c=some (KR (sg L) k)∧U c=J c:=by
   grind
  refine⟨rfl,rfl,rfl,KD _,fun _ _ _=>rfl,fun _ _ _ _=>rfl,fun x o _ hm=>am x o hm,?_,?_,?_,?_⟩
  ·intro c ty cs hc br;obtain⟨h1,h2⟩:=ac c _ hc br;exact⟨⟨Jn (sg L) cs,h1⟩,h2⟩
  ·intro t ty S n ht aq;obtain⟨h1,h2⟩:=ac t _ ht aq;exact⟨n,h1,KD _,fun _=>Ve (h2) rfl⟩
  ·intro t ty S n ht aq;obtain⟨h1,h2⟩:=ac t _ ht aq;exact⟨n,h1,KD _,fun _=>⟨h2,fun c hc=>⟨c,hc,rfl⟩⟩⟩
  grind [UM]
 have ak:(L.map fun p=>AV.ptr (sg L p.1) 0)=Dh L:=List.map_congr_left fun p hp=>by grind
 have ad:∀p∈L,∃ty cs,look (mD L s.H) (sg L p.1)=some (.box ty cs):=by
  intro p hp;obtain⟨_,_,ty,cs,hb⟩:=hL p hp;exact⟨ty,Jn (sg L) cs,ab _ _ hb⟩
 have r2:Zy U M0 fn.ntmps ⟨d::a1.defers,w1.heap.size⟩ (look ((F.tc,.fn (.func g) []<|L.map fun p=>.ptr (sg L p.1) 0)::sgT L s.T)) (look<|mD L s.H) a2 w1:=by
  refine⟨⟨KD _,[],rfl,List.nodup_nil,fun r hr=>by cases hr⟩,by simp[a2,r1.siz],cc,fun t x ht=>?_⟩;simp only[look] at ht;by_cases e:F.tc=t
  ·simp only[e,if_true,ZA] at ht;subst ht;refine⟨e▸F.hlt,?_⟩;have h0:t<a1.tmps.size:=by rw[r1.siz];exact e▸F.hlt
   have:a2.tmps.getD t undef=.func (.func g) #[] ps:=by simp[a2,e,h0]
   rw[this];simp only[Qf,Ql];refine⟨[],ps.toList,by simp,rfl,?_⟩;rw[ba]
   have:∀l:List (Nat×Nat),(∀p∈l,p∈L)→Ql U (look<|mD L s.H) w1 (MM U (look<|mD L s.H) M0) (l.map fun p=>.ptr (sg L p.1) 0) (l.map fun p=>.pointer<|some ⟨J p.1,0,none⟩):=by
    intro l
    induction l with
   |nil=>simp[Ql]
   |cons p l ih =>
     intro hh;simp only[JR,Ql];refine⟨_,_,rfl,?_,ih fun q hq=>hh q<|by simp[hq]⟩;simp only[Qf];obtain⟨_,_,ty,cs,hb⟩:=hL p<|hh p zq;exact⟨zc,ad p<|hh p zq⟩
   grind
  ·simp only[e,if_false] at ht;rw[mE] at ht;cases hq:look s.T t with
  |none=>grind
  |some y =>
    rw[hq] at ht;simp only[Option.map_some,ZA] at ht;subst ht;obtain⟨g1,g2⟩:=r1.tm t y hq;refine⟨g1,?_⟩;have:a2.tmps.getD t undef=a1.tmps.getD t undef:=by simp[a2,Array.getElem?_setIfInBounds_ne e]
    grind
 rw[ak] at r2;refine wpIn_mono (an U M0 _ a2 w1 r2) ?_;rintro e a3 w3 ⟨G,k,s3,hq,r3,E3,Y⟩;have bk:=(E1.trans bl).trans E3
 have a6:∀w,(invoke (.fn (.func g) ps) #[]).run P w=.ok (.enter g ps) w:=fun w=>by
  simp only[invoke];rw[H7 bz];simp
 obtain⟨b5,ms,hd,bo,ah⟩:=r3.dfs;have aj:∀r∈ms,w3.heap[r]?=some (.deferred<|some [])∧∀b,look s3.H b≠none→G b≠r:=fun r hr=>(ah r hr).2
 have ay:∀aa:List Nat,a1.defers=(aa.map fun r=>({ target:=.collected r,args:=#[] }:Deferred))→∀r∈aa,r<w1.heap.size:=by
  intro aa h1 r hr;obtain⟨_,cn,h2,_,h3⟩:=r1.dfs
  grind [Ik,AY]
 have bq:Marks G ⟨[],w.heap.size⟩ (look s3.H) a1 w3:=(r1.dfs.keep bl).keep E3
 have av:Ql G (look s3.H) w3 (MM G (look s3.H) M0) (Dh L) ps.toList:=by
  rw[ba]
  have:∀l:List (Nat×Nat),(∀p∈l,p∈L)→Ql G (look s3.H) w3 (MM G (look s3.H) M0) (Dh l) (l.map fun p=>.pointer<|some ⟨J p.1,0,none⟩):=by
   intro l
   induction l with
  |nil=>simp[Dh,Ql]
  |cons p l ih =>
    intro hh;have hp:=hh p zq;simp only[Dh,JR,Ql];refine⟨_,_,rfl,?_,ih fun q hq=>hh q<|by simp[hq]⟩;simp only[Qf];obtain⟨_,au,ty,cs,hb⟩:=hL p hp;obtain⟨WI,cj,bb⟩:=ad p hp;rw[(af p hp).1.2] at bb;obtain⟨⟨b6,b4⟩,bm⟩:=E3.kb p.2 WI _ au bb;refine⟨?_,WI,b6,b4⟩;rw[bm,←(af p hp).1.2,Z p.1<|zc]
  exact this L fun p hp=>hp
 have go:∀(u u':FrameMode) (rv:AV),u≠.run→settle u'=.returning→DEx P fn.ntmps g (rv::Dh L) s3 (O0 P fn hc R) →
   (∀w',F7 ms w3 w'→∃v,Qf G (look s3.H) w' (MM G (look s3.H) M0) rv v∧QhT u u' v) →
   UL P fn a3.tmps (Out R φ (look hc) w M0) a3.defers u w3:=by
  intro u u' rv hu bj hcall bi;rw[hd];refine ET hu _ ms w3 bo (fun r hr=>(ah r hr).2.1) fun w4 t=>?_
  have r4:=r3.turned t aj;have E4:=bk.turned t (fun r hr=>Nat.le_trans E1.size (ah r hr).1) aj;obtain⟨v,hv,hm⟩:=bi w4 t
  have a8:Ql G (look s3.H) w4 (MM G (look s3.H) M0) (rv::Dh L) (v::ps.toList):=by
   simp only[Ql];refine⟨v,ps.toList,rfl,hv,?_⟩
   have:∀(xs:List AV) (l:List Value),Ql G (look s3.H) w3 (MM G (look s3.H) M0) xs l→Ql G (look s3.H) w4 (MM G (look s3.H) M0) xs l:=by
    intro xs
    induction xs with
   |nil=>simp[Ql]
   |cons x xs ih =>
     intro l hl;simp only[Ql] at hl ⊢;obtain⟨y,ys,rfl,h1,h2⟩:=hl;exact⟨y,ys,rfl,Mj t aj _ _ h1,ih _ h2⟩
   exact this _ _ av
  have bd:=hcall G M0 _ _ w4 (v::ps.toList) r4 a8 u u' v ps.toList rfl hm;rw[Array.toArray_toList] at bd;refine⟨hu,.inr ⟨.func g,ps,g,ps,rfl,a6 w4,bd.mono ?_⟩⟩;rintro e bn w5 ⟨rfl,he⟩;cases e with
 |panicked c=>grind
 |outgrown=>grind
 |returned x =>
  obtain⟨bf,s5,g1,g2,g3⟩:=he;show UL P fn a3.tmps (Out R φ (look hc) w M0) a1.defers (settle bn) w5;rw[bj];obtain⟨_,aa,hd1,bh,al⟩:=bq;have bg:a1.defers=(aa.map fun r=>({ target:=.collected r,args:=#[] }:Deferred))++[]:=hd1
  have ae:∀r∈aa,w5.heap[r]?=some (.deferred<|some [])∧∀b,look s5.H b≠none→bf b≠r:=by
   intro r hr;have h3:=al r hr
   have be:r∉ms:=fun Y=>by
    have h6:w1.heap.size≤r:=(ah r Y).1;have h7:=ay aa zc r hr;omega
   have h4:w4.heap[r]?=some (.deferred<|some []):=by rw[t.same r be];grind
   have hlt:r<w4.heap.size:=(AY.1 h4).1;refine⟨(g3.same r hlt h3.2.2).trans h4,fun b hb e=>?_⟩;cases hk:look s5.H b with
  |none=>exact hb hk
  |some k =>
    obtain⟨o,ho⟩:=EA (φ:=bf) hk;rw[e] at ho;obtain⟨b0,k0,bw,bt,_⟩:=g3.mu r o hlt ho;exact h3.2.2 b0 (by rw[bw];simp) bt
  rw[bg];refine ET zq _ aa w5 bh (fun r hr=>(ae r hr).1) fun w6 t6=>?_
  have r6:=g2.turned t6 ae;have E6:=(E4.trans g3).turned t6 (fun r hr=>(al r hr).1) ae;obtain⟨y,q1,q2⟩:=zM r6 E6 g1;exact⟨y,q1,q2⟩
 cases k with
|normal =>
  simp only[H5] at Y;subst Y;exact go .returning .returning Qcf zq rfl hq fun w' t=>⟨.nilIface,by rfl,fun c0 cs hm=>.inr ⟨by simp[recoverD,hm],rfl,rfl⟩⟩
|ret =>
  simp only[H5] at Y;subst Y;exact go .returning .returning Qcf zq rfl hq fun w' t=>⟨.nilIface,by rfl,fun c0 cs hm=>.inr ⟨by simp[recoverD,hm],rfl,rfl⟩⟩
|exit i=>exact hq.elim
|panic x =>
  obtain⟨v,rfl,hv⟩:=Y;refine go (.panicking [{ v:=v,recovered:=false }]) (.panicking [{ v:=v,recovered:=true }]) x zq rfl hq fun w' t=>⟨v,?_,fun c0 cs hm=>.inl<|by simp[recoverD,hm]⟩
  exact Mj t aj _ _ hv
theorem Qa{a b:α}(h:a=b:=by kernel_rfl):a=b:=h
theorem QW{f g:α→β}(h:∀x,f x=g x:=by intro _;kernel_rfl):∀x,f x=g x:=h
def KT(cs:List PV):List AV:=cs.map .p
def ag(cs:List PV):AV:=.agg<|cs.map .p
inductive Conv where
|id
|sl (S:Nat)
|vn
|vt
|agg (l:List Conv)
mutual
def cv:Conv→AV→AV|.sl _,.tsl S es _=>.p (.sl S es)|.sl S,.p (.val (.slice none 0 0))=>.p (.sl S [])|.vn,.p (.val (.slice none 0 0))=>.vnil|.sl S,.vnil=>.p (.sl S [])|.vt,.vsl S t n=>.vtl S t n 0 n|.agg cs,.agg xs=>.agg (O3 cs xs)|.agg cs,.tup xs=>.tup (O3 cs xs)|_,x=>x
def O3:List Conv→List AV→List AV|_,[]=>[]|[],x::xs=>x::xs|c::cs,x::xs=>cv c x::O3 cs xs
end
theorem Qck:∀n:Nat,(∀(x:AV),SizeOf.sizeOf x≤n→∀c,le x (cv c x))∧(∀(xs:List AV),SizeOf.sizeOf xs≤n→∀cs,EO xs (O3 cs xs)):=by
 intro n
 induction n with
|zero =>
  refine⟨fun x G=>?_,fun es G=>?_⟩
  ·cases x<;>simp at G
  ·cases es<;>simp at G
|succ n J =>
  obtain⟨i1,i2⟩:=J;refine⟨fun x G c=>?_,fun xs G cs=>?_⟩
  ·unfold cv;split
   ·simp[le]
   ·simp[le]
   ·simp[le]
   ·simp[le]
   ·simp[le]
   ·rename_i cs xs;simp only[le]
    grind
   ·rename_i cs xs;simp only[le]
    grind
   ·exact le_refl x
  ·cases xs with
  |nil=>simp[O3,EO]
  |cons x xs =>
    simp at G;cases cs with
   |nil=>simp[O3,fZ]
   |cons c cs=>simp only[O3,EO];grind
theorem mF(c:Conv)(x:AV):le x (cv c x):=(Qck<|SizeOf.sizeOf x).1 x (KD _) c
theorem Gf(cs:List Conv)(xs:List AV):EO xs (O3 cs xs):=(Qck<|SizeOf.sizeOf xs).2 xs (KD _) cs
def QiR(C:List (Nat×Conv))(t:Nat):Conv:=(look C t).getD .id
def zQ(C:List (Nat×Conv))(T:List (Nat×AV)):List Nat→List (Nat×AV)
|[]=>[]
|t::L=>match look T t with|some x=>(t,cv (QiR C t) x)::zQ C T L|none=>zQ C T L
def cvB(cs:List Conv):Blk→Blk|.box ty xs=>.box ty (O3 cs xs)|k=>k
def Yn(C:List (Nat×List Conv))(H:List (Nat×Blk)):List Nat→List (Nat×Blk)
|[]=>[]
|b::L=>match look H b with|some k=>(b,cvB ((look C b).getD []) k)::Yn C H L|none=>Yn C H L
structure LB where
 ts:List Nat
 bs:List Nat
 ct:List (Nat×Conv):=[]
 cb:List (Nat×List Conv):=[]
def shr(K:LB)(s:St):St:=⟨zQ K.ct s.T K.ts,Yn K.cb s.H K.bs⟩
def okT(h:QY):List (Nat×AV)→Bool|[]=>true|(_,x)::l=>Kw h x&&okT h l
def okH(h:QY):List (Nat×Blk)→Bool|[]=>true|(_,k)::l=>okRefB h k&&okH h l
def Qcl(s s':St):Bool:=okT (look s'.H) s'.T&&okH (look s'.H) s'.H&&YH (look s'.H) s.H
def R7(K:LB)(s:St):Option St:=if Qcl s (shr K s) then some (shr K s) else none
theorem Qcm(cs:List Conv)(k:Blk):leB k (cvB cs k):=by
 cases k with
|box ty xs=>exact⟨_,rfl,Gf cs xs⟩
|arr ty S n=>rfl
|vec ty S es=>rfl
|lp T nf st pd=>rfl
|mp es=>rfl
|mf es=>rfl
|mg en G es=>rfl
|it m G sn=>rfl
theorem LW{T:List (Nat×AV)}{h':QY}{C:List (Nat×Conv)}:∀{L:List Nat},okT h' (zQ C T L)=true→zK (look T) h' (zQ C T L)
|[],_=>by simp[zQ,zK]
|t::L,h=>by
  simp only[zQ] at h ⊢;cases ht:look T t with
 |none=>simp only[ht] at h ⊢;exact LW h
 |some x =>
   simp only[ht,okT,Ku] at h ⊢;simp only[zK,ht,leO];exact⟨mF _ _,h.1,LW h.2⟩
theorem VW{H:List (Nat×Blk)}{h':QY}{C:List (Nat×List Conv)}:∀{L:List Nat},okH h' (Yn C H L)=true→NU (look H) h' (Yn C H L)
|[],_=>by simp[Yn,NU]
|b::L,h=>by
  simp only[Yn] at h ⊢;cases hb:look H b with
 |none=>simp only[hb] at h ⊢;exact VW h
 |some k =>
   simp only[hb,okH,Ku] at h ⊢;simp only[NU,hb,QiM];exact⟨Qcm _ _,h.1,VW h.2⟩
theorem Qfu{K:LB}(h:R7 K s=some s')(r:Zy φ M0 N D (look s.T) (look s.H) a w):Zy φ M0 N D (look s'.T) (look s'.H) a w∧Zi φ (look s.H) w φ (look s'.H) w:=by
 unfold R7 at h;split at h
 ·rename_i hok;simp only[ZA] at h;subst h;simp only[Qcl,Ku] at hok;exact mh (LW hok.1.1) (VW hok.1.2) hok.2 r
 ·cases h
theorem Rt{K:LB}(h:R7 K s=some s'):Weak N s s':=by
 unfold R7 at h;split at h
 ·rename_i hok;simp only[ZA] at h;subst h;simp only[Qcl,Ku] at hok;exact Qce (LW hok.1.1) (VW hok.1.2) hok.2
 ·cases h
structure QZ{R:Type}(o:Option R)(P:Program)(N:Nat)(ro:Option Nat)(c:Code)(s:St)(Q:R→AX→St→Prop):Prop where
 intro ::
 h:∀r,o=some r→Ex P N ro c s (Q r)
structure ZK{R:Type}(o:Option R)(Q:R→AX→St→Prop)(x:AX)(s:St):Prop where
 intro ::
 h:∀r,o=some r→Q r x s
def vH{R:Type}(P:Program)(N:Nat)(ro:Option Nat)(y:Code)(Q:R→AX→St→Prop):R→AX→St→Prop:=fun r=>andThen (fun s'=>Ex P N ro y s'<|Q r)<|Q r
def mG{R:Type}(id:Nat)(Q:R→AX→St→Prop):R→AX→St→Prop:=fun r=>inBlock id<|Q r
def kQ{V R:Type}(N:Nat)(k:V→Option R)(S:V→St)(Q:R→AX→St→Prop):R→AX→St→Prop:=fun r=>andThen (fun s'=>∃v,k v=some r∧Weak N s' (S v))<|Q r
def Qfv{V:Type}(N:Nat)(S:V→St):V→AX→St→Prop:=fun v x s'=>x=.normal∧Weak N s' (S v)
section
variable {R V:Type}{o o1 o2:Option R}{P:Program}{N:Nat}{ro:Option Nat}{x y c:Code}{s s':St}{Q:R→AX→St→Prop}
theorem sS(h:QZ o P N ro x s (vH P N ro y Q)):QZ o P N ro (.seq x y) s Q:=⟨fun r G=>jW<|h.h r G⟩
theorem sK(h:ZK o Q .normal s):QZ o P N ro .skip s Q:=⟨fun r G=>Qe3<|h.h r G⟩
theorem Qap{l:Nat}(h:ZK o Q .normal s):QZ o P N ro (.label l) s Q:=⟨fun r G=>QbP<|h.h r G⟩
theorem sT(h:ZK o Q .ret s):QZ o P N ro .ret s Q:=⟨fun r G=>QiD<|h.h r G⟩
theorem Qs(h:ZK o Q (.exit id) s):QZ o P N ro (.exit id) s Q:=⟨fun r G=>Qe4<|h.h r G⟩
theorem sB(h:QZ o P N ro c s (mG id Q)):QZ o P N ro (.block id c) s Q:=⟨fun r G=>QbQ<|h.h r G⟩
theorem Qaq(h:QZ o P N ro c s Q):QZ o P N ro (.scope c) s Q:=⟨fun r G=>QbR<|h.h r G⟩
theorem Zw(hw:Weak N s s')(h:QZ o P N ro c s' Q):QZ o P N ro c s Q:=⟨fun r G=>R9 hw<|h.h r G⟩
theorem sP(K:LB)(s':St)(hw:R7 K s=some s')(h:QZ o P N ro c s' Q):QZ o P N ro c s Q:=⟨fun r G=>R9 (Rt hw)<|h.h r G⟩
theorem sC{a:Operand}(b:Bool)(hb:Zn (look s.T) a=some (.p<|.val<|.bool b))(O:QZ o1 P N ro x s Q)(J:QZ o2 P N ro y s Q):QZ (cond b o1 o2) P N ro (.cond a x y) s Q:=by
 refine⟨fun r G=>?_⟩;refine jX b hb (fun e=>?_) fun e=>?_
 ·subst e;exact O.h r G
 ·subst e;exact J.h r G
theorem QP{a:Operand}(J:QZ o P N ro x s Q)(hb:Zn (look s.T) a=some (.p<|.val<|.bool true):=by kernel_rfl):QZ o P N ro (.cond a x y) s Q:=⟨fun r G=>jX true hb (fun _=>J.h r G) fun e=>by cases e⟩
theorem QO{a:Operand}(J:QZ o P N ro y s Q)(hb:Zn (look s.T) a=some (.p<|.val<|.bool false):=by kernel_rfl):QZ o P N ro (.cond a x y) s Q:=⟨fun r G=>jX false hb (fun e=>by cases e) fun _=>J.h r G⟩
theorem sN(K:LB)(s':St)(hw:R7 K s=some s')(h:QZ o P N ro y s' Q):ZK o (vH P N ro y Q) .normal s:=⟨fun r G=>(sP (Q:=Q) K s' hw h).h r G⟩
theorem Q5(h:ZK o Q .ret s):ZK o (vH P N ro y Q) .ret s:=⟨fun r G=>h.h r G⟩
theorem ZG(h:ZK o Q (.exit i) s):ZK o (vH P N ro y Q) (.exit i) s:=⟨fun r G=>h.h r G⟩
theorem KU(h:ZK o Q (.panic p) s):ZK o (vH P N ro y Q) (.panic p) s:=⟨fun r G=>h.h r G⟩
theorem QS(h:ZK o Q .normal s):ZK o (mG id Q) .normal s:=⟨fun r G=>h.h r G⟩
theorem Zg(h:ZK o Q .ret s):ZK o (mG id Q) .ret s:=⟨fun r G=>h.h r G⟩
theorem Zo(h:ZK o Q (.panic p) s):ZK o (mG id Q) (.panic p) s:=⟨fun r G=>h.h r G⟩
theorem QM(h:ZK o Q .normal s):ZK o (mG id Q) (.exit id) s:=by
 refine⟨fun r G=>?_⟩;have:=h.h r G
 simp_all [mG,inBlock]
theorem qo(hi:(i==id)=false)(h:ZK o Q (.exit i) s):ZK o (mG id Q) (.exit i) s:=by
 refine⟨fun r G=>?_⟩;have:=h.h r G
 simp_all [mG,inBlock]
theorem Qlb{k:V→Option R}{S:V→St}(v:V)(K:LB)(hw:R7 K s=some (S v)):ZK (k v) (kQ N k S Q) .normal s:=⟨fun r G=>⟨v,G,Rt hw⟩⟩
theorem YL{k:V→Option R}{S:V→St}(h:ZK o Q .ret s):ZK o (kQ N k S Q) .ret s:=⟨fun r G=>h.h r G⟩
theorem KS{k:V→Option R}{S:V→St}(h:ZK o Q (.exit i) s):ZK o (kQ N k S Q) (.exit i) s:=⟨fun r G=>h.h r G⟩
theorem Zv{k:V→Option R}{S:V→St}(h:ZK o Q (.panic p) s):ZK o (kQ N k S Q) (.panic p) s:=⟨fun r G=>h.h r G⟩
theorem Qcn{S:V→St}(v:V)(K:LB)(hw:R7 K s=some (S v)):ZK (some v) (Qfv N S) .normal s:=⟨fun r G=>by cases G;exact⟨rfl,Rt hw⟩⟩
theorem KA(S:V→St)(k:V→Option R)(Y:∀v,QZ (k v) P N ro y (S v) Q)(O:QZ o P N ro x s (kQ N k S Q)):QZ o P N ro (.seq x y) s Q:=by
 refine⟨fun r J=>?_⟩;refine jW<|qi (O.h r J) ?_;intro e s' G;cases e with
|normal=>obtain⟨v,U,hw⟩:=G;exact R9 hw<|(Y v).h r U
|exit i=>exact G
|ret=>exact G
|panic p=>exact G
theorem YI(S:V→St){m:Option V}{k:V→Option R}(J:QZ m P N ro x s (Qfv N S))(U:∀v,QZ (k v) P N ro y (S v) Q):QZ (m.bind k) P N ro (.seq x y) s Q:=by
 refine⟨fun r G=>?_⟩;obtain⟨v,O,Y⟩:=Es.1 G;refine jW<|qi (J.h v O) ?_;rintro e s' ⟨rfl,hw⟩;exact R9 hw<|(U v).h r Y
end
def QB{V R:Type}(B:(V→Option R)→V→Option R):Nat→V→Option R|0,_=>none|k+1,v=>B (QB B k) v
theorem QF{R V:Type}{Q:R→AX→St→Prop}(S:V→St){B:(V→Option R)→V→Option R}{v0:V}(hw:Weak N s (S v0))(Y:∀rec v,QZ (B rec v) P N ro c (S v) (kQ N rec S Q)):QZ (QB B n v0) P N ro (.loop c) s Q:=by
 refine⟨fun r Z=>?_⟩;refine R9 hw<|tY (ι:={ p:Nat×V // QB B p.1 p.2=some r }) (fun p=>S p.1.2) (fun p=>p.1.1) ⟨(n,v0),Z⟩ ?_;rintro⟨⟨k,v⟩,U⟩;cases k with
|zero=>cases U
|succ k =>
  refine qi ((Y (QB B k) v).h r U) ?_;intro e s' G;cases e with
 |normal=>obtain⟨v',O,J⟩:=G;exact⟨⟨(k,v'),O⟩,by simp,J⟩
 |exit i=>exact G
 |ret=>exact G
 |panic p=>exact G
def plain:Op→Bool|.pick _ _ _=>false|.panic _=>false|.call ⟨.value _,_,_⟩=>false|_=>true
theorem Pj{op:Op}(h:plain op=true):yieldOf T op=none:=by
 unfold yieldOf
 grind [plain]
def XR(P:Program)(N:Nat)(ops:Array Oper)(Q:AX→St→Prop)(d:Option (List YU))(l:List Oper)(s:St):Prop :=
 match d with
|none=>YG P N ops Q l s
|some acc=>Ya P N ops Q l acc s
def zR(u:Kv):YU:=(u.2.1.map (·.1),u.2.2)
def more(d:Option (List YU))(f:YU):Option (List YU):=d.map (f::·)
def nxt(ops:Array Oper)(o:Oper)(s:St)(u:Kv):St:=Uu ⟨ZE ops o s.T true,s.H⟩ o.dst u
def mk(ops:Array Oper)(o:Oper)(s:St)(b:Bool):St:=⟨ZE ops o s.T b,s.H⟩
section
variable {P:Program}{N:Nat}{ops:Array Oper}{o:Oper}{l:List Oper}{d:Option (List YU)}{s:St}{Q:AX→St→Prop}
theorem NH(hw:ZT ops o (look s.T)=some true)(hp:plain o.op=true){u:Kv}(hu:We P o (look<|ZE ops o s.T true) (look s.H)=some u)(J:KL N o.dst=true)(h:XR P N ops Q (more d<|zR u) l (nxt ops o s u)):XR P N ops Q d (o::l) s:=by
 cases d with
|none =>
  show YG P N ops Q (o::l) s;simp only[YG,hw,Z9,Pj hp];show H6 P N o _ _ _;unfold H6;split
  ·rename_i G;rw[G] at hp;cases hp
  ·rename_i G;rw[G] at hp;cases hp
  ·rename_i G;rw[G] at hp;cases hp
  ·rw[hu];exact .inl ⟨J,h⟩
|some acc =>
  show Ya P N ops Q (o::l) acc s;simp only[Ya,hw,Z9];split
  ·rename_i G;rw[G] at hp;cases hp
  ·rename_i G;rw[G] at hp;cases hp
  ·rename_i G;rw[G] at hp;cases hp
  ·rw[hu];exact .inl ⟨J,h⟩
theorem mH(hw:ZT ops o (look s.T)=some false)(G:KL N o.dst=true)(h:XR P N ops Q (more d (none,[])) l (St.put (mk ops o s false) o.dst<|.p<|.val undef)):XR P N ops Q d (o::l) s:=by
 cases d with
|none =>
  show YG P N ops Q (o::l) s;simp only[YG,hw,Lu];exact⟨G,h⟩
|some acc =>
  show Ya P N ops Q (o::l) acc s;simp only[Ya,hw,Lu];exact⟨G,h⟩
theorem lN{c:Operand}(hw:ZT ops o (look s.T)=some true)(O:o.op=.pick c x y)(b:Bool)(hc:Zn (look<|ZE ops o s.T true) c=some (.p<|.val<|.bool b)){v:AV}(U:Zn (look<|ZE ops o s.T true) (cond b x y)=some v)(J:KL N o.dst=true)(h:XR P N ops Q (more d (none,[])) l (St.put (mk ops o s true) o.dst v)):XR P N ops Q d (o::l) s:=by
 have G:∀z,cond b x y=z→WT (look<|ZE ops o s.T true) z=some (v,none,[]):=by
  rintro z rfl;simp[WT,U]
 cases d with
|none =>
  show YG P N ops Q (o::l) s;have Y:yieldOf (look<|ZE ops o s.T true) o.op=none:=by simp[yieldOf,O]
  simp only[YG,hw,Z9,Y];show H6 P N o _ _ _;unfold H6;simp only[O,hc];have e:∀s:St,Uu s o.dst (v,none,[])=St.put s o.dst v:=fun s=>by unfold Uu St.put;cases o.dst<;>rfl
  cases b
  ·refine⟨(fun h=>by cases h),fun _=>?_⟩;rw[G y rfl];exact⟨J,by rw[e];exact h⟩
  ·refine⟨fun _=>?_,fun h=>by cases h⟩;rw[G x rfl];exact⟨J,by rw[e];exact h⟩
|some acc =>
  show Ya P N ops Q (o::l) acc s;simp only[Ya,hw,Z9,O,hc];cases b
  ·refine⟨(fun h=>by cases h),fun _=>?_⟩;rw[G y rfl];exact⟨J,h⟩
  ·refine⟨fun _=>?_,fun h=>by cases h⟩;rw[G x rfl];exact⟨J,h⟩
end
def step1(P:Program)(N:Nat)(ops:Array Oper)(o:Oper)(s:St):Option (St×YU) :=
 match ZT ops o (look s.T) with
|some true =>
  if KL N o.dst then
   match o.op with
  |.pick c x y =>
    match Zn (look<|ZE ops o s.T true) c with
   |some (.p (.val (.bool true)))=>match Zn (look<|ZE ops o s.T true) x with|some v=>some (St.put (mk ops o s true) o.dst v,(none,[]))|none=>none
   |some (.p (.val (.bool false)))=>match Zn (look<|ZE ops o s.T true) y with|some v=>some (St.put (mk ops o s true) o.dst v,(none,[]))|none=>none
   |_=>none
  |op=>if plain op then(match We P o (look<|ZE ops o s.T true) (look s.H) with|some u=>some (nxt ops o s u,zR u)|none=>none) else none
  else none
|some false=>if KL N o.dst then some (St.put (mk ops o s false) o.dst<|.p<|.val undef,(none,[])) else none
|none=>none
def runs(P:Program)(N:Nat)(ops:Array Oper):Nat→List Oper→St→List YU→Option (St×List YU)
|0,_,s,acc=>some (s,acc)
|_+1,[],s,acc=>none
|k+1,o::l,s,acc=>match step1 P N ops o s with|some (s',f)=>runs P N ops k l s' (f::acc)|none=>none
def zU(P:Program)(N:Nat)(ops:Array Oper):List Oper→St→List YU→Option (St×List YU)
|[],s,acc=>some (s,acc)
|o::l,s,acc=>match step1 P N ops o s with|some (s',f)=>zU P N ops l s' (f::acc)|none=>none
def Mv(P:Program)(N:Nat)(ops:Array Oper)(draw:Bool)(s:St):Option St :=
 match zU P N ops ops.toList s [] with
|some (s',acc)=>if draw then(if Yq ops acc.reverse&&Fb ops then some s' else none) else some s'
|none=>none
section
variable {P:Program}{N:Nat}{ops:Array Oper}{s:St}{Q:AX→St→Prop}
theorem lQ{l:List Oper}{d:Option (List YU)}{f:YU}(G:step1 P N ops o s=some (s',f))(h:XR P N ops Q (more d f) l s'):XR P N ops Q d (o::l) s:=by
 unfold step1 at G;split at G
 ·rename_i hw;split at G
  ·rename_i J;split at G
   ·rename_i c x y U;split at G
    ·rename_i hc;split at G
     ·rename_i v O;simp only[ZA,LK] at G;obtain⟨rfl,rfl⟩:=G
      grind [lN]
     ·cases G
    ·rename_i hc;split at G
     ·rename_i v O;simp only[ZA,LK] at G;obtain⟨rfl,rfl⟩:=G
      grind [lN]
     ·cases G
    ·cases G
   ·split at G
    ·rename_i hp;split at G
     ·rename_i u hu;simp only[ZA,LK] at G;obtain⟨rfl,rfl⟩:=G
      grind [NH]
     ·cases G
    ·cases G
  ·cases G
 ·rename_i hw;split at G
  ·rename_i J;simp only[ZA,LK] at G;obtain⟨rfl,rfl⟩:=G;exact mH hw J h
  ·cases G
 ·cases G
theorem Ip:∀{l:List Oper} {s:St} {acc G:List YU} {s':St} {b:Bool},zU P N ops l s acc=some (s',G)→XR P N ops Q (if b then some G else none) [] s'→XR P N ops Q (if b then some acc else none) l s
|[],s,acc,G,s',b,J,h=>by
  simp only[zU,ZA,LK] at J
  grind
|o::l,s,acc,G,s',b,J,h=>by
  simp only[zU] at J;split at J
  ·rename_i s1 f hs;refine lQ hs ?_;have:=Ip (b:=b) J h;cases b
   ·exact this
   ·exact this
  ·cases J
theorem qp{d:Option (List YU)}:∀{k:Nat} {l:List Oper} {s:St} {acc G:List YU} {s':St},runs P N ops k l s acc=some (s',G)→(d=none∨d=some acc)→XR P N ops Q (d.map fun _=>G) (l.drop k) s'→XR P N ops Q d l s
|0,l,s,acc,G,s',J,O,h=>by
  simp only[runs,ZA,LK] at J
  grind
|k+1,[],s,acc,G,s',J,O,h=>by cases J
|k+1,o::l,s,acc,G,s',J,O,h=>by
  simp only[runs] at J;split at J
  ·rename_i s1 f hs;refine lQ hs ?_;rcases O with rfl|rfl
   ·exact qp (d:=none) J (.inl rfl) h
   ·exact qp (d:=some (f::acc)) J (.inr rfl) h
  ·cases J
theorem Iq{draw:Bool}(O:P.follows .mixedOrders=true)(G:Mv P N ops draw s=some s')(h:Q .normal s'):Ex P N ro (.region id ops draw) s Q:=by
 unfold Mv at G;split at G
 ·rename_i s1 acc J;cases draw with
 |false =>
   simp only[Bool.false_eq_true,if_false,ZA] at G;subst G;exact wL<|Ip (b:=false) J (show YG P N ops Q [] s1 from h)
 |true =>
   simp only[if_true] at G;split at G
   ·rename_i hc;simp only[Ku] at hc;simp only[ZA] at G;subst G;exact lG O hc.2<|Ip (b:=true) J (show Ya P N ops Q [] acc s1 from⟨hc.1,h⟩)
   ·cases G
 ·cases G
end
def dOf(dr:Bool)(acc:List YU):Option (List YU):=cond dr (some acc) none
structure KX{R:Type}(o:Option R)(P:Program)(N:Nat)(ops:Array Oper)(Q:R→AX→St→Prop)(dr:Bool)(acc:List YU)(l:List Oper)(s:St):Prop where
 intro ::
 h:∀r,o=some r→XR P N ops (Q r) (dOf dr acc) l s
def QiT(P:Program)(N:Nat)(ops:Array Oper)(k:Nat)(l:List Oper)(s:St):St:=match runs P N ops k l s [] with|some (s',_)=>s'|none=>s
def runF(P:Program)(N:Nat)(ops:Array Oper)(k:Nat)(l:List Oper)(s:St)(acc:List YU):List YU:=match runs P N ops k l s acc with|some (_,a)=>a|none=>[]
def Qlc(P:Program)(N:Nat)(ops:Array Oper)(k:Nat)(l:List Oper)(s:St):Bool:=(runs P N ops k l s []).isSome
theorem zV{P:Program}{N:Nat}{ops:Array Oper}:∀(k:Nat) (l:List Oper) (s:St) (acc:List YU),runs P N ops k l s acc=(runs P N ops k l s []).map fun p=>(p.1,p.2++acc)
|0,l,s,acc=>by simp[runs]
|k+1,[],s,acc=>by simp[runs]
|k+1,o::l,s,acc=>by
  simp only[runs];cases step1 P N ops o s with
 |none=>rfl
 |some p =>
   obtain⟨s',f⟩:=p;simp only;rw[zV k l s' (f::acc),zV k l s' [f]];simp[Option.map_map,Function.comp_def]
theorem Dj(dr:Bool)(acc:List YU)(f:YU):more (dOf dr acc) f=dOf dr (f::acc):=by cases dr<;>rfl
section
variable {R V:Type}{a a1 a2:Option R}{P:Program}{N:Nat}{ro:Option Nat}{ops:Array Oper}{o:Oper}{l:List Oper}{dr:Bool}{acc:List YU}{s s':St}{Q:R→AX→St→Prop}{y:Code}{id:Nat}{draw:Bool}
theorem sR(Y:P.follows .mixedOrders=true)(K:LB)(s':St)(J:(Mv P N ops draw s).bind (R7 K)=some s')(h:QZ a P N ro y s' Q):QZ a P N ro (.seq (.region id ops draw) y) s Q:=by
 obtain⟨s1,U,O⟩:=Es.1 J;refine⟨fun r G=>?_⟩;exact jW<|Iq Y U<|R9 (Rt O)<|h.h r G
theorem Qco(O:P.follows .mixedOrders=true)(J:Mv P N ops draw s=some s1)(h:ZK a Q .normal s1):QZ a P N ro (.region id ops draw) s Q:=⟨fun r G=>Iq O J<|h.h r G⟩
def zW(P:Program)(N:Nat)(ops:Array Oper)(draw:Bool)(s:St):St:=(Mv P N ops draw s).getD s
theorem sL(G:P.follows .mixedOrders=true)(h:ZK a Q .normal (zW P N ops draw s))(J:(Mv P N ops draw s).isSome=true:=by kernel_rfl):QZ a P N ro (.region id ops draw) s Q:=by
 grind [zW,TZ,Qco]
theorem sG(h:KX a P N ops Q false [] ops.toList s):QZ a P N ro (.region id ops false) s Q:=⟨fun r G=>wL<|h.h r G⟩
theorem Vb(J:P.follows .mixedOrders=true)(O:Fb ops=true)(h:KX a P N ops Q true [] ops.toList s):QZ a P N ro (.region id ops true) s Q:=⟨fun r G=>lG J O<|h.h r G⟩
theorem xR(k:Nat)(h:KX a P N ops Q dr (runF P N ops k l s acc) (l.drop k) (QiT P N ops k l s))(Y:Qlc P N ops k l s=true:=by kernel_rfl):KX a P N ops Q dr acc l s:=by
 refine⟨fun r U=>?_⟩;obtain⟨⟨s1,f⟩,O⟩:=TZ.1 Y;have G:=h.h r U;have e1:QiT P N ops k l s=s1:=by simp[QiT,O]
 rw[e1] at G;have J:=zV (P:=P) (N:=N) (ops:=ops) k l s acc;rw[O] at J;have Z:runF P N ops k l s acc=f++acc:=by simp[runF,J]
 rw[Z] at G;cases dr with
|false=>exact qp (d:=none) O (.inl rfl) G
|true=>exact qp (d:=some acc) J (.inr rfl) G
theorem xE(h:ZK a Q .normal s):KX a P N ops Q false acc [] s:=⟨fun r G=>h.h r G⟩
theorem YM(h:ZK a Q .normal s)(hc:Yq ops acc.reverse=true:=by kernel_rfl):KX a P N ops Q true acc [] s:=⟨fun r G=>⟨hc,h.h r G⟩⟩
theorem xS(b:Bool)(J:b=true→KX a1 P N ops Q dr acc l s)(G:b=false→KX a2 P N ops Q dr acc l s):KX (cond b a1 a2) P N ops Q dr acc l s:=by
 grind
def Qfw(P:Program)(ops:Array Oper)(o:Oper)(s:St):Kv:=(We P o (look<|ZE ops o s.T true)<|look s.H).getD (.p<|.val undef,none,[])
theorem xO(hw:ZT ops o (look s.T)=some true)(h:KX a P N ops Q dr (zR (Qfw P ops o s)::acc) l (nxt ops o s<|Qfw P ops o s))(hp:(plain o.op&&(We P o (look<|ZE ops o s.T true)<|look s.H).isSome&&KL N o.dst)=true:=by kernel_rfl):KX a P N ops Q dr acc (o::l) s:=by
 simp only[Ku] at hp;obtain⟨u,hu⟩:=TZ.1 hp.1.2;have e:Qfw P ops o s=u:=by simp[Qfw,hu]
 rw[e] at h;exact⟨fun r G=>NH hw hp.1.1 hu hp.2<|Dj dr acc _▸h.h r G⟩
theorem xN(hw:ZT ops o (look s.T)=some false)(h:KX a P N ops Q dr ((none,[])::acc) l (St.put (mk ops o s false) o.dst<|.p<|.val undef))(J:KL N o.dst=true:=by kernel_rfl):KX a P N ops Q dr acc (o::l) s :=
 ⟨fun r G=>mH hw J<|Dj dr acc _▸h.h r G⟩
theorem QD{b:Bool}(J:b=true)(G:ZT ops o (look s.T)=some (b==true):=by kernel_rfl):ZT ops o (look s.T)=some true:=by grind
theorem Q3{b:Bool}(J:b=false)(G:ZT ops o (look s.T)=some (b==false):=by kernel_rfl):ZT ops o (look s.T)=some true:=by grind
theorem QE{b:Bool}(J:b=false)(G:ZT ops o (look s.T)=some (b==true):=by kernel_rfl):ZT ops o (look s.T)=some false:=by grind
theorem Q4{b:Bool}(J:b=true)(G:ZT ops o (look s.T)=some (b==false):=by kernel_rfl):ZT ops o (look s.T)=some false:=by grind
theorem xF{c:Bool}{u:Kv}(hu:c=true→We P o (look<|ZE ops o s.T true) (look s.H)=some u)(h:KX a P N ops Q dr (zR u::acc) l (nxt ops o s u))(hw:ZT ops o (look s.T)=some true:=by kernel_rfl)(hp:(plain o.op&&KL N o.dst)=true:=by kernel_rfl):KX (cond c a none) P N ops Q dr acc (o::l) s:=by
 simp only[Ku] at hp;refine⟨fun r G=>?_⟩;cases c with
|false=>cases G
|true=>exact NH hw hp.1 (hu rfl) hp.2<|Dj dr acc _▸h.h r G
theorem xG{m:Option V}{k:V→Option R}{u:V→Kv}(hu:∀v,m=some v→We P o (look<|ZE ops o s.T true) (look s.H)=some (u v))(h:∀v,KX (k v) P N ops Q dr (zR (u v)::acc) l (nxt ops o s<|u v))(hw:ZT ops o (look s.T)=some true:=by kernel_rfl)(hp:(plain o.op&&KL N o.dst)=true:=by kernel_rfl):KX (m.bind k) P N ops Q dr acc (o::l) s:=by
 simp only[Ku] at hp;refine⟨fun r G=>?_⟩;obtain⟨v,J,O⟩:=Es.1 G;exact NH hw hp.1 (hu v J) hp.2<|Dj dr acc _▸(h v).h r O
theorem Zd{u:Kv}(hu:We P o (look<|ZE ops o s.T true) (look s.H)=some u)(h:KX a P N ops Q dr (zR u::acc) l (nxt ops o s u))(hw:ZT ops o (look s.T)=some true:=by kernel_rfl)(hp:(plain o.op&&KL N o.dst)=true:=by kernel_rfl):KX a P N ops Q dr acc (o::l) s:=by
 simp only[Ku] at hp;exact⟨fun r G=>NH hw hp.1 hu hp.2<|Dj dr acc _▸h.h r G⟩
end
structure Dk{R:Type}(a:Option R)(K:R→St→Prop)(s:St):Prop where
 intro ::
 h:∀r,a=some r→K r s
structure NV{R:Type}(a:Option R)(P:Program)(N:Nat)(f:FuncId)(args:List AV)(dst:Option Tmp)(s:St)(K:R→St→Prop)(Q:R→AX→St→Prop):Prop where
 intro ::
 h:∀r,a=some r→TH P N f args dst s (K r) (Q r)
def fKr{R:Type}(P:Program)(N:Nat)(ops:Array Oper)(Q:R→AX→St→Prop)(l:List Oper):R→St→Prop:=fun r s=>XR P N ops (Q r) none l s
def fKq{R:Type}(Q:R→AX→St→Prop):R→St→Prop:=fun r s=>Q r .normal s
section
variable {R V E:Type}{a a1 a2:Option R}{P:Program}{N:Nat}{ro:Option Nat}{ops:Array Oper}{o:Oper}{l:List Oper}{dr:Bool}{acc:List YU}{s s':St}{Q:R→AX→St→Prop}{K:R→St→Prop}{f:FuncId}{args args':List AV}{dst:Option Tmp}
theorem kr(h:KX a P N ops Q false acc l s):Dk a (fKr P N ops Q l) s:=⟨fun r G=>h.h r G⟩
theorem Yb(h:KX a P N ops Q false [] l s):Dk a (fKr P N ops Q l) s:=⟨fun r G=>h.h r G⟩
theorem kqn(h:ZK a Q .normal s):Dk a (fKq Q) s:=⟨fun r G=>h.h r G⟩
def MC:Op→Bool|.call ⟨.value _,_,_⟩=>true|_=>false
theorem TK{op:Op}{p:FuncId×List AV}(h:Kk T op=some p):MC op=true:=by
 unfold Kk at h;split at h
 ·rfl
 ·rfl
 ·cases h
theorem Xx{op:Op}{p:FuncId×List AV}(h:Kk T op=some p):yieldOf T op=none:=by
 unfold yieldOf
 grind [Kk]
theorem Hq{P:Program}{N:Nat}{o:Oper}{s:St}{K:St→Prop}{Q:AX→St→Prop}{f:FuncId}{args:List AV}(hf:Kk (look s.T) o.op=some (f,args))(hb:Vx P f=true)(h:TH P N f args o.dst s K Q):H6 P N o s K Q:=by
 unfold H6;split
 ·grind [Kk]
 ·grind [Kk]
 ·grind
 ·rename_i G O J;have:=TK hf
  grind [MC,absurd]
theorem Z4(hw:ZT ops o (look s.T)=some true)(hf:Kk (look<|ZE ops o s.T true) o.op=some (f,args))(hb:Vx P f=true)(h:NV a P N f args o.dst (mk ops o s true) (fKr P N ops Q l) Q):KX a P N ops Q false acc (o::l) s:=by
 refine⟨fun r G=>?_⟩;show YG P N ops (Q r) (o::l) s;simp only[YG,hw,Z9,Xx hf];exact Hq hf hb<|h.h r G
theorem Qar(hw:ZT ops o (look s.T)=some true)(hf:Kk (look<|ZE ops o s.T true) o.op=some (f,args))(hb:(Vx P f&&UK ops acc.length&&Yq ops acc.reverse)=true)(h:NV a P N f args o.dst (mk ops o s true) (fKq Q) Q):KX a P N ops Q true acc [o] s:=by
 refine⟨fun r J=>?_⟩;simp only[Ku] at hb;show Ya P N ops (Q r) [o] acc s;simp only[Ya,hw,Z9];split
 ·grind [Kk]
 ·rename_i g G ts U;exact .inr<|.inl ⟨rfl,hb.1.2,hb.2,Hq hf hb.1.1<|h.h r J⟩
 ·grind [Kk]
 ·rename_i O Z Y;have:=TK hf
  grind [MC,absurd]
theorem Tt(hi:MC o.op=true)(h:KX a P N ops Q false [] (o::l) s)(hw:ZT ops o (look s.T)=some true:=by kernel_rfl)(hb:(UK ops acc.length&&Yq ops acc.reverse&&Tn ops acc.length&&fO ops s (o::l))=true:=by kernel_rfl):KX a P N ops Q true acc (o::l) s:=by
 refine⟨fun r G=>?_⟩;simp only[Ku] at hb;have J:YG P N ops (Q r) (o::l) s:=h.h r G;show Ya P N ops (Q r) (o::l) acc s;simp only[Ya,hw,Z9];split
 ·grind [MC]
 ·exact .inr<|.inr<|.inl ⟨hb.1.1.1,hb.1.1.2,hb.1.2,hb.2,J⟩
 ·grind [MC]
 grind [MC,absurd]
theorem xC{m:Option V}{k:V→Option R}{X:V→AV}(C:List Conv)(hc:∀v,m=some v→Zc P f args' (.ret<|X v))(G:∀v,YC (X v)=true)(h:∀v,KX (k v) P N ops Q dr ((none,[])::acc) l (St.put (mk ops o s true) o.dst<|X v))(hw:ZT ops o (look s.T)=some true:=by kernel_rfl)(hf:(Kk (look<|ZE ops o s.T true) o.op).map (fun p=>(p.1,O3 C p.2))=some (f,args'):=by kernel_rfl)(hb:(Vx P f&&KL N o.dst&&Vw args')=true:=by kernel_rfl):KX (m.bind k) P N ops Q dr acc (o::l) s:=by
 refine⟨fun r Y=>?_⟩;obtain⟨v,J,O⟩:=Es.1 Y;obtain⟨⟨f0,args⟩,hcall,hp⟩:=F3.1 hf;simp only[LK] at hp;obtain⟨rfl,rfl⟩:=hp;simp only[Ku] at hb;cases dr with
|false =>
  show YG P N ops (Q r) (o::l) s;simp only[YG,hw,Z9,Xx hcall];exact Hq hcall hb.1.1<|Ig (hc v J) (Gf C args) hb.2 (G v) (Kc hb.1.2)<|(h v).h r O
|true =>
  show Ya P N ops (Q r) (o::l) acc s;simp only[Ya,hw,Z9];split
  ·grind [Kk]
  ·rename_i g U ts Z;rw[Z] at hcall;exact Qfr (hc v J) hcall hb.1.1 hb.1.2 (Gf C args) hb.2 (G v)<|(h v).h r O
  ·grind [Kk]
  ·rename_i h1 h2 h3;have:=TK hcall
   grind [MC,absurd]
def dW(X:V→AV)(Y:E→AV):Except E V→KQ|.ok v=>.ret (X v)|.error e=>.panic<|Y e
theorem E8{m:Option V}{k:V→Option R}{X:V→AV}(C:List Conv)(hc:∀v,m=some v→Zc P f args' (.ret<|X v))(U:O3 C args=args')(hb:(KL N dst&&Vw args')=true)(J:∀v,YC (X v)=true)(h:∀v,Dk (k v) K (s.put dst<|X v)):NV (m.bind k) P N f args dst s K Q:=by
 refine⟨fun r G=>?_⟩;obtain⟨v,O,Y⟩:=Es.1 G;simp only[Ku] at hb;subst U;exact Ig (hc v O) (Gf C args) hb.2 (J v) (Kc hb.1)<|(h v).h r Y
theorem QiU{m:Option (Except E V)}{k:Except E V→Option R}{X:V→AV}{Y:E→AV}(C:List Conv)(hc:∀v,m=some v→Zc P f args' (dW X Y v))(ha:O3 C args=args')(hb:(KL N dst&&Vw args')=true)(U:∀v,YC (X v)=true)(hy:∀e,YC (Y e)=true)(h:∀v,Dk (k<|.ok v) K (s.put dst<|X v))(Z:∀e,ZK (k<|.error e) Q (.panic<|Y e) s):NV (m.bind k) P N f args dst s K Q:=by
 refine⟨fun r O=>?_⟩;obtain⟨v,hv,J⟩:=Es.1 O;simp only[Ku] at hb;subst ha;have G:=hc v hv;cases v with
|ok v=>exact Ig G (Gf C args) hb.2 (U v) (Kc hb.1)<|(h v).h r J
|error e=>exact OY G (Gf C args) hb.2 (hy e)<|(Z e).h r J
def Tu{E V R:Type}(k:V→Option R)(e:E→Option R):Except E V→Option R|.ok v=>k v|.error x=>e x
theorem TL{m:Option (Except E V)}{k:V→Option R}{ke:E→Option R}{X:V→AV}{Y:E→AV}(C:List Conv)(hc:∀v,m=some v→Zc P f args' (dW X Y v))(G:∀v,YC (X v)=true)(O:∀e,YC (Y e)=true)(h:∀v,KX (k v) P N ops Q false ((none,[])::acc) l (St.put (mk ops o s true) o.dst<|X v))(J:∀e,ZK (ke e) Q (.panic<|Y e) (mk ops o s true))(hw:ZT ops o (look s.T)=some true:=by kernel_rfl)(hf:(Kk (look<|ZE ops o s.T true) o.op).map (fun p=>(p.1,O3 C p.2))=some (f,args'):=by kernel_rfl)(hb:(Vx P f&&KL N o.dst&&Vw args')=true:=by kernel_rfl):KX (m.bind<|Tu k ke) P N ops Q false acc (o::l) s:=by
 obtain⟨⟨f0,args⟩,hcall,hp⟩:=F3.1 hf;simp only[LK] at hp;obtain⟨rfl,hp⟩:=hp;simp only[Ku] at hb;exact Z4 hw hcall hb.1.1 (QiU C hc hp (by simp[hb]) G O (fun v=>kr<|h v) J)
theorem xPa(t:TypeId)(v:AV)(hw:ZT ops o (look s.T)=some true)(G:o.op=.panic x)(U:Zn (look<|ZE ops o s.T true) x=some (.ifc t v))(h:ZK a Q (.panic<|.ifc t v) (mk ops o s true)):KX a P N ops Q false acc (o::l) s:=by
 refine⟨fun r J=>?_⟩;show YG P N ops (Q r) (o::l) s;have O:yieldOf (look<|ZE ops o s.T true) o.op=none:=by simp[yieldOf,G]
 simp only[YG,hw,Z9,O];show H6 P N o _ _ _;unfold H6;simp only[G,U];exact h.h r J
def QiV(P:Program)(fn:Func)(X:R→KQ):R→AX→St→Prop:=fun r=>Qcd P fn (·=X r)
def Jq:KQ→AV|.ret y=>y|.panic y=>y
theorem qR{X:V→KQ}{v:V}(C:Conv)(h:(Mh P fn (look s.T)<|look s.H).map (cv C)=some (Jq<|X v):=by kernel_rfl)(G:X v=.ret (Jq<|X v):=by kernel_rfl)(Y:YC (Jq<|X v)=true:=by kernel_rfl):ZK (some v) (QiV P fn X) .ret s:=by
 refine⟨fun r J=>?_⟩;cases J;obtain⟨x,O,U⟩:=F3.1 h;exact⟨x,Jq<|X v,O,U▸mF C x,Y,G.symm⟩
theorem mJ{X:V→KQ}{v:V}(G:X v=.panic p:=by kernel_rfl)(O:YC p=true:=by kernel_rfl):ZK (some v) (QiV P fn X) (.panic p) s:=by
 refine⟨fun r J=>?_⟩;cases J;exact⟨O,G.symm⟩
theorem Qx{X:R→KQ}(hf:P.funcs[f]?=some fn)(hb:fn.body=some c)(O:fn.ntmps=n)(G:Nat.ble args.length n=true)(h:QZ a P n none c ⟨Xw 0 args,[]⟩ (QiV P fn X))(r:R)(J:a=some r):Zc P f args (X r):=by
 subst O;exact fU hf hb (Nat.le_of_ble_eq_true G)<|h.h r J
end
def QT{α:Type}(l:List α)(i:Int):Option α:=if i<0 then none else l[i.toNat]?
section
variable {P:Program}{o:Oper}{T:Nat→Option AV}{h:QY}
theorem xK{k k':IntKind}{a b:Int}(G:o.op=.binOp .shl tx x y ty)(J:Zn T x=some (.p<|.val<|.int k a))(O:Zn T y=some (.p<|.val<|.int k' b))(hc:(!QC b 0)=true) :
  We P o T h=some (.p<|.val<|.int k<|WU k a b,none,[]):=by
 have hb:¬b<0:=by grind [QC]
 simp[We,G,OW,J,O,D8,EF,hb,Ti]
abbrev wi(x:Int):Int:=IntKind.i64.wrap x
abbrev wu(x:Int):Int:=IntKind.u64.wrap x
abbrev w8(x:Int):Int:=IntKind.u8.wrap x
abbrev Qc{α:Type}(l:List α):Int:=(l.length:Int)
abbrev Ky(x:UInt8):Int:=(x.toNat:Int)
def Xp(a b:Int):Int:=if b<a then b else a
theorem QQ{t:TypeId}{S:Nat}{k:IntKind}{n:Int}{sv:AV}(Z:o.op=.indexAddr t x ix)(hn:Zn T ix=some (.p<|.val<|.int k n))(hx:Zn T x=some sv)(hs:elems sv=some (S,List.map enc l))(ht:P.underlying t=some (.slice e))(hi:(P.info? e).map (·.size)=some S)(v:α)(G:QT l n=some v):We P o T h=some (.eptr<|enc v,none,[]):=by
 unfold QT at G;split at G
 ·cases G
 ·rename_i J;obtain⟨i,Y,U⟩:=F3.1 hi
  have O:wF (some sv)=false:=by
   cases sv with
  |p x=>rfl
  |tsl S es t=>rfl
  |_=>cases hs
  simp_all [We,Ti,JA]
def KN(x:List PV):List PV:=x
theorem LC(l:List (List PV)):List.map KN l=l:=List.map_id l
theorem K6{t:TypeId}{S:Nat}{dec:List PV→Option α}{l:List (List PV)}{k:IntKind}{n:Int}{sv:AV}(hd:∀r v,dec r=some v→enc v=r)(J:o.op=.indexAddr t x ix)(G:Zn T ix=some (.p<|.val<|.int k n))(O:Zn T x=some sv)(hs:elems sv=some (S,List.map KN l))(Y:P.underlying t=some (.slice e))(hi:(P.info? e).map (·.size)=some S)(v:α)(Z:(QT l n).bind dec=some v):We P o T h=some (.eptr<|enc v,none,[]):=by
 obtain⟨r,U,h2⟩:=Es.1 Z;rw[hd r v h2];exact QQ J G O hs Y hi r U
theorem Uw{t:TypeId}{l:List UInt8}{k:IntKind}{n:Int}(G:o.op=.index t x ix)(Y:Zn T ix=some (.p<|.val<|.int k n))(J:Zn T x=some (.p<|.val<|.string<|Xr l))(U:P.underlying t=some .string)(v:UInt8)(O:QT l n=some v):We P o T h=some (.p<|.val<|.int .u8 v.toNat,none,[]):=by
 grind [QT,We,Ti,AZ,Ny,D7]
def xL(P:Program):Nat→TypeId→Value→Value→Option Bool
|0,_,_,_=>none
|d+1,t,x,y =>
  match P.underlying t with
 |some .bool=>match x,y with|.bool a,.bool b=>some (a==b)|_,_=>none
 |some (.int _)=>match x,y with|.int k a,.int k' b=>if k=k' then some (Qp a b) else none|_,_=>none
 |some .string=>match x,y with|.string a,.string b=>some (Q0 (Hm a)<|Hm b)|_,_=>none
 |some (.struct fields)=>match x,y with
  |.agg xs,.agg ys=>if P.stoodInHeld t then none else fields.toList.foldr (fun f r=>if f.name="_" then r else
     match FC P f.type xs.toList f.offset,FC P f.type ys.toList f.offset with
    |some a,some b=>match xL P d f.type a b,r with|some p,some q=>some (p&&q)|_,_=>none
    |_,_=>none) (some true)
  |_,_=>none
 |some (.array len e)=>match x,y with
  |.agg xs,.agg ys=>if(P.info? e).isNone then none else(List.range len).foldr (fun i r =>
     match FC P e xs.toList (i*P.cellsOf e),FC P e ys.toList (i*P.cellsOf e) with
    |some a,some b=>match xL P d e a b,r with|some p,some q=>some (p&&q)|_,_=>none
    |_,_=>none) (some true)
  |_,_=>none
 |_=>none
theorem NI(P:Program):∀(d:Nat) (t:TypeId) (x y:Value),xL P d t x y=eqV P d t x y
 |0,t,x,y=>by simp[xL,eqV]
 |d+1,t,x,y=>by
    have hf:∀(xs ys:List Value) (J:List Field),J.foldr (fun f r=>if f.name="_" then r else
          match FC P f.type xs f.offset,FC P f.type ys f.offset with
         |some a,some b=>match xL P d f.type a b,r with|some p,some q=>some (p&&q)|_,_=>none
         |_,_=>none) (some true)=eqV.eqFs P d xs ys J:=by
      intro xs ys J
      induction J with
     |nil=>simp[eqV.eqFs]
     |cons f J O =>
        simp only[List.foldr_cons,eqV.eqFs,O];split
        · rfl
        · split
          · rename_i a b U Y;simp only[U,Y,NI P d f.type a b];grind
          simp
    have ha:∀(e:TypeId) (xs ys:List Value) (G:List Nat),G.foldr (fun i r =>
          match FC P e xs (i*P.cellsOf e),FC P e ys (i*P.cellsOf e) with
         |some a,some b=>match xL P d e a b,r with|some p,some q=>some (p&&q)|_,_=>none
         |_,_=>none) (some true)=eqV.eqAs P d e (P.cellsOf e) xs ys G:=by
      intro e xs ys G
      induction G with
     |nil=>simp[eqV.eqAs]
     |cons i G O =>
        simp only[List.foldr_cons,eqV.eqAs,O];split
        · rename_i a b U Y;simp only[U,Y,NI P d e a b];grind
        simp
    unfold xL eqV;cases hu:P.underlying t with
   |none=>rfl
   |some Z =>
      cases Z with
     |bool=>rfl
     |int k=>rfl
     |string=>rfl
     |struct fields =>
        grind
     |array len e =>
        grind
     |_=>rfl
theorem xM{xs ys:List AV}{vx vy:List Value}{b:Bool}(O:o.op=.binOp .eql tx x y ty)(U:Zn T x=some (.agg xs))(Z:Zn T y=some (.agg ys))(Y:P.eqGuardType P.depth tx=false)(J:BD xs=some vx)(G:BD ys=some vy)(hb:xL P 4 tx (.agg vx.toArray) (.agg vy.toArray)=some b):We P o T h=some (.p<|.val<|.bool<|R6 b,none,[]):=by
 simp_all [We,OW,Ti,aEq,fB,NI]
theorem CB{xs ys:List AV}{vx vy:List Value}{b:Bool}(O:o.op=.binOp .neq tx x y ty)(U:Zn T x=some (.agg xs):=by kernel_rfl)(Z:Zn T y=some (.agg ys):=by kernel_rfl)(Y:P.eqGuardType P.depth tx=false:=by kernel_rfl)(J:BD xs=some vx:=by kernel_rfl)(G:BD ys=some vy:=by kernel_rfl)(hb:xL P 4 tx (.agg vx.toArray) (.agg vy.toArray)=some b:=by kernel_rfl):We P o T h=some (.p<|.val<|.bool (!R6 b),none,[]):=by
 simp_all [We,OW,Ti,aEq,fB,NI]
end
def JU{V:Type}(X:V→KQ×List (Nat×Blk))(v:V):KQ→QY→Prop:=fun r h'=>r=(X v).1∧h'=look (X v).2
def hQ{V:Type}(P:Program)(fn:Func)(hc:List (Nat×Blk))(X:V→KQ×List (Nat×Blk)):V→AX→St→Prop:=fun v=>lI P fn hc<|JU X v
section
variable {R V E:Type}{a a1 a2:Option R}{P:Program}{N:Nat}{ro:Option Nat}{ops:Array Oper}{o:Oper}{l:List Oper}{dr:Bool}{acc:List YU}{s s':St}{Q:R→AX→St→Prop}{K:R→St→Prop}{f:FuncId}{args args':List AV}{dst:Option Tmp}
theorem Ye{X:R→KQ×List (Nat×Blk)}(hc:List (Nat×Blk))(hf:P.funcs[f]?=some fn)(hb:fn.body=some c)(O:fn.ntmps=n)(J:Nat.ble args.length n=true)(h:QZ a P n none c ⟨Xw 0 args,hc⟩ (hQ P fn hc X))(r:R)(G:a=some r) :
  VC P f args (look hc) (JU X r):=by
 subst O;exact OC hf hb (Nat.le_of_ble_eq_true J)<|h.h r G
def Pk(hc hc':List (Nat×Blk))(y:AV):Bool:=Kw (look hc') y&&okH (look hc') hc'&&YH (look hc') hc
theorem Qcp{X:V→KQ×List (Nat×Blk)}{v:V}(C:Conv)(bs:List Nat)(cb:List (Nat×List Conv))(h:(Mh P fn (look s.T)<|look s.H).map (cv C)=some (Jq (X v).1))(G:(X v).1=.ret (Jq (X v).1))(U:Yn cb s.H bs=(X v).2)(hok:Pk hc (X v).2 (Jq (X v).1)=true):O0 P fn hc (JU X v) s:=by
 obtain⟨x,J,O⟩:=F3.1 h;simp only[Pk,Ku] at hok;refine⟨x,Jq (X v).1,(X v).2,J,O▸mF C x,hok.1.1,?_,hok.2,G.symm,rfl⟩
 grind [VW]
theorem YN{X:V→KQ×List (Nat×Blk)}{v:V}(C:Conv)(bs:List Nat)(cb:List (Nat×List Conv))(h:(Mh P fn (look s.T)<|look s.H).map (cv C)=some (Jq (X v).1):=by kernel_rfl)(G:(X v).1=.ret (Jq (X v).1):=by kernel_rfl)(O:Yn cb s.H bs=(X v).2:=by kernel_rfl)(hok:Pk hc (X v).2 (Jq (X v).1)=true:=by kernel_rfl):ZK (some v) (hQ P fn hc X) .ret s:=⟨fun r J=>by cases J;exact Qcp C bs cb h G O hok⟩
theorem dX{X:V→KQ×List (Nat×Blk)}{v:V}(C:Conv)(bs:List Nat)(cb:List (Nat×List Conv))(h:(Mh P fn (look s.T)<|look s.H).map (cv C)=some (Jq (X v).1):=by kernel_rfl)(G:(X v).1=.ret (Jq (X v).1):=by kernel_rfl)(O:Yn cb s.H bs=(X v).2:=by kernel_rfl)(hok:Pk hc (X v).2 (Jq (X v).1)=true:=by kernel_rfl):ZK (some v) (hQ P fn hc X) .normal s:=⟨fun r J=>by cases J;exact Qcp C bs cb h G O hok⟩
theorem K7{X:V→KQ×List (Nat×Blk)}{v:V}(bs:List Nat)(cb:List (Nat×List Conv))(G:(X v).1=.panic p:=by kernel_rfl)(O:Yn cb s.H bs=(X v).2:=by kernel_rfl)(hok:Pk hc (X v).2 p=true:=by kernel_rfl):ZK (some v) (hQ P fn hc X) (.panic p) s:=by
 refine⟨fun r J=>?_⟩;cases J;simp only[Pk,Ku] at hok;refine⟨p,(X v).2,le_refl p,hok.1.1,?_,hok.2,G.symm,rfl⟩
 grind [VW]
def Wh(L:List (Nat×Nat))(c:Nat):Nat:=(look L c).getD c
def Qcq(ρ:Nat→Nat):List Nat→Bool|[]=>true|c::l=>l.all (fun d=>ρ c != ρ d||c==d)&&Qcq ρ l
theorem GV{ρ:Nat→Nat}:∀{l:List Nat},Qcq ρ l=true→∀c∈l,∀d∈l,ρ c=ρ d→c=d
|[],_,c,hc,_,_,_=>by cases hc
|x::l,h,c,hc,d,O,J=>by
  simp only[Qcq,Ku,Fx] at h;rcases List.mem_cons.1 hc with rfl|hc'<;>rcases List.mem_cons.1 O with rfl|G
  ·rfl
  ·grind
  ·grind
  ·exact GV h.2 c hc' d G J
def XY(ρ:Nat→Nat)(hc hc' H:List (Nat×Blk)):Bool :=(hc.map (·.1)).all (fun c=>(hc'.map (·.1)).contains c)&&(hc'.map (·.1)).all (fun c=>(hc.map (·.1)).contains c||(look H (ρ c)).isNone)&&Qcq ρ (hc'.map (·.1))
theorem Gg(h:XY ρ hc hc' H=true):Rq ρ hc hc' H:=by
 simp only[XY,Ku] at h;refine⟨fun c hc=>?_,fun c hc=>?_,GV h.2⟩
 ·grind
 ·have:=Fx.1 h.1.2 c hc
  simp_all
theorem Dl{h:QY}:∀{l:List (Nat×Blk)},okH h l=true→∀c k,look l c=some k→okRefB h k=true
|[],_,c,k,G=>by simp[look] at G
|(b,x)::l,J,c,k,G=>by
  simp only[okH,Ku] at J;simp only[look] at G;by_cases e:b=c
  ·grind
  ·simp only[e,if_false] at G;exact Dl J.2 c k G
def Dm(H:List (Nat×Blk))(ρ:Nat→Nat)(cb:List (Nat×List Conv))(hc:List (Nat×Blk)):List (Option Blk):=hc.map fun p=>(look H<|ρ p.1).map<|cvB<|(look cb p.1).getD []
theorem GX{H:List (Nat×Blk)}{ρ:Nat→Nat}{cb:List (Nat×List Conv)}:∀{hc:List (Nat×Blk)},Dm H ρ cb hc=hc.map (fun p=>some<|KR ρ p.2)→∀c k,look hc c=some k→∃k0,look H (ρ c)=some k0∧leB k0 (KR ρ k)
|[],_,c,k,G=>by simp[look] at G
|(b,x)::l,J,c,k,G=>by
  simp only[Dm,JR,List.cons.injEq] at J;simp only[look] at G;by_cases e:b=c
  ·simp only[e,if_true,ZA] at G
   grind [F3,Qcm]
  ·simp only[e,if_false] at G;exact GX (hc:=l) J.2 c k G
def Xy(N:Nat)(dst:Option Tmp)(ρ:Nat→Nat)(hc:List (Nat×Blk))(args':List AV):Bool :=KL N dst&&K5 (look hc) args'&&(hc.map (·.1)).all (fun c=>decide (1000≤c))&&okH (look hc) hc&&Qcq ρ (hc.map (·.1))
def Qcr(K:St→Prop)(Q:AX→St→Prop)(s:St)(dst:Option Tmp)(ρ:Nat→Nat)(hc':List (Nat×Blk)):KQ→Prop|.ret x=>K (St.put ⟨s.T,KM ρ hc' s.H⟩ dst<|Xb ρ x)|.panic x=>Q (.panic<|Xb ρ x) ⟨s.T,KM ρ hc' s.H⟩
theorem Ir{P:Program}{N:Nat}{s:St}{K:St→Prop}{Q:AX→St→Prop}{x:KQ}(L:List (Nat×Nat))(C:List Conv)(cb:List (Nat×List Conv))(hcall:VC P f args' (look hc) (fun r h'=>r=x∧h'=look hc'))(G:O3 C args=Jn (Wh L) args')(hok:Xy N dst (Wh L) hc args'=true)(hsub:Dm s.H (Wh L) cb hc=hc.map (fun p=>some<|KR (Wh L) p.2))(J:XY (Wh L) hc hc' s.H=true)(O:Qcr K Q s dst (Wh L) hc' x):TH P N f args dst s K Q:=by
 simp only[Xy,Ku] at hok;obtain⟨⟨⟨⟨Y,h2⟩,h3⟩,Z⟩,U⟩:=hok;refine PT (Wh L) hcall (G▸Gf C args) h2 (fun c hc=>by grind) (Dl Z) (GX hsub) (GV U) (Kc Y) ?_;rintro r h' ⟨rfl,rfl⟩;refine⟨hc',KM (Wh L) hc' s.H,rfl,Gg J,fun _=>rfl,?_⟩;cases r with
|ret x=>exact O
|panic x=>exact O
theorem JD{m:Option V}{k:V→Option R}{X:V→KQ×List (Nat×Blk)}(L:List (Nat×Nat))(C:List Conv)(cb:List (Nat×List Conv))(hcall:∀v,m=some v→VC P f args' (look hc) (JU X v))(G:O3 C args=Jn (Wh L) args')(hok:Xy N dst (Wh L) hc args'=true)(hsub:Dm s.H (Wh L) cb hc=hc.map (fun p=>some<|KR (Wh L) p.2))(J:∀v,XY (Wh L) hc (X v).2 s.H=true)(U:∀v,(X v).1=.ret (Jq (X v).1))(h:∀v,Dk (k v) K (St.put ⟨s.T,KM (Wh L) (X v).2 s.H⟩ dst<|Xb (Wh L)<|Jq (X v).1)):NV (m.bind k) P N f args dst s K Q:=by
 refine⟨fun r O=>?_⟩;obtain⟨v,Z,hk⟩:=Es.1 O;have Y:=U v;refine Ir L C cb (hcall v Z) G hok hsub (J v) ?_;rw[Y];exact(h v).h r hk
theorem mK{m:Option (Except E V)}{k:V→Option R}{ke:E→Option R}{X:Except E V→KQ×List (Nat×Blk)}(L:List (Nat×Nat))(C:List Conv)(cb:List (Nat×List Conv))(hcall:∀v,m=some v→VC P f args' (look hc) (JU X v))(G:O3 C args=Jn (Wh L) args')(hok:Xy N dst (Wh L) hc args'=true)(hsub:Dm s.H (Wh L) cb hc=hc.map (fun p=>some<|KR (Wh L) p.2))(J:∀v,XY (Wh L) hc (X<|.ok v).2 s.H=true)(O:∀v,XY (Wh L) hc (X<|.error v).2 s.H=true)(hX:∀v,(X<|.ok v).1=.ret (Jq (X<|.ok v).1))(hY:∀v,(X<|.error v).1=.panic (Jq (X<|.error v).1))(h:∀v,Dk (k v) K (St.put ⟨s.T,KM (Wh L) (X<|.ok v).2 s.H⟩ dst<|Xb (Wh L)<|Jq (X<|.ok v).1))(he:∀e,ZK (ke e) Q (.panic<|Xb (Wh L)<|Jq (X<|.error e).1) ⟨s.T,KM (Wh L) (X<|.error e).2 s.H⟩):NV (m.bind<|Tu k ke) P N f args dst s K Q:=by
 refine⟨fun r Z=>?_⟩;obtain⟨v,U,Y⟩:=Es.1 Z;cases v with
|ok v =>
  refine Ir L C cb (hcall _ U) G hok hsub (J v) ?_;rw[hX v];exact(h v).h r Y
|error e =>
  refine Ir L C cb (hcall _ U) G hok hsub (O e) ?_;rw[hY e];exact(he e).h r Y
theorem Gh{m:Option V}{k:V→Option R}{X:V→KQ×List (Nat×Blk)}(L:List (Nat×Nat))(C:List Conv)(cb:List (Nat×List Conv))(hcall:∀v,m=some v→VC P f args' (look hc) (JU X v))(J:∀v,XY (Wh L) hc (X v).2 s.H=true)(O:∀v,(X v).1=.ret (Jq (X v).1))(h:∀v,KX (k v) P N ops Q false ((none,[])::acc) l (St.put ⟨(mk ops o s true).T,KM (Wh L) (X v).2 s.H⟩ o.dst<|Xb (Wh L)<|Jq (X v).1))(hw:ZT ops o (look s.T)=some true:=by kernel_rfl)(hf:(Kk (look<|ZE ops o s.T true) o.op).map (fun p=>(p.1,O3 C p.2))=some (f,Jn (Wh L) args'):=by kernel_rfl)(hok:(Vx P f&&Xy N o.dst (Wh L) hc args')=true:=by kernel_rfl)(hsub:Dm s.H (Wh L) cb hc=hc.map (fun p=>some<|KR (Wh L) p.2):=by kernel_rfl):KX (m.bind k) P N ops Q false acc (o::l) s:=by
 obtain⟨⟨f0,args⟩,G,hp⟩:=F3.1 hf;simp only[LK] at hp;obtain⟨rfl,hp⟩:=hp;simp only[Ku] at hok;exact Z4 hw G hok.1<|JD L C cb hcall hp hok.2 hsub J O fun v=>kr<|h v
theorem Ru{m:Option (Except E V)}{k:V→Option R}{ke:E→Option R}{X:Except E V→KQ×List (Nat×Blk)}(L:List (Nat×Nat))(C:List Conv)(cb:List (Nat×List Conv))(hcall:∀v,m=some v→VC P f args' (look hc) (JU X v))(O:∀v,XY (Wh L) hc (X<|.ok v).2 s.H=true)(J:∀v,XY (Wh L) hc (X<|.error v).2 s.H=true)(Z:∀v,(X<|.ok v).1=.ret (Jq (X<|.ok v).1))(Y:∀v,(X<|.error v).1=.panic (Jq (X<|.error v).1))(h:∀v,KX (k v) P N ops Q false ((none,[])::acc) l (St.put ⟨(mk ops o s true).T,KM (Wh L) (X<|.ok v).2 s.H⟩ o.dst<|Xb (Wh L)<|Jq (X<|.ok v).1))(U:∀e,ZK (ke e) Q (.panic<|Xb (Wh L)<|Jq (X<|.error e).1) ⟨(mk ops o s true).T,KM (Wh L) (X<|.error e).2 s.H⟩)(hw:ZT ops o (look s.T)=some true:=by kernel_rfl)(hf:(Kk (look<|ZE ops o s.T true) o.op).map (fun p=>(p.1,O3 C p.2))=some (f,Jn (Wh L) args'):=by kernel_rfl)(hok:(Vx P f&&Xy N o.dst (Wh L) hc args')=true:=by kernel_rfl)(hsub:Dm s.H (Wh L) cb hc=hc.map (fun p=>some<|KR (Wh L) p.2):=by kernel_rfl):KX (m.bind<|Tu k ke) P N ops Q false acc (o::l) s:=by
 obtain⟨⟨f0,args⟩,G,hp⟩:=F3.1 hf;simp only[LK] at hp;obtain⟨rfl,hp⟩:=hp;simp only[Ku] at hok;exact Z4 hw G hok.1<|mK L C cb hcall hp hok.2 hsub O J Z Y (fun v=>kr<|h v) U
def Qas:List AV→Option (List PV)|[]=>some []|.p x::l=>(Qas l).map (x::·)|_=>none
theorem wU:∀{l:List AV} {ps:List PV},Qas l=some ps→l=ps.map .p
|[],ps,h=>by grind [Qas]
|x::l,ps,h=>by
  cases x with
 |p x =>
   simp only[Qas] at h;obtain⟨J,G,rfl⟩:=F3.1 h;simp[wU G]
 |_=>simp[Qas] at h
def roV(H:QY)(cs:List Conv):AV→Option AV
|.ptr b off=>match H b with
 |some (.box _ l)=>match Qas (O3 cs l) with
  |some ps=>if GH (ps.map .p) then some (.eptr<|ps.drop off) else none
  |none=>none
 |_=>none
|_=>none
inductive RoC where
|cv (c:Conv)
|ro (cs:List Conv)
def roA(H:QY):RoC→AV→Option AV|.cv c,x=>some (cv c x)|.ro cs,x=>roV H cs x
def xP(H:QY):List RoC→List AV→Option (List AV)
|[],[]=>some []
|c::cs,x::xs=>match roA H c x,xP H cs xs with|some y,some ys=>some (y::ys)|_,_=>none
|_,_=>none
theorem Qcs{H:QY}{c:RoC}{x y:AV}(h:roA H c x=some y):leR H x y:=by
 cases c with
|cv c=>simp only[roA,ZA] at h;subst h;exact .inl<|mF c x
|ro cs =>
  simp only[roA,roV] at h;split at h
  ·rename_i b off;split at h
   ·rename_i ty l hb;split at h
    ·rename_i ps G;split at h
     ·rename_i J;simp only[ZA] at h;subst h;exact Qfq hb (wU G▸Gf cs l) J rfl
     ·cases h
    ·cases h
   ·cases h
  ·cases h
theorem NJ{H:QY}:∀{cs:List RoC} {xs ys:List AV},xP H cs xs=some ys→dV H xs ys
|[],[],ys,h=>by grind [xP,dV]
|[],_::_,ys,h=>by simp[xP] at h
|_::_,[],ys,h=>by simp[xP] at h
|c::cs,x::xs,ys,h=>by
  simp only[xP] at h;split at h
  ·rename_i y G J O;simp only[ZA] at h;subst h;exact⟨y,G,rfl,Qcs J,NJ O⟩
  ·cases h
theorem Rw{m:Option V}{k:V→Option R}{X:V→AV}(C:List RoC)(hc:∀v,m=some v→Zc P f args' (.ret<|X v))(Y:∀v,flat (X v)=true)(h:∀v,KX (k v) P N ops Q false ((none,[])::acc) l (St.put (mk ops o s true) o.dst<|X v))(hw:ZT ops o (look s.T)=some true:=by kernel_rfl)(hf:(Kk (look<|ZE ops o s.T true) o.op).bind (fun p=>(xP (look s.H) C p.2).map fun a=>(p.1,a))=some (f,args'):=by kernel_rfl)(hb:(Vx P f&&KL N o.dst&&Vw args')=true:=by kernel_rfl):KX (m.bind k) P N ops Q false acc (o::l) s:=by
 refine⟨fun r U=>?_⟩;obtain⟨v,Z,hk⟩:=Es.1 U;obtain⟨⟨f0,args⟩,hcall,hp⟩:=Es.1 hf;obtain⟨O,J,G⟩:=F3.1 hp;simp only[LK] at G;obtain⟨rfl,rfl⟩:=G;simp only[Ku] at hb;show YG P N ops (Q r) (o::l) s;simp only[YG,hw,Z9,Xx hcall];exact Hq hcall hb.1.1<|xH (hc v Z) (NJ J) hb.2 (Kc hb.1.2) ⟨Y v,(h v).h r hk⟩
theorem Iu{m:Option (Except E V)}{k:V→Option R}{ke:E→Option R}{X:V→AV}{Y:E→AV}(C:List RoC)(hc:∀v,m=some v→Zc P f args' (dW X Y v))(hx:∀v,flat (X v)=true)(hy:∀v,flat (Y v)=true)(h:∀v,KX (k v) P N ops Q false ((none,[])::acc) l (St.put (mk ops o s true) o.dst<|X v))(he:∀e,ZK (ke e) Q (.panic<|Y e) (mk ops o s true))(hw:ZT ops o (look s.T)=some true:=by kernel_rfl)(hf:(Kk (look<|ZE ops o s.T true) o.op).bind (fun p=>(xP (look s.H) C p.2).map fun a=>(p.1,a))=some (f,args'):=by kernel_rfl)(hb:(Vx P f&&KL N o.dst&&Vw args')=true:=by kernel_rfl):KX (m.bind<|Tu k ke) P N ops Q false acc (o::l) s:=by
 refine⟨fun r Z=>?_⟩;obtain⟨v,hv,O⟩:=Es.1 Z;obtain⟨⟨f0,args⟩,hcall,hp⟩:=Es.1 hf;obtain⟨U,J,G⟩:=F3.1 hp;simp only[LK] at G;obtain⟨rfl,rfl⟩:=G;simp only[Ku] at hb;show YG P N ops (Q r) (o::l) s;simp only[YG,hw,Z9,Xx hcall];refine Hq hcall hb.1.1<|xH (hc v hv) (NJ J) hb.2 (Kc hb.1.2) ?_;cases v with
|ok v=>exact⟨hx v,(h v).h r O⟩
|error e=>exact⟨hy e,(he e).h r O⟩
end
def QX(n bytes:Nat):Bool:=decide (n*bytes≤140737488355328∧n≤140737488355328)
section
variable {P:Program}{o:Oper}{T:Nat→Option AV}{h:QY}
theorem KC{t:TypeId}{s:Operand}{S:Nat}{l2:List α}(ho:o.op=.call ⟨.builtin .append,#[s,x],#[t,t]⟩)(ht:P.underlying t=some (.slice e))(hi:(P.info? e).bind (fun i=>i.zero.map fun z=>(i.size,i.bytes,z.cells.size))=some (S,by_,S))(hS:Nat.ble 1 S=true)(hs:Zn T s=some (.tsl S (List.map enc l) tk))(hx:Zn T x=some xv)(he:BI S xv=some (List.map enc l2))(hn:l2.isEmpty=false)(hb:h tk=some (.arr e S (List.map enc l).length))(hc:QX (l++l2).length by_=true):We P o T h=some (.tsl S (List.map enc<|l++l2) tk,some (tk,.arr e S (List.map enc<|l++l2).length),[tk]):=by
 obtain⟨i,Y,J⟩:=Es.1 hi;obtain⟨z,O,G⟩:=F3.1 J;simp only[LK] at G;obtain⟨rfl,rfl,hz⟩:=G;have U:¬l2=[]:=by grind
 have Z:0<i.size:=Nat.le_of_ble_eq_true hS
 simp_all [QX,We,wF,D9,isNil]
theorem Xz{t:TypeId}{s:Operand}{S:Nat}{l2:List α}(Z:o.op=.call ⟨.builtin .append,#[s,x],#[t,t]⟩)(ht:P.underlying t=some (.slice e))(hi:(P.info? e).bind (fun i=>i.zero.map fun z=>(i.size,i.bytes,z.cells.size))=some (S,by_,S))(hS:Nat.ble 1 S=true)(hs:Zn T s=some (.tsl S (List.map enc l) tk))(hx:Zn T x=some xv)(he:BI S xv=some (List.map enc l2))(hb:h tk=some (.arr e S (List.map enc l).length))(hc:QX (l++l2).length by_=true):We P o T h=some (.tsl S (List.map enc<|l++l2) tk,some (tk,.arr e S (List.map enc<|l++l2).length),[tk]):=by
 obtain⟨i,U,J⟩:=Es.1 hi;obtain⟨z,O,G⟩:=F3.1 J;simp only[LK] at G;obtain⟨rfl,rfl,hz⟩:=G;have Y:0<i.size:=Nat.le_of_ble_eq_true hS
 simp_all [QX,We,wF,D9,isNil]
end
inductive OL(α:Type) where
|nil
|own (l:List α)
def OL.toL{α:Type}:OL α→List α|.nil=>[]|.own l=>l
@[simp] theorem OL.toL_nil{α:Type}:(OL.nil:OL α).toL=[]:=rfl
@[simp] theorem OL.toL_own{α:Type}(l:List α):(OL.own l).toL=l:=rfl
section
variable {R V E:Type}{a a1 a2:Option R}{P:Program}{N:Nat}{ro:Option Nat}{ops:Array Oper}{o:Oper}{l:List Oper}{dr:Bool}{acc:List YU}{s s' s1:St}{Q:R→AX→St→Prop}{K:R→St→Prop}{f:FuncId}{args args':List AV}{dst:Option Tmp}
theorem Xg{m:Option V}{k:V→Option R}{u:V→Kv}(hu:∀v,m=some v→We P o (look<|ZE ops o s.T true) (look s.H)=some (u v))(h:∀v,m=some v→KX (k v) P N ops Q dr (zR (u v)::acc) l (nxt ops o s<|u v))(hw:ZT ops o (look s.T)=some true:=by kernel_rfl)(hp:(plain o.op&&KL N o.dst)=true:=by kernel_rfl):KX (m.bind k) P N ops Q dr acc (o::l) s:=by
 simp only[Ku] at hp;refine⟨fun r J=>?_⟩;obtain⟨v,G,O⟩:=Es.1 J;exact NH hw hp.1 (hu v G) hp.2<|Dj dr acc _▸(h v G).h r O
theorem KO{l:List α}{i:Int}{v:α}(h:QT l i=some v):l[i.toNat]?=some v:=by
 grind [QT]
def mM(P:Program)(fn:Func)(hc:List (Nat×Blk))(ρ:Nat→Nat)(s:St)(dst:Option Tmp)(K:R→St→Prop)(Q:R→AX→St→Prop):R→AX→St→Prop :=fun r=>lI P fn hc (fun x h'=>∃hc',h'=look hc'∧Rq ρ hc hc' s.H∧Qcr (K r) (Q r) s dst ρ hc' x)
theorem Zl(L:List (Nat×Nat))(C:List Conv)(cb:List (Nat×List Conv))(hf:P.funcs[f]?=some fn)(hb:fn.body=some c)(U:fn.ntmps=n)(hl:Nat.ble args'.length n=true)(G:O3 C args=Jn (Wh L) args')(hok:Xy N dst (Wh L) hc args'=true)(hsub:Dm s.H (Wh L) cb hc=hc.map (fun p=>some<|KR (Wh L) p.2))(h:QZ a P n none c ⟨Xw 0 args',hc⟩ (mM P fn hc (Wh L) s dst K Q)):NV a P N f args dst s K Q:=by
 subst U;refine⟨fun r O=>?_⟩;simp only[Xy,Ku] at hok;obtain⟨⟨⟨⟨Z,h2⟩,h3⟩,h4⟩,Y⟩:=hok;refine PT (Wh L) (OC hf hb (Nat.le_of_ble_eq_true hl)<|h.h r O) (G▸Gf C args) h2 (fun c hc=>by grind) (Dl h4) (GX hsub) (GV Y) (Kc Z) ?_;rintro x h' ⟨hc',rfl,hd,J⟩;refine⟨hc',KM (Wh L) hc' s.H,rfl,hd,fun _=>rfl,?_⟩;cases x with
|ret x=>exact J
|panic x=>exact J
def ME(ρ:Nat→Nat)(hc hc':List (Nat×Blk))(s:St)(y:AV):Bool:=Pk hc hc' y&&XY ρ hc hc' s.H
theorem Qct{x:AX}(O:x=.ret∨x=.normal)(C:Conv)(bs:List Nat)(cb:List (Nat×List Conv))(y:AV)(h:(Mh P fn (look s1.T)<|look s1.H).map (cv C)=some y)(hok:ME ρ hc (Yn cb s1.H bs) s y=true)(Y:Dk a K (St.put ⟨s.T,KM ρ (Yn cb s1.H bs) s.H⟩ dst<|Xb ρ y)):ZK a (mM P fn hc ρ s dst K Q) x s1:=by
 obtain⟨z,J,U⟩:=F3.1 h;simp only[ME,Pk,Ku] at hok;refine⟨fun r G=>?_⟩
 have:O0 P fn hc (fun x h'=>∃hc',h'=look hc'∧Rq ρ hc hc' s.H∧Qcr (K r) (Q r) s dst ρ hc' x) s1 :=
  ⟨z,y,Yn cb s1.H bs,J,U▸mF C z,hok.1.1.1,VW hok.1.1.2,hok.1.2,_,rfl,Gg hok.2,Y.h r G⟩
 rcases O with rfl|rfl<;>exact this
theorem QG(C:Conv)(bs:List Nat)(cb:List (Nat×List Conv))(y:AV)(G:Dk a K (St.put ⟨s.T,KM ρ (Yn cb s1.H bs) s.H⟩ dst<|Xb ρ y))(h:(Mh P fn (look s1.T)<|look s1.H).map (cv C)=some y:=by kernel_rfl)(hok:ME ρ hc (Yn cb s1.H bs) s y=true:=by kernel_rfl):ZK a (mM P fn hc ρ s dst K Q) .ret s1:=Qct (.inl rfl) C bs cb y h hok G
theorem WG(C:Conv)(bs:List Nat)(cb:List (Nat×List Conv))(y:AV)(G:Dk a K (St.put ⟨s.T,KM ρ (Yn cb s1.H bs) s.H⟩ dst<|Xb ρ y))(h:(Mh P fn (look s1.T)<|look s1.H).map (cv C)=some y:=by kernel_rfl)(hok:ME ρ hc (Yn cb s1.H bs) s y=true:=by kernel_rfl):ZK a (mM P fn hc ρ s dst K Q) .normal s1:=Qct (.inr rfl) C bs cb y h hok G
theorem GY(bs:List Nat)(cb:List (Nat×List Conv))(J:ZK a Q (.panic<|Xb ρ p) ⟨s.T,KM ρ (Yn cb s1.H bs) s.H⟩)(hok:ME ρ hc (Yn cb s1.H bs) s p=true:=by kernel_rfl):ZK a (mM P fn hc ρ s dst K Q) (.panic p) s1:=by
 simp only[ME,Pk,Ku] at hok;exact⟨fun r G=>⟨p,Yn cb s1.H bs,le_refl p,hok.1.1.1,VW hok.1.1.2,hok.1.2,_,rfl,Gg hok.2,J.h r G⟩⟩
theorem U3(hc:List (Nat×Blk))(args':List AV)(L:List (Nat×Nat))(C:List Conv)(cb:List (Nat×List Conv))(hf:P.funcs[f]?=some fn)(hb:fn.body=some c)(O:fn.ntmps=n)(J:Nat.ble args'.length n=true)(h:QZ a P n none c ⟨Xw 0 args',hc⟩ (mM P fn hc (Wh L) (mk ops o s true) o.dst (fKr P N ops Q l) Q))(hw:ZT ops o (look s.T)=some true:=by kernel_rfl)(hcall:(Kk (look<|ZE ops o s.T true) o.op).map (fun p=>(p.1,O3 C p.2))=some (f,Jn (Wh L) args'):=by kernel_rfl)(hok:(Vx P f&&Xy N o.dst (Wh L) hc args')=true:=by kernel_rfl)(hsub:Dm s.H (Wh L) cb hc=hc.map (fun p=>some<|KR (Wh L) p.2):=by kernel_rfl):KX a P N ops Q false acc (o::l) s:=by
 obtain⟨⟨f0,args⟩,G,hp⟩:=F3.1 hcall;simp only[LK] at hp;obtain⟨rfl,hp⟩:=hp;simp only[Ku] at hok;exact Z4 hw G hok.1<|Zl L C cb hf hb O J hp hok.2 hsub h
theorem Rx(hc:List (Nat×Blk))(args':List AV)(L:List (Nat×Nat))(C:List Conv)(cb:List (Nat×List Conv))(hw:ZT ops o (look s.T)=some true)(hf:P.funcs[f]?=some fn)(hb:fn.body=some c)(O:fn.ntmps=n)(J:Nat.ble args'.length n=true)(hcall:(Kk (look<|ZE ops o s.T true) o.op).map (fun p=>(p.1,O3 C p.2))=some (f,Jn (Wh L) args'))(hok:(Vx P f&&Xy N o.dst (Wh L) hc args'&&UK ops acc.length&&Yq ops acc.reverse)=true)(hsub:Dm s.H (Wh L) cb hc=hc.map (fun p=>some<|KR (Wh L) p.2))(h:QZ a P n none c ⟨Xw 0 args',hc⟩ (mM P fn hc (Wh L) (mk ops o s true) o.dst (fKq Q) Q)):KX a P N ops Q true acc [o] s:=by
 obtain⟨⟨f0,args⟩,G,hp⟩:=F3.1 hcall;simp only[LK] at hp;obtain⟨rfl,hp⟩:=hp;simp only[Ku] at hok;exact Qar hw G (by simp[hok])<|Zl L C cb hf hb O J hp hok.1.1.2 hsub h
end
section
variable {P:Program}{o:Oper}{T:Nat→Option AV}{h:QY}
theorem mO{t:TypeId}{S:Nat}{es:List (List PV)}(O:o.op=.call ⟨.builtin .len,#[x],#[t]⟩)(U:Zn T x=some (.vsl S tk n))(hb:h tk=some (.vec ty S es))(J:P.underlying t=some (.slice e))(G:n=es.length) :
  We P o T h=some (.p<|.val<|.int .i64 es.length,none,[tk]):=by
 simp_all [We,wF,fu]
theorem Ry{t:TypeId}{S:Nat}{k:IntKind}{n:Int}(Z:o.op=.indexAddr t x ix)(hn:Zn T ix=some (.p<|.val<|.int k n))(hx:Zn T x=some (.vsl S tk nn))(hb:h tk=some (.vec ty S<|List.map enc l))(ht:P.underlying t=some (.slice e))(hi:(P.info? e).map (·.size)=some S)(J:nn=(List.map enc l).length)(v:α)(G:QT l n=some v):We P o T h=some (.vptr tk (List.map enc l).length n.toNat 0,none,[tk]):=by
 subst J;unfold QT at G;split at G
 ·cases G
 ·rename_i O;obtain⟨i,Y,U⟩:=F3.1 hi;have h0:0≤n:=by omega
  have h1:n.toNat<l.length:=(wB.1 G).1
  simp_all [We,wF,JB]
theorem CE{k f S:Nat}{es:List (List PV)}(G:o.op=.nilCheck x)(J:Zn T x=some (.vptr tk es.length k f))(hb:h tk=some (.vec ty S es)):We P o T h=some (.vptr tk es.length k f,none,[tk]):=by
 simp_all [We,wF,dG]
theorem JE{f S:Nat}{v:α}{c:AV}(G:o.op=.load ty x)(O:l[n]?=some v)(J:Zn T x=some (.vptr tk (List.map enc l).length n f):=by kernel_rfl)(hb:h tk=some (.vec tb S<|List.map enc l):=by kernel_rfl)(hc:(match P.underlying ty,P.info? ty with
  |some d,some i=>if F5 d then(if f+i.size≤(enc v).length then some (.agg<|(((enc v).drop f).take i.size).map .p) else none) else(match (enc v)[f]? with|some c=>some (.p c)|none=>none)
  |_,_=>none)=some c:=by kernel_rfl):We P o T h=some (c,none,[tk]):=by
 split at hc
 ·grind [List.map,We,wF,Ol]
 ·cases hc
theorem UN{f S:Nat}{v v':α}(O:o.op=.store ty x y)(Y:l[n]?=some v)(U:Zn T x=some (.vptr tk (List.map enc l).length n f):=by kernel_rfl)(Z:Zn T y=some xv:=by kernel_rfl)(hb:h tk=some (.vec tb S<|List.map enc l):=by kernel_rfl)(hc:(match P.info? ty,cellsOf xv with
  |some i,some G=>match Ta G with|some ps=>if G.length=i.size∧f+ps.length≤(enc v).length then some ((enc v).take f++ps++(enc v).drop (f+ps.length)) else none|none=>none
  |_,_=>none)=some (enc v'):=by kernel_rfl):We P o T h=some (.p<|.val undef,some (tk,.vec tb S<|List.map enc<|l.set n v'),[tk]):=by
 split at hc
 ·rename_i i G hi J;split at hc
  ·simp_all [List.map,We,wF,BM]
  ·cases hc
 ·cases hc
theorem Qcu{t:TypeId}{s:Operand}{S:Nat}{l2:List α}(ho:o.op=.call ⟨.builtin .append,#[s,x],#[t,t]⟩)(ht:P.underlying t=some (.slice e))(hi:(P.info? e).bind (fun i=>i.zero.map fun z=>(i.size,i.bytes,z.cells.size,Tc z.cells.toList))=some (S,by_,S,true))(hS:Nat.ble 1 S=true)(hs:Zn T s=some (.vsl S tk n))(hx:Zn T x=some xv)(he:BI S xv=some (List.map enc l2))(hb:h tk=some (.vec e S<|List.map enc l))(U:n=(List.map enc l).length)(hc:QX (l++l2).length by_=true):We P o T h=some (.vsl S tk (List.map enc<|l++l2).length,some (tk,.vec e S<|List.map enc<|l++l2),[tk]):=by
 subst U;obtain⟨i,Y,J⟩:=Es.1 hi;obtain⟨z,O,G⟩:=F3.1 J;simp only[LK] at G;obtain⟨rfl,rfl,hz,Z⟩:=G;have aa:0<i.size:=Nat.le_of_ble_eq_true hS
 simp_all [QX,We,wF,Td]
def sliceB(lo hi:Int)(len:Nat):Bool:=decide (0≤lo∧lo≤hi∧hi≤len)
def NW(T:Nat→Option AV)(d:Int):Option Operand→Option Int
|none=>some d
|some x=>match Zn T x with|some (.p (.val (.int _ n)))=>some n|_=>none
theorem CF{T:Nat→Option AV}{x:Option Operand}{n:Int}(h:NW T d x=some n)(h0:0≤n):WO T d x=some n.toNat:=by
 cases x with
|none=>grind [NW,WO]
|some x =>
  grind [NW,WO]
theorem Qat{t:TypeId}{S:Nat}{sv:AV}{a b:Int}(Z:o.op=.slice t x lo hi none)(ht:P.underlying t=some (.slice e))(J:(P.info? e).map (·.size)=some S)(hx:Zn T x=some sv)(hs:elems sv=some (S,List.map enc l))(O:NW T 0 lo=some a)(G:NW T (List.map enc l).length hi=some b)(hc:sliceB a b l.length=true):We P o T h=some (.p<|.sl S<|List.map enc<|(l.take b.toNat).drop a.toNat,none,[]):=by
 obtain⟨i,Y,U⟩:=F3.1 J;simp only[sliceB,Pd] at hc;have h1:=CF (d:=0) O hc.1;have h2:=CF G zo;have h3:a.toNat≤b.toNat:=by omega
 simp_all [List.map,F6,We,Ti]
def MF(l c:Int)(by_:Nat):Bool:=decide (0≤l∧l≤c∧(by_:Int)*c≤281474976710656∧c≤140737488355328)
theorem zX{t:TypeId}{S:Nat}{z0:α}{k k':IntKind}{l c:Int}(ho:o.op=.makeSlice t x y)(hd:o.dst=some d)(ht:P.underlying t=some (.slice e))(hi:(P.info? e).bind (fun i=>i.zero.bind fun z=>(Ta<|z.cells.toList.map y7).map fun ps=>(i.size,i.bytes,z.cells.size,Tc z.cells.toList,ps))=some (S,by_,S,true,enc z0))(hS:Nat.ble 1 S=true)(hl:(enc z0).length=S)(hx:Zn T x=some (.p<|.val<|.int k l))(hy:Zn T y=some (.p<|.val<|.int k' c))(hb:h d=none)(hc:MF l c by_=true):We P o T h=some (.vsl S d (List.map enc<|List.replicate l.toNat z0).length,some (d,.vec e S<|List.map enc<|List.replicate l.toNat z0),[d]):=by
 obtain⟨i,Y,O⟩:=Es.1 hi;obtain⟨z,U,J⟩:=Es.1 O;obtain⟨ps,Z,G⟩:=F3.1 J;simp only[LK] at G;obtain⟨rfl,rfl,h3,h4,rfl⟩:=G;have aa:0<i.size:=Nat.le_of_ble_eq_true hS
 simp_all [MF,We,Om]
end
def dY{E V:Type}(x:V→KQ×List (Nat×Blk))(y:E→KQ×List (Nat×Blk)):Except E V→KQ×List (Nat×Blk)|.ok v=>x v|.error e=>y e
section
variable {R V:Type}{N:Nat}{s s1:St}{Q:R→AX→St→Prop}
theorem Qfx{k:V→Option R}{S:V→St}(v:V)(K:LB)(s1:St)(hw:R7 K s=some s1)(G:s1=S v):ZK (k v) (kQ N k S Q) .normal s:=Qlb v K<|G▸hw
theorem dZ{S:V→St}(v:V)(K:LB)(s1:St)(G:s1=S v)(hw:R7 K s=some s1:=by kernel_rfl):ZK (some v) (Qfv N S) .normal s:=Qcn v K<|G▸hw
end
theorem Qfy(h:Ex P N ro c s (fun x s'=>∃G,zK (look s'.T) (look G.H) G.T∧NU (look s'.H) (look G.H) G.H∧YH (look G.H) s.H=true∧(∀v,x=.panic v→Kw (look G.H) v=true)∧Q x G)):Ex P N ro c s Q:=by
 intro φ M0 D a w r;refine wpIn_mono (h φ M0 D a w r) ?_;rintro e a' w' ⟨φ',x,s',⟨G,h1,Y,Z,hp,h4⟩,r',E',J⟩;obtain⟨k1,k2,U⟩:=EY (hc:=s.H) r' E' Y Z;refine⟨φ',x,G,h4,⟨?_,r'.siz,k1,fun t y ht=>?_⟩,k2,?_⟩
 ·obtain⟨h0,ms,g1,g2,g3⟩:=r'.dfs;refine⟨h0,ms,g1,g2,fun z O=>⟨(g3 z O).1,(g3 z O).2.1,fun b hb=>(g3 z O).2.2 b ?_⟩⟩;cases hq:look G.H b with
 |none=>grind
 |some k'=>obtain⟨⟨k,e1,_⟩,_⟩:=XX Y b k' hq;grind
 ·obtain⟨z,g1,g2,g3⟩:=NF h1 t y ht;exact⟨(r'.tm t z g1).1,U _ _ g3<|Uk.1 _ _ _ g2 (r'.tm t z g1).2⟩
 ·cases x with
 |normal=>exact J
 |exit i=>exact J
 |ret=>exact J
 |panic v=>obtain⟨u,h5,h6⟩:=J;exact⟨u,h5,U _ _ (hp v rfl) h6⟩
section
variable {R V E:Type}{a a1 a2:Option R}{P:Program}{N:Nat}{ro:Option Nat}{ops:Array Oper}{o:Oper}{l:List Oper}{dr:Bool}{acc:List YU}{s s' s1:St}{Q:R→AX→St→Prop}{K:R→St→Prop}{f:FuncId}{args args':List AV}{dst:Option Tmp}
def rgQ(N:Nat)(s:St)(Q:R→AX→St→Prop):R→AX→St→Prop:=fun r x s'=>∃G,zK (look s'.T) (look G.H) G.T∧NU (look s'.H) (look G.H) G.H∧YH (look G.H) s.H=true∧(∀v,x=.panic v→Kw (look G.H) v=true)∧Q r x G
def fKg(G:Nat)(T:List (Nat×AV))(nf:BB)(N:Nat)(s:St)(Q:R→AX→St→Prop):R→St→Prop:=fun r=>Qch G T nf<|rgQ N s Q r
theorem NK{J:Operand}{ps:Array Tmp}{assign:Code}(g:FuncId)(G:Nat)(l':List AV)(O:List AV)(hf:Zn (look s.T) J=some (.fn (.func g) l' O))(hok:(Vx P g&&Nat.ble 1000 G&&(look s.H G).isNone)=true)(h:∀nf fn,nf=BB.mk N fn ps assign body→NV a P N g (l'++[.yv G]++O) none ⟨s.T,(G,.lp s.T nf .ready none)::s.H⟩ (fKg G s.T nf N s Q) (rgQ N s Q)):QZ a P N none (.rangeFunc J ps assign body) s Q:=by
 simp only[Ku,Option.isNone_iff_eq_none] at hok;refine⟨fun r U=>Qfy<|xD G (Nat.le_of_ble_eq_true hok.1.2) hf hok.1.1 hok.2 fun fn=>?_⟩;exact(h _ fn rfl).h r U
theorem lS{x:AX}{st:LoopState}{G:Nat}{T:List (Nat×AV)}(J:LB)(O:St)(Y:∀v,x≠.panic v)(hs:(if okT (look (shr J ⟨s1.T,(G,.lp T nf .exhausted pd)::s1.H⟩).H) (shr J ⟨s1.T,(G,.lp T nf .exhausted pd)::s1.H⟩).T&&okH (look (shr J ⟨s1.T,(G,.lp T nf .exhausted pd)::s1.H⟩).H) (shr J ⟨s1.T,(G,.lp T nf .exhausted pd)::s1.H⟩).H&&YH (look (shr J ⟨s1.T,(G,.lp T nf .exhausted pd)::s1.H⟩).H) s.H then some (shr J ⟨s1.T,(G,.lp T nf .exhausted pd)::s1.H⟩) else none)=some O)(h:ZK a Q x O)(r:R)(U:a=some r):rgQ N s Q r x ⟨s1.T,(G,.lp T nf .exhausted pd)::s1.H⟩:=by
 split at hs
 ·rename_i hok;simp only[ZA] at hs;subst hs;simp only[Ku] at hok;exact⟨_,LW hok.1.1,VW hok.1.2,hok.2,fun v Z=>absurd Z<|Y v,h.h r U⟩
 ·cases hs
def rgS(G:LB)(s s1:St):Option St:=if okT (look (shr G s1).H) (shr G s1).T&&okH (look (shr G s1).H) (shr G s1).H&&YH (look (shr G s1).H) s.H then some (shr G s1) else none
theorem Qfz{O:Nat}{T:List (Nat×AV)}(st:LoopState)(U:LB)(G:St)(Z:look s1.H O=some (.lp T nf st none))(J:st≠.busy)(hs:rgS U s ⟨s1.T,(O,.lp T nf .exhausted none)::s1.H⟩=some G)(h:ZK a Q .normal G):Dk a (fKg O T nf N s Q) s1 :=
 ⟨fun r Y=>⟨st,none,Z,J,lS (st:=st) U G (fun v e=>by cases e) hs h r Y⟩⟩
theorem QfA{O:Nat}{T:List (Nat×AV)}(st:LoopState)(U:LB)(G:St)(Z:look s1.H O=some (.lp T nf st<|some .ret))(J:st≠.busy)(hs:rgS U s ⟨s1.T,(O,.lp T nf .exhausted<|some .ret)::s1.H⟩=some G)(h:ZK a Q .ret G):Dk a (fKg O T nf N s Q) s1 :=
 ⟨fun r Y=>⟨st,some .ret,Z,J,lS (st:=st) U G (fun v e=>by cases e) hs h r Y⟩⟩
def rdR(ρ:Nat→Nat)(hc:List (Nat×Blk))(s:St)(dst:Option Tmp)(K:St→Prop)(Q:AX→St→Prop):KQ→QY→Prop:=fun x h'=>∃hc',h'=look hc'∧Rq ρ hc hc' s.H∧Qcr K Q s dst ρ hc' x
def rnQ(ρ:Nat→Nat)(hc:List (Nat×Blk))(b:Nat)(T:List (Nat×AV))(nf:BB)(s:St)(dst:Option Tmp)(K:R→St→Prop)(Q:R→AX→St→Prop):R→AX→St→Prop:=fun r=>Qcg hc b T nf<|rdR ρ hc s dst (K r)<|Q r
def asQ(P:Program)(N l:Nat)(body:Code)(b:Nat)(T:List (Nat×AV))(nf:BB)(Q:R→AX→St→Prop):R→AX→St→Prop:=fun r x s1=>x=.normal∧∃G,look s1.H b=some (.lp T nf .ready G)∧Ex P N (some l) body ⟨s1.T,(b,.lp T nf .busy G)::s1.H⟩ (Q r)
theorem Qau{l:Nat}{T:List (Nat×AV)}(O:LB)(G:St)(pd:Option Code)(h:QZ a P N (some l) body G Q)(U:look s1.H b=some (.lp T nf .ready pd):=by kernel_rfl)(hs:R7 O ⟨s1.T,(b,.lp T nf .busy pd)::s1.H⟩=some G:=by kernel_rfl):ZK a (asQ P N l body b T nf Q) .normal s1 :=
 ⟨fun r J=>⟨rfl,pd,U,R9 (Rt hs)<|h.h r J⟩⟩
theorem Dn{Y:Nat}{fn:FuncId}{ps:Array Tmp}{assign:Code}{U:List Oper}(L:List (Nat×Nat))(hc:List (Nat×Blk))(b:Nat)(T:List (Nat×AV))(C:List Conv)(cb:List (Nat×List Conv))(args':List AV)(Z:nf=BB.mk Y fn ps assign body)(h:∀l,QZ a P Y (some l) assign ⟨psT ps.toList args' T,hc⟩ (asQ P Y l body b T nf<|rnQ (Wh L) hc b T nf (mk ops o s true) o.dst (fKr P N ops Q U) Q))(hw:ZT ops o (look s.T)=some true:=by kernel_rfl)(hy:(yieldOf (look<|ZE ops o s.T true) o.op).map (fun p=>(p.1,O3 C p.2))=some (Wh L b,Jn (Wh L) args'):=by kernel_rfl)(hb:look hc b=some (.lp T nf .ready none):=by kernel_rfl)(J:(Nat.ble 1000 b&&Nat.beq ps.size args'.length&&ps.toList.all (fun p=>Nat.blt p Y))=true:=by kernel_rfl)(hok:Xy N o.dst (Wh L) hc args'=true:=by kernel_rfl)(hsub:Dm s.H (Wh L) cb hc=hc.map (fun p=>some<|KR (Wh L) p.2):=by kernel_rfl):KX a P N ops Q false acc (o::U) s:=by
 obtain⟨⟨b0,args⟩,ab,hp⟩:=F3.1 hy;simp only[LK] at hp;obtain⟨G,aa⟩:=hp;have G:b0=Wh L b:=G;subst G;refine⟨fun r hr=>?_⟩;show YG P N ops (Q r) (o::U) s;simp only[YG,hw,Z9,ab];show YEx P N (Wh L b) args o.dst (mk ops o s true) _ _;simp only[Ku] at J;simp only[Xy,Ku] at hok;obtain⟨⟨⟨⟨g1,g2⟩,g3⟩,g4⟩,g5⟩:=hok
 have hY:Qb6 P b args' (look hc) (rdR (Wh L) hc (mk ops o s true) o.dst (fKr P N ops Q U r)<|Q r):=by
  have O:=Z;refine mq (nf:=nf) (Nat.le_of_ble_eq_true J.1.1) hb ?_ ?_ fun l=>?_
  ·simp_all
  ·grind [Nat.blt_eq,Fx]
  ·have:=(h l).h r hr;subst O;exact this
 refine mo (s:=mk ops o s true) (Wh L) hY (by grind [Gf]) g2 (fun c hc=>by grind) (Dl g4) (GX hsub) (GV g5) (Kc g1) ?_;rintro x h' ⟨hc',rfl,hd,hk⟩;refine⟨hc',KM (Wh L) hc' s.H,rfl,hd,fun _=>rfl,?_⟩;cases x with
|ret x=>exact hk
|panic x=>exact hk
def QfB(hc hc':List (Nat×Blk))(b:Nat)(s:St):Bool:=okH (look hc') hc'&&YH (look hc') hc
theorem Qcv{T:List (Nat×AV)}{x:AX}{G:Bool}(Y:∀r,rnQ ρ hc b T nf s dst K Q r x s1=Mq hc b T nf (rdR ρ hc s dst (K r)<|Q r) G st pd s1)(bs:List Nat)(cb:List (Nat×List Conv))(O:LoopState)(J:Option Code)(Z:look (Yn cb s1.H bs) b=some (.lp T nf O J))(hok:(QfB hc (Yn cb s1.H bs) b s&&XY ρ hc ((b,.lp T nf st pd)::Yn cb s1.H bs) s.H)=true)(hk:Dk a K (St.put ⟨s.T,KM ρ ((b,.lp T nf st pd)::Yn cb s1.H bs) s.H⟩ dst<|Xb ρ<|.p<|.val<|.bool G)):ZK a (rnQ ρ hc b T nf s dst K Q) x s1:=by
 refine⟨fun r U=>?_⟩;rw[Y r];simp only[QfB,Ku] at hok;exact⟨_,O,J,VW hok.1.1,hok.1.2,Z,_,rfl,Gg hok.2,hk.h r U⟩
theorem Iw{T:List (Nat×AV)}(bs:List Nat)(cb:List (Nat×List Conv))(G:LoopState)(J:Option Code)(U:Dk a K (St.put ⟨s.T,KM ρ ((b,.lp T nf .ready none)::Yn cb s1.H bs) s.H⟩ dst<|Xb ρ<|.p<|.val<|.bool true))(O:look (Yn cb s1.H bs) b=some (.lp T nf G J):=by kernel_rfl)(hok:(QfB hc (Yn cb s1.H bs) b s&&XY ρ hc ((b,.lp T nf .ready none)::Yn cb s1.H bs) s.H)=true:=by kernel_rfl):ZK a (rnQ ρ hc b T nf s dst K Q) .normal s1:=Qcv (fun _=>rfl) bs cb G J O hok U
theorem QfC{T:List (Nat×AV)}(bs:List Nat)(cb:List (Nat×List Conv))(G:LoopState)(J:Option Code)(O:look (Yn cb s1.H bs) b=some (.lp T nf G J))(hok:(QfB hc (Yn cb s1.H bs) b s&&XY ρ hc ((b,.lp T nf .done<|some .ret)::Yn cb s1.H bs) s.H)=true)(U:Dk a K (St.put ⟨s.T,KM ρ ((b,.lp T nf .done<|some .ret)::Yn cb s1.H bs) s.H⟩ dst<|Xb ρ<|.p<|.val<|.bool false)):ZK a (rnQ ρ hc b T nf s dst K Q) .ret s1:=Qcv (fun _=>rfl) bs cb G J O hok U
end
def O4(k i:Nat):Nat:=if i=k then 0 else if i<k then i+1 else i
def d9(o:Oper):Bool:=match o.op,o.guard with|.move _,none=>true|_,_=>false
def Qav(o:Oper):Bool:=d9 o&&o.after.toList.all (fun e=>!Region.binds .any e)
def reO(k:Nat)(o:Oper):Oper:={ o with after:=⟨(if Qav o then[] else[⟨0,.data⟩])++o.after.toList.map fun e=>⟨O4 k e.on,e.ground⟩⟩,guard:=o.guard.map fun g=>(O4 k g.1,g.2) }
def PU(k:Nat)(l:List Oper):List Oper:=match l[k]? with
|some o=>{ o with after:=#[] }::(l.eraseIdx k).map (reO k)
|none=>l
def Ux(k:Nat)(ops:Array Oper):Array Oper:=⟨PU k ops.toList⟩
def qw(k:Nat)(ops:Array Oper):Bool:=match ops[k]? with
|some o=>d9 o&&o.after.toList.all (fun e=>!Region.binds .any e)&&Region.noSelect ops&&Region.free .any ops (Array.replicate ops.size false) k
|none=>false
theorem mP{k:Nat}{l:List Oper}(h:l[k]?=some o):(PU k l)[0]?=some { o with after:=#[] }:=by
 simp[PU,h]
theorem Qaw{k:Nat}{l:List Oper}(h:l[k]?=some o)(i:Nat)(hi:i≠k):(PU k l)[O4 k i]?=(l[i]?).map (reO k):=by
 unfold PU O4
 grind
theorem cB{k:Nat}{l:List Oper}(h:l[k]?=some o):(PU k l).length=l.length:=by
 grind [PU]
theorem PW{k:Nat}(h:ops[k]?=some o):(Ux k ops)[0]?=some { o with after:=#[] }:=by
 grind [Ux,mP]
theorem zY{k:Nat}(h:ops[k]?=some o)(i:Nat)(hi:i≠k):(Ux k ops)[O4 k i]?=(ops[i]?).map (reO k):=by
 grind [Ux,Qaw]
theorem cK{k:Nat}(h:ops[k]?=some o):(Ux k ops).size=ops.size:=by
 grind [Ux,cB]
theorem Qcw{k:Nat}(G:k<n)(hi:i<n):O4 k i<n:=by
 grind [O4]
theorem Qcx{k:Nat}(hi:i≠k):O4 k i≠0:=by
 grind [O4]
theorem QfD{k:Nat}(hi:i≠k)(G:j≠k)(h:O4 k i=O4 k j):i=j:=by
 grind [O4]
theorem Qcy{k:Nat}(G:j≠0):∃i,i≠k∧O4 k i=j:=by
 unfold O4;by_cases h:j≤k
 ·exact⟨j-1,by omega,zc⟩
 ·exact⟨j,by omega,zc⟩
section
variable {P:Program}{ops:Array Oper}{Q:Exit→Act→World→Prop}{k:Nat}{ok:Oper}
theorem Qax(G:ops[k]?=some ok)(g:Nat):((Ux k ops)[O4 k g]?).bind (·.dst)=(ops[g]?).bind (·.dst):=by
 by_cases J:g=k
 ·grind [O4,PW]
 ·rw[zY G g J];cases ops[g]?<;>rfl
theorem Qay(G:ops[k]?=some ok)(o:Oper)(tmps:Array Value):Region.wanted (reO k o) (yielded (Ux k ops) tmps)=Region.wanted o (yielded ops tmps):=by
 grind [Region.wanted,reO,yielded,Qax]
theorem QfE(G:ops[k]?=some ok)(hi:i≠k){K K':Act→World→Prop}(J:∀a w,K a w→K' a w)(h:wpOp P (Ux k ops) Q (O4 k i) K a w):wpOp P ops Q i K' a w:=by
 refine wpOp_mono J ?_;unfold wpOp at h ⊢;rw[zY G i hi] at h;cases ho:ops[i]? with
|none=>grind
|some o =>
  simp only[ho,Option.map_some] at h ⊢;rw[Qay G] at h;exact h
theorem MG(hk:ops[k]?=some ok){G:Array Bool}(hs:listed.size=ops.size)(aa:G.size=ops.size)(h0:G.getD 0 false=true)(h1:listed.getD k false=true)(hl:∀i,i≠k→G.getD (O4 k i) false=listed.getD i false)(i:Nat)(hi:i≠k) :
  i∈Region.ready .any ops listed↔O4 k i∈Region.ready .any (Ux k ops) G:=by
 have ad:k<ops.size:=(AY.1 hk).1;have ac:∀(l:Array Bool) (i:Nat),i<l.size→l.getD i true=l.getD i false:=fun l i hi=>by simp[hi]
 rw[mem_ready,mem_ready,zY hk i hi];rcases Nat.lt_or_ge i ops.size with hlt|ae
 rotate_left
 ·grind
 have e1:listed.getD i true=G.getD (O4 k i) true:=by
  grind [Qcw]
 rw[e1]
 have O:∀j,listed.getD j false=G.getD (O4 k j) false:=by
  grind [O4]
 refine and_congr_right fun _=>?_
 constructor
 ·rintro⟨o,Z,J⟩;refine⟨reO k o,zc,fun e Y hb=>?_⟩;simp only[reO,List.mem_toArray,List.mem_append,List.mem_map] at Y;rcases Y with Y|⟨e',ab,rfl⟩
  ·simp_all
  ·rw[←O];exact J e' zc hb
 ·rintro⟨o',U,J⟩;cases Z:ops[i]? with
 |none=>grind
 |some o =>
   rw[Z] at U;cases U;refine⟨o,rfl,fun e Y hb=>?_⟩;rw[O];exact J ⟨O4 k e.on,e.ground⟩ (by simp only[reO,List.mem_toArray,List.mem_append,List.mem_map];grind) hb
theorem cO(hk:ops[k]?=some ok):∀(O:Nat) (listed G:Array Bool) (a:Act) (w:World),listed.size=ops.size→G.size=ops.size→G.getD 0 false=true→listed.getD k false=true →
  (∀i,i≠k→G.getD (O4 k i) false=listed.getD i false)→wpAny P .any (Ux k ops) Q O G a w→wpAny P .any ops Q O listed a w:=by
 have aa:k<ops.size:=(AY.1 hk).1;have ac:∀(l:Array Bool) (i:Nat),i<l.size→l.getD i true=l.getD i false:=fun l i hi=>by simp[hi]
 have Z:∀(listed G:Array Bool),listed.size=ops.size→G.size=ops.size→G.getD 0 false=true→listed.getD k false=true →
   (∀i,i≠k→G.getD (O4 k i) false=listed.getD i false)→(Region.ready .any ops listed=[]↔Region.ready .any (Ux k ops) G=[]):=by
  intro listed G hs J h0 h1 hl;simp only[List.eq_nil_iff_forall_not_mem];constructor
  ·intro h j hj
   have ab:j≠0:=by
    grind [mem_ready]
   obtain⟨i,Y,rfl⟩:=Qcy (k:=k) ab;exact h i<|(MG hk hs J h0 h1 hl i Y).2 hj
  grind [mem_ready,MG]
 intro O
 induction O with
|zero =>
  intro listed G a w hs J h0 h1 hl h;exact⟨(Z listed G hs J h0 h1 hl).2 h.1,h.2⟩
|succ O ih =>
  intro listed G a w hs J h0 h1 hl h;refine⟨fun hr=>h.1<|(Z listed G hs J h0 h1 hl).1 hr,fun i hi=>?_⟩
  have Y:i≠k:=by
   intro e;subst e;have:=(mem_ready.1 hi).1
   grind
  have h2:=h.2 _<|(MG hk hs J h0 h1 hl i Y).1 hi;refine QfE hk Y (fun a' w' h3=>ih _ _ a' w' (by simpa using hs) (by simpa using J) (getD_set_true h0) (getD_set_true h1) ?_ h3) h2;intro j hj;by_cases e:i=j
  ·subst e
   have U:i<ops.size:=by
    obtain⟨o,ho,_⟩:=(mem_ready.1 hi).2
    grind
   have:=Qcw aa U;rw[←hs] at U;rw[←J] at this;simp[U,this]
  ·rw[getD_set_ne false e,getD_set_ne false fun e2=>e<|QfD Y hj e2,hl j hj]
theorem Tv{Q':Exit→Act→World→Prop}(hQ:∀e a w,Q e a w→Q' e a w):∀(G:Nat) (listed:Array Bool) (a:Act) (w:World),wpAny P .any ops Q G listed a w→wpAny P .any ops Q' G listed a w
|0,listed,a,w,h=>⟨h.1,hQ _ _ _ h.2⟩
|G+1,listed,a,w,h=>by
  refine⟨fun O=>hQ _ _ _<|h.1 O,fun i hi=>?_⟩;have J:=h.2 i hi;unfold wpOp at J ⊢;cases ho:ops[i]? with
 |none=>simp only[ho] at J ⊢;exact Tv hQ G _ a w J
 |some o =>
   simp only[ho] at J ⊢;split
   ·rename_i hw;simp only[hw,if_true] at J;rcases J with J|⟨U,Y⟩
    ·exact .inl (Oper.wp_mono2 J (fun a w h=>Tv hQ G _ a w h) hQ)
    ·exact .inr ⟨U,_,_,hQ _ _ _ Y.choose_spec.choose_spec⟩
   ·rename_i hw;simp only[hw] at J;exact Tv hQ G _ _ w J
end
def Agree(X:Tmp→Prop)(a b:Act):Prop:=a.defers=b.defers∧a.tmps.size=b.tmps.size∧∀t,¬X t→a.tmps[t]?=b.tmps[t]?
theorem cZ(X:Tmp→Prop)(a:Act):Agree X a a:=⟨rfl,rfl,fun _ _=>rfl⟩
theorem LX{X:Tmp→Prop}{b:Act}(h:Agree X a b)(d:Option Tmp)(v:Value):Agree X (a.put d v) (b.put d v):=by
 cases d with
|none=>exact h
|some d =>
  refine⟨h.1,by simpa [Act.put] using h.2.1,fun t G=>?_⟩;simp only[Act.put,Array.getElem?_setIfInBounds];rw[h.2.1,h.2.2 t G]
theorem rf{X:Tmp→Prop}{b:Act}(h:Agree X a b)(G:∀t,x=.tmp t→¬X t):a.eval x=b.eval x:=by
 cases x with
|tmp t =>
  have:=h.2.2 t<|G t rfl
  simp_all [Act.eval]
|_=>rfl
theorem Gi{X:Tmp→Prop}{b:Act}(h:Agree X a b)(hs:∀cs b,o.op≠.select cs b)(G:∀t∈o.looksAt ops,¬X t):execOp a.eval o=execOp b.eval o :=
 execOp_congr o hs fun x O=>rf h fun t J=>G t (by
  subst J;exact List.mem_append_left _<|List.mem_filterMap.2 ⟨.tmp t,zc,rfl⟩)
theorem zZ{X:Tmp→Prop}{b:Act}{K:Act→World→Prop}{Q:Exit→Act→World→Prop}(h:Agree X a b)(hs:∀cs b,o.op≠.select cs b)(U:∀t∈o.looksAt ops,¬X t)(Z:∀t,o.dst=some t→¬X t)(hp:∀c w,Q (.panic c) b w→Q' (.panic c) a w)(ho:∀a w,¬Q .outgrown a w)(hh:o.wp P b w K Q):o.wp P a w (fun a' w'=>∃G,Agree X a' G∧(∀t,o.dst≠some t→G.tmps[t]?=b.tmps[t]?)∧K G w') Q':=by
 have J:∀(b:Act) (v:Value) (t:Tmp),o.dst≠some t→(b.put o.dst v).tmps[t]?=b.tmps[t]?:=by
  intro b v t Y;cases hdst:o.dst with
 |none=>rfl
 |some d =>
   grind [Act.put]
 unfold Oper.wp at *;rw[Gi (ops:=ops) h hs U];generalize (execOp b.eval o).run P w=r at *;cases r with
|ok n w' =>
  cases n<;>simp only[Oper.upon] at hh ⊢
  case value u=>grind [LX]
  case skip=>grind [LX]
  case defer d =>
   refine⟨_,LX (X:=X) (a:={ a with defers:=d::a.defers }) (b:={ b with defers:=d::b.defers }) ⟨by simp[h.1],h.2.1,h.2.2⟩ _ _,fun t Y=>?_,hh⟩
   grind
  case enter f args =>
   refine Calls.mono hh fun e w'' O=>?_
   cases e with
  |returned u=>grind [LX]
  |panicked c=>grind
  |outgrown=>obtain⟨a0,w0,O⟩:=O;grind
  grind [Rows.mono,LX]
|halt x w' =>
  cases x<;>simp only[Oper.upon] at hh ⊢
  grind
def kg(P:Program)(o:Oper)(T:Nat→Option AV)(h:QY):Option AV :=
 match o.op with
|.move x=>Zn T x
|.load ty x=>(Og P T h ty x).map (·.1)
|.fieldAddr s x f=>(UY P T s x f).map (·.1)
|.nilCheck x=>(GJ T x).map (·.1)
|.extract x i=>(Ri T x i).map (·.1)
|.binOp op _ x y _=>match Zn T x,Zn T y with
 |some (.p (.val (.int k a))),some (.p (.val (.int k' b)))=>if D8 op then none else if k=k' then(qZ op k a b).map fun v=>.p (.val v) else none
 |_,_=>none
|_=>none
section
end
abbrev zd:=List (Nat×Blk)
abbrev zj:=List (Nat×AV)
def zp(n:Nat):List Nat:=(List.range n).map (1000+·)
end Go.Abs
