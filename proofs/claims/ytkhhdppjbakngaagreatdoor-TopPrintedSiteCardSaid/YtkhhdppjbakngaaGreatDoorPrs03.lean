/-
  A part of the proof of a statement of the seat YtkhhdppjbakngaaGreatDoor.
-/
import Derived.Test.YtkhhdppjbakngaaGreatDoorPrs02
set_option linter.unusedVariables false
namespace Go.Abs
open Go
variable {D:DB}{M M0:ZR}{N:Nat}{P:Program}{Q:AX→St→Prop}{T:Nat→Option AV}{a:Act}{b d:Nat}{e:TypeId}{es:List (Bool×List UInt8×AV)}{fn:Func}{h h0:QY}{hc:List (Nat×Blk)}{hi:Option Operand}{i id:Nat}{ix:Operand}{j:Nat}{k0:Blk}{kt:TypeId}{len:Nat}{lo:Option Operand}{n:Nat}{o:Oper}{ok:Bool}{ops:Array Oper}{p:AV}{ro:Option Nat}{s s' s1:St}{v:Value}{w w' w0:World}{x y:Operand}{z:Value}{α β:Type}{ρ φ φ' φ0:Nat→Nat}
section
variable {P:Program}{N:Nat}{D:DB}{φ:Nat→Nat}{M0:ZR}{T:Nat→Option AV}{h:QY}{a:Act}{w:World}
theorem ku(r:Zy φ M0 N D T h a w){x:AV}(J:kg P o T h=some x):∃v,(execOp a.eval o).run P w=.ok (.value v) w∧Qf φ h w (MM φ h M0) x v:=by
 unfold kg at J;split at J
 ·rename_i y U;exact⟨a.eval y,by simp[execOp,U],r.ev J⟩
 ·rename_i ty y U;obtain⟨u,hu,rfl⟩:=F3.1 J;obtain⟨_,v,G,Y⟩:=qQ (P:=P) r hu
  simp_all [execOp]
 ·rename_i s y f U;obtain⟨u,hu,rfl⟩:=F3.1 J;unfold UY at hu;split at hu
  ·rename_i fields hs;split at hu
   ·rename_i fl hf;split at hu
    ·rename_i i hi;split at hu
     ·cases hu
     ·rename_i ab;split at hu
      ·rename_i b off O;simp only[ZA] at hu;subst hu;have G:=r.ev O;simp only[Qf] at G;refine⟨.pointer<|some ⟨φ b,off+fl.offset,none⟩,?_,?_⟩
       ·simp_all [execOp,Instr.fieldAt,Instr.sureAddr,fieldPlace,run_underlying,Ze,Addr.add_lit]
       grind [Qf]
      ·rename_i cs O;split at hu
       ·rename_i aa;simp only[ZA] at hu;subst hu;have G:=r.ev O;simp only[Qf] at G;obtain⟨rr,oo,Y,h4⟩:=G;refine⟨.pointer<|some ⟨rr,oo+fl.offset,none⟩,?_,?_⟩
        ·simp_all [execOp,Instr.fieldAt,Instr.sureAddr,fieldPlace,run_underlying,Ze,Addr.add_lit]
        ·simp only[Qf];exact⟨rr,oo+fl.offset,rfl,PO _ aa h4⟩
       ·cases hu
      ·cases hu
    ·cases hu
   ·cases hu
  ·cases hu
 ·rename_i y U;obtain⟨u,hu,rfl⟩:=F3.1 J;unfold GJ at hu;split at hu
  ·rename_i b off O;simp only[ZA] at hu;subst hu;have G:=r.ev O
   simp_all [Qf,execOp]
  ·rename_i cs O;simp only[ZA] at hu;subst hu;have G:=r.ev O;refine⟨a.eval y,?_,G⟩;simp only[Qf] at G;obtain⟨rr,oo,Y,_⟩:=G;simp[execOp,U,Y]
  ·rename_i f l m O;simp only[ZA] at hu;subst hu;have G:=r.ev O;refine⟨a.eval y,?_,G⟩;simp only[Qf] at G;obtain⟨l',m',Y,_⟩:=G;simp[execOp,U,Y]
  ·cases hu
 ·rename_i y i U;obtain⟨u,hu,rfl⟩:=F3.1 J;unfold Ri at hu;split at hu
  ·rename_i vs O;split at hu
   ·rename_i v Z;simp only[ZA] at hu;subst hu;have G:=r.ev O;simp only[Qf] at G;obtain⟨l,Y,h4⟩:=G;obtain⟨z,h5,h6⟩:=GG h4 Z
    simp_all [execOp,Instr.extract]
   ·cases hu
  ·cases hu
 ·rename_i op tx y z ty U;split at J
  ·rename_i k n k' m O hy;have h1:=r.ev O;have G:=r.ev hy;simp only[Qf,Zj] at h1 G;split at J
   ·cases J
   rename_i hs;split at J
   ·rename_i hk;subst hk;obtain⟨v,Z,rfl⟩:=F3.1 J;refine⟨v,?_,by rfl⟩;cases op<;>first|(simp[D8] at hs;done)|(simp only[qZ] at Z;first|(cases Z;done)|(simp only[ZA] at Z;subst Z;simp[execOp,U,h1,G,eqGuard,binOp,Op.intArith,Op.intBits,Op.intCmp,Xo,bOr,Qe7,xe,QC,leI,Qp,bne];done)|simp_all [execOp,eqGuard,binOp,Op.intDiv])
   ·cases J
  ·cases J
 ·cases J
end
def xQ:AV→Bool|.p (.val _)=>true|.ptr _ _=>true|_=>false
theorem rq{x:AV}{v':Value}(G:xQ x=true)(O:Qf φ h w M x v)(J:Qf φ h w M x v'):v=v':=by
 unfold xQ at G
 grind [Qf,Zj]
def Qcz(h:QY)(x:AV):Prop:=xQ x=true∨∃S es t ty,x=.tsl S es t∧h t=some (.arr ty S es.length)∧0<S
theorem wV{x:AV}{v':Value}(G:Qcz h x)(U:Qf φ h w M x v)(O:Qf φ h w M x v'):v=v':=by
 rcases G with G|⟨S,es,t,ty,rfl,ht,hS⟩
 ·grind [rq]
 ·simp only[Qf] at U O;obtain⟨_,Ed,n1,a1,a2,Z⟩:=U;obtain⟨_,WI,n2,b1,b2,b3⟩:=O;rw[ht] at a1 b1;cases a1;cases b1;rcases Z rfl with⟨_,e1,Y⟩|⟨cap,c,e1,Y,e3,_⟩<;>rcases b3 rfl with⟨_,f1,f2⟩|⟨J,c',f1,f2,f3,_⟩
  ·grind
  ·grind
  ·grind
  grind [Nat.eq_of_mul_eq_mul_right]
def Dp(P:Program)(N:Nat)(ops:Array Oper):List Nat→St→Option St
|[],s=>some s
|i::l,s=>match ops[i]? with
 |some o=>match kg P o (look s.T) (look s.H),o.dst with
  |some x,some d=>if d<N then Dp P N ops l (s.put (some d) x) else none
  |_,_=>none
 |none=>none
def Dq(ops:Array Oper):List Nat→Bool
|[]=>true
|i::l=>(match ops[i]? with
 |some o=>match o.dst with
  |some d=>!(o.looksAt ops).contains d&&l.all (fun j=>match (ops[j]?).bind (·.dst) with|some e=>!(o.looksAt ops).contains e&&e != d|none=>false)
  |none=>false
 |none=>false)&&Dq ops l
def QcA(ops:Array Oper)(H:List Nat)(t:Tmp):Prop:=∃i∈H,(ops[i]?).bind (·.dst)=some t
theorem qx{P:Program}{N:Nat}{D:DB}{φ:Nat→Nat}{M0:ZR}{ops:Array Oper}(O:Region.noSelect ops=true):∀(H:List Nat) (s s1:St) (a:Act) (w:World),Dq ops H=true→Dp P N ops H s=some s1→Zy φ M0 N D (look s.T) (look s.H) a w →
  ∃b,Zy φ M0 N D (look s1.T) (look s1.H) b w∧look s1.H=look s.H∧Agree (QcA ops H) a b∧∀i∈H,∃o d v,ops[i]?=some o∧o.dst=some d∧b.tmps[d]?=some v∧(execOp b.eval o).run P w=.ok (.value v) w
|[],s,s1,a,w,_,h,r=>by
  simp only[Dp,ZA] at h;subst h;exact⟨a,r,rfl,cZ _ a,fun i hi=>by cases hi⟩
|i::H,s,s1,a,w,hp,h,r=>by
  simp only[Dp] at h;cases ho:ops[i]? with
 |none=>grind
 |some o =>
   simp only[ho] at h;split at h
   ·rename_i x d hx hd;split at h;rotate_left
    ·cases h
    rename_i ad;simp only[Dq,ho,hd,Ku,Bool.not_eq_true'] at hp;obtain⟨⟨af,ac⟩,ae⟩:=hp;obtain⟨v,ab,aa⟩:=ku r hx;have r1:=r.put (d:=some d) (fun t J=>by grind) aa;obtain⟨b,rb,hH,G,aj⟩:=qx O H (s.put (some d) x) s1 (a.put (some d) v) w ae h r1
    have Z:∀t∈o.looksAt ops,t≠d∧¬QcA ops H t:=by
     intro t J;refine⟨fun e=>?_,?_⟩
     ·grind
     ·rintro⟨j,Y,U⟩
      grind
    have ah:¬QcA ops H d:=by
     rintro⟨j,Y,U⟩
     grind
    have ai:d<a.tmps.size:=by rw[r.siz];exact ad
    refine⟨b,rb,by rw[hH];rfl,?_,?_⟩
    ·refine⟨by rw[←G.1];rfl,by rw[←G.2.1];simp[Act.put],fun t J=>?_⟩;rw[←G.2.2 t (fun hc=>J (by obtain⟨j,Y,U⟩:=hc;exact⟨j,List.mem_cons_of_mem _ Y,U⟩))];have:d≠t:=fun e=>J ⟨i,List.mem_cons_self,zc⟩
     grind [Act.put]
    ·intro j Y;rcases List.mem_cons.1 Y with rfl|Y
     ·refine⟨o,d,v,ho,hd,?_,?_⟩
      ·rw[←G.2.2 d ah];simp[Act.put,ai]
      ·rw[←ab];congr 1;have h1:execOp (a.put (some d) v).eval o=execOp a.eval o:=execOp_put o (fun cs b=>Region.noSelect_spec O j o cs b ho) a (some d) v (fun t J hc=>by cases J;exact(Z d hc).1 rfl);rw[←h1];exact(Gi (ops:=ops) G (fun cs b=>Region.noSelect_spec O j o cs b ho) (fun t J=>(Z t J).2)).symm
     grind
   ·cases h
def Tz(P:Program)(ops:Array Oper)(i:Nat)(s:St):Prop :=
 match ops[i]? with
|some o=>match o.op,o.dst with
 |.move x,some d=>True
 |_,some d=>∃x,kg P o (look s.T) (look s.H)=some x∧look s.T d=some x∧Qcz (look s.H) x
 |_,none=>False
|none=>False
def Xh(P:Program)(ops:Array Oper)(L:List Nat)(s:St):Prop:=∀i∈L,Tz P ops i s
def XA:Nat→Array Oper→Nat→Nat→Bool
|0,_,_,_=>false
|n+1,ops,j,i=>match ops[j]? with
 |some o=>o.after.toList.any fun e=>Region.binds .any e&&(e.on==i||XA n ops e.on i)
 |none=>false
def Gj(ops:Array Oper)(L:List Nat)(c:Nat):List Nat:=L.filter fun i=>!XA ops.size ops c i&&!XA ops.size ops i c
def bI(P:Program)(N:Nat)(ops:Array Oper)(Q:AX→St→Prop)(L:List Nat):List (Nat×List Nat)→St→Prop
|[],s=>Q .normal s
|(c,hs)::rest,s=>match ops[c]? with
 |some o=>H6 P N o s (fun s'=>Xh P ops (Gj ops L c) s'∧∃G,Dp P N ops hs s'=some G∧bI P N ops Q L rest G) Q
 |none=>False
theorem Hr{ops:Array Oper}{listed:Array Bool}(G:∀(j:Nat) o,ops[j]?=some o→listed.getD j false=true→∀e∈o.after,Region.binds .any e=true→listed.getD e.on false=true):∀(n j i:Nat) (o:Oper),ops[j]?=some o→(∀e∈o.after,Region.binds .any e=true→listed.getD e.on false=true)→XA n ops j i=true→listed.getD i false=true
|0,j,i,o,Z,Y,h=>by cases h
|n+1,j,i,o,Z,Y,h=>by
  simp only[XA,Z,List.any_eq_true,Ku,Bool.or_eq_true,beq_iff_eq] at h;obtain⟨e,he,hb,J⟩:=h;have hl:=Y e zc hb;rcases J with J|J
  ·grind
  ·cases ho2:ops[e.on]? with
  |none=>cases n<;>grind [XA]
  |some o2=>exact Hr G n e.on i o2 ho2 (fun e2 O U=>G e.on o2 ho2 hl e2 O U) J
def chainOk(ops:Array Oper):List Nat→Bool|[]=>true|[_]=>true|c::c'::r=>(ops[c']?).any (waits · c)&&chainOk ops (c'::r)
def NL(ops:Array Oper)(L:List Nat):List Nat→List Nat→List (Nat×List Nat)→Bool|_,_,[]=>true|J,G,(c,hs)::r=>G.all (fun i=>L.contains i||XA ops.size ops c i)&&hs.all (fun i=>XA ops.size ops i c)&&J.all (fun i=>!XA ops.size ops i c)&&NL ops L (J++hs) hs r
def kw(H:List Nat)(Ch:List (Nat×List Nat)):List Nat:=H++(Ch.map (·.2)).flatten
def mQ(H L:List Nat)(Ch:List (Nat×List Nat))(ops:Array Oper):Bool :=
 (List.range ops.size).all (fun i=>(kw H Ch).contains i||(Ch.map (·.1)).contains i)&&Region.noSelect ops&&Dq ops (kw H Ch)&&chainOk ops (Ch.map (·.1))&&decide (Ch.map (·.1)).Nodup&&(kw H Ch).all (fun i=>!(Ch.map (·.1)).contains i) &&
 NL ops L H H Ch&&ops.toList.all (fun o=>o.guard.isNone)&&LU 0 ops.toList &&
 (kw H Ch).all (fun i=>match (ops[i]?).bind (·.dst) with
 |some d=>(List.range ops.size).all fun j=>i==j||(match ops[j]? with|some G=>G.dst != some d&&(waits G i||!(G.looksAt ops).contains d)|none=>true)
 |none=>false) &&
 L.all (fun i=>match ops[i]? with|some o=>(match o.op with|.move _=>true|_=>false)&&(Ch.map (·.1)).all (fun c=>match (ops[c]?).bind (·.dst) with|some e=>!(o.looksAt ops).contains e|none=>true)||!(match o.op with|.move _=>true|_=>false)|none=>false)
theorem Rz(h:waits o i=true):∃e∈o.after,Region.binds .any e=true∧e.on=i:=by
 grind [waits]
theorem lT{b:Act}{X:Tmp→Prop}(h:Agree X a b)(O:∀t,¬X t):a=b:=by
 obtain⟨G,h2,J⟩:=h;cases a with
|mk Z U =>
  cases b with
 |mk tb Y =>
   simp only at G J;subst G;congr 1;exact Array.ext_getElem? fun i=>J i<|O i
def Uy(ops:Array Oper)(H:List Nat)(listed:Array Bool)(t:Tmp):Prop:=∃i∈H,listed.getD i false=false∧(ops[i]?).bind (·.dst)=some t
theorem MH{ops:Array Oper}:∀(G:List Nat) (c c':Nat) (l2:List Nat),chainOk ops (G++c::c'::l2)=true→(ops[c']?).any (waits · c)=true
|[],c,c',l2,h=>by
  grind [chainOk]
|[x],c,c',l2,h=>by
  grind [chainOk]
|x::y::G,c,c',l2,h=>by
  simp only[List.cons_append,chainOk,Ku] at h;exact MH (y::G) c c' l2 h.2
theorem kz{ops:Array Oper}:∀(G l2:List Nat),Dq ops (G++l2)=true→(∀i∈G,∀j∈l2,∃o d,ops[i]?=some o∧o.dst=some d∧∀e,(ops[j]?).bind (·.dst)=some e→e∉o.looksAt ops∧e≠d)∧Dq ops l2=true
|[],l2,h=>⟨(fun i hi=>by cases hi),h⟩
|x::G,l2,h=>by
  simp only[List.cons_append,Dq,Ku] at h;obtain⟨g1,g2⟩:=kz G l2 h.2
  grind
theorem kC(J:ops[j]?=some o)(U:o.dst=some d):∀(l:List Nat),Dq ops l=true→j∈l→d∉o.looksAt ops:=by
 intro l
 induction l with
|nil=>simp
|cons x l G =>
  intro hp O;simp only[Dq,Ku] at hp
  grind
theorem PX{ops:Array Oper}:∀(G l2:List Nat),Dq ops (G++l2)=true→Dq ops G=true
|[],_,_=>rfl
|x::G,l2,h=>by
  simp only[List.cons_append,Dq,Ku] at h ⊢;refine⟨?_,PX G l2 h.2⟩
  grind
theorem OD{ops:Array Oper}{L:List Nat}:∀(O G:List Nat) (Y:List (Nat×List Nat)),NL ops L O G Y=true→∀c hs,(c,hs)∈Y→∀i∈hs,XA ops.size ops i c=true
|_,_,[],_,c,hs,h,_,_=>by cases h
|O,G,(c0,J)::r,h,c,hs,U,i,hi=>by
  simp only[NL,Ku] at h;rcases List.mem_cons.1 U with e|U
  ·grind
  ·exact OD (O++J) J r h.2 c hs U i hi
def PY(ops:Array Oper):List Tmp:=ops.toList.filterMap (·.dst)
def OE(ops:Array Oper)(s:St):St:=⟨s.T.filter (fun p=>!(PY ops).contains p.1),s.H⟩
theorem MI(f:Nat→Bool):∀(T:List (Nat×AV)) (t:Nat) (x:AV),look (T.filter (fun p=>f p.1)) t=some x→look T t=some x∧f t=true
|[],t,x,h=>by cases h
|(k,v)::T,t,x,h=>by
  simp only[List.filter_cons] at h;by_cases G:f k=true
  ·simp only[G,if_true,look] at h;simp only[look];by_cases e:k=t
   ·grind
   ·simp only[e,if_false] at h ⊢;exact MI f T t x h
  ·simp only[G] at h;obtain⟨O,J⟩:=MI f T t x zc
   grind [look]
def qh{R:Type}(ops:Array Oper)(Q:R→AX→St→Prop):R→AX→St→Prop:=fun r x s=>match x with|.normal=>Q r .normal s|.panic v=>Q r (.panic v) (OE ops s)|_=>False
theorem wW{b:Act}{X:Tmp→Prop}(h:Agree X a b)(U:∀t,X t→t∈PY ops)(r:Zy φ M0 N D (look s.T) (look s.H) b w):Zy φ M0 N D (look (OE ops s).T) (look (OE ops s).H) a w:=by
 refine⟨?_,by rw[h.2.1];exact r.siz,r.hp,fun t x J=>?_⟩
 ·have:=r.dfs;unfold Marks at this ⊢;rw[h.1];exact this
 ·obtain⟨G,O⟩:=MI (fun t=>!(PY ops).contains t) s.T t x J;obtain⟨g1,g2⟩:=r.tm t x G;refine⟨g1,?_⟩
  have:a.tmps[t]?=b.tmps[t]?:=h.2.2 t (fun hc=>by
   grind)
  rw[Array.getD_eq_getD_getElem?,this,←Array.getD_eq_getD_getElem?];exact g2
theorem QfF{Qh:AX→St→Prop}{H L:List Nat}{Ch:List (Nat×List Nat)}(hok:mQ H L Ch ops=true)(dk:∀s,Qh .normal s→Q .normal s)(dx:∀v s,Qh (.panic v) s→Q (.panic v) (OE ops s)) :
  ∀(ab:Nat) (done ch:List (Nat×List Nat)) (ae O:List Nat) (listed:Array Bool) (a b:Act) (w:World) (s:St) (φ:Nat→Nat),Ch=done++ch→O=H++(done.map (·.2)).flatten→(∀i∈O,i∉L→i∉ae→listed.getD i false=true)→(∀i∈ae,i∈O)→NL ops L O ae ch=true→listed.size=ops.size→qm listed ops.size≤ab →
   (∀(j:Nat) o,ops[j]?=some o→listed.getD j false=true→∀e∈o.after,Region.binds .any e=true→listed.getD e.on false=true) →
   (∀c∈done,listed.getD c.1 false=true)→(∀c∈ch,listed.getD c.1 false=false)→Agree (Uy ops O listed) a b→Zy φ M0 N D (look s.T) (look s.H) b w→Zi φ0 h0 w0 φ (look s.H) w →
   (∀i∈O,listed.getD i false=false→∃o d v,ops[i]?=some o∧o.dst=some d∧b.tmps[d]?=some v∧(execOp b.eval o).run P w=.ok (.value v) w) →
   bI P N ops Qh L ch s→wpAny P .any ops (Post N D Q φ0 M0 h0 w0) ab listed a w:=by
 simp only[mQ,Ku,Pd] at hok;obtain⟨⟨⟨⟨⟨⟨⟨⟨⟨⟨ce,bv⟩,az⟩,ar⟩,b8⟩,cm⟩,c3⟩,dh⟩,b4⟩,bk⟩,c7⟩:=hok;have b6:∀(listed:Array Bool) (i:Nat),i<listed.size→listed.getD i true=listed.getD i false:=fun listed i hi=>by simp[hi]
 have cc:∀(X:Tmp→Prop) (a b:Act),Agree X a b→(∀t,X t→t∈PY ops)→∀c w,Post N D Qh φ0 M0 h0 w0 (.panic c) b w→Post N D Q φ0 M0 h0 w0 (.panic c) a w:=by
  rintro X a b Y hX c w' ⟨φ',x,s',g1,g2,g3,g4⟩;cases x with
 |normal=>cases g4
 |exit i=>cases g4
 |ret=>cases g4
 |panic v=>exact⟨φ',.panic v,OE ops s',dx _ _ g1,wW Y hX g2,g3,g4⟩
 have cg:∀a w,¬Post N D Qh φ0 M0 h0 w0 .outgrown a w:=fun a w h=>JC ⟨a,w,h⟩
 have dl:∀(O:List Nat) (listed:Array Bool) (t:Tmp),Uy ops O listed t→t∈PY ops:=by
  rintro O listed t ⟨i,_,_,hd⟩;cases ho:ops[i]? with
 |none=>grind
 |some o =>
   rw[ho] at hd;exact List.mem_filterMap.2 ⟨o,zc,hd⟩
 have c4:∀(j:Nat) o,ops[j]?=some o→o.guard=none:=by
  intro j o ho;have:=Fx.1 dh o zc;simpa using this
 have bg:∀(listed:Array Bool),listed.size=ops.size→Region.ready .any ops listed=[]→∀i,i<ops.size→listed.getD i false=true:=by
  intro listed a8 hr i
  induction i using Nat.strongRecOn with
 |_ i ih =>
   intro hi;cases hq:listed.getD i false with
  |true=>rfl
  |false =>
    have:i∈Region.ready .any ops listed:=by
     rw[mem_ready];refine⟨zc,ops[i],Array.getElem?_eq_getElem hi,fun e he hb=>?_⟩;have G:=WV b4 i ops[i] (by simp[hi]) e he hb
     grind
    grind
 have bl:∀(listed:Array Bool) (ch:List (Nat×List Nat)) (O:List Nat) (a b:Act) (w:World) (s:St) (φ:Nat→Nat),(∀i,i<ops.size→listed.getD i false=true)→(∀c∈ch,listed.getD c.1 false=false)→Agree (Uy ops O listed) a b →
   Zy φ M0 N D (look s.T) (look s.H) b w→Zi φ0 h0 w0 φ (look s.H) w→bI P N ops Qh L ch s→Post N D Q φ0 M0 h0 w0 .normal a w:=by
  intro listed ch O a b w s φ U aj Y r E hx
  have da:a=b:=lT Y (by
   rintro t ⟨i,hi,hl,hd⟩
   grind)
  subst da;cases ch with
 |nil=>exact⟨φ,.normal,s,dk _ hx,r,E,rfl⟩
 |cons c ch =>
   grind [bI]
 intro ab
 induction ab with
|zero =>
  intro done ch ae O listed a b w s φ aa au bq bi af a8 hu al bf aj Y r E J hx;have U:∀i,i<ops.size→listed.getD i false=true:=fun i hi=>by rw[←b6 listed i zo];exact Me (n:=ops.size) zo i hi
  refine⟨List.eq_nil_iff_forall_not_mem.2 fun i hi=>?_,bl listed ch O a b w s φ U aj Y r E hx⟩;obtain⟨G,o,ho,_⟩:=mem_ready.1 hi;have cr:=(AY.1 ho).1;rw[b6 listed i zo,U i cr] at G;cases G
|succ ab ih =>
  intro done ch ae O listed a b w s φ aa au bq bi af a8 hu al bf aj Y r E J hx;refine⟨fun hr=>bl listed ch O a b w s φ (bg listed a8 hr) aj Y r E hx,fun j hj=>?_⟩;obtain⟨cj,o,ho,U⟩:=mem_ready.1 hj;have an:j<ops.size:=(AY.1 ho).1;have aq:listed.getD j false=false:=by rw[←b6 listed j zo];exact cj
  have bh:∀cs b,o.op≠.select cs b:=fun cs b=>Region.noSelect_spec bv j o cs b ho
  have av:∀tm,Region.wanted o (yielded ops tm)=true:=fun tm=>by simp[Region.wanted,c4 j o ho]
  have ak:∀i∈O,i∈kw H Ch:=by
   intro i hi;rw[au] at hi;unfold kw;rw[aa,List.map_append,List.flatten_append,←List.append_assoc];exact List.mem_append_left _ hi
  have eL:∀k,(listed.setIfInBounds j true).getD k false=(listed.getD k false||decide (k=j)):=by
   intro k;by_cases bz:k=j
   ·subst bz;have:k<listed.size:=by omega
    simp[this]
   ·rw[getD_set_ne false<|Ne.symm bz];simp[bz]
  have cy:qm (listed.setIfInBounds j true) ops.size≤ab:=by
   have:=EP cj ops.size;rw[if_pos an] at this;omega
  have bo:∀(k:Nat) ok,ops[k]?=some ok→(listed.setIfInBounds j true).getD k false=true→∀e∈ok.after,Region.binds .any e=true→(listed.setIfInBounds j true).getD e.on false=true:=by
   intro k ok hk hl e he hb;rw[eL] at hl ⊢;simp only[Bool.or_eq_true,Pd] at hl ⊢;rcases hl with hl|hl
   ·exact .inl<|al k ok hk hl e he hb
   ·subst hl;rw[ho] at hk;cases hk;exact .inl<|U e he hb
  have bm:∀t∈o.looksAt ops,¬Uy ops O listed t∨∃d,o.dst=some d∧t=d∧j∈O:=by
   intro t ht;by_cases hc:Uy ops O listed t;rotate_left
   ·exact .inl hc
   obtain⟨i,hi,hl,hd⟩:=hc;have G:=Fx.1 bk i<|ak i hi;rw[hd] at G;have Z:=Fx.1 G j (by simp[an]);simp only[ho,Bool.or_eq_true,beq_iff_eq,Ku,Bool.not_eq_true',bne_iff_ne] at Z;rcases Z with rfl|⟨_,Z|Z⟩
   ·rw[ho] at hd;exact .inr ⟨t,hd,rfl,hi⟩
   ·obtain⟨e,he,hb,bu⟩:=Rz Z;have:=U e he hb;rw[bu,hl] at this;cases this
   ·simp[ht] at Z
  have bb:=Fx.1 ce j (by simp[an]);simp only[Bool.or_eq_true,List.contains_iff_mem] at bb;by_cases ad:j∈kw H Ch
  ·
   have bd:j∉Ch.map (·.1):=by
    have:=Fx.1 cm j ad;simpa using this
   have ay:j∈O:=by
    unfold kw at ad;rw[aa,List.map_append,List.flatten_append,←List.append_assoc] at ad;rcases List.mem_append.1 ad with G|G
    ·rw[au];exact G
    ·exfalso;obtain⟨hs,Z,h3⟩:=List.mem_flatten.1 G;obtain⟨⟨c,cz⟩,h4,h5⟩:=List.mem_map.1 Z;simp only at h5;subst h5;have hw:=OD O ae ch af c cz h4 j h3;have:=Hr al _ j c o ho U hw;rw[aj (c,cz) h4] at this;cases this
   obtain⟨o',d,v,cp,hd,hv,c2⟩:=J j ay aq;rw[ho] at cp;cases cp;have bw:d∉o.looksAt ops:=kC ho hd (kw H Ch) az ad
   have bx:∀t∈o.looksAt ops,¬Uy ops O listed t:=by
    intro t ht;rcases bm t ht with G|⟨d',G,rfl,_⟩
    ·exact G
    ·rw[hd] at G;cases G;exact absurd ht bw
   unfold wpOp;simp only[ho,av,if_true];refine .inl ?_;unfold Oper.wp;rw[Gi (ops:=ops) Y bh bx,c2];simp only[Oper.upon];refine ih done ch ae O (listed.setIfInBounds j true) (a.put o.dst v) b w s φ aa au (fun i hi G Z=>by rw[eL,bq i hi G Z];rfl) bi af (by simpa using a8) cy bo (fun c hc=>by rw[eL,bf c hc];rfl) ?_ ?_ r E ?_ hx
   ·intro c hc;rw[eL,aj c hc];have:c.1≠j:=fun e=>bd (by rw[aa,←e];exact List.mem_map.2 ⟨c,List.mem_append_right _ hc,rfl⟩)
    simp[this]
   ·refine⟨by rw[←Y.1,hd];rfl,by rw[←Y.2.1,hd];simp[Act.put],fun t ht=>?_⟩;rw[hd];by_cases b5:d=t
    ·subst b5
     have dm:d<a.tmps.size:=by
      rw[Y.2.1];exact(AY.1 hv).1
     rw[hv];simp[Act.put,dm]
    ·rw[←Y.2.2 t (fun hc=>ht (by
      obtain⟨i,hi,hl,ai⟩:=hc;refine⟨i,hi,?_,ai⟩;rw[eL,hl];have:i≠j:=fun e=>b5 (by rw[e,ho] at ai;exact Option.some.inj<|hd.symm.trans ai)
      simp[this]))]
     simp[Act.put,Array.getElem?_setIfInBounds_ne b5]
   ·intro i hi hl;refine J i hi ?_;rw[eL] at hl;simp only[Bool.or_eq_false_iff] at hl;exact hl.1
  ·
   have bd:j∈Ch.map (·.1):=bb.resolve_left ad;have ay:j∉O:=fun h=>ad<|ak j h
   have cq:∃hs r,ch=(j,hs)::r:=by
    have bj:=bd;rw[aa,List.map_append] at bj
    have cw:j∈ch.map (·.1):=by
     rcases List.mem_append.1 bj with G|G
     ·obtain⟨c,hc,rfl⟩:=List.mem_map.1 G;rw[bf c hc] at aq;cases aq
     ·exact G
    cases ch with
   |nil=>cases cw
   |cons c r =>
     obtain⟨c,hs⟩:=c;by_cases cx:j=c
     ·exact⟨hs,r,by rw[cx]⟩
     ·exfalso;have c5:j∈r.map (·.1):=(List.mem_cons.1 cw).resolve_left cx;obtain⟨r1,r2,bp⟩:=List.append_of_mem c5;obtain⟨q,x,cu⟩:∃q x,c::r1=q++[x]:=⟨(c::r1).dropLast,(c::r1).getLast zq,(List.dropLast_concat_getLast zq).symm⟩
      have dq:Ch.map (·.1)=(done.map (·.1)++q)++x::j::r2:=by
       rw[aa,List.map_append,JR,bp,show c::(r1++j::r2)=(c::r1)++j::r2 from rfl,cu];simp
      rw[dq] at ar;have G:=MH _ _ _ _ ar;rw[ho] at G;obtain⟨e,he,hb,bu⟩:=Rz (o:=o) (i:=x) G;have Z:=U e he hb
      have c9:x∈((c,hs)::r).map (·.1):=by
       rw[JR,bp,show c::(r1++j::r2)=(c::r1)++j::r2 from rfl,cu];simp
      obtain⟨y,hy,rfl⟩:=List.mem_map.1 c9;have h3:=aj y hy;rw[bu,h3] at Z;cases Z
   obtain⟨hs,rest,rfl⟩:=cq
   have bt:∀t∈o.looksAt ops,¬Uy ops O listed t:=by
    intro t ht;rcases bm t ht with G|⟨d',_,_,G⟩
    ·exact G
    ·exact absurd G ay
   have bn:∀t,o.dst=some t→¬Uy ops O listed t:=by
    rintro t ht ⟨i,hi,hl,hd⟩;have G:=Fx.1 bk i<|ak i hi;rw[hd] at G;have Z:=Fx.1 G j (by simp[an]);simp only[ho,Bool.or_eq_true,beq_iff_eq,Ku,Bool.not_eq_true',bne_iff_ne] at Z;rcases Z with rfl|⟨Z,_⟩
    ·exact ay hi
    ·exact Z ht
   simp only[bI,ho] at hx;simp only[NL,Ku] at af;unfold wpOp;simp only[ho,av,if_true];refine .inl ?_;have hw:=ND hx r;have c6:=Go.Abs.Oper.wp_mono2 (K':=fun a' w'=>∃φ' s',(Xh P ops (Gj ops L j) s'∧∃a7,Dp P N ops hs s'=some a7∧bI P N ops Qh L rest a7)∧Zy φ' M0 N D (look s'.T) (look s'.H) a' w'∧Zi φ (look s.H) w φ' (look s'.H) w') (Q':=Post N D Qh φ0 M0 h0 w0) hw (fun _ _ h=>h) fun e a' w' p=>p.trans E;refine Oper.wp_mono ?_<|zZ (ops:=ops) Y bh bt bn (cc _ _ _ Y<|dl _ _) cg c6;rintro a' w' ⟨b',aw,c1,φ',s',⟨dn,a7,b3,di⟩,r',E'⟩
   have ba:∀i∈O,i∉L→listed.getD i false=true:=by
    intro i hi am;by_cases be:i∈ae
    ·have G:=Fx.1 af.1.1.1 i be;simp only[Bool.or_eq_true,List.contains_iff_mem] at G;rcases G with G|G
     ·exact absurd G am
     ·exact Hr al _ j i o ho U G
    ·exact bq i hi am be
   have bc:kw H Ch=O++(hs++(rest.map (·.2)).flatten):=by
    unfold kw;rw[aa,au,List.map_append,List.flatten_append,JR,List.flatten_cons,List.append_assoc]
   have ao:=az;rw[bc] at ao;obtain⟨dy,df⟩:=kz O _ ao;have dt:=PX _ _ df;obtain⟨b2,rb,dz,ah,co⟩:=qx bv hs s' a7 b' w' dt b3 r'
   have cf:∀i∈hs,listed.getD i false=false∧i≠j:=by
    intro i hi;have hw:=Fx.1 af.1.1.2 i hi;refine⟨?_,fun e=>ad (by rw[bc,←e];exact List.mem_append_right _ (List.mem_append_left _ hi))⟩;cases hq:listed.getD i false with
   |false=>rfl
   |true =>
     exfalso;obtain⟨oi,_,_,ac,_⟩:=co i hi;have:=Hr al _ i j oi ac (fun e he hb=>al i oi ac hq e he hb) hw;rw[aq] at this;cases this
   have du:∀t,QcA ops hs t→Uy ops (O++hs) (listed.setIfInBounds j true) t:=by
    rintro t ⟨i,hi,hd⟩;refine⟨i,List.mem_append_right _ hi,?_,hd⟩;rw[eL,(cf i hi).1];simp[(cf i hi).2]
   have dv:∀t,Uy ops O listed t→Uy ops (O++hs) (listed.setIfInBounds j true) t:=by
    rintro t ⟨i,hi,hl,hd⟩;refine⟨i,List.mem_append_left _ hi,?_,hd⟩;rw[eL,hl];have:i≠j:=fun e=>ay<|e▸hi
    simp[this]
   refine ih (done++[(j,hs)]) rest hs (O++hs) (listed.setIfInBounds j true) a' b2 w' a7 φ' (by rw[aa];simp) (by rw[au,List.map_append,List.flatten_append];simp) ?_ (fun i hi=>List.mem_append_right _ hi) af.2 (by simpa using a8) cy bo (fun c hc=>by
    rw[eL];rcases List.mem_append.1 hc with G|G
    ·rw[bf c G];rfl
    ·rw[List.mem_singleton] at G;simp[G]) ?_ ⟨aw.1.trans ah.1,aw.2.1.trans ah.2.1,fun t ht=>(aw.2.2 t fun hc=>ht<|dv t hc).trans<|ah.2.2 t fun hc=>ht<|du t hc⟩ rb (by rw[dz];exact E.trans E') ?_ di
   ·intro i hi am be;rcases List.mem_append.1 hi with hi|hi
    ·rw[eL,ba i hi am];rfl
    ·exact absurd hi be
   ·intro c hc;rw[eL,aj c<|List.mem_cons_of_mem _ hc]
    have:c.1≠j:=by
     intro e;rw[aa,List.map_append,JR] at b8;have Z:=(List.nodup_append.1 b8).2.1;exact(List.nodup_cons.1 Z).1 (List.mem_map.2 ⟨c,hc,e⟩)
    simp[this]
   ·intro i hi hl;rcases List.mem_append.1 hi with ax|dj
    rotate_left
    ·exact co i dj
    rw[eL] at hl;simp only[Bool.or_eq_false_iff] at hl
    have am:i∈L:=by
     apply Classical.byContradiction;intro hc;rw[ba i ax hc] at hl;cases hl.1
    obtain⟨oi,d,v,ac,ai,dp,cn⟩:=J i ax hl.1;have b9:b'.tmps[d]?=some v:=by rw[c1 d (fun e=>bn d e ⟨i,ax,hl.1,by rw[ac];exact ai⟩)];exact dp
    have ca:∀t,t∈oi.looksAt ops∨t=d→¬QcA ops hs t:=by
     rintro t ht ⟨k,hk,dc⟩;obtain⟨o2,d2,G,Z,h3⟩:=dy i ax k (List.mem_append_left _ hk);rw[ac] at G;cases G;rw[ai] at Z;cases Z;obtain⟨h4,h5⟩:=h3 t dc;rcases ht with ht|ht
     ·exact h4 ht
     ·exact h5 ht
    have br:∀cs b,oi.op≠.select cs b:=fun cs b=>Region.noSelect_spec bv i oi cs b ac
    refine⟨oi,d,v,ac,ai,by rw[←ah.2.2 d (ca d<|.inr rfl)];exact b9,?_⟩;rw[←Gi (ops:=ops) ah br (fun t ht=>ca t<|.inl ht)]
    have dw:XA ops.size ops j i=false:=by
     cases hq:XA ops.size ops j i with
    |false=>rfl
    |true =>
      have:=Hr al _ j i o ho U hq;rw[hl.1] at this;cases this
    have cl:XA ops.size ops i j=false:=by
     have:=Fx.1 af.1.2 i ax;simpa using this
    have G:=dn i (List.mem_filter.2 ⟨am,by rw[dw,cl];rfl⟩);unfold Tz at G;simp only[ac] at G;split at G
    ·rename_i x d' a6 b7
     have cd:b.eval x=v:=by
      simp[execOp,a6] at cn;exact cn
     have de:b'.eval x=b.eval x:=by
      cases x with
     |tmp t =>
       have db:o.dst≠some t:=by
        intro e;have Z:=Fx.1 c7 i am;simp only[ac,a6,Bool.true_and,Bool.not_true,Bool.or_false] at Z;have h3:=Fx.1 Z j bd;simp only[ho,Zm,e,Bool.not_eq_true'] at h3;have:t∈oi.looksAt ops:=List.mem_append_left _ (List.mem_filterMap.2 ⟨.tmp t,by simp[a6,Op.operands],rfl⟩);simp[this] at h3
       simp only[Act.eval];rw[Array.getD_eq_getD_getElem?,Array.getD_eq_getD_getElem?,c1 t db]
     |_=>rfl
     simp[execOp,a6,de,cd]
    ·rename_i d' b7 a6;obtain⟨x,Z,h3,h4⟩:=G;obtain⟨v',h5,h6⟩:=ku r' Z;rw[ai] at b7;cases b7;have h7:=(r'.tm d x h3).2;rw[Array.getD_eq_getD_getElem?,b9] at h7;have:=wV h4 h6 h7;rw[h5,this];rfl
    ·cases G
theorem QiX{R:Type}{r0:R}{Q:R→AX→St→Prop}(H L:List Nat)(Ch:List (Nat×List Nat))(hm:P.follows .mixedOrders=true)(ac:Fb ops=true)(hok:mQ H L Ch ops=true)(h1:Dp P N ops H s=some s1)(h:bI P N ops (qh ops Q r0) L Ch s1):Ex P N ro (.region id ops true) s (Q r0):=by
 intro φ M0 D a w r;refine wpIn_region_any hm<|PR ac JC _ _ _ _ ?_;have hd:Zi φ (look s.H) w φ (look s.H) { w with drawn:=w.drawn+1 }:=T9 rfl rfl rfl rfl;have r1:Zy φ M0 N D (look s.T) (look s.H) a { w with drawn:=w.drawn+1 }:=r.keep hd (LM rfl)<|Nr (w:=w) rfl hd r.hp;have J:=hok;simp only[mQ,Ku,Pd] at J;obtain⟨⟨⟨⟨⟨⟨⟨⟨⟨⟨af,ad⟩,U⟩,aa⟩,ai⟩,ah⟩,G⟩,al⟩,ab⟩,aj⟩,ak⟩:=J;obtain⟨b,rb,hH,O,hJ⟩:=qx ad H s s1 a _ (PX H _ U) h1 r1
 have Z:∀(j:Nat),(Array.replicate ops.size false).getD j false=false:=by
  intro j;rcases Nat.lt_or_ge j ops.size with h|h
  ·simp[h]
  ·simp[h]
 have Y:∀n,qm (Array.replicate ops.size false) n≤n:=by
  intro n
  induction n with
 |zero=>simp[qm]
 |succ n ih=>grind [qm]
 have h2:=QfF (D:=D) (φ0:=φ) (h0:=look s.H) (w0:=w) (M0:=M0) hok (Q:=Q r0) (Qh:=qh ops Q r0) (fun _ h=>h) (fun _ _ h=>h) ops.size [] Ch H H (Array.replicate ops.size false) a b { w with drawn:=w.drawn+1 } s1 φ rfl zq (fun i hi _ hc=>absurd hi hc) (fun i hi=>hi) G zq (Y _) (fun j o _ hj=>by grind) (fun c hc=>by cases hc) (fun c _=>Z c.1)
  ⟨O.1,O.2.1,fun t ht=>O.2.2 t fun hc=>ht (by obtain⟨i,hi,ae⟩:=hc;exact⟨i,hi,Z i,ae⟩)⟩ rb zc (fun i hi _=>hJ i hi) h
 omega
structure vI{R:Type}(a:Option R)(P:Program)(N:Nat)(ops:Array Oper)(Q:R→AX→St→Prop)(L:List Nat)(Ch:List (Nat×List Nat))(s:St):Prop where
 intro ::
 h:∀r,a=some r→bI P N ops (qh ops Q r) L Ch s
def fKh{R:Type}(P:Program)(N:Nat)(ops:Array Oper)(Q:R→AX→St→Prop)(L:List Nat)(Ch:List (Nat×List Nat))(c:Nat)(hs:List Nat):R→St→Prop:=fun r s=>Xh P ops (Gj ops L c) s∧∃G,Dp P N ops hs s=some G∧bI P N ops (qh ops Q r) L Ch G
section
variable {R V E:Type}{a a1 a2:Option R}{P:Program}{N:Nat}{ro:Option Nat}{id:Nat}{ops:Array Oper}{o:Oper}{s s1 s':St}{Q:R→AX→St→Prop}{f:FuncId}{args args':List AV}{dst:Option Tmp}{L hs:List Nat}{Ch:List (Nat×List Nat)}{c i:Nat}
theorem Wi(H L:List Nat)(Ch:List (Nat×List Nat))(U:P.follows .mixedOrders=true)(O:Fb ops=true)(h:vI a P N ops Q L Ch ((Dp P N ops H s).getD s))(hok:mQ H L Ch ops=true:=by kernel_rfl)(J:(Dp P N ops H s).isSome=true:=by kernel_rfl):QZ a P N ro (.region id ops true) s Q:=by
 obtain⟨s1,e⟩:=TZ.1 J;rw[e] at h;exact⟨fun r G=>QiX H L Ch U O hok e<|h.h r G⟩
theorem Qo:Xh P ops [] s:=fun i hi=>by cases hi
theorem Qj(J:Tz P ops i s)(O:Xh P ops L s):Xh P ops (i::L) s:=fun j G=>by
 rcases List.mem_cons.1 G with rfl|G
 ·exact J
 ·exact O j G
theorem kD(x:AV)(h:(ops[i]?).bind (fun o=>o.dst.bind fun d=>(kg P o (look s.T) (look s.H)).bind fun y=>(look s.T d).map fun z=>(y,z))=some (x,x))(J:Qcz (look s.H) x):Tz P ops i s:=by
 unfold Tz;cases ho:ops[i]? with
|none=>grind
|some o =>
  rw[ho,Zm] at h;cases hd:o.dst with
 |none=>grind
 |some d =>
   rw[hd,Zm] at h;obtain⟨y,Y,G⟩:=Es.1 h;obtain⟨z,U,O⟩:=F3.1 G
   grind
theorem Qv(x:AV)(G:xQ x=true)(h:(ops[i]?).bind (fun o=>o.dst.bind fun d=>(kg P o (look s.T)<|look s.H).bind fun y=>(look s.T d).map fun z=>(y,z))=some (x,x):=by kernel_rfl):Tz P ops i s:=kD x h<|.inl G
theorem XB{S t ty:Nat}{es:List (List PV)}(hS:Nat.ble 1 S=true)(h:(ops[i]?).bind (fun o=>o.dst.bind fun d=>(kg P o (look s.T)<|look s.H).bind fun y=>(look s.T d).map fun z=>(y,z))=some (.tsl S es t,.tsl S es t):=by kernel_rfl)(G:look s.H t=some (.arr ty S es.length):=by kernel_rfl):Tz P ops i s:=kD _ h<|.inr ⟨S,es,t,ty,rfl,G,Nat.le_of_ble_eq_true hS⟩
theorem Xi(h:ZK a Q .normal s):vI a P N ops Q L [] s:=⟨fun r G=>h.h r G⟩
theorem kh(G:List Nat)(Y:Xh P ops G s)(h:vI a P N ops Q L Ch ((Dp P N ops hs s).getD s))(J:Gj ops L c=G:=by kernel_rfl)(U:(Dp P N ops hs s).isSome=true:=by kernel_rfl):Dk a (fKh P N ops Q L Ch c hs) s:=by
 obtain⟨s1,e⟩:=TZ.1 U;rw[e] at h;exact⟨fun r O=>⟨J▸Y,s1,e,h.h r O⟩⟩
def Dr(P:Program)(N:Nat)(ops:Array Oper)(c:Nat)(s:St):Option St:=(ops[c]?).bind (fun o=>match o.op with|.pick ..=>none|.panic _=>none|.call ⟨.value _,_,_⟩=>none|_=>if KL N o.dst then(We P o (look s.T)<|look s.H).map (fun u=>Uu s o.dst u) else none)
theorem Xc(Y:List Nat)(U:Xh P ops Y ((Dr P N ops c s).getD s))(h:vI a P N ops Q L Ch ((Dr P N ops c s).getD s))(hL:Gj ops L c=Y:=by kernel_rfl)(h0:(Dr P N ops c s).isSome=true:=by kernel_rfl):vI a P N ops Q L ((c,[])::Ch) s:=by
 obtain⟨s',G⟩:=TZ.1 h0;rw[G] at U h;simp only[Option.getD_some] at U h;unfold Dr at G;refine⟨fun r Z=>?_⟩;simp only[bI];cases ho:ops[c]? with
|none=>grind
|some o =>
  simp only[ho,Zm] at G ⊢;unfold H6;split at G
  ·cases G
  ·cases G
  ·cases G
  ·rename_i n1 n2 n3;split at G;rotate_left
   ·cases G
   rename_i O;obtain⟨u,hu,rfl⟩:=F3.1 G
   have key:zx N o s (fun s'=>Xh P ops (Gj ops L c) s'∧∃J,Dp P N ops [] s'=some J∧bI P N ops (qh ops Q r) L Ch J) (We P o (look s.T)<|look s.H):=by
    rw[hu];exact⟨O,hL▸U,_,rfl,h.h r Z⟩
   grind
theorem Yj(h:NV a P N f args dst s (fKh P N ops Q L Ch c hs) (qh ops Q))(hf:(ops[c]?).bind (fun o=>(Kk (look s.T) o.op).map fun p=>(p.1,p.2,o.dst))=some (f,args,dst):=by kernel_rfl)(hb:Vx P f=true:=by kernel_rfl):vI a P N ops Q L ((c,hs)::Ch) s:=by
 refine⟨fun r O=>?_⟩;simp only[bI];cases ho:ops[c]? with
|none=>grind
|some o =>
  simp only[ho,Zm] at hf ⊢;obtain⟨⟨f0,G⟩,U,J⟩:=F3.1 hf;simp only[LK] at J;obtain⟨rfl,rfl,rfl⟩:=J;exact Hq U hb<|h.h r O
theorem mR{v:AV}(s':St)(e:OE ops s=s')(h:ZK a Q (.panic v) s'):ZK a (qh ops Q) (.panic v) s:=by
 subst e;exact⟨fun r G=>h.h r G⟩
theorem Iy{b:Bool}{u:Kv}(U:List Nat)(Z:ops[c]?=some o)(hu:b=true→We P o (look s.T) (look s.H)=some u)(hl:b=true→Xh P ops U (Uu s o.dst u))(h:vI a P N ops Q L Ch (Uu s o.dst u))(Y:Gj ops L c=U:=by kernel_rfl)(hp:(plain o.op&&KL N o.dst)=true:=by kernel_rfl):vI (cond b a none) P N ops Q L ((c,[])::Ch) s:=by
 cases b with
|false=>exact⟨fun r O=>by cases O⟩
|true =>
  refine⟨fun r O=>?_⟩;simp only[Ku] at hp;simp only[bI,Z];unfold H6
  have key:zx N o s (fun s'=>Xh P ops (Gj ops L c) s'∧∃J,Dp P N ops [] s'=some J∧bI P N ops (qh ops Q r) L Ch J) (We P o (look s.T)<|look s.H):=by
   rw[hu rfl];exact⟨hp.2,Y▸hl rfl,_,rfl,h.h r O⟩
  split
  ·rename_i G;rw[G] at hp;cases hp.1
  ·rename_i G;rw[G] at hp;cases hp.1
  ·rename_i G;rw[G] at hp;cases hp.1
  grind
theorem QhW{m:Option V}{k:V→Option R}{X:V→AV}{K:R→St→Prop}(C:List RoC)(hc:∀v,m=some v→Zc P f args' (.ret<|X v))(U:xP (look s.H) C args=some args')(hb:(KL N dst&&Vw args')=true)(J:∀v,flat (X v)=true)(h:∀v,Dk (k v) K (St.put s dst<|X v)):NV (m.bind k) P N f args dst s K Q:=by
 refine⟨fun r G=>?_⟩;obtain⟨v,O,Y⟩:=Es.1 G;simp only[Ku] at hb;exact xH (hc v O) (NJ U) hb.2 (Kc hb.1) ⟨J v,(h v).h r Y⟩
end
def RA{K V:Type}(eq:K→K→Bool)(k:K):List (K×V)→Option V|[]=>none|(k',v)::r=>bif eq k k' then some v else RA eq k r
def Qt{K V:Type}(eq:K→K→Bool)(k:K)(v:V):List (K×V)→List (K×V)|[]=>[(k,v)]|(k',v')::r=>bif eq k k' then(k,v)::r else(k',v')::Qt eq k v r
def QH{K V:Type}(eq:K→K→Bool)(k:K)(z:V)(m:List (K×V)):V:=(RA eq k m).getD z
def MJ{K V:Type}(eq:K→K→Bool)(k:K)(m:List (K×V)):Bool:=(RA eq k m).isSome
def Un{K V:Type}(ke:K→Value)(ve:V→PV)(m:List (K×V)):List (Value×PV):=m.map fun p=>(ke p.1,ve p.2)
section
variable {P:Program}{o:Oper}{T:Nat→Option AV}{h:QY}{K V:Type}{kt e t:TypeId}{ke:K→Value}{ve:V→PV}{eq:K→K→Bool}
theorem xU(Z:∀k,BP P kt (ke k)=true)(Y:∀a b,eqV P 4 kt (ke a) (ke b)=some (eq a b))(k:K):∀(m:List (K×V)) (i:Nat),
  (∃j,Gy P kt (ke k) i (Un ke ve m)=some ((RA eq k m).map fun v=>(j,ve v))∧(RA eq k m≠none→∀v,Un ke ve (Qt eq k v m)=(Un ke ve m).set (j-i) (ke k,ve v)∧i≤j))∧(RA eq k m=none→∀v,Un ke ve (Qt eq k v m)=Un ke ve m++[(ke k,ve v)])
|[],i=>⟨⟨0,rfl,fun h=>absurd rfl h⟩,fun _ v=>rfl⟩
|(k',v')::m,i=>by
  obtain⟨⟨j,h1,h2⟩,h3⟩:=xU Z Y k m<|i+1;have G:Gy P kt (ke k) i (Un ke ve ((k',v')::m))=match (if BP P kt (ke k') then eqV P 4 kt (ke k) (ke k') else none) with|some true=>some (some (i,ve v'))|some false=>Gy P kt (ke k) (i+1) (Un ke ve m)|none=>none:=rfl
  have J:RA eq k ((k',v')::m)=bif eq k k' then some v' else RA eq k m:=rfl
  have O:∀v,Qt eq k v ((k',v')::m)=bif eq k k' then(k,v)::m else(k',v')::Qt eq k v m:=fun _=>rfl
  rw[Z k',if_pos rfl,Y] at G;cases hq:eq k k'
  ·rw[hq] at G J;simp only[hq,Kt] at G J O;rw[J];refine⟨⟨j,by rw[G,h1],fun U v=>?_⟩,fun U v=>?_⟩
   ·obtain⟨g1,g2⟩:=h2 U v;refine⟨?_,by omega⟩;rw[O,show Un ke ve ((k',v')::Qt eq k v m)=(ke k',ve v')::Un ke ve (Qt eq k v m) from rfl,g1,show Un ke ve ((k',v')::m)=(ke k',ve v')::Un ke ve m from rfl,show j-i=(j-(i+1))+1 from by omega];rfl
   ·rw[O,show Un ke ve ((k',v')::Qt eq k v m)=(ke k',ve v')::Un ke ve (Qt eq k v m) from rfl,h3 U v];rfl
  ·rw[hq] at G J;simp only[hq,KJ] at G J O;rw[J];refine⟨⟨i,G,fun _ v=>⟨?_,KD _⟩⟩,fun U=>by cases U⟩;rw[O,Nat.sub_self];rfl
theorem kE{rsv:Option Operand}(G:o.op=.makeMap t none)(J:o.dst=some d)(hb:h d=none):We P o T h=some (.mv d,some (d,.mp []),[d]):=by
 simp_all [We,BR]
theorem ZI{m:List (K×V)}{k:K}{z0:V}(ho:o.op=.lookup t x ix ok)(hk:∀k,BP P kt (ke k)=true)(Y:∀a b,eqV P 4 kt (ke a) (ke b)=some (eq a b))(ht:P.underlying t=some (.map kt e):=by kernel_rfl)(hx:Zn T x=some (.mv b):=by kernel_rfl)(hi:(Zn T ix).bind AR=some (ke k):=by kernel_rfl)(hb:h b=some (.mp<|Un ke ve m):=by kernel_rfl)(G:(P.underlying kt).isSome=true:=by kernel_rfl)(hz:((P.info? e).bind (·.zero)).map y7=some (avP<|ve z0):=by kernel_rfl):We P o T h=some (BU ok (avP<|ve<|QH eq k z0 m)<|MJ eq k m,none,[b]):=by
 obtain⟨kv,aa,Z⟩:=Es.1 hi;obtain⟨kd,U⟩:=TZ.1 G;obtain⟨z,J,O⟩:=F3.1 hz;obtain⟨⟨j,h1,h2⟩,h3⟩:=xU (P:=P) (kt:=kt) (ke:=ke) (ve:=ve) (eq:=eq) hk Y k m 0;unfold QH MJ;cases hg:RA eq k m with
|none =>
  simp_all [We,Ti,UJ]
|some v =>
  simp_all [We,Ti,UJ]
theorem YZ{m:List (K×V)}{k:K}{v:V}(ho:o.op=.mapUpdate t x ix y)(Z:∀k,BP P kt (ke k)=true)(O:∀a b,eqV P 4 kt (ke a) (ke b)=some (eq a b))(ht:P.underlying t=some (.map kt e):=by kernel_rfl)(hx:Zn T x=some (.mv b):=by kernel_rfl)(hi:(Zn T ix).bind AR=some (ke k):=by kernel_rfl)(hy:(Zn T y).bind pvO=some (ve v):=by kernel_rfl)(hb:h b=some (.mp<|Un ke ve m):=by kernel_rfl)(G:(P.underlying kt).isSome=true:=by kernel_rfl):We P o T h=some (.p<|.val undef,some (b,.mp<|Un ke ve<|Qt eq k v m),[b]):=by
 obtain⟨kv,aa,U⟩:=Es.1 hi;obtain⟨kd,J⟩:=TZ.1 G;obtain⟨y0,Y,ab⟩:=Es.1 hy;obtain⟨⟨j,h1,h2⟩,h3⟩:=xU (P:=P) (kt:=kt) (ke:=ke) (ve:=ve) (eq:=eq) Z O k m 0;cases hg:RA eq k m with
|none =>
  simp_all [We,Ti,VO]
|some v0 =>
  simp_all [We,Ti,VO]
end
section
variable {R V E:Type}{a a1 a2:Option R}{P:Program}{N:Nat}{ro:Option Nat}{ops:Array Oper}{o:Oper}{l:List Oper}{s s' s0 s1:St}{Q:R→AX→St→Prop}{K:R→St→Prop}{f g:FuncId}{args args':List AV}{dst:Option Tmp}
def iR(hc:zd)(ρ:Nat→Nat)(s:St)(dst:Option Tmp)(K:R→St→Prop)(Q:R→AX→St→Prop)(r:R):KQ→QY→Prop:=fun x h'=>∃hc',h'=look hc'∧Rq ρ hc hc' s.H∧Qcr (K r) (Q r) s dst ρ hc' x
def dI(P:Program)(fn:Func)(hc:zd)(N:Nat)(g:FuncId)(G:List (Nat×Nat))(ρ:Nat→Nat)(s:St)(dst:Option Tmp)(K:R→St→Prop)(Q:R→AX→St→Prop):R→AX→St→Prop :=fun r=>lM P fn hc N g (Dh G)<|iR hc ρ s dst K Q r
def lU(T:zj):List Tmp→List (Nat×Nat)→Bool
|[],[]=>true
|t::ts,p::L=>(match look T t with|some (.ptr b 0)=>b==p.1|_=>false)&&lU T ts L
|_,_=>false
theorem kF{T:List (Nat×AV)}:∀{ts:List Tmp} {L:List (Nat×Nat)},lU T ts L=true→ts.map (look T)=L.map fun p=>some<|.ptr p.1 0
|[],[],_=>rfl
|[],_::_,h=>by cases h
|_::_,[],h=>by cases h
|t::ts,p::L,h=>by
  simp only[lU,Ku] at h;simp only[JR,List.cons.injEq];refine⟨?_,kF h.2⟩
  grind
def QfG:zd→Bool
|[]=>true
|(_,k)::l=>(match k.ob with|none=>true|some .mp=>true|_=>false)&&QfG l
theorem mU{ρ:Nat→Nat}:∀{H:List (Nat×Blk)},QfG H=true→∀c k x,look H c=some k→k.ob=some x→(some x).map (dS ρ)=some x
|[],_,c,k,x,G,_=>by simp[look] at G
|(b,k0)::H,J,c,k,x,G,O=>by
  simp only[QfG,Ku] at J;simp only[look] at G;by_cases e:b=c
  ·simp only[e,if_true,ZA] at G;subst G;have U:=J.1;rw[O] at U;cases x with
  |mp=>rfl
  |lp=>cases U
  ·rw[if_neg e] at G;exact mU J.2 c k x G O
def QcB(tbs:List Tmp)(G:List (Nat×Nat))(s:St):Bool:=lU s.T tbs G&&QiQ G s.H&&QfG s.H
theorem PZ(L:List (Nat×Nat))(C:List Conv)(cb:List (Nat×List Conv))(F:Di fn g)(J:List (Nat×Nat))(hf:P.funcs[f]?=some fn)(hn:fn.ntmps=n)(hl:Nat.ble args'.length n=true)(G:O3 C args=Jn (Wh L) args')(hok:Xy N dst (Wh L) hc args'=true)(hsub:Dm s.H (Wh L) cb hc=hc.map (fun p=>some<|KR (Wh L) p.2))(Y:Vx P g=true)(hm:P.follows .mixedOrders=true){ops:Array Oper}(Z:F.r1=.region id ops false)(h1:(Mv P n ops false ⟨Xw 0 args',hc⟩).isSome=true)(U:QcB F.tbs J (zW P n ops false ⟨Xw 0 args',hc⟩)=true)(h:QZ a P n none F.rest ⟨(F.tc,.fn (.func g) []<|Dh J)::sgT J (zW P n ops false ⟨Xw 0 args',hc⟩).T,mD J (zW P n ops false ⟨Xw 0 args',hc⟩).H⟩ (dI P fn hc n g J (Wh L) s dst K Q)):NV a P N f args dst s K Q:=by
 subst hn;refine⟨fun r hr=>?_⟩;obtain⟨s1,O⟩:=TZ.1 h1;have e:zW P fn.ntmps ops false ⟨Xw 0 args',hc⟩=s1:=by simp[zW,O]
 rw[e] at U h;simp only[QcB,Ku] at U;simp only[Xy,Ku] at hok;obtain⟨⟨⟨⟨k1,k2⟩,k3⟩,k4⟩,k5⟩:=hok
 have hA:VC P f args' (look hc) (iR hc (Wh L) s dst K Q r):=by
  refine xJ F J hf (Nat.le_of_ble_eq_true hl) Y ?_;rw[Z];exact Iq hm O ⟨rfl,kF U.1.1,U.1.2,mU U.2,h.h r hr⟩
 refine PT (Wh L) hA (G▸Gf C args) k2 (fun c hc=>by grind) (Dl k4) (GX hsub) (GV k5) (Kc k1) ?_;rintro x h' ⟨hc',rfl,hd,hk⟩;refine⟨hc',KM (Wh L) hc' s.H,rfl,hd,fun _=>rfl,?_⟩;cases x with
|ret x=>exact hk
|panic x=>exact hk
def clQ(P:Program)(U:Func)(G:zd)(O:Nat→Nat)(s:St)(J:R→AX→St→Prop):R→AX→St→Prop :=
 fun r=>QhU P U G (fun x h'=>∃hc',h'=look hc'∧Rq O G hc' s.H∧(match x with|.ret _=>J r .ret ⟨s.T,KM O hc' s.H⟩|.panic _=>False))
def Qle:AX→AV|.panic v=>v|_=>Qcf
def Qnx:AX→Bool|.exit _=>true|_=>false
theorem Ul{Z:List (Nat×Nat)}{x:AX}(Y:KZ P g)(U:List (Nat×Nat))(J:List (Nat×Blk))(O:AV)(G:List AV)(cb:List (Nat×List Conv))(hx:Qnx x=false)(h:QZ a P Y.fn.ntmps none Y.rest ⟨(Y.d2,O)::(Y.d1,O)::Xw 0 G,J⟩ (clQ P Y.fn J (Wh U) s<|mM P fn hc ρ s0 dst K Q))(hl:Nat.ble G.length Y.fn.ntmps=true:=by kernel_rfl)(aa:Qle x::Dh Z=Jn (Wh U) (O::G):=by kernel_rfl)(hok:Xy N none (Wh U) J (O::G)=true:=by kernel_rfl)(hsub:Dm s.H (Wh U) cb J=J.map (fun p=>some<|KR (Wh U) p.2):=by kernel_rfl):ZK a (dI P fn hc N g Z ρ s0 dst K Q) x s:=by
 refine⟨fun r hr=>?_⟩;simp only[Xy,Ku] at hok;obtain⟨⟨⟨⟨k1,k2⟩,k3⟩,k4⟩,k5⟩:=hok
 have key:DEx P N g (Qle x::Dh Z) s (O0 P fn hc<|iR hc ρ s0 dst K Q r):=by
  refine Qao (Wh U) (mr Y (Nat.le_of_ble_eq_true hl)<|h.h r hr) (by grind [fZ]) k2 (fun c hc=>by grind) (Dl k4) (GX hsub) (GV k5) ?_;rintro y h' ⟨hc',rfl,hd,hk⟩;refine⟨hc',KM (Wh U) hc' s.H,rfl,hd,fun _=>rfl,?_⟩;cases y with
 |ret y=>exact hk
 |panic y=>exact hk
 cases x with
|normal=>exact key
|ret=>exact key
|panic v=>exact key
|exit i=>cases hx
theorem QcC{U:Func}{O:List (Nat×Blk)}{G:Nat→Nat}{J:R→AX→St→Prop}{x:AX}(Z:x=.ret∨x=.normal)(bs:List Nat)(cb:List (Nat×List Conv))(h:Mh P U (look s1.T) (look s1.H)=some (.tup []))(hok:ME G O (Yn cb s1.H bs) s (.tup [])=true)(hk:ZK a J .ret ⟨s.T,KM G (Yn cb s1.H bs) s.H⟩):ZK a (clQ P U O G s J) x s1:=by
 simp only[ME,Pk,Ku] at hok;refine⟨fun r Y=>?_⟩
 have:O0 P U O (fun x h'=>∃hc',h'=look hc'∧Rq G O hc' s.H∧(match x with|.ret _=>J r .ret ⟨s.T,KM G hc' s.H⟩|.panic _=>False)) s1 :=
  ⟨_,_,Yn cb s1.H bs,h,le_refl _,hok.1.1.1,VW hok.1.1.2,hok.1.2,_,rfl,Gg hok.2,hk.h r Y⟩
 rcases Z with rfl|rfl<;>exact this
theorem QcD{U:Func}{O:List (Nat×Blk)}{G:Nat→Nat}{J:R→AX→St→Prop}(bs:List Nat)(cb:List (Nat×List Conv))(h:Mh P U (look s1.T) (look s1.H)=some (.tup []))(hok:ME G O (Yn cb s1.H bs) s (.tup [])=true)(Y:ZK a J .ret ⟨s.T,KM G (Yn cb s1.H bs) s.H⟩):ZK a (clQ P U O G s J) .ret s1:=QcC (.inl rfl) bs cb h hok Y
theorem E9{U:Func}{O:List (Nat×Blk)}{G:Nat→Nat}{J:R→AX→St→Prop}(bs:List Nat)(cb:List (Nat×List Conv))(Y:ZK a J .ret ⟨s.T,KM G (Yn cb s1.H bs) s.H⟩)(h:Mh P U (look s1.T) (look s1.H)=some (.tup []):=by kernel_rfl)(hok:ME G O (Yn cb s1.H bs) s (.tup [])=true:=by kernel_rfl):ZK a (clQ P U O G s J) .normal s1:=QcC (.inr rfl) bs cb h hok Y
end
section
variable {R V:Type}{a a1 a2:Option R}{P:Program}{N:Nat}{ro:Option Nat}{c:Code}{s s' s1:St}{Q:R→AX→St→Prop}
def rdV(P:Program)(N:Nat)(ro:Option Nat)(c:Code):Nat→(AX→St→Prop)→AX→St→Prop|0,Q=>andThen (fun _=>False) Q|k+1,Q=>andThen (fun s'=>Ex P N ro c s'<|rdV P N ro c k Q) Q
def rdU(P:Program)(N:Nat)(ro:Option Nat)(c:Code)(k:Nat)(Q:R→AX→St→Prop):R→AX→St→Prop:=fun r=>rdV P N ro c k<|Q r
theorem Qaz{Q:AX→St→Prop}:∀(k:Nat) (s:St) (φ:Nat→Nat) (a:Act) (w:World),Ex P N ro c s (rdV P N ro c k Q)→Zy φ M0 N D (look s.T) (look s.H) a w→Zi φ0 h0 w0 φ (look s.H) w →
  Code.roundsIn (wd ro) 0 P c (Post N D Q φ0 M0 h0 w0) (k+1) a w:=by
 intro k
 induction k with
|zero =>
  intro s φ a w h r E;rw[roundsIn_succ];refine wpIn_mono (h φ M0 D a w r) ?_;rintro e a' w' ⟨φ',x,s',J,r',O,G⟩;cases x with
 |normal=>exact J.elim
 |ret=>simp only[H5] at G;subst G;exact⟨φ',.ret,s',J,r',E.trans O,rfl⟩
 |exit i=>simp only[H5] at G;subst G;exact⟨φ',.exit i,s',J,r',E.trans O,rfl⟩
 |panic p=>obtain⟨v,rfl,U⟩:=G;exact⟨φ',.panic p,s',J,r',E.trans O,v,rfl,U⟩
|succ k Y =>
  intro s φ a w h r E;rw[roundsIn_succ];refine wpIn_mono (h φ M0 D a w r) ?_;rintro e a' w' ⟨φ',x,s',J,r',O,G⟩;cases x with
 |normal=>simp only[H5] at G;subst G;exact Y s' φ' a' w' J r'<|E.trans O
 |ret=>simp only[H5] at G;subst G;exact⟨φ',.ret,s',J,r',E.trans O,rfl⟩
 |exit i=>simp only[H5] at G;subst G;exact⟨φ',.exit i,s',J,r',E.trans O,rfl⟩
 |panic p=>obtain⟨v,rfl,U⟩:=G;exact⟨φ',.panic p,s',J,r',E.trans O,v,rfl,U⟩
theorem ru:Zi φ h w φ h w:=T9 rfl rfl rfl rfl
theorem Km(k:Nat)(h:QZ a P N ro c s (rdU P N ro c k Q)):QZ a P N ro (.loop c) s Q :=
 ⟨fun r J φ M0 D a w G=>wpIn_loop_rounds (k+1)<|Qaz k s φ a w (h.h r J) G ru⟩
theorem Uz(K:LB)(s':St){k:Nat}(h:QZ a P N ro c s' (rdU P N ro c k Q))(hw:R7 K s=some s':=by kernel_rfl):ZK a (rdU P N ro c (k+1) Q) .normal s:=⟨fun r G=>(sP (Q:=rdU P N ro c k Q) K s' hw h).h r G⟩
theorem QiZ{k:Nat}(h:ZK a Q .ret s):ZK a (rdU P N ro c k Q) .ret s:=⟨fun r G=>by cases k<;>exact h.h r G⟩
theorem F8{k:Nat}(h:ZK a Q (.exit i) s):ZK a (rdU P N ro c k Q) (.exit i) s:=⟨fun r G=>by cases k<;>exact h.h r G⟩
theorem Qlf{k:Nat}(h:ZK a Q (.panic p) s):ZK a (rdU P N ro c k Q) (.panic p) s:=⟨fun r G=>by cases k<;>exact h.h r G⟩
end
def QaA(M:ZR)(k:Nat):ZR:=fun r o=>M r o∨r=k
theorem Iz(φ:Nat→Nat)(h:QY)(w:World):VF φ h w φ h w:=LM rfl
theorem QcE{J:ZR}(hs:∀r o,M0 r o→J r o)(r:Zy φ J N D T h a w):Zy φ M0 N D T h a w:=by
 have U:∀r o v,w.cell? ⟨r,o,none⟩=some v→¬MM φ h J r o→w.cell? ⟨r,o,none⟩=some v∧¬MM φ h M0 r o:=fun r o v hc G=>⟨hc,fun x=>G<|x.imp id<|hs r o⟩
 exact⟨r.dfs,r.siz,⟨r.hp.inj,fun b k hb=>Ke U (Iz φ h w) rfl<|r.hp.blk b k hb,fun b hb o G=>r.hp.fr b hb o<|hs _ _ G,fun x o Y=>r.hp.lt x o<|hs _ _ Y,r.hp.gm.sub fun x o G=>G.imp id<|hs x o⟩,
  fun t x O=>⟨(r.tm t x O).1,(QV U<|Iz φ h w).1 _ _ (r.tm t x O).2⟩⟩
theorem QaB{G:ZR}{e:Exit}{a':Act}(hs:∀r o,M0 r o→G r o)(p:Post N D Q φ G h w e a' w'):Post N D Q φ M0 h w e a' w':=by
 obtain⟨φ',x,s',Y,h2,O,J⟩:=p;refine⟨φ',x,s',Y,QcE hs h2,O,?_⟩;cases x with
|panic v =>
  obtain⟨u,e1,U⟩:=J;exact⟨u,e1,(QV (fun r o v hc Z=>⟨hc,fun x=>Z<|x.imp id<|hs r o⟩)<|Iz _ _ _).1 _ _ U⟩
|_=>exact J
theorem wX{ob:Obj}(r:ZX φ h w M0)(Y:Clear φ h w 1):Zi φ h w φ h (w.alloc ob)∧VF φ h w φ h (w.alloc ob):=by
 have G:∀x,x<w.heap.size→(w.alloc ob).heap[x]?=w.heap[x]?:=fun x J=>by show(w.heap.push ob)[x]?=_;grind
 have hs:(w.alloc ob).heap.size≤w.heap.size+1:=by simp
 have hh:∀b k,h b=some k→(w.alloc ob).heap[φ b]?=w.heap[φ b]?:=fun b k hb=>Y.lt r hs G zc
 refine⟨⟨rfl,rfl,rfl,by simp,fun x J _=>G x J,fun x o J _=>by grind [World.cell?],fun _ _ _ x=>x,fun _ _ _ _ x=>⟨⟨_,x⟩,rfl⟩,?_,?_,fun _ _ _ _ O U=>⟨⟨_,O,U⟩,rfl⟩⟩,?_,?_,?_,fun _ _ _ O U=>⟨⟨_,O,U⟩,rfl⟩⟩
 ·exact fun t ty S n _ hc=>⟨n,hc,KD _,fun _=>Ve rfl<|hh _ _ hc⟩
 ·grind
 ·grind
 ·exact fun t ty S n hc=>⟨n,hc,KD _,fun _=>Ve rfl<|hh _ _ hc⟩
 grind
theorem QaC{b:Act}{ob:Obj}{d:Tmp}(r:Zy φ M0 N D T h b w)(hT:T d=none)(U:Clear φ h w 1):Zy φ (QaA M0 w.heap.size) N D T h (b.put (some d) v) (w.alloc ob):=by
 obtain⟨E,X⟩:=wX (ob:=ob) r.hp U
 have hk:∀x o u,w.cell? ⟨x,o,none⟩=some u→¬MM φ h M0 x o→(w.alloc ob).cell? ⟨x,o,none⟩=some u∧¬MM φ h (QaA M0 w.heap.size) x o:=by
  intro x o u hc G;have J:=Nq hc;obtain⟨Z,h2⟩:=E.keeps M0 x o u hc G;refine⟨Z,fun hh=>?_⟩;rcases hh with hh|hh|hh
  ·exact G (.inl hh)
  ·exact G (.inr hh)
  ·omega
 have O:∀x,x<w.heap.size→(w.alloc ob).heap[x]?=w.heap[x]?:=fun x J=>by show(w.heap.push ob)[x]?=_;grind
 refine⟨r.dfs.keep E,by simp[Act.put,r.siz],⟨r.hp.inj,fun c k hb=>Ke hk X (U.lt r.hp (w':=w.alloc ob) zq O<|zc)<|r.hp.blk c k hb,?_,?_,(r.hp.gm.evol E).w,fun g Y o G=>G.elim (fun G=>r.hp.gm.m g Y o<|.inl G) fun G=>G.elim (fun G=>r.hp.gm.m g Y o<|.inr G) (fun e=>by have:=jV r.hp.gm.w g Y;omega)⟩,?_⟩
 ·intro c hc o G;rcases G with G|G
  ·exact r.hp.fr c hc o G
  ·rcases U c hc with Z|Z<;>omega
 ·intro x o J;show x<(w.heap.push ob).size;rw[Array.size_push];rcases J with J|J
  ·have:=r.hp.lt x o J;omega
  ·omega
 ·intro t x ht;refine⟨(r.tm t x ht).1,?_⟩;have aa:¬d=t:=fun e=>by grind
  have:(b.put (some d) v).tmps.getD t undef=b.tmps.getD t undef:=by simp_all [Act.put]
  rw[this];exact(QV hk X).1 _ _ (r.tm t x ht).2
theorem ry{b:Act}{k ty:Nat}{i:TypeInfo}{u:Kv}(r:Zy φ (QaA M0 k) N D (look s.T) (look s.H) b w)(E:Zi φ0 h0 w0 φ (look s.H) w)(af:w0.heap.size≤k)(ai:∀x,¬M0 k x)(ad:o.op=.alloc ty)(hd:o.dst=some d)(hi:P.info? ty=some i)(hz:i.zero=some z)(hN:d<N)(hb:b.tmps[d]?=some (.pointer<|some ⟨k,0,none⟩))(hw:w.heap[k]?=some (.cells z.cells ty (0,0)))(hu:We P o (look s.T) (look s.H)=some u) :
  Zy (QL φ d k) M0 N D (look (Uu s o.dst u).T) (look (Uu s o.dst u).H) b w∧Zi φ0 h0 w0 (QL φ d k) (look (Uu s o.dst u).H) w:=by
 simp only[We,ad,hi,hz,vk,hd] at hu;cases hcs:cellsOf (y7 z) with
|none=>grind
|some cs =>
  rw[hcs] at hu;dsimp only at hu;cases hn:look s.H d with
 |some x=>grind
 |none =>
   rw[hn] at hu;dsimp only at hu;cases hu;have hT:∀t,look (Uu s o.dst (.ptr d 0,some (d,.box ty cs),[d])).T t=if d=t then some (.ptr d 0) else look s.T t:=fun t=>by simp[Uu,hd,look]
   have hH:look (Uu s o.dst (.ptr d 0,some (d,.box ty cs),[d])).H=upd (look s.H) d (.box ty cs):=by rfl
   rw[hH];have ab:∀c q,look s.H c=some q→¬d=c:=fun c q hc e=>by grind
   have ae:∀c,look s.H c≠none→φ c≠k:=fun c hc e=>r.hp.fr c hc 0<|.inr e
   have aa:∀x y,MM (QL φ d k) (upd (look s.H) d<|.box ty cs) M0 x y→MM φ (look s.H) (QaA M0 k) x y:=by
    rintro x y (⟨c,q,O,G,J⟩|h)
    ·by_cases e:d=c
     ·simp only[QL,e,if_true] at G;exact .inr<|.inr G.symm
     ·simp only[upd,QL,e,if_false] at O G;exact .inl ⟨c,q,O,G,J⟩
    ·exact .inr<|.inl h
   have X:VF φ (look s.H) w (QL φ d k) (upd (look s.H) d<|.box ty cs) w:=by
    refine⟨fun c Y cs' hc=>?_,fun t Y S n hc=>?_,fun t Y S n hc=>?_,fun c k' x hc ho=>?_⟩
    ·grind [upd,QL]
    ·have:=ab t _ hc;exact⟨n,by grind [upd],KD _,fun _=>Ve (by simp[QL,this]) rfl⟩
    ·have:=ab t _ hc;exact⟨n,by grind [upd],KD _,fun _=>⟨by simp[QL,this],fun c ac=>⟨c,ac,rfl⟩⟩⟩
    grind [upd,QL]
   have Z:∀x y v,w.cell? ⟨x,y,none⟩=some v→¬MM φ (look s.H) (QaA M0 k) x y→w.cell? ⟨x,y,none⟩=some v∧¬MM (QL φ d k) (upd (look s.H) d<|.box ty cs) M0 x y:=fun x y v hc hm=>⟨hc,fun hh=>hm<|aa x y hh⟩
   refine⟨⟨?_,r.siz,⟨?_,?_,?_,fun x y hx=>r.hp.lt x y<|.inl hx,r.hp.gm.sub aa⟩,?_⟩,?_⟩
   ·obtain⟨g0,ms,g1,g2,g3⟩:=r.dfs;refine⟨g0,ms,g1,g2,fun x hx=>?_⟩
    grind [QL,upd]
   ·intro c c' hc hc' e;by_cases e1:d=c<;>by_cases e2:d=c'
    ·omega
    ·grind [QL,upd,absurd]
    ·grind [QL,upd,absurd]
    ·simp only[upd,QL,e1,e2,if_false] at hc hc' e;exact r.hp.inj c c' hc hc' e
   ·intro c q hc;by_cases e:d=c
    ·have G:q=.box ty cs:=by grind [upd]
     have J:QL φ d k c=k:=by simp[QL,e]
     rw[G,J];exact⟨z.cells,hw,(QV Z X).2 _ _ (V7 hcs<|Jy z).1⟩
    ·have O:look s.H c=some q:=by grind [upd]
     have J:QL φ d k c=φ c:=by simp[QL,e]
     rw[J];exact Ke Z X rfl<|r.hp.blk c q O
   ·intro c hc y hm;by_cases e:d=c
    ·grind [QL]
    ·have J:QL φ d k c=φ c:=by simp[QL,e]
     rw[J] at hm;exact r.hp.fr c (by grind [upd]) y<|.inl hm
   ·intro t x U;rw[hT] at U;by_cases e:d=t
    ·simp only[e,if_true,ZA] at U;subst U
     simp_all [Qf,QL,upd]
    ·simp only[e,if_false] at U;exact⟨(r.tm t x U).1,(QV Z X).1 _ _ (r.tm t x U).2⟩
   ·refine⟨E.os,E.tape,E.output,E.size,E.same,E.cell,?_,?_,?_,?_,?_⟩
    ·rintro x y hx ⟨c,q,O,G,J⟩;by_cases e:d=c
     ·grind [QL]
     ·simp only[upd,QL,e,if_false] at O G;exact E.mu x y hx ⟨c,q,O,G,J⟩
    ·intro c Y cs' hc hb;obtain⟨⟨ah,O⟩,G⟩:=E.kb c Y cs' hc hb
     grind [upd,QL]
    ·intro t Y S n U hb;obtain⟨n',O,G,J⟩:=E.kt t Y S n U hb
     grind [upd,QL]
    ·intro t Y S n U hb;obtain⟨n',O,G,J⟩:=E.kv t Y S n U hb
     grind [upd,QL]
    ·intro c k' x hc hb ho;obtain⟨⟨k2,O,G⟩,J⟩:=E.ko c k' x hc hb ho
     grind [upd,QL]
def bJ(P:Program)(N:Nat)(ops:Array Oper)(Q:AX→St→Prop)(H:List Nat)(q d:Nat):List Nat→St→Prop
|[],s=>Q .normal s
|c::rest,s=>match ops[c]? with
 |some o=>if c=q then(∃u,KL N o.dst=true∧We P o (look s.T) (look s.H)=some u∧Xh P ops (Gj ops H c) (Uu s o.dst u)∧bJ P N ops Q H q d rest (Uu s o.dst u))
   else H6 P N o s (fun s'=>Xh P ops (Gj ops H c) s'∧(q∈rest→look s'.T d=none)∧bJ P N ops Q H q d rest s') Q
 |none=>False
def IA(ops:Array Oper)(q:Nat):List Nat→Bool|c::c'::r=>(c != q||(ops[c']?).any (waits · q))&&IA ops q (c'::r)|_=>true
def QfH(ops:Array Oper)(H G:List Nat):Bool :=
 H.all (fun i=>match ops[i]? with|some o=>(match o.op with|.move _=>true|_=>false)&&G.all (fun c=>match (ops[c]?).bind (·.dst) with|some e=>!(o.looksAt ops).contains e|none=>true)||!(match o.op with|.move _=>true|_=>false)|none=>false)
def Sd(P:Program)(N:Nat)(H:List Nat)(q d:Nat)(G:List Nat)(ops:Array Oper):Bool :=
 (List.range ops.size).all (fun i=>H.contains i||G.contains i)&&Region.noSelect ops&&Dq ops H&&chainOk ops (G.filter (· != q))&&decide G.Nodup&&H.all (fun i=>!G.contains i) &&
 H.all (fun i=>G.all fun c=>!XA ops.size ops i c)&&ops.toList.all (fun o=>o.guard.isNone)&&LU 0 ops.toList &&
 H.all (fun i=>match (ops[i]?).bind (·.dst) with
 |some d=>(List.range ops.size).all fun j=>i==j||(match ops[j]? with|some J=>J.dst != some d&&(waits J i||!(J.looksAt ops).contains d)|none=>true)
 |none=>false)&&QfH ops H G&&IA ops q G&&decide (d<N) &&
 G.all (fun c=>c==q||(match ops[c]? with|some o=>o.dst != some d|none=>false)) &&
 (match ops[q]? with
 |some o=>o.dst==some d&&(match o.op with|.alloc ty=>(match P.info? ty with|some i=>i.zero.isSome|none=>false)|_=>false)
 |none=>false)
theorem OG{ops:Array Oper}{q:Nat}:∀(G:List Nat) (c':Nat) (l2:List Nat),IA ops q (G++q::c'::l2)=true→(ops[c']?).any (waits · q)=true
|[],c',l2,h=>by
  grind [IA]
|[x],c',l2,h=>by
  grind [IA]
|x::y::G,c',l2,h=>by
  simp only[List.cons_append,IA,Ku] at h;exact OG (y::G) c' l2 h.2
theorem QaD{b U:Act}{G:Oper}(O:Tz P ops i s)(Y:ops[i]?=some G)(Z:G.dst=some d)(r':Zy φ M0 N D (look s.T) (look s.H) U w')(hv:U.tmps[d]?=some v)(aa:(execOp b.eval G).run P w=.ok (.value v) w)(hm:∀x,G.op=.move x→U.eval x=b.eval x):(execOp U.eval G).run P w'=.ok (.value v) w':=by
 unfold Tz at O;simp only[Y] at O;split at O
 ·simp_all [execOp]
 ·rename_i d' J ab;obtain⟨x,h2,h3,h4⟩:=O;obtain⟨v',h5,h6⟩:=ku r' h2;rw[Z] at J;cases J;have h7:=(r'.tm d x h3).2;rw[Array.getD_eq_getD_getElem?,hv] at h7
  grind [wV]
 ·cases O
theorem QcF{Qh:AX→St→Prop}{H Cs:List Nat}{q:Nat}(hok:Sd P N H q d Cs ops=true)(ed:∀s,Qh .normal s→Q .normal s)(ep:∀v s,Qh (.panic v) s→Q (.panic v) (OE ops s)) :
  ∀(ac:Nat) (done ch:List Nat) (listed:Array Bool) (a b:Act) (w:World) (s:St) (φ:Nat→Nat) (M1:ZR),Cs=done++ch→listed.size=ops.size→qm listed ops.size≤ac →
   (∀(j:Nat) o,ops[j]?=some o→listed.getD j false=true→∀e∈o.after,Region.binds .any e=true→listed.getD e.on false=true) →
   (∀c∈done,listed.getD c false=true)→(∀c∈ch,c≠q→listed.getD c false=false)→Agree (Uy ops H listed) a b→Zy φ M1 N D (look s.T) (look s.H) b w→Zi φ0 h0 w0 φ (look s.H) w →
   (∀i∈H,listed.getD i false=false→∃o d v,ops[i]?=some o∧o.dst=some d∧b.tmps[d]?=some v∧(execOp b.eval o).run P w=.ok (.value v) w) →
   (q∈ch→look s.T d=none∧∀i∈H,listed.getD i false=false→Tz P ops i s) →
   (((q∈ch→listed.getD q false=false)∧M1=M0)∨(q∈ch∧listed.getD q false=true∧ch.head?≠some q∧∃k o ty i z,M1=QaA M0 k∧ops[q]?=some o∧o.op=.alloc ty∧o.dst=some d∧P.info? ty=some i∧i.zero=some z∧b.tmps[d]?=some (.pointer<|some ⟨k,0,none⟩)∧w.heap[k]?=some (.cells z.cells ty (0,0))∧w0.heap.size≤k∧∀x,¬M0 k x)) →
   bJ P N ops Qh H q d ch s→wpAny P .any ops (Post N D Q φ0 M0 h0 w0) ac listed a w:=by
 simp only[Sd,Ku,Pd] at hok;obtain⟨⟨⟨⟨⟨⟨⟨⟨⟨⟨⟨⟨⟨⟨c1,dz⟩,cg⟩,bu⟩,av⟩,b5⟩,br⟩,ec⟩,cu⟩,b6⟩,du⟩,b9⟩,c9⟩,cr⟩,ab⟩:=hok;have cx:∀(listed:Array Bool) (i:Nat),i<listed.size→listed.getD i true=listed.getD i false:=fun listed i hi=>by simp[hi]
 have bw:∀(X:Tmp→Prop) (a b:Act),Agree X a b→(∀t,X t→t∈PY ops)→∀c w,Post N D Qh φ0 M0 h0 w0 (.panic c) b w→Post N D Q φ0 M0 h0 w0 (.panic c) a w:=by
  rintro X a b O hX c w' ⟨φ',x,s',g1,g2,g3,g4⟩;cases x with
 |normal=>cases g4
 |exit i=>cases g4
 |ret=>cases g4
 |panic v=>exact⟨φ',.panic v,OE ops s',ep _ _ g1,wW O hX g2,g3,g4⟩
 have bz:∀a w,¬Post N D Qh φ0 M0 h0 w0 .outgrown a w:=fun a w h=>JC ⟨a,w,h⟩
 have c7:∀(Hv:List Nat) (listed:Array Bool) (t:Tmp),Uy ops Hv listed t→t∈PY ops:=by
  rintro Hv listed t ⟨i,_,_,hd⟩;cases ho:ops[i]? with
 |none=>grind
 |some o =>
   rw[ho] at hd;exact List.mem_filterMap.2 ⟨o,zc,hd⟩
 have dp:∀(j:Nat) o,ops[j]?=some o→o.guard=none:=by
  intro j o ho;have:=Fx.1 ec o zc
  simp_all
 have bv:∀(listed:Array Bool),listed.size=ops.size→Region.ready .any ops listed=[]→∀i,i<ops.size→listed.getD i false=true:=by
  intro listed af hr i
  induction i using Nat.strongRecOn with
 |_ i ih =>
   intro hi;cases hq:listed.getD i false with
  |true=>rfl
  |false =>
    have:i∈Region.ready .any ops listed:=by
     rw[mem_ready];refine⟨zc,ops[i],Array.getElem?_eq_getElem hi,fun e he hb=>?_⟩;have G:=WV cu i ops[i] (by simp[hi]) e he hb
     grind
    grind
 have b7:∀(listed:Array Bool) (ch:List Nat) (a b:Act) (w:World) (s:St) (φ:Nat→Nat) (M1:ZR),(∀i,i<ops.size→listed.getD i false=true)→(∀c∈ch,c≠q→listed.getD c false=false)→Agree (Uy ops H listed) a b →
   Zy φ M1 N D (look s.T) (look s.H) b w→Zi φ0 h0 w0 φ (look s.H) w→(((q∈ch→listed.getD q false=false)∧M1=M0)∨(q∈ch∧ch.head?≠some q))→bJ P N ops Qh H q d ch s→Post N D Q φ0 M0 h0 w0 .normal a w:=by
  intro listed ch a b w s φ M1 aa ah O r E hM Z
  have dw:a=b:=lT O (by
   rintro t ⟨i,hi,Y,hd⟩
   grind)
  subst dw;cases ch with
 |nil =>
   rcases hM with⟨_,rfl⟩|⟨h,_⟩
   ·exact⟨φ,.normal,s,ed _ Z,r,E,rfl⟩
   ·cases h
 |cons c ch =>
   grind [bJ]
 intro ac
 induction ac with
|zero =>
  intro done ch listed a b w s φ M1 U af hu cq bd ah O r E J hT hM Z;have aa:∀i,i<ops.size→listed.getD i false=true:=fun i hi=>by rw[←cx listed i zo];exact Me (n:=ops.size) zo i hi
  refine⟨List.eq_nil_iff_forall_not_mem.2 fun i hi=>?_,b7 listed ch a b w s φ M1 aa ah O r E (hM.imp id fun h=>⟨h.1,h.2.2.1⟩) Z⟩;obtain⟨G,o,ho,_⟩:=mem_ready.1 hi;have dh:=(AY.1 ho).1;rw[cx listed i zo,aa i dh] at G;cases G
|succ ac ih =>
  intro done ch listed a b w s φ M1 U af hu cq bd ah O r E J hT hM Z;refine⟨fun hr=>b7 listed ch a b w s φ M1 (bv listed af hr) ah O r E (hM.imp id fun h=>⟨h.1,h.2.2.1⟩) Z,fun j hj=>?_⟩;obtain⟨c4,o,ho,aa⟩:=mem_ready.1 hj;have a6:j<ops.size:=(AY.1 ho).1;have ar:listed.getD j false=false:=by rw[←cx listed j zo];exact c4
  have bh:∀cs b,o.op≠.select cs b:=fun cs b=>Region.noSelect_spec dz j o cs b ho
  have aw:∀tm,Region.wanted o (yielded ops tm)=true:=fun tm=>by simp[Region.wanted,dp j o ho]
  have eL:∀k,(listed.setIfInBounds j true).getD k false=(listed.getD k false||decide (k=j)):=by
   intro k;by_cases cl:k=j
   ·subst cl;have:k<listed.size:=by omega
    simp[this]
   ·rw[getD_set_ne false<|Ne.symm cl];simp[cl]
  have be:qm (listed.setIfInBounds j true) ops.size≤ac:=by
   have:=EP c4 ops.size;rw[if_pos a6] at this;omega
  have ad:∀(k:Nat) ok,ops[k]?=some ok→(listed.setIfInBounds j true).getD k false=true→∀e∈ok.after,Region.binds .any e=true→(listed.setIfInBounds j true).getD e.on false=true:=by
   intro k ok hk Y e he hb;rw[eL] at Y ⊢;simp only[Bool.or_eq_true,Pd] at Y ⊢;rcases Y with Y|Y
   ·exact .inl<|cq k ok hk Y e he hb
   ·subst Y;rw[ho] at hk;cases hk;exact .inl<|aa e he hb
  have al:∀i,(listed.setIfInBounds j true).getD i false=false→listed.getD i false=false∧i≠j:=by
   intro i Y;rw[eL] at Y;simp only[Bool.or_eq_false_iff,decide_eq_false_iff_not] at Y;exact Y
  have b8:∀t∈o.looksAt ops,¬Uy ops H listed t∨∃d,o.dst=some d∧t=d∧j∈H:=by
   intro t ht;by_cases hc:Uy ops H listed t;rotate_left
   ·exact .inl hc
   obtain⟨i,hi,Y,hd⟩:=hc;have G:=Fx.1 b6 i hi;rw[hd] at G;have h2:=Fx.1 G j (by simp[a6]);simp only[ho,Bool.or_eq_true,beq_iff_eq,Ku,Bool.not_eq_true',bne_iff_ne] at h2;rcases h2 with rfl|⟨_,h2|h2⟩
   ·rw[ho] at hd;exact .inr ⟨t,hd,rfl,hi⟩
   ·obtain⟨e,he,hb,bk⟩:=Rz h2;have:=aa e he hb;rw[bk,Y] at this;cases this
   ·simp[ht] at h2
  have bn:=Fx.1 c1 j (by simp[a6]);simp only[Bool.or_eq_true,List.contains_iff_mem] at bn
  have cj:q∈ch→q∉H:=by
   intro hq cj;have:=Fx.1 b5 q cj;rw[U] at this;simp[hq] at this
  by_cases ao:j∈H
  ·
   have ax:j∉Cs:=by
    have:=Fx.1 b5 j ao;simpa using this
   obtain⟨o',dd,v,dc,hd,hv,bo⟩:=J j ao ar;rw[ho] at dc;cases dc;have ce:dd∉o.looksAt ops:=kC ho hd H cg ao
   have cf:∀t∈o.looksAt ops,¬Uy ops H listed t:=by
    intro t ht;rcases b8 t ht with G|⟨d',G,rfl,_⟩
    ·exact G
    ·rw[hd] at G;cases G;exact absurd ht ce
   unfold wpOp;simp only[ho,aw,if_true];refine .inl ?_;unfold Oper.wp;rw[Gi (ops:=ops) O bh cf,bo];simp only[Oper.upon];have dq:q∈ch→q≠j:=fun h e=>cj h<|e▸ao
   refine ih done ch (listed.setIfInBounds j true) (a.put o.dst v) b w s φ M1 U (by simpa using af) be ad (fun c hc=>by rw[eL,bd c hc];rfl) ?_ ?_ r E (fun i hi Y=>J i hi (al i Y).1) (fun h=>⟨(hT h).1,fun i hi Y=>(hT h).2 i hi (al i Y).1⟩) ?_ Z
   ·intro c hc a8;rw[eL,ah c hc a8];have:c≠j:=fun e=>ax (by rw[U,←e];exact List.mem_append_right _ hc)
    simp[this]
   ·refine⟨by rw[←O.1,hd];rfl,by rw[←O.2.1,hd];simp[Act.put],fun t ht=>?_⟩;rw[hd];by_cases cw:dd=t
    ·subst cw
     have cm:dd<a.tmps.size:=by
      rw[O.2.1];exact(AY.1 hv).1
     rw[hv];simp[Act.put,cm]
    ·rw[←O.2.2 t (fun hc=>ht (by
      obtain⟨i,hi,Y,ay⟩:=hc;refine⟨i,hi,?_,ay⟩;rw[eL,Y];have:i≠j:=fun e=>cw (by rw[e,ho] at ay;exact Option.some.inj<|hd.symm.trans ay)
      simp[this]))]
     simp[Act.put,Array.getElem?_setIfInBounds_ne cw]
   ·rcases hM with⟨G,h2⟩|⟨G,h2,h3⟩
    ·exact .inl ⟨fun h=>by rw[eL,G h];simp[dq h],h2⟩
    ·exact .inr ⟨G,by rw[eL,h2];rfl,h3⟩
  ·
   have ax:j∈Cs:=bn.resolve_left ao
   have aq:j∈ch:=by
    rw[U] at ax;rcases List.mem_append.1 ax with G|G
    ·rw[bd j G] at ar;cases ar
    ·exact G
   have bj:∀t∈o.looksAt ops,¬Uy ops H listed t:=by
    intro t ht;rcases b8 t ht with G|⟨d',_,_,G⟩
    ·exact G
    ·exact absurd G ao
   have bm:∀t,o.dst=some t→¬Uy ops H listed t:=by
    rintro t ht ⟨i,hi,Y,hd⟩;have G:=Fx.1 b6 i hi;rw[hd] at G;have h2:=Fx.1 G j (by simp[a6]);simp only[ho,Bool.or_eq_true,beq_iff_eq,Ku,Bool.not_eq_true',bne_iff_ne] at h2;rcases h2 with rfl|⟨h2,_⟩
    ·exact ao hi
    ·exact h2 ht
   have hsub:∀x y,M0 x y→M1 x y:=by
    intro x y h;rcases hM with⟨_,rfl⟩|⟨_,_,_,k,_,_,_,_,rfl,_⟩
    ·exact h
    ·exact .inl h
   have cn:∀(b':Act) (w':World) (s':St) (φ':Nat→Nat) (M':ZR),(∀t,o.dst≠some t→b'.tmps[t]?=b.tmps[t]?)→Zy φ' M' N D (look s'.T) (look s'.H) b' w'→(∀i∈H,(listed.setIfInBounds j true).getD i false=false→Tz P ops i s') →
     ∀i∈H,(listed.setIfInBounds j true).getD i false=false→∃o d v,ops[i]?=some o∧o.dst=some d∧b'.tmps[d]?=some v∧(execOp b'.eval o).run P w'=.ok (.value v) w':=by
    intro b' w' s' φ' M' aj r' bc i hi Y;have bt:=(al i Y).1;obtain⟨oi,di,v,bp,ay,ei,eg⟩:=J i hi bt;have cy:b'.tmps[di]?=some v:=by rw[aj di fun e=>bm di e ⟨i,hi,bt,by rw[bp];exact ay⟩];exact ei
    refine⟨oi,di,v,bp,ay,cy,QaD (bc i hi Y) bp ay r' cy eg fun x ae=>?_⟩;cases x with
   |tmp t =>
     have dx:o.dst≠some t:=by
      intro e;have h2:=Fx.1 du i hi;simp only[bp,ae,Bool.true_and,Bool.not_true,Bool.or_false] at h2;have h3:=Fx.1 h2 j ax;simp only[ho,Zm,e,Bool.not_eq_true'] at h3;have:t∈oi.looksAt ops:=List.mem_append_left _ (List.mem_filterMap.2 ⟨.tmp t,by simp[ae,Op.operands],rfl⟩);simp[this] at h3
     simp only[Act.eval];rw[Array.getD_eq_getD_getElem?,Array.getD_eq_getD_getElem?,aj t dx]
   |_=>rfl
   have au:∀(s':St),Xh P ops (Gj ops H j) s'→∀i∈H,(listed.setIfInBounds j true).getD i false=false→Tz P ops i s':=by
    intro s' bc i hi Y;have bt:=(al i Y).1
    have el:XA ops.size ops j i=false:=by
     cases hq:XA ops.size ops j i with
    |false=>rfl
    |true =>
      have:=Hr cq _ j i o ho aa hq;rw[bt] at this;cases this
    have c5:XA ops.size ops i j=false:=by
     have:=Fx.1 (Fx.1 br i hi) j ax;simpa using this
    exact bc i (List.mem_filter.2 ⟨hi,by rw[el,c5];rfl⟩)
   have am:∀(a' b':Act),Agree (Uy ops H listed) a' b'→Agree (Uy ops H<|listed.setIfInBounds j true) a' b':=by
    intro a' b' h;refine⟨h.1,h.2.1,fun t ht=>h.2.2 t fun hc=>ht ?_⟩;obtain⟨i,hi,Y,hd⟩:=hc;refine⟨i,hi,?_,hd⟩;rw[eL,Y];have:i≠j:=fun e=>ao<|e▸hi
    simp[this]
   by_cases ba:j=q
   ·
    subst ba;rw[ho] at ab;simp only[Ku,beq_iff_eq] at ab;obtain⟨bf,ab⟩:=ab;split at ab;rotate_left
    ·cases ab
    rename_i ty ae;split at ab;rotate_left
    ·cases ab
    rename_i ti hi;obtain⟨z,hz⟩:=TZ.1 ab
    have ee:M1=M0:=by
     rcases hM with⟨_,h⟩|⟨_,h,_⟩
     ·exact h
     ·rw[h] at ar;cases ar
    subst ee;unfold wpOp;simp only[ho,aw,if_true];refine .inl ?_;cases ch with
   |nil=>cases aq
   |cons c rest =>
     by_cases bg:c=j
     ·subst bg;simp only[bJ,ho,if_true] at Z;obtain⟨u,c6,hu,Y,bb⟩:=Z
      have hex:H6 P N o s (fun s'=>s'=Uu s o.dst u) Qh:=by
       unfold H6;simp only[ae];rw[hu];exact .inl ⟨c6,rfl⟩
      have hw:=ND hex r;have cc:=Go.Abs.Oper.wp_mono2 (K':=fun a' w'=>∃φ' s',s'=Uu s o.dst u∧Zy φ' M1 N D (look s'.T) (look s'.H) a' w'∧Zi φ (look s.H) w φ' (look s'.H) w') (Q':=Post N D Qh φ0 M1 h0 w0) hw (fun _ _ h=>h) fun e a' w' p=>p.trans E;refine Oper.wp_mono ?_<|zZ (ops:=ops) O bh bj bm (bw _ _ _ O<|c7 _ _) bz cc;rintro a' w' ⟨b',an,aj,φ',s',rfl,r',E'⟩
      have bi:c∉rest:=by
       rw[U] at av;exact(List.nodup_cons.1 (List.nodup_append.1 av).2.1).1
      refine ih (done++[c]) rest (listed.setIfInBounds c true) a' b' w' _ φ' M1 (by rw[U];simp) (by simpa using af) be ad (fun x Z=>by
       rw[eL];rcases List.mem_append.1 Z with G|G
       ·rw[bd x G];rfl
       ·rw[List.mem_singleton] at G;simp[G]) ?_ (am _ _ an) r' (E.trans E') (cn b' w' _ φ' M1 aj r'<|au _ Y) (fun h=>absurd h bi) (.inl ⟨fun h=>absurd h bi,rfl⟩) bb
      intro x Z ak;rw[eL,ah x (List.mem_cons_of_mem _ Z) ak];simp[ak]
     ·have bo:∀ev,(execOp ev o).run P w=.ok (.value<|.pointer<|some ⟨w.heap.size,0,none⟩) (w.alloc<|.cells z.cells ty):=fun ev=>by
       simp[execOp,ae,Instr.alloc,zeroValue,typeInfo,hi,hz,newVar,newRow,newObj,Sem.run]
      unfold Oper.wp;rw[bo];simp only[Oper.upon];rw[bf];obtain⟨c3,et⟩:=hT aq;obtain⟨r,E1,_,dj⟩:=r.lift 1;have E:=E.trans E1;have r2:=QaC (ob:=.cells z.cells ty) (v:=.pointer<|some ⟨w.heap.size,0,none⟩) r c3 dj
      have aj:∀t,o.dst≠some t→(b.put (some d)<|.pointer<|some ⟨w.heap.size,0,none⟩).tmps[t]?=b.tmps[t]?:=by
       intro t ht;have:d≠t:=fun e=>ht (by rw[bf,e])
       simp[Act.put,Array.getElem?_setIfInBounds_ne this]
      have da:∀i∈H,(listed.setIfInBounds j true).getD i false=false→Tz P ops i s:=fun i hi Y=>et i hi (al i Y).1
      refine ih done (c::rest) (listed.setIfInBounds j true) _ _ _ s _ _ U (by simpa using af) be ad (fun x Z=>by rw[eL,bd x Z];rfl) ?_ (am _ _<|LX O (some d) _) r2 (E.trans (wX r.hp dj).1) (cn _ _ s _ _ aj r2 da) (fun _=>⟨c3,da⟩) (.inr ⟨aq,by rw[eL];simp,fun h=>bg<|Option.some.inj h,w.heap.size,o,ty,ti,z,rfl,ho,ae,bf,hi,hz,?_,?_,E.size,fun x Z=>Nat.lt_irrefl _<|r.hp.lt _ _ Z⟩) Z
      ·intro x Z ak;rw[eL,ah x Z ak];simp[ak]
      ·have cm:d<b.tmps.size:=by rw[r.siz];exact c9
       simp[Act.put,cm]
      ·show(w.heap.push _)[w.heap.size]?=_;simp
   ·
    have bq:∃rest,ch=j::rest:=by
     cases ch with
    |nil=>cases aq
    |cons c rest =>
      by_cases bg:j=c
      ·exact⟨rest,by rw[bg]⟩
      exfalso;have ca:j∈rest:=(List.mem_cons.1 aq).resolve_left bg;obtain⟨r1,r2,a7⟩:=List.append_of_mem ca
      have cz:∀x,x∈c::rest→x≠q→(ops[j]?).any (waits · x)=true→False:=by
       intro x Z ak hw;rw[ho] at hw;obtain⟨e,he,hb,bk⟩:=Rz (o:=o) (i:=x) hw;have h2:=aa e he hb;rw[bk,ah x Z ak] at h2;cases h2
      by_cases ai:∀x∈c::r1,x=q
      ·
       have a8:c=q:=ai c List.mem_cons_self
       have ek:r1=[]:=by
        cases r1 with
       |nil=>rfl
       |cons y r1 =>
         exfalso;have hy:=ai y zq;have h3:=av;rw[U,a7] at h3;have h4:=(List.nodup_append.1 h3).2.1;rw[a8,hy] at h4;simp at h4
       subst ek;rcases hM with⟨G,_⟩|⟨_,_,h3,_⟩
       ·have h4:=G (by rw[a8];simp);have h5:(ops[j]?).any (waits · q)=true:=OG done j r2 (by rw[U,a7,a8] at b9;exact b9);rw[ho] at h5;obtain⟨e,he,hb,bk⟩:=Rz (o:=o) (i:=q) h5;have h6:=aa e he hb;rw[bk,h4] at h6;cases h6
       ·exact h3 (by rw[a8];rfl)
      ·simp only[Classical.not_forall] at ai;obtain⟨x0,em,dk⟩:=ai
       have ef:(c::r1).filter (· != q)≠[]:=by
        intro e;have:x0∈(c::r1).filter (· != q):=List.mem_filter.2 ⟨em,by simpa using dk⟩;rw[e] at this;cases this
       obtain⟨p,x,dn⟩:∃p x,(c::r1).filter (· != q)=p++[x]:=⟨_,_,(List.dropLast_concat_getLast ef).symm⟩;have dv:x∈(c::r1).filter (· != q):=by rw[dn];simp
       obtain⟨dy,cp⟩:=List.mem_filter.1 dv
       have ej:Cs.filter (· != q)=(done.filter (· != q)++p)++x::j::r2.filter (· != q):=by
        rw[U,List.filter_append,a7,show c::(r1++j::r2)=(c::r1)++j::r2 from rfl,List.filter_append,dn];have:(j::r2).filter (· != q)=j::r2.filter (· != q):=by simp[ba]
        rw[this];simp
       have bx:=bu;rw[ej] at bx;have G:=MH _ _ _ _ bx;exact cz x (by rw[a7,show c::(r1++j::r2)=(c::r1)++j::r2 from rfl];exact List.mem_append_left _ dy) (by simpa using cp) G
    obtain⟨rest,rfl⟩:=bq;simp only[bJ,ho,if_neg ba] at Z;unfold wpOp;simp only[ho,aw,if_true];refine .inl ?_;have hw:=ND Z r;have cc:=Go.Abs.Oper.wp_mono2 (K':=fun a' w'=>∃φ' s',(Xh P ops (Gj ops H j) s'∧(q∈rest→look s'.T d=none)∧bJ P N ops Qh H q d rest s')∧Zy φ' M1 N D (look s'.T) (look s'.H) a' w'∧Zi φ (look s.H) w φ' (look s'.H) w') (Q':=Post N D Qh φ0 M0 h0 w0) hw (fun _ _ h=>h) fun e a' w' p=>QaB hsub<|p.trans E;refine Oper.wp_mono ?_<|zZ (ops:=ops) O bh bj bm (bw _ _ _ O<|c7 _ _) bz cc;rintro a' w' ⟨b',an,aj,φ',s',⟨bc,er,bb⟩,r',E'⟩;have co:=cn b' w' s' φ' M1 aj r'<|au s' bc
    have ca:j∉rest:=by
     rw[U] at av;exact(List.nodup_cons.1 (List.nodup_append.1 av).2.1).1
    have az:∀c∈done++[j],(listed.setIfInBounds j true).getD c false=true:=fun x Z=>by
     rw[eL];rcases List.mem_append.1 Z with G|G
     ·rw[bd x G];rfl
     ·rw[List.mem_singleton] at G;simp[G]
    have bl:∀c∈rest,c≠q→(listed.setIfInBounds j true).getD c false=false:=by
     intro x Z ak;rw[eL,ah x (List.mem_cons_of_mem _ Z) ak];have:x≠j:=fun e=>ca<|e▸Z
     simp[this]
    have dl:q∈rest→look s'.T d=none∧∀i∈H,(listed.setIfInBounds j true).getD i false=false→Tz P ops i s':=fun h=>⟨er h,au s' bc⟩
    rcases hM with⟨G,rfl⟩|⟨G,h2,h3,k,oq,ty,ti,z,rfl,db,ae,bf,hi,hz,dt,c2,df,dm⟩
    ·refine ih (done++[j]) rest (listed.setIfInBounds j true) a' b' w' s' φ' M1 (by rw[U];simp) (by simpa using af) be ad az bl (am _ _ an) r' (E.trans E') co dl (.inl ⟨fun h=>?_,rfl⟩) bb;rw[eL,G (List.mem_cons_of_mem _ h)];simp[Ne.symm ba]
    ·have eo:q∈rest:=(List.mem_cons.1 G).resolve_left (Ne.symm ba)
     have eh:o.dst≠some d:=by
      have:=Fx.1 cr j ax;simp only[ho,Bool.or_eq_true,beq_iff_eq,bne_iff_ne] at this;exact this.resolve_left ba
     have b4:b'.tmps[d]?=some (.pointer (some ⟨k,0,none⟩)):=by rw[aj d eh];exact dt
     have b3:w'.heap[k]?=some (.cells z.cells ty (0,0)):=by
      rw[E'.same k (AY.1 c2).1 (fun c hc e=>r.hp.fr c hc 0 (.inr e))];exact c2
     have de:(listed.setIfInBounds j true).getD q false=true:=by rw[eL,h2];rfl
     by_cases cd:rest.head?=some q
     ·cases rest with
     |nil=>cases cd
     |cons c rest =>
       obtain rfl:c=q:=Option.some.inj cd;simp only[bJ,db,if_true] at bb;obtain⟨u,c6,hu,Y,cp⟩:=bb;obtain⟨r2,E2⟩:=ry r' (E.trans E') df dm ae bf hi hz c9 b4 b3 hu
       have bi:c∉rest:=by
        rw[U] at av;exact(List.nodup_cons.1 (List.nodup_cons.1 (List.nodup_append.1 av).2.1).2).1
       refine ih (done++[j,c]) rest (listed.setIfInBounds j true) a' b' w' _ _ M0 (by rw[U];simp) (by simpa using af) be ad (fun x Z=>?_) (fun x Z=>bl x<|List.mem_cons_of_mem _ Z) (am _ _ an) r2 E2 co (fun h=>absurd h bi) (.inl ⟨fun h=>absurd h bi,rfl⟩) cp;rcases List.mem_append.1 Z with h4|h4
       ·exact az x<|List.mem_append_left _ h4
       ·simp only[List.mem_cons,List.not_mem_nil,or_false] at h4;rcases h4 with h4|h4
        ·exact az x (by simp[h4])
        ·rw[h4];exact de
     ·exact ih (done++[j]) rest (listed.setIfInBounds j true) a' b' w' s' φ' _ (by rw[U];simp) (by simpa using af) be ad az bl (am _ _ an) r' (E.trans E') co dl (.inr ⟨eo,de,cd,k,oq,ty,ti,z,rfl,db,ae,bf,hi,hz,b4,b3,df,dm⟩) bb
theorem QfI{R:Type}{Z:R}{Q:R→AX→St→Prop}(H:List Nat)(q d:Nat)(Cs:List Nat)(hm:P.follows .mixedOrders=true)(ae:Fb ops=true)(hok:Sd P N H q d Cs ops=true)(h1:Dp P N ops H s=some s1)(hl:Xh P ops H s1)(hT:look s1.T d=none)(h:bJ P N ops (qh ops Q Z) H q d Cs s1):Ex P N ro (.region id ops true) s (Q Z):=by
 intro φ M0 D a w r;refine wpIn_region_any hm<|PR ae JC _ _ _ _ ?_;have hd:Zi φ (look s.H) w φ (look s.H) { w with drawn:=w.drawn+1 }:=T9 rfl rfl rfl rfl;have r1:Zy φ M0 N D (look s.T) (look s.H) a { w with drawn:=w.drawn+1 }:=r.keep hd (LM rfl)<|Nr (w:=w) rfl hd r.hp;have G:=hok;simp only[Sd,Ku,Pd] at G;obtain⟨⟨⟨⟨⟨⟨⟨⟨⟨⟨⟨⟨⟨⟨ai,af⟩,O⟩,aa⟩,ak⟩,aj⟩,ab⟩,ar⟩,ad⟩,al⟩,aq⟩,an⟩,ao⟩,ac⟩,am⟩:=G;obtain⟨b,rb,hH,J,hJ⟩:=qx af H s s1 a _ O h1 r1
 have U:∀(j:Nat),(Array.replicate ops.size false).getD j false=false:=by
  intro j;rcases Nat.lt_or_ge j ops.size with h|h
  ·simp[h]
  ·simp[h]
 have Y:∀n,qm (Array.replicate ops.size false) n≤n:=by
  intro n
  induction n with
 |zero=>simp[qm]
 |succ n ih=>simp only[qm];grind
 have h2:=QcF (D:=D) (φ0:=φ) (h0:=look s.H) (w0:=w) (M0:=M0) hok (Q:=Q Z) (Qh:=qh ops Q Z) (fun _ h=>h) (fun _ _ h=>h) ops.size [] Cs (Array.replicate ops.size false) a b { w with drawn:=w.drawn+1 } s1 φ M0 rfl zq (Y _) (fun j o _ hj=>by grind) (fun c hc=>by cases hc) (fun c _ _=>U c)
  ⟨J.1,J.2.1,fun t ht=>J.2.2 t fun hc=>ht (by obtain⟨i,hi,ah⟩:=hc;exact⟨i,hi,U i,ah⟩)⟩ rb zc (fun i hi _=>hJ i hi) (fun _=>⟨hT,fun i hi _=>hl i hi⟩) (.inl ⟨fun _=>U q,rfl⟩) h
 omega
structure mV{R:Type}(a:Option R)(P:Program)(N:Nat)(ops:Array Oper)(Q:R→AX→St→Prop)(H:List Nat)(q d:Nat)(Ch:List Nat)(s:St):Prop where
 intro ::
 h:∀r,a=some r→bJ P N ops (qh ops Q r) H q d Ch s
def fKf{R:Type}(P:Program)(N:Nat)(ops:Array Oper)(Q:R→AX→St→Prop)(H:List Nat)(q d:Nat)(Ch:List Nat)(c:Nat):R→St→Prop:=fun r s=>Xh P ops (Gj ops H c) s∧(q∈Ch→look s.T d=none)∧bJ P N ops (qh ops Q r) H q d Ch s
theorem mW{Ch:List Nat}{q:Nat}(h:(!Ch.contains q||(look s.T d).isNone)=true):q∈Ch→look s.T d=none:=by
 intro G
 simp_all
section
variable {R V E:Type}{a a1 a2:Option R}{P:Program}{N:Nat}{ro:Option Nat}{id:Nat}{ops:Array Oper}{o:Oper}{s s1 s':St}{Q:R→AX→St→Prop}{f:FuncId}{args args':List AV}{dst:Option Tmp}{H Ch:List Nat}{c i q d:Nat}
theorem kG(H:List Nat)(q d:Nat)(Ch:List Nat)(Y:P.follows .mixedOrders=true)(Z:Fb ops=true)(hok:Sd P N H q d Ch ops=true)(U:(Dp P N ops H s).isSome=true)(G:Xh P ops H ((Dp P N ops H s).getD s))(J:(look ((Dp P N ops H s).getD s).T d).isNone=true)(h:mV a P N ops Q H q d Ch ((Dp P N ops H s).getD s)):QZ a P N ro (.region id ops true) s Q:=by
 obtain⟨s1,e⟩:=TZ.1 U;rw[e] at h G J;simp only[Option.getD_some] at h G J;exact⟨fun r O=>QfI H q d Ch Y Z hok e G (by simp_all)<|h.h r O⟩
theorem QcG(h:ZK a Q .normal s):mV a P N ops Q H q d [] s:=⟨fun r G=>h.h r G⟩
theorem kf(G:List Nat)(J:Gj ops H c=G)(O:Xh P ops G s)(Y:(!Ch.contains q||(look s.T d).isNone)=true)(h:mV a P N ops Q H q d Ch s):Dk a (fKf P N ops Q H q d Ch c) s :=
 ⟨fun r U=>⟨J▸O,mW Y,h.h r U⟩⟩
theorem f_q(U:List Nat)(Y:Gj ops H q=U)(h0:(Dr P N ops q s).isSome=true)(O:Xh P ops U ((Dr P N ops q s).getD s))(h:mV a P N ops Q H q d Ch ((Dr P N ops q s).getD s)):mV a P N ops Q H q d (q::Ch) s:=by
 obtain⟨s',G⟩:=TZ.1 h0;rw[G] at O h;simp only[Option.getD_some] at O h;unfold Dr at G;refine⟨fun r Z=>?_⟩;simp only[bJ];cases ho:ops[q]? with
|none=>grind
|some o =>
  simp only[ho,Zm,if_true] at G ⊢;split at G
  ·cases G
  ·cases G
  ·cases G
  ·split at G;rotate_left
   ·cases G
   rename_i J;obtain⟨u,hu,rfl⟩:=F3.1 G;exact⟨u,J,hu,Y▸O,h.h r Z⟩
theorem QfJ(Z:List Nat)(aa:Nat.beq c q=false)(hL:Gj ops H c=Z)(h0:(Dr P N ops c s).isSome=true)(Y:Xh P ops Z ((Dr P N ops c s).getD s))(O:(!Ch.contains q||(look ((Dr P N ops c s).getD s).T d).isNone)=true)(h:mV a P N ops Q H q d Ch ((Dr P N ops c s).getD s)):mV a P N ops Q H q d (c::Ch) s:=by
 obtain⟨s',G⟩:=TZ.1 h0;rw[G] at Y h O;simp only[Option.getD_some] at Y h O;unfold Dr at G;refine⟨fun r hr=>?_⟩;have U:¬c=q:=fun e=>by simp_all
 simp only[bJ];cases ho:ops[c]? with
|none=>grind
|some o =>
  simp only[ho,Zm,if_neg U] at G ⊢;unfold H6;split at G
  ·cases G
  ·cases G
  ·cases G
  ·rename_i n1 n2 n3;split at G;rotate_left
   ·cases G
   rename_i J;obtain⟨u,hu,rfl⟩:=F3.1 G
   have key:zx N o s (fun s'=>Xh P ops (Gj ops H c) s'∧(q∈Ch→look s'.T d=none)∧bJ P N ops (qh ops Q r) H q d Ch s') (We P o (look s.T)<|look s.H):=by
    rw[hu];exact⟨J,hL▸Y,mW O,h.h r hr⟩
   grind
theorem Sg(hf:(ops[c]?).bind (fun o=>(Kk (look s.T) o.op).map fun p=>(p.1,p.2,o.dst))=some (f,args,dst))(hb:Vx P f=true)(Y:Nat.beq c q=false)(h:NV a P N f args dst s (fKf P N ops Q H q d Ch c) (qh ops Q)):mV a P N ops Q H q d (c::Ch) s:=by
 refine⟨fun r U=>?_⟩;have G:¬c=q:=fun e=>by simp_all
 simp only[bJ];cases ho:ops[c]? with
|none=>grind
|some o =>
  simp only[ho,Zm,if_neg G] at hf ⊢;obtain⟨⟨f0,J⟩,Z,O⟩:=F3.1 hf;simp only[LK] at O;obtain⟨rfl,rfl,rfl⟩:=O;exact Hq Z hb<|h.h r U
end
def QaE(k:Nat)(x:AV):Blk→Blk|.box ty cs=>.box ty (cs.set k x)|q=>q
def Gl(b k:Nat)(x:AV)(s:St):St:=⟨s.T,s.H.map fun p=>if p.1=b then(p.1,QaE k x p.2) else p⟩
theorem NM{b k:Nat}{x:AV}:∀(H:List (Nat×Blk)) (c:Nat),look (H.map fun p=>if p.1=b then(p.1,QaE k x p.2) else p) c=if b=c then(look H c).map (QaE k x) else look H c
|[],c=>by simp[look]
|(d,q)::H,c=>by
  rw[JR];by_cases J:d=b
  ·subst J;simp only[if_true,look];by_cases G:d=c
   ·simp[G]
   ·simp only[G,if_false];rw[NM H c];simp[G]
  ·simp only[J,if_false,look];by_cases G:d=c
   ·grind
   ·simp only[G,if_false];exact NM H c
theorem Si{k:Nat}{x:AV}{ty:Nat}{cs:List AV}(hb:look s.H b=some (.box ty cs)):look (Gl b k x s).H=upd (look s.H) b (.box ty<|cs.set k x):=by
 funext c;show look (s.H.map _) c=_;rw[NM]
 grind [upd,QaE]
theorem GZ{φ:Nat→Nat}{h:QY}{w:World}{M:ZR}:∀{cs:List AV} {l:List Value} {k:Nat} {x:AV},Ql φ h w M cs l→cs[k]?=some x→∃u,l[k]?=some u∧Qf φ h w M x u
|[],l,k,x,_,h=>by simp at h
|c::cs,l,k,x,G,h=>by
  simp only[Ql] at G;obtain⟨y,ys,rfl,O,J⟩:=G;cases k with
 |zero=>grind
 |succ k=>simp at h;simpa using GZ J h
theorem U4{φ:Nat→Nat}{h:QY}{w:World}{M:ZR}:∀{cs:List AV} {l:List Value} {k:Nat} {x:AV} {u:Value},Ql φ h w M cs l→l[k]?=some u→Qf φ h w M x u→Ql φ h w M (cs.set k x) l
|[],l,k,x,u,J,G,O=>by grind
|c::cs,l,k,x,u,J,G,O=>by
  simp only[Ql] at J;obtain⟨y,ys,rfl,Y,U⟩:=J;cases k with
 |zero=>simp at G;subst G;exact⟨_,ys,rfl,O,U⟩
 |succ k=>simp at G;exact⟨y,ys,rfl,Y,U4 U G O⟩
section
variable {φ φ0:Nat→Nat}{h h0:QY}{w w0:World}{M0:ZR}{b ty:Nat}{cs cs':List AV}
theorem MK(hb:h b=some (.box ty cs)):VF φ h w φ (upd h b<|.box ty cs') w:=by
 refine⟨fun c t q hc=>⟨?_,rfl⟩,fun t J S n hc=>⟨n,?_,KD _,fun _=>Ve rfl rfl⟩,fun t J S n hc=>⟨n,?_,KD _,fun _=>⟨rfl,fun c hc=>⟨c,hc,rfl⟩⟩⟩,fun c k x hc G=>⟨⟨k,?_,G⟩,rfl⟩⟩
 ·grind [upd]
 ·grind [upd]
 ·grind [upd]
 ·have:¬b=c:=fun e=>by subst e;rw[hb] at hc;cases hc;cases G
  grind [upd]
theorem Sj(hb:h b=some (.box ty cs)):∀r o,Bv φ (upd h b<|.box ty cs') r o→Bv φ h r o:=by
 rintro r o ⟨c,k,G,J,O⟩;by_cases e:b=c
 ·subst e;exact⟨b,_,hb,J,trivial⟩
 ·simp only[upd,e,if_false] at G;exact⟨c,k,G,J,O⟩
theorem ML(hb:h b=some (.box ty cs)):Zi φ h w φ (upd h b<|.box ty cs') w:=by
 have X:=MK (φ:=φ) (w:=w) (cs':=cs') hb;refine⟨rfl,rfl,rfl,KD _,fun _ _ _=>rfl,fun _ _ _ _=>rfl,fun r o _ O=>Sj hb r o O,fun c t q _ hc=>?_,fun t G S n _ hc=>X.t t G S n hc,fun t G S n _ hc=>X.v t G S n hc,fun c k x _ hc J=>X.o c k x hc J⟩;by_cases e:b=c
 ·subst e;rw[hb] at hc;cases hc;exact⟨⟨cs',by simp[upd]⟩,rfl⟩
 ·exact⟨⟨q,by simp[upd,e,hc]⟩,rfl⟩
theorem QcH(hb:h b=some (.box ty cs))(r:ZX φ h w M0)(hc:∀c:Array Value,w.heap[φ b]?=some (.cells c ty (0,0))→Ql φ h w (MM φ h M0) cs' c.toList):ZX φ (upd h b<|.box ty cs') w M0:=by
 have Z:∀x o v,w.cell? ⟨x,o,none⟩=some v→¬MM φ h M0 x o→w.cell? ⟨x,o,none⟩=some v∧¬MM φ (upd h b<|.box ty cs') M0 x o:=fun x o v O Y=>⟨O,fun U=>Y<|U.imp (Sj hb x o) id⟩
 have X:=MK (φ:=φ) (w:=w) (cs':=cs') hb
 have G:∀c,upd h b (.box ty cs') c≠none→h c≠none:=fun c hc=>by
  grind [upd]
 refine⟨fun c d hc hd=>r.inj c d (G c hc)<|G d hd,fun c k J=>?_,fun c hc=>r.fr c<|G c hc,r.lt,r.gm.sub fun x o U=>U.imp (Sj hb x o) id⟩;by_cases e:b=c
 ·subst e;simp only[upd,if_true,ZA] at J;subst J;obtain⟨q,O,Y⟩:=r.blk b _ hb;exact⟨q,O,(QV Z X).2 _ _ (hc q O)⟩
 ·simp only[upd,e,if_false] at J;exact Ke Z X rfl<|r.blk c k J
end
theorem qy{ty:Nat}{cs cs':List AV}(r:Zy φ M0 N D T h a w)(hb:h b=some (.box ty cs))(hc:∀c:Array Value,w.heap[φ b]?=some (.cells c ty (0,0))→Ql φ h w (MM φ h M0) cs' c.toList) :
  Zy φ M0 N D T (upd h b<|.box ty cs') a w:=by
 have Y:∀x o v,w.cell? ⟨x,o,none⟩=some v→¬MM φ h M0 x o→w.cell? ⟨x,o,none⟩=some v∧¬MM φ (upd h b<|.box ty cs') M0 x o:=fun x o v J O=>⟨J,fun U=>O<|U.imp (Sj hb x o) id⟩
 exact⟨r.dfs.keep<|ML hb,r.siz,QcH hb r.hp hc,fun t x G=>⟨(r.tm t x G).1,(QV Y<|MK hb).1 _ _ (r.tm t x G).2⟩⟩
theorem P5{α:Type}{f:Nat→Bool}:∀{H:List (Nat×α)} {c:Nat},f c=true→look (H.filter fun p=>f p.1) c=look H c
|[],c,_=>rfl
|(d,q)::H,c,hf=>by
  by_cases e:d=c
  ·grind [look]
  ·by_cases G:f d=true
   ·rw[List.filter_cons_of_pos zo];simp only[look,e,if_false];exact P5 hf
   ·rw[List.filter_cons_of_neg zo];simp only[look,e,if_false];exact P5 hf
def kH(t:Nat)(s G:St):Bool:=okT (look G.H) G.T&&okH (look G.H) G.H&&YH (look G.H) (s.H.filter fun p=>p.1 != t)&&(look G.H t).isNone
def Pm(φ:Nat→Nat)(w:World)(t S n:Nat)(M0:ZR):ZR:=fun r o=>M0 r o∨(r=φ t∧n*S≤o∧r<w.heap.size)
theorem mX{t ty S:Nat}{K:LB}(r:Zy φ M0 N D (look s.T) (look s.H) a w)(ae:look s.H t=some (.arr ty S n))(hok:kH t s (shr K s)=true) :
  Zy φ (Pm φ w t S n M0) N D (look (shr K s).T) (look (shr K s).H) a w∧(∀x v,Kw (look (shr K s).H) x=true→Qf φ (look s.H) w (MM φ (look s.H) M0) x v→Qf φ (look (shr K s).H) w (MM φ (look (shr K s).H)<|Pm φ w t S n M0) x v)∧(∀b k',look (shr K s).H b=some k'→∃k,look s.H b=some k∧leB k k') ∧
  (∀r o,MM φ (look (shr K s).H) (Pm φ w t S n M0) r o→MM φ (look s.H) M0 r o):=by
 simp only[kH,Ku] at hok;obtain⟨⟨⟨ad,ah⟩,hK⟩,aj⟩:=hok;have hT:zK (look s.T) (look (shr K s).H) (shr K s).T:=LW ad;have hH:NU (look s.H) (look (shr K s).H) (shr K s).H:=VW ah;generalize shr K s=s' at *;have ak:look s'.H t=none:=by simp_all
 have hh:∀b k',look s'.H b=some k'→∃k,look s.H b=some k∧leB k k':=fun b k' hb=>(XX hH b k' hb).1
 have ac:∀r o,Bv φ (look s'.H) r o→Bv φ (look s.H) r o:=by
  rintro x o ⟨b,k',Z,G,O⟩;obtain⟨k,U,h5⟩:=hh b k' Z;refine⟨b,k,U,G,?_⟩
  grind [leB]
 have hM:∀r o,MM φ (look s'.H) (Pm φ w t S n M0) r o→MM φ (look s.H) M0 r o:=by
  rintro x o (h|h|⟨rfl,h,_⟩)
  ·exact .inl<|ac x o h
  ·exact .inr h
  ·exact .inl ⟨t,_,ae,rfl,h⟩
 have J:∀b,look s'.H b≠none→look s.H b≠none:=fun b hb=>by
  cases hq:look s'.H b with
 |none=>grind
 |some k'=>grind
 obtain⟨c1,c2⟩:=EW (φ:=φ) (w:=w) hM hh
 have ai:∀b,look s'.H b≠none→φ b≠φ t:=by
  intro b hb e;have:=r.hp.inj b t (J b hb) zc e
  grind
 have af:ZX φ (look s'.H) w (Pm φ w t S n M0):=by
  refine⟨fun b c hb hc=>r.hp.inj b c (J b hb)<|J c hc,fun b k' hb=>?_,fun b hb o hm=>?_,fun x o Y=>?_,r.hp.gm.sub hM⟩
  ·obtain⟨⟨k,Z,G⟩,O⟩:=XX hH b k' hb;have U:=r.hp.blk b k Z;cases k with
  |box ty cs =>
    simp only[leB] at G;obtain⟨cs',rfl,h5⟩:=G;obtain⟨c,h6,h7⟩:=U;exact⟨c,h6,c2 _ _ O<|Uk.2 _ _ _ h5 h7⟩
  |arr ty S n=>simp only[leB] at G;subst G;exact U
  |vec ty S es =>
    simp only[leB] at G;subst G;obtain⟨c,cap,g1,g2,g3,g4,g5,g6,g7⟩:=U;exact⟨c,cap,g1,g2,g3,g4,g5,g6,c2 _ _ (EU _ _) g7⟩
  |lp T nf st pd =>
    simp only[leB] at G;subst G;obtain⟨tmps,d,g1,g2,g3⟩:=U;exact⟨tmps,d,g1,g2,fun t x ht=>⟨(g3 t x ht).1,c1 _ _ (FI O ht) (g3 t x ht).2⟩⟩
  |mp es =>
    simp only[leB] at G;subst G;obtain⟨en,cl,g1,g2,g3⟩:=U;exact⟨en,cl,g1,g2,c2 _ _ (Df _ _) g3⟩
  |mf es =>
    simp only[leB] at G;subst G;obtain⟨en,cl,g1,g2,g3,g5⟩:=U;exact⟨en,cl,g1,g2,c2 _ _ (J6 O) g3,g5⟩
  |mg en cl es =>
    simp only[leB] at G;subst G;obtain⟨g1,g2,g3,g5⟩:=U;exact⟨g1,g2,c2 _ _ (J6 O) g3,g5⟩
  |it m cl sn =>
    simp only[leB] at G;subst G;obtain⟨g1,k0,g2,g3⟩:=U;obtain⟨km,ab⟩:=TZ.1 O;obtain⟨k1,g5,g6⟩:=hh m km ab;rw[g2] at g5;cases g5;exact⟨g1,km,ab,Ga g6 g3⟩
  ·rcases hm with hm|⟨hm,_⟩
   ·exact r.hp.fr b (J b hb) o hm
   grind
  ·rcases Y with Y|⟨rfl,_,Y⟩
   ·exact r.hp.lt x o Y
   ·exact Y
 have aa:Marks φ D (look s'.H) a w:=by
  obtain⟨h0,ms,Z,G,O⟩:=r.dfs;exact⟨h0,ms,Z,G,fun x Y=>⟨(O x Y).1,(O x Y).2.1,fun b hb=>(O x Y).2.2 b (J b hb)⟩⟩
 refine⟨⟨aa,r.siz,af,fun t x ht=>?_⟩,c1,hh,hM⟩;obtain⟨y,Z,G,O⟩:=NF hT t x ht;exact⟨(r.tm t y Z).1,c1 _ _ O (Uk.1 _ _ _ G (r.tm t y Z).2)⟩
def vJ(b k t:Nat)(x:AV)(q:Blk)(s:St):St:=⟨s.T,(t,q)::s.H.map fun p=>if p.1=b then(p.1,QaE k x p.2) else p⟩
def cellAt(b k:Nat)(s:St):Option AV:=(look s.H b).bind fun q=>match q with|.box _ cs=>cs[k]?|_=>none
def QhX(b k t:Nat)(x:AV)(q:Blk)(u:Value)(K:St→Prop):St→Prop:=fun s'=>cellAt b k s'=some (.p<|.val u)∧look s'.H t=none∧K (vJ b k t x q s')
theorem FJ{k:Nat}{x:AV}(h:cellAt b k s=some x):∃ty cs,look s.H b=some (.box ty cs)∧cs[k]?=some x:=by
 obtain⟨y,J,G⟩:=Es.1 h
 grind
theorem mY{a':Act}{k t ty S:Nat}{es:List (List PV)}{u:Value}{K:LB}(r:Zy φ M0 N D (look s.T) (look s.H) a w)(aa:look s.H t=some (.arr ty S n))(hok:kH t s (shr K s)=true)(hn:es.length=n)(a7:¬b=t)(ah:Qf φ (look s.H) w (MM φ (look s.H) M0) (.tsl S es t) u)(hc:cellAt b k s'=some (.p<|.val u))(be:look s'.H t=none)(r':Zy φ' (Pm φ w t S n M0) N D (look s'.T) (look s'.H) a' w')(E':Zi φ (look (shr K s).H) w φ' (look s'.H) w') :
  ∃Z,Zy Z M0 N D (look (vJ b k t (.tsl S es t) (.arr ty S n) s').T) (look (vJ b k t (.tsl S es t) (.arr ty S n) s').H) a' w'∧Zi φ (look s.H) w Z (look (vJ b k t (.tsl S es t) (.arr ty S n) s').H) w' ∧
   ∀x v,Qf φ' (look s'.H) w' (MM φ' (look s'.H)<|Pm φ w t S n M0) x v→Qf Z (look (vJ b k t (.tsl S es t) (.arr ty S n) s').H) w' (MM Z (look (vJ b k t (.tsl S es t) (.arr ty S n) s').H) M0) x v:=by
 obtain⟨rd,_,hh,a6⟩:=mX r aa hok;simp only[kH,Ku] at hok;obtain⟨⟨⟨a8,bd⟩,hK⟩,al⟩:=hok;obtain⟨Ed,cs,hb,aw⟩:=FJ hc
 have hH:look (vJ b k t (.tsl S es t) (.arr ty S n) s').H=upd (upd (look s'.H) b<|.box Ed<|cs.set k<|.tsl S es t) t (.arr ty S n):=by
  funext c;simp only[vJ,look];rw[NM]
  grind [upd,QaE]
 rw[hH];show ∃Z,Zy Z M0 N D (look s'.T) _ a' w'∧_;obtain⟨tf,ba⟩:∃tf,tf=if φ t<w.heap.size then φ t else w'.heap.size+((s'.H.map (·.1)).map φ').foldr max 0+1:=⟨_,rfl⟩
 have G:φ t<w.heap.size→tf=φ t:=fun h=>by grind
 have ai:¬φ t<w.heap.size→w'.heap.size≤tf:=fun h=>by grind
 have aq:¬φ t<w.heap.size→n=0:=fun h=>by
  rcases r.hp.blk t _ aa with h0|⟨c,cap,U,_⟩
  ·exact h0.1
  grind
 have bb:∀c,look s'.H c≠none→φ' c≠tf:=by
  intro c hc e;by_cases hlt:φ t<w.heap.size
  ·rw[G hlt] at e;exact r'.hp.fr c hc (n*S) (.inr ⟨e,KD _,by omega⟩)
  ·have:=LA ((s'.H.map (·.1)).map φ') (φ' c) (List.mem_map_of_mem (YY.1 hc))
   grind
 have ay:φ t<w.heap.size→w'.heap[φ t]?=w.heap[φ t]?:=fun hlt=>E'.same (φ t) hlt fun c hc e=>rd.hp.fr c hc (n*S) (.inr ⟨e,KD _,by omega⟩)
 have ak:∀c,look (shr K s).H c≠none→look s.H c≠none:=fun c hb=>by
  cases hq:look (shr K s).H c with
 |none=>grind
 |some k'=>grind
 have ac:∀x o,Bv φ (look (shr K s).H) x o→Bv φ (look s.H) x o:=by
  rintro x o ⟨c,k',U,Y,h3⟩;obtain⟨k,h4,h5⟩:=hh c k' U;refine⟨c,k,h4,Y,?_⟩
  grind [leB]
 let h0:QY:=upd (upd (look s'.H) b<|.box Ed<|cs.set k<|.tsl S es t) t<|.arr ty S n
 have aj:h0 t=some (.arr ty S n):=by simp[h0,upd]
 have ax:h0 b=some (.box Ed<|cs.set k<|.tsl S es t):=by grind [upd]
 have az:∀c,¬t=c→¬b=c→h0 c=look s'.H c:=fun c J e2=>by grind [upd]
 have O:∀c,¬t=c→QL φ' t tf c=φ' c:=fun c e=>by simp[QL,e]
 have ab:QL φ' t tf t=tf:=by simp[QL]
 have ad:∀x o,Bv (QL φ' t tf) h0 x o→Bv φ' (look s'.H) x o∨(x=tf∧n*S≤o):=by
  rintro x o ⟨c,q,U,Y,h3⟩;by_cases J:t=c
  ·grind
  ·rw[O c J] at Y;by_cases e2:b=c
   ·subst e2;exact .inl ⟨b,_,hb,Y,trivial⟩
   ·rw[az c J e2] at U;exact .inl ⟨c,q,U,Y,h3⟩
 have av:∀x o,x<w'.heap.size→MM (QL φ' t tf) h0 M0 x o→MM φ' (look s'.H) (Pm φ w t S n M0) x o:=by
  rintro x o hx (h|h)
  ·rcases ad x o h with h|⟨U,Y⟩
   ·exact .inl h
   ·by_cases hlt:φ t<w.heap.size
    ·rw[G hlt] at U;exact .inr (.inr ⟨U,Y,by omega⟩)
    omega
  ·exact .inr (.inl h)
 have ar:∀c q,look s'.H c=some q→¬t=c:=fun c q hc e=>by grind
 have am:∀c q,look s'.H c=some q→b=c→q=.box Ed cs:=fun c q hc e=>by grind
 have X:VF φ' (look s'.H) w' (QL φ' t tf) h0 w':=by
  refine⟨fun c t' cs' hc=>⟨?_,O c<|ar c _ hc⟩,fun c t' S n hc=>?_,fun c t' S n hc=>?_,fun c k' x hc ho=>?_⟩
  ·grind
  ·have e:¬b=c:=fun e=>by grind
   exact⟨n,zc,KD _,fun _=>Ve (O c<|ar c _ hc) rfl⟩
  ·grind
  ·have e:¬b=c:=fun e=>by rw[am c _ hc e] at ho;cases ho
   grind
 have ae:∀x o v,w'.cell? ⟨x,o,none⟩=some v→¬MM φ' (look s'.H) (Pm φ w t S n M0) x o→w'.cell? ⟨x,o,none⟩=some v∧¬MM (QL φ' t tf) h0 M0 x o:=fun x o v U Y=>⟨U,fun hm=>Y<|av x o (Nq U) hm⟩
 have au:Qf (QL φ' t tf) h0 w' (MM (QL φ' t tf) h0 M0) (.tsl S es t) u:=by
  simp only[Qf] at ah ⊢;obtain⟨p1,WI,n2,p2,p3,p4⟩:=ah;rw[aa] at p2;cases p2;refine⟨(Kb (w:=w) (w':=w') (M:=MM φ (look s.H) M0) fun x o v g1 g2=>?_).1 _ _ p1,ty,n,aj,by omega,fun _=>?_⟩;rotate_left
  ·grind
  obtain⟨g3,g4⟩:=E'.keeps (Pm φ w t S n M0) x o v g1 fun hm=>g2<|a6 x o hm
  grind
 refine⟨QL φ' t tf,⟨?_,r'.siz,⟨?_,?_,?_,fun x o hx=>r'.hp.lt x o<|.inl hx,r'.hp.gm.w,fun g hg o hm=>r'.hp.gm.m g hg o<|av g o (jV r'.hp.gm.w g hg) hm⟩,fun c x ao=>⟨(r'.tm c x ao).1,(QV ae X).1 _ _ (r'.tm c x ao).2⟩⟩,?_,(QV ae X).1⟩
 ·obtain⟨g0,ms,g1,g2,g3⟩:=r'.dfs;refine⟨g0,ms,g1,g2,fun x hx=>?_⟩;obtain⟨g4,g5,g6⟩:=g3 x hx;refine⟨g4,g5,fun c hc e=>?_⟩;by_cases J:t=c
  ·subst J;rw[ab] at e;by_cases hlt:φ t<w.heap.size
   ·rw[G hlt] at e;rcases r.hp.blk t _ aa with⟨_,q1⟩|⟨c2,cap,q1,_⟩
    ·grind
    grind
   grind
  grind
 ·have an:∀c,h0 c≠none→¬t=c→look s'.H c≠none:=fun c hc J=>by
   grind
  intro c d hc hd e;by_cases J:t=c<;>by_cases e2:t=d
  ·omega
  ·grind
  ·grind
  ·rw[O c J,O d e2] at e;exact r'.hp.inj c d (an c hc J) (an d hd e2) e
 ·intro c q hc;by_cases J:t=c
  ·subst J;have:q=.arr ty S n:=Option.some.inj<|hc.symm.trans aj;subst this;rw[ab];by_cases hlt:φ t<w.heap.size
   ·rw[G hlt];rcases r.hp.blk t _ aa with⟨q0,q1⟩|⟨c2,cap,q1,q2⟩
    ·grind
    ·exact .inr ⟨c2,cap,zc,q2⟩
   ·exact .inl ⟨aq hlt,Xt<|ai hlt⟩
  ·rw[O c J];by_cases e2:b=c
   ·subst e2;have:q=.box Ed (cs.set k<|.tsl S es t):=Option.some.inj<|hc.symm.trans ax;subst this;obtain⟨c1,g1,g2⟩:=r'.hp.blk b _ hb;obtain⟨u',g3,g4⟩:=GZ g2 aw;simp only[Qf,Zj] at g4;subst g4;exact⟨c1,g1,U4 ((QV ae X).2 _ _ g2) g3 au⟩
   ·have hc':look s'.H c=some q:=by grind
    exact Ke ae X rfl<|r'.hp.blk c q hc'
 ·intro c hc o hm;by_cases J:t=c
  ·subst J;rw[ab] at hm;by_cases hlt:φ t<w.heap.size
   ·rw[G hlt] at hm;exact r.hp.fr t zc o hm
   ·have U:=ai hlt;have Y:=r'.hp.lt _ _<|.inl hm;omega
  ·rw[O c J] at hm;refine r'.hp.fr c ?_ o (.inl hm)
   grind
 ·have af:∀c q,1000≤c→¬t=c→look s.H c=some q→∃q',look (shr K s).H c=some q'∧leB q q':=by
   intro c q hc J hq
   have hf:look (s.H.filter fun p=>p.1 != t) c=some q:=by
    rw[P5 (f:=fun x=>x != t)<|zc];exact hq
   grind [Yo]
  refine⟨E'.os,E'.tape,E'.output,E'.size,fun x hx al=>E'.same x hx fun c hc=>al c<|ak c hc,fun x o hx hm=>E'.cell x o hx fun h=>hm<|ac x o h,?_,?_,?_,?_,?_⟩
  ·intro x o hx hm;rcases ad x o hm with h|⟨U,h⟩
   ·exact ac x o (E'.mu x o hx h)
   ·by_cases hlt:φ t<w.heap.size
    ·rw[G hlt] at U;exact⟨t,_,aa,U.symm,h⟩
    ·have:=ai hlt;have:=E'.size;omega
  ·intro c t' q hc hq;have J:¬t=c:=fun e=>by grind
   obtain⟨q',U,Y⟩:=af c _ hc J hq;simp only[leB] at Y;obtain⟨cs',rfl,_⟩:=Y;obtain⟨⟨bc,h3⟩,h4⟩:=E'.kb c t' cs' hc U
   grind
  ·intro c t' S' n' hc hq;by_cases J:t=c
   ·subst J;rw[aa] at hq;cases hq;refine⟨n,aj,KD _,fun _=>?_⟩
    grind [Ve,PN,Xt]
   ·obtain⟨q',U,Y⟩:=af c _ hc J hq;simp only[leB] at Y;subst Y;obtain⟨n2,h3,h4,h5⟩:=E'.kt c t' S' n' hc U
    grind
  ·intro c t' S' es' hc hq;have J:¬t=c:=fun e=>by grind
   obtain⟨q',U,Y⟩:=af c _ hc J hq;simp only[leB] at Y;subst Y;obtain⟨n2,h3,h4,h5⟩:=E'.kv c t' S' es' hc U
   grind
  ·intro c q x hc hq ho;have J:¬t=c:=fun e=>by subst e;rw[aa] at hq;cases hq;cases ho
   obtain⟨q',U,Y⟩:=af c _ hc J hq;obtain⟨⟨q2,h3,h4⟩,h5⟩:=E'.ko c q' x hc U<|Ga Y ho;have e2:¬b=c:=fun e=>by rw[am c _ h3 e] at h4;cases h4
   grind
section
variable {R:Type}{a:Option R}{P:Program}{N:Nat}{f:FuncId}{args:List AV}{dst:Option Tmp}{s:St}{K:R→St→Prop}{Q:R→AX→St→Prop}
def QhY{R:Type}(b k t:Nat)(x:AV)(q:Blk)(u:Value)(K:R→St→Prop):R→St→Prop:=fun r=>QhX b k t x q u<|K r
def QhZ{R:Type}(b k t:Nat)(x:AV)(q:Blk)(u:Value)(Q:R→AX→St→Prop):R→AX→St→Prop:=fun r e=>QhX b k t x q u<|Q r e
theorem JF(b k t ty S n:Nat)(es:List (List PV))(C:LB)(hn:es.length=n)(hok:∀O J G,(kH t (Gl b k (.p<|.val<|.slice O J G) s) (shr C<|Gl b k (.p<|.val<|.slice O J G) s)&&K5 (look (shr C<|Gl b k (.p<|.val<|.slice O J G) s).H) args)=true)(h:∀O J G,NV a P N f args dst (shr C<|Gl b k (.p<|.val<|.slice O J G) s) (QhY b k t (.tsl S es t) (.arr ty S n) (.slice O J G) K) (QhZ b k t (.tsl S es t) (.arr ty S n) (.slice O J G) Q))(hb:cellAt b k s=some (.tsl S es t):=by kernel_rfl)(an:look s.H t=some (.arr ty S n):=by kernel_rfl):NV a P N f args dst s K Q:=by
 refine⟨fun r hr=>?_⟩;intro φ M0 D G w vs r1 ha;obtain⟨gp,cs,hq,Dw⟩:=FJ hb;obtain⟨c,g1,g2⟩:=r1.hp.blk b _ hq;obtain⟨u,g3,g4⟩:=GZ g2 Dw
 have aa:∃O J G,u=.slice O J G:=by
  grind [Qf]
 obtain⟨O,J,ae,aa⟩:=aa;have af:¬b=t:=fun e=>by grind
 have hU:look (Gl b k (.p<|.val u) s).H=upd (look s.H) b (.box gp<|cs.set k<|.p<|.val u):=Si hq;have hk:∀x o v,w.cell? ⟨x,o,none⟩=some v→¬MM φ (look s.H) M0 x o→w.cell? ⟨x,o,none⟩=some v∧¬MM φ (upd (look s.H) b<|.box gp<|cs.set k<|.p<|.val u) M0 x o:=fun x o v g1 g2=>⟨g1,fun hm=>g2<|hm.imp (Sj hq x o) id⟩
 have r2:Zy φ M0 N D (look (Gl b k (.p<|.val u) s).T) (look (Gl b k (.p<|.val u) s).H) G w:=by
  rw[hU];refine qy r1 hq fun c2 am=>?_
  grind [Qf,Zj,U4]
 have ad:look (Gl b k (.p<|.val u) s).H t=some (.arr ty S n):=by simp_all [upd]
 have ab:Qf φ (look (Gl b k (.p<|.val u) s).H) w (MM φ (look (Gl b k (.p<|.val u) s).H) M0) (.tsl S es t) u:=by
  rw[hU];exact(QV hk<|MK hq).1 _ _ g4
 have E1:Zi φ (look s.H) w φ (look (Gl b k (.p<|.val u) s).H) w:=by grind [ML]
 have ak:Ql φ (look (Gl b k (.p<|.val u) s).H) w (MM φ (look (Gl b k (.p<|.val u) s).H) M0) args vs:=by
  rw[hU];exact(QV hk<|MK hq).2 _ _ ha
 have Z:=hok O J ae;rw[←aa] at Z;simp only[Ku] at Z;obtain⟨Y,ah⟩:=Z;obtain⟨r3,c1,hh,ai⟩:=mX r2 ad Y;have aj:=(EW (φ:=φ) (w:=w) ai hh).2 _ _ ah ak;have hu:=h O J ae;rw[←aa] at hu;refine Calls.mono (hu.h r hr φ _ D G w vs r3 aj) fun e w' he=>?_
 cases e with
|returned v =>
  obtain⟨φ',s',⟨k1,k2,k3⟩,r',E'⟩:=he;obtain⟨U,r4,E4,_⟩:=mY r2 ad Y hn af ab k1 k2 r' E';exact⟨U,_,k3,r4,E1.trans E4⟩
|panicked chain =>
  obtain⟨φ',x,s',⟨k1,k2,k3⟩,r',E',hx⟩:=he;obtain⟨U,r4,E4,hX⟩:=mY r2 ad Y hn af ab k1 k2 r' E';refine⟨U,x,_,k3,r4,E1.trans E4,?_⟩;cases x with
 |panic v =>
   obtain⟨y,e1,e2⟩:=hx;exact⟨y,e1,hX _ _ e2⟩
 |_=>exact hx
|outgrown=>exact he
theorem U5{k t:Nat}{x:AV}{q:Blk}{u:Value}(s0:St)(e:vJ b k t x q s'=s0)(h:Dk a K s0)(hb:cellAt b k s'=some (.p<|.val u):=by kernel_rfl)(J:look s'.H t=none:=by kernel_rfl):Dk a (QhY b k t x q u K) s':=by
 subst e;exact⟨fun r G=>⟨hb,J,h.h r G⟩⟩
theorem Qi0{k t:Nat}{x:AV}{q:Blk}{u:Value}{ex:AX}(s0:St)(e:vJ b k t x q s'=s0)(hb:cellAt b k s'=some (.p<|.val u))(J:look s'.H t=none)(h:ZK a Q ex s0):ZK a (QhZ b k t x q u Q) ex s':=by
 subst e;exact⟨fun r G=>⟨hb,J,h.h r G⟩⟩
end
section
variable {P:Program}{o:Oper}{T:Nat→Option AV}{h:QY}
theorem mZ(l:List UInt8)(a b:Nat):(Xr l).extract a b=Xr ((l.take b).drop a):=by
 apply ByteArray.ext;simp[Xr,ByteArray.data_extract,List.drop_take]
theorem QcI(l:List UInt8):(Xr l).size=l.length:=by rfl
theorem Vy{P:Program}{s:Sem α}{a:α}(f:α→Sem β)(h:Vf P s=some a):Vf P (s >>= f)=Vf P (f a):=by
 induction s with
|pure b=>simp only[Vf,ZA] at h;subst h;rfl
|program k G=>exact G P h
|mark m k G=>exact G h
|_=>simp[Vf] at h
theorem Pn{t:TypeId}{d:TypeDesc}(h:P.underlying t=some d):Vf P (underlying t)=some d:=by
 unfold underlying;rw[Vy (a:=P) _ rfl,h];rfl
theorem Sl{k:IntKind}{i:Int}{y:Nat}{c:BoundsCode}(h0:0≤i)(G:i≤y):Vf P (Instr.sliceBound (.int k i) y c)=some i.toNat:=by
 simp[Instr.sliceBound,asIntOf,h0,G];rfl
def vOf(T:Nat→Option AV)(x:Option Operand):Option Value:=x.map fun y=>(known T y).getD undef
theorem kI{d n:Int}(h:NW T d (some x)=some n):∃k,known T x=some (.int k n):=by
 simp only[NW] at h;split at h
 ·rename_i k m G;cases h;exact⟨k,by simp[known,G];rfl⟩
 ·cases h
theorem QaF{a b:Int}(G:NW T 0 lo=some a)(J:NW T len hi=some b)(h0:0≤a)(Z:a≤b)(Y:b≤len):Vf P (Instr.sliceBounds false len len (vOf T lo) (vOf T hi) none)=some (a.toNat,b.toNat,len):=by
 have hb:(b.toNat:Int)=b:=by omega
 cases hi with
|none =>
  simp only[NW,ZA] at J;subst J;cases lo with
 |none =>
   simp only[NW,ZA] at G;subst G;simp[Instr.sliceBounds,vOf];rfl
 |some x =>
   obtain⟨k,U⟩:=kI G;simp only[Instr.sliceBounds,vOf,Option.map_some,Option.map_none,U,Option.getD_some,pure_bind];rw[Vy _<|Sl h0 Z];rfl
|some y =>
  obtain⟨k',O⟩:=kI J;cases lo with
 |none =>
   simp only[NW,ZA] at G;subst G;simp only[Instr.sliceBounds,vOf,Option.map_some,Option.map_none,O,Option.getD_some,pure_bind];rw[Vy _<|Sl zo Y];rfl
 |some x =>
   obtain⟨k,U⟩:=kI G;simp only[Instr.sliceBounds,vOf,Option.map_some,U,O,Option.getD_some,pure_bind];rw[Vy _<|Sl zo Y];rw[Vy _<|Sl h0 zo];rfl
theorem P6{t:TypeId}{l:List UInt8}{a b:Int}(U:o.op=.slice t x lo hi none)(ht:P.underlying t=some .string)(hx:Zn T x=some (.p<|.val<|.string<|Xr l))(Z:NW T 0 lo=some a)(Y:NW T l.length hi=some b)(hc:sliceB a b l.length=true):We P o T h=some (.p<|.val<|.string<|Xr<|(l.take b.toNat).drop a.toNat,none,[]):=by
 simp only[sliceB,Pd] at hc;obtain⟨c1,c2,c3⟩:=hc;have h1:F6 P T t x lo hi none=none:=by grind [F6]
 have O:known T x=some (.string<|Xr l):=by simp[known,hx];rfl
 have J:(allKnown T o.op.operands.toList&&Hl o.op)=true:=by
  rw[U]
  have e1:∀y,lo=some y→(known T y).isSome=true:=by
   rintro y rfl
   grind [kI]
  have e2:∀y,hi=some y→(known T y).isSome=true:=by
   rintro y rfl
   grind [kI]
  cases lo with
 |none =>
   cases hi with
  |none=>simp[Op.operands,allKnown,Hl,O]
  |some y=>simp[Op.operands,allKnown,Hl,O,e2 y rfl]
 |some x =>
   cases hi with
  |none=>simp[Op.operands,allKnown,Hl,O,e1 x rfl]
  |some y=>simp[Op.operands,allKnown,Hl,O,e1 x rfl,e2 y rfl]
 have G:Vf P (execOp (fun x=>(known T x).getD undef) o)=some (.value<|.string<|Xr<|(l.take b.toNat).drop a.toNat):=by
  unfold execOp;rw[U];dsimp only
  have:Vf P (Instr.sliceAt t ((known T x).getD undef) (vOf T lo) (vOf T hi) none)=some (.string<|Xr<|(l.take b.toNat).drop a.toNat):=by
   rw[O];unfold Instr.sliceAt;rw[Vy _<|Pn ht];show Vf P (Instr.slice t (.string<|Xr l) (vOf T lo) (vOf T hi) none)=_;unfold Instr.slice;rw[Vy _<|Pn ht];have hB:=QaF (P:=P) (T:=T) Z Y c1 c2 c3;rw[←QcI l] at hB
   have:Vf P (Instr.sliceBounds false (Xr l).size (Xr l).size (vOf T lo) (vOf T hi) none >>= fun x=>(pure (.string<|(Xr l).extract x.1 x.2.1):Sem Value))=some (.string<|Xr<|(l.take b.toNat).drop a.toNat):=by
    rw[Vy _ hB,mZ];rfl
   exact this
  exact(Vy _ this)
 simp only[We,U,h1,Ti];unfold Gx;rw[if_pos J,G];rfl
end
def QfK:AV→Bool|.p (.val (.slice none 0 0))=>true|.vnil=>true|_=>false
theorem ng{x:AV}(G:QfK x=true)(J:Qf φ h w M x v):v=.slice none 0 0:=by
 unfold QfK at G
 grind [Qf,Zj]
def pnC(S t:Nat):List (Nat×Nat)→St→St|[],s=>s|(b,k)::l,s=>pnC S t l<|Gl b k (.tsl S [] t) s
def QfL(S t:Nat):List (Nat×Nat)→St→Bool
|[],_=>true
|(b,k)::l,s=>(match cellAt b k s with|some x=>QfK x|none=>false)&&QfL S t l (Gl b k (.tsl S [] t) s)
def pnS(ty S t:Nat)(ts:List Nat)(bs:List (Nat×Nat))(s:St):St:=pnC S t bs ⟨ts.map (fun x=>(x,AV.tsl S [] t))++s.T,(t,.arr ty S 0)::s.H⟩
def Qlh(ty S t:Nat)(ts:List Nat)(bs:List (Nat×Nat))(s:St):Bool :=
 (look s.H t).isNone&&ts.all (fun x=>match look s.T x with|some v=>QfK v|none=>false)&&QfL S t bs ⟨ts.map (fun x=>(x,AV.tsl S [] t))++s.T,(t,.arr ty S 0)::s.H⟩
def QfM(φ:Nat→Nat)(h:QY)(w:World)(ty S t:Nat):Prop:=w.heap[φ t]?=none∧h t=some (.arr ty S 0)
theorem QcJ{ty S t:Nat}(p:QfM φ h w ty S t):Qf φ h w M (.tsl S [] t) (.slice none 0 0):=by
 simp only[Qf,Zj];exact⟨.inr ⟨trivial,none,0,rfl⟩,ty,0,p.2,KD _,fun _=>.inl<|by simp[p.1]⟩
theorem QcK{N:Nat}{D:DB}{φ:Nat→Nat}{M0:ZR}{a:Act}{w:World}{ty S t:Nat}:∀(bs:List (Nat×Nat)) (s:St),QfL S t bs s=true→QfM φ (look s.H) w ty S t→Zy φ M0 N D (look s.T) (look s.H) a w →
  Zy φ M0 N D (look (pnC S t bs s).T) (look (pnC S t bs s).H) a w∧Zi φ (look s.H) w φ (look (pnC S t bs s).H) w
|[],s,_,_,r=>⟨r,Zi.refl _ _ _⟩
|(b,k)::bs,s,h,p,r=>by
  simp only[QfL,Ku] at h;obtain⟨h1,h2⟩:=h;cases hc:cellAt b k s with
 |none=>grind
 |some x =>
   rw[hc] at h1;obtain⟨gp,cs,hb,O⟩:=FJ hc;have J:=Si (k:=k) (x:=.tsl S [] t) hb;have G:¬b=t:=fun e=>by rw[e,p.2] at hb;cases hb
   have U:QfM φ (look (Gl b k (.tsl S [] t) s).H) w ty S t:=⟨p.1,by rw[J];simp[upd,G,p.2]⟩
   have r':Zy φ M0 N D (look (Gl b k (.tsl S [] t) s).T) (look (Gl b k (.tsl S [] t) s).H) a w:=by
    rw[J];refine qy r hb fun c Z=>?_
    obtain⟨c0,g1,g2⟩:=r.hp.blk b _ hb
    grind [GZ,ng,U4,QcJ]
   obtain⟨Y,E2⟩:=QcK bs (Gl b k (.tsl S [] t) s) h2 U r';have E1:Zi φ (look s.H) w φ (look (Gl b k (.tsl S [] t) s).H) w:=by grind [ML]
   exact⟨Y,E1.trans E2⟩
theorem ni{S t:Nat}{T:List (Nat×AV)}:∀(ts:List Nat) (x:Nat),look (ts.map (fun x=>(x,AV.tsl S [] t))++T) x=if x∈ts then some (.tsl S [] t) else look T x
|[],x=>by simp
|y::ts,x=>by
  simp only[JR,List.cons_append,look,List.mem_cons];by_cases e:y=x
  ·simp[e]
  ·have G:¬x=y:=fun h=>e h.symm
   simp only[e,G,if_false,false_or];exact ni ts x
theorem Yr(ty S t:Nat)(ts:List Nat)(bs:List (Nat×Nat))(hok:Qlh ty S t ts bs s=true:=by kernel_rfl):Weak N s (pnS ty S t ts bs s):=by
 intro φ M0 D a w r;simp only[Qlh,Ku] at hok;obtain⟨⟨h1,h2⟩,Y⟩:=hok;have hn:look s.H t=none:=by simp_all
 obtain⟨f,hf⟩:∃f,f=w.heap.size+((s.H.map (·.1)).map φ).foldr max 0+1:=⟨_,rfl⟩
 have ad:∀c,look s.H c≠none→φ c≠f:=by
  intro c hc e;have:=LA ((s.H.map (·.1)).map φ) (φ c)<|List.mem_map_of_mem<|YY.1 hc;omega
 have ab:w.heap.size≤f:=by omega
 have aa:∀c q,look s.H c=some q→¬t=c:=fun c q hc e=>by grind
 have O:QL φ t f t=f:=by simp[QL]
 have X:VF φ (look s.H) w (QL φ t f) (upd (look s.H) t<|.arr ty S 0) w:=by
  refine⟨fun c U cs' hc=>?_,fun c U S n hc=>?_,fun c U S n hc=>?_,fun c k' x hc ho=>?_⟩
  ·grind [upd,QL]
  ·have:=aa c _ hc;exact⟨n,by grind [upd],KD _,fun _=>Ve (by simp[QL,this]) rfl⟩
  ·have:=aa c _ hc;exact⟨n,by grind [upd],KD _,fun _=>⟨by simp[QL,this],fun c ac=>⟨c,ac,rfl⟩⟩⟩
  grind [upd,QL]
 have Z:∀x o,x<w.heap.size→Bv (QL φ t f) (upd (look s.H) t<|.arr ty S 0) x o→Bv φ (look s.H) x o:=by
  rintro x o J ⟨c,q,g1,g2,g3⟩;by_cases e:t=c
  ·grind
  ·simp only[upd,QL,e,if_false] at g1 g2;exact⟨c,q,g1,g2,g3⟩
 have E:Zi φ (look s.H) w (QL φ t f) (upd (look s.H) t<|.arr ty S 0) w :=
  ⟨rfl,rfl,rfl,KD _,fun _ _ _=>rfl,fun _ _ _ _=>rfl,fun x o J G=>Z x o J G,
   fun c U cs _ hc=>by grind [upd,QL],fun c U S n _ hc=>X.t c U S n hc,fun c U S n _ hc=>X.v c U S n hc,fun c k x _ hc ho=>X.o c k x hc ho⟩
 have hp:ZX (QL φ t f) (upd (look s.H) t<|.arr ty S 0) w M0:=by
  refine⟨fun c d hc hd e=>?_,fun c q hc=>?_,fun c hc o G=>?_,r.hp.lt,r.hp.gm.evol E⟩
  ·by_cases e1:t=c<;>by_cases e2:t=d
   ·omega
   ·grind [QL,upd,absurd]
   ·grind [QL,upd,absurd]
   ·simp only[QL,e1,e2,if_false] at e;simp only[upd,e1,e2,if_false] at hc hd;exact r.hp.inj c d hc hd e
  ·by_cases e:t=c
   ·have:q=.arr ty S 0:=by grind [upd]
    subst this;rw[←e,O];exact .inl ⟨rfl,Xt ab⟩
   ·have hc':look s.H c=some q:=by grind [upd]
    have Y:QL φ t f c=φ c:=by simp[QL,e]
    rw[Y];exact Ke (E.keeps M0) X rfl<|r.hp.blk c q hc'
  ·by_cases e:t=c
   ·rw[←e,O] at G;have:=r.hp.lt _ _ G;omega
   ·have Y:QL φ t f c=φ c:=by simp[QL,e]
    rw[Y] at G;exact r.hp.fr c (by grind [upd]) o G
 have r1:=r.keep E X hp;have pa:QfM (QL φ t f) (upd (look s.H) t<|.arr ty S 0) w ty S t:=⟨zc,by simp[upd]⟩
 let s1:St:=⟨ts.map (fun x=>(x,AV.tsl S [] t))++s.T,(t,.arr ty S 0)::s.H⟩
 have r2:Zy (QL φ t f) M0 N D (look s1.T) (look s1.H) a w:=by
  refine⟨r1.dfs,r1.siz,r1.hp,fun x v J=>?_⟩;rw[ni] at J;by_cases G:x∈ts
  ·rw[if_pos G] at J;cases J;have h4:=Fx.1 h2 x G;cases hl:look s.T x with
  |none=>grind
  |some y =>
    rw[hl] at h4;obtain⟨g1,g2⟩:=r1.tm x y hl;refine⟨g1,?_⟩;rw[ng h4 g2];exact QcJ pa
  ·rw[if_neg G] at J;exact r1.tm x v J
 obtain⟨r3,E3⟩:=QcK (ty:=ty) bs s1 Y pa r2;exact⟨_,r3,E.trans E3⟩
section
variable {P:Program}{o:Oper}{T:Nat→Option AV}{h:QY}
theorem XZ{w k:List UInt8}{f:Bool}{x:AV}{l:List (Bool×List UInt8×AV)}(h:(Q0 w k&&f)=true):Tf w ((f,k,x)::l)=some x:=by grind [Tf]
theorem Qy{w k:List UInt8}{f:Bool}{x:AV}{l:List (Bool×List UInt8×AV)}{q:Option AV}(h:(Q0 w k&&f)=false)(G:Tf w l=q):Tf w ((f,k,x)::l)=q:=by grind [Tf]
theorem QfN{w:List UInt8}:Tf w []=none:=rfl
theorem X4{t:TypeId}{w:List UInt8}{v:AV}(G:o.op=.lookup t x ix ok)(hf:Tf w es=some v)(O:P.underlying t=some (.map kt e):=by kernel_rfl)(U:P.underlying kt=some .string:=by kernel_rfl)(J:Zn T x=some (.mv b):=by kernel_rfl)(hi:Zn T ix=some (.p<|.val<|.string<|Xr w):=by kernel_rfl)(hb:h b=some (.mf es):=by kernel_rfl):
  We P o T h=some (BU ok v true,none,[b]):=by
 simp_all [We,Ti,UJ,XV,D7]
theorem QfO{t:TypeId}{w:List UInt8}(G:o.op=.lookup t x ix ok)(U:P.underlying t=some (.map kt e))(Y:P.underlying kt=some .string)(J:Zn T x=some (.mv b))(hi:Zn T ix=some (.p<|.val<|.string<|Xr w))(hb:h b=some (.mf es))(O:(P.info? e).bind (·.zero)=some z)(hf:Tf w es=none) :
  We P o T h=some (BU ok (y7 z) false,none,[b]):=by
 simp_all [We,Ti,UJ,XV,D7]
end
def Qi1(b:Nat)(k:Blk)(s:St):St:=⟨s.T,s.H.map fun p=>if p.1=b then(p.1,k) else p⟩
theorem IB{k:Blk}:∀(H:List (Nat×Blk)) (c:Nat),look H b=some k0→look (H.map fun p=>if p.1=b then(p.1,k) else p) c=upd (look H) b k c
|H,c,h0=>by
  have:∀(H:List (Nat×Blk)) (c:Nat),look (H.map fun p=>if p.1=b then(p.1,k) else p) c=if b=c then(look H c).map (fun _=>k) else look H c:=by
   intro H
   induction H with
  |nil=>simp[look]
  |cons p H G =>
    grind [look]
  grind [upd]
theorem Za(G:P.underlying kt=some .string)(a b:List UInt8):eqV P 4 kt (.string<|Xr a) (.string<|Xr b)=some (Q0 a b):=by
 have:=lv G (Xr a) b;rw[D7] at this;exact this
end Go.Abs
namespace Go.Abs
open Go Go.ChangeShapes Go.WideShapes
variable {b base d:Nat}{h:QY}{n off:Nat}{v:Value}
def Sm(P:Program)(total:Nat):Nat→List Field→Bool|off,[]=>off==total|off,f::r=>f.offset==off&&Sm P total (off+P.cellsOf f.type) r
def FK(P:Program):Nat→TypeId→Bool
|0,_=>false
|d+1,t=>match P.underlying t with
 |some .bool=>P.cellsOf t==1
 |some (.int _)=>P.cellsOf t==1
 |some .string=>P.cellsOf t==1
 |some (.slice e)=>P.cellsOf t==1&&Nat.blt 0 (P.cellsOf e)&&FK P d e
 |some (.struct G)=>Sm P (P.cellsOf t) 0 G.toList&&G.toList.all (fun f=>FK P d f.type)
 |some (.array n e)=>n*P.cellsOf e==P.cellsOf t&&FK P d e
 |_=>false
def Qi2(S:TypeId→List PV→Prop):List Field→List PV→Prop|[],cs=>cs=[]|f::r,cs=>∃a b,cs=a++b∧S f.type a∧Qi2 S r b
def ShN(S:List PV→Prop):Nat→List PV→Prop|0,cs=>cs=[]|n+1,cs=>∃a b,cs=a++b∧S a∧ShN S n b
def Sh(P:Program):Nat→TypeId→List PV→Prop
|0,_,_=>False
|d+1,t,cs=>match P.underlying t with
 |some .bool=>∃b,cs=[.val<|.bool b]
 |some (.int k)=>∃n,cs=[.val<|.int k n]∧(Lit.int k n).wf=true
 |some .string=>∃s:List UInt8,cs=[.val<|.string<|Xr s]∧s.length≤maxLen
 |some (.slice e)=>∃es,cs=[.sl (P.cellsOf e) es]∧es.length≤maxLen∧∀x∈es,Sh P d e x
 |some (.struct G)=>Qi2 (Sh P d) G.toList cs
 |some (.array n e)=>ShN (Sh P d e) n cs
 |_=>False
section
variable {H:Type}{enc:TypeId×Value→H}{P:Program}{w:World}{held:Bool}{φ:Nat→Nat}{M:ZR}
theorem kJ{a:Addr}{G:List Value}(h:w.cells? base a n=some G):G.length=n∧∀i,i<n→w.cell? (a.add i)=G[i]?:=by
 unfold World.cells? at h;split at h
 ·have J:=mapM_some_length h;refine⟨zc,fun i hi=>?_⟩;exact mapM_some_get h i i (by simp[hi])
 ·cases h
def Got(P:Program)(w:World)(φ:Nat→Nat)(M:ZR)(d:Nat)(t:TypeId)(G:List Value):Prop :=∃cs:List PV,Sh P d t cs∧Ql φ R5 w M (cs.map .p) G∧(∀v∈G,v.oneCell'=true)
theorem Sn{t:TypeId}{c:PV}(G:Sh P d t [c])(O:Zj w M c v)(J:v.oneCell'=true):Got P w φ M d t [v] :=
 ⟨[c],G,by simp only[JR,List.map_nil,Ql,Qf];grind,zc⟩
theorem wY{φ:Nat→Nat}{w:World}{M:ZR}{a b:List AV}{l m:List Value}(G:Ql φ h w M a l)(J:Ql φ h w M b m):Ql φ h w M (a++b) (l++m):=ZZ G J
theorem add_zero(a:Addr):a.add 0=a:=rfl
theorem QcL:(⟨b,off,none⟩:Addr).add n=⟨b,off+n,none⟩:=by
 simp[Addr.add]
theorem cell?_spot{a:Addr}(h:w.cell? a=some v):a.spot=none:=by
 unfold World.cell? at h;split at h
 ·simp_all
 ·cases h
theorem wZ{Q:Nat→List PV→Prop}:∀(n:Nat),(∀i,i<n→∃c,Q i c)→∃es:List (List PV),es.length=n∧∀i c,es[i]?=some c→Q i c
|0,_=>⟨[],rfl,by simp⟩
|n+1,h=>by
  obtain⟨es,G,J⟩:=wZ n fun i hi=>h i zo;obtain⟨c,hc⟩:=h n zo;refine⟨es++[c],by simp[G],fun i c' hi=>?_⟩
  grind
theorem nk{S r:Nat}:∀(es:List (List PV)) (o:Nat),(∀i e,es[i]?=some e→e.length=S∧WM w M r (o+i*S) e)→WN w M S r o es
|[],o,_=>by simp[WN]
|e::es,o,h=>by
  simp only[WN];refine⟨by have:=h 0 e zq;grind,nk es (o+S) fun i G J=>?_⟩;have:=h (i+1) G zc
  grind
theorem QcM(hM:∀r o,¬M r o):∀(d O:Nat) (t:TypeId) (G:List Value) (x:DataW H×List MemPlace),FK P d t=true→DataW.trod enc P w 0 (fun _=>true) held O t G=some x→Got P w φ M d t G∧G.length=P.cellsOf t:=by
 intro d
 induction d with
|zero=>intro O t G x hp;cases hp
|succ d ih =>
  intro O t G x hp h
  have af:∀(U:List Field) (off total:Nat) (G:List Value),G.length=total→Sm P total off U=true→U.all (fun f=>FK P d f.type)=true →
    (∀f∈U,∃n y,DataW.trod enc P w 0 (fun _=>true) held n f.type ((G.drop f.offset).take<|P.cellsOf f.type)=some y)→∃cs,Qi2 (Sh P d) U cs∧Ql φ R5 w M (cs.map .p) (G.drop off)∧(∀v∈G.drop off,v.oneCell'=true):=by
   intro U
   induction U with
  |nil =>
    intro off total G Y ht _ _;simp only[Sm,beq_iff_eq] at ht;have:G.drop off=[]:=List.drop_eq_nil_of_le zo;exact⟨[],rfl,by assumption,zc⟩
  |cons f U ah =>
    intro off total G Y ht ha hm;simp only[Sm,Ku,beq_iff_eq] at ht;simp only[List.all_cons,Ku] at ha;obtain⟨n,y,hy⟩:=hm f zq;rw[ht.1] at hy;obtain⟨⟨c1,g1,g2,g3⟩,_⟩:=ih n f.type _ y ha.1 hy;obtain⟨c2,k1,k2,k3⟩:=ah (off+P.cellsOf f.type) total G Y ht.2 ha.2 (fun f hf=>hm f<|by simp[hf])
    have e:G.drop off=(G.drop off).take (P.cellsOf f.type)++G.drop (off+P.cellsOf f.type):=by
     grind [List.drop_drop,List.take_append_drop]
    refine⟨c1++c2,⟨c1,c2,rfl,g1,k1⟩,?_,?_⟩
    ·grind [wY]
    grind
  have ae:∀(e:TypeId) (n k:Nat) (G:List Value),G.length=(k+n)*P.cellsOf e→FK P d e=true →
    (∀i,k≤i→i<k+n→∃m y,DataW.trod enc P w 0 (fun _=>true) held m e ((G.drop<|i*P.cellsOf e).take<|P.cellsOf e)=some y)→∃cs,ShN (Sh P d e) n cs∧Ql φ R5 w M (cs.map .p) (G.drop<|k*P.cellsOf e)∧(∀v∈G.drop (k*P.cellsOf e),v.oneCell'=true):=by
   intro e n
   induction n with
  |zero =>
    intro k G Y _ _;have:G.drop (k*P.cellsOf e)=[]:=List.drop_eq_nil_of_le zc;exact⟨[],rfl,by assumption,zc⟩
  |succ n aj =>
    intro k G Y aa hm;obtain⟨m,y,hy⟩:=hm k zo zo;obtain⟨⟨c1,g1,g2,g3⟩,_⟩:=ih m e _ y aa hy;obtain⟨c2,k1,k2,k3⟩:=aj (k+1) G zc aa fun i h1 h2=>hm i zo zo
    have e':G.drop (k*P.cellsOf e)=(G.drop<|k*P.cellsOf e).take (P.cellsOf e)++G.drop ((k+1)*P.cellsOf e):=by
     rw[Nat.add_mul,Nat.one_mul,←List.drop_drop];grind [List.take_append_drop]
    refine⟨c1++c2,⟨c1,c2,rfl,g1,k1⟩,?_,?_⟩
    ·grind [wY]
    grind
  unfold FK at hp;cases hu:P.underlying t with
 |none=>grind
 |some td =>
   rw[hu] at hp;cases td with
  |bool =>
    obtain⟨b,rfl,_⟩:=DataW.trod_bool hu h;simp only[beq_iff_eq] at hp;exact⟨Sn (c:=.val<|.bool b) (by simp only[Sh,hu];simp) (by simp[Zj]) rfl,by simp[hp]⟩
  |int k =>
    obtain⟨n,rfl,_,hw⟩:=DataW.trod_int hu h;simp only[beq_iff_eq] at hp;exact⟨Sn (c:=.val<|.int k n) (by simp only[Sh,hu];grind) (by simp[Zj]) rfl,by simp[hp]⟩
  |string =>
    obtain⟨b,rfl,_,hw⟩:=DataW.trod_string hu h;simp only[beq_iff_eq] at hp;refine⟨Sn (c:=.val<|.string b) ?_ (by simp[Zj]) rfl,by simp[hp]⟩;simp only[Sh,hu];exact⟨b.data.toList,by simp[Xr],by simpa using hw⟩
  |slice e =>
    simp only[Ku,beq_iff_eq,Nat.blt_eq] at hp;rcases DataW.trod_slice hu h with⟨rfl,_⟩|⟨a,len,cap,elems,rest,n,_,rfl,_,_,aq,an,ar,Z⟩
    ·refine⟨Sn (c:=.sl (P.cellsOf e) []) ?_ (by simp only[Zj];simp) rfl,zc⟩;simp only[Sh,hu];simp
    ·have ac:=Z.1
     have ak:∀i,i<len→∃(G:List Value) (cs:List PV),w.cells? 0 (a.add<|i*P.cellsOf e) (P.cellsOf e)=some G∧Sh P d e cs∧Ql φ R5 w M (cs.map .p) G∧(∀v∈G,v.oneCell'=true):=by
      intro i hi;have h1:elems[i]?=some elems[i]:=List.getElem?_eq_getElem zo;have h2:=ac i hi;rw[h1] at h2;obtain⟨G,h3,h4⟩:=Es.1 h2;obtain⟨⟨cs,g1,g2,g3⟩,_⟩:=ih _ e G _ hp.2 h4
      grind
     obtain⟨es,ai,hq⟩:=wZ (Q:=fun i cs=>∃G,w.cells? 0 (a.add<|i*P.cellsOf e) (P.cellsOf e)=some G∧Sh P d e cs∧Ql φ R5 w M (cs.map .p) G∧(∀v∈G,v.oneCell'=true)) len (fun i hi=>by
      grind)
     refine⟨Sn (c:=.sl (P.cellsOf e) es) ?_ ?_ rfl,by simp[hp.1.1]⟩
     ·simp only[Sh,hu];refine⟨es,rfl,by omega,fun x hx=>?_⟩;obtain⟨i,hi,rfl⟩:=List.getElem_of_mem hx;obtain⟨G,_,h2,_⟩:=hq i es[i]<|List.getElem?_eq_getElem hi;exact h2
     ·simp only[Zj];by_cases h0:len=0
      ·grind
      ·have J:a.spot=none:=by
        obtain⟨G,h1,_⟩:=hq 0 es[0]<|List.getElem?_eq_getElem zo;obtain⟨g1,g2⟩:=kJ h1;have h3:=g2 0 hp.1.2;simp only[Nat.zero_mul,add_zero] at h3;rw[List.getElem?_eq_getElem zo] at h3;exact cell?_spot h3
       obtain⟨ab,ao,am⟩:=a;simp only at J;subst J;refine .inl ⟨ab,ao,cap,by rw[ai],by omega,nk es ao fun i c hi=>?_⟩;obtain⟨G,h1,h2,h3,h4⟩:=hq i c hi;obtain⟨g1,g2⟩:=kJ h1;have al:=ZY h3;refine⟨zc,?_⟩;rw[LP]
       grind [Cn,wB,QcL,List.mem_of_getElem?]
  |struct U =>
    simp only[Ku] at hp;obtain⟨xs,n,_,_,Y,hx,ad⟩:=DataW.trod_struct hu h
    obtain⟨cs,g1,g2,g3⟩:=af U.toList 0 (P.cellsOf t) G Y hp.1 hp.2 (by
     intro f hf;obtain⟨i,hi,rfl⟩:=List.getElem_of_mem hf;have h1:U[i]?=some U.toList[i]:=by simp
     grind)
    simp only[List.drop_zero] at g2 g3;exact⟨⟨cs,by grind [Sh],g2,g3⟩,Y⟩
  |array n e =>
    simp only[Ku,beq_iff_eq] at hp;obtain⟨xs,m,_,_,Y,hx,ad⟩:=DataW.trod_array hu h
    obtain⟨cs,g1,g2,g3⟩:=ae e n 0 G zc hp.2 (by
     grind)
    simp only[Nat.zero_mul,List.drop_zero] at g2 g3;exact⟨⟨cs,by grind [Sh],g2,g3⟩,Y⟩
  |_=>cases hp
end
end Go.Abs
namespace Go.Abs
open Go Go.ChangeShapes Go.WideShapes Go.ChangeAt Go.RowKit
variable {base d:Nat}{e:TypeId}{f:FuncId}{fn:Func}{h':QY}{tb:TypeId}{v:Value}{w':World}{α:Type}{φ':Nat→Nat}
def QfP:List PV→AV|[c]=>.p c|cs=>ag cs
def rz(P:Program)(t:TypeId)(cs:List PV):AV :=
 match P.underlying t with
|some (.struct _)=>ag cs
|some (.array _ _)=>ag cs
|_=>QfP cs
def kK(P:Program)(d:Nat):List TypeId→List AV→Prop|[],G=>G=[]|t::ts,G=>∃cs r,G=rz P t cs::r∧Sh P d t cs∧kK P d ts r
section
variable {H:Type}{enc:TypeId×Value→H}{P:Program}{w:World}{φ:Nat→Nat}{M:ZR}
theorem QfQ(hM:∀r o,¬M r o){t:TypeId}{x:DataW H}{ps:List MemPlace}(hp:FK P d t=true)(Y:Value.okWide P w .any base t v)(h:DataW.Trod enc P w 0 (fun _=>true) true t v x ps):∃cs,Sh P d t cs∧Qf φ R5 w M (rz P t cs) v:=by
 obtain⟨J,h⟩:=h;obtain⟨⟨cs,h1,G,h3⟩,hl⟩:=QcM (φ:=φ) hM d J t _ _ hp h;refine⟨cs,h1,?_⟩;cases d with
|zero=>cases hp
|succ d =>
  unfold Value.okWide at Y;unfold rz;cases hu:P.underlying t with
 |none=>simp[FK,hu] at hp
 |some td =>
   rw[hu] at Y
   have one:(∀c,v≠.agg c)→P.cellsOf t=1→Qf φ R5 w M (QfP cs) v:=by
    intro Z hc;have e:v.cells=#[v]:=by cases v<;>first|rfl|exact absurd rfl (Z _)
    rw[e] at G
    match cs,G with
   |[c],G =>
     simp only[JR,List.map_nil,Ql] at G;obtain⟨y,ys,O,U,e3⟩:=G;simp at O;obtain⟨rfl,rfl⟩:=O;exact U
   |[],G=>simp[Ql] at G
   |_::_::_,G =>
     simp only[JR,Ql] at G;obtain⟨y,ys,O,_,z,zs,U,_⟩:=G;subst U;simp at O
   have agg:(∃c,v=.agg c)→Qf φ R5 w M (ag cs) v:=by
    rintro⟨c,rfl⟩;exact⟨c.toList,by simp,G⟩
   cases td with
  |bool =>
    simp only[FK,hu,beq_iff_eq] at hp;exact one (fun c hc=>by simp_all [Cell.okWide,Cell.ok]) hp
  |int k =>
    simp only[FK,hu,beq_iff_eq] at hp;exact one (fun c hc=>by simp_all [Cell.okWide,Cell.ok]) hp
  |string =>
    simp only[FK,hu,beq_iff_eq] at hp;exact one (fun c hc=>by simp_all [Cell.okWide,Cell.ok]) hp
  |slice e =>
    simp only[FK,hu,Ku,beq_iff_eq] at hp;exact one (fun c hc=>by simp_all [Cell.okWide,Cell.ok]) hp.1.1
  |struct fs =>
    grind
  |array n e =>
    grind
  |_=>grind [FK]
theorem nu(Y:∀r o,¬M r o){d base:Nat}:∀{ts:List TypeId} {J:List Value} {ds:List (DataW H)} {ps:List MemPlace},ts.all (FK P d)=true →
  (∀(j:Nat) t v,ts[j]?=some t→J[j]?=some v→Value.okWide P w .any base t v)→DataW.TrodAll enc P w 0 (fun _=>true) true ts J ds ps→∃G,kK P d ts G∧Ql φ R5 w M G J
|[],J,ds,ps,_,_,h=>by
  obtain⟨rfl,_,_⟩:=trodAll_nil h;exact⟨[],rfl,rfl⟩
|t::ts,J,ds,ps,hp,U,h=>by
  obtain⟨v,O,d',aa,p,q,rfl,rfl,rfl,h1,Z⟩:=trodAll_cons h;simp only[List.all_cons,Ku] at hp;obtain⟨cs,g1,g2⟩:=QfQ (φ:=φ) Y hp.1 (U 0 t v rfl rfl) h1;obtain⟨G,g3,g4⟩:=nu Y hp.2 (fun j t v a b=>U (j+1) t v zc<|zc) Z;exact⟨_,⟨cs,G,rfl,g1,g3⟩,v,O,rfl,g2,g4⟩
structure Over(w w':World):Prop where
 os:w'.os=w.os
 output:w'.output=w.output
 same:∀r,r<w.heap.size→w'.heap[r]?=w.heap[r]?
theorem xV{φ:Nat→Nat}{w:World}(E:Zi φ R5 w φ' h' w'):Over w w' :=
 ⟨E.os,E.output,fun r G=>E.same r G fun b hb=>absurd rfl hb⟩
theorem Over.kept{w:World}(o:Over w w')(G:MemPlace→Prop):w.keptBut w' G:=by
 refine⟨o.os,o.output,fun i hi=>?_⟩;rw[o.same i hi]
 grind
theorem Over.at{w:World}(o:Over w w'){p:MemPlace}(h:p.block<w.heap.size):w.sameAt w' p:=by
 cases p with
|cell b off=>simp only[World.sameAt,World.cell?];rw[o.same b h]
|map b=>exact o.same b h
theorem Over.frozen{w:World}(o:Over w w'){a:Addr}(h:a.block<w.heap.size):w'.frozen? a=w.frozen? a:=by
 simp only[World.frozen?];rw[o.same _ h]
theorem CG{w w':World}(O:laidOutB P=true){sp:Nat→Bool}(G:∀b,b<w.heap.size→sp b=true)(o:Over w w'):∀{ts:List TypeId} {J:List Value} {ds:List (DataW H)} {ps:List MemPlace},ts.all (fun t=>P.readableRec t&&Nat.blt t P.types.size)=true→(∀p∈ps,p.block<w.heap.size) →
  DataW.TrodAll enc P w 0 (fun _=>true) true ts J ds ps→DataW.TrodAll enc P w' 0 sp true ts J ds ps
|[],J,ds,ps,_,_,h=>by
  obtain⟨rfl,rfl,rfl⟩:=trodAll_nil h;exact rfl
|t::ts,J,ds,ps,hp,hb,h=>by
  obtain⟨v,Z,d',Y,p,q,rfl,rfl,rfl,h1,U⟩:=trodAll_cons h;simp only[List.all_cons,Ku,Nat.blt_eq] at hp;refine⟨p,q,Go.WideElems.Trod_stays O hp.1.1 hp.1.2 h1 (fun p hp=>o.at<|hb p<|by simp[hp]) (fun p hp=>G _<|hb p<|by simp[hp]),CG O G o zc (fun p hp=>hb p<|by simp[hp]) U,rfl⟩
theorem vK{s:ChangeSpec}{apart fresh handsOn again:Bool}(hl:laidOutB P=true)(Y:fn.params.toList.all (FK P d)=true)(O:fn.params.toList.all (fun t=>P.readableRec t&&Nat.blt t P.types.size)=true)(U:fn.resultTypes=#[tb])(ac:P.underlying tb=some .bool)(G:s.vars=[])(ae:∀ds:List (DataW H),ds.length=fn.params.size→s.fn H ds={ results:=[.lit<|.bool true],args:=ds }){W:World}{args:Array Value}{ds gs:List (DataW H)}{before:List MemPlace}(aa:∀(j:Nat) t v,fn.params[j]?=some t→args[j]?=some v→Value.okWide P W .any base t v)(hW:DataW.Whole enc P fn.params.toList s.vars apart W args.toList ds gs before)(hcall:∀J,kK P d fn.params.toList J→Ql (fun x=>x) R5 W (MM (fun x=>x) R5 fun _ _=>False) J args.toList→Zc P f J (.ret<|.p<|.val<|.bool true))(hg:bY W:=by exact trivial) :
  Calls P f args W fun e W'=>∃v,e=.returned v∧s.post enc P fn apart fresh handsOn again W args v W':=by
 have ab:=hW;obtain⟨p,q,hA,hV,rfl,ad,ah⟩:=hW;rw[G] at hV;obtain⟨rfl,rfl⟩:=trodVars_none hV
 have af:ds.length=fn.params.size:=by
  have:∀{ts:List TypeId} {vs:List Value} {ds:List (DataW H)} {ps:List MemPlace},DataW.TrodAll enc P W 0 (fun _=>true) true ts vs ds ps→ds.length=ts.length:=by
   intro ts
   induction ts with
  |nil=>intro vs ds ps h;obtain⟨_,rfl,_⟩:=trodAll_nil h;rfl
  |cons t ts ih=>intro vs ds ps h;obtain⟨v,aj,d',ai,p,q,rfl,rfl,rfl,h1,h2⟩:=trodAll_cons h;grind
  grind
 obtain⟨J,g1,g2⟩:=nu (φ:=fun x=>x) (M:=MM (fun x=>x) R5 fun _ _=>False) (base:=base) (fun r o h=>h.elim Jp id) Y
  (fun j t v a b=>aa j t v zc<|zc) hA
 have hc:=hcall J g1 g2 (fun x=>x) (fun _ _=>False) W args.toList (FE (fun _ _ h=>h.elim) hg fun _ _ _ h=>h) g2;simp only[Array.toArray_toList] at hc;refine hc.mono ?_;rintro e w' ⟨φ',r',h',⟨rfl,rfl⟩,ak,E,hv⟩;obtain⟨v,rfl,hv⟩:=hv;simp only[Qf,Zj] at hv;subst hv;have o:=xV E;have hlt:∀x∈p,x.block<W.heap.size:=fun x hx=>ab.lt x zc
 refine⟨_,rfl,?_⟩;have Z:s.fn H (ds++[])={ results:=[.lit<|.bool true],args:=ds }:=by grind
 have hr:∀(b:Nat) (sp:Nat→Bool) (hd:Bool),DataW.TrodAll enc P w' b sp hd fn.resultTypes.toList ((Value.bool true).resultList fn.resultTypes.size) [.lit<|.bool true] []:=fun b sp hd=>by
  rw[U];exact trodAll_cons_mk (shut_bool ac _) trodAll_mk0
 refine⟨ds,[],p++[],[],p,[],ab,zc,by rw[Z];exact CG hl (fun b hb=>by grind) o O hlt hA,by rw[Z,G];rfl,o.kept _,fun _=>?_⟩;refine⟨ok_one U rfl<|okWide_bool_mk ac _,[.lit<|.bool true]++ds,[],([]++p)++[],⟨[]++p,[],?_,?_,rfl,?_,?_⟩,?_⟩
 ·exact trodAll_append (CG hl (fun b hb=>rfl) o O hlt hA)<|hr _ _ _
 ·rw[G];rfl
 ·intro b off hp;rw[o.frozen<|by exact hlt (.cell b off)<|zc];exact ad b off zc
 ·assumption
 grind
theorem xW{s:ChangeSpec}{apart fresh handsOn again:Bool}(hl:laidOutB P=true)(J:fn.params.toList.all (FK P d)=true)(O:fn.params.toList.all (fun t=>P.readableRec t&&Nat.blt t P.types.size)=true)(aa:fn.resultTypes=#[tb])(ab:P.underlying tb=some .bool)(U:s.vars=[])(Y:∀ds:List (DataW H),ds.length=fn.params.size→s.fn H ds={ results:=[.lit<|.bool true],args:=ds })(hcall:∀G,kK P d fn.params.toList G→Zc P f G (.ret<|.p<|.val<|.bool true)){W:World}{args:Array Value}{ds gs:List (DataW H)}{before:List MemPlace}(Z:∀(j:Nat) t v,fn.params[j]?=some t→args[j]?=some v→Value.okWide P W .any base t v)(hW:DataW.Whole enc P fn.params.toList s.vars apart W args.toList ds gs before)(hg:bY W:=by exact trivial) :
  Calls P f args W fun e W'=>∃v,e=.returned v∧s.post enc P fn apart fresh handsOn again W args v W' :=
 vK hl J O aa ab U Y Z hW (fun G h _=>hcall G h) hg
end
def QfR(x:Int):Prop:=-9223372036854775808≤x∧x≤9223372036854775807
def Qli(l:List UInt8):Prop:=l.length≤maxLen
def Qh0{α:Type}(W:α→Prop)(l:List α):Prop:=l.length≤maxLen∧∀x∈l,W x
section
variable {P:Program}{d:Nat}{t:TypeId}{cs:List PV}
theorem Qi3(hu:P.underlying t=some (.int .i64))(h:Sh P (d+1) t cs):∃n,cs=[.val<|.int .i64 n]∧QfR n:=by
 simp only[Sh,hu] at h;obtain⟨n,rfl,hw⟩:=h;exact⟨n,rfl,by grind [Lit.wf,IntKind.min,IntKind.max,IntKind.signed,IntKind.bits,QfR]⟩
theorem Qi4(hu:P.underlying t=some .string)(h:Sh P (d+1) t cs):∃s:List UInt8,cs=[.val<|.string<|Xr s]∧Qli s:=by
 simp only[Sh,hu] at h;exact h
theorem QfS{S:Nat}{f:α→List PV}{W:α→Prop}(hu:P.underlying t=some (.slice e))(hS:P.cellsOf e=S)(O:∀c,Sh P d e c→∃r,c=f r∧W r)(h:Sh P (d+1) t cs) :
  ∃l:List α,cs=[.sl S<|List.map f l]∧Qh0 W l:=by
 simp only[Sh,hu] at h;obtain⟨es,rfl,J,G⟩:=h
 have:∃l:List α,es=List.map f l∧∀x∈l,W x:=by
  clear J
  induction es with
 |nil=>simp
 |cons e es U =>
   obtain⟨r,rfl,Y⟩:=O e<|G e zq;obtain⟨l,rfl,J⟩:=U (fun x h=>G x<|by simp[h]);exact⟨r::l,rfl,zc⟩
 obtain⟨l,rfl,hw⟩:=this;exact⟨l,by rw[hS],zc,hw⟩
theorem QcN{c:PV}(hu:P.underlying t=some .string):rz P t [c]=.p c:=by grind [rz,QfP]
theorem rA{c:PV}(hu:P.underlying t=some (.slice e)):rz P t [c]=.p c:=by grind [rz,QfP]
end
end Go.Abs
namespace Go.Abs
open Go
variable {D:DB}{K:St→Prop}{M M0:ZR}{N:Nat}{P:Program}{Q:AX→St→Prop}{T:Nat→Option AV}{a:Act}{args:List AV}{b:Nat}{c:Code}{ck:Nat}{dst:Option Tmp}{e:TypeId}{en:Array MapEntry}{α:Type}{enc:α→List PV}{es:List (Bool×List UInt8×AV)}{es':List (List PV)}{f:FuncId}{h:QY}{hi:Option Operand}{i id:Nat}{ix:Operand}{k0:Blk}{kt:TypeId}{l:List α}{len:Nat}{lo:Option Operand}{n nn:Nat}{o:Oper}{ops:Array Oper}{ro:Option Nat}{s s':St}{tk:Nat}{tx ty:TypeId}{v:Value}{w w':World}{x y:Operand}{z:Value}{φ:Nat→Nat}
section
variable {R:Type}{a:Option R}{P:Program}{N:Nat}{ops:Array Oper}{o:Oper}{l:List Oper}{acc:List YU}{s:St}{Q:R→AX→St→Prop}
theorem IC(hw:ZT ops o (look s.T)=some true)(hp:(plain o.op&&KL N o.dst)=true)(U:∀c,o.op≠.defer c)(h:∀φ M0 D O w,Zy φ M0 N D (look (mk ops o s true).T) (look s.H) O w→∃x s',look s'.T=look (mk ops o s true).T∧KX a P N ops Q false ((none,[])::acc) l (St.put s' o.dst x)∧Yield P o φ M0 (look s.H) O w x (look s'.H)):KX a P N ops Q false acc (o::l) s:=by
 simp only[Ku] at hp;refine⟨fun r Y=>?_⟩;show YG P N ops (Q r) (o::l) s;simp only[YG,hw,Z9,Pj hp.1];show H6 P N o _ _ _;unfold H6
 have key:lw P N o (mk ops o s true) (YG P N ops (Q r) l):=by
  refine⟨U,hp.2,fun φ M0 D O w G=>?_⟩
  ·obtain⟨x,s',h1,h2,Z⟩:=h φ M0 D O w G;exact⟨x,s',h1,h2.h r Y,Z⟩
 have hp:=hp.1;split
 ·rename_i J;rw[J] at hp;cases hp
 ·rename_i J;rw[J] at hp;cases hp
 ·rename_i J;rw[J] at hp;cases hp
 ·exact .inr key
theorem UO:KX (none:Option R) P N ops Q false acc l s:=⟨fun r G=>by cases G⟩
end
def O5(a b:List UInt8):Bool:=decide (a.length+b.length≤9223372036854775807)
theorem Sq{a b:List UInt8}(O:o.op=.binOp .add tx x y ty)(J:Zn T x=some (.p<|.val<|.string<|Xr a))(G:Zn T y=some (.p<|.val<|.string<|Xr b))(hc:O5 a b=true) :
  We P o T h=some (.p<|.val<|.string<|Xr<|a++b,none,[]):=by
 simp_all [O5,We,Ti,OW,xg,of_decide_eq_true,D7]
section
variable {φ:Nat→Nat}{M0:ZR}{h:QY}{w:World}
theorem lV{k1:Blk}(U:h b=some k0)(Y:k0.ob=some .mp)(aa:k1.ob=some .mp)(r:ZX φ h w M0)(O:∀h' M',(∀x o v,w.cell? ⟨x,o,none⟩=some v→¬MM φ h M0 x o→w.cell? ⟨x,o,none⟩=some v∧¬M' x o)→VF φ h w φ h' w→RelB φ h' w M' (φ b) k1) :
  ZX φ (upd h b k1) w M0∧Zi φ h w φ (upd h b k1) w∧VF φ h w φ (upd h b k1) w:=by
 have J:∀x o,Bv φ (upd h b k1) x o→Bv φ h x o:=by
  rintro x y ⟨d,q,g1,g2,g3⟩;by_cases e:b=d
  ·refine⟨b,_,U,zc,?_⟩;cases k0<;>first|trivial|cases Y
  ·exact⟨d,q,by grind [upd],g2,g3⟩
 have G:∀c k,h c=some k→k.ob=none→¬b=c:=fun c k hc hk e=>by grind
 have X:VF φ h w φ (upd h b k1) w:=by
  refine⟨fun c t q hc=>⟨⟨t,q,?_⟩,rfl⟩,fun c t S n hc=>⟨n,?_,KD _,fun _=>Ve rfl rfl⟩,fun c t S n hc=>⟨n,?_,KD _,fun _=>⟨rfl,fun c hc=>⟨c,hc,rfl⟩⟩⟩,fun c k x hc Z=>⟨?_,rfl⟩⟩
  ·simp[upd,G c _ hc rfl,hc]
  ·simp[upd,G c _ hc rfl,hc]
  ·simp[upd,G c _ hc rfl,hc]
  grind [upd]
 have E:Zi φ h w φ (upd h b k1) w :=
  ⟨rfl,rfl,rfl,KD _,fun _ _ _=>rfl,fun _ _ _ _=>rfl,fun x o _ hm=>J x o hm,
   fun c t cs _ hc=>⟨⟨cs,by simp[upd,G c _ hc rfl,hc]⟩,rfl⟩,fun c t S n _ hc=>X.t c t S n hc,fun c t S n _ hc=>X.v c t S n hc,fun c k x _ hc Z=>X.o c k x hc Z⟩
 have g:∀d,upd h b k1 d≠none→h d≠none:=fun d hd=>by
  grind [upd]
 refine⟨⟨fun c d hc hd e=>r.inj c d (g c hc) (g d hd) e,fun c q hc=>?_,fun c hc=>r.fr c<|g c hc,r.lt,r.gm.evol E⟩,E,X⟩;by_cases e:b=c
 ·subst e;have:q=k1:=by grind [upd]
  subst this;exact O _ _ (E.keeps M0) X
 ·have hc':h c=some q:=by grind [upd]
  exact Ke (E.keeps M0) X rfl<|r.blk c q hc'
end
def Zb(en:Array MapEntry)(i:Nat):Nat:=((en[i]?).map (·.born)).getD 0
theorem QcO:∀{l:List Nat},l.Pairwise (·<·)→l.Nodup:=fun h=>h.imp fun h=>Nat.ne_of_lt h
theorem QcP(h:es.all (·.1)=true):DZ es=es:=List.filter_eq_self.2 fun e G=>Fx.1 h e G
section
variable {R:Type}{a:Option R}{P:Program}{N:Nat}{ops:Array Oper}{o:Oper}{l:List Oper}{acc:List YU}{s:St}{Q:R→AX→St→Prop}
theorem QcQ{t m:Nat}(hw:ZT ops o (look s.T)=some true)(ho:o.op=.range t x)(ht:P.underlying t=some (.map kt e))(hd:KL N o.dst=true)(hx:Zn (look (mk ops o s true).T) x=some (.mv m))(hm:look s.H m=some (.mf es))(hb:look s.H b=none)(ae:(m==b)=false)(h:∀en ck,F4 en ck→KX a P N ops Q false ((none,[])::acc) l (St.put ⟨(mk ops o s true).T,(b,.it m ck #[])::(m,.mg en ck es)::s.H⟩ o.dst<|.iv b)):KX a P N ops Q false acc (o::l) s:=by
 refine IC hw (by rw[ho,hd];rfl) (fun c hc=>by grind) fun φ M0 D ac w r=>?_
 have ad:¬m=b:=by grind
 obtain⟨r1,E1,X1,hC⟩:=r.lift 1;obtain⟨en,ck,J,hk,hv,U⟩:=r1.hp.blk m _ hm;refine⟨.iv b,⟨(mk ops o s true).T,(b,.it m ck #[])::(m,.mg en ck es)::s.H⟩,rfl,h en ck U,?_⟩;have O:=r1.ev hx;simp only[Qf] at O;generalize Ym φ w.heap.size 1=G at r1 E1 X1 hC J hv O;obtain⟨H2,E2,X2⟩:=lV (k1:=.mg en ck es) hm rfl rfl r1.hp fun h' M' ab X=>⟨J,hk,(QV ab X).2 _ _ hv,U⟩
 have Y:Clear G (upd (look s.H) m<|.mg en ck es) w 1:=fun c hc=>hC c (by
  grind [upd])
 have aa:upd (look s.H) m (.mg en ck es) b=none:=by grind [upd]
 obtain⟨E3,X3⟩:=Uo (w':=w.alloc<|.mapIter (some<|G m) ck #[] ck) (o:=.mapIter (some<|G m) ck #[] ck) (b:=b) (k:=.it m ck #[]) (M0:=M0) rfl rfl rfl rfl aa H2 Y
 have Z:RelB (QL G b w.heap.size) (upd (upd (look s.H) m<|.mg en ck es) b<|.it m ck #[]) (w.alloc<|.mapIter (some<|G m) ck #[] ck) (MM (QL G b w.heap.size) (upd (upd (look s.H) m<|.mg en ck es) b<|.it m ck #[]) M0) w.heap.size (.it m ck #[]):=by
  refine⟨?_,.mg en ck es,by grind [upd],rfl⟩;have:QL G b w.heap.size m=G m:=by grind [QL]
  rw[this];show(w.heap.push _)[w.heap.size]?=_;simp
 refine⟨_,.pointer<|some ⟨w.heap.size,0,none⟩,_,QL G b w.heap.size,?_,.inl rfl,?_,Ur rfl aa H2 Y E3 X3 Z,E1.trans<|E2.trans E3,VF.trans (KD _) X1<|VF.trans (KD _) X2 X3⟩
 ·simp[execOp,ho,O.1,run_range_map w t kt e _ en ck ht J]
 ·simp only[Qf];exact⟨by simp[QL],.it m ck #[],by simp[look],rfl⟩
theorem WW{m:Nat}{sn:Array Nat}{k:List UInt8}{v:AV}(i:Nat)(hB:F4 en ck)(ho:o.op=.entry x)(O:es.all (·.1)=true)(hi:es[i]?=some (true,k,v))(h:KX a P N ops Q false ((none,[])::acc) l (St.put (mk ops o s true) o.dst<|.tup [.p<|.val<|BC k,v]))(hw:ZT ops o (look s.T)=some true:=by kernel_rfl)(hd:KL N o.dst=true:=by kernel_rfl)(hx:Zn (look (mk ops o s true).T) x=some (.iv b):=by kernel_rfl)(hb:look s.H b=some (.it m ck<|sn.push<|Zb en i):=by kernel_rfl)(hm:look s.H m=some (.mg en ck es):=by kernel_rfl):KX a P N ops Q false acc (o::l) s:=by
 refine IC hw (by rw[ho,hd];rfl) (fun c hc=>by grind) fun φ M0 D ac w r=>⟨_,mk ops o s true,rfl,h,?_⟩
 obtain⟨h1,_⟩:=r.hp.blk b _ hb;obtain⟨h2,Z,hv,_⟩:=r.hp.blk m _ hm;rw[QcP O] at Z hv;have hlt:i<es.length:=(wB.1 hi).1;have ab:en.toList.length=es.length:=by simpa using congrArg List.length Z
 have U:en.toList[i]?=some (en.toList[i]'zo):=List.getElem?_eq_getElem _;generalize en.toList[i]'zo=e at U;have G:en[i]?=some e:=by grind
 have Y:Zb en i=e.born:=by simp[Zb,G]
 rw[Y] at h1;have J:=r.ev hx;simp only[Qf] at J
 have aa:e.key=BC k:=by
  have:=congrArg (·[i]?) Z
  grind
 refine Qu r (v:=.tuple #[e.key,e.val]) ?_ ?_
 ·simp[execOp,ho,J.1,run_entry_at w _ _ _ _ en ck e h1 h2 (List.mem_of_getElem? U)<|QcO hB.1]
 ·simp only[Qf];refine⟨[e.key,e.val],by simp,_,_,rfl,?_,_,_,rfl,?_,rfl⟩
  ·assumption
  ·exact BV (i:=i) hv zc zc
end
def bK{R:Type}(F:Option R)(t:Option R→Option R):Prop:=(∀q,t q=q)∨(∀q,t q=none)∨(∀q,t q=F)
theorem Qi5{R:Type}{F:Option R}:bK F (fun q=>q):=.inl fun _=>rfl
theorem Qlj{R:Type}{F:Option R}:bK F (fun _=>F):=.inr<|.inr fun _=>rfl
theorem ny{R:Type}{F:Option R}:bK F (fun _=>none):=.inr<|.inl fun _=>rfl
theorem QcR{R:Type}{F:Option R}{b:Bool}{x y:Option R→Option R}(G:bK F x)(J:bK F y):bK F (fun q=>cond b (x q)<|y q):=by cases b<;>assumption
theorem QcS{R V:Type}{F:Option R}{m:Option V}{x:V→Option R→Option R}(G:∀v,bK F (x v)):bK F (fun q=>m.bind fun v=>x v q):=by
 cases m with
|none=>exact ny
|some v=>exact G v
def rC{R:Type}(F D:Option R)(ts:List (Option R→Option R)):Option R:=if ts.all (fun t=>(t F).isSome) then ts.foldr (fun t q=>t q) D else none
theorem w9{R:Type}{F D:Option R}{r:R}:∀{ts:List (Option R→Option R)},(∀t∈ts,bK F t)→(∀t∈ts,(t F).isSome=true)→ts.foldr (fun t q=>t q) D=some r →
  (D=some r∧∀t∈ts,∀q,t q=q)∨F=some r
|[],_,_,h=>.inl ⟨h,fun _ O=>by cases O⟩
|t::ts,J,hS,h=>by
  rw[List.foldr_cons] at h;rcases J t zq with G|G|G
  ·rw[G] at h;rcases w9 (fun u hu=>J u (by simp[hu])) (fun u hu=>hS u (by simp[hu])) h with⟨U,Y⟩|U
   ·simp_all
   grind
  ·grind
  grind
theorem lW{R:Type}{D:Option R}:∀{ts:List (Option R→Option R)},(∀t∈ts,∀q,t q=q)→ts.foldr (fun t q=>t q) D=D
|[],_=>rfl
|t::ts,h=>by rw[List.foldr_cons,h t zq];exact lW fun u hu=>h u (by simp[hu])
theorem rD{R:Type}{F D:Option R}{r:R}{ts:List (Option R→Option R)}(G:∀t∈ts,bK F t)(h:rC F D ts=some r) :
  (∀t∈ts,(∀q,t q=q)∨∀q,t q=some r)∧((∀t∈ts,∀q,t q=q)→D=some r):=by
 unfold rC at h;split at h;rotate_left
 ·cases h
 rename_i hS;have hS:∀t∈ts,(t F).isSome=true:=Fx.1 hS;have U:=w9 G hS h;constructor
 ·intro t Y;rcases G t Y with J|J|J
  ·grind
  ·grind
  ·rcases U with⟨_,O⟩|O
   ·simp_all
   grind
 ·intro hid
  simp_all [lW]
structure Nx{R:Type}(N:Nat)(q:Option R)(S:St)(Q Qn:R→AX→St→Prop):Prop where
 n:∀r s',q=some r→Weak N s' S→Qn r .normal s'
 x:∀r e s',e≠.normal→Q r e s'→Qn r e s'
section
variable {R:Type}{o:Option R}{P:Program}{N:Nat}{q:Option R}{S s:St}{Q Qn:R→AX→St→Prop}
theorem IE(J:Nx N q S Q Qn)(K:LB)(h:R7 K s=some S:=by kernel_rfl):ZK q Qn .normal s:=⟨fun r G=>J.n r s G<|Rt h⟩
theorem QnA(G:Nx N q S Q Qn)(h:ZK o Q (.exit i) s):ZK o Qn (.exit i) s:=⟨fun r J=>G.x r _ s zq<|h.h r J⟩
theorem kL{v:AV}(J:Nx N q S Q Qn)(h:ZK o Q (.panic v) s):ZK o Qn (.panic v) s:=⟨fun r G=>J.x r _ s zq<|h.h r G⟩
end
theorem QaG(J:look s'.T=look s.T)(G:look s'.H=look s.H):Weak N s s':=fun φ M0 D a w r=>⟨φ,zc,by grind [Zi.refl]⟩
def kM(en:Array MapEntry)(sn:Array Nat):Nat:=(leftOf en sn).size
theorem QaH{sn:Array Nat}{e:MapEntry}(G:e∈(leftOf en sn).toList):kM en (sn.push e.born)<kM en sn:=by
 have J:∀sn:Array Nat,kM en sn=(en.toList.filter fun x=>!sn.contains x.born).length:=fun sn=>by
  unfold kM leftOf;rw[←Array.toList_filter,Array.length_toList]
 unfold leftOf at G;rw[Array.toList_filter] at G;rw[J,J]
 have O:(en.toList.filter fun x=>!(sn.push e.born).contains x.born)=(en.toList.filter fun x=>!sn.contains x.born).filter fun x=>!(x.born==e.born):=by
  grind [List.filter_filter,Array.contains_push]
 rw[O];generalize (en.toList.filter fun x=>!sn.contains x.born)=L at G ⊢;exact List.length_filter_lt_length_iff_exists.2 ⟨e,G,by simp⟩
section
variable {R:Type}{P:Program}{N:Nat}{ro:Option Nat}{n:Nat}{ops:Array Oper}{o:Oper}{l:List Oper}{B:Code}{s0:St}{Q:R→AX→St→Prop}{x:Operand}
def RB(b m ck:Nat)(sn:Array Nat)(s:St):St:=Qi1 b (.it m ck sn) s
theorem QaI{m:Nat}{F D:Option R}(ts:List (Option R→Option R))(hB:F4 en ck)(ak:ops.toList=o::l)(ho:o.op=.next x false)(hw:ZT ops o (look s0.T)=some true)(hd:KL N o.dst=true)(hT:Zn (look<|ZE ops o s0.T true) x=some (.iv b))(ao:look s0.H b=some (.it m ck #[]))(av:look s0.H m=some (.mg en ck es))(ab:(m==b)=false)(J:es.all (·.1)=true)(a7:ts.length=es.length)(hC:∀t∈ts,bK F t)(O:∀(sn:Array Nat) (Qn:R→AX→St→Prop),Nx N (none:Option R) s0 Q Qn→KX D P N ops (vH P N ro B Qn) false [(none,[])] l (St.put (mk ops o (RB b m ck sn s0) true) o.dst<|.tup [.p<|.val<|.bool false]))(ai:∀(i:Nat) (t:Option R→Option R) (k:List UInt8) (v:AV),ts[i]?=some t→es[i]?=some (true,k,v)→∀(sn:Array Nat) (q:Option R) (Qn:R→AX→St→Prop),Nx N q (RB b m ck (sn.push<|Zb en i) s0) Q Qn→KX (t q) P N ops (vH P N ro B Qn) false [(none,[])] l (St.put (mk ops o (RB b m ck (sn.push<|Zb en i) s0) true) o.dst<|.tup [.p<|.val<|.bool true,.p<|.val<|BC k,v])) :
  QZ (rC F D ts) P N ro (.loop<|.seq (.region n ops false) B) s0 Q:=by
 refine⟨fun r hr=>?_⟩;obtain⟨c1,c2⟩:=rD hC hr;have ab:¬m=b:=by grind
 let good:Nat→Prop:=fun i=>∃t,ts[i]?=some t∧∀q,t q=q
 let ι:={ sn:Array Nat // ∀y∈sn.toList,∃i,good i∧y=Zb en i }
 have G:∀sn,look (RB b m ck sn s0).H=upd (look s0.H) b (.it m ck sn):=fun sn=>by funext c;exact IB s0.H c ao
 refine Qci (fun j:ι=>RB b m ck j.1 s0) (fun j:ι=>kM en j.1) ⟨#[],fun y hy=>by simp at hy⟩ (QaG rfl ?_) ?_
 ·rw[G]
  grind [upd]
 rintro⟨sn,ax⟩ K hK
 have key:QZ (some r) P N ro (.seq (.region n ops false) B) (RB b m ck sn s0) (fun r' e s'=>r'=r→andThen K (Q r) e s'):=by
  refine sS<|sG ?_;rw[ak];refine IC hw (by rw[ho,hd];rfl) (fun c hc=>by grind) fun φ M0 D' ac w Z=>?_
  have U:look (RB b m ck sn s0).H b=some (.it m ck sn):=by rw[G];simp[upd]
  have ay:look (RB b m ck sn s0).H m=some (.mg en ck es):=by rw[G];simp[upd,Ne.symm ab,av]
  obtain⟨h1,hq⟩:=Z.hp.blk b _ U;obtain⟨h2,hk,hv,_⟩:=Z.hp.blk m _ ay;rw[QcP J] at hk hv;have bb:en.toList.length=es.length:=by simpa using congrArg List.length hk
  have ah:=Z.ev (x:=x) (v:=.iv b) hT;simp only[Qf] at ah;rcases run_next_at (P:=P) w o.type (φ b) (φ m) ck ck sn en ck h1 h2 hB.2 (KD _) with⟨g1,g2⟩|⟨e,g1,w1,g2,g3⟩
  ·
   have hD:D=some r:=by
    refine c2 fun t ht=>?_
    obtain⟨i,hi⟩:=List.getElem?_of_mem ht;have hlt:i<en.toList.length:=by grind
    have aa:(en.toList[i]).born∈sn.toList:=by
     have h5:en.toList[i]∈en.toList:=List.getElem_mem _;apply Classical.byContradiction;intro ba
     have:en.toList[i]∈(leftOf en sn).toList:=by
      grind [leftOf]
     grind
    obtain⟨j,⟨t',ae,hid⟩,hj⟩:=ax _ aa;have am:j<en.toList.length:=by grind
    have au:Zb en j=(en.toList[j]).born:=by
     grind [Zb]
    rw[au] at hj
    have aw:i=j:=by
     have hp:=List.pairwise_iff_getElem.1 hB.1;have h8:i<(en.toList.map (·.born)).length:=by simpa using hlt
     have h9:j<(en.toList.map (·.born)).length:=by simpa using am
     rcases Nat.lt_trichotomy i j with h|h|h
     ·have:=hp i j h8 h9 h;rw[List.getElem_map,List.getElem_map] at this;omega
     ·exact h
     ·have:=hp j i h9 h8 h;rw[List.getElem_map,List.getElem_map] at this;omega
    subst aw;rw[hi] at ae;cases ae;exact hid
   refine⟨.tup [.p<|.val<|.bool false],mk ops o (RB b m ck sn s0) true,rfl,?_,?_⟩
   ·have:=O sn (fun r' e s'=>r'=r→andThen K (Q r) e s') ⟨fun _ _ h=>(by cases h),fun r' e s' ar h Y=>(by
     subst Y;cases e with
    |normal=>grind
    |_=>exact h)⟩
    grind
   ·refine Qu Z (v:=.tuple #[.bool false]) ?_ ?_
    ·simp_all [execOp]
    ·simp only[Qf];exact⟨[.bool false],rfl,_,_,rfl,by rfl,rfl⟩
  ·obtain⟨i,hi⟩:=List.getElem?_of_mem ((by simpa [leftOf] using g1:e∈en.toList∧_).1);have hlt:i<en.toList.length:=(wB.1 hi).1;obtain⟨t,ht⟩:∃t,ts[i]?=some t:=⟨_,List.getElem?_eq_getElem zo⟩;obtain⟨⟨fl,k,v⟩,he⟩:∃q,es[i]?=some q:=⟨_,List.getElem?_eq_getElem zo⟩;have az:fl=true:=Fx.1 J _<|List.mem_of_getElem? he;subst az;have ad:en[i]?=some e:=by grind
   have a6:Zb en i=e.born:=by simp[Zb,ad]
   have a8:e.key=BC k:=by
    have:=congrArg (·[i]?) hk
    grind
   obtain⟨q,Po,Dw⟩:∃q:Option R,t q=some r∧(q=none∨∀q,t q=q):=by
    rcases c1 t (List.mem_of_getElem? ht) with h|h
    ·simp_all
    grind
   refine⟨.tup [.p<|.val<|.bool true,.p<|.val<|BC k,v],mk ops o (RB b m ck (sn.push<|Zb en i) s0) true,rfl,?_,?_⟩
   ·have:=ai i t k v ht he sn q (fun r' e s'=>r'=r→andThen K (Q r) e s') ⟨fun r' s' h3 h4 h5=>(by
      rcases Dw with rfl|hid
      ·cases h3
      ·refine hK s' ⟨⟨sn.push<|Zb en i,fun y hy=>?_⟩,?_,h4⟩
       ·grind
       ·show kM en (sn.push<|Zb en i)<kM en sn
        simp_all [QaH]),fun r' e s' ar h Y=>(by
     subst Y;cases e with
    |normal=>grind
    |_=>exact h)⟩
    grind
   ·have E0:Zi φ (look (RB b m ck sn s0).H) w φ (look (RB b m ck sn s0).H) w1:=by
     rcases g2 with rfl|rfl
     ·exact Zi.refl _ _ _
     ·exact T9 rfl rfl rfl rfl
    have X0:VF φ (look (RB b m ck sn s0).H) w φ (look (RB b m ck sn s0).H) w1:=by
     rcases g2 with rfl|rfl
     ·exact VF.refl _ _ _
     ·exact LM rfl
    have af:ZX φ (look (RB b m ck sn s0).H) w1 M0:=by
     rcases g2 with rfl|rfl
     ·exact Z.hp
     ·exact Nr (w:=w) (w':=w.drew) rfl E0 Z.hp
    have al:w1.heap[φ b]?=some (.mapIter (some<|φ m) ck sn ck):=by rcases g2 with rfl|rfl<;>exact h1
    obtain⟨E,X⟩:=EL (k1:=.it m ck<|sn.push e.born) (ob:=.mapIter (some<|φ m) ck (sn.push e.born) ck) U rfl rfl af
    have an:look (mk ops o (RB b m ck (sn.push<|Zb en i) s0) true).H=upd (look (RB b m ck sn s0).H) b (.it m ck<|sn.push e.born):=by
     show look (RB b m ck (sn.push<|Zb en i) s0).H=_;rw[G,G,a6]
     grind [upd]
    rw[an]
    have aj:RelB φ (upd (look (RB b m ck sn s0).H) b<|.it m ck<|sn.push e.born) (w1.putObj (φ b)<|.mapIter (some<|φ m) ck (sn.push e.born) ck) (MM φ (upd (look (RB b m ck sn s0).H) b<|.it m ck<|sn.push e.born) M0) (φ b) (.it m ck<|sn.push e.born) :=
     ⟨World.putObj_heap_same (AY.1 al).1,.mg en ck es,by grind [upd],rfl⟩
    have aq:=(QV (E.keeps M0) X).2 _ _ ((QV (E0.keeps M0) X0).2 _ _ hv);refine⟨_,.tuple #[.bool true,e.key,e.val],w1.putObj (φ b)<|.mapIter (some<|φ m) ck (sn.push e.born) ck,φ,?_,.inl rfl,?_,qj U rfl rfl af aj,E0.trans E,VF.trans E0.size X0 X⟩
    ·simp[execOp,ho,ah.1,g3];rfl
    ·simp only[Qf];refine⟨[.bool true,e.key,e.val],rfl,_,_,rfl,by rfl,_,_,rfl,by assumption,_,_,rfl,?_,rfl⟩;exact BV (i:=i) aq zc zc
 exact qi (key.h r rfl) fun e s' h=>h rfl
def P7{R:Type}(f:Nat→(Option R→Option R)→List UInt8→AV→Prop):Nat→List (Option R→Option R)→List (Bool×List UInt8×AV)→Prop|i,t::ts,e::es=>f i t e.2.1 e.2.2∧P7 f (i+1) ts es|_,_,_=>True
theorem QfT{R:Type}{f:Nat→(Option R→Option R)→List UInt8→AV→Prop}:P7 f i [] es:=by simp[P7]
theorem WX{R:Type}{f:Nat→(Option R→Option R)→List UInt8→AV→Prop}{t:Option R→Option R}{ts:List (Option R→Option R)}{e:Bool×List UInt8×AV}(h:f i t e.2.1 e.2.2)(hs:P7 f (i+1) ts es):P7 f i (t::ts) (e::es):=⟨h,hs⟩
theorem lX{R:Type}{f:Nat→(Option R→Option R)→List UInt8→AV→Prop}:∀{ts:List (Option R→Option R)} {es:List (Bool×List UInt8×AV)} {j i:Nat} {t:Option R→Option R} {e:Bool×List UInt8×AV},P7 f j ts es→ts[i]?=some t→es[i]?=some e→f (j+i) t e.2.1 e.2.2
|[],_,_,_,_,_,_,h,_=>by simp at h
|_::_,[],_,_,_,_,_,_,h=>by simp at h
|t0::ts,O::es,j,0,t,e,h,G,J=>by
  simp only[List.getElem?_cons_zero,ZA] at G J;subst G J;exact h.1
|t0::ts,O::es,j,i+1,t,e,h,G,J=>by
  have:=lX h.2 (by simpa using G) (by simpa using J) (i:=i)
  grind
theorem QcT{R:Type}{F:Option R}:∀t∈([]:List (Option R→Option R)),bK F t:=fun _ h=>by cases h
theorem QaJ{R:Type}{F:Option R}{t:Option R→Option R}{ts:List (Option R→Option R)}(h:bK F t)(hs:∀u∈ts,bK F u):∀u∈t::ts,bK F u:=fun u hu=>by
 grind
theorem rE{m:Nat}{F D:Option R}(ts:List (Option R→Option R))(hB:F4 en ck)(Y:ops.toList=o::l)(ho:o.op=.next x false)(hw:ZT ops o (look s0.T)=some true)(hd:KL N o.dst=true)(hT:Zn (look<|ZE ops o s0.T true) x=some (.iv b))(aa:look s0.H b=some (.it m ck #[]))(Z:look s0.H m=some (.mg en ck es))(ab:(m==b)=false)(U:es.all (·.1)=true)(J:ts.length=es.length)(hC:∀t∈ts,bK F t)(G:∀(sn:Array Nat) (Qn:R→AX→St→Prop),Nx N (none:Option R) s0 Q Qn→KX D P N ops (vH P N ro B Qn) false [(none,[])] l (St.put (mk ops o (RB b m ck sn s0) true) o.dst<|.tup [.p<|.val<|.bool false]))(O:P7 (fun i t k v=>∀(sn:Array Nat) (q:Option R) (Qn:R→AX→St→Prop),Nx N q (RB b m ck (sn.push<|Zb en i) s0) Q Qn→KX (t q) P N ops (vH P N ro B Qn) false [(none,[])] l (St.put (mk ops o (RB b m ck (sn.push<|Zb en i) s0) true) o.dst<|.tup [.p<|.val<|.bool true,.p<|.val<|BC k,v])) 0 ts es) :
  QZ (rC F D ts) P N ro (.loop<|.seq (.region n ops false) B) s0 Q :=
 QaI ts hB Y ho hw hd hT aa Z ab U J hC G fun i t k v h1 h2=>by
  have:=lX O h1 h2
  grind
end
section
variable {R:Type}{a:Option R}{P:Program}{N:Nat}{ops:Array Oper}{o:Oper}{l:List Oper}{acc:List YU}{s:St}{Q:R→AX→St→Prop}
def Qi6(P:Program)(T:Nat→Option AV)(h:QY)(t:TypeId)(x ix y:Operand):Kv:=(XW P T h t x ix y).getD (.p<|.val undef,none,[])
theorem kN{t:TypeId}(hw:ZT ops o (look s.T)=some true)(U:o.op=.insert t x ix y)(Y:KL N o.dst=true)(hu:(XW P (look (mk ops o s true).T) (look s.H) t x ix y).isSome=true)(h:KX a P N ops Q false ((none,[])::acc) l (Uu (mk ops o s true) o.dst<|Qi6 P (look (mk ops o s true).T) (look s.H) t x ix y)):KX a P N ops Q false acc (o::l) s:=by
 refine IC hw (by rw[U,Y];rfl) (fun c hc=>by grind) fun φ M0 D ac w r=>?_
 obtain⟨u,hu⟩:=TZ.1 hu;have e:Qi6 P (look (mk ops o s true).T) (look s.H) t x ix y=u:=by grind [Qi6]
 rw[e] at h;have J:=Ov (o:={ o with op:=.mapUpdate t x ix y }) r rfl hu;obtain⟨v,q,m⟩:=u;cases q with
|none=>exact⟨v,mk ops o s true,rfl,(show Uu (mk ops o s true) o.dst (v,none,m)=St.put (mk ops o s true) o.dst v by cases o.dst<;>rfl)▸h,by
   obtain⟨G,v',w',φ',Z,O⟩:=J;exact⟨G,v',w',φ',by grind [execOp],O⟩⟩
|some q =>
  obtain⟨b,k⟩:=q
  exact⟨v,⟨(mk ops o s true).T,(b,k)::s.H⟩,rfl,(show Uu (mk ops o s true) o.dst (v,some (b,k),m)=St.put ⟨(mk ops o s true).T,(b,k)::s.H⟩ o.dst v by cases o.dst<;>rfl)▸h,by
   obtain⟨G,v',w',φ',Z,O⟩:=J;refine⟨G,v',w',φ',by grind [execOp],?_⟩
   grind [look,ap,QbO]⟩
end
section
variable {P:Program}{ops:Array Oper}{Q:Exit→Act→World→Prop}{k:Nat}{ok:Oper}
theorem QaK(h:qw k ops=true)(hq:¬LetsOut Q)(hp:∀c a w v,Q (.panic c) (a.put ((ops[k]?).bind (·.dst)) v) w→Q (.panic c) a w)(hh:wpAny P .any (Ux k ops) Q (Ux k ops).size (Array.replicate (Ux k ops).size false) a w) :
  wpAny P .any ops Q ops.size (Array.replicate ops.size false) a w:=by
 unfold qw at h;cases hk:ops[k]? with
|none=>grind
|some ok =>
  rw[hk] at h;simp only[Ku] at h;obtain⟨⟨⟨af,ab⟩,ad⟩,ah⟩:=h;have ae:k<ops.size:=(AY.1 hk).1;rw[cK hk] at hh;obtain⟨n,Y⟩:∃n,ops.size=n+1:=⟨ops.size-1,by omega⟩
  have O:∃x,ok.op=.move x∧ok.guard=none:=by
   grind [d9]
  obtain⟨x,ac,U⟩:=O
  have J:∀w,(execOp a.eval ok).run P w=.ok (.value<|a.eval x) w:=by
   simp_all [execOp]
  have hy:Yields P ops ok (a.eval x) a:=.inl ⟨by simp[Region.wanted,U],J⟩
  have Z:(0:Nat)∈Region.ready .any (Ux k ops) (Array.replicate (n+1) false):=by
   simp_all [mem_ready,PW]
  have aa:k∈Region.ready .any ops (Array.replicate (n+1) false):=by
   rw[mem_ready];refine⟨by simp_all,ok,hk,fun e he hb=>?_⟩
   grind
  rw[Y] at hh ⊢;have G:=hh.2 0 Z;unfold wpOp at G;rw[PW hk] at G;simp only[Region.wanted,U,if_true] at G
  have h3:wpAny P .any (Ux k ops) Q n ((Array.replicate (n+1) false).setIfInBounds 0 true) (a.put ok.dst<|a.eval x) w:=by
   rcases G with G|⟨_,G⟩
   ·unfold Oper.wp at G;rw[show ∀g,execOp a.eval { dst:=ok.dst,op:=ok.op,type:=ok.type,pos:=ok.pos,after:=#[],guard:=g }=execOp a.eval ok from fun _=>rfl,J w] at G;exact G
   grind
  have h4:wpAny P .any ops Q n ((Array.replicate (n+1) false).setIfInBounds k true) (a.put ok.dst (a.eval x)) w:=by
   refine cO hk n _ _ _ w (by simp[Y]) (by simp[Y]) zq ?_ ?_ h3
   ·simp_all
   ·intro i hi;rw[getD_set_ne false (Qcx hi).symm,getD_set_ne false (Ne.symm hi)];simp[Array.getElem?_replicate]
    grind
  grind [wpAny_first,Region.noSelect_spec,Region.free_spec]
end
def TA(d:Option Tmp)(s:St):St:=⟨s.T.filter fun p=>some p.1 != d,s.H⟩
theorem Dt{d:Option Tmp}{t:Nat}{x:AV}:∀{T:List (Nat×AV)},look (T.filter fun p=>some p.1 != d) t=some x→look T t=some x∧d≠some t
|[],h=>by cases h
|(c,y)::T,h=>by
  by_cases e:some c=d
  ·have hf:((c,y)::T).filter (fun p=>some p.1 != d)=T.filter fun p=>some p.1 != d:=by simp[e]
   rw[hf] at h;have J:=Dt h
   grind [look]
  ·have hf:((c,y)::T).filter (fun p=>some p.1 != d)=(c,y)::T.filter fun p=>some p.1 != d:=by simp[e]
   rw[hf] at h;simp only[look] at h ⊢;by_cases G:c=t
   ·grind
   ·simp only[G,if_false] at h ⊢;exact Dt h
def qd{R:Type}(d:Option Tmp)(Q:R→AX→St→Prop):R→AX→St→Prop:=fun r x s=>match x with|.normal=>Q r .normal s|.panic v=>Q r (.panic v) (TA d s)|_=>False
theorem QcU{d:Option Tmp}(r:Zy φ M0 N D (look s.T) (look s.H) (a.put d v) w):Zy φ M0 N D (look (TA d s).T) (look (TA d s).H) a w:=by
 cases d with
|none =>
  refine⟨r.dfs,r.siz,r.hp,fun t x G=>r.tm t x (Dt G).1⟩
|some d =>
  refine⟨r.dfs,by have:=r.siz;grind [Act.put],r.hp,fun t x G=>?_⟩;obtain⟨O,U⟩:=Dt G;have J:=r.tm t x O;have:d≠t:=fun e=>U (by rw[e])
  have e:(a.put (some d) v).tmps.getD t undef=a.tmps.getD t undef:=by simp_all [Act.put]
  rw[e] at J;exact J
theorem QaL{d:Option Tmp}(r:Zy φ M0 N D (look s.T) (look s.H) a w):Zy φ M0 N D (look (TA d s).T) (look (TA d s).H) a w :=
 ⟨r.dfs,r.siz,r.hp,fun t x G=>r.tm t x (Dt G).1⟩
theorem drop_drop(d:Option Tmp)(s:St):TA d (TA d s)=TA d s:=by simp[TA]
theorem QcV{R:Type}{G:R}{Q:R→AX→St→Prop}(k:Nat)(Y:P.follows .mixedOrders=true)(J:Fb ops=true)(hf:qw k ops=true)(h:Ya P N (Ux k ops) (qd ((ops[k]?).bind (·.dst)) Q G) (Ux k ops).toList [] s):Ex P N ro (.region id ops true) s (Q G):=by
 intro φ M0 D a w r;refine wpIn_region_any Y<|PR J JC _ _ _ _ ?_;have O:=zG h r
 have U:=QaK hf JC (fun c a' w' v hc=>by
  obtain⟨φ',x,s',g1,g2,g3,g4⟩:=hc;cases x with
 |normal=>cases g4
 |exit i=>cases g4
 |ret=>cases g4
 |panic u =>
   refine⟨φ',.panic u,TA ((ops[k]?).bind (·.dst)) s',?_,QcU g2,g3,g4⟩;show Q G (.panic u) (TA _<|TA _ s');rw[drop_drop];exact g1) O
 refine Tv ?_ _ _ _ _ U;rintro e a' w' ⟨φ',x,s',g1,g2,g3,g4⟩;cases x with
|normal=>exact⟨φ',.normal,s',g1,g2,g3,g4⟩
|exit i=>exact g1.elim
|ret=>exact g1.elim
|panic v=>exact⟨φ',.panic v,TA ((ops[k]?).bind (·.dst)) s',g1,QaL g2,g3,g4⟩
section
variable {R:Type}{a:Option R}{P:Program}{N:Nat}{ro:Option Nat}{id:Nat}{ops:Array Oper}{s s':St}{Q:R→AX→St→Prop}{d:Option Tmp}{v:AV}
theorem QcW(k:Nat)(J:P.follows .mixedOrders=true)(O:Fb ops=true)(hf:qw k ops=true)(h:KX a P N (Ux k ops) (qd ((ops[k]?).bind (·.dst)) Q) true [] (Ux k ops).toList s):QZ a P N ro (.region id ops true) s Q:=⟨fun r G=>QcV k J O hf<|h.h r G⟩
theorem QnB(h:ZK a Q .normal s):ZK a (qd d Q) .normal s:=⟨fun r G=>h.h r G⟩
theorem QnC(e:TA d s=s')(h:ZK a Q (.panic v) s'):ZK a (qd d Q) (.panic v) s:=by
 subst e;exact⟨fun r G=>h.h r G⟩
end
abbrev FV:=Fn×Array Value×Array Value
def fv(x:FV):Value:=.func x.1 x.2.1 x.2.2
def isFn:Option AV→Bool|some (.fn _ _ _)=>true|_=>false
theorem nA{o:Option AV}(J:isFn o=true):∃x,o=some x∧∀v,Qf φ h w M x v→∃u:FV,v=fv u:=by
 match o,J with
|some (.fn f a b),_ =>
  refine⟨_,rfl,fun v G=>?_⟩;simp only[Qf] at G;obtain⟨l,m,rfl,_⟩:=G;exact⟨(f,l.toArray,m.toArray),rfl⟩
theorem Sr{R:Type}{a:Option R}{Q:R→AX→St→Prop}(b k:Nat)(hb:isFn (cellAt b k s)=true)(h:∀u:FV,QZ a P N ro c (Gl b k (.p<|.val<|fv u) s) Q):QZ a P N ro c s Q:=by
 refine⟨fun r U=>?_⟩;intro φ M0 D O w r1;obtain⟨y,hy,G⟩:=nA (φ:=φ) (h:=look s.H) (w:=w) (M:=MM φ (look s.H) M0) hb;obtain⟨gp,cs,J,Dw⟩:=FJ hy;obtain⟨c1,g1,g2⟩:=r1.hp.blk b _ J;obtain⟨u,g3,g4⟩:=GZ g2 Dw;obtain⟨u,rfl⟩:=G u g4;have hU:look (Gl b k (.p<|.val<|fv u) s).H=upd (look s.H) b (.box gp<|cs.set k<|.p<|.val<|fv u):=Si J
 have Y:Zy φ M0 N D (look (Gl b k (.p<|.val<|fv u) s).T) (look (Gl b k (.p<|.val<|fv u) s).H) O w:=by
  rw[hU];refine qy r1 J fun c2 Z=>?_
  grind [Qf,Zj,U4]
 have E1:Zi φ (look s.H) w φ (look (Gl b k (.p<|.val<|fv u) s).H) w:=by grind [ML]
 exact wpIn_mono ((h u).h r U φ M0 D O w Y) fun _ _ _ p=>p.trans E1
theorem kP{R:Type}{a:Option R}{K:R→St→Prop}{Q:R→AX→St→Prop}{cs:List AV}(k:Nat)(hk:isFn (cs[k]?)=true)(h:∀u:FV,NV a P N f (.agg (cs.set k<|.p<|.val<|fv u)::args) dst s K Q):NV a P N f (.agg cs::args) dst s K Q:=by
 refine⟨fun r Y=>?_⟩;intro φ M0 D ac w vs r1 O;simp only[Ql] at O;obtain⟨y,ys,rfl,U,J⟩:=O;simp only[Qf] at U;obtain⟨l,rfl,hl⟩:=U;obtain⟨x,Z,G⟩:=nA (φ:=φ) (h:=look s.H) (w:=w) (M:=MM φ (look s.H) M0) hk;obtain⟨u,g1,g2⟩:=GZ hl Z;obtain⟨u,rfl⟩:=G u g2;refine(h u).h r Y φ M0 D ac w _ r1 ?_;simp only[Ql];refine⟨_,ys,rfl,?_,J⟩;simp only[Qf];exact⟨l,rfl,by grind [fv,Qf,Zj,U4]⟩
theorem UQ(m:Nat)(es:List (Bool×List UInt8×AV))(G:look s.H m=some (.mg en ck es):=by kernel_rfl):Weak N s (Qi1 m (.mf es) s):=by
 intro φ M0 D a w r;have Z:look (Qi1 m (.mf es) s).H=upd (look s.H) m (.mf es):=by funext c;exact IB s.H c G
 obtain⟨Y,h2,U,h4⟩:=r.hp.blk m _ G;obtain⟨H2,E2,O⟩:=lV (k1:=.mf es) G rfl rfl r.hp fun h' M' J X=>⟨en,ck,Y,h2,(QV J X).2 _ _ U,h4⟩
 rw[Z];exact⟨φ,r.keep E2 O H2,E2⟩
def kOf(s:St):LB:=⟨s.T.map (·.1),s.H.map (·.1),[],[]⟩
section
variable {R V:Type}{o:Option R}{P:Program}{N:Nat}{ro:Option Nat}{c y:Code}{s:St}{Q:R→AX→St→Prop}{ops:Array Oper}{draw:Bool}{id:Nat}
theorem Qg(G:P.follows .mixedOrders=true)(s':St)(h:QZ o P N ro y s' Q)(J:(Mv P N ops draw s).bind (R7<|kOf s')=some s':=by kernel_rfl):QZ o P N ro (.seq (.region id ops draw) y) s Q:=sR G _ s' J h
theorem Qm(s':St)(h:QZ o P N ro y s' Q)(hw:R7 (kOf s') s=some s':=by kernel_rfl):ZK o (vH P N ro y Q) .normal s:=sN _ s' hw h
theorem Su(s':St)(h:QZ o P N ro c s' Q)(hw:R7 (kOf s') s=some s':=by kernel_rfl):QZ o P N ro c s Q:=sP _ s' hw h
theorem Q9{S:V→St}(v:V)(hw:R7 (kOf<|S v) s=some (S v)):ZK (some v) (Qfv N S) .normal s:=Qcn v _ hw
theorem Yk{k:V→Option R}{S:V→St}(v:V)(hw:R7 (kOf<|S v) s=some (S v):=by kernel_rfl):ZK (k v) (kQ N k S Q) .normal s:=Qlb v _ hw
theorem Ug(h:R7 (kOf s') s=some s':=by kernel_rfl):Weak N s s':=Rt h
end
def c8b(c:UInt8):List PV:=[.val<|.int .u8 c.toNat]
section
variable {P:Program}{N:Nat}{D:DB}{o:Oper}{φ:Nat→Nat}{M0:ZR}{T:Nat→Option AV}{h:QY}{a:Act}{w:World}
theorem Gm(b:List UInt8):(Xr b).size=b.length:=by rfl
theorem MN{t u:TypeId}{s:Operand}(J:o.op=.call ⟨.builtin .append,#[s,x],#[t,u]⟩)(G:(Builtin.append_ #[t,u] o.type #[a.eval s,a.eval x]).run P w=.ok v w') :
  (execOp a.eval o).run P w=.ok (.value v) w':=by
 simp[execOp,J,resolve,invoke,builtin,G]
theorem kR:∀b:List UInt8,(b.map c8b).flatten=b.map fun c=>PV.val<|.int .u8 c.toNat
|[]=>rfl
|c::b=>by
  simp only[JR,List.flatten_cons,kR b];rfl
set_option maxHeartbeats 1000000 in
theorem QaM(r:Zy φ M0 N D T h a w){t u:TypeId}{i:TypeInfo}{s:Operand}{es:List (List PV)}{b:List UInt8}(ho:o.op=.call ⟨.builtin .append,#[s,x],#[t,u]⟩)(ht:P.underlying t=some (.slice ty))(hu:P.underlying u=some .string)(hi:P.info? ty=some i)(ao:i.size=1)(bd:i.bytes=1)(hz:i.zero=some z)(az:z.cells.size=i.size∧0<i.size)(hs:Zn T s=some (.tsl i.size es tk))(hx:Zn T x=some (.p<|.val<|.string<|Xr b))(Z:h tk=some (.arr ty i.size es.length))(ay:es.length+es'.length≤140737488355328)(ar:es'=b.map c8b)(bj:b≠[]) :
  Yield P o φ M0 h a w (.tsl i.size (es++es') tk) (upd h tk<|.arr ty i.size<|es.length+es'.length):=by
 have a6:es'.length=b.length:=by grind
 have ba:(es.length+es'.length)*i.bytes≤140737488355328:=by grind
 obtain⟨l,hl⟩:∃l:List Value,l=b.map fun c=>Value.int .u8 c.toNat:=⟨_,rfl⟩
 have h3:∀e∈es',e.length=i.size:=by
  intro e he;rw[ar] at he;obtain⟨c,_,rfl⟩:=List.mem_map.1 he;rw[ao];rfl
 have h5:l.length=es'.length*i.size:=by grind
 have h7:∀v∈l,v.oneCell'=true:=by
  intro v hv;rw[hl] at hv;obtain⟨c,_,rfl⟩:=List.mem_map.1 hv;rfl
 have bi:0<es'.length:=by grind
 refine Yield.of_lift r 1 fun φ r E0 X0 hC=>?_
 have h8:∀(j:Nat) (c:PV) (v:Value),es'.flatten[j]?=some c→l[j]?=some v→Zj w (MM φ h M0) c v:=by
  grind [Zj,kR,ZA]
 have bb:a.eval x=.string (Xr b):=by
  have:=r.ev hx
  grind [Qf,Zj]
 have au:=r.ev hs;simp only[Qf] at au;obtain⟨a8,WI,n2,al,be,ak⟩:=au;rw[Z] at al;cases al;rcases ak rfl with⟨ax,an,_⟩|⟨G,c0,an,am,bg,a7,ac⟩
 ·have aq:es=[]:=List.length_eq_zero_iff.1 ax;subst aq;simp only[List.length_nil,Nat.zero_add] at ba ay Z ⊢
  have ah:(Builtin.append_ #[t,u] o.type #[.slice none 0 0,.string<|Xr b]).run P w=.ok (.slice (some ⟨w.heap.size,0,none⟩) es'.length<|grownCap w es'.length 0 ty) (w.drew.alloc<|.cells (l.toArray++Builtin.zeroCells z.cells (grownCap w es'.length 0 ty-es'.length)) ty):=by
   grind [Xr,run_append_nil_string,Gm]
  have aa:=grownCap_ge w es'.length 0 ty;have af:grownCap w es'.length 0 ty≤maxLen:=grownCap_le_maxLen w es'.length 0 ty (by unfold maxLen;omega);generalize grownCap w es'.length 0 ty=gc at *
  let C:Array Value:=l.toArray++Builtin.zeroCells z.cells (gc-es'.length)
  let w':World:=w.drew.alloc<|.cells C ty
  obtain⟨E,X⟩:=Ls (w:=w) (w':=w') (ob:=.cells C ty) (φ:=φ) (h:=h) (M0:=M0) (n':=es'.length) Z zo rfl rfl rfl rfl r.hp hC
  have ab:C.size=gc*i.size:=by
   grind [Array.size_append,List.size_toArray,size_zeroCells,Nat.add_mul]
  have J:w'.heap[w.heap.size]?=some (.cells C ty (0,0)):=by show(w.heap.push _)[w.heap.size]?=_;simp
  have O:QL φ tk w.heap.size tk=w.heap.size:=by simp[QL]
  have hH:ZX (QL φ tk w.heap.size) (upd h tk<|.arr ty i.size es'.length) w' M0 :=
   Db Z r.hp E X (fun b hb=>by grind [QL]) (.inr ⟨O,hC⟩) (fun d hd _=>hC.lt r.hp (w':=w') (by show(w.heap.push _).size≤_;simp) (fun x hx=>by show(w.heap.push _)[x]?=_;grind) hd) zc ab aa af
  refine⟨_,.slice (some ⟨w.heap.size,0,none⟩) es'.length gc,w',QL φ tk w.heap.size,MN ho zc,.inl rfl,?_,hH,E,X⟩
  have Y:∀x,x<es'.length*i.size→¬MM (QL φ tk w.heap.size) (upd h tk<|.arr ty i.size es'.length) M0 w.heap.size x:=fun x hx =>
   Dc (φ:=φ) (h:=h) r.hp hC (d:=tk) (ty:=ty) (S:=i.size) (n:=es'.length) (by simp[upd]) O (fun b k hb hk=>⟨by grind [upd],by grind [QL]⟩) hx
  simp only[Qf,Zj,List.nil_append];refine⟨.inl ⟨w.heap.size,0,gc,rfl,aa,?_⟩,ty,es'.length,by simp[upd],KD _,fun _=>.inr ⟨gc,C,by rw[O],zc,ab,aa,af⟩⟩;rw[KY];refine⟨h3,Us (l:=l) (by rw[h5,ZH h3]) ?_ ?_ h7 ?_⟩
  ·intro j v U;rw[KE J]
   grind
  ·grind
  ·intro j c v U hv;exact(Kb<|E.keeps M0).1 _ _ (h8 j c v U hv)
 have ad:WN w (MM φ h M0) i.size (φ tk) 0 es:=by
  by_cases av:es=[]
  ·grind [WN]
  ·obtain⟨r2,o2,bf,l2,g1,_,_,g4,_⟩:=UZ a8 av
   grind
 have ai:∀e∈es,e.length=i.size:=((KY es 0).1 ad).1;by_cases ae:es.length+es'.length≤G
 ·have bh:es.length*i.size+l.length≤c0.size:=by grind
  have ah:(Builtin.append_ #[t,u] o.type #[.slice (some ⟨φ tk,0,none⟩) es.length G,.string<|Xr b]).run P w=.ok (.slice (some ⟨φ tk,0,none⟩) (es.length+es'.length) G) (w.setRow (φ tk) (c0.toList.take (es.length*i.size)++l++c0.toList.drop (es.length*i.size+l.length)).toArray):=by
   have:=Lib.run_append_room_string (P:=P) w t u o.type ty i ht hu hi ao (φ tk) es.length G c0 am (Xr b) (by rw[Gm];omega) (by grind [Gm]);rw[Gm] at this
   grind [Lib.strCells,Xr]
  let C:Array Value:=(c0.toList.take (es.length*i.size)++l++c0.toList.drop (es.length*i.size+l.length)).toArray
  have aw:(c0.toList.take<|es.length*i.size).length=es.length*i.size:=by simp;omega
  have ab:C.size=c0.size:=by grind
  obtain⟨E,X⟩:=Oi (φ:=φ) (h:=h) (w:=w) (M0:=M0) (n':=es.length+es'.length) (c':=C) Z am zo ab (fun x hx=>by
   grind) r.hp
  have J:(w.setRow (φ tk) C).heap[φ tk]?=some (.cells C ty (0,0)):=setRow_heap w _ c0 C ty _ am
  have hH:ZX φ (upd h tk<|.arr ty i.size<|es.length+es'.length) (w.setRow (φ tk) C) M0 :=
   Db Z r.hp E X (fun _ _=>rfl) (.inl rfl) (fun d hd bc=>setRow_other w _ _ C fun e=>bc<|r.hp.inj d tk hd zc e) J zo ae ac
  refine⟨_,.slice (some ⟨φ tk,0,none⟩) (es.length+es'.length) G,_,φ,MN ho zc,.inl rfl,?_,hH,E,X⟩
  have Y:∀x,x<(es.length+es'.length)*i.size→¬MM φ (upd h tk<|.arr ty i.size<|es.length+es'.length) M0 (φ tk) x:=by
   rintro x hx (⟨b,k,q1,q2,q3⟩|q1)
   ·by_cases e:tk=b
    ·grind [upd]
    ·have q4:h b=some k:=by grind [upd]
     exact e (r.hp.inj b tk zc zc q2).symm
   ·exact r.hp.fr tk zc x q1
  simp only[Qf,Zj];refine⟨.inl ⟨φ tk,0,G,by simp,zc,?_⟩,ty,es.length+es'.length,by simp[upd],by simp,fun _=>.inr ⟨G,C,rfl,J,by omega,ae,ac⟩⟩;rw[Jz];refine⟨(Kb<|E.keeps M0).2.1 _ _ _ _ ad,?_⟩;rw[KY];refine⟨h3,Us (l:=l) (by rw[h5,ZH h3]) ?_ ?_ h7 ?_⟩
  ·intro j v U;rw[KE J];have hlt:j<l.length:=(wB.1 U).1;simp only[Nat.zero_add,C,List.getElem?_toArray];rw[List.append_assoc,List.getElem?_append_right (by rw[aw];omega),aw,List.getElem?_append_left zo];rw[show es.length*i.size+j-es.length*i.size=j from by omega];exact U
  ·intro j U;simp only[Nat.zero_add];refine Y _ ?_;rw[h5] at U;rw[Nat.add_mul];omega
  ·intro j c v U hv;exact(Kb<|E.keeps M0).1 _ _ (h8 j c v U hv)
 ·obtain⟨ol,g1,g2,g3,g4⟩:=Rk _ _ ((KY es 0).1 ad).2;have aj:ol.length=es.length*i.size:=by rw[g1,ZH ai]
  have ah:(Builtin.append_ #[t,u] o.type #[.slice (some ⟨φ tk,0,none⟩) es.length G,.string<|Xr b]).run P w=.ok (.slice (some ⟨w.heap.size,0,none⟩) (es.length+es'.length)<|grownCap w (es.length+es'.length) G ty) (w.drew.alloc<|.cells (ol.toArray++l.toArray++Builtin.zeroCells z.cells (grownCap w (es.length+es'.length) G ty-(es.length+es'.length))) ty):=by
   have:=Lib.run_append_grow_string (P:=P) w t u o.type ty i z ht hu hi hz ⟨φ tk,0,none⟩ es.length G ol aj (fun j v U=>by rw[Addr.add_lit];exact g2 j v U) (Xr b) (by rw[Gm];omega) (by rw[Gm];omega) (growslice_fits (by rw[Gm];omega) (by rw[Gm,bd];omega));rw[Gm] at this;rw[a6];refine this.trans ?_;rw[hl];simp[Lib.strCells,Xr]
  have aa:=grownCap_ge w (es.length+es'.length) G ty;have af:grownCap w (es.length+es'.length) G ty≤maxLen:=grownCap_le_maxLen w _ G ty (by unfold maxLen;omega);generalize grownCap w (es.length+es'.length) G ty=gc at *
  let C:Array Value:=ol.toArray++l.toArray++Builtin.zeroCells z.cells (gc-(es.length+es'.length))
  let w':World:=w.drew.alloc<|.cells C ty
  obtain⟨E,X⟩:=Ls (w:=w) (w':=w') (ob:=.cells C ty) (φ:=φ) (h:=h) (M0:=M0) (n':=es.length+es'.length) Z zo rfl rfl rfl rfl r.hp hC
  have ab:C.size=gc*i.size:=by
   simp only[C,Array.size_append,List.size_toArray,size_zeroCells,az.1,h5,aj];rw[←Nat.add_mul,←Nat.add_mul];congr 1;omega
  have J:w'.heap[w.heap.size]?=some (.cells C ty (0,0)):=by show(w.heap.push _)[w.heap.size]?=_;simp
  have O:QL φ tk w.heap.size tk=w.heap.size:=by simp[QL]
  have hH:ZX (QL φ tk w.heap.size) (upd h tk<|.arr ty i.size<|es.length+es'.length) w' M0 :=
   Db Z r.hp E X (fun b hb=>by simp[QL,Ne.symm hb]) (.inr ⟨O,hC⟩) (fun d hd _=>hC.lt r.hp (w':=w') (by show(w.heap.push _).size≤_;simp) (fun x hx=>by show(w.heap.push _)[x]?=_;rw[Array.getElem?_push,if_neg zo]) hd) (by rw[O];exact J) ab aa af
  refine⟨_,.slice (some ⟨w.heap.size,0,none⟩) (es.length+es'.length) gc,w',QL φ tk w.heap.size,MN ho (by rw[an,bb];exact ah),.inl rfl,?_,hH,E,X⟩
  have Y:∀x,x<(es.length+es'.length)*i.size→¬MM (QL φ tk w.heap.size) (upd h tk<|.arr ty i.size<|es.length+es'.length) M0 w.heap.size x:=fun x hx =>
   Dc (φ:=φ) (h:=h) r.hp hC (d:=tk) (ty:=ty) (S:=i.size) (n:=es.length+es'.length) (by simp[upd]) O (fun b k hb hk=>⟨by simpa [upd,Ne.symm hb] using hk,by simp[QL,Ne.symm hb]⟩) hx
  simp only[Qf,Zj];refine⟨.inl ⟨w.heap.size,0,gc,by simp,by simpa using aa,?_⟩,ty,es.length+es'.length,by simp[upd],by simp,fun _=>.inr ⟨gc,C,by rw[O],by rw[O];exact J,ab,aa,af⟩⟩;rw[Jz];constructor
  ·rw[KY];refine⟨ai,Us (l:=ol) g1 ?_ ?_ g3 ?_⟩
   ·intro j v U;rw[KE J];have hlt:j<ol.length:=(wB.1 U).1;simp only[Nat.zero_add,C];rw[Array.append_assoc,Array.getElem?_append_left<|by simpa using hlt];simpa using U
   ·intro j U;simp only[Nat.zero_add];refine Y _ ?_;rw[aj] at U;rw[Nat.add_mul];omega
   ·intro j c v U hv;exact(Kb<|E.keeps M0).1 _ _ (g4 j c v U hv)
  ·rw[KY];refine⟨h3,Us (l:=l) (by rw[h5,ZH h3]) ?_ ?_ h7 ?_⟩
   ·intro j v U;rw[KE J];have hlt:j<l.length:=(wB.1 U).1;simp only[Nat.zero_add,C];rw[Array.append_assoc,Array.getElem?_append_right (by simp;omega),Array.getElem?_append_left (by simp;omega)];simp only[List.size_toArray,aj,List.getElem?_toArray];rw[show es.length*i.size+j-es.length*i.size=j from by omega];exact U
   ·intro j U;simp only[Nat.zero_add];refine Y _ ?_;rw[h5] at U;rw[Nat.add_mul];omega
   ·intro j c v U hv;exact(Kb<|E.keeps M0).1 _ _ (h8 j c v U hv)
end
section
variable {R:Type}{a:Option R}{P:Program}{N:Nat}{ops:Array Oper}{o:Oper}{l:List Oper}{acc:List YU}{s:St}{Q:R→AX→St→Prop}
theorem LD{t u:TypeId}{bs b:List UInt8}(Z:o.op=.call ⟨.builtin .append,#[x,y],#[t,u]⟩)(ht:P.underlying t=some (.slice ty))(hu:P.underlying u=some .string)(hc:(QX (List.length<|bs++b) 1&&!List.isEmpty b)=true)(h:KX a P N ops Q false ((none,[])::acc) l (St.put ⟨(mk ops o s true).T,s.H.map fun p=>if p.1=tk then(p.1,.arr ty 1 (List.map c8b<|bs++b).length) else p⟩ o.dst<|.tsl 1 (List.map c8b<|bs++b) tk))(hw:ZT ops o (look s.T)=some true:=by kernel_rfl)(hd:KL N o.dst=true:=by kernel_rfl)(hi:(P.info? ty).map (fun i=>(i.size,i.bytes,i.zero))=some (1,1,some<|.int .u8 0):=by kernel_rfl)(hx:Zn (look (mk ops o s true).T) x=some (.tsl 1 (List.map c8b bs) tk):=by kernel_rfl)(hy:Zn (look (mk ops o s true).T) y=some (.p<|.val<|.string<|Xr b):=by kernel_rfl)(hb:look s.H tk=some (.arr ty 1 (List.map c8b bs).length):=by kernel_rfl):KX a P N ops Q false acc (o::l) s:=by
 refine IC hw (by rw[Z,hd];rfl) (fun c hc=>by grind) fun φ M0 D ac w r=>⟨_,⟨(mk ops o s true).T,s.H.map fun p=>if p.1=tk then(p.1,.arr ty 1 (List.map c8b<|bs++b).length) else p⟩,rfl,h,?_⟩
 obtain⟨i,Y,J⟩:=F3.1 hi;simp only[LK] at J;obtain⟨O,e2,e3⟩:=J;simp only[Ku,Bool.not_eq_true'] at hc;have G:=hc.1;simp only[QX,C9,Pd] at G
 have U:b≠[]:=by
  grind
 have hH:look (s.H.map fun p=>if p.1=tk then(p.1,.arr ty 1 (List.map c8b<|bs++b).length) else p)=upd (look s.H) tk (.arr ty 1 (List.map c8b<|bs++b).length):=by
  grind [IB]
 show Yield P o φ M0 (look s.H) ac w _ (look (s.H.map fun p=>if p.1=tk then(p.1,.arr ty 1 (List.map c8b<|bs++b).length) else p));rw[hH];have key:=QaM (es:=List.map c8b bs) (es':=b.map c8b) (tk:=tk) (b:=b) (i:=i) (z:=.int .u8 0) r Z ht hu Y O e2 e3 (by rw[O];exact⟨rfl,by omega⟩) (by rw[O];exact hx) hy (by rw[O];exact hb) (by simp only[WF];omega) rfl U;rw[O] at key;have hl:(List.map c8b<|bs++b).length=(List.map c8b bs).length+(List.map c8b b).length:=by simp
 rw[hl,List.map_append];exact key
theorem rF{Y:Act}{t:TypeId}{g:Nat}{k:IntKind}{n:Int}{G:List (List UInt8)}{x:List UInt8}(r:Zy φ M0 N D T h Y w)(ho:o.op=.indexAddr t (.global g) ix)(ht:P.underlying t=some (.array len e))(hi:(P.info? e).map (·.size)=some 1)(hn:Zn T ix=some (.p<|.val<|.int k n))(hg:gfix.contains g=true)(ae:G.length=len)(U:∀w,bY w→∀(j:Nat) (y:List UInt8),G[j]?=some y→w.cell? ⟨g,j,none⟩=some (.string<|Xr y))(hx:QT G n=some x):Yield P o φ M0 h Y w (.eptr [.val<|.string<|Xr x]) h:=by
 have ad:Y.eval ix=.int k n:=by
  have:=r.ev hn
  grind [Qf,Zj]
 have O:0≤n∧n<(len:Int)∧G[n.toNat]?=some x:=by
  grind [QT]
 obtain⟨j,rfl⟩:=Int.eq_ofNat_of_zero_le O.1;have J:=U w r.hp.gm.w j x (by assumption);obtain⟨inf,ab,aa⟩:=F3.1 hi;refine Qu r (v:=.pointer<|some ⟨g,j,none⟩) ?_ ?_
 ·have hlt:(j:Int)<(len:Int):=O.2.1;have Z:Y.eval (.global g)=.pointer (some ⟨g,0,none⟩):=rfl;simp[execOp,ho,Instr.indexAt,ad,asIntOf,run_underlying ht,Z,Instr.sureAddr,Ze ab,aa,Addr.add_lit];omega
 ·simp only[Qf,WM,Zj];exact⟨g,j,rfl,⟨_,J,r.hp.gm.m g zc j,rfl,rfl⟩,trivial⟩
theorem Qi7{L:List Nat}{c:Nat}{Ch:List (Nat×List Nat)}{k0:List UInt8→Option R}{t:TypeId}{g:Nat}{k:IntKind}{n:Int}{J:List (List UInt8)}(Z:List Nat)(hc:ops[c]?=some o)(ho:o.op=.indexAddr t (.global g) ix)(hd:KL N o.dst=true)(ht:P.underlying t=some (.array len e))(hi:(P.info? e).map (·.size)=some 1)(hn:Zn (look s.T) ix=some (.p<|.val<|.int k n))(hg:gfix.contains g=true)(G:(J.length==len&&Gj ops L c==Z)=true)(O:∀w,bY w→∀(j:Nat) (y:List UInt8),J[j]?=some y→w.cell? ⟨g,j,none⟩=some (.string<|Xr y))(hl:∀x,QT J n=some x→Xh P ops Z (St.put s o.dst<|.eptr [.val<|.string<|Xr x]))(h:∀x,vI (k0 x) P N ops Q L Ch (St.put s o.dst<|.eptr [.val<|.string<|Xr x])):vI ((QT J n).bind k0) P N ops Q L ((c,[])::Ch) s:=by
 simp only[Ku,beq_iff_eq] at G;obtain⟨G,hL⟩:=G;cases hx:QT J n with
|none=>exact⟨fun r Y=>by cases Y⟩
|some x =>
  refine⟨fun r Y=>?_⟩;simp only[bI,hc];unfold H6
  have key:lw P N o s (fun s'=>Xh P ops (Gj ops L c) s'∧∃U,Dp P N ops [] s'=some U∧bI P N ops (qh ops Q r) L Ch U):=by
   refine⟨fun c hc=>zc,hd,fun φ M0 D ac w r1=>⟨_,s,rfl,⟨hL▸hl x hx,_,rfl,(h x).h r Y⟩,rF r1 ho ht hi hn hg G O hx⟩⟩
  grind
theorem Fe{dr:Bool}(h:KX ((some ()).bind fun _=>a) P N ops Q dr acc l s):KX a P N ops Q dr acc l s:=h
end
theorem QcX(b k:Nat)(hb:cellAt b k s=some (.p<|.val<|.pointer none)):Weak N s (Gl b k (.sfp b) s):=by
 intro φ M0 D a w r;obtain⟨ty,cs,G,Dw⟩:=FJ hb;have J:look (Gl b k (.sfp b) s).H=upd (look s.H) b (.box ty<|cs.set k<|.sfp b):=Si G;refine⟨φ,?_,?_⟩
 ·show Zy φ M0 N D (look s.T) (look (Gl b k (.sfp b) s).H) a w;rw[J];refine qy r G fun c hc=>?_
  obtain⟨c',g1,g2⟩:=r.hp.blk b _ G
  grind [Qf,Zj,GZ,U4]
 grind [ML]
def Sv(g:Nat)(w w':World):Prop :=w'.os=w.os∧w'.tape=w.tape∧w'.output=w.output∧w.heap.size≤w'.heap.size∧w'.heap.size≤w.heap.size+1∧(∀x,x<w.heap.size→x≠g→w'.heap[x]?=w.heap[x]?)∧(∀x o,x<w.heap.size→w'.cell? ⟨x,o,none⟩=w.cell? ⟨x,o,none⟩)
structure Qi8(P:Program)(f:FuncId)(ty te:TypeId):Prop where
 nil:∀(b g:Nat) (p:Value) (w:World),w.heap[b]?=some (.cells #[p,.slice none 0 0] ty (0,0))→Calls P f #[.pointer<|some ⟨b,0,none⟩] w fun e w'=>e=.returned (.string ⟨#[]⟩)∧Sv g w w'
 full:∀(b g cap:Nat) (p:Value) (cur:Array Value) (l:List UInt8) (w:World),l≠[]→w.heap[b]?=some (.cells #[p,.slice (some ⟨g,0,none⟩) l.length cap] ty (0,0))→w.heap[g]?=some (.cells cur te (0,0))→l.length≤cap→cap≤maxLen→cur.size=cap →
  (∀(j:Nat) (x:UInt8),l[j]?=some x→w.cell? ⟨g,j,none⟩=some (.int .u8 x.toNat))→Calls P f #[.pointer<|some ⟨b,0,none⟩] w fun e w'=>e=.returned (.string ⟨l.toArray⟩)∧Sv g w w'
 noroom:∀(b g:Nat) (p:Value) (cur:Array Value) (w:World),w.heap[b]?=some (.cells #[p,.slice (some ⟨g,0,none⟩) 0 0] ty (0,0))→w.heap[g]?=some (.cells cur te (0,0))→Calls P f #[.pointer<|some ⟨b,0,none⟩] w fun e w'=>e=.returned (.string ⟨#[]⟩)∧Sv g w w'
 room:∀(b g cap:Nat) (p:Value) (w:World),cap≠0→w.heap[b]?=some (.cells #[p,.slice (some ⟨g,0,none⟩) 0 cap] ty (0,0))→Calls P f #[.pointer<|some ⟨b,0,none⟩] w fun e w'=>e=.returned (.string ⟨#[]⟩)∧Sv g w w'
theorem upd_same{k:Blk}(hb:h b=some k):upd h b k=h:=by
 grind [upd]
theorem rG(hU:∀(b:Nat) (w:World),w.cell? ⟨b,0,none⟩=some (.pointer<|some ⟨b,0,none⟩)→Calls P f #[.pointer<|some ⟨b,0,none⟩] w fun e w'=>e=.returned (.tuple #[])∧w'=w)(hF:∀(b:Nat) (w:World),w.cell? ⟨b,0,none⟩=some (.pointer none)→w.shape? b=some (ty,2)→w.frozen? ⟨b,0,none⟩=false→Calls P f #[.pointer<|some ⟨b,0,none⟩] w fun e w'=>e=.returned (.tuple #[])∧w'=w.setCell ⟨b,0,none⟩ (.pointer<|some ⟨b,0,none⟩))(G:Option Addr)(J hc:Nat) :
  VC P f [.ptr 1000 0] (look [(1000,.box ty [.sfp 1000,.p<|.val<|.slice G J hc])]) fun r h'=>r=.ret (.tup [])∧h'=look [(1000,.box ty [.sfp 1000,.p<|.val<|.slice G J hc])]:=by
 intro φ M0 w vs r ha;simp only[Ql] at ha;obtain⟨y,ys,rfl,hy,rfl⟩:=ha;simp only[Qf] at hy;obtain⟨rfl,_⟩:=hy;have hb:look [(1000,Blk.box ty [.sfp 1000,.p<|.val<|.slice G J hc])] 1000=some (.box ty [.sfp 1000,.p<|.val<|.slice G J hc]):=rfl;obtain⟨c,hw,O⟩:=r.blk 1000 _ hb;have Z:=O;simp only[Ql] at O;obtain⟨v0,l0,e0,h0,Y,l1,e1,h1,rfl⟩:=O;subst e1
 have ec:c=#[v0,Y]:=by
  grind
 subst ec;simp only[Qf] at h0;rcases h0.1 with rfl|rfl
 ·refine(hF (φ 1000) w (by simp[World.cell?,hw]) (by simp[World.shape?,hw])<|by simp[World.frozen?,hw]).mono ?_;rintro e w' ⟨rfl,rfl⟩;rw[setCell_eq_setRow w (φ 1000) 0 _ ty (0,0) _ hw]
  have U:Ql φ (look [(1000,Blk.box ty [.sfp 1000,.p<|.val<|.slice G J hc])]) w (MM φ (look [(1000,Blk.box ty [.sfp 1000,.p<|.val<|.slice G J hc])]) M0) [.sfp 1000,.p<|.val<|.slice G J hc] ((#[.pointer none,Y]:Array Value).setIfInBounds 0<|.pointer<|some ⟨φ 1000,0,none⟩).toList:=by
   simp only[Ql,Qf];exact⟨.pointer<|some ⟨φ 1000,0,none⟩,[Y],by simp,⟨.inr rfl,h0.2⟩,Y,[],rfl,h1,rfl⟩
  obtain⟨E,X⟩:=qP (cs':=[.sfp 1000,.p<|.val<|.slice G J hc]) (c':=(#[.pointer none,Y]:Array Value).setIfInBounds 0<|.pointer<|some ⟨φ 1000,0,none⟩) hb hw r;have R:=gW hb hw r U;rw[upd_same hb] at E R;exact⟨φ,_,_,⟨rfl,rfl⟩,R,E,_,rfl,by simp[Qf,Ql]⟩
 ·refine(hU (φ 1000) w<|by simp[World.cell?,hw]).mono ?_;rintro e w' ⟨rfl,rfl⟩;exact⟨φ,_,_,⟨rfl,rfl⟩,r,Zi.refl _ _ _,_,rfl,by simp[Qf,Ql]⟩
theorem rH{te:TypeId}{t:Nat}{l:List UInt8}(C:Qi8 P f ty te)(K0:LB)(hb:look s.H b=some (.box ty [.sfp b,.tsl 1 (List.map c8b l) t]))(ht:look s.H t=some (.arr te 1 (List.map c8b l).length))(hs:R7 K0 s=some s')(aw:look s'.H t=none)(hsub:∀c,look s'.H c≠none→look s.H c≠none)(hd:∀x,dst=some x→x<N)(hk:K (s'.put dst<|.p<|.val<|.string<|Xr l)):TH P N f [.ptr b 0] dst s K Q:=by
 intro φ M0 D a w vs r ha;simp only[Ql] at ha;obtain⟨y,ys,rfl,hy,rfl⟩:=ha;simp only[Qf] at hy;obtain⟨rfl,_⟩:=hy;obtain⟨r1,E1⟩:=Qfu hs r;obtain⟨r2,E2,X2,hC⟩:=r1.lift 1
 have fin:∀w',Sv (φ t) w w'→∃φ' G,K G∧Zy φ' M0 N D (look G.T) (look G.H) (a.put dst<|.string<|Xr l) w'∧Zi φ (look s.H) w φ' (look G.H) w':=by
  rintro w' ⟨h1,h2,h3,h4,h5,h6,h7⟩;generalize am:Ym φ w.heap.size 1=O at r2 E2 X2 hC
  have ay:∀c,look s'.H c≠none→φ c≠φ t:=fun c hc e=>by
   have:=r.hp.inj c t (hsub c hc) zc e
   grind
  have hh:∀c k,look s'.H c=some k→w'.heap[O c]?=w.heap[O c]?:=by
   intro c k hc;rcases hC c zc with hlt|av
   ·have ax:O c=φ c:=by
     rw[←am] at hlt ⊢
     grind [Ym]
    grind
   grind
  have ai:∀x o v,w.cell? ⟨x,o,none⟩=some v→¬MM O (look s'.H) M0 x o→w'.cell? ⟨x,o,none⟩=some v∧¬MM O (look s'.H) M0 x o:=fun x o v g1 g2=>⟨by grind [Nq],g2⟩
  have X:VF O (look s'.H) w O (look s'.H) w':=⟨fun _ _ _ x=>⟨⟨_,_,x⟩,rfl⟩,fun c ty S n x=>⟨_,x,KD _,fun _=>Ve rfl<|zc⟩,
   fun c ty S n x=>⟨_,x,KD _,fun _=>⟨rfl,fun q hq=>⟨q,zc,rfl⟩⟩⟩,fun _ _ _ g1 g2=>⟨⟨_,g1,g2⟩,rfl⟩⟩
  have E3:=E1.trans E2;have an:w.heap.size≤w.heap.size:=KD _
  have E:Zi φ (look s.H) w O (look s'.H) w':=by
   refine⟨h1,h2,h3,h4,fun x hx ar=>?_,fun x o hx _=>h7 x o hx,E3.mu,E3.kb,fun c ty S n hc aa=>?_,fun c ty S es hc aa=>?_,E3.ko⟩
   ·grind
   ·obtain⟨n',g1,g2,g3⟩:=E3.kt c ty S n hc aa;exact⟨n',g1,g2,fun e=>(g3 e).trans an<|Ve rfl<|hh _ _ g1⟩
   ·obtain⟨es',g1,g2,g3⟩:=E3.kv c ty S es hc aa
    grind
  have R:ZX O (look s'.H) w' M0:=⟨r2.hp.inj,fun c k hc=>Ke ai X (hh c k hc)<|r2.hp.blk c k hc,r2.hp.fr,fun x o hx=>Nat.lt_of_lt_of_le (r2.hp.lt x o hx) h4,r.hp.gm.evol E⟩;have rr:Zy O M0 N D (look s'.T) (look s'.H) a w':=⟨r.dfs.keep E,r.siz,R,fun q x hq=>⟨(r2.tm q x hq).1,(QV ai X).1 _ _ (r2.tm q x hq).2⟩⟩;refine⟨O,s'.put dst<|.p<|.val<|.string<|Xr l,hk,rr.put hd (by rfl),?_⟩;cases dst<;>exact E
 have J:∀(e:Ending) (w':World),(e=.returned (.string<|Xr l)∧Sv (φ t) w w')→(match e with
 |.returned v=>∃φ' G,K G∧Zy φ' M0 N D (look G.T) (look G.H) (a.put dst v) w'∧Zi φ (look s.H) w φ' (look G.H) w'
 |.panicked chain=>Post N D Q φ M0 (look s.H) w (.panic chain) a w'
 |.outgrown=>False):=by
  grind
 obtain⟨c,hw,ab⟩:=r.hp.blk b _ hb;simp only[Ql] at ab;obtain⟨v0,l0,e0,h0,v1,l1,e1,h1,rfl⟩:=ab;subst e1
 have ec:c=#[v0,v1]:=by
  grind
 subst ec;simp only[Qf] at h1;obtain⟨ah,WI,n2,af,az,Y⟩:=h1;rw[ht] at af;cases af;rcases Y rfl with⟨au,rfl,aj⟩|⟨cap,c0,rfl,ad,aq,Z,ae⟩
 ·have U:l=[]:=List.eq_nil_of_length_eq_zero zc;subst U;exact(C.nil (φ b) (φ t) v0 w hw).mono J
 ·rw[WF] at hw Z;by_cases U:l=[]
  ·subst U;by_cases ac:cap=0
   ·subst ac;exact(C.noroom (φ b) (φ t) v0 c0 w hw ad).mono J
   ·exact(C.room (φ b) (φ t) cap v0 w ac hw).mono J
  ·refine(C.full (φ b) (φ t) cap v0 c0 l w U hw ad Z ae zo ?_).mono J;intro j x hx;simp only[Zj] at ah;rcases ah with⟨rr,oo,cp,g1,g2,g3⟩|⟨g1,_⟩
   ·simp only[Value.slice.injEq,ZA,Addr.mk.injEq] at g1;obtain⟨⟨rfl,rfl,_⟩,_⟩:=g1;obtain⟨ol,k1,k2,k3,k4⟩:=Rk _ _ ((KY _ 0).1 g3).2;rw[kR] at k1 k4;have hj:j<l.length:=(wB.1 hx).1
    have ak:∃v,ol[j]?=some v:=by
     have:j<ol.length:=by grind
     exact⟨_,List.getElem?_eq_getElem this⟩
    obtain⟨v,hv⟩:=ak;have al:=k2 j v hv;have ao:=k4 j (.val<|.int .u8 x.toNat) v zc hv
    grind [Zj]
   grind
section
variable {R:Type}{a:Option R}{P:Program}{N:Nat}{ops:Array Oper}{o:Oper}{l:List Oper}{acc:List YU}{s s':St}{Q:R→AX→St→Prop}
theorem QfU{G:TypeId}{t:Nat}{bs:List UInt8}(C:Qi8 P f ty G)(J:LB)(hw:ZT ops o (look s.T)=some true)(hcall:Kk (look<|ZE ops o s.T true) o.op=some (f,[.ptr b 0]))(hok:(Vx P f&&KL N o.dst)=true)(hb:look s.H b=some (.box ty [.sfp b,.tsl 1 (List.map c8b bs) t]))(Z:look s.H t=some (.arr G 1 (List.map c8b bs).length))(hs:R7 J (mk ops o s true)=some s')(Y:(look s'.H t).isNone=true)(hsub:(s'.H.all fun p=>(look s.H p.1).isSome)=true)(h:KX a P N ops Q false ((none,[])::acc) l (St.put s' o.dst<|.p<|.val<|.string<|Xr bs)):KX a P N ops Q false acc (o::l) s:=by
 simp only[Ku] at hok;refine⟨fun r O=>?_⟩;show YG P N ops (Q r) (o::l) s;simp only[YG,hw,Z9,Xx hcall];refine Hq hcall hok.1 (rH C J hb Z hs (by simp_all) (fun c hc=>?_) (Kc hok.2)<|h.h r O);obtain⟨k,hk⟩:=OV.1 hc;have hm:c∈s'.H.map (·.1):=YY.1 (by rw[hk];simp);obtain⟨p,hp,rfl⟩:=List.mem_map.1 hm;have:=Fx.1 hsub p hp;obtain⟨q,U⟩:=TZ.1 this;show look s.H p.1≠none;rw[U];simp
end
section
variable {R V:Type}{a a1 a2:Option R}{P:Program}{N:Nat}{ops:Array Oper}{o:Oper}{l l':List Oper}{acc:List YU}{s:St}{Q:R→AX→St→Prop}
theorem Vh{t:TypeId}{S sz kk g:Nat}{es:List (List PV)}{k:IntKind}{n:Int}(U:o.op=.indexAddr t x ix)(O:Zn T ix=some (.p<|.val<|.int k n):=by kernel_rfl)(Y:Zn T x=some (.vptr tk es.length kk g):=by kernel_rfl)(hb:h tk=some (.vec ty S es):=by kernel_rfl)(ht:P.underlying t=some (.array len e):=by kernel_rfl)(hi:(P.info? e).map (·.size)=some sz:=by kernel_rfl)(Z:decide (0≤n∧n<len)=true:=by kernel_rfl):We P o T h=some (.vptr tk es.length kk<|g+n.toNat*sz,none,[tk]):=by
 obtain⟨i,G,J⟩:=F3.1 hi
 simp_all [We,wF,JB]
theorem UA{l:List α}{n:Int}{x y:α}(h:QT l n=some x):QT (List.set l (Int.toNat n) y) n=some y:=by
 grind [QT]
theorem QfV{t:TypeId}{S:Nat}{l:List α}(hw:ZT ops o (look s.T)=some true)(O:o.op=.binOp .eql t x y ty)(Y:KL N o.dst=true)(Z:P.underlying t=some (.slice e))(U:Zn (look (mk ops o s true).T) x=some (.p<|.sl S<|List.map enc l))(hy:Zn (look (mk ops o s true).T) y=some (.p<|.val<|.slice none 0 0))(hg:(!List.isEmpty l)=true)(h:KX a P N ops Q false ((none,[])::acc) l' (St.put (mk ops o s true) o.dst<|.p<|.val<|.bool false)):KX a P N ops Q false acc (o::l') s:=by
 refine IC hw (by rw[O,Y];rfl) (fun c hc=>by grind) fun φ M0 D ac w r=>⟨_,mk ops o s true,rfl,h,?_⟩
 have G:=r.ev U;have J:=r.ev hy;simp only[Qf,Zj] at G J;rcases G with⟨rr,oo,cap,hv,_⟩|⟨he,_⟩
 ·obtain⟨g1,_⟩:=wK (P:=P) (w:=w) O Z hv J;exact Qu r (g1 rfl) (by rfl)
 simp_all
theorem FL{k f S:Nat}{es:List (List PV)}(G:nn=es.length)(J:o.op=.nilCheck x)(O:Zn T x=some (.vptr tk nn k f):=by kernel_rfl)(hb:h tk=some (.vec ty S es):=by kernel_rfl):We P o T h=some (.vptr tk es.length k f,none,[tk]):=by
 grind [CE]
end
def Z5(m:Nat):Int:=m
theorem QfW{m:Nat}{i:Int}{v:α}(h:QT (List.take m l) i=some v):QT l i=some v:=by
 grind [QT]
theorem QcY{m:Nat}{i:Int}{v:α}(h:QT (List.take m l) i=some v):0≤i∧i.toNat<m:=by
 grind [QT]
def TM{α:Type}(nn m:Nat)(l:List α)(i:Int):Option α:=cond (Nat.beq nn l.length) (QT (List.take m l) i) none
theorem Qi9{m:Nat}{i:Int}{v:α}(h:TM nn m l i=some v):nn=l.length:=by
 grind [TM,Nat.beq,Nat.eq_of_beq_eq_true]
theorem QcZ{m:Nat}{i:Int}{v:α}(h:TM nn m l i=some v):QT (List.take m l) i=some v:=by
 grind [TM]
theorem P8{m:Nat}{i:Int}{v:α}(h:TM nn m l i=some v):QT l i=some v:=QfW<|QcZ h
def TB(nn:Nat)(lo hi:Int)(len:Nat):Bool:=Nat.beq nn len&&sliceB lo hi len
def Qc0(nn k m len:Nat):Bool:=Nat.beq nn len&&Nat.ble (k+m) len
section
variable {P:Program}{o:Oper}{T:Nat→Option AV}{h:QY}
theorem RD{t:TypeId}{S m:Nat}{k:IntKind}{n:Int}(Y:o.op=.indexAddr t x ix)(hn:Zn T ix=some (.p<|.val<|.int k n))(Z:Zn T x=some (.vtl S tk nn 0 m))(hb:h tk=some (.vec ty S<|List.map enc l))(ht:P.underlying t=some (.slice e))(hi:(P.info? e).map (·.size)=some S)(v:α)(J:TM nn m l n=some v):We P o T h=some (.vptr tk (List.map enc l).length n.toNat 0,none,[tk]):=by
 have G:nn=(List.map enc l).length:=by rw[WF];exact Qi9 J
 subst G;obtain⟨h0,h1⟩:=QcY<|QcZ J;obtain⟨i,U,O⟩:=F3.1 hi
 simp_all [We,wF,JA,GQ,Xv,Ti,elems]
theorem nC{t:TypeId}{S k m:Nat}(J:o.op=.call ⟨.builtin .len,#[x],#[t]⟩)(O:Zn T x=some (.vtl S tk n k m))(hb:h tk=some (.vec ty S<|List.map enc l))(U:P.underlying t=some (.slice e))(hp:Gx P T o=none)(G:Nat.beq n l.length=true):We P o T h=some (.p<|.val<|.int .i64<|Z5 m,none,[tk]):=by
 have G:=Nat.eq_of_beq_eq_true G;subst G;simp[We,J,wF,O,iO,wG,Qaf,fC,U,hb,Ti,elems,hp,Z5]
theorem kS{t:TypeId}{S:Nat}{a b:Int}(ho:o.op=.slice t x lo hi none)(ht:P.underlying t=some (.slice e))(Y:(P.info? e).map (·.size)=some S)(hx:Zn T x=some (.vsl S tk nn))(hb:h tk=some (.vec ty S<|List.map enc l))(Z:NW T 0 lo=some a)(O:NW T nn hi=some b)(hp:Gx P T o=none)(hc:TB nn a b l.length=true):We P o T h=some (.vtl S tk nn a.toNat<|b.toNat-a.toNat,none,[tk]):=by
 simp only[TB,Ku] at hc;obtain⟨G,hc⟩:=hc;have G:nn=(List.map enc l).length:=by simp_all
 subst G;obtain⟨i,U,J⟩:=F3.1 Y;simp only[sliceB,Pd] at hc;have h1:=CF (d:=0) Z hc.1;have h2:=CF O zo;have h5:True∧S=i.size∧a.toNat≤b.toNat∧b.toNat≤(List.map enc l).length:=⟨trivial,J.symm,by omega,by simp;omega⟩;have h6:F6 P T t x lo hi none=none:=by grind [F6,elems]
 have h7:Ce P T h t x lo hi none=some (.vtl S tk (List.map enc l).length a.toNat<|b.toNat-a.toNat,none,[tk]):=by
  simp only[Ce,ht,hx,hb,U,h1,h2]
  grind
 simp only[We,ho,h6,h7,hp,Ti]
theorem rJ{t:TypeId}{k m:Nat}{l:List Int}{enc:Int→List PV}{kk:IntKind}(Z:o.op=.call ⟨.builtin .clear,#[x],#[t]⟩)(ht:P.underlying t=some (.slice e))(hi:(P.info? e).bind (fun i=>i.zero.map fun z=>(i.size,z))=some (1,.int kk 0))(hx:Zn T x=some (.vtl 1 tk nn k m))(hb:h tk=some (.vec ty 1<|List.map enc l))(hz:enc 0=[.val<|.int kk 0])(hc:Qc0 nn k m l.length=true):We P o T h=some (.tup [],some (tk,.vec ty 1<|List.map enc<|List.take k l++List.replicate m 0++List.drop (k+m) l),[tk]):=by
 simp only[Qc0,Ku] at hc;obtain⟨J,hc⟩:=hc;have J:nn=(List.map enc l).length:=by simp_all
 subst J;obtain⟨i,Y,O⟩:=Es.1 hi;obtain⟨z,U,G⟩:=F3.1 O;simp only[LK] at G;obtain⟨G,rfl⟩:=G
 simp_all [List.map,We,BO]
end
end Go.Abs
namespace Go.Proofs
open Go Go.RowKit
set_option maxHeartbeats 1000000 in
set_option maxRecDepth 100000 in
theorem QaN(b:Nat)(w:World)(h0:w.cell? ⟨b,0,none⟩=some (.pointer<|some ⟨b,0,none⟩)) :
  Calls Tryz.prog 131 #[.pointer<|some ⟨b,0,none⟩] w fun e w'=>e=.returned (.tuple #[])∧w'=w:=by
 obtain⟨j,J,G⟩:∃j,Tryz.prog.info? 95=some j∧j.size=2:=F3.1 (show(Tryz.prog.info? 95).map (·.size)=some 2 by kernel_rfl)
 go_enter Tryz.func131,Tryz.ntmps131
 go_wp2
 rw[Lib.run_neq_ptr_same w _ Tryz.underlying92 J]
 go_wp2
 go_end0
 simp
set_option maxHeartbeats 1000000 in
set_option maxRecDepth 100000 in
theorem rM(b:Nat)(w:World)(h0:w.cell? ⟨b,0,none⟩=some (.pointer none))(G:w.shape? b=some (97,2))(O:w.frozen? ⟨b,0,none⟩=false) :
  Calls Tryz.prog 131 #[.pointer<|some ⟨b,0,none⟩] w fun e w'=>e=.returned (.tuple #[])∧w'=w.setCell ⟨b,0,none⟩ (.pointer<|some ⟨b,0,none⟩):=by
 obtain⟨j,J,U⟩:∃j,Tryz.prog.info? 95=some j∧j.size=2:=F3.1 (show(Tryz.prog.info? 95).map (·.size)=some 2 by kernel_rfl)
 go_enter Tryz.func131,Tryz.ntmps131
 go_wp2
 rw[Lib.run_to_unsafe w ⟨b,0,none⟩ Tryz.underlying92 Tryz.underlying274 J zo G<|Nat.zero_lt_succ 1];simp only[Result.andThen];rw[Oper.upon_value]
 go_wp2
 rw[run_callFunc_extern Tryz.func194 (by kernel_rfl) (by kernel_rfl) (by kernel_rfl) (e:=Extern.AbiNoEscape.same)<|by kernel_rfl];rw[Lib.run_noEscape];simp only[Result.andThen];rw[Oper.upon_value]
 go_wp2
 rw[Lib.run_from_unsafe w ⟨b,0,none⟩ Tryz.underlying274 Tryz.underlying92 J G<|by kernel_rfl];simp only[Result.andThen];rw[Oper.upon_value]
 go_wp2
 go_end0
 simp
end Go.Proofs
namespace Go.Proofs
open Go Go.RowKit Go.Abs
variable {n:Nat}
theorem IG(g:Nat)(w:World):Sv g w w:=⟨rfl,rfl,rfl,KD _,Nat.le_succ _,fun _ _ _=>rfl,fun _ _ _=>rfl⟩
theorem QaO{g:Nat}{w w':World}(o:Obj)(hw:w'=w.drew.alloc o∨w'=(w.alloc o).drew∨w'=w.alloc o):Sv g w w':=by
 have key:Sv g w (w.alloc o):=by
  have G:∀x,x<w.heap.size→(w.alloc o).heap[x]?=w.heap[x]?:=fun x J=>by show(w.heap.push o)[x]?=_;grind
  exact⟨rfl,rfl,rfl,by simp,by simp,fun x J _=>G x J,fun x y J=>by grind [World.cell?]⟩
 rcases hw with rfl|rfl|rfl
 ·exact key
 ·exact key
 omega
theorem nD{g:Nat}{w:World}:Sv g w (w.freeze ⟨g,0,none⟩ n):=by
 unfold World.freeze;split
 ·exact IG g w
 ·refine⟨rfl,rfl,rfl,by simp,by simp,fun x J G=>?_,fun x o J=>?_⟩
  ·grind
  grind [World.cell?]
set_option maxHeartbeats 2000000 in
set_option maxRecDepth 100000 in
theorem QfX(b g:Nat)(p:Value)(w:World)(G:w.heap[b]?=some (.cells #[p,.slice none 0 0] 97 (0,0))) :
  Calls Tryz.prog 32 #[.pointer (some ⟨b,0,none⟩)] w fun e w'=>e=.returned (.string ⟨#[]⟩)∧Sv g w w':=by
 have J:∀(W:World) (q:Option Addr),(Builtin.unsafeString_ #[163,3] 9 #[.pointer q,.int .i64 0]).run Tryz.prog W=.ok (.string .empty) W:=fun W q=>Lib.run_unsafeString_none W _ _ _ q
 have U:w.drew.cell? ⟨b,1,none⟩=some (.slice none 0 0):=by
  have:w.drew.heap[b]?=some (.cells #[p,.slice none 0 0] 97 (0,0)):=G;rw[Lib.cell_of_heap this];rfl
 have O:(Builtin.unsafeSliceData_ #[93] 163 #[.slice none 0 0]).run Tryz.prog w.drew=.ok (.pointer none) w.drew:=rfl;have mixed:Tryz.prog.follows .mixedOrders=true:=by kernel_rfl
 go_enter Tryz.func32,Tryz.ntmps32
 go_wp2
 go_region_o
 all_goals (go_wp2;go_ret;exact⟨rfl,IG g w⟩)
set_option maxHeartbeats 2000000 in
set_option maxRecDepth 100000 in
theorem Qc1(b g cap:Nat)(p:Value)(G:Array Value)(l:List UInt8)(w:World)(h0:l≠[])(O:w.heap[b]?=some (.cells #[p,.slice (some ⟨g,0,none⟩) l.length cap] 97 (0,0)))(hg:w.heap[g]?=some (.cells G 5 (0,0)))(ab:l.length≤cap)(aa:cap≤maxLen)(Z:G.size=cap)(J:∀j x,l[j]?=some x→w.cell? ⟨g,j,none⟩=some (.int .u8 x.toNat)) :
  Calls Tryz.prog 32 #[.pointer<|some ⟨b,0,none⟩] w fun e w'=>e=.returned (.string ⟨l.toArray⟩)∧Sv g w w':=by
 have ad:l.length≠0:=by grind
 have c1:w.drew.cell? ⟨b,1,none⟩=some (.slice (some ⟨g,0,none⟩) l.length cap):=by
  have:w.drew.heap[b]?=some (.cells #[p,.slice (some ⟨g,0,none⟩) l.length cap] 97 (0,0)):=O;rw[Lib.cell_of_heap this];rfl
 have ac:(Builtin.unsafeSliceData_ #[93] 163 #[.slice (some ⟨g,0,none⟩) l.length cap]).run Tryz.prog w.drew=.ok (.pointer<|some ⟨g,0,none⟩) w.drew :=
  Lib.run_unsafeSliceData_row _ _ _ _ _ _ zo
 have Y:(Builtin.unsafeString_ #[163,3] 9 #[.pointer<|some ⟨g,0,none⟩,.int .i64 l.length]).run Tryz.prog w.drew=.ok (.string ⟨l.toArray⟩) (w.drew.freeze ⟨g,0,none⟩ l.length):=by
  refine Lib.run_unsafeString_row w.drew 163 3 9 5 Tryz.underlying163 (by kernel_rfl) g G.size (by have U:w.drew.heap[g]?=some (.cells G 5 (0,0)):=hg;simp[World.shape?,U]) l h0 zo (by grind [maxLen]) ?_
  simp_all [Addr.add_lit]
 have mixed:Tryz.prog.follows .mixedOrders=true:=by kernel_rfl
 go_enter Tryz.func32,Tryz.ntmps32
 go_wp2
 go_region_o
 all_goals (go_wp2;go_ret;exact⟨rfl,nD (w:=w.drew)⟩)
set_option maxHeartbeats 2000000 in
set_option maxRecDepth 100000 in
theorem rO(b g:Nat)(p:Value)(G:Array Value)(w:World)(J:w.heap[b]?=some (.cells #[p,.slice (some ⟨g,0,none⟩) 0 0] 97 (0,0)))(hg:w.heap[g]?=some (.cells G 5 (0,0))) :
  Calls Tryz.prog 32 #[.pointer<|some ⟨b,0,none⟩] w fun e w'=>e=.returned (.string ⟨#[]⟩)∧Sv g w w':=by
 have Y:∀(W:World) (q:Option Addr),(Builtin.unsafeString_ #[163,3] 9 #[.pointer q,.int .i64 0]).run Tryz.prog W=.ok (.string .empty) W:=fun W q=>Lib.run_unsafeString_none W _ _ _ q
 have hlt:b<w.heap.size:=by
  grind
 have U:w.drew.cell? ⟨b,1,none⟩=some (.slice (some ⟨g,0,none⟩) 0 0):=by
  have:w.drew.heap[b]?=some (.cells #[p,.slice (some ⟨g,0,none⟩) 0 0] 97 (0,0)):=J;rw[Lib.cell_of_heap this];rfl
 have Z:(Builtin.unsafeSliceData_ #[93] 163 #[.slice (some ⟨g,0,none⟩) 0 0]).run Tryz.prog w.drew=.ok (.pointer<|some ⟨w.drew.heap.size,0,none⟩) (w.drew.alloc<|.view ⟨g,0,none⟩ 5) :=
  Lib.run_unsafeSliceData_zero w.drew _ _ 5 Tryz.underlying163 ⟨g,0,none⟩ 0 (5,G.size) (by have O:w.drew.heap[g]?=some (.cells G 5 (0,0)):=hg;simp[World.shape?,O])
 have c2:(w.drew.alloc<|.view ⟨g,0,none⟩ 5).cell? ⟨b,1,none⟩=some (.slice (some ⟨g,0,none⟩) 0 0):=by
  have:(w.drew.alloc<|.view ⟨g,0,none⟩ 5).heap[b]?=_:=(Lib.alloc_old w.drew _ b hlt).trans J;rw[Lib.cell_of_heap this];rfl
 have c3:(w.alloc<|.view ⟨g,0,none⟩ 5).drew.cell? ⟨b,1,none⟩=some (.slice (some ⟨g,0,none⟩) 0 0):=c2;have c0:w.cell? ⟨b,1,none⟩=some (.slice (some ⟨g,0,none⟩) 0 0):=U;have mixed:Tryz.prog.follows .mixedOrders=true:=by kernel_rfl
 go_enter Tryz.func32,Tryz.ntmps32
 go_wp2
 go_region_o
 all_goals (go_wp2;go_ret;exact⟨rfl,QaO _<|.inl rfl⟩)
set_option maxHeartbeats 2000000 in
set_option maxRecDepth 100000 in
theorem Qc2(b g cap:Nat)(p:Value)(w:World)(G:cap≠0)(J:w.heap[b]?=some (.cells #[p,.slice (some ⟨g,0,none⟩) 0 cap] 97 (0,0))) :
  Calls Tryz.prog 32 #[.pointer<|some ⟨b,0,none⟩] w fun e w'=>e=.returned (.string ⟨#[]⟩)∧Sv g w w':=by
 have O:∀(W:World) (q:Option Addr),(Builtin.unsafeString_ #[163,3] 9 #[.pointer q,.int .i64 0]).run Tryz.prog W=.ok (.string .empty) W:=fun W q=>Lib.run_unsafeString_none W _ _ _ q
 have Y:w.drew.cell? ⟨b,1,none⟩=some (.slice (some ⟨g,0,none⟩) 0 cap):=by
  have:w.drew.heap[b]?=some (.cells #[p,.slice (some ⟨g,0,none⟩) 0 cap] 97 (0,0)):=J;rw[Lib.cell_of_heap this];rfl
 have U:(Builtin.unsafeSliceData_ #[93] 163 #[.slice (some ⟨g,0,none⟩) 0 cap]).run Tryz.prog w.drew=.ok (.pointer<|some ⟨g,0,none⟩) w.drew :=
  Lib.run_unsafeSliceData_row _ _ _ _ _ _ G
 clear G;have mixed:Tryz.prog.follows .mixedOrders=true:=by kernel_rfl
 go_enter Tryz.func32,Tryz.ntmps32
 go_wp2
 go_region_o
 all_goals (go_wp2;go_ret;exact⟨rfl,IG g w⟩)
theorem QnD:Qi8 Tryz.prog 32 97 5:=⟨QfX,fun b g cap p G l w h0 O h2 U Z Y J=>Qc1 b g cap p G l w h0 O h2 U Z Y J,rO,Qc2⟩
theorem QfY(G:Option Addr)(J hc:Nat):VC Tryz.prog 131 [.ptr 1000 0] (Go.Abs.look [(1000,.box 97 [.sfp 1000,.p<|.val<|.slice G J hc])]) fun r h'=>r=.ret (.tup [])∧h'=Go.Abs.look [(1000,.box 97 [.sfp 1000,.p<|.val<|.slice G J hc])] :=
 rG QaN rM G J hc
theorem Ff(G:Option Addr)(J hc:Nat):∀v:Unit,some ()=some v→VC Tryz.prog 131 [.ptr 1000 0] (Go.Abs.look [(1000,.box 97 [.sfp 1000,.p<|.val<|.slice G J hc])]) (JU (fun _:Unit=>((.ret<|.tup [],[(1000,.box 97 [.sfp 1000,.p<|.val<|.slice G J hc])]):KQ×zd)) v):=fun _ _=>QfY G J hc
theorem nE:∀w,bY w→∀(j:Nat) (y:List UInt8),kindsTab[j]?=some y→w.cell? ⟨0,j,none⟩=some (.string<|Xr y):=by
 intro w hw j y J;obtain⟨⟨ty,G,h0⟩,_⟩:=hw
 grind [World.cell?,Xr]
end Go.Proofs
namespace Go.Abs
open Go
variable {P:Program}
theorem rP{ρ:Go.Shelf.Ren}(L:Go.Proofs.LaysM.n171 P ρ)(U:∀w,bY w→Lib.TabIs P w "internal/strconv.uint64pow10" .u64 Lib.pow10Tab){n:Int}(h0:-9223372036854775808≤n)(O:n≤9223372036854775807) :
  Zc P (ρ.f 171) [.p<|.val<|.int .i64 n] (.ret<|.p<|.val<|.string<|Xr<|Lib.itoa n):=by
 intro φ M0 w Z r G;simp only[Ql] at G;obtain⟨y,ys,rfl,J,rfl⟩:=G;simp only[Qf,Zj] at J;subst J;refine(Go.Proofs.Any.strconv_Itoa L n h0 O w<|U w r.gm.w).mono ?_;rintro e w' ⟨rfl,k,os,rfl⟩;have hs:w.heap.size≤(Sort.grow (w.drewN k) os).heap.size:=by simp
 obtain⟨E,X,R⟩:=GR (φ:=φ) (h:=R5) (M0:=M0) (w:=w) (w':=Sort.grow (w.drewN k) os) rfl rfl rfl hs
  (fun x Y=>by grind [Sort.grow,World.drewN]) r (fun c hc=>absurd rfl hc)
 refine⟨φ,_,R5,⟨rfl,rfl⟩,R,E,_,rfl,?_⟩;simp only[Qf,Zj,Xr]
end Go.Abs
namespace Go.Proofs
open Go.Shelf
def Tryz.laysM171_ren:Go.Shelf.Ren:=⟨fun|171=>196|243=>221|246=>229|283=>236|284=>237|285=>238|286=>239|129=>241|317=>240|318=>242|319=>243|320=>244|337=>245|338=>246|n=>n,fun|3=>3|9=>9|2=>2|4=>4|171=>301|0=>0|53=>302|37=>93|5=>5|173=>305|212=>308|51=>309|20=>20|213=>310|46=>294|232=>313|233=>314|n=>n,fun|17=>1|18=>2|19=>3|n=>n⟩
theorem Tryz.laysM171:Go.Proofs.LaysM.n171 Tryz.prog Tryz.laysM171_ren:={
 mixed:=by kernel_rfl
 f129:=Tryz.func241.trans (congrArg some<|by kernel_rfl)
 f171:=Tryz.func196.trans (congrArg some<|by kernel_rfl)
 f243:=Tryz.func221.trans (congrArg some<|by kernel_rfl)
 f246:=Tryz.func229.trans (congrArg some<|by kernel_rfl)
 f283:=Tryz.func236.trans (congrArg some<|by kernel_rfl)
 f284:=Tryz.func237.trans (congrArg some<|by kernel_rfl)
 f285:=Tryz.func238.trans (congrArg some<|by kernel_rfl)
 f286:=Tryz.func239.trans (congrArg some<|by kernel_rfl)
 f317:=Tryz.func240.trans (congrArg some<|by kernel_rfl)
 f318:=Tryz.func242.trans (congrArg some<|by kernel_rfl)
 f319:=Tryz.func243.trans (congrArg some<|by kernel_rfl)
 f320:=Tryz.func244.trans (congrArg some<|by kernel_rfl)
 f337:=Tryz.func245.trans (congrArg some<|by kernel_rfl)
 f338:=Tryz.func246.trans (congrArg some<|by kernel_rfl)
 t0:=Tryz.underlying0
 a0:=Tryz.isAgg0
 z0:=Tryz.sizeOf0
 v0:=Tryz.zeroValue0
 t2:=Tryz.underlying2
 a2:=Tryz.isAgg2
 z2:=Tryz.sizeOf2
 v2:=Tryz.zeroValue2
 t3:=Tryz.underlying3
 a3:=Tryz.isAgg3
 z3:=Tryz.sizeOf3
 v3:=Tryz.zeroValue3
 t4:=Tryz.underlying4
 a4:=Tryz.isAgg4
 z4:=Tryz.sizeOf4
 v4:=Tryz.zeroValue4
 t5:=Tryz.underlying5
 a5:=Tryz.isAgg5
 z5:=Tryz.sizeOf5
 v5:=Tryz.zeroValue5
 t9:=Tryz.underlying9
 a9:=Tryz.isAgg9
 z9:=Tryz.sizeOf9
 v9:=Tryz.zeroValue9
 t20:=Tryz.underlying20
 a20:=Tryz.isAgg20
 z20:=Tryz.sizeOf20
 v20:=Tryz.zeroValue20
 t37:=Tryz.underlying93
 a37:=Tryz.isAgg93
 z37:=Tryz.sizeOf93
 v37:=Tryz.zeroValue93
 t46:=Tryz.underlying294
 a46:=Tryz.isAgg294
 z46:=Tryz.sizeOf294
 v46:=Tryz.zeroValue294
 t51:=Tryz.underlying309
 a51:=Tryz.isAgg309
 z51:=Tryz.sizeOf309
 v51:=Tryz.zeroValue309
 t53:=Tryz.underlying302
 a53:=Tryz.isAgg302
 z53:=Tryz.sizeOf302
 v53:=Tryz.zeroValue302
 t171:=Tryz.underlying301
 a171:=Tryz.isAgg301
 z171:=Tryz.sizeOf301
 v171:=Tryz.zeroValue301
 t173:=Tryz.underlying305
 a173:=Tryz.isAgg305
 z173:=Tryz.sizeOf305
 v173:=Tryz.zeroValue305
 t212:=Tryz.underlying308
 a212:=Tryz.isAgg308
 z212:=Tryz.sizeOf308
 v212:=Tryz.zeroValue308
 t213:=Tryz.underlying310
 a213:=Tryz.isAgg310
 z213:=Tryz.sizeOf310
 t232:=Tryz.underlying313
 a232:=Tryz.isAgg313
 z232:=Tryz.sizeOf313
 v232:=Tryz.zeroValue313
 t233:=Tryz.underlying314
 a233:=Tryz.isAgg314
 z233:=Tryz.sizeOf314
 v233:=Tryz.zeroValue314
 g17:=by kernel_rfl
 g18:=by kernel_rfl
 g19:=by kernel_rfl
 i0:=by kernel_rfl
 i2:=by kernel_rfl
 i3:=by kernel_rfl
 i4:=by kernel_rfl
 i5:=by kernel_rfl
 i9:=by kernel_rfl
 i20:=by kernel_rfl
 i37:=by kernel_rfl
 i46:=by kernel_rfl
 i51:=by kernel_rfl
 i53:=by kernel_rfl
 i171:=by kernel_rfl
 i173:=by kernel_rfl
 i212:=by kernel_rfl
 i232:=by kernel_rfl
 i233:=by kernel_rfl
 m17:=by kernel_rfl
 m18:=by kernel_rfl
 m19:=by kernel_rfl }
open Go Go.Abs
theorem QfZ:∀w,bY w→Lib.TabIs Tryz.prog w "internal/strconv.uint64pow10" .u64 Lib.pow10Tab:=by
 rintro w ⟨_,ty,G,hw⟩;unfold Lib.TabIs World.var?;rw[show Tryz.prog.globalNamed "internal/strconv.uint64pow10"=some 1 by kernel_rfl];simp only[Zm,hw]
theorem Qja{w:World}(h0:∃ty G,w.heap[0]?=some (.cells (kindsTab.map fun k=>Value.string ⟨k.toArray⟩).toArray ty G))(h:Lib.TabIs Tryz.prog w "internal/strconv.uint64pow10" .u64 Lib.pow10Tab):bY w:=by
 unfold Lib.TabIs World.var? at h;rw[show Tryz.prog.globalNamed "internal/strconv.uint64pow10"=some 1 by kernel_rfl] at h;simp only[Zm] at h;split at h
 ·rename_i cs ty G hc;simp only[ZA] at h;subst h;exact⟨h0,ty,G,hc⟩
 ·cases h
theorem Qf0{n:Int}(h0:-9223372036854775808≤n)(G:n≤9223372036854775807):Zc Tryz.prog 196 [.p<|.val<|.int .i64 n] (.ret<|.p<|.val<|.string<|Xr<|Lib.itoa n) :=
 rP Tryz.laysM171 QfZ h0 G
end Go.Proofs
namespace Go.Lib
theorem cells_of_stab{H:Type}{enc:TypeId×Value→H}{P:Program}{w:World}{base:Nat}{sp:Nat→Bool}{held:Bool}{G:Nat}{t e:TypeId}{n:Nat}{cs:List Value}{O:List (List UInt8)}{p:List MemPlace}(ht:P.underlying t=some (.array n e))(he:P.underlying e=some .string)(Z:P.cellsOf e=1)(Y:P.cellsOf t=n)(h:DataW.trod enc P w base sp held G t cs=some (.agg<|O.map fun z=>.lit<|.string z,p)):cs=O.map fun z=>Value.string ⟨z.toArray⟩:=by
 cases G with
|zero=>simp[DataW.trod] at h
|succ G =>
  simp only[DataW.trod,ht,Z,Y,Nat.mul_one] at h;split at h
  ·rename_i hl;obtain⟨xs,hm,hx⟩:=F3.1 h
   have J:xs.map (·.1)=O.map fun z=>(DataW.lit (.string z):DataW H):=by
    have:=congrArg Prod.fst hx;simpa using this
   have ab:xs.length=n:=by simpa using mapM_length hm
   have ac:O.length=n:=by
    have:=congrArg List.length J;simp at this;omega
   apply List.ext_getElem?;intro i;by_cases hi:i<n
   ·obtain⟨b,hb,hf⟩:=mapM_at hm i i (by simp[hi]);obtain⟨z,hc,rfl,_⟩:=DataW.trod_string he hf
    have h1:cs[i]?=some (.string z):=by
     have:=congrArg (·[0]?) hc;simpa [List.getElem?_take,List.getElem?_drop] using this
    have U:(xs.map (·.1))[i]?=some (DataW.lit (.string z.data.toList):DataW H):=by simp[hb]
    rw[J] at U;simp only[List.getElem?_map,F3,DataW.lit.injEq,Lit.string.injEq] at U;obtain⟨z',aa,e1⟩:=U;subst e1;simp[h1,aa]
   ·rw[List.getElem?_eq_none zo,List.getElem?_eq_none (by simp;omega)]
  ·cases h
end Go.Lib
namespace Go.Proofs
open Go Go.Abs
set_option maxRecDepth 100000
abbrev VI(n:Int):PV:=.val<|.int .i64 n
abbrev VU(n:Int):PV:=.val<|.int .u64 n
abbrev V8(n:Int):PV:=.val<|.int .u8 n
abbrev VB(b:Bool):PV:=.val<|.bool b
abbrev VS(s:List UInt8):PV:=.val<|.string<|Xr s
abbrev I(n:Int):AV:=.p<|.val<|.int .i64 n
abbrev B8(n:Int):AV:=.p<|.val<|.int .u8 n
abbrev B(b:Bool):AV:=.p<|.val<|.bool b
abbrev S(s:List UInt8):AV:=.p<|.val<|.string<|Xr s
def ci(n:Int):List PV:=[VI n]
abbrev mc:=List.map ci
abbrev zS:AV:=.p<|.val<|.slice none 0 0
abbrev mI:List (List PV)→List (List PV):=List.map KN
abbrev hS(w:Option Addr)(l c:Nat):Go.Abs.AV:=.p<|.val<|.slice w l c
abbrev mb:List UInt8→List (List Go.Abs.PV):=List.map Go.Abs.c8b
abbrev ZF:Go.Abs.AV:=.ptr 1000 0
abbrev XQ:Go.Abs.AV:=.ptr 1001 0
abbrev XT:Go.Abs.AV:=.ptr 1002 0
abbrev Et:Go.Abs.AV:=.ptr 1003 0
abbrev qq(n:Nat):Nat×Go.Abs.AV:=(n,.ptr n 0)
def c8(n:Int):List PV:=[V8 n]
def cb(n:Bool):List PV:=[VB n]
def Vr(n:List UInt8):List PV:=[VS n]
theorem Qe:Tryz.prog.follows .mixedOrders=true:=by kernel_rfl
structure Zk where
 Kind:Int
 Text:List UInt8
 N:Int
 At:Int
deriving DecidableEq
def Zk.cs(x:Zk):List PV:=[VI x.Kind,VS x.Text,VI x.N,VI x.At]
abbrev R8:List Zk→List (List PV):=List.map Zk.cs
structure ZN where
 Err:Int
 At:Int
deriving DecidableEq
def ZN.cs(x:ZN):List PV:=[VI x.Err,VI x.At]
abbrev HY:List ZN→List (List PV):=List.map ZN.cs
structure GN where
 Kind:Int
 Name:List UInt8
 N:Int
 At:Int
 Kids:List (List PV)
def GN.cs(x:GN):List PV:=[VI x.Kind,VS x.Name,VI x.N,VI x.At,.sl 5<|List.map KN x.Kids]
def GN.of:List PV→Option GN|[.val (.int .i64 v0),.val (.string G),.val (.int .i64 v2),.val (.int .i64 v3),.sl J v4]=>if J=5 then some ⟨v0,Hm G,v2,v3,v4⟩ else none|_=>none
theorem GN.of_cs(r:List PV)(x:GN)(h:GN.of r=some x):GN.cs x=r:=by
 unfold GN.of at h;split at h
 ·split at h
  ·rename_i hs;cases h;simp[GN.cs,lm,LC,hs]
  ·cases h
 ·cases h
structure Kh where
 tks:List Zk
 pos:Int
 length:Int
 dg:List ZN
deriving DecidableEq
def Kh.cs(x:Kh):List PV:=[.sl 4<|List.map Zk.cs x.tks,VI x.pos,VI x.length,.sl 2<|List.map ZN.cs x.dg]
structure Ba where
 Rated:Int
 Heat:Int
deriving DecidableEq
def Ba.cs(x:Ba):List PV:=[VI x.Rated,VI x.Heat]
structure Yl where
 Ambient:Int
 Most:Int
 Gain:Int
 Loss:Int
 Den:Int
deriving DecidableEq
def Yl.cs(x:Yl):List PV:=[VI x.Ambient,VI x.Most,VI x.Gain,VI x.Loss,VI x.Den]
structure Z0 where
 Name:List UInt8
 Up:Int
 Limit:Int
 Neutral:Int
 Fuse:Ba
 Cable:Yl
deriving DecidableEq
def Z0.cs(x:Z0):List PV:=[VS x.Name,VI x.Up,VI x.Limit,VI x.Neutral,VI x.Fuse.Rated,VI x.Fuse.Heat,VI x.Cable.Ambient,VI x.Cable.Most,VI x.Cable.Gain,VI x.Cable.Loss,VI x.Cable.Den]
abbrev Fg:List Z0→List (List PV):=List.map Z0.cs
structure Zt where
 Name:List UInt8
deriving DecidableEq
def Zt.cs(x:Zt):List PV:=[VS x.Name]
abbrev YE:List Zt→List (List PV):=List.map Zt.cs
structure KP where
 Name:List UInt8
 Owner:Int
 Rank:Int
 Card:Int
deriving DecidableEq
def KP.cs(x:KP):List PV:=[VS x.Name,VI x.Owner,VI x.Rank,VI x.Card]
abbrev DV:List KP→List (List PV):=List.map KP.cs
structure Kz where
 Name:List UInt8
 At:Int
 Phases:Int
 Min:Int
 Max:Int
 Step:Int
 Fallback:Int
 Owner:Int
deriving DecidableEq
def Kz.cs(x:Kz):List PV:=[VS x.Name,VI x.At,VI x.Phases,VI x.Min,VI x.Max,VI x.Step,VI x.Fallback,VI x.Owner]
abbrev Vd:List Kz→List (List PV):=List.map Kz.cs
structure Zz where
 Name:List UInt8
 Charger:Int
deriving DecidableEq
def Zz.cs(x:Zz):List PV:=[VS x.Name,VI x.Charger]
abbrev XC:List Zz→List (List PV):=List.map Zz.cs
structure Qk where
 Conductors:List Z0
 Owners:List Zt
 Contracts:List KP
 Chargers:List Kz
 Bays:List Zz
deriving DecidableEq
def Qk.cs(x:Qk):List PV:=[.sl 11<|List.map Z0.cs x.Conductors,.sl 1<|List.map Zt.cs x.Owners,.sl 4<|List.map KP.cs x.Contracts,.sl 8<|List.map Kz.cs x.Chargers,.sl 2<|List.map Zz.cs x.Bays]
structure K9 where
 kind:Int
 index:Int
deriving DecidableEq
def K9.cs(x:K9):List PV:=[VI x.kind,VI x.index]
def Q7(x:List UInt8):Value:=.string<|Xr x
def Q8(x:Bool):PV:=VB x
def Qd(x y:List UInt8):Bool:=Q0 x y
def WY(x:List UInt8):Value:=.string<|Xr x
def WZ(x:K9):PV:=.val<|.agg #[.int .i64 x.kind,.int .i64 x.index]
def Qz(x y:List UInt8):Bool:=Q0 x y
structure ZW where
 from_:Int
 to_:Int
deriving DecidableEq
def ZW.cs(x:ZW):List PV:=[VI x.from_,VI x.to_]
abbrev II:List ZW→List (List PV):=List.map ZW.cs
def LF(J O Z Y x4 x5 x6 G U x9:Nat):List (Bool×List UInt8×AV):=[(true,[108,105,109,105,116],.agg [.tsl 1 (List.map ci [1,2]) J,B false,.fn (.func 133) [] [.ptr O 0]]),(true,[110,101,117,116,114,97,108],.agg [.tsl 1 (List.map ci [1,2]) J,B false,.fn (.func 134) [] [.ptr O 0]]),(true,[102,117,115,101],.agg [.tsl 1 (List.map ci [1,2]) J,B true,.fn (.func 135) [] [.ptr O 0]]),(true,[116,104,101,114,109,97,108],.agg [.tsl 1 (List.map ci [1,2]) J,B true,.p<|.val<|.func (.func 136) #[] #[]]),(true,[102,114,111,109],.agg [.tsl 1 (List.map ci [2]) Z,B false,.fn (.func 137) [] [.ptr Y 0]]),(true,[111,119,110,101,114],.agg [.tsl 1 (List.map ci [4,5]) x4,B false,.p<|.val<|.func (.func 68) #[] #[]]),(true,[114,97,110,107],.agg [.tsl 1 (List.map ci [4]) x5,B false,.p<|.val<|.func (.func 70) #[] #[]]),(true,[99,97,114,100],.agg [.tsl 1 (List.map ci [4]) x6,B false,.p<|.val<|.func (.func 72) #[] #[]]),(true,[97,116],.agg [.tsl 1 (List.map ci [5]) G,B false,.p<|.val<|.func (.func 74) #[] #[]]),(true,[112,104,97,115,101,115],.agg [.tsl 1 (List.map ci [5]) G,B false,.p<|.val<|.func (.func 75) #[] #[]]),(true,[97,109,112,115],.agg [.tsl 1 (List.map ci [5]) G,B false,.fn (.func 77) [] [.ptr U 0]]),(true,[102,97,108,108,98,97,99,107],.agg [.tsl 1 (List.map ci [5]) G,B false,.p<|.val<|.func (.func 78) #[] #[]]),(true,[99,104,97,114,103,101,114],.agg [.tsl 1 (List.map ci [6]) x9,B false,.p<|.val<|.func (.func 79) #[] #[]])]
structure ja where
 diag:ZN
deriving DecidableEq
def ja.cs(x:ja):List PV:=[VI x.diag.Err,VI x.diag.At]
def QnE(J O Z Y x4 x5 x6 G U:Nat):List (Bool×List UInt8×AV):=[(true,[108,105,109,105,116],.agg [.tsl 1 (List.map ci [1,2]) J,B false,.fn (.func 133) [] [.ptr O 0]]),(true,[110,101,117,116,114,97,108],.agg [.tsl 1 (List.map ci [1,2]) J,B false,.fn (.func 134) [] [.ptr O 0]]),(true,[102,117,115,101],.agg [.tsl 1 (List.map ci [1,2]) J,B true,.fn (.func 135) [] [.ptr O 0]]),(true,[116,104,101,114,109,97,108],.agg [.tsl 1 (List.map ci [1,2]) J,B true,.p<|.val<|.func (.func 136) #[] #[]]),(true,[102,114,111,109],.agg [.tsl 1 (List.map ci [2]) Z,B false,.fn (.func 137) [] [.ptr Y 0]]),(true,[111,119,110,101,114],.agg [.tsl 1 (List.map ci [4,5]) x4,B false,.p<|.val<|.func (.func 68) #[] #[]]),(true,[114,97,110,107],.agg [.tsl 1 (List.map ci [4]) x5,B false,.p<|.val<|.func (.func 70) #[] #[]]),(true,[99,97,114,100],.agg [.tsl 1 (List.map ci [4]) x6,B false,.p<|.val<|.func (.func 72) #[] #[]]),(true,[97,116],.agg [.tsl 1 (List.map ci [5]) G,B false,.p<|.val<|.func (.func 74) #[] #[]]),(true,[112,104,97,115,101,115],.agg [.tsl 1 (List.map ci [5]) G,B false,.p<|.val<|.func (.func 75) #[] #[]]),(true,[97,109,112,115],.agg [.tsl 1 (List.map ci [5]) G,B false,.fn (.func 77) [] [.ptr U 0]]),(true,[102,97,108,108,98,97,99,107],.agg [.tsl 1 (List.map ci [5]) G,B false,.p<|.val<|.func (.func 78) #[] #[]])]
def QnF(G O Z Y x4 x5 x6 J U:Nat):List (Bool×List UInt8×AV):=[(true,[108,105,109,105,116],.agg [.tsl 1 (List.map ci [1,2]) G,B false,.fn (.func 133) [] [.ptr O 0]]),(true,[110,101,117,116,114,97,108],.agg [.tsl 1 (List.map ci [1,2]) G,B false,.fn (.func 134) [] [.ptr O 0]]),(true,[102,117,115,101],.agg [.tsl 1 (List.map ci [1,2]) G,B true,.fn (.func 135) [] [.ptr O 0]]),(true,[116,104,101,114,109,97,108],.agg [.tsl 1 (List.map ci [1,2]) G,B true,.p<|.val<|.func (.func 136) #[] #[]]),(true,[102,114,111,109],.agg [.tsl 1 (List.map ci [2]) Z,B false,.fn (.func 137) [] [.ptr Y 0]]),(true,[111,119,110,101,114],.agg [.tsl 1 (List.map ci [4,5]) x4,B false,.p<|.val<|.func (.func 68) #[] #[]]),(true,[114,97,110,107],.agg [.tsl 1 (List.map ci [4]) x5,B false,.p<|.val<|.func (.func 70) #[] #[]]),(true,[99,97,114,100],.agg [.tsl 1 (List.map ci [4]) x6,B false,.p<|.val<|.func (.func 72) #[] #[]]),(true,[97,116],.agg [.tsl 1 (List.map ci [5]) J,B false,.p<|.val<|.func (.func 74) #[] #[]]),(true,[112,104,97,115,101,115],.agg [.tsl 1 (List.map ci [5]) J,B false,.p<|.val<|.func (.func 75) #[] #[]]),(true,[97,109,112,115],.agg [.tsl 1 (List.map ci [5]) J,B false,.fn (.func 77) [] [.ptr U 0]])]
def QnG(G J Y U x4 x5 Z O:Nat):List (Bool×List UInt8×AV):=[(true,[108,105,109,105,116],.agg [.tsl 1 (List.map ci [1,2]) G,B false,.fn (.func 133) [] [.ptr J 0]]),(true,[110,101,117,116,114,97,108],.agg [.tsl 1 (List.map ci [1,2]) G,B false,.fn (.func 134) [] [.ptr J 0]]),(true,[102,117,115,101],.agg [.tsl 1 (List.map ci [1,2]) G,B true,.fn (.func 135) [] [.ptr J 0]]),(true,[116,104,101,114,109,97,108],.agg [.tsl 1 (List.map ci [1,2]) G,B true,.p<|.val<|.func (.func 136) #[] #[]]),(true,[102,114,111,109],.agg [.tsl 1 (List.map ci [2]) Y,B false,.fn (.func 137) [] [.ptr U 0]]),(true,[111,119,110,101,114],.agg [.tsl 1 (List.map ci [4,5]) x4,B false,.p<|.val<|.func (.func 68) #[] #[]]),(true,[114,97,110,107],.agg [.tsl 1 (List.map ci [4]) x5,B false,.p<|.val<|.func (.func 70) #[] #[]]),(true,[99,97,114,100],.agg [.tsl 1 (List.map ci [4]) Z,B false,.p<|.val<|.func (.func 72) #[] #[]]),(true,[97,116],.agg [.tsl 1 (List.map ci [5]) O,B false,.p<|.val<|.func (.func 74) #[] #[]]),(true,[112,104,97,115,101,115],.agg [.tsl 1 (List.map ci [5]) O,B false,.p<|.val<|.func (.func 75) #[] #[]])]
def UR(x:Int):Value:=.int .i64 x
def UT(x:Bool):PV:=VB x
def Zr(x y:Int):Bool:=Qp x y
def Qb(x:Int×Int×Int):List PV:=[VI x.1,VI x.2.1,VI x.2.2]
structure Zq where
 Conductor:Int
 Phase:Int
 Amps:Int
deriving DecidableEq
def Zq.cs(x:Zq):List PV:=[VI x.Conductor,VI x.Phase,VI x.Amps]
structure KF where
 Cable:Yl
 now:Int
deriving DecidableEq
def KF.cs(x:KF):List PV:=[VI x.Cable.Ambient,VI x.Cable.Most,VI x.Cable.Gain,VI x.Cable.Loss,VI x.Cable.Den,VI x.now]
structure Sz where
 conductor:Int
 phase:Int
deriving DecidableEq
def Sz.cs(x:Sz):List PV:=[VI x.conductor,VI x.phase]
structure JG where
 Sums:List (Int×Int×Int)
deriving DecidableEq
def JG.cs(x:JG):List PV:=[.sl 3<|List.map Qb x.Sums]
structure DW where
 text:List UInt8
deriving DecidableEq
def LY(n:Nat)(G:Int):Option Bool :=cond (Qp G 32) (some true)<|cond (Qp G 9) (some true)<|some<|Qp G 10
theorem SA(n:Nat)(G:Int):∀r,LY n G=some r→Zc Tryz.prog 54 [B8 G] (.ret<|B r):=by
 refine Qx Tryz.func54 rfl Tryz.ntmps54 rfl ?_;unfold LY;exact Qg Qe ⟨[(0,B8 G)],[]⟩<|sS<|sG<|xR 3<|xS (Qp G 32) (fun O=>xN (Q4 O)<|xR 7<|xE<|Qm ⟨[(2,B true)],[]⟩<|sT<|qR<|.id) fun O=>xO (Q3 O)<|xR 3<|xS (Qp G 9) (fun J=>xN (Q4 J)<|xR 3<|xE<|Qm ⟨[(2,B true)],[]⟩<|sT<|qR<|.id) fun J=>xO (Q3 J)<|xR 3<|xE<|Qm ⟨[(2,B<|Qp G 10)],[]⟩<|sT<|qR<|.id
def Ht(n:Nat)(G:Int):Option Bool :=cond (leI 97 G) (some<|leI G 122)<|some false
theorem MO(n:Nat)(G:Int):∀r,Ht n G=some r→Zc Tryz.prog 112 [B8 G] (.ret<|B r):=by
 refine Qx Tryz.func112 rfl Tryz.ntmps112 rfl ?_;unfold Ht;exact Qg Qe ⟨[(0,B8 G)],[]⟩<|sS<|sG<|xR 3<|xS (leI 97 G) (fun J=>xO (QD J)<|xR 3<|xE<|Qm ⟨[(2,B<|leI G 122)],[]⟩<|sT<|qR<|.id) fun J=>xN (QE J)<|xR 3<|xE<|Qm ⟨[(2,B false)],[]⟩<|sT<|qR<|.id
def XD(n:Nat)(G:Int):Option Bool :=cond (leI 48 G) (some<|leI G 57)<|some false
theorem RF(n:Nat)(G:Int):∀r,XD n G=some r→Zc Tryz.prog 113 [B8 G] (.ret<|B r):=by
 refine Qx Tryz.func113 rfl Tryz.ntmps113 rfl ?_;unfold XD;exact Qg Qe ⟨[(0,B8 G)],[]⟩<|sS<|sG<|xR 3<|xS (leI 48 G) (fun J=>xO (QD J)<|xR 3<|xE<|Qm ⟨[(2,B<|leI G 57)],[]⟩<|sT<|qR<|.id) fun J=>xN (QE J)<|xR 3<|xE<|Qm ⟨[(2,B false)],[]⟩<|sT<|qR<|.id
def FM(n:Nat)(G:Int):Option Bool :=cond (Qp G 59) (some true)<|cond (Qp G 123) (some true)<|some<|Qp G 125
theorem kT(n:Nat)(G:Int):∀r,FM n G=some r→Zc Tryz.prog 114 [B8 G] (.ret<|B r):=by
 refine Qx Tryz.func114 rfl Tryz.ntmps114 rfl ?_;unfold FM;exact Qg Qe ⟨[(0,B8 G)],[]⟩<|sS<|sG<|xR 3<|xS (Qp G 59) (fun O=>xN (Q4 O)<|xR 7<|xE<|Qm ⟨[(2,B true)],[]⟩<|sT<|qR<|.id) fun O=>xO (Q3 O)<|xR 3<|xS (Qp G 123) (fun J=>xN (Q4 J)<|xR 3<|xE<|Qm ⟨[(2,B true)],[]⟩<|sT<|qR<|.id) fun J=>xO (Q3 J)<|xR 3<|xE<|Qm ⟨[(2,B<|Qp G 125)],[]⟩<|sT<|qR<|.id
def RG(n:Nat)(G:Int):Option Int :=(LY n G).bind fun r1 =>cond r1 (some 1)<|cond (Qp G 35) (some 2)<|(Ht n G).bind fun U =>cond U (some 3)<|(XD n G).bind fun J =>cond J (some 4)<|(FM n G).bind fun O =>cond O (some 5)<|some 0
theorem vL(n:Nat)(G:Int):∀r,RG n G=some r→Zc Tryz.prog 52 [B8 G] (.ret<|I r):=by
 refine Qx Tryz.func52 rfl Tryz.ntmps52 rfl ?_;unfold RG;refine Qg Qe ⟨[(0,B8 G)],[]⟩<|sS<|sB<|sS<|sG<|xR 1 ?_;refine xC [] (SA n G) QW fun r1=>?_;refine xR 1<|xE<|Qm ⟨[(0,B8 G),(3,B r1)],[]⟩<|sC r1 Qa (Qg Qe ⟨[(2,I 1)],[]⟩<|sT<|Zg<|Q5<|qR<|.id)<|Qg Qe ⟨[(0,B8 G),(6,B<|Qp G 35)],[]⟩<|sC (Qp G 35) Qa (Qg Qe ⟨[(2,I 2)],[]⟩<|sT<|Zg<|Q5<|qR<|.id)<|sS<|sG<|xR 1 ?_;refine xC [] (MO n G) QW fun U=>?_;refine xR 1<|xE<|Qm ⟨[(0,B8 G),(9,B U)],[]⟩<|sC U Qa (Qg Qe ⟨[(2,I 3)],[]⟩<|sT<|Zg<|Q5<|qR<|.id)<|sS<|sG<|xR 1 ?_;refine xC [] (RF n G) QW fun J=>?_;refine xR 1<|xE<|Qm ⟨[(0,B8 G),(12,B J)],[]⟩<|sC J Qa (Qg Qe ⟨[(2,I 4)],[]⟩<|sT<|Zg<|Q5<|qR<|.id)<|sS<|sG<|xR 1 ?_;refine xC [] (kT n G) QW fun O=>?_;exact xR 1<|xE<|Qm ⟨[(15,B O)],[]⟩<|sC O Qa (Qg Qe ⟨[(2,I 5)],[]⟩<|sT<|Zg<|Q5<|qR<|.id)<|sK<|QS<|Qm ⟨[],[]⟩<|Qg Qe ⟨[(2,I 0)],[]⟩<|sT<|qR<|.id
def TC(n:Nat)(J:List UInt8)(G:Int→Option Int)(O:Int):Option Int :=(cond (QC O<|Qc J) ((QT J O).bind fun Y =>(LY n<|Ky Y).bind fun U =>some U)<|some false).bind fun Z =>cond Z (G<|wi<|O+1)<|some O
def SB(n:Nat)(O:List UInt8)(G:Int):Option Int :=QB (fun J U=>TC n O J U) n G
def tq0:=fun O G J=>([(0,S O),(1,I G),(2,.p<|.val J)]:zj)
def tq1:=fun O G J=>([(0,S O),(2,.p<|.val G),(7,I J)]:zj)
def sq0:=fun O G J=>(⟨tq1 O G J,[]⟩:St)
def tq2:=fun U G J O=>([(0,S U),(2,.p<|.val G),(7,I J),(19,B O)]:zj)
theorem nG(n:Nat)(J:List UInt8)(G:Int):∀r,SB n J G=some r→Zc Tryz.prog 53 [S J,I G,.p<|.val<|.func (.func 54) #[] #[]] (.ret<|I r):=by
 refine Qx Tryz.func53 rfl Tryz.ntmps53 rfl ?_;unfold SB;refine Qg Qe ⟨tq0 J G<|.func (.func 54) #[] #[],[]⟩<|Qg Qe (sq0 J (.func (.func 54) #[] #[]) G)<|sS<|sB<|QF (fun O=>(sq0 J (.func (.func 54) #[] #[]) O):Int→St) (Ug) ?_;rintro U O;show QZ (TC n J U O) _ _ _ _ _ _;unfold TC;refine sS<|YI (fun Z=>⟨tq2 J (.func (.func 54) #[] #[]) O Z,[]⟩:Bool→St) ?_ ?_
 ·refine sG (xR 5<|xS (QC O<|Qc J) (fun Y=>?_) fun Y=>?_)
  ·refine xO (QD Y)<|xR 2<|xG (Uw (l:=J) (k:=.i64) (n:=O) rfl Qa Qa Qa) fun x4=>?_;refine xC [] (SA n<|Ky x4) QW fun r5=>?_;exact xR 1<|xE<|Q9 r5 Qa
  exact xN (QE Y)<|xR 5<|xE<|Q9 false Qa
 rintro Z;exact sC Z Qa (sK<|Qm (sq0 J (.func (.func 54) #[] #[]) O)<|sB<|sL Qe<|QS<|Yk<|wi<|O+1)<|Qs<|ZG<|KS<|QM<|Qm ⟨[(7,I O)],[]⟩<|Qg Qe ⟨[(6,I O)],[]⟩<|sT<|qR<|.id
def IJ(n:Nat)(G:Int):Option Bool :=some (!Qp G 10)
theorem xX(n:Nat)(G:Int):∀r,IJ n G=some r→Zc Tryz.prog 51 [B8 G] (.ret<|B r):=by
 refine Qx Tryz.func51 rfl Tryz.ntmps51 rfl ?_;unfold IJ;exact Qg Qe ⟨[(0,B8 G)],[]⟩<|Qg Qe ⟨[(2,B (!Qp G 10))],[]⟩<|sT<|qR<|.id
def TN(n:Nat)(J:List UInt8)(G:Int→Option Int)(O:Int):Option Int :=(cond (QC O<|Qc J) ((QT J O).bind fun Y =>(IJ n<|Ky Y).bind fun U =>some U)<|some false).bind fun Z =>cond Z (G<|wi<|O+1)<|some O
def CJ(n:Nat)(O:List UInt8)(G:Int):Option Int :=QB (fun J U=>TN n O J U) n G
theorem vM(n:Nat)(J:List UInt8)(G:Int):∀r,CJ n J G=some r→Zc Tryz.prog 53 [S J,I G,.p<|.val<|.func (.func 51) #[] #[]] (.ret<|I r):=by
 refine Qx Tryz.func53 rfl Tryz.ntmps53 rfl ?_;unfold CJ;refine Qg Qe ⟨tq0 J G<|.func (.func 51) #[] #[],[]⟩<|Qg Qe (sq0 J (.func (.func 51) #[] #[]) G)<|sS<|sB<|QF (fun O=>(sq0 J (.func (.func 51) #[] #[]) O):Int→St) (Ug) ?_;rintro U O;show QZ (TN n J U O) _ _ _ _ _ _;unfold TN;refine sS<|YI (fun Z=>⟨tq2 J (.func (.func 51) #[] #[]) O Z,[]⟩:Bool→St) ?_ ?_
 ·refine sG (xR 5<|xS (QC O<|Qc J) (fun Y=>?_) fun Y=>?_)
  ·refine xO (QD Y)<|xR 2<|xG (Uw (l:=J) (k:=.i64) (n:=O) rfl Qa Qa Qa) fun x4=>?_;refine xC [] (xX n<|Ky x4) QW fun r5=>?_;exact xR 1<|xE<|Q9 r5 Qa
  exact xN (QE Y)<|xR 5<|xE<|Q9 false Qa
 rintro Z;exact sC Z Qa (sK<|Qm (sq0 J (.func (.func 51) #[] #[]) O)<|sB<|sL Qe<|QS<|Yk<|wi<|O+1)<|Qs<|ZG<|KS<|QM<|Qm ⟨[(7,I O)],[]⟩<|Qg Qe ⟨[(6,I O)],[]⟩<|sT<|qR<|.id
def XE(n:Nat)(G:Int):Option Bool :=(Ht n G).bind fun r1 =>cond r1 (some true)<|(XD n G).bind fun J =>cond J (some true)<|some<|Qp G 95
theorem SC(n:Nat)(G:Int):∀r,XE n G=some r→Zc Tryz.prog 115 [B8 G] (.ret<|B r):=by
 refine Qx Tryz.func115 rfl Tryz.ntmps115 rfl ?_;unfold XE;refine Qg Qe ⟨[(0,B8 G)],[]⟩<|sS<|sG<|xR 1 ?_;refine xC [] (MO n G) QW fun r1=>?_;refine xR 1<|xS r1 (fun O=>xN (Q4 O)<|xR 7<|xE<|Qm ⟨[(2,B true)],[]⟩<|sT<|qR<|.id) fun O=>xO (Q3 O) ?_;refine xC [] (RF n G) QW fun U=>?_;exact xR 2<|xS U (fun J=>xN (Q4 J)<|xR 3<|xE<|Qm ⟨[(2,B true)],[]⟩<|sT<|qR<|.id) fun J=>xO (Q3 J)<|xR 3<|xE<|Qm ⟨[(2,B<|Qp G 95)],[]⟩<|sT<|qR<|.id
def Fh(n:Nat)(J:List UInt8)(G:Int→Option Int)(O:Int):Option Int :=(cond (QC O<|Qc J) ((QT J O).bind fun Y =>(XE n<|Ky Y).bind fun U =>some U)<|some false).bind fun Z =>cond Z (G<|wi<|O+1)<|some O
def CK(n:Nat)(O:List UInt8)(G:Int):Option Int :=QB (fun J U=>Fh n O J U) n G
theorem vN(n:Nat)(J:List UInt8)(G:Int):∀r,CK n J G=some r→Zc Tryz.prog 53 [S J,I G,.p<|.val<|.func (.func 115) #[] #[]] (.ret<|I r):=by
 refine Qx Tryz.func53 rfl Tryz.ntmps53 rfl ?_;unfold CK;refine Qg Qe ⟨tq0 J G<|.func (.func 115) #[] #[],[]⟩<|Qg Qe (sq0 J (.func (.func 115) #[] #[]) G)<|sS<|sB<|QF (fun O=>(sq0 J (.func (.func 115) #[] #[]) O):Int→St) (Ug) ?_;rintro U O;show QZ (Fh n J U O) _ _ _ _ _ _;unfold Fh;refine sS<|YI (fun Z=>⟨tq2 J (.func (.func 115) #[] #[]) O Z,[]⟩:Bool→St) ?_ ?_
 ·refine sG (xR 5<|xS (QC O<|Qc J) (fun Y=>?_) fun Y=>?_)
  ·refine xO (QD Y)<|xR 2<|xG (Uw (l:=J) (k:=.i64) (n:=O) rfl Qa Qa Qa) fun x4=>?_;refine xC [] (SC n<|Ky x4) QW fun r5=>?_;exact xR 1<|xE<|Q9 r5 Qa
  exact xN (QE Y)<|xR 5<|xE<|Q9 false Qa
 rintro Z;exact sC Z Qa (sK<|Qm (sq0 J (.func (.func 115) #[] #[]) O)<|sB<|sL Qe<|QS<|Yk<|wi<|O+1)<|Qs<|ZG<|KS<|QM<|Qm ⟨[(7,I O)],[]⟩<|Qg Qe ⟨[(6,I O)],[]⟩<|sT<|qR<|.id
def Fj(n:Nat)(J:List UInt8)(G:Int→Option Int)(O:Int):Option Int :=(cond (QC O<|Qc J) ((QT J O).bind fun Y =>(XD n<|Ky Y).bind fun U =>some U)<|some false).bind fun Z =>cond Z (G<|wi<|O+1)<|some O
def CL(n:Nat)(O:List UInt8)(G:Int):Option Int :=QB (fun J U=>Fj n O J U) n G
theorem vO(n:Nat)(J:List UInt8)(G:Int):∀r,CL n J G=some r→Zc Tryz.prog 53 [S J,I G,.p<|.val<|.func (.func 113) #[] #[]] (.ret<|I r):=by
 refine Qx Tryz.func53 rfl Tryz.ntmps53 rfl ?_;unfold CL;refine Qg Qe ⟨tq0 J G<|.func (.func 113) #[] #[],[]⟩<|Qg Qe (sq0 J (.func (.func 113) #[] #[]) G)<|sS<|sB<|QF (fun O=>(sq0 J (.func (.func 113) #[] #[]) O):Int→St) (Ug) ?_;rintro U O;show QZ (Fj n J U O) _ _ _ _ _ _;unfold Fj;refine sS<|YI (fun Z=>⟨tq2 J (.func (.func 113) #[] #[]) O Z,[]⟩:Bool→St) ?_ ?_
 ·refine sG (xR 5<|xS (QC O<|Qc J) (fun Y=>?_) fun Y=>?_)
  ·refine xO (QD Y)<|xR 2<|xG (Uw (l:=J) (k:=.i64) (n:=O) rfl Qa Qa Qa) fun x4=>?_;refine xC [] (RF n<|Ky x4) QW fun r5=>?_;exact xR 1<|xE<|Q9 r5 Qa
  exact xN (QE Y)<|xR 5<|xE<|Q9 false Qa
 rintro Z;exact sC Z Qa (sK<|Qm (sq0 J (.func (.func 113) #[] #[]) O)<|sB<|sL Qe<|QS<|Yk<|wi<|O+1)<|Qs<|ZG<|KS<|QM<|Qm ⟨[(7,I O)],[]⟩<|Qg Qe ⟨[(6,I O)],[]⟩<|sT<|qR<|.id
def Wj(G:List UInt8)(U:(Int×Int)→Option (Int×Int))(J:Int)(O:Int):Option (Int×Int) :=cond (QC O<|Qc G) ((QT G O).bind fun Y =>cond (QC 1000000<|wi<|(wi<|10*J)+(wi<|w8<|(Ky Y)-48)) (some (0,3))<|U (wi<|(wi<|10*J)+(wi<|w8<|(Ky Y)-48),wi<|O+1))<|some (J,0)
def Du(n:Nat)(G:List UInt8):Option (Int×Int) :=(cond (QC 1<|Qc G) ((QT G 0).bind fun Z =>some<|Qp (Ky Z) 48)<|some false).bind fun Y =>cond Y (some (0,7))<|QB (fun J (O,U)=>Wj G J O U) n (0,0)
def tq3:=fun O G J=>([(0,S O),(4,I G),(5,I J)]:zj)
theorem xY(n:Nat)(G:List UInt8):∀r,Du n G=some r→Zc Tryz.prog 116 [S G] (.ret<|.tup [I r.1,I r.2]):=by
 refine Qx Tryz.func116 rfl Tryz.ntmps116 rfl ?_;unfold Du;refine Qg Qe ⟨[(0,S G)],[]⟩<|sS<|YI (fun Z=>⟨[(0,S G),(13,B Z)],[]⟩:Bool→St) (sG<|xR 4<|xS (QC 1<|Qc G) (fun h2=>xO (QD h2)<|xG (Uw (l:=G) (k:=.i64) (n:=0) rfl Qa Qa Qa) fun x3=>xR 2<|xE<|Q9 (Qp (Ky x3) 48) Qa) fun h2=>xN (QE h2)<|xR 3<|xE<|Q9 false Qa) ?_;rintro Z;refine sC Z Qa (Qg Qe ⟨[(2,I 0),(3,I 7)],[]⟩<|sT<|Q5<|qR<|.id)<|sK<|Qm ⟨[(0,S G)],[]⟩<|Qg Qe ⟨[(0,S G),(4,I 0)],[]⟩<|sS<|Qg Qe ⟨[(0,S G),(4,I 0),(5,I 0)],[]⟩<|sB<|QF (fun(J,O)=>⟨tq3 G J O,[]⟩:(Int×Int)→St) (Ug) ?_;rintro U ⟨J,O⟩;show QZ (Wj G U J O) _ _ _ _ _ _;unfold Wj;exact sS<|Qg Qe ⟨[(0,S G),(4,I J),(5,I O),(17,B<|QC O<|Qc G)],[]⟩<|sC (QC O<|Qc G) Qa (sK<|Qm ⟨tq3 G J O,[]⟩<|sS<|sB<|sS<|sG<|xR 4<|xG (Uw (l:=G) (k:=.i64) (n:=O) rfl Qa Qa Qa) fun Y=>xR 4<|xE<|Qm ⟨tq3 G (wi<|(wi<|10*J)+(wi<|w8<|(Ky Y)-48)) O,[]⟩<|Qg Qe ⟨[(0,S G),(4,I<|wi<|(wi<|10*J)+(wi<|w8<|(Ky Y)-48)),(5,I O),(29,B<|QC 1000000<|wi<|(wi<|10*J)+(wi<|w8<|(Ky Y)-48))],[]⟩<|sC (QC 1000000<|wi<|(wi<|10*J)+(wi<|w8<|(Ky Y)-48)) Qa (Qg Qe ⟨[(2,I 0),(3,I 3)],[]⟩<|sT<|Zg<|Q5<|YL<|Zg<|Q5<|qR<|.id)<|sK<|QS<|Qm ⟨tq3 G (wi<|(wi<|10*J)+(wi<|w8<|(Ky Y)-48)) O,[]⟩<|sL Qe<|Yk (wi<|(wi<|10*J)+(wi<|w8<|(Ky Y)-48),wi<|O+1))<|Qs<|ZG<|KS<|QM<|Qm ⟨[(4,I J)],[]⟩<|Qg Qe ⟨[(2,I J),(3,I 0)],[]⟩<|sT<|qR<|.id
def Dv(n:Nat)(O:List UInt8)(G:Int)(J:Int):Option (Zk×Int×Int) :=cond (Qp J 3) ((CK n O G).bind fun r1 =>cond (QC 12<|wi<|r1-G) (some ((⟨0,[],0,0⟩:Zk),r1,3))<|cond (sliceB G r1<|List.length O) (some ((⟨1,List.drop (Int.toNat G)<|List.take (Int.toNat r1) O,0,G⟩:Zk),r1,0)) none)<|cond (Qp J 4) ((CL n O G).bind fun U =>cond (sliceB G U<|List.length O) ((Du n<|List.drop (Int.toNat G)<|List.take (Int.toNat U) O).bind fun Y =>cond (!Qp Y.2 0) (some ((⟨0,[],0,0⟩:Zk),U,Y.2))<|some ((⟨2,[],Y.1,G⟩:Zk),U,0)) none)<|cond (Qp J 5) (cond (sliceB G (wi<|G+1)<|List.length O) (some ((⟨3,List.drop (Int.toNat G)<|List.take (Int.toNat<|wi<|G+1) O,0,G⟩:Zk),wi<|G+1,0)) none)<|some ((⟨0,[],0,0⟩:Zk),G,7)
def lY:=fun O G J=>([(6,.box 87 [I O,S [],I G,I J])]:zd)
def sq1:=fun J U G Y O=>(⟨[(6,.ptr 6 0),(7,I J),(8,I U)],lY G Y O⟩:St)
def bq0:=fun O U J G=>(.box 87 [I O,S U,I J,I G]:Blk)
theorem xZ(n:Nat)(O:List UInt8)(G:Int)(J:Int):∀r,Dv n O G J=some r→Zc Tryz.prog 55 [S O,I G,I J] (.ret<|.tup [ag<|Zk.cs r.1,I r.2.1,I r.2.2]):=by
 refine Qx Tryz.func55 rfl Tryz.ntmps55 rfl ?_;unfold Dv;refine Qg Qe ⟨[(0,S O),(1,I G),(2,I J),qq 6],lY 0 0 0⟩<|sS<|Qg Qe ⟨[(0,S O),(1,I G),qq 6,(13,I J)],lY 0 0 0⟩<|sB<|Qg Qe ⟨[(0,S O),(1,I G),qq 6,(13,I J),(14,B<|Qp J 3)],lY 0 0 0⟩<|sC (Qp J 3) Qa ?_ ?_
 ·refine sS<|sG<|xR 2 ?_;refine xC [] (vN n O G) QW fun r1=>?_;exact xR 1<|xE<|Qm ⟨[(0,S O),(1,I G),qq 6,(9,I r1)],lY 0 0 0⟩<|sS<|Qg Qe ⟨[(0,S O),(1,I G),qq 6,(9,I r1),(22,B<|QC 12<|wi<|r1-G)],lY 0 0 0⟩<|sC (QC 12<|wi<|r1-G) Qa (Qg Qe (sq1 r1 3 0 0 0)<|sT<|Q5<|Zg<|Q5<|qR<|.id)<|sK<|Qm ⟨[(0,S O),(1,I G),qq 6,(9,I r1)],lY 0 0 0⟩<|sS<|sG<|xR 3<|xF (P6 (l:=O) (a:=G) (b:=r1) rfl Qa Qa Qa Qa)<|xR 6<|xE<|Qm ⟨[qq 6,(7,I r1),(8,I 0)],[(6,(bq0 1 (List.drop (Int.toNat G)<|List.take (Int.toNat r1) O) 0 G))]⟩<|sT<|Zg<|Q5<|qR<|.id
 refine Qg Qe ⟨[(0,S O),(1,I G),qq 6,(13,I J),(32,B<|Qp J 4)],lY 0 0 0⟩<|sC (Qp J 4) Qa (sS<|sG<|xR 2 ?_)<|Qg Qe ⟨[(0,S O),(1,I G),qq 6,(54,B<|Qp J 5)],lY 0 0 0⟩<|sC (Qp J 5) Qa (sS<|sG<|xR 4<|xF (P6 (l:=O) (a:=G) (b:=wi<|G+1) rfl Qa Qa Qa Qa)<|xR 7<|xE<|Qm ⟨[qq 6,(7,I<|wi<|G+1),(8,I 0)],[(6,(bq0 3 (List.drop (Int.toNat G)<|List.take (Int.toNat<|wi<|G+1) O) 0 G))]⟩<|sT<|Zg<|Q5<|qR<|.id)<|sK<|QS<|Qm ⟨[(1,I G),qq 6],lY 0 0 0⟩<|Qg Qe (sq1 G 7 0 0 0)<|sT<|qR<|.id;refine xC [] (vO n O G) QW fun Y=>?_;refine xR 1<|xE<|Qm ⟨[(0,S O),(1,I G),qq 6,(10,I Y)],lY 0 0 0⟩<|sS<|sG<|xR 3<|xF (P6 (l:=O) (a:=G) (b:=Y) rfl Qa Qa Qa Qa) ?_;refine xC [] (xY n<|List.drop (Int.toNat G)<|List.take (Int.toNat Y) O) QW fun U=>?_;exact xR 5<|xE<|Qm ⟨[(1,I G),qq 6,(10,I Y),(11,I U.1),(12,I U.2)],lY 0 0 0⟩<|sS<|Qg Qe ⟨[(1,I G),qq 6,(10,I Y),(11,I U.1),(12,I U.2),(46,B (!Qp U.2 0))],lY 0 0 0⟩<|sC (!Qp U.2 0) Qa (Qg Qe (sq1 Y U.2 0 0 0)<|sT<|Q5<|Zg<|Q5<|qR<|.id)<|sK<|Qm ⟨[(1,I G),qq 6,(10,I Y),(11,I U.1)],lY 0 0 0⟩<|Qg Qe (sq1 Y 0 2 U.1 G)<|sT<|Zg<|Q5<|qR<|.id
def JH(n:Nat)(U:List UInt8)(O:((List Zk)×Int)→Option ((List Zk)×Int×Int))(J:List Zk)(G:Int):Option ((List Zk)×Int×Int) :=cond (QC G<|Qc U) ((QT U G).bind fun x2 =>(RG n<|Ky x2).bind fun Z =>cond (Qp Z 1) ((SB n U G).bind fun r4 =>O (J,r4))<|cond (Qp Z 2) ((CJ n U G).bind fun r5 =>O (J,r5))<|cond (Qp (Qc<|List.map Zk.cs J) 2000) (some ([],2,G))<|(Dv n U G Z).bind fun Y =>cond (!Qp Y.2.2 0) (some ([],Y.2.2,G))<|cond (QX (List.length<|J++[Y.1]) 40) (O (J++[Y.1],Y.2.1)) none)<|some (J,0,0)
def SE(n:Nat)(J:List UInt8):Option ((List Zk)×Int×Int) :=cond (QC 8000<|Qc J) (some ([],2,0))<|QB (fun G (U,O)=>JH n J G U O) n ([],0)
def tq4:=fun J G=>([(2,.p<|.val<|.slice none 0 0),(3,I J),(4,I G)]:zj)
def tq5:=fun G=>([(0,S G),(5,.p<|.val<|.slice none 0 0),(6,.p<|.val<|.func (.func 51) #[] #[]),(7,I 0)]:zj)
def tq6:=fun O G J=>([(0,S O),(5,.tsl 4 (List.map Zk.cs G) 54),(6,.p<|.val<|.func (.func 51) #[] #[]),(7,I J)]:zj)
def bq1:=fun G=>(.arr 87 4 (List.map Zk.cs G).length:Blk)
def Po:=fun G=>([(54,(bq1 G))]:zd)
def tq7:=fun U G J O=>([(0,S U),(5,.tsl 4 (List.map Zk.cs G) 54),(6,.p<|.val<|.func (.func 51) #[] #[]),(7,I J),(8,I O)]:zj)
def Dw:=fun J G=>([(9,.box 87<|KT<|Zk.cs J),(54,(bq1 G))]:zd)
theorem rQ(n:Nat)(J:List UInt8):∀r,SE n J=some r→Zc Tryz.prog 24 [S J] (.ret<|.tup [.p<|.sl 4<|R8 r.1,I r.2.1,I r.2.2]):=by
 refine Qx Tryz.func24 rfl Tryz.ntmps24 rfl ?_;unfold SE;refine Qg Qe ⟨[(0,S J)],[]⟩<|Qaq<|sS<|Qg Qe ⟨[(0,S J),(14,B<|QC 8000<|Qc J)],[]⟩<|sC (QC 8000<|Qc J) Qa (Qg Qe ⟨tq4 2 0,[]⟩<|sT<|Q5<|qR<|.agg [.sl 4,.id,.id])<|sK<|Qm ⟨[(0,S J)],[]⟩<|Qg Qe ⟨[(0,S J),(5,zS)],[]⟩<|Qg Qe ⟨[(0,S J),(5,zS),(6,.p<|.val<|.func (.func 51) #[] #[])],[]⟩<|Qg Qe ⟨tq5 J,[]⟩<|sS<|Qap<|Qm ⟨tq5 J,[]⟩<|sS<|sB<|Su ⟨tq5 J,[]⟩<|Zw (Yr 87 4 54 [5] [])<|QF (fun(G,O)=>⟨tq6 J G O,Po G⟩:((List Zk)×Int)→St) (Ug) ?_;rintro Z ⟨G,O⟩;show QZ (JH n J Z G O) _ _ _ _ _ _;unfold JH;refine sS<|Qg Qe ⟨[(0,S J),(5,.tsl 4 (R8 G) 54),(6,.p<|.val<|.func (.func 51) #[] #[]),(7,I O),(18,B<|QC O<|Qc J)],Po G⟩<|sC (QC O<|Qc J) Qa (sK<|Qm ⟨tq6 J G O,Po G⟩<|sB<|sS<|sG<|xR 2<|xG (Uw (l:=J) (k:=.i64) (n:=O) rfl Qa Qa Qa) fun x2=>?_)<|Qs<|ZG<|KS<|QM<|Qm ⟨[(5,.tsl 4 (R8 G) 54)],Po G⟩<|Qg Qe ⟨[(2,.tsl 4 (R8 G) 54),(3,I 0),(4,I 0)],Po G⟩<|sT<|qR<|.agg [.sl 4,.id,.id];refine xC [] (vL n<|Ky x2) QW fun Y=>?_;refine xR 1<|xE<|Qm ⟨tq7 J G O Y,Po G⟩<|sS<|Qg Qe ⟨[(0,S J),(5,.tsl 4 (R8 G) 54),(6,.p<|.val<|.func (.func 51) #[] #[]),(7,I O),(8,I Y),(23,I Y)],Po G⟩<|sB<|Qg Qe ⟨[(0,S J),(5,.tsl 4 (R8 G) 54),(6,.p<|.val<|.func (.func 51) #[] #[]),(7,I O),(8,I Y),(23,I Y),(24,B<|Qp Y 1)],Po G⟩<|sC (Qp Y 1) Qa ?_ ?_
 ·refine sS<|sG<|xR 2 ?_;refine xC [] (nG n J O) QW fun r4=>?_;exact xR 1<|xE<|Qm ⟨tq6 J G r4,Po G⟩<|Qs<|qo rfl<|ZG<|QM<|Yk (G,r4)
 refine Qg Qe ⟨[(0,S J),(5,.tsl 4 (R8 G) 54),(6,.p<|.val<|.func (.func 51) #[] #[]),(7,I O),(8,I Y),(29,B<|Qp Y 2)],Po G⟩<|sC (Qp Y 2) Qa ?_ ?_
 ·refine sS<|sG<|xR 3 ?_;refine xC [] (vM n J O) QW fun r5=>?_;exact xR 1<|xE<|Qm ⟨tq6 J G r5,Po G⟩<|Qs<|qo rfl<|ZG<|QM<|Yk (G,r5)
 refine sK<|QS<|Qm ⟨tq7 J G O Y,Po G⟩<|sS<|Qg Qe ⟨[(0,S J),(5,.tsl 4 (R8 G) 54),(6,.p<|.val<|.func (.func 51) #[] #[]),(7,I O),(8,I Y),(37,B<|Qp (Qc<|R8 G) 2000)],Po G⟩<|sC (Qp (Qc<|R8 G) 2000) Qa (Qg Qe ⟨tq4 2 O,[]⟩<|sT<|Q5<|Zg<|YL<|Zg<|Q5<|qR<|.agg [.sl 4,.id,.id])<|sK<|Qm ⟨tq7 J G O Y,Po G⟩<|sS<|sG<|xR 3 ?_;refine xC [] (xZ n J O Y) QW fun U=>?_;exact xR 8<|xE<|Qm ⟨[(0,S J),(5,.tsl 4 (R8 G) 54),(6,.p<|.val<|.func (.func 51) #[] #[]),(7,I O),qq 9,(10,I U.2.1),(11,I U.2.2)],Dw U.1 G⟩<|sS<|Qg Qe ⟨[(0,S J),(5,.tsl 4 (R8 G) 54),(6,.p<|.val<|.func (.func 51) #[] #[]),(7,I O),qq 9,(10,I U.2.1),(11,I U.2.2),(48,B (!Qp U.2.2 0))],Dw U.1 G⟩<|sC (!Qp U.2.2 0) Qa (Qg Qe ⟨tq4 U.2.2 O,[]⟩<|sT<|Q5<|Zg<|YL<|Zg<|Q5<|qR<|.agg [.sl 4,.id,.id])<|sK<|Qm ⟨[(0,S J),(5,.tsl 4 (R8 G) 54),(6,.p<|.val<|.func (.func 51) #[] #[]),qq 9,(10,I U.2.1)],Dw U.1 G⟩<|sS<|sG<|xR 3<|xF (KC (e:=87) (S:=4) (by_:=40) (enc:=Zk.cs) (tk:=54) (l:=G) (l2:=[U.1]) (xv:=.tsl 4 (R8 [U.1]) 53) rfl Qa Qa rfl Qa Qa Qa rfl Qa)<|xR 1<|xE<|Qm ⟨[(0,S J),(5,.tsl 4 (R8<|G++[U.1]) 54),(6,.p<|.val<|.func (.func 51) #[] #[]),(10,I U.2.1)],Po<|G++[U.1]⟩<|sL Qe<|QS<|Yk (G++[U.1],U.2.1)
def Dx(n:Nat)(G:Kh):Option Bool :=some<|leI 20<|Qc<|List.map ZN.cs G.dg
theorem OH(n:Nat)(G:Kh):∀r,Dx n G=some r→Zc Tryz.prog 56 [.eptr<|Kh.cs G] (.ret<|B r):=by
 refine Qx Tryz.func56 rfl Tryz.ntmps56 rfl ?_;unfold Dx;exact Qg Qe ⟨[(0,.eptr<|Kh.cs G)],[]⟩<|Qg Qe ⟨[(2,B<|leI 20<|Qc<|HY G.dg)],[]⟩<|sT<|qR<|.id
def Gn(n:Nat)(G:Kh):Option Zk :=cond (QC G.pos<|Qc<|List.map Zk.cs G.tks) ((QT G.tks G.pos).bind fun J =>some J)<|some (⟨0,[],0,G.length⟩:Zk)
def tq8:=fun G=>([(0,G),(2,.ptr 2 0)]:zj)
def hq3:=fun G=>([(2,.box 87 [I 0,S [],I 0,I G])]:zd)
def hq4:=fun G=>([(2,.box 87<|KT<|Zk.cs G)]:zd)
theorem FN(n:Nat)(G:Kh)(J:Option Addr)(O U:Nat):∀r,Gn n G=some r→Zc Tryz.prog 181 [.eptr [.sl 4<|R8 G.tks,VI G.pos,VI G.length,.val<|.slice J O U]] (.ret<|ag<|Zk.cs r):=by
 refine Qx Tryz.func181 rfl Tryz.ntmps181 rfl ?_;unfold Gn;exact Qg Qe ⟨tq8<|.eptr [.sl 4<|R8 G.tks,VI G.pos,VI G.length,.val<|.slice J O U],hq3 0⟩<|sS<|Qg Qe ⟨[(0,.eptr [.sl 4<|R8 G.tks,VI G.pos,VI G.length,.val<|.slice J O U]),qq 2,(12,B<|QC G.pos<|Qc<|R8 G.tks)],hq3 0⟩<|sC (QC G.pos<|Qc<|R8 G.tks) Qa (sS<|Vb Qe rfl<|xR 8<|xG (QQ (e:=87) (S:=4) (enc:=Zk.cs) (l:=G.tks) (k:=.i64) (n:=G.pos) (sv:=.p<|.sl 4<|R8 G.tks) rfl Qa Qa Qa Qa Qa) fun Y=>xR 2<|YM<|Qm ⟨[qq 2],hq4 Y⟩<|sT<|Q5<|qR<|.id)<|sK<|Qm ⟨tq8<|.eptr [.sl 4<|R8 G.tks,VI G.pos,VI G.length,.val<|.slice J O U],hq3 0⟩<|Qg Qe ⟨[qq 2],hq3 G.length⟩<|sT<|qR<|.id
def WH(n:Nat)(G:List UInt8):Option Int :=cond (Q0 G [102,101,101,100,101,114]) (some 1)<|cond (Q0 G [99,97,98,108,101]) (some 2)<|cond (Q0 G [111,119,110,101,114]) (some 3)<|cond (Q0 G [99,111,110,116,114,97,99,116]) (some 4)<|cond (Q0 G [99,104,97,114,103,101,114]) (some 5)<|cond (Q0 G [98,97,121]) (some 6)<|cond (Q0 G [116,97,114,105,102,102]) (some 7)<|some 0
def tq9:=fun J G=>([(3,S J),(4,B G)]:zj)
def kU:=fun J G=>(⟨tq9 J G,[]⟩:St)
theorem TP(n:Nat)(G:List UInt8):∀r,WH n G=some r→Zc Tryz.prog 122 [S G] (.ret<|I r):=by
 refine Qx Tryz.func122 rfl Tryz.ntmps122 rfl ?_;unfold WH;exact Qg Qe ⟨[(0,S G)],[]⟩<|sS<|Qg Qe ⟨[(3,S G)],[]⟩<|sB<|Qg Qe (kU G<|Q0 G [102,101,101,100,101,114])<|sC (Q0 G [102,101,101,100,101,114]) Qa (Qg Qe ⟨[(2,I 1)],[]⟩<|sT<|Zg<|Q5<|qR<|.id)<|Qg Qe ⟨[(3,S G),(6,B<|Q0 G [99,97,98,108,101])],[]⟩<|sC (Q0 G [99,97,98,108,101]) Qa (Qg Qe ⟨[(2,I 2)],[]⟩<|sT<|Zg<|Q5<|qR<|.id)<|Qg Qe ⟨[(3,S G),(8,B<|Q0 G [111,119,110,101,114])],[]⟩<|sC (Q0 G [111,119,110,101,114]) Qa (Qg Qe ⟨[(2,I 3)],[]⟩<|sT<|Zg<|Q5<|qR<|.id)<|Qg Qe ⟨[(3,S G),(10,B<|Q0 G [99,111,110,116,114,97,99,116])],[]⟩<|sC (Q0 G [99,111,110,116,114,97,99,116]) Qa (Qg Qe ⟨[(2,I 4)],[]⟩<|sT<|Zg<|Q5<|qR<|.id)<|Qg Qe ⟨[(3,S G),(12,B<|Q0 G [99,104,97,114,103,101,114])],[]⟩<|sC (Q0 G [99,104,97,114,103,101,114]) Qa (Qg Qe ⟨[(2,I 5)],[]⟩<|sT<|Zg<|Q5<|qR<|.id)<|Qg Qe ⟨[(3,S G),(14,B<|Q0 G [98,97,121])],[]⟩<|sC (Q0 G [98,97,121]) Qa (Qg Qe ⟨[(2,I 6)],[]⟩<|sT<|Zg<|Q5<|qR<|.id)<|Qg Qe ⟨[(16,B<|Q0 G [116,97,114,105,102,102])],[]⟩<|sC (Q0 G [116,97,114,105,102,102]) Qa (Qg Qe ⟨[(2,I 7)],[]⟩<|sT<|Zg<|Q5<|qR<|.id)<|sK<|QS<|Qm ⟨[],[]⟩<|Qg Qe ⟨[(2,I 0)],[]⟩<|sT<|qR<|.id
def RH(n:Nat)(G:List UInt8):Option Bool :=(WH n G).bind fun r1 =>some (!Qp r1 0)
theorem vP(n:Nat)(G:List UInt8):∀r,RH n G=some r→Zc Tryz.prog 121 [S G] (.ret<|B r):=by
 refine Qx Tryz.func121 rfl Tryz.ntmps121 rfl ?_;unfold RH;refine Qg Qe ⟨[(0,S G)],[]⟩<|sS<|sG<|xR 1 ?_;refine xC [] (TP n G) QW fun r1=>?_;exact xR 2<|xE<|Qm ⟨[(2,B (!Qp r1 0))],[]⟩<|sT<|qR<|.id
def Dy(n:Nat)(G:Kh):Option (Except Int Unit) :=(Gn n (⟨G.tks,G.pos,G.length,[]⟩:Kh)).bind fun r1 =>some<|.error r1.At
theorem OI(n:Nat)(G:Kh)(O:Option Addr)(J U:Nat):∀r,Dy n G=some r→Zc Tryz.prog 182 [.eptr [.sl 4<|R8 G.tks,VI G.pos,VI G.length,.val<|.slice O J U]] (dW (fun r:Unit=>(.tup []:AV)) (fun e:Int=>(.ifc 235 (.agg [I e]):AV)) r):=by
 refine Qx Tryz.func182 rfl Tryz.ntmps182 rfl ?_;unfold Dy;refine sG<|xR 1 ?_;refine xC [] (FN n (⟨G.tks,G.pos,G.length,[]⟩:Kh) O J U) QW fun r1=>?_;exact xR 3<|xPa 235 (.agg [I r1.At]) Qa rfl Qa<|mJ
def Vk(n:Nat)(G:List UInt8):Option Bool :=(cond (Q0 G [108,105,109,105,116]) (some<|Q0 G [108,105,109,105,116])<|cond (Q0 G [110,101,117,116,114,97,108]) (some<|Q0 G [110,101,117,116,114,97,108])<|cond (Q0 G [102,117,115,101]) (some<|Q0 G [102,117,115,101])<|cond (Q0 G [116,104,101,114,109,97,108]) (some<|Q0 G [116,104,101,114,109,97,108])<|cond (Q0 G [102,114,111,109]) (some<|Q0 G [102,114,111,109])<|cond (Q0 G [97,116]) (some<|Q0 G [97,116])<|cond (Q0 G [112,104,97,115,101,115]) (some<|Q0 G [112,104,97,115,101,115])<|cond (Q0 G [97,109,112,115]) (some<|Q0 G [97,109,112,115])<|cond (Q0 G [102,97,108,108,98,97,99,107]) (some<|Q0 G [102,97,108,108,98,97,99,107])<|cond (Q0 G [111,119,110,101,114]) (some<|Q0 G [111,119,110,101,114])<|cond (Q0 G [99,97,114,100]) (some<|Q0 G [99,97,114,100])<|cond (Q0 G [114,97,110,107]) (some<|Q0 G [114,97,110,107])<|some<|Q0 G [99,104,97,114,103,101,114]).bind fun J =>cond J (some true)<|some false
theorem Fp(n:Nat)(G:List UInt8):∀r,Vk n G=some r→Zc Tryz.prog 186 [S G] (.ret<|B r):=by
 refine Qx Tryz.func186 rfl Tryz.ntmps186 rfl ?_;unfold Vk;refine Qg Qe ⟨[(0,S G)],[]⟩<|sS<|Qg Qe ⟨[(3,S G)],[]⟩<|sB<|YI (fun J=>⟨[(4,B J)],[]⟩:Bool→St) ?_ ?_;rotate_left
 ·rintro J;exact sC J Qa (Qg Qe ⟨[(2,B true)],[]⟩<|sT<|Zg<|Q5<|qR<|.id)<|sK<|QS<|Qm ⟨[],[]⟩<|Qg Qe ⟨[(2,B false)],[]⟩<|sT<|qR<|.id
 exact Qg Qe (kU G<|Q0 G [108,105,109,105,116])<|sC (Q0 G [108,105,109,105,116]) Qa (sK<|Q9 (Q0 G [108,105,109,105,116]) Qa)<|Qg Qe (kU G<|Q0 G [110,101,117,116,114,97,108])<|sC (Q0 G [110,101,117,116,114,97,108]) Qa (sK<|Q9 (Q0 G [110,101,117,116,114,97,108]) Qa)<|Qg Qe (kU G<|Q0 G [102,117,115,101])<|sC (Q0 G [102,117,115,101]) Qa (sK<|Q9 (Q0 G [102,117,115,101]) Qa)<|Qg Qe (kU G<|Q0 G [116,104,101,114,109,97,108])<|sC (Q0 G [116,104,101,114,109,97,108]) Qa (sK<|Q9 (Q0 G [116,104,101,114,109,97,108]) Qa)<|Qg Qe (kU G<|Q0 G [102,114,111,109])<|sC (Q0 G [102,114,111,109]) Qa (sK<|Q9 (Q0 G [102,114,111,109]) Qa)<|Qg Qe ⟨tq9 G<|Q0 G [97,116],[]⟩<|sC (Q0 G [97,116]) Qa (sK<|Q9 (Q0 G [97,116]) Qa)<|Qg Qe (kU G<|Q0 G [112,104,97,115,101,115])<|sC (Q0 G [112,104,97,115,101,115]) Qa (sK<|Q9 (Q0 G [112,104,97,115,101,115]) Qa)<|Qg Qe (kU G<|Q0 G [97,109,112,115])<|sC (Q0 G [97,109,112,115]) Qa (sK<|Q9 (Q0 G [97,109,112,115]) Qa)<|Qg Qe (kU G<|Q0 G [102,97,108,108,98,97,99,107])<|sC (Q0 G [102,97,108,108,98,97,99,107]) Qa (sK<|Q9 (Q0 G [102,97,108,108,98,97,99,107]) Qa)<|Qg Qe (kU G<|Q0 G [111,119,110,101,114])<|sC (Q0 G [111,119,110,101,114]) Qa (sK<|Q9 (Q0 G [111,119,110,101,114]) Qa)<|Qg Qe (kU G<|Q0 G [99,97,114,100])<|sC (Q0 G [99,97,114,100]) Qa (sK<|Q9 (Q0 G [99,97,114,100]) Qa)<|Qg Qe (kU G<|Q0 G [114,97,110,107])<|sC (Q0 G [114,97,110,107]) Qa (sK<|Q9 (Q0 G [114,97,110,107]) Qa)<|sL Qe<|Q9 (Q0 G [99,104,97,114,103,101,114]) Qa
def K8(n:Nat)(G:List UInt8):Option Bool :=(cond (Q0 G [115,116,97,114,116]) (some<|Q0 G [115,116,97,114,116])<|cond (Q0 G [101,110,101,114,103,121]) (some<|Q0 G [101,110,101,114,103,121])<|cond (Q0 G [116,105,109,101]) (some<|Q0 G [116,105,109,101])<|cond (Q0 G [105,100,108,101]) (some<|Q0 G [105,100,108,101])<|cond (Q0 G [99,97,112]) (some<|Q0 G [99,97,112])<|some<|Q0 G [116,97,120]).bind fun J =>cond J (some true)<|some false
theorem G5(n:Nat)(G:List UInt8):∀r,K8 n G=some r→Zc Tryz.prog 192 [S G] (.ret<|B r):=by
 refine Qx Tryz.func192 rfl Tryz.ntmps192 rfl ?_;unfold K8;refine Qg Qe ⟨[(0,S G)],[]⟩<|sS<|Qg Qe ⟨[(3,S G)],[]⟩<|sB<|YI (fun J=>⟨[(4,B J)],[]⟩:Bool→St) ?_ ?_;rotate_left
 ·rintro J;exact sC J Qa (Qg Qe ⟨[(2,B true)],[]⟩<|sT<|Zg<|Q5<|qR<|.id)<|sK<|QS<|Qm ⟨[],[]⟩<|Qg Qe ⟨[(2,B false)],[]⟩<|sT<|qR<|.id
 exact Qg Qe (kU G<|Q0 G [115,116,97,114,116])<|sC (Q0 G [115,116,97,114,116]) Qa (sK<|Q9 (Q0 G [115,116,97,114,116]) Qa)<|Qg Qe (kU G<|Q0 G [101,110,101,114,103,121])<|sC (Q0 G [101,110,101,114,103,121]) Qa (sK<|Q9 (Q0 G [101,110,101,114,103,121]) Qa)<|Qg Qe (kU G<|Q0 G [116,105,109,101])<|sC (Q0 G [116,105,109,101]) Qa (sK<|Q9 (Q0 G [116,105,109,101]) Qa)<|Qg Qe (kU G<|Q0 G [105,100,108,101])<|sC (Q0 G [105,100,108,101]) Qa (sK<|Q9 (Q0 G [105,100,108,101]) Qa)<|Qg Qe (kU G<|Q0 G [99,97,112])<|sC (Q0 G [99,97,112]) Qa (sK<|Q9 (Q0 G [99,97,112]) Qa)<|sL Qe<|Q9 (Q0 G [116,97,120]) Qa
def VP(n:Nat)(G:List UInt8):Option Bool :=(cond (Q0 G [111,110]) (some<|Q0 G [111,110])<|cond (Q0 G [119,111,114,107]) (some<|Q0 G [119,111,114,107])<|cond (Q0 G [115,97,116,117,114,100,97,121]) (some<|Q0 G [115,97,116,117,114,100,97,121])<|cond (Q0 G [115,117,110,100,97,121]) (some<|Q0 G [115,117,110,100,97,121])<|cond (Q0 G [98,101,116,119,101,101,110]) (some<|Q0 G [98,101,116,119,101,101,110])<|cond (Q0 G [112,101,114]) (some<|Q0 G [112,101,114])<|some<|Q0 G [102,114,101,101]).bind fun J =>cond J (some true)<|some false
theorem TQ(n:Nat)(G:List UInt8):∀r,VP n G=some r→Zc Tryz.prog 218 [S G] (.ret<|B r):=by
 refine Qx Tryz.func218 rfl Tryz.ntmps218 rfl ?_;unfold VP;refine Qg Qe ⟨[(0,S G)],[]⟩<|sS<|Qg Qe ⟨[(3,S G)],[]⟩<|sB<|YI (fun J=>⟨[(4,B J)],[]⟩:Bool→St) ?_ ?_;rotate_left
 ·rintro J;exact sC J Qa (Qg Qe ⟨[(2,B true)],[]⟩<|sT<|Zg<|Q5<|qR<|.id)<|sK<|QS<|Qm ⟨[],[]⟩<|Qg Qe ⟨[(2,B false)],[]⟩<|sT<|qR<|.id
 exact Qg Qe (kU G<|Q0 G [111,110])<|sC (Q0 G [111,110]) Qa (sK<|Q9 (Q0 G [111,110]) Qa)<|Qg Qe (kU G<|Q0 G [119,111,114,107])<|sC (Q0 G [119,111,114,107]) Qa (sK<|Q9 (Q0 G [119,111,114,107]) Qa)<|Qg Qe (kU G<|Q0 G [115,97,116,117,114,100,97,121])<|sC (Q0 G [115,97,116,117,114,100,97,121]) Qa (sK<|Q9 (Q0 G [115,97,116,117,114,100,97,121]) Qa)<|Qg Qe (kU G<|Q0 G [115,117,110,100,97,121])<|sC (Q0 G [115,117,110,100,97,121]) Qa (sK<|Q9 (Q0 G [115,117,110,100,97,121]) Qa)<|Qg Qe (kU G<|Q0 G [98,101,116,119,101,101,110])<|sC (Q0 G [98,101,116,119,101,101,110]) Qa (sK<|Q9 (Q0 G [98,101,116,119,101,101,110]) Qa)<|Qg Qe (kU G<|Q0 G [112,101,114])<|sC (Q0 G [112,101,114]) Qa (sK<|Q9 (Q0 G [112,101,114]) Qa)<|sL Qe<|Q9 (Q0 G [102,114,101,101]) Qa
def G6(n:Nat)(G:List UInt8):Option Bool :=(WH n G).bind fun r1 =>cond (!Qp r1 0) (some true)<|(Vk n G).bind fun J =>cond J (some true)<|(K8 n G).bind fun O =>cond O (some true)<|(VP n G).bind fun U =>some U
theorem SF(n:Nat)(G:List UInt8):∀r,G6 n G=some r→Zc Tryz.prog 184 [S G] (.ret<|B r):=by
 refine Qx Tryz.func184 rfl Tryz.ntmps184 rfl ?_;unfold G6;refine Qg Qe ⟨[(0,S G)],[]⟩<|sS<|sG<|xR 1 ?_;refine xC [] (TP n G) QW fun r1=>?_;refine xR 2<|xS (!Qp r1 0) (fun U=>xN (Q4 U)<|xR 11<|xE<|Qm ⟨[(2,B true)],[]⟩<|sT<|qR<|.id) fun U=>xO (Q3 U) ?_;refine xC [] (Fp n G) QW fun Y=>?_;refine xR 2<|xS Y (fun O=>xN (Q4 O)<|xR 7<|xE<|Qm ⟨[(2,B true)],[]⟩<|sT<|qR<|.id) fun O=>xO (Q3 O) ?_;refine xC [] (G5 n G) QW fun Z=>?_;refine xR 2<|xS Z (fun J=>xN (Q4 J)<|xR 3<|xE<|Qm ⟨[(2,B true)],[]⟩<|sT<|qR<|.id) fun J=>xO (Q3 J) ?_;refine xC [] (TQ n G) QW fun r7=>?_;exact xR 2<|xE<|Qm ⟨[(2,B r7)],[]⟩<|sT<|qR<|.id
def U6(n:Nat)(G:List UInt8):Option Bool :=(G6 n G).bind fun r1 =>some (!r1)
theorem TR(n:Nat)(G:List UInt8):∀r,U6 n G=some r→Zc Tryz.prog 123 [S G] (.ret<|B r):=by
 refine Qx Tryz.func123 rfl Tryz.ntmps123 rfl ?_;unfold U6;refine Qg Qe ⟨[(0,S G)],[]⟩<|sS<|sG<|xR 1 ?_;refine xC [] (SF n G) QW fun r1=>?_;exact xR 2<|xE<|Qm ⟨[(2,B (!r1))],[]⟩<|sT<|qR<|.id
def J7(n:Nat)(Y:Kh)(O:((List<|List PV)×Int)→Option ((List<|List PV)×Kh))(G:List (List PV))(J:Int):Option ((List<|List PV)×Kh) :=(Gn n (⟨Y.tks,J,Y.length,[]⟩:Kh)).bind fun U =>cond (Qp U.Kind 2) ((some ()).bind fun _ =>cond (QX (List.length<|G++[GN.cs (⟨6,[],U.N,U.At,[]⟩:GN)]) 64) (O (G++[GN.cs (⟨6,[],U.N,U.At,[]⟩:GN)],wi<|J+1)) none)<|(cond (Qp U.Kind 1) ((U6 n U.Text).bind fun Z =>some Z)<|some false).bind fun j4 =>cond j4 ((some ()).bind fun _ =>cond (QX (List.length<|G++[GN.cs (⟨5,U.Text,0,U.At,[]⟩:GN)]) 64) (O (G++[GN.cs (⟨5,U.Text,0,U.At,[]⟩:GN)],wi<|J+1)) none)<|some (G,(⟨Y.tks,J,Y.length,[]⟩:Kh))
def G7(n:Nat)(J:Kh):Option ((List<|List PV)×Kh) :=QB (fun G (U,O)=>J7 n J G U O) n ([],J.pos)
def bq2:=fun U G J O=>(.box 84 [.p<|.sl 4<|List.map Zk.cs U,I G,I J,.p<|.val O]:Blk)
def Bn:=fun U G J O=>([(1000,(bq2 U G J O))]:zd)
def Qf1:=fun G=>([(0,.ptr 1000 0),(1,.p<|.val G),(5,.p<|.val<|.slice none 0 0)]:zj)
def Qjb:=fun J G=>([(0,.ptr 1000 0),(1,.p<|.val J),(5,.tsl 5 (List.map KN G) 300)]:zj)
def Pq:=fun G=>([(300,.arr 25 5 (List.map KN G).length)]:zd)
def Qlm:=fun J G=>([(0,.ptr 1000 0),(1,.p<|.val J),(5,.tsl 5 (List.map KN G) 300),(6,.ptr 6 0)]:zj)
def hq7:=fun G=>([(6,.box 87<|KT<|Zk.cs G)]:zd)
def Qln:=fun O G J=>([(0,.ptr 1000 0),(1,.p<|.val O),(5,.tsl 5 (List.map KN G) 300),(6,.ptr 6 0),(10,B J)]:zj)
def Qf2:=fun O G J=>([(1,I O),(2,S G),(3,I J),(4,.p<|.val<|.slice none 0 0),(5,.ptr 5 0),(10,.ptr 10 0)]:zj)
def Bw:=fun U G J O=>(.box 25 [I U,S G,I J,I O,.p<|.val<|.slice none 0 0]:Blk)
def hq8:=fun G=>([(5,.box 87<|KT<|Zk.cs G),(10,(Bw 0 [] 0 0))]:zd)
def Qf3:zj:=[(4,.p<|.val<|.slice none 0 0),(10,.ptr 10 0),(11,.ptr 11 0)]
def P9:=fun U G J O=>([(10,(Bw 0 [] 0 0)),(11,(Bw U G J O))]:zd)
def sq3:=fun U G J O=>(⟨[(10,.ptr 10 0),(11,.ptr 11 0)],P9 U G J O⟩:St)
def Qf4:zj:=[(10,.ptr 10 0),(11,.ptr 11 0),(20,.p<|.val<|.slice none 0 0),(21,I 0),(22,I 0)]
def Qf5:zj:=[(10,.ptr 10 0),(11,.ptr 11 0),(20,.p<|.val<|.slice none 0 0),(21,I 0),(22,I 0),(23,B false)]
def sq4:=fun U G J O=>(⟨[(10,.ptr 10 0)],[(10,(Bw U G J O))]⟩:St)
def bq4:=fun G=>(.arr 25 5 (List.map KN G).length:Blk)
def TS:=fun G=>([(300,(bq4 G))]:zd)
def sq5:=fun O G J Z U Y=>(⟨Qjb O G,TS G++Bn J Z U Y⟩:St)
def Qlo:=fun O G J=>([(0,.ptr 1000 0),(1,.p<|.val O),(5,.tsl 5 (List.map KN G) 300),(6,.ptr 6 0),(21,B J)]:zj)
end Go.Proofs
