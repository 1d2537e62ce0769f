/-
  A part of the proof of a statement of the seat YtkhhdppjbakngaaGreatDoor.
-/
import Derived.Below
import Derived.Orders
import Derived.Lib.ItoaNum
import Derived.Sort.LoopGhostIn
import Derived.OrdersIn
import Derived.Scope
import Derived.Laws.AppendOwn
import Derived.Laws.StructEq
import Derived.Laws.MakeOwn
import Derived.ChangeKeysEq
import Derived.Lib.SliceRun
import Derived.RangeFuncRecord
import Derived.RangeFuncLeaves
import Derived.RangeFuncSeq
import Derived.Recover
import Derived.KernelRfl
import Derived.LoopNIn
import Derived.ProofKit
import Derived.OpenShut
import Derived.WideKeyArgs
import Derived.RowKit3
import Derived.JoinedCond
import Derived.ChangeSame
import Derived.Maps.RangeRun
import Derived.Laws.BytesString
import Derived.Lib.AppendStr
import Derived.Test.YtkhhdppjbakngaaGreatDoorProg
import Derived.WalkKit
import Derived.Lib.Builder
import Derived.Laws.Externs
import Derived.Laws.IdiomCopy
import Derived.Laws.BitsLemmas
import Derived.Shelf.RegionOpenPlain
import Derived.Lib.UnsafeStr
import Derived.Lib.Strings
import Derived.Lib.Slices
import Derived.Lib.Walk
import Derived.Shelf.Strconv.Itoa3
import Derived.Shelf.Strconv.Itoa0
import Derived.Shelf.Strconv.Itoa1
import Derived.Shelf.LaysM
import Derived.Shelf.Strconv.Itoa2
import Derived.Lib.LaidTab
import Derived.Lib.Bytealg
import Derived.Lib.IndexMore
import Derived.Test.YtkhhdppjbakngaaGreatDoorRows
import Derived.Test.YtkhhdppjbakngaaGreatDoorTie
import Derived.Test.YtkhhdppjbakngaaGreatDoorCards
import Derived.LaidMore
import Derived.Lay
import Derived.MakeChecks
import Derived.SevenTiedAt
import Derived.LaidLaws
set_option linter.unusedVariables false
namespace Go
theorem zc{p:Prop}(h:p:=by grind):p:=h
theorem VR{p:Prop}[i:Decidable p](h:¬p):decide p=false:=decide_eq_false h
theorem VA{p:Prop}[i:Decidable p](h:p):decide p=true:=decide_eq_true h
theorem Zm{α β:Type}(a:α)(f:α→Option β):(some a).bind f=f a:=Option.bind_some a f
theorem ZA{α:Type}{a b:α}:(some a=some b)=(a=b):=Option.some.injEq a b
theorem Ku{a b:Bool}:((a&&b)=true)=(a=true∧b=true):=Bool.and_eq_true a b
theorem zo{p:Prop}(h:p:=by omega):p:=h
theorem zq{p:Prop}(h:p:=by simp):p:=h
theorem C9{α:Type}{xs ys:List α}:(xs++ys).length=xs.length+ys.length:=List.length_append
theorem DU{α:Type}{a:α}{xs:List α}:(a::xs).length=xs.length+1:=List.length_cons
theorem AY{α:Type}{xs:Array α}{i:Nat}{b:α}:xs[i]?=some b↔∃h:i<xs.size,xs[i]=b:=Array.getElem?_eq_some_iff
theorem TZ{α:Type}{x:Option α}:x.isSome=true↔∃a,x=some a:=Option.isSome_iff_exists
theorem F3{α β:Type}{x:Option α}{f:α→β}{b:β}:x.map f=some b↔∃a,x=some a∧f a=b:=Option.map_eq_some_iff
theorem OV{α:Type}{o:Option α}:o≠none↔∃x,o=some x:=Option.ne_none_iff_exists'
theorem KJ{α:Type}{a b:α}:cond true a b=a:=rfl
theorem Kt{α:Type}{a b:α}:cond false a b=b:=rfl
theorem JR{α β:Type}{f:α→β}{a:α}{l:List α}:(a::l).map f=f a::l.map f:=rfl
theorem WF{α β:Type}{xs:List α}(f:α→β):(xs.map f).length=xs.length:=List.length_map f
theorem LK{α β:Type}(a:α)(b:β)(c:α)(d:β):((a,b)=(c,d))=(a=c∧b=d):=Prod.mk.injEq a b c d
theorem Pd{p:Prop}[Decidable p]:(decide p=true)=p:=decide_eq_true_eq
theorem KD(n:Nat):n≤n:=Nat.le_refl n
theorem qO{α:Type}{i:Nat}{l:List α}:(l.drop i).length=l.length-i:=List.length_drop
theorem Fx{α:Type}{p:α→Bool}{l:List α}:l.all p=true↔∀x,x∈l→p x=true:=List.all_eq_true
theorem Es{α β:Type}{o:Option α}{f:α→Option β}{b:β}:o.bind f=some b↔∃a,o=some a∧f a=some b:=Option.bind_eq_some_iff
theorem wB{α:Type}{b:α}{xs:List α}{i:Nat}:xs[i]?=some b↔∃h:i<xs.length,xs[i]=b:=List.getElem?_eq_some_iff
end Go
namespace Go.Abs
open Go
variable {N:Nat}{P:Program}{Q':Exit→Act→World→Prop}{a:Act}{b:Nat}{c:Code}{c':Array Value}{d:Nat}{dst:Option Tmp}{e:TypeId}{en:Array MapEntry}{f:FuncId}{hi:Option Operand}{i id:Nat}{ix:Operand}{j:Nat}{kt:TypeId}{len:Nat}{lo:Option Operand}{n:Nat}{o:Oper}{off:Nat}{ok:Bool}{op:BinOp}{ops:Array Oper}{parts:Array (Nat×Operand)}{r r':Nat}{ro:Option Nat}{tx ty:TypeId}{v:Value}{w w' w'':World}{x y:Operand}{z:Value}{α β:Type}{φ φ':Nat→Nat}
def kindsTab:List (List UInt8):=[[],[102,101,101,100,101,114],[99,97,98,108,101],[111,119,110,101,114],[99,111,110,116,114,97,99,116],[99,104,97,114,103,101,114],[98,97,121],[116,97,114,105,102,102]]
def gfix:List Nat:=[0,1]
def bY(w:World):Prop:=(∃ty G,w.heap[0]?=some (.cells (kindsTab.map fun k=>Value.string ⟨k.toArray⟩).toArray ty G))∧∃ty G,w.heap[1]?=some (.cells (Lib.pow10Tab.map fun z=>Value.int .u64 z).toArray ty G)
theorem gP(h:∀g∈gfix,w'.heap[g]?=w.heap[g]?)(hw:bY w):bY w':=by
 obtain⟨⟨ty,O,h0⟩,Ed,G,J⟩:=hw;exact⟨⟨ty,O,by rw[h 0<|by simp[gfix]];exact h0⟩,Ed,G,by rw[h 1<|by simp[gfix]];exact J⟩
theorem jV(hw:bY w):∀g∈gfix,g<w.heap.size:=fun g G=>by
 obtain⟨⟨ty,U,h0⟩,Ed,J,O⟩:=hw;simp only[gfix,List.mem_cons,List.not_mem_nil,or_false] at G;rcases G with rfl|rfl
 ·exact(AY.1 h0).1
 ·exact(AY.1 O).1
theorem QiC(hw:bY w):∀g∈gfix,∀l,w.heap[g]?≠some (.deferred l):=fun g G l h=>by
 obtain⟨⟨ty,U,h0⟩,Ed,J,O⟩:=hw;simp only[gfix,List.mem_cons,List.not_mem_nil,or_false] at G;rcases G with rfl|rfl
 ·rw[h0] at h;cases h
 ·rw[O] at h;cases h
inductive PV where
|val (x:Value)
|sl (S:Nat) (es:List (List PV))
variable {es':List (List PV)}
inductive AV where
|p (x:PV)
|tsl (S:Nat) (es:List (List PV)) (t:Nat)
|ptr (b off:Nat)
|eptr (cs:List PV)
|agg (cs:List AV)
|tup (vs:List AV)
|fn (f:Fn) (first captured:List AV)
|ifc (t:TypeId) (x:AV)
|vnil
|vsl (S t n:Nat)
|vptr (t n k f:Nat)
|vtl (S t n k m:Nat)
|yv (b:Nat)
|mv (b:Nat)
|bsl (b n:Nat)
|sfp (b:Nat)
|iv (b:Nat)
variable {T T':Nat→Option AV}{args args':List AV}{es:List (Bool×List UInt8×AV)}
structure BB where
 N:Nat
 fn:FuncId
 ps:Array Tmp
 assign:Code
 body:Code
inductive Blk where
|box (ty:TypeId) (cs:List AV)
|arr (ty:TypeId) (S n:Nat)
|vec (ty:TypeId) (S:Nat) (es:List (List PV))
|lp (T:List (Nat×AV)) (nf:BB) (st:LoopState) (pd:Option Code)
|mp (es:List (Value×PV))
|mf (es:List (Bool×List UInt8×AV))
|mg (en:Array MapEntry) (clock:Nat) (es:List (Bool×List UInt8×AV))
|it (m clock:Nat) (seen:Array Nat)
variable {k0:Blk}
inductive OB where
|lp (T:List (Nat×AV)) (nf:BB)
|mp
def Blk.ob:Blk→Option OB|.lp T nf _ _=>some (.lp T nf)|.mp _=>some .mp|.mf _=>some .mp|.mg _ _ _=>some .mp|.it _ _ _=>some .mp|_=>none
def look{α:Type}:List (Nat×α)→Nat→Option α|[],_=>none|(k,v)::l,t=>if k=t then some v else look l t
abbrev QY:=Nat→Option Blk
variable {h h':QY}
abbrev ZR:=Nat→Nat→Prop
variable {M M' M0:ZR}
mutual
def Zj(w:World)(M:ZR):PV→Value→Prop|.val x,v=>v=x|.sl S es,v=>(∃r o cap,v=.slice (some ⟨r,o,none⟩) es.length cap∧es.length≤cap∧WN w M S r o es)∨(es=[]∧∃a cap,v=.slice a 0 cap)
def WM(w:World)(M:ZR)(r:Nat):Nat→List PV→Prop|_,[]=>True|o,c::cs=>(∃v,w.cell? ⟨r,o,none⟩=some v∧¬M r o∧v.oneCell'=true∧Zj w M c v)∧WM w M r (o+1) cs
def WN(w:World)(M:ZR)(S r:Nat):Nat→List (List PV)→Prop|_,[]=>True|o,e::es=>(e.length=S∧WM w M r o e)∧WN w M S r (o+S) es
end
mutual
def Qf(φ:Nat→Nat)(h:QY)(w:World)(M:ZR):AV→Value→Prop|.p x,v=>Zj w M x v|.tsl S es t,v=>Zj w M (.sl S es) v∧∃ty n,h t=some (.arr ty S n)∧es.length≤n ∧ (es.length=n→(n=0∧v=.slice none 0 0∧w.heap[φ t]?=none)∨∃cap c,v=.slice (some ⟨φ t,0,none⟩) n cap∧w.heap[φ t]?=some (.cells c ty (0,0))∧c.size=cap*S∧n≤cap∧cap≤maxLen)|.ptr b off,v=>v=.pointer (some ⟨φ b,off,none⟩)∧∃ty cs,h b=some (.box ty cs)|.eptr cs,v=>∃r o,v=.pointer (some ⟨r,o,none⟩)∧WM w M r o cs|.agg cs,v=>∃l:List Value,v=.agg l.toArray∧Ql φ h w M cs l|.tup G,v=>∃l:List Value,v=.tuple l.toArray∧Ql φ h w M G l|.fn f a b,v=>∃l m:List Value,v=.func f l.toArray m.toArray∧Ql φ h w M a l∧Ql φ h w M b m|.ifc t x,v=>∃y,v=.iface t y∧Qf φ h w M x y|.vnil,v=>v=.slice none 0 0|.vsl S t n,v=>v.oneCell'=true∧∃ty es,h t=some (.vec ty S es)∧n≤es.length ∧ (n=es.length→∃cap c,v=.slice (some ⟨φ t,0,none⟩) n cap∧w.heap[φ t]?=some (.cells c ty (0,0))∧c.size=cap*S∧n≤cap∧cap≤maxLen)|.vptr t n k f,v=>v.oneCell'=true∧∃ty S es,h t=some (.vec ty S es)∧n≤es.length∧(n=es.length→v=.pointer (some ⟨φ t,k*S+f,none⟩))|.vtl S t n k m,v=>v.oneCell'=true∧∃ty es,h t=some (.vec ty S es)∧n≤es.length ∧ (n=es.length→k+m≤n∧∃cap c,v=.slice (if cap=k then some ⟨φ t,0,none⟩ else some ⟨φ t,k*S,none⟩) m (cap-k)∧w.heap[φ t]?=some (.cells c ty (0,0))∧c.size=cap*S∧n≤cap∧cap≤maxLen)|.yv b,v=>v=.func (.yield<|φ b) #[] #[]∧∃k T nf,h b=some k∧k.ob=some (.lp T nf)|.mv b,v=>v=.map (some<|φ b)∧∃k,h b=some k∧k.ob=some .mp|.bsl b n,v=>v=.slice (some ⟨φ b,0,none⟩) n n∧∃ty cs,h b=some (.box ty cs)|.sfp b,v=>(v=.pointer none∨v=.pointer (some ⟨φ b,0,none⟩))∧∃ty cs,h b=some (.box ty cs)|.iv b,v=>v=.pointer (some ⟨φ b,0,none⟩)∧∃k,h b=some k∧k.ob=some .mp
def Ql(φ:Nat→Nat)(h:QY)(w:World)(M:ZR):List AV→List Value→Prop|[],l=>l=[]|x::xs,l=>∃y ys,l=y::ys∧Qf φ h w M x y∧Ql φ h w M xs ys
end
def Bv(φ:Nat→Nat)(h:QY):ZR:=fun r o=>∃b k,h b=some k∧φ b=r∧(match k with|.arr _ S n=>n*S≤o|_=>True)
def MM(φ:Nat→Nat)(h:QY)(M0:ZR):ZR:=fun r o=>Bv φ h r o∨M0 r o
def DZ(es:List (Bool×List UInt8×AV)):List (Bool×List UInt8×AV):=es.filter (·.1)
def BC(k:List UInt8):Value:=.string ⟨k.toArray⟩
def F4(en:Array MapEntry)(clock:Nat):Prop:=(en.toList.map (·.born)).Pairwise (·<·)∧∀e∈en.toList,e.born<clock
def RelB(φ:Nat→Nat)(h:QY)(w:World)(M:ZR)(r:Nat):Blk→Prop|.box ty cs=>∃c:Array Value,w.heap[r]?=some (.cells c ty (0,0))∧Ql φ h w M cs c.toList|.arr ty S n=>(n=0∧w.heap[r]?=none)∨∃(c:Array Value) (cap:Nat),w.heap[r]?=some (.cells c ty (0,0))∧c.size=cap*S∧n≤cap∧cap≤maxLen|.vec ty S es=>∃(c:Array Value) (cap:Nat),w.heap[r]?=some (.cells c ty (0,0))∧c.size=cap*S∧es.length≤cap∧cap≤maxLen∧(∀e∈es,e.length=S) ∧ (∀v∈c.toList,v.oneCell'=true)∧Ql φ h w M (es.flatten.map .p) (c.toList.take<|es.length*S)|.lp T nf st pd=>∃(tmps:Array Value) (d:Nat),w.heap[r]?=some (.loop { state:=st,pending:=pd,fn:=nf.fn,tmps:=tmps,params:=nf.ps,assign:=nf.assign,body:=nf.body,defers:=d })∧tmps.size=nf.N ∧ ∀t x,look T t=some x→t<nf.N∧Qf φ h w M x (tmps.getD t undef)|.mp es=>∃(en:Array MapEntry) (clock:Nat),w.heap[r]?=some (.map en clock)∧en.toList.map (·.key)=es.map (·.1)∧Ql φ h w M (es.map fun p=>.p p.2) (en.toList.map (·.val))|.mf es=>∃(en:Array MapEntry) (clock:Nat),w.heap[r]?=some (.map en clock)∧en.toList.map (·.key)=(DZ es).map (fun e=>BC e.2.1)∧Ql φ h w M ((DZ es).map (·.2.2)) (en.toList.map (·.val))∧F4 en clock|.mg en clock es=>w.heap[r]?=some (.map en clock)∧en.toList.map (·.key)=(DZ es).map (fun e=>BC e.2.1)∧Ql φ h w M ((DZ es).map (·.2.2)) (en.toList.map (·.val))∧F4 en clock|.it m clock seen=>w.heap[r]?=some (.mapIter (some<|φ m) clock seen clock)∧∃k,h m=some k∧k.ob=some .mp
structure GM(φ:Nat→Nat)(h:QY)(w:World)(M0:ZR):Prop where
 w:bY w
 m:∀g∈gfix,∀o,¬MM φ h M0 g o
structure ZX(φ:Nat→Nat)(h:QY)(w:World)(M0:ZR):Prop where
 inj:∀b c,h b≠none→h c≠none→φ b=φ c→b=c
 blk:∀b k,h b=some k→RelB φ h w (MM φ h M0) (φ b) k
 fr:∀b,h b≠none→∀o,¬M0 (φ b) o
 lt:∀r o,M0 r o→r<w.heap.size
 gm:GM φ h w M0
def AKept(w w':World)(r r':Nat)(ty:TypeId):Prop :=(w.heap[r]?=none→w'.heap[r']?=none)∧(w.heap[r]?=none∨r'=r∧∀c,w.heap[r]?=some (.cells c ty (0,0))→∃c',w'.heap[r]?=some (.cells c' ty (0,0))∧c'.size=c.size)
theorem Ve(e:r'=r)(h:w'.heap[r]?=w.heap[r]?):AKept w w' r r' ty:=by
 subst e;exact⟨fun G=>h.trans G,.inr ⟨rfl,fun c hc=>⟨c,h.trans hc,rfl⟩⟩⟩
theorem PN(h:w.heap[r]?=none)(h':w'.heap[r']?=none):AKept w w' r r' ty:=⟨fun _=>h',.inl h⟩
theorem Xt{l:Array α}(h:l.size≤r):l[r]?=none:=Array.getElem?_eq_none_iff.2 h
theorem AKept.trans{G:Nat}(hs:w.heap.size≤w'.heap.size)(a:AKept w w' r r' ty)(b:AKept w' w'' r' G ty):AKept w w'' r G ty:=by
 refine⟨fun h=>b.1<|a.1 h,?_⟩;rcases a.2 with h7|⟨h7,O⟩
 ·grind
 rcases b.2 with J|⟨J,h10⟩
 ·grind
 grind
structure Zi(φ:Nat→Nat)(h:QY)(w:World)(φ':Nat→Nat)(h':QY)(w':World):Prop where
 os:w'.os=w.os
 tape:w'.tape=w.tape
 output:w'.output=w.output
 size:w.heap.size≤w'.heap.size
 same:∀r,r<w.heap.size→(∀b,h b≠none→φ b≠r)→w'.heap[r]?=w.heap[r]?
 cell:∀r o,r<w.heap.size→¬Bv φ h r o→w'.cell? ⟨r,o,none⟩=w.cell? ⟨r,o,none⟩
 mu:∀r o,r<w.heap.size→Bv φ' h' r o→Bv φ h r o
 kb:∀b ty cs,1000≤b→h b=some (.box ty cs)→(∃cs',h' b=some (.box ty cs'))∧φ' b=φ b
 kt:∀t ty S n,1000≤t→h t=some (.arr ty S n)→∃n',h' t=some (.arr ty S n')∧n≤n' ∧
  (n'=n→AKept w w' (φ t) (φ' t) ty)
 kv:∀t ty S es,1000≤t→h t=some (.vec ty S es)→∃es',h' t=some (.vec ty S es')∧es.length≤es'.length ∧
  (es'.length=es.length→φ' t=φ t∧∀c,w.heap[φ t]?=some (.cells c ty (0,0))→∃c',w'.heap[φ t]?=some (.cells c' ty (0,0))∧c'.size=c.size)
 ko:∀b k x,1000≤b→h b=some k→k.ob=some x→(∃k',h' b=some k'∧k'.ob=some x)∧φ' b=φ b
theorem Zi.refl(φ:Nat→Nat)(h:QY)(w:World):Zi φ h w φ h w :=
 ⟨rfl,rfl,rfl,KD _,fun _ _ _=>rfl,fun _ _ _ _=>rfl,fun _ _ _ x=>x,fun _ _ _ _ x=>⟨⟨_,x⟩,rfl⟩,fun _ _ _ _ _ x=>⟨_,x,KD _,fun _=>Ve (rfl) rfl⟩,fun _ _ _ _ _ x=>⟨_,x,KD _,fun _=>⟨rfl,fun c hc=>⟨c,hc,rfl⟩⟩⟩,fun _ _ _ _ G J=>⟨⟨_,G,J⟩,rfl⟩⟩
theorem EA{k:Blk}(hb:h b=some k):∃o,Bv φ h (φ b) o:=by
 cases k with
|box ty cs=>exact⟨0,b,_,hb,rfl,trivial⟩
|arr ty S n=>exact⟨n*S,b,_,hb,rfl,KD _⟩
|vec ty S es=>exact⟨0,b,_,hb,rfl,trivial⟩
|lp T nf st pd=>exact⟨0,b,_,hb,rfl,trivial⟩
|mp es=>exact⟨0,b,_,hb,rfl,trivial⟩
|mf es=>exact⟨0,b,_,hb,rfl,trivial⟩
|mg en G es=>exact⟨0,b,_,hb,rfl,trivial⟩
|it m G sn=>exact⟨0,b,_,hb,rfl,trivial⟩
theorem GM.evol(G:GM φ h w M0)(E:Zi φ h w φ' h' w'):GM φ' h' w' M0:=by
 have U:∀g∈gfix,∀b,h b≠none→φ b≠g:=fun g J b hb e=>by
  obtain⟨k,Z⟩:=OV.1 hb;obtain⟨o,Y⟩:=EA (φ:=φ) Z;rw[e] at Y;exact G.m g J o<|.inl Y
 refine⟨gP (fun g J=>E.same g (jV G.w g J)<|U g J) G.w,fun g J o O=>?_⟩;rcases O with O|O
 ·exact G.m g J o (.inl (E.mu g o (jV G.w g J) O))
 ·exact G.m g J o (.inr O)
theorem GM.sub{J:ZR}(G:GM φ h w M0)(hs:∀r o,MM φ' h' J r o→MM φ h M0 r o):GM φ' h' w J :=
 ⟨G.w,fun g U o O=>G.m g U o (hs g o O)⟩
theorem Zi.trans{O:Nat→Nat}{Z:QY}(a:Zi φ h w φ' h' w')(b:Zi φ' h' w' O Z w''):Zi φ h w O Z w'':=by
 have U:∀r,r<w.heap.size→r<w'.heap.size:=fun r G=>Nat.lt_of_lt_of_le G a.size
 refine⟨b.os.trans a.os,b.tape.trans a.tape,b.output.trans a.output,Nat.le_trans a.size b.size,?_,?_,?_,?_,?_,?_,?_⟩
 ·intro r G ab;have J:=a.same r G ab;refine(b.same r (U r G) ?_).trans J;intro c hc ac;cases hk:h' c with
 |none=>exact hc hk
 |some k =>
   obtain⟨o,ho⟩:=EA (φ:=φ') hk;rw[ac] at ho;obtain⟨b0,k0,ad,ae,_⟩:=a.mu r o G ho
   grind
 ·intro r o G hm;exact(b.cell r o (U r G) fun Y=>hm<|a.mu r o G Y).trans<|a.cell r o G hm
 ·intro r o G hm;exact a.mu r o G<|b.mu r o (U r G) hm
 ·intro c ty cs hc hb;obtain⟨⟨cs',J⟩,Y⟩:=a.kb c ty cs hc hb;obtain⟨h3,h4⟩:=b.kb c ty cs' hc J
  grind
 ·intro t ty S n ht hb;obtain⟨n',J,Y,h3⟩:=a.kt t ty S n ht hb;obtain⟨aa,h4,h5,h6⟩:=b.kt t ty S n' ht J;exact⟨aa,h4,Nat.le_trans Y h5,fun e=>(h3 zo).trans a.size<|h6 zo⟩
 ·intro t ty S n ht hb;obtain⟨n',J,Y,h3⟩:=a.kv t ty S n ht hb;obtain⟨aa,h4,h5,h6⟩:=b.kv t ty S n' ht J
  grind
 ·intro c k x hc hb ho;obtain⟨⟨k',J,Y⟩,h3⟩:=a.ko c k x hc hb ho;obtain⟨h4,h5⟩:=b.ko c k' x hc J Y
  grind
theorem Nq{o:Nat}(h:w.cell? ⟨r,o,none⟩=some v):r<w.heap.size:=by
 grind [World.cell?]
theorem Kb(U:∀r o v,w.cell? ⟨r,o,none⟩=some v→¬M r o→w'.cell? ⟨r,o,none⟩=some v∧¬M' r o) :
  (∀(x:PV) (v:Value),Zj w M x v→Zj w' M' x v)∧(∀(es:List (List PV)) (S r o:Nat),WN w M S r o es→WN w' M' S r o es)∧(∀(cs:List PV) (r o:Nat),WM w M r o cs→WM w' M' r o cs):=by
 have key:∀n:Nat,(∀(x:PV),SizeOf.sizeOf x≤n→∀v,Zj w M x v→Zj w' M' x v)∧(∀(es:List (List PV)),SizeOf.sizeOf es≤n→∀S r o,WN w M S r o es→WN w' M' S r o es)∧(∀(cs:List PV),SizeOf.sizeOf cs≤n→∀r o,WM w M r o cs→WM w' M' r o cs):=by
  intro n
  induction n with
 |zero =>
   refine⟨fun x G=>?_,fun es G=>?_,fun cs G=>?_⟩
   ·cases x<;>simp at G
   ·cases es<;>simp at G
   ·cases cs<;>simp at G
 |succ n O =>
   obtain⟨i1,i2,i3⟩:=O;refine⟨fun x G=>?_,fun es G=>?_,fun cs G=>?_⟩
   ·intro v J;cases x with
   |val x=>assumption
   |sl S es =>
     grind [Zj]
   ·intro S r o J;cases es with
   |nil=>simp[WN]
   |cons e es =>
     grind [WN]
   ·intro r o J;cases cs with
   |nil=>simp[WM]
   |cons c cs =>
     grind [WM]
 exact⟨fun x v=>(key<|SizeOf.sizeOf x).1 x (KD _) v,fun es=>(key<|SizeOf.sizeOf es).2.1 es (KD _),fun cs=>(key<|SizeOf.sizeOf cs).2.2 cs (KD _)⟩
theorem Zi.keeps(E:Zi φ h w φ' h' w')(M0:ZR)(r o:Nat)(v:Value)(hc:w.cell? ⟨r,o,none⟩=some v)(O:¬MM φ h M0 r o) :
  w'.cell? ⟨r,o,none⟩=some v∧¬MM φ' h' M0 r o:=by
 have G:=Nq hc;have J:¬Bv φ h r o:=fun x=>O<|.inl x
 refine⟨(E.cell r o G J).trans hc,fun x=>?_⟩;rcases x with x|x
 ·exact J<|E.mu r o G x
 ·exact O<|.inr x
structure VF(φ:Nat→Nat)(h:QY)(w:World)(φ':Nat→Nat)(h':QY)(w':World):Prop where
 b:∀b ty cs,h b=some (.box ty cs)→(∃ty' cs',h' b=some (.box ty' cs'))∧φ' b=φ b
 t:∀t ty S n,h t=some (.arr ty S n)→∃n',h' t=some (.arr ty S n')∧n≤n' ∧
  (n'=n→AKept w w' (φ t) (φ' t) ty)
 v:∀t ty S es,h t=some (.vec ty S es)→∃es',h' t=some (.vec ty S es')∧es.length≤es'.length ∧
  (es'.length=es.length→φ' t=φ t∧∀c,w.heap[φ t]?=some (.cells c ty (0,0))→∃c',w'.heap[φ t]?=some (.cells c' ty (0,0))∧c'.size=c.size)
 o:∀b k x,h b=some k→k.ob=some x→(∃k',h' b=some k'∧k'.ob=some x)∧φ' b=φ b
theorem QV(hk:∀r o v,w.cell? ⟨r,o,none⟩=some v→¬M r o→w'.cell? ⟨r,o,none⟩=some v∧¬M' r o)(X:VF φ h w φ' h' w') :
  (∀(x:AV) (v:Value),Qf φ h w M x v→Qf φ' h' w' M' x v)∧(∀(xs:List AV) (l:List Value),Ql φ h w M xs l→Ql φ' h' w' M' xs l):=by
 obtain⟨kp,ke,kc⟩:=Kb hk
 have key:∀n:Nat,(∀(x:AV),SizeOf.sizeOf x≤n→∀v,Qf φ h w M x v→Qf φ' h' w' M' x v)∧(∀(xs:List AV),SizeOf.sizeOf xs≤n→∀l,Ql φ h w M xs l→Ql φ' h' w' M' xs l):=by
  intro n
  induction n with
 |zero =>
   refine⟨fun x hx=>?_,fun es hx=>?_⟩
   ·cases x<;>simp at hx
   ·cases es<;>simp at hx
 |succ n ih =>
   obtain⟨i1,i2⟩:=ih;refine⟨fun x hx v G=>?_,fun xs hx l G=>?_⟩
   ·cases x with
   |p x=>grind [Qf]
   |tsl S es t =>
     simp only[Qf] at G ⊢;obtain⟨O,ty,n,J,Z,h5⟩:=G;obtain⟨n',U,Y,e3⟩:=X.t t ty S n J;refine⟨kp _ _ O,ty,n',U,by omega,fun he=>?_⟩;have:n'=n:=by omega
     rcases h5 zo with⟨g0,g1,g2⟩|⟨cap,c,g1,g2,g3,g6,g7⟩
     ·exact .inl ⟨by omega,g1,(e3 this).1 g2⟩
     rcases(e3 this).2 with e4|⟨e4,e5⟩
     ·grind
     grind
   |ptr b off =>
     simp only[Qf] at G ⊢;obtain⟨O,ty,cs,J⟩:=G;obtain⟨U,Y⟩:=X.b b ty cs J
     grind
   |bsl b n =>
     simp only[Qf] at G ⊢;obtain⟨O,ty,cs,J⟩:=G;obtain⟨U,Y⟩:=X.b b ty cs J
     grind
   |sfp b =>
     simp only[Qf] at G ⊢;obtain⟨O,ty,cs,J⟩:=G;obtain⟨U,Y⟩:=X.b b ty cs J
     grind
   |eptr cs =>
     grind [Qf]
   |agg cs =>
     grind [Qf]
   |tup cs =>
     grind [Qf]
   |fn f a b =>
     grind [Qf]
   |ifc t x =>
     grind [Qf]
   |vnil=>assumption
   |vsl S t n =>
     simp only[Qf] at G ⊢;obtain⟨O,ty,es,J,Z,h5⟩:=G;obtain⟨es',U,Y,e3⟩:=X.v t ty S es J
     grind
   |vtl S t n k m =>
     simp only[Qf] at G ⊢;obtain⟨O,ty,es,J,Z,h5⟩:=G;obtain⟨es',U,Y,e3⟩:=X.v t ty S es J
     grind
   |vptr t n k f =>
     simp only[Qf] at G ⊢;obtain⟨O,ty,S,es,J,Z,h5⟩:=G;obtain⟨es',U,Y,e3⟩:=X.v t ty S es J
     grind
   |yv b =>
     simp only[Qf] at G ⊢;obtain⟨O,k,T,nf,J,Z⟩:=G;obtain⟨⟨k',U,Y⟩,e3⟩:=X.o b k _ J Z
     grind
   |mv b =>
     simp only[Qf] at G ⊢;obtain⟨O,k,J,Z⟩:=G;obtain⟨⟨k',U,Y⟩,e3⟩:=X.o b k _ J Z
     grind
   |iv b =>
     simp only[Qf] at G ⊢;obtain⟨O,k,J,Z⟩:=G;obtain⟨⟨k',U,Y⟩,e3⟩:=X.o b k _ J Z
     grind
   ·cases xs with
   |nil=>assumption
   |cons x xs =>
     grind [Ql]
 exact⟨fun x v=>(key<|SizeOf.sizeOf x).1 x (KD _) v,fun xs l=>(key<|SizeOf.sizeOf xs).2 xs (KD _) l⟩
def upd(h:QY)(b:Nat)(k:Blk):QY:=fun x=>if b=x then some k else h x
theorem QbO(H:List (Nat×Blk))(b:Nat)(k:Blk):look ((b,k)::H)=upd (look H) b k:=rfl
structure St where
 T:List (Nat×AV)
 H:List (Nat×Blk)
variable {K:St→Prop}{s s':St}
def St.put(s:St)(d:Option Tmp)(x:AV):St:=match d with|some d=>⟨(d,x)::s.T,s.H⟩|none=>s
structure DB where
 l:List Deferred
 base:Nat
variable {D:DB}
def Marks(φ:Nat→Nat)(D:DB)(h:QY)(a:Act)(w:World):Prop :=D.base≤w.heap.size∧∃G:List Nat,a.defers=(G.map fun r=>({ target:=.collected r,args:=#[] }:Deferred))++D.l∧G.Nodup∧∀r∈G,D.base≤r∧w.heap[r]?=some (.deferred<|some [])∧∀b,h b≠none→φ b≠r
structure Zy(φ:Nat→Nat)(M0:ZR)(N:Nat)(D:DB)(T:Nat→Option AV)(h:QY)(a:Act)(w:World):Prop where
 dfs:Marks φ D h a w
 siz:a.tmps.size=N
 hp:ZX φ h w M0
 tm:∀t x,T t=some x→t<N∧Qf φ h w (MM φ h M0) x (a.tmps.getD t undef)
inductive AX where
|normal
|exit (id:Nat)
|ret
|panic (x:AV)
variable {Q:AX→St→Prop}
def H5(φ:Nat→Nat)(h:QY)(w:World)(M:ZR):AX→Exit→Prop|.normal,e=>e=.normal|.exit i,e=>e=.exit i|.ret,e=>e=.ret|.panic x,e=>∃v,e=.panic [{ v:=v,recovered:=false }]∧Qf φ h w M x v
def Post(N:Nat)(D:DB)(Q:AX→St→Prop)(φ:Nat→Nat)(M0:ZR)(h:QY)(w:World):Exit→Act→World→Prop:=fun e a' w' =>∃φ' x s',Q x s'∧Zy φ' M0 N D (look s'.T) (look s'.H) a' w'∧Zi φ h w φ' (look s'.H) w'∧H5 φ' (look s'.H) w' (MM φ' (look s'.H) M0) x e
abbrev wd(ro:Option Nat):Fence:={ Fence.wide with round:=ro }
def Ex(P:Program)(N:Nat)(ro:Option Nat)(c:Code)(s:St)(Q:AX→St→Prop):Prop :=∀φ M0 D a w,Zy φ M0 N D (look s.T) (look s.H) a w→c.wpIn (wd ro) 0 P (Post N D Q φ M0 (look s.H) w) a w
theorem Post.trans{e:Exit}(E:Zi φ h w φ' h' w')(p:Post N D Q φ' M0 h' w' e a w''):Post N D Q φ M0 h w e a w'':=by
 obtain⟨G,x,s',J,Y,O,U⟩:=p;exact⟨G,x,s',J,Y,E.trans O,U⟩
theorem qi{Q':AX→St→Prop}(h:Ex P N ro c s Q)(O:∀x s',Q x s'→Q' x s'):Ex P N ro c s Q' :=
 fun φ M0 D a w r=>wpIn_mono (h φ M0 D a w r) fun _ _ _ ⟨φ',x,s',G,Y,J,U⟩=>⟨φ',x,s',O _ _ G,Y,J,U⟩
def andThen(K:St→Prop)(Q:AX→St→Prop):AX→St→Prop|.normal,s=>K s|x,s=>Q x s
theorem jW{x y:Code}(h:Ex P N ro x s (andThen (fun s'=>Ex P N ro y s' Q) Q)):Ex P N ro (.seq x y) s Q:=by
 intro φ M0 D a w r;refine wpIn_seq<|wpIn_mono (h φ M0 D a w r) ?_;rintro e a' w' ⟨φ',k,s',O,U,J,G⟩;cases k with
|normal =>
  simp only[H5] at G;subst G;exact wpIn_mono (O φ' M0 D a' w' U) fun _ _ _ p=>p.trans J
|exit i=>simp only[H5] at G;subst G;exact⟨φ',.exit i,s',O,U,J,rfl⟩
|ret=>simp only[H5] at G;subst G;exact⟨φ',.ret,s',O,U,J,rfl⟩
|panic v=>obtain⟨u,Y,Z⟩:=G;subst Y;exact⟨φ',.panic v,s',O,U,J,u,rfl,Z⟩
theorem Qe3(h:Q .normal s):Ex P N ro .skip s Q :=
 fun φ _ _ _ w r=>wpIn_skip ⟨φ,.normal,s,h,r,Zi.refl _ _ _,rfl⟩
theorem QiD(h:Q .ret s):Ex P N ro .ret s Q :=
 fun φ _ _ _ w r=>wpIn_ret ⟨φ,.ret,s,h,r,Zi.refl _ _ _,rfl⟩
theorem Qe4(h:Q (.exit id) s):Ex P N ro (.exit id) s Q :=
 fun φ _ _ _ w r=>wpIn_exit ⟨φ,.exit id,s,h,r,Zi.refl _ _ _,rfl⟩
theorem QbP{l:Nat}(h:Q .normal s):Ex P N ro (.label l) s Q :=
 fun φ _ _ _ w r=>wpIn_label ⟨φ,.normal,s,h,r,Zi.refl _ _ _,rfl⟩
def inBlock(id:Nat)(Q:AX→St→Prop):AX→St→Prop|.exit i,s=>if i=id then Q .normal s else Q (.exit i) s|x,s=>Q x s
theorem QbQ(h:Ex P N ro c s (inBlock id Q)):Ex P N ro (.block id c) s Q:=by
 intro φ M0 D a w r;refine wpIn_block<|wpIn_mono (h φ M0 D a w r) ?_;rintro e a' w' ⟨φ',k,s',G,U,O,J⟩;cases k with
|normal=>simp only[H5] at J;subst J;exact⟨φ',.normal,s',G,U,O,rfl⟩
|exit i =>
  simp only[H5] at J;subst J;simp only[inBlock] at G;by_cases hi:i=id
  ·simp only[hi,if_true] at G;show Exit.inBlock id _ _ _ _;simp only[Exit.inBlock,hi,if_true];exact⟨φ',.normal,s',G,U,O,rfl⟩
  ·simp only[hi,if_false] at G;show Exit.inBlock id _ _ _ _;simp only[Exit.inBlock,hi,if_false];exact⟨φ',.exit i,s',G,U,O,rfl⟩
|ret=>simp only[H5] at J;subst J;exact⟨φ',.ret,s',G,U,O,rfl⟩
|panic v=>obtain⟨u,Y,Z⟩:=J;subst Y;exact⟨φ',.panic v,s',G,U,O,u,rfl,Z⟩
theorem Hg{b:Frame}{k:List Item}{cs:List Frame}:step P (lone (b.atR a (.code (.scope c)::k)) cs w)=.next (lone (b.atR a (.code c::.inScope c::k)) cs w) :=
 step_lone_go (by rfl)
theorem y9{b:Frame}{k:List Item}{cs:List Frame}:step P (lone (b.atR a (.inScope c::k)) cs w)=.next (lone (b.atR a k) cs w) :=
 step_lone_go (by rfl)
theorem bZ{F:Fence}{Q:Exit→Act→World→Prop}(h:c.wpIn F n P (Exit.noGoto Q) a w):(Code.scope c).wpIn F n P Q a w:=by
 intro b k cs aa hb Z;have h0:(lone (b.atR a (.code (.scope c)::k)) cs w).fenced P F:=fenced_calm hb Z rfl;obtain⟨e,O,J,U,G⟩:=h b (.inScope c::k) cs aa hb Z;cases e with
|normal=>exact⟨.normal,O,J,U,.head h0 Hg<|StepsIn.trans G<|.one (fenced_calm hb Z rfl) y9⟩
|exit id =>
  refine⟨.exit id,O,J,U,fun k' hk=>.head h0 Hg (G.1 k'<|by assumption),fun h1 h2=>?_⟩;obtain⟨Y,g1,g2⟩:=G.2 h1 (by assumption);exact⟨Y,g1,.head h0 Hg g2⟩
|goto l=>exact U.elim
|ret=>exact⟨_,O,J,U,.of_steps (.one h0 Hg) G⟩
|panic ch=>exact⟨_,O,J,U,.of_steps (.one h0 Hg) G⟩
|outgrown=>exact⟨_,O,J,U,.of_steps (.one h0 Hg) G⟩
theorem QbR(h:Ex P N ro c s Q):Ex P N ro (.scope c) s Q:=by
 intro φ M0 D a w r;refine bZ<|wpIn_mono (h φ M0 D a w r) ?_;rintro e a' w' ⟨φ',k,s',O,U,J,G⟩;cases k with
|normal=>simp only[H5] at G;subst G;exact⟨φ',.normal,s',O,U,J,rfl⟩
|exit i=>simp only[H5] at G;subst G;exact⟨φ',.exit i,s',O,U,J,rfl⟩
|ret=>simp only[H5] at G;subst G;exact⟨φ',.ret,s',O,U,J,rfl⟩
|panic v=>obtain⟨u,Y,Z⟩:=G;subst Y;exact⟨φ',.panic v,s',O,U,J,u,rfl,Z⟩
def y7:Value→AV|.agg cs=>.agg (cs.toList.map fun c=>.p<|.val c)|v=>.p<|.val v
def Zn(T:Nat→Option AV):Operand→Option AV|.tmp t=>T t|.const v=>some (y7 v)|.func f=>some (.p<|.val<|.func (.func f) #[] #[])|.global _=>none
theorem Rf{φ:Nat→Nat}{h:QY}{w:World}{M:ZR}:∀l:List Value,Ql φ h w M (l.map fun c=>.p<|.val c) l
|[]=>by rfl
|x::l=>by simp only[JR,Ql];exact⟨x,l,rfl,by rfl,Rf l⟩
theorem Jy(v:Value):Qf φ h w M (y7 v) v:=by
 cases v with
|agg cs=>grind [y7,Qf,Rf]
|_=>rfl
theorem Zy.ev(r:Zy φ M0 N D T h a w){v:AV}(G:Zn T x=some v) :
  Qf φ h w (MM φ h M0) v (a.eval x):=by
 cases x with
|tmp t=>exact(r.tm t v G).2
|const c=>simp only[Zn,ZA] at G;subst G;exact Jy _
|func f=>grind [Zn,Qf,Zj,Act.eval]
|global g=>cases G
theorem jX{c:Operand}{x y:Code}(b:Bool)(hc:Zn (look s.T) c=some (.p<|.val<|.bool b))(J:b=true→Ex P N ro x s Q)(hf:b=false→Ex P N ro y s Q):Ex P N ro (.cond c x y) s Q:=by
 intro φ M0 D a w r;have G:=r.ev hc;simp only[Qf,Zj] at G;cases b
 ·exact wpIn_cond_false G<|hf rfl φ M0 D a w r
 ·exact wpIn_cond_true G<|J rfl φ M0 D a w r
def Weak(N:Nat)(s s':St):Prop:=∀φ M0 D a w,Zy φ M0 N D (look s.T) (look s.H) a w→∃φ',Zy φ' M0 N D (look s'.T) (look s'.H) a w∧Zi φ (look s.H) w φ' (look s'.H) w
theorem Weak.refl(N:Nat)(s:St):Weak N s s:=fun φ _ _ _ _ r=>⟨φ,r,Zi.refl _ _ _⟩
theorem Weak.trans{G:St}(a:Weak N s s')(b:Weak N s' G):Weak N s G:=fun φ M0 D U w r =>
 let ⟨O,r1,Z⟩:=a φ M0 D U w r;let ⟨J,r2,Y⟩:=b O M0 D U w r1;⟨J,r2,Z.trans Y⟩
theorem R9(hw:Weak N s s')(h:Ex P N ro c s' Q):Ex P N ro c s Q:=by
 intro φ M0 D a w r;obtain⟨G,r1,J⟩:=hw φ M0 D a w r;exact wpIn_mono (h G M0 D a w r1) fun _ _ _ p=>p.trans J
theorem tY{ι:Type}(S:ι→St)(μ:ι→Nat)(i0:ι)(round:∀i,Ex P N ro c (S i) (andThen (fun s'=>∃j,μ j<μ i∧Weak N s' (S j)) Q)):Ex P N ro (.loop c) (S i0) Q:=by
 intro φ M0 D a w r;refine wpIn_loop_ghost (fun n a' w'=>∃i φ',μ i=n∧Zy φ' M0 N D (look (S i).T) (look (S i).H) a' w'∧Zi φ (look (S i0).H) w φ' (look (S i).H) w') (μ i0) ⟨i0,φ,rfl,r,Zi.refl _ _ _⟩ ?_;rintro n a' w' ⟨i,φ',rfl,r',E⟩;refine wpIn_mono (round i φ' M0 D a' w' r') ?_;rintro e ab w'' ⟨G,k,s',U,Y,O,J⟩;cases k with
|normal =>
  simp only[H5] at J;subst J;obtain⟨j,hj,Z⟩:=U;obtain⟨aa,r2,e2⟩:=Z G M0 D ab w'' Y;exact⟨μ j,hj,j,aa,rfl,r2,(E.trans O).trans e2⟩
|exit i=>simp only[H5] at J;subst J;exact⟨G,.exit i,s',U,Y,E.trans O,rfl⟩
|ret=>simp only[H5] at J;subst J;exact⟨G,.ret,s',U,Y,E.trans O,rfl⟩
|panic v=>obtain⟨u,h5,h6⟩:=J;subst h5;exact⟨G,.panic v,s',U,Y,E.trans O,u,rfl,h6⟩
theorem Marks.keep(m:Marks φ D h a w)(E:Zi φ h w φ' h' w'):Marks φ' D h' a w':=by
 obtain⟨h0,ms,Z,h2,U⟩:=m;refine⟨Nat.le_trans h0 E.size,ms,Z,h2,fun r J=>?_⟩;obtain⟨g0,g1,g2⟩:=U r J;have hlt:r<w.heap.size:=(AY.1 g1).1;refine⟨g0,(E.same r hlt g2).trans g1,fun b hb e=>?_⟩;cases hk:h' b with
|none=>exact hb hk
|some k =>
  obtain⟨o,G⟩:=EA (φ:=φ') hk;rw[e] at G;obtain⟨b0,k0,O,Y,_⟩:=E.mu r o hlt G
  grind
theorem Zy.keep(r:Zy φ M0 N D T h a w)(E:Zi φ h w φ' h' w')(X:VF φ h w φ' h' w')(hp:ZX φ' h' w' M0):Zy φ' M0 N D T h' a w' :=
 ⟨r.dfs.keep E,r.siz,hp,fun t x G=>⟨(r.tm t x G).1,(QV (E.keeps M0) X).1 _ _ (r.tm t x G).2⟩⟩
theorem VF.trans{G:Nat→Nat}{O:QY}(hs:w.heap.size≤w'.heap.size)(a:VF φ h w φ' h' w')(b:VF φ' h' w' G O w''):VF φ h w G O w'':=by
 refine⟨?_,?_,?_,?_⟩
 ·intro c ty cs hc;obtain⟨⟨aa,cs',J⟩,U⟩:=a.b c ty cs hc;obtain⟨Z,h4⟩:=b.b c aa cs' J
  grind
 ·intro t ty S n ht;obtain⟨n',J,U,Z⟩:=a.t t ty S n ht;obtain⟨Y,h4,h5,h6⟩:=b.t t ty S n' J;exact⟨Y,h4,Nat.le_trans U h5,fun e=>(Z zo).trans hs<|h6 zo⟩
 ·intro t ty S n ht;obtain⟨n',J,U,Z⟩:=a.v t ty S n ht;obtain⟨Y,h4,h5,h6⟩:=b.v t ty S n' J
  grind
 ·intro c k x hb ho;obtain⟨⟨k',J,U⟩,Z⟩:=a.o c k x hb ho;obtain⟨h4,h5⟩:=b.o c k' x J U
  grind
theorem VF.refl(φ:Nat→Nat)(h:QY)(w:World):VF φ h w φ h w :=
 ⟨fun _ _ _ x=>⟨⟨_,_,x⟩,rfl⟩,fun _ _ _ _ x=>⟨_,x,KD _,fun _=>Ve (rfl) rfl⟩,fun _ _ _ _ x=>⟨_,x,KD _,fun _=>⟨rfl,fun c hc=>⟨c,hc,rfl⟩⟩⟩,fun _ _ _ G J=>⟨⟨_,G,J⟩,rfl⟩⟩
theorem Zy.put(r:Zy φ M0 N D (look s.T) (look s.H) a w){d:Option Tmp}{x:AV}(O:∀t,d=some t→t<N)(J:Qf φ (look s.H) w (MM φ (look s.H) M0) x v):Zy φ M0 N D (look (s.put d x).T) (look (s.put d x).H) (a.put d v) w:=by
 cases d with
|none=>exact r
|some d =>
  have hlt:=O d rfl;refine⟨r.dfs,by simp[Act.put,r.siz],r.hp,fun t y G=>?_⟩;simp only[St.put,look] at G;by_cases e:d=t
  ·simp only[e,if_true,ZA] at G;subst G;refine⟨e▸hlt,?_⟩;have:(a.put (some d) v).tmps.getD t undef=v:=by subst e;simp[Act.put,r.siz,hlt]
   rw[this];exact J
  ·simp only[e,if_false] at G;refine⟨(r.tm t y G).1,?_⟩;have:(a.put (some d) v).tmps.getD t undef=a.tmps.getD t undef:=by simp_all [Act.put]
   rw[this];exact(r.tm t y G).2
theorem T9(hh:w'.heap=w.heap)(J:w'.os=w.os)(U:w'.tape=w.tape)(hu:w'.output=w.output):Zi φ h w φ h w' :=
 ⟨J,U,hu,zc,fun _ _ _=>by rw[hh],fun _ _ _ _=>by simp[World.cell?,hh],fun _ _ _ x=>x,fun _ _ _ _ x=>⟨⟨_,x⟩,rfl⟩,fun _ _ _ _ _ x=>⟨_,x,KD _,fun _=>Ve (rfl)<|by rw[hh]⟩,fun _ _ _ _ _ x=>⟨_,x,KD _,fun _=>⟨rfl,fun c hc=>⟨c,zc,rfl⟩⟩⟩,fun _ _ _ _ G O=>⟨⟨_,G,O⟩,rfl⟩⟩
theorem LM(hh:w'.heap=w.heap):VF φ h w φ h w' :=
 ⟨fun _ _ _ x=>⟨⟨_,_,x⟩,rfl⟩,fun _ _ _ _ x=>⟨_,x,KD _,fun _=>Ve (rfl)<|by rw[hh]⟩,fun _ _ _ _ x=>⟨_,x,KD _,fun _=>⟨rfl,fun c hc=>⟨c,zc,rfl⟩⟩⟩,fun _ _ _ J G=>⟨⟨_,J,G⟩,rfl⟩⟩
theorem Ke(Y:∀r o v,w.cell? ⟨r,o,none⟩=some v→¬M r o→w'.cell? ⟨r,o,none⟩=some v∧¬M' r o)(X:VF φ h w φ' h' w')(U:w'.heap[r']?=w.heap[r]?){k:Blk}(hb:RelB φ h w M r k):RelB φ' h' w' M' r' k:=by
 cases k with
|box ty cs=>obtain⟨c,G,J⟩:=hb;exact⟨c,U.trans G,(QV Y X).2 _ _ J⟩
|arr ty S n =>
  rcases hb with⟨h0,G⟩|⟨c,cap,G,J⟩
  ·exact .inl ⟨h0,U.trans G⟩
  ·exact .inr ⟨c,cap,U.trans G,J⟩
|vec ty S es=>obtain⟨c,cap,G,J,O,h4,h5,h6,h7⟩:=hb;exact⟨c,cap,U.trans G,J,O,h4,h5,h6,(QV Y X).2 _ _ h7⟩
|lp T nf st pd=>obtain⟨tmps,d,G,J,O⟩:=hb;exact⟨tmps,d,U.trans G,J,fun t x ht=>⟨(O t x ht).1,(QV Y X).1 _ _ (O t x ht).2⟩⟩
|mp es=>obtain⟨en,Z,G,J,O⟩:=hb;exact⟨en,Z,U.trans G,J,(QV Y X).2 _ _ O⟩
|mf es=>obtain⟨en,Z,G,J,O,h4⟩:=hb;exact⟨en,Z,U.trans G,J,(QV Y X).2 _ _ O,h4⟩
|mg en Z es=>obtain⟨G,J,O,h4⟩:=hb;exact⟨U.trans G,J,(QV Y X).2 _ _ O,h4⟩
|it m Z sn =>
  obtain⟨G,k,J,O⟩:=hb;obtain⟨⟨k',e1,e2⟩,e3⟩:=X.o m k _ J O;exact⟨U.trans zc,k',e1,e2⟩
theorem Nr(hh:w'.heap=w.heap)(E:Zi φ h w φ h w')(r:ZX φ h w M0):ZX φ h w' M0 :=
 ⟨r.inj,fun b k hb=>Ke (E.keeps M0) (LM hh) (by rw[hh])<|r.blk b k hb,r.fr,fun x o G=>by rw[hh];exact r.lt x o G,r.gm.evol E⟩
def QL(φ:Nat→Nat)(b r:Nat):Nat→Nat:=fun x=>if b=x then r else φ x
theorem Ns(r:ZX φ h w M0){k:Blk}(hb:h b=some k)(O:∀ty S,k≠.arr ty S 0):φ b<w.heap.size:=by
 have:=r.blk b k hb;cases k with
|box ty cs=>obtain⟨c,G,_⟩:=this;grind
|arr ty S n =>
  rcases this with⟨h0,_⟩|⟨c,cap,G,_⟩
  ·grind
  grind
|vec ty S es=>obtain⟨c,cap,G,_⟩:=this;grind
|lp T nf st pd=>obtain⟨c,cap,G,_⟩:=this;grind
|mp es=>obtain⟨c,cap,G,_⟩:=this;grind
|mf es=>obtain⟨c,cap,G,_⟩:=this;grind
|mg en J es=>exact(AY.1 this.1).1
|it m J sn=>exact(AY.1 this.1).1
theorem gQ(r:ZX φ h w M0){S:Nat}{es:List (List PV)}(hb:h b=some (.vec ty S es)):φ b<w.heap.size :=
 Ns r hb fun _ _ e=>by cases e
def Clear(φ:Nat→Nat)(h:QY)(w:World)(K:Nat):Prop:=∀b,h b≠none→φ b<w.heap.size∨w.heap.size+K≤φ b
theorem Clear.lt{K:Nat}(O:Clear φ h w K)(r:ZX φ h w M0)(hs:w'.heap.size≤w.heap.size+K)(G:∀x,x<w.heap.size→w'.heap[x]?=w.heap[x]?)(hb:h b≠none) :
  w'.heap[φ b]?=w.heap[φ b]?:=by
 rcases O b hb with J|J
 ·grind
 grind
def Ym(φ:Nat→Nat)(n K:Nat):Nat→Nat:=fun b=>if φ b<n then φ b else φ b+K
theorem Rh(r:ZX φ h w M0)(K:Nat){k:Blk}(hb:h b=some k)(G:∀ty S,k≠.arr ty S 0):Ym φ w.heap.size K b=φ b:=by
 have:=Ns r hb G;simp[Ym,this]
theorem gU{K:Nat}:w.heap[Ym φ w.heap.size K b]?=w.heap[φ b]?:=by
 grind [Ym]
theorem gV(r:ZX φ h w M0)(K:Nat):Zi φ h w (Ym φ w.heap.size K) h w∧VF φ h w (Ym φ w.heap.size K) h w:=by
 have G:∀t ty S n,h t=some (.arr ty S n)→∃n',h t=some (.arr ty S n')∧n≤n' ∧
  (n'=n→AKept w w (φ t) (Ym φ w.heap.size K t) ty):=by
  intro t ty S n G;refine⟨n,G,KD _,fun _=>?_⟩;by_cases e:φ t<w.heap.size
  ·exact Ve (by simp[Ym,e]) rfl
  grind [PN,Xt,gU]
 have O:∀b k x,h b=some k→k.ob=some x→Ym φ w.heap.size K b=φ b:=fun b k x hb O=>Rh r K hb (fun ty S e=>by subst e;cases O)
 refine⟨⟨rfl,rfl,rfl,KD _,fun _ _ _=>rfl,fun _ _ _ _=>rfl,?_,?_,fun t ty S n _ J=>G t ty S n J,?_,?_⟩,?_,G,?_,?_⟩
 ·rintro x o Y ⟨b,k,J,Z,U⟩;refine⟨b,k,J,?_,U⟩
  grind [Ym]
 ·grind [Rh]
 ·intro t ty S es _ hb;exact⟨es,hb,KD _,fun _=>⟨Rh r K hb (fun _ _ e=>by cases e),fun c hc=>⟨c,hc,rfl⟩⟩⟩
 ·grind
 ·grind [Rh]
 ·intro t ty S es hb;exact⟨es,hb,KD _,fun _=>⟨Rh r K hb (fun _ _ e=>by cases e),fun c hc=>⟨c,hc,rfl⟩⟩⟩
 grind
theorem iM(r:ZX φ h w M0)(K:Nat):ZX (Ym φ w.heap.size K) h w M0:=by
 obtain⟨E,X⟩:=gV r K;refine⟨?_,fun b k hb=>Ke (E.keeps M0) X gU<|r.blk b k hb,?_,r.lt,r.gm.evol E⟩
 ·intro b c hb hc e;refine r.inj b c hb hc ?_
  grind [Ym]
 ·intro b hb o G;unfold Ym at G;by_cases e:φ b<w.heap.size
  ·simp only[e,if_true] at G;exact r.fr b hb o G
  ·simp only[e,if_false] at G;have:=r.lt _ _ G;omega
theorem dA(K:Nat):Clear (Ym φ w.heap.size K) h w K:=by
 intro b _
 grind [Ym]
theorem Zy.lift(r:Zy φ M0 N D T h a w)(K:Nat) :
  Zy (Ym φ w.heap.size K) M0 N D T h a w∧Zi φ h w (Ym φ w.heap.size K) h w∧VF φ h w (Ym φ w.heap.size K) h w∧Clear (Ym φ w.heap.size K) h w K:=by
 obtain⟨E,X⟩:=gV r.hp K;exact⟨r.keep E X<|iM r.hp K,E,X,dA K⟩
theorem Uo{k:Blk}{o:Obj}(hh:w'.heap=w.heap.push o)(ho:w'.os=w.os)(ht:w'.tape=w.tape)(hu:w'.output=w.output)(hb:h b=none)(r:ZX φ h w M0)(hC:Clear φ h w 1):Zi φ h w (QL φ b w.heap.size) (upd h b k) w'∧VF φ h w (QL φ b w.heap.size) (upd h b k) w':=by
 have G:∀x,x<w.heap.size→w'.heap[x]?=w.heap[x]?:=fun x O=>by grind
 have J:∀c q,h c=some q→¬b=c:=fun c q hc e=>by grind
 refine⟨⟨ho,ht,hu,zc,fun x O _=>G x O,fun x o O _=>by grind [World.cell?],?_,?_,?_,?_,?_⟩,?_,?_,?_,?_⟩
 ·rintro x y O ⟨c,q,Y,Z,h3⟩;simp only[upd,QL] at Y Z;by_cases e:b=c
  ·grind
  ·simp only[e,if_false] at Y Z;exact⟨c,q,Y,Z,h3⟩
 ·grind [upd,QL]
 ·intro t ty S n _ hc;have:=J t _ hc;exact⟨n,by grind [upd],KD _,fun _=>Ve (by simp[QL,this])<|hC.lt r zc G<|zc⟩
 ·intro t ty S n _ hc;have:=J t _ hc;refine⟨n,by grind [upd],KD _,fun _=>⟨by simp[QL,this],fun c U=>⟨c,?_,rfl⟩⟩⟩
  grind
 ·grind [upd,QL]
 ·grind [upd,QL]
 ·intro t ty S n hc;have:=J t _ hc;exact⟨n,by grind [upd],KD _,fun _=>Ve (by simp[QL,this])<|hC.lt r zc G<|zc⟩
 ·intro t ty S n hc;have:=J t _ hc;refine⟨n,by grind [upd],KD _,fun _=>⟨by simp[QL,this],fun c U=>⟨c,?_,rfl⟩⟩⟩
  grind
 grind [upd,QL]
theorem Ur{k:Blk}{o:Obj}(hh:w'.heap=w.heap.push o)(hb:h b=none)(r:ZX φ h w M0)(hC:Clear φ h w 1)(E:Zi φ h w (QL φ b w.heap.size) (upd h b k) w')(X:VF φ h w (QL φ b w.heap.size) (upd h b k) w')(aa:RelB (QL φ b w.heap.size) (upd h b k) w' (MM (QL φ b w.heap.size) (upd h b k) M0) w.heap.size k):ZX (QL φ b w.heap.size) (upd h b k) w' M0:=by
 have G:∀x,x<w.heap.size→w'.heap[x]?=w.heap[x]?:=fun x hx=>by grind
 have hlt:∀c,h c≠none→φ c≠w.heap.size:=fun c hc=>by rcases hC c hc with Y|Y<;>omega
 refine⟨?_,?_,?_,fun x y hx=>Nat.lt_of_lt_of_le (r.lt x y hx) E.size,r.gm.evol E⟩
 ·intro c d hc Z U;simp only[upd] at hc Z;simp only[QL] at U;by_cases e1:b=c<;>by_cases e2:b=d
  ·omega
  ·grind
  ·grind
  ·simp only[e1,e2,if_false] at U hc Z;exact r.inj c d hc Z U
 ·intro c q hc;by_cases e:b=c
  ·grind [upd,QL]
  ·have Y:h c=some q:=by grind [upd]
   have J:QL φ b w.heap.size c=φ c:=by simp[QL,e]
   rw[J];exact Ke (E.keeps M0) X (hC.lt r zc G<|zc)<|r.blk c q Y
 ·intro c hc o O;by_cases e:b=c
  ·have J:QL φ b w.heap.size c=w.heap.size:=by simp[QL,e]
   rw[J] at O;exact absurd (r.lt _ _ O) zo
  ·have J:QL φ b w.heap.size c=φ c:=by simp[QL,e]
   rw[J] at O;exact r.fr c (by grind [upd]) o O
theorem qP{cs cs':List AV}{c:Array Value}(hb:h b=some (.box ty cs))(hw:w.heap[φ b]?=some (.cells c ty (0,0)))(r:ZX φ h w M0) :
  Zi φ h w φ (upd h b<|.box ty cs') (w.setRow (φ b) c')∧VF φ h w φ (upd h b<|.box ty cs') (w.setRow (φ b) c'):=by
 have aa:∀x,x≠φ b→(w.setRow (φ b) c').heap[x]?=w.heap[x]?:=fun x hx=>setRow_other w _ x c' hx
 have Y:∀t ty S n,h t=some (.arr ty S n)→t≠b:=fun t ty S n J e=>by grind
 have ad:∀t ty S n,h t=some (.arr ty S n)→φ t≠φ b:=fun t ty S n J e=>Y t ty S n J (r.inj t b zc zc e)
 have U:∀t ty S n,h t=some (.vec ty S n)→t≠b:=fun t ty S n J e=>by grind
 have ab:∀t ty S n,h t=some (.vec ty S n)→φ t≠φ b:=fun t ty S n J e=>U t ty S n J (r.inj t b zc zc e)
 have ac:∀d k x,h d=some k→k.ob=some x→¬b=d:=fun d k x O Z e=>by rw[←e,hb] at O;cases O;cases Z
 refine⟨⟨rfl,rfl,rfl,by simp,?_,?_,?_,?_,?_,?_,?_⟩,?_,?_,?_,?_⟩
 ·grind
 ·intro x o _ hm;have:x≠φ b:=fun e=>hm ⟨b,_,hb,e.symm,trivial⟩
  grind [World.cell?]
 ·rintro x y _ ⟨d,q,h1,h2,h3⟩;by_cases e:b=d
  ·exact⟨b,_,hb,zc,trivial⟩
  ·exact⟨d,q,by grind [upd],h2,h3⟩
 ·intro d G ds _ O;by_cases e:b=d
  ·subst e;rw[hb] at O;cases O;exact⟨⟨cs',by simp[upd]⟩,rfl⟩
  ·exact⟨⟨ds,by simp[upd,e,O]⟩,rfl⟩
 ·intro t G S n _ J;have e:=Y t G S n J;refine⟨n,by grind [upd],KD _,fun _=>Ve (rfl)<|zc⟩
 ·intro t G S n _ J;have e:=U t G S n J;refine⟨n,by grind [upd],KD _,fun _=>⟨rfl,fun c hc=>⟨c,zc,rfl⟩⟩⟩
 ·intro d k x _ O Z;exact⟨⟨k,by grind [upd],Z⟩,rfl⟩
 ·intro d G ds O;by_cases e:b=d
  ·exact⟨⟨ty,cs',by simp[upd,e]⟩,rfl⟩
  ·exact⟨⟨G,ds,by simp[upd,e,O]⟩,rfl⟩
 ·intro t G S n J;have e:=Y t G S n J;refine⟨n,by grind [upd],KD _,fun _=>Ve (rfl)<|zc⟩
 ·intro t G S n J;have e:=U t G S n J;refine⟨n,by grind [upd],KD _,fun _=>⟨rfl,fun c hc=>⟨c,zc,rfl⟩⟩⟩
 ·intro d k x O Z;exact⟨⟨k,by grind [upd],Z⟩,rfl⟩
theorem gW{cs cs':List AV}{c:Array Value}(hb:h b=some (.box ty cs))(hw:w.heap[φ b]?=some (.cells c ty (0,0)))(r:ZX φ h w M0)(G:Ql φ h w (MM φ h M0) cs' c'.toList):ZX φ (upd h b<|.box ty cs') (w.setRow (φ b) c') M0:=by
 obtain⟨E,X⟩:=qP (cs':=cs') (c':=c') hb hw r;refine⟨?_,?_,?_,fun x y Y=>Nat.lt_of_lt_of_le (r.lt x y Y) E.size,r.gm.evol E⟩
 ·intro d e J Z O
  have g:∀d,upd h b (.box ty cs') d≠none→h d≠none:=fun d J=>by
   grind [upd]
  exact r.inj d e (g d J) (g e Z) O
 ·intro d q J;by_cases e:b=d
  ·subst e;have:q=.box ty cs':=by grind [upd]
   subst this;exact⟨c',setRow_heap w _ c c' ty _ hw,(QV (E.keeps M0) X).2 _ _ G⟩
  ·have h1:h d=some q:=by grind [upd]
   have U:φ d≠φ b:=fun h2=>e (r.inj d b zc zc h2).symm
   exact Ke (E.keeps M0) X (setRow_other w _ _ c' U)<|r.blk d q h1
 ·intro d J o hm;refine r.fr d ?_ o hm
  grind [upd]
section lists
variable {φ:Nat→Nat}{h:QY}{w:World}{M:ZR}
theorem LP{r:Nat}:∀(cs:List PV) (o:Nat),WM w M r o cs↔∀j c,cs[j]?=some c→∃v,w.cell? ⟨r,o+j,none⟩=some v∧¬M r (o+j)∧v.oneCell'=true∧Zj w M c v
|[],o=>by simp[WM]
|c::cs,o=>by
  simp only[WM,LP cs<|o+1];constructor
  ·grind
  ·intro hh;refine⟨hh 0 c zq,fun j x G=>?_⟩;have:=hh (j+1) x zc
   grind
theorem D5{r:Nat}:∀(a b:List PV) (o:Nat),WM w M r o (a++b)↔WM w M r o a∧WM w M r (o+a.length) b
|[],b,o=>by simp[WM]
|c::a,b,o=>by
  simp only[List.cons_append,WM,D5 a b<|o+1,DU]
  grind
theorem KY{S r:Nat}:∀(es:List (List PV)) (o:Nat),WN w M S r o es↔(∀e∈es,e.length=S)∧WM w M r o es.flatten
|[],o=>by simp[WN,WM]
|e::es,o=>by
  simp only[WN,KY es<|o+S,List.flatten_cons,D5,List.mem_cons]
  grind
theorem Jz{S r:Nat}:∀(a b:List (List PV)) (o:Nat),WN w M S r o (a++b)↔WN w M S r o a∧WN w M S r (o+a.length*S) b
|[],b,o=>by simp[WN]
|e::a,b,o=>by
  simp only[List.cons_append,WN,Jz a b<|o+S,DU]
  grind
theorem iN{S o:Nat}{es:List (List PV)}(G:WN w M S r o es){e:List PV}(hi:es[i]?=some e):e.length=S∧WM w M r (o+i*S) e:=by
 have hlt:i<es.length:=(wB.1 hi).1
 have hs:es=es.take i++(e::es.drop (i+1)):=by
  grind [wB,List.take_append_drop,List.drop_eq_getElem_cons]
 grind [WN,Jz]
theorem ZY:∀{xs:List AV} {l:List Value},Ql φ h w M xs l→xs.length=l.length
|[],l,hh=>by grind [Ql]
|x::xs,l,hh=>by
  simp only[Ql] at hh;obtain⟨y,ys,rfl,_,G⟩:=hh;simp[ZY G]
theorem GG:∀{xs:List AV} {l:List Value},Ql φ h w M xs l→∀{i:Nat} {x:AV},xs[i]?=some x→∃v,l[i]?=some v∧Qf φ h w M x v
|[],l,hh,i,x,hi=>by simp at hi
|y::xs,l,hh,i,x,hi=>by
  simp only[Ql] at hh;obtain⟨v,O,rfl,U,G⟩:=hh;cases i with
 |zero=>grind
 |succ i =>
   obtain⟨u,J,Y⟩:=GG G (i:=i) (by simpa using hi)
   grind
theorem ZZ:∀{a b:List AV} {l m:List Value},Ql φ h w M a l→Ql φ h w M b m→Ql φ h w M (a++b) (l++m)
|[],b,l,m,G,J=>by grind [Ql]
|x::a,b,l,m,G,J=>by
  simp only[Ql] at G;obtain⟨v,Y,rfl,O,U⟩:=G;simp only[List.cons_append,Ql];exact⟨v,Y++m,rfl,O,ZZ U J⟩
theorem UW:∀{a:List AV} {l:List Value} (n:Nat),Ql φ h w M a l→Ql φ h w M (a.take n) (l.take n)
|a,l,0,_=>by rfl
|[],l,n+1,G=>by grind [Ql]
|x::a,l,n+1,G=>by
  simp only[Ql] at G;obtain⟨v,U,rfl,J,O⟩:=G;simp only[List.take_succ_cons,Ql];exact⟨v,U.take n,rfl,J,UW n O⟩
theorem UX:∀{a:List AV} {l:List Value} (n:Nat),Ql φ h w M a l→Ql φ h w M (a.drop n) (l.drop n)
|a,l,0,hh=>by grind
|[],l,n+1,G=>by grind [Ql]
|x::a,l,n+1,G=>by
  simp only[Ql] at G;obtain⟨v,U,rfl,O,J⟩:=G;simpa using UX n J
end lists
def Vf{α:Type}(P:Program):Sem α→Option α|.pure a=>some a|.program k=>Vf P (k P)|.mark _ k=>Vf P k|_=>none
theorem vg{s:Sem α}{a:α}(h:Vf P s=some a)(w:World):s.run P w=.ok a w:=by
 induction s with
|pure b=>simp_all [Vf]
|program k G=>simp only[Vf] at h;exact G P h
|mark m k G=>simp only[Vf] at h;exact G h
|_=>simp[Vf] at h
mutual
def AR:AV→Option Value
|.p (.val x)=>some x
|.p (.sl _ _)=>none
|.tsl _ _ _=>none
|.ptr _ _=>none
|.eptr _=>none
|.vnil=>none
|.vsl _ _ _=>none
|.vptr _ _ _ _=>none
|.vtl _ _ _ _ _=>none
|.yv _=>none
|.mv _=>none
|.bsl _ _=>none
|.sfp _=>none
|.iv _=>none
|.agg cs=>(BD cs).map fun l=>.agg l.toArray
|.tup cs=>(BD cs).map fun l=>.tuple l.toArray
|.ifc t x=>(AR x).map<|.iface t
|.fn f a b=>match BD a,BD b with|some l,some m=>some (.func f l.toArray m.toArray)|_,_=>none
def BD:List AV→Option (List Value)
|[]=>some []
|x::xs=>match AR x,BD xs with|some y,some ys=>some (y::ys)|_,_=>none
end
theorem Nu :
  (∀(x:AV) (v y:Value),Qf φ h w M x v→AR x=some y→v=y)∧(∀(xs:List AV) (l m:List Value),Ql φ h w M xs l→BD xs=some m→l=m):=by
 have key:∀n:Nat,(∀(x:AV),SizeOf.sizeOf x≤n→∀v y,Qf φ h w M x v→AR x=some y→v=y)∧(∀(xs:List AV),SizeOf.sizeOf xs≤n→∀l m,Ql φ h w M xs l→BD xs=some m→l=m):=by
  intro n
  induction n with
 |zero =>
   refine⟨fun x O=>?_,fun es O=>?_⟩
   ·cases x<;>simp at O
   ·cases es<;>simp at O
 |succ n Y =>
   obtain⟨i1,i2⟩:=Y;refine⟨fun x O v y J G=>?_,fun xs O l m J G=>?_⟩
   ·cases x with
   |p x=>cases x with
    |val x=>grind [AR,Qf,Zj]
    |sl S es=>simp[AR] at G
   |tsl S es t=>simp[AR] at G
   |ptr b off=>simp[AR] at G
   |eptr cs=>simp[AR] at G
   |vnil=>simp[AR] at G
   |vsl S t n=>simp[AR] at G
   |vptr t n k f=>simp[AR] at G
   |vtl S t n k m=>simp[AR] at G
   |yv b=>simp[AR] at G
   |mv b=>simp[AR] at G
   |iv b=>simp[AR] at G
   |bsl b n=>simp[AR] at G
   |sfp b=>simp[AR] at G
   |agg cs =>
     simp only[AR,F3] at G;obtain⟨m,U,rfl⟩:=G;simp only[Qf] at J
     grind
   |tup cs =>
     simp only[AR,F3] at G;obtain⟨m,U,rfl⟩:=G;simp only[Qf] at J
     grind
   |fn f a b =>
     simp only[AR] at G;split at G
     ·rename_i l m Z hm;simp only[ZA] at G;subst G;simp only[Qf] at J
      grind
     ·cases G
   |ifc t x =>
     simp only[AR,F3] at G;obtain⟨m,U,rfl⟩:=G;simp only[Qf] at J
     grind
   ·cases xs with
   |nil=>grind [BD,Ql]
   |cons x xs =>
     simp only[BD] at G;split at G
     ·rename_i y ys U h2;simp only[ZA] at G;subst G;simp only[Ql] at J
      grind
     ·cases G
 exact⟨fun x v=>(key<|SizeOf.sizeOf x).1 x (KD _) v,fun xs l=>(key<|SizeOf.sizeOf xs).2 xs (KD _) l⟩
def AV.one:AV→Bool|.p (.val x)=>x.oneCell'|.agg _|.tup _=>false|_=>true
theorem tZ{x:AV}(J:x.one=true)(G:Qf φ h w M x v):v.oneCell'=true∧v.cells=#[v]:=by
 have key:v.oneCell'=true:=by
  cases x with
 |p x=>cases x with
  |val y=>simp only[Qf,Zj] at G;subst G;exact J
  |sl S es =>
    simp only[Qf,Zj] at G;rcases G with⟨r,o,cap,rfl,_⟩|⟨_,a,cap,rfl⟩<;>rfl
 |tsl S es t =>
   simp only[Qf,Zj] at G;rcases G.1 with⟨r,o,cap,rfl,_⟩|⟨_,a,cap,rfl⟩<;>rfl
 |ptr b off=>simp only[Qf] at G;rw[G.1];rfl
 |eptr cs=>simp only[Qf] at G;obtain⟨r,o,rfl,_⟩:=G;rfl
 |vnil=>simp only[Qf] at G;rw[G];rfl
 |vsl S t n=>grind [Qf]
 |vptr t n k f=>grind [Qf]
 |vtl S t n k m=>grind [Qf]
 |yv b=>simp only[Qf] at G;rw[G.1];rfl
 |mv b=>simp only[Qf] at G;rw[G.1];rfl
 |iv b=>simp only[Qf] at G;rw[G.1];rfl
 |bsl b n=>simp only[Qf] at G;rw[G.1];rfl
 |sfp b=>simp only[Qf] at G;rcases G.1 with e|e<;>rw[e]<;>rfl
 |agg cs=>simp[AV.one] at J
 |tup cs=>simp[AV.one] at J
 |fn f a b=>simp only[Qf] at G;obtain⟨l,m,rfl,_⟩:=G;rfl
 |ifc t x=>simp only[Qf] at G;obtain⟨y,rfl,_⟩:=G;rfl
 refine⟨key,?_⟩;cases v<;>first|rfl|(simp[Value.oneCell'] at key)
def GH:List AV→Bool|[]=>true|x::xs=>x.one&&GH xs
def cellsOf:AV→Option (List AV)|.agg cs=>if GH cs then some cs else none|x=>if x.one then some [x] else none
theorem D6{φ:Nat→Nat}{h:QY}{w:World}{M:ZR}:∀{xs:List AV} {l:List Value},GH xs=true→Ql φ h w M xs l→∀u∈l,u.oneCell'=true
|[],l,_,G=>by grind [Ql]
|x::xs,l,J,G=>by
  simp only[GH,Ku] at J;simp only[Ql] at G;obtain⟨y,ys,rfl,U,O⟩:=G;intro u hu;rcases List.mem_cons.1 hu with rfl|hu
  ·grind [tZ]
  ·exact D6 J.2 O u hu
theorem V7{x:AV}{cs:List AV}(hc:cellsOf x=some cs)(J:Qf φ h w M x v) :
  Ql φ h w M cs v.cells.toList∧(∀u∈v.cells.toList,u.oneCell'=true)∧GH cs=true:=by
 have other:(if x.one then some [x] else none)=some cs→Ql φ h w M cs v.cells.toList∧(∀u∈v.cells.toList,u.oneCell'=true)∧GH cs=true:=by
  intro G;split at G
  ·rename_i O;simp only[ZA] at G;subst G;obtain⟨Y,U⟩:=tZ O J;rw[U];exact⟨by simp only[Ql];grind,zc,by simp[GH,O]⟩
  ·cases G
 cases x with
|agg xs =>
  simp only[cellsOf] at hc;split at hc
  ·rename_i O;simp only[ZA] at hc;subst hc;simp only[Qf] at J;obtain⟨l,rfl,Y⟩:=J
   grind [Value.cells,D6]
  ·cases hc
|_=>exact other hc
abbrev Kv:=AV×Option (Nat×Blk)×List Nat
def ap(h:QY):Option (Nat×Blk)→QY|none=>h|some (b,k)=>upd h b k
def Yield(P:Program)(o:Oper)(φ:Nat→Nat)(M0:ZR)(h:QY)(a:Act)(w:World)(x:AV)(h':QY):Prop :=∃G v w' φ',(execOp a.eval o).run P w=.ok G w'∧(G=.value v∨G=.skip∧v=undef)∧Qf φ' h' w' (MM φ' h' M0) x v∧ZX φ' h' w' M0∧Zi φ h w φ' h' w'∧VF φ h w φ' h' w'
section
variable {P:Program}{o:Oper}{φ:Nat→Nat}{M0:ZR}{N:Nat}{D:DB}{T:Nat→Option AV}{h:QY}{a:Act}{w:World}
theorem Yield.of_lift(r:Zy φ M0 N D T h a w)(K:Nat){x:AV}(Z:∀G,Zy G M0 N D T h a w→Zi φ h w G h w→VF φ h w G h w→Clear G h w K→Yield P o G M0 h a w x h'):Yield P o φ M0 h a w x h':=by
 obtain⟨r1,E1,J,hC⟩:=r.lift K;obtain⟨Y,v,w',φ',h1,h2,O,h4,U,h6⟩:=Z _ r1 E1 J hC;exact⟨Y,v,w',φ',h1,h2,O,h4,E1.trans U,VF.trans (KD _) J h6⟩
theorem Qu(r:Zy φ M0 N D T h a w){x:AV}(J:(execOp a.eval o).run P w=.ok (.value v) w)(G:Qf φ h w (MM φ h M0) x v):Yield P o φ M0 h a w x h :=
 ⟨_,v,w,φ,J,.inl rfl,G,r.hp,Zi.refl _ _ _,VF.refl _ _ _⟩
def WT(T:Nat→Option AV)(x:Operand):Option Kv:=match Zn T x with|some v=>some (v,none,[])|none=>none
def Pe(T:Nat→Option AV)(c x y:Operand):Option Kv :=
 match Zn T c with
|some (.p (.val (.bool true)))=>WT T x
|some (.p (.val (.bool false)))=>WT T y
|_=>none
theorem lc(r:Zy φ M0 N D T h a w){v:AV}(G:o.op=.move x∨o.op=.assign x)(J:Zn T x=some v):Yield P o φ M0 h a w v h:=by
 refine Qu r (v:=a.eval x) ?_<|r.ev J;rcases G with G|G<;>simp[execOp,G]
theorem lg(r:Zy φ M0 N D T h a w){c:Operand}{u:Kv}(Y:o.op=.pick c x y)(G:Pe T c x y=some u):u.2.1=none∧u.2.2=[]∧Yield P o φ M0 h a w u.1 h:=by
 unfold Pe at G;split at G
 ·rename_i O;unfold WT at G;split at G
  ·rename_i v U;simp only[ZA] at G;subst G;have J:=r.ev O;simp only[Qf,Zj] at J;exact⟨rfl,rfl,Qu r (v:=a.eval x) (by simp[execOp,Y,J,asBool]) (r.ev U)⟩
  ·cases G
 ·rename_i O;unfold WT at G;split at G
  ·rename_i v U;simp only[ZA] at G;subst G;have J:=r.ev O;simp only[Qf,Zj] at J;exact⟨rfl,rfl,Qu r (v:=a.eval y) (by simp[execOp,Y,J,asBool]) (r.ev U)⟩
  ·cases G
 ·cases G
def F5:TypeDesc→Bool|.struct _|.array _ _=>true|_=>false
theorem GI{t:TypeId}{d:TypeDesc}(G:P.underlying t=some d)(w:World):(isAgg t).run P w=.ok (F5 d) w:=by
 simp only[isAgg,Sem.run_bind,run_underlying G,Result.andThen_ok];cases d<;>rfl
theorem Ze{t:TypeId}{i:TypeInfo}(hi:P.info? t=some i)(w:World):(sizeOf t).run P w=.ok i.size w:=by
 simp[sizeOf,typeInfo,hi]
def Og(P:Program)(T:Nat→Option AV)(h:QY)(ty:TypeId)(x:Operand):Option Kv :=
 match P.underlying ty,P.info? ty with
|some d,some i =>
  match Zn T x with
 |some (.ptr b off) =>
   match h b with
  |some (.box _ cs) =>
    if F5 d then(if off+i.size≤cs.length then some (.agg<|(cs.drop off).take i.size,none,[b]) else none)
    else match cs[off]? with|some c=>some (c,none,[b])|none=>none
  |_=>none
 |some (.eptr cs) =>
   if F5 d then(if i.size≤cs.length then some (.agg<|(cs.take i.size).map .p,none,[]) else none)
   else match cs[0]? with|some c=>some (.p c,none,[])|none=>none
 |_=>none
|_,_=>none
theorem BF{d:TypeDesc}{i:TypeInfo}(Y:P.underlying ty=some d)(hi:P.info? ty=some i)(G:F5 d=true)(l:List Value)(U:l.length=i.size)(hc:∀j v,l[j]?=some v→w.cell? ⟨r,off+j,none⟩=some v):(loadVar ty ⟨r,off,none⟩).run P w=.ok (.agg l.toArray) w:=by
 have J:=run_loadCells_list (P:=P) w ⟨r,off,none⟩ l (fun j v O=>by grind [Addr.add_lit])
 simp_all [loadVar,GI,Ze]
theorem BG{d:TypeDesc}(J:P.underlying ty=some d)(G:F5 d=false)(hc:w.cell? ⟨r,off,none⟩=some v) :
  (loadVar ty ⟨r,off,none⟩).run P w=.ok v w:=by
 simp_all [loadVar,GI]
theorem KE{c:Array Value}(hw:w.heap[r]?=some (.cells c ty (0,0))):w.cell? ⟨r,off,none⟩=c[off]?:=by simp[World.cell?,hw]
theorem qQ(r:Zy φ M0 N D T h a w){u:Kv}(G:Og P T h ty x=some u):u.2.1=none∧∃v,(Instr.loadAt ty<|a.eval x).run P w=.ok v w∧Qf φ h w (MM φ h M0) u.1 v:=by
 unfold Og at G;split at G
 ·rename_i d i hd hi;split at G
  ·rename_i b off hx;have h2:=r.ev hx;simp only[Qf] at h2;split at G
   ·rename_i ad cs hb;obtain⟨c,hw,U⟩:=r.hp.blk b _ hb;split at G
    ·rename_i Y;split at G
     ·rename_i ab;simp only[ZA] at G;subst G;have ae:=ZY U;have h3:Ql φ h w (MM φ h M0) ((cs.drop off).take i.size) ((c.toList.drop off).take i.size):=UW _<|UX _ U;refine⟨rfl,.agg ((c.toList.drop off).take i.size).toArray,?_,?_⟩
      ·grind [Instr.loadAt,Instr.sureAddr,BF,KE]
      ·simp only[Qf];grind
     ·cases G
    ·rename_i Y;split at G
     ·rename_i c0 Z;simp only[ZA] at G;subst G;obtain⟨v,hv,aa⟩:=GG U Z;refine⟨rfl,v,?_,aa⟩
      grind [Instr.loadAt,Instr.sureAddr,BG,KE]
     ·cases G
   ·cases G
  ·rename_i cs hx;have h2:=r.ev hx;simp only[Qf] at h2;obtain⟨rr,J,h3,h4⟩:=h2;rw[LP] at h4;split at G
   ·rename_i Y;split at G
    ·rename_i ab;simp only[ZA] at G;subst G
     have hex:∃l:List Value,l.length=i.size∧(∀j v,l[j]?=some v→w.cell? ⟨rr,J+j,none⟩=some v)∧Ql φ h w (MM φ h M0) ((cs.take i.size).map .p) l:=by
      have ac:∀(k:Nat) (cs:List PV) (J:Nat),k≤cs.length→(∀j c,cs[j]?=some c→∃v,w.cell? ⟨rr,J+j,none⟩=some v∧¬MM φ h M0 rr (J+j)∧v.oneCell'=true∧Zj w (MM φ h M0) c v) →
        ∃l:List Value,l.length=k∧(∀j v,l[j]?=some v→w.cell? ⟨rr,J+j,none⟩=some v)∧Ql φ h w (MM φ h M0) ((cs.take k).map .p) l:=by
       intro k
       induction k with
      |zero=>intro cs J _ _;exact⟨[],rfl,by simp,by rfl⟩
      |succ k ih =>
        intro cs J hk O;cases cs with
       |nil=>simp at hk
       |cons c cs =>
         obtain⟨v,hv,hm,_,hr⟩:=O 0 c zq
         obtain⟨l,h1,h2,h3⟩:=ih cs (J+1) zc (fun j c' hj=>by
          have:=O (j+1) c' zc
          grind)
         refine⟨v::l,by simp[h1],fun j u hj=>?_,?_⟩
         ·grind
         ·simp only[List.take_succ_cons,JR,Ql];exact⟨v,l,rfl,by assumption,h3⟩
      simp_all
     obtain⟨l,h5,h6,h7⟩:=hex;refine⟨rfl,.agg l.toArray,?_,?_⟩
     ·grind [Instr.loadAt,Instr.sureAddr,BF]
     ·simp only[Qf];grind
    ·cases G
   ·rename_i Y;split at G
    ·rename_i c0 Z;simp only[ZA] at G;subst G;obtain⟨v,hv,_,_,aa⟩:=h4 0 c0 Z;refine⟨rfl,v,?_,by assumption⟩
     grind [Instr.loadAt,Instr.sureAddr,BG]
    ·cases G
  ·cases G
 ·cases G
theorem Qe5(r:Zy φ M0 N D T h a w){u:Kv}(O:o.op=.load ty x)(G:Og P T h ty x=some u):u.2.1=none∧Yield P o φ M0 h a w u.1 h:=by
 obtain⟨Y,v,J,U⟩:=qQ (P:=P) r G;exact⟨Y,Qu r (v:=v) (by simp[execOp,O,J]) U⟩
def qU(P:Program)(T:Nat→Option AV)(h:QY)(ty:TypeId)(x y:Operand):Option Kv :=
 match P.info? ty,Zn T x,Zn T y with
|some i,some (.ptr b off),some v =>
  match h b,cellsOf v with
 |some (.box tb cs),some G =>
   if G.length=i.size∧off+G.length≤cs.length then some (.p<|.val undef,some (b,.box tb<|cs.take off++G++cs.drop (off+G.length)),[b]) else none
 |_,_=>none
|_,_,_=>none
theorem QbS(r:Zy φ M0 N D T h a w){u:Kv}(ho:o.op=.store ty x y)(G:qU P T h ty x y=some u):Yield P o φ M0 h a w u.1 (ap h u.2.1):=by
 unfold qU at G;split at G
 ·rename_i i b off v hi hx hy;have h2:=r.ev hx;have h3:=r.ev hy;simp only[Qf] at h2;split at G
  ·rename_i tb cs J hb Y;split at G
   ·rename_i Z;simp only[ZA] at G;subst G;obtain⟨c,hw,O⟩:=r.hp.blk b _ hb;obtain⟨h4,h5,h6⟩:=V7 Y h3;have ac:=ZY h4;have ab:=ZY O;have U:=run_storeCells_at P (φ b) off tb (a.eval y).cells.toList 0 c w hw zc h5;simp only[Nat.add_zero] at U
    have aa:Ql φ h w (MM φ h M0) (cs.take off++J++cs.drop (off+J.length)) (c.toList.take off++(a.eval y).cells.toList++c.toList.drop (off+(a.eval y).cells.toList.length)):=by
     grind [ZZ,UW,UX]
    obtain⟨E,X⟩:=qP (cs':=cs.take off++J++cs.drop (off+J.length)) (c':=(c.toList.take off++(a.eval y).cells.toList++c.toList.drop (off+(a.eval y).cells.toList.length)).toArray) hb hw r.hp;refine⟨.skip,undef,_,φ,?_,.inr ⟨rfl,rfl⟩,by rfl,gW hb hw r.hp zo,E,X⟩
    simp_all [execOp,Instr.storeAt,Instr.sureAddr,storeVar,Ze]
   ·cases G
  ·cases G
 ·cases G
def vk(o:Oper)(h:QY)(ty:TypeId)(v:AV):Option Kv :=
 match o.dst,cellsOf v with
|some d,some cs=>match h d with|none=>some (.ptr d 0,some (d,.box ty cs),[d])|some _=>none
|_,_=>none
theorem QbT(r:Zy φ M0 N D T h a w){v:AV}{y:Value}{u:Kv}(O:(execOp a.eval o).run P w=.ok (.value<|.pointer<|some ⟨w.heap.size,0,none⟩) (w.alloc<|.cells y.cells ty))(Y:Qf φ h w (MM φ h M0) v y)(G:vk o h ty v=some u):Yield P o φ M0 h a w u.1 (ap h u.2.1):=by
 unfold vk at G;split at G
 ·rename_i d cs _ U;split at G
  ·rename_i hd;simp only[ZA] at G;subst G;refine Yield.of_lift r 1 fun φ r E0 X0 Z=>?_
   have Y:=(QV (E0.keeps M0) X0).1 _ _ Y;obtain⟨E,X⟩:=Uo (w':=w.alloc<|.cells y.cells ty) (o:=.cells y.cells ty) (b:=d) (k:=.box ty cs) (M0:=M0) rfl rfl rfl rfl hd r.hp Z
   have J:RelB (QL φ d w.heap.size) (upd h d<|.box ty cs) (w.alloc<|.cells y.cells ty) (MM (QL φ d w.heap.size) (upd h d<|.box ty cs) M0) w.heap.size (.box ty cs):=by
    refine⟨y.cells,by show(w.heap.push _)[w.heap.size]?=_;simp,(QV (E.keeps M0) X).2 _ _ (V7 U Y).1⟩
   refine⟨_,_,_,QL φ d w.heap.size,O,.inl rfl,?_,Ur rfl hd r.hp Z E X J,E,X⟩;simp[Qf,ap,QL,upd]
  ·cases G
 ·cases G
theorem QbU(r:Zy φ M0 N D T h a w){i:TypeInfo}{u:Kv}(G:o.op=.alloc ty)(hi:P.info? ty=some i)(O:i.zero=some z)(J:vk o h ty (y7 z)=some u) :
  Yield P o φ M0 h a w u.1 (ap h u.2.1) :=
 QbT r (y:=z) (by simp[execOp,G,Instr.alloc,zeroValue,typeInfo,hi,O,newVar,newRow,newObj,Sem.run]) (Jy z) J
theorem QiE(r:Zy φ M0 N D T h a w){v:AV}{u:Kv}(J:o.op=.box ty x)(O:Zn T x=some v)(G:vk o h ty v=some u) :
  Yield P o φ M0 h a w u.1 (ap h u.2.1) :=
 QbT r (y:=a.eval x) (by simp[execOp,J,Instr.box,newVar,newRow,newObj,Sem.run]) (r.ev O) G
end
section
variable {P:Program}{o:Oper}{φ:Nat→Nat}{M0:ZR}{N:Nat}{D:DB}{T:Nat→Option AV}{h:QY}{a:Act}{w:World}
theorem PO{o:Nat}{cs:List PV}(k:Nat)(J:k≤cs.length)(G:WM w M r o cs):WM w M r (o+k) (cs.drop k):=by
 have:WM w M r o (cs.take k++cs.drop k):=by simp_all
 grind [D5]
def UY(P:Program)(T:Nat→Option AV)(s:TypeId)(x:Operand)(f:Nat):Option Kv :=
 match P.underlying s with
|some (.struct fields) =>
  match fields[f]? with
 |some G =>
   match P.info? G.type with
  |some i =>
    if i.size=0 then none else
    match Zn T x with
   |some (.ptr b off)=>some (.ptr b<|off+G.offset,none,[])
   |some (.eptr cs)=>if G.offset≤cs.length then some (.eptr<|cs.drop G.offset,none,[]) else none
   |_=>none
  |none=>none
 |none=>none
|_=>none
theorem jY(r:Zy φ M0 N D T h a w){s:TypeId}{f:Nat}{u:Kv}(ho:o.op=.fieldAddr s x f)(G:UY P T s x f=some u):u.2.1=none∧Yield P o φ M0 h a w u.1 h:=by
 unfold UY at G;split at G
 ·rename_i fields hs;split at G
  ·rename_i Y hf;split at G
   ·rename_i i hi;split at G
    ·cases G
    ·rename_i aa;split at G
     ·rename_i b off O;simp only[ZA] at G;subst G;have J:=r.ev O;simp only[Qf] at J;refine⟨rfl,Qu r (v:=.pointer<|some ⟨φ b,off+Y.offset,none⟩) ?_ ?_⟩
      ·simp_all [execOp,Instr.fieldAt,Instr.sureAddr,fieldPlace,run_underlying,Ze,Addr.add_lit]
      grind [Qf]
     ·rename_i cs O;split at G
      ·rename_i U;simp only[ZA] at G;subst G;have J:=r.ev O;simp only[Qf] at J;obtain⟨Z,oo,h3,h4⟩:=J;refine⟨rfl,Qu r (v:=.pointer<|some ⟨Z,oo+Y.offset,none⟩) ?_ ?_⟩
       ·simp_all [execOp,Instr.fieldAt,Instr.sureAddr,fieldPlace,run_underlying,Ze,Addr.add_lit]
       ·simp only[Qf];exact⟨Z,oo+Y.offset,rfl,PO _ U h4⟩
      ·cases G
     ·cases G
   ·cases G
  ·cases G
 ·cases G
def elems:AV→Option (Nat×List (List PV))|.p (.sl S es)=>some (S,es)|.tsl S es _=>some (S,es)|_=>none
theorem Nv{x:AV}{S:Nat}{es:List (List PV)}(G:elems x=some (S,es))(O:Qf φ h w M x v):Zj w M (.sl S es) v:=by
 cases x with
|p x=>cases x with
 |val y=>simp[elems] at G
 |sl J es'=>simp only[elems,ZA,LK] at G;obtain⟨rfl,rfl⟩:=G;grind [Qf]
|tsl J es' t=>simp only[elems,ZA,LK] at G;obtain⟨rfl,rfl⟩:=G;grind [Qf]
|_=>simp[elems] at G
def JA(P:Program)(T:Nat→Option AV)(t:TypeId)(x ix:Operand):Option Kv :=
 match Zn T ix with
|some (.p (.val (.int _ n))) =>
  match P.underlying t,Zn T x with
 |some (.slice e),some v =>
   match elems v,P.info? e with
  |some (S,es),some i=>if i.size=S∧0≤n then(match es[n.toNat]? with|some c=>some (.eptr c,none,[])|none=>none) else none
  |_,_=>none
 |some (.array len e),some (.ptr b off) =>
   match P.info? e with
  |some i=>if 0≤n∧n<len then some (.ptr b<|off+n.toNat*i.size,none,[]) else none
  |none=>none
 |some (.array len e),some (.eptr cs) =>
   match P.info? e with
  |some i=>if 0≤n∧n<len∧n.toNat*i.size≤cs.length then some (.eptr<|cs.drop<|n.toNat*i.size,none,[]) else none
  |none=>none
 |_,_=>none
|_=>none
theorem jZ(r:Zy φ M0 N D T h a w){t:TypeId}{u:Kv}(ho:o.op=.indexAddr t x ix)(G:JA P T t x ix=some u):u.2.1=none∧Yield P o φ M0 h a w u.1 h:=by
 unfold JA at G;split at G
 ·rename_i k n ab;have J:=r.ev ab;simp only[Qf,Zj] at J;split at G
  ·rename_i e v Z U;split at G
   ·rename_i S es i aa hi;split at G
    ·rename_i hc;split at G
     ·rename_i c Y;simp only[ZA] at G;subst G;have O:=Nv aa<|r.ev U;simp only[Zj] at O;have hlt:n.toNat<es.length:=(wB.1 Y).1;rcases O with⟨rr,oo,cap,hv,ac⟩|⟨rfl,_⟩
      ·obtain⟨_,ae⟩:=iN ac.2 Y;refine⟨rfl,Qu r (v:=.pointer<|some ⟨rr,oo+n.toNat*i.size,none⟩) ?_ ?_⟩
       ·have ad:0≤n∧n<(es.length:Int):=⟨hc.2,by omega⟩;simp[execOp,ho,Instr.indexAt,J,asIntOf,run_underlying Z,hv,ad,Ze hi,Addr.add_lit]
       ·simp only[Qf];grind
      grind
     ·cases G
    ·cases G
   ·cases G
  ·rename_i len e b off Z U;split at G
   ·rename_i i hi;split at G
    ·rename_i hc;simp only[ZA] at G;subst G;have O:=r.ev U;simp only[Qf] at O;refine⟨rfl,Qu r (v:=.pointer<|some ⟨φ b,off+n.toNat*i.size,none⟩) ?_ ?_⟩
     ·simp[execOp,ho,Instr.indexAt,J,asIntOf,run_underlying Z,O.1,Instr.sureAddr,hc,Ze hi,Addr.add_lit]
     grind [Qf]
    ·cases G
   ·cases G
  ·rename_i len e cs Z U;split at G
   ·rename_i i hi;split at G
    ·rename_i hc;simp only[ZA] at G;subst G;have O:=r.ev U;simp only[Qf] at O;obtain⟨rr,oo,h3,h4⟩:=O;refine⟨rfl,Qu r (v:=.pointer<|some ⟨rr,oo+n.toNat*i.size,none⟩) ?_ ?_⟩
     ·simp[execOp,ho,Instr.indexAt,J,asIntOf,run_underlying Z,h3,Instr.sureAddr,hc.1,hc.2.1,Ze hi,Addr.add_lit]
     ·simp only[Qf];exact⟨rr,_,rfl,PO _ hc.2.2 h4⟩
    ·cases G
   ·cases G
  ·cases G
 ·cases G
def gX(P:Program)(ty:TypeId)(cs:List AV)(off:Nat):Option AV :=
 match P.underlying ty,P.info? ty with
|some d,some i=>if F5 d then(if off+i.size≤cs.length then some (.agg<|(cs.drop off).take i.size) else none) else cs[off]?
|_,_=>none
theorem lh{cs:List AV}{x:AV}{l:List Value}(G:gX P ty cs off=some x)(O:Ql φ h w M cs l) :
  ∃v,(part ty l.toArray off).run P w=.ok v w∧Qf φ h w M x v:=by
 unfold gX at G;split at G
 ·rename_i d i hd hi;split at G
  ·rename_i J;split at G
   ·rename_i U;simp only[ZA] at G;subst G;refine⟨.agg ((l.drop off).take i.size).toArray,?_,?_⟩
    ·simp_all [part,GI,Ze]
    ·simp only[Qf];exact⟨_,rfl,UW _<|UX _ O⟩
   ·cases G
  ·rename_i J;obtain⟨v,Z,Y⟩:=GG O G
   simp_all [part,GI]
 ·cases G
def qV(P:Program)(T:Nat→Option AV)(t:TypeId)(x:Operand)(f:Nat):Option Kv :=
 match P.underlying t,Zn T x with
|some (.struct fields),some (.agg cs) =>
  match fields[f]? with
 |some G=>match gX P G.type cs G.offset with|some v=>some (v,none,[])|none=>none
 |none=>none
|_,_=>none
theorem QbV(r:Zy φ M0 N D T h a w){t:TypeId}{f:Nat}{u:Kv}(ho:o.op=.field t x f)(G:qV P T t x f=some u):u.2.1=none∧Yield P o φ M0 h a w u.1 h:=by
 unfold qV at G;split at G
 ·rename_i fields cs ht O;split at G
  ·rename_i fl hf;split at G
   ·rename_i v Z;simp only[ZA] at G;subst G;have J:=r.ev O;simp only[Qf] at J;obtain⟨l,h3,Y⟩:=J;obtain⟨y,h5,U⟩:=lh Z Y;refine⟨rfl,Qu r (v:=y) ?_ U⟩
    simp_all [execOp,Instr.field,asAgg,run_underlying]
   ·cases G
  ·cases G
 ·cases G
def AZ(P:Program)(T:Nat→Option AV)(t:TypeId)(x ix:Operand):Option Kv :=
 match P.underlying t,Zn T x,Zn T ix with
|some (.array len e),some (.agg cs),some (.p (.val (.int _ n))) =>
  match P.info? e with
 |some i=>if 0≤n∧n<len then(match gX P e cs (n.toNat*i.size) with|some v=>some (v,none,[])|none=>none) else none
 |none=>none
|_,_,_=>none
theorem QbW(r:Zy φ M0 N D T h a w){t:TypeId}{u:Kv}(Y:o.op=.index t x ix)(G:AZ P T t x ix=some u):u.2.1=none∧Yield P o φ M0 h a w u.1 h:=by
 unfold AZ at G;split at G
 ·rename_i len e cs k n ht Z O;split at G
  ·rename_i i hi;split at G
   ·rename_i hc;split at G
    ·rename_i v hv;simp only[ZA] at G;subst G;have U:=r.ev Z;simp only[Qf] at U;obtain⟨l,h3,h4⟩:=U;have J:=r.ev O;simp only[Qf,Zj] at J;obtain⟨y,h5,h6⟩:=lh hv h4;refine⟨rfl,Qu r (v:=y) ?_ h6⟩;simp[execOp,Y,Instr.index,J,asIntOf,run_underlying ht,h3,hc,Ze hi,h5]
    ·cases G
   ·cases G
  ·cases G
 ·cases G
def Ri(T:Nat→Option AV)(x:Operand)(i:Nat):Option Kv :=
 match Zn T x with
|some (.tup G)=>match G[i]? with|some v=>some (v,none,[])|none=>none
|_=>none
theorem dB(r:Zy φ M0 N D T h a w){u:Kv}(ho:o.op=.extract x i)(G:Ri T x i=some u):u.2.1=none∧Yield P o φ M0 h a w u.1 h:=by
 unfold Ri at G;split at G
 ·rename_i vs U;split at G
  ·rename_i v Z;simp only[ZA] at G;subst G;have J:=r.ev U;simp only[Qf] at J;obtain⟨l,h3,Y⟩:=J;obtain⟨y,h5,O⟩:=GG Y Z;refine⟨rfl,Qu r (v:=y) ?_ O⟩
   simp_all [execOp,Instr.extract]
  ·cases G
 ·cases G
def A7(T:Nat→Option AV):List Operand→Option (List AV)
|[]=>some []
|x::xs=>match Zn T x,A7 T xs with|some v,some G=>some (v::G)|_,_=>none
theorem Rj(r:Zy φ M0 N D T h a w):∀{xs:List Operand} {J:List AV},A7 T xs=some J→Ql φ h w (MM φ h M0) J (xs.map a.eval)
|[],J,G=>by grind [A7,Ql]
|x::xs,J,G=>by
  simp only[A7] at G;split at G
  ·rename_i v U O Y;simp only[ZA] at G;subst G;simp only[JR,Ql];exact⟨_,_,rfl,r.ev O,Rj r Y⟩
  ·cases G
def Da(T:Nat→Option AV)(f:Fn)(first captured:Array Operand):Option Kv :=
 match A7 T first.toList,A7 T captured.toList with
|some l,some m=>some (.fn f l m,none,[])
|_,_=>none
theorem gY(r:Zy φ M0 N D T h a w){f:Fn}{first captured:Array Operand}{u:Kv}(J:o.op=.makeFunc f first captured)(G:Da T f first captured=some u):u.2.1=none∧Yield P o φ M0 h a w u.1 h:=by
 unfold Da at G;split at G
 ·rename_i l m U O;simp only[ZA] at G;subst G;refine⟨rfl,Qu r (v:=.func f (first.map a.eval)<|captured.map a.eval) ?_ ?_⟩
  ·simp[execOp,J,Instr.makeFunc]
  ·simp only[Qf];refine⟨first.toList.map a.eval,captured.toList.map a.eval,?_,Rj r U,Rj r O⟩;have Y:∀z:Array Operand,z.map a.eval=(z.toList.map a.eval).toArray:=fun z=>by grind
   grind
 ·cases G
def Xu(P:Program)(T:Nat→Option AV)(t:TypeId)(x:Operand):Option Kv :=
 match P.underlying t,Zn T x with
|some (.interface _),_=>none
|some _,some v=>some (.ifc t v,none,[])
|_,_=>none
theorem A8(r:Zy φ M0 N D T h a w){t:TypeId}{u:Kv}(U:o.op=.makeInterface t x)(G:Xu P T t x=some u):u.2.1=none∧Yield P o φ M0 h a w u.1 h:=by
 unfold Xu at G;split at G
 ·cases G
 ·rename_i d v J Z Y;simp only[ZA] at G;subst G;refine⟨rfl,Qu r (v:=.iface t<|a.eval x) ?_ ?_⟩
  ·have hd:∀O,d≠.interface O:=fun O e=>J O e
   cases d<;>first|(exact absurd rfl (hd _))|simp[execOp,U,Instr.makeInterface,run_underlying Z]
  ·simp only[Qf];exact⟨_,rfl,r.ev Y⟩
 ·cases G
def Fy(P:Program)(T:Nat→Option AV)(x:Operand)(asserted:TypeId)(ok:Bool):Option Kv :=
 match P.underlying asserted,Zn T x with
|some (.interface _),_=>none
|some _,some (.ifc t v) =>
  if t=asserted then some (if ok then .tup [v,.p<|.val<|.bool true] else v,none,[])
  else if ok then(match (P.info? asserted).bind (·.zero) with|some z=>some (.tup [y7 z,.p<|.val<|.bool false],none,[])|none=>none)
  else none
|_,_=>none
theorem vo(r:Zy φ M0 N D T h a w){xt asserted:TypeId}{u:Kv}(ho:o.op=.typeAssert x xt asserted ok)(G:Fy P T x asserted ok=some u):u.2.1=none∧Yield P o φ M0 h a w u.1 h:=by
 unfold Fy at G;split at G
 ·cases G
 ·rename_i d t v Y ht hx;have hd:∀Z,d≠.interface Z:=fun Z e=>Y Z e
  have h2:=r.ev hx;simp only[Qf] at h2;obtain⟨y,h3,h4⟩:=h2;split at G
  ·rename_i U;simp only[ZA] at G;subst G;cases ok
   ·refine⟨rfl,Qu r (v:=y) ?_ h4⟩;cases d<;>first|(exact absurd rfl (hd _))|simp_all [execOp,Instr.typeAssert,run_underlying]
   ·refine⟨rfl,Qu r (v:=.tuple #[y,.bool true]) ?_ ?_⟩
    ·cases d<;>first|(exact absurd rfl (hd _))|simp[execOp,ho,Instr.typeAssert,run_underlying ht,h3,U]
    ·simp only[Qf,if_true];exact⟨[y,.bool true],rfl,by simp[Ql,h4,Qf,Zj]⟩
  ·rename_i J;split at G
   ·rename_i hok;split at G
    ·rename_i z O;simp only[ZA] at G;subst G;simp only[Es] at O;obtain⟨i,hi,O⟩:=O;refine⟨rfl,Qu r (v:=.tuple #[z,.bool false]) ?_ ?_⟩
     ·cases d<;>first|(exact absurd rfl (hd _))|simp[execOp,ho,Instr.typeAssert,run_underlying ht,h3,J,hok,zeroValue,typeInfo,hi,O]
     ·simp only[Qf];exact⟨[z,.bool false],rfl,by simp[Ql,Jy,Qf,Zj]⟩
    ·cases G
   ·cases G
 ·cases G
def GJ(T:Nat→Option AV)(x:Operand):Option Kv :=
 match Zn T x with
|some (.ptr b off)=>some (.ptr b off,none,[])
|some (.eptr cs)=>some (.eptr cs,none,[])
|some (.fn (.func f) l m)=>some (.fn (.func f) l m,none,[])
|_=>none
theorem gZ(r:Zy φ M0 N D T h a w){u:Kv}(Y:o.op=.nilCheck x)(G:GJ T x=some u):u.2.1=none∧Yield P o φ M0 h a w u.1 h:=by
 unfold GJ at G;split at G
 ·rename_i b off O;simp only[ZA] at G;subst G;have J:=r.ev O;refine⟨rfl,Qu r (v:=a.eval x) ?_ J⟩
  simp_all [Qf,execOp]
 ·rename_i cs O;simp only[ZA] at G;subst G;have J:=r.ev O;refine⟨rfl,Qu r (v:=a.eval x) ?_ J⟩;simp only[Qf] at J;obtain⟨Z,oo,U,_⟩:=J;simp[execOp,Y,U]
 ·rename_i f l m O;simp only[ZA] at G;subst G;have J:=r.ev O;refine⟨rfl,Qu r (v:=a.eval x) ?_ J⟩;simp only[Qf] at J;obtain⟨l',m',U,_⟩:=J;simp[execOp,Y,U]
 ·cases G
def iO(P:Program)(T:Nat→Option AV)(t:TypeId)(x:Operand):Option Kv :=
 match P.underlying t,Zn T x with
|some (.slice _),some v=>match elems v with|some (_,es)=>some (.p<|.val<|.int .i64 es.length,none,[])|none=>none
|_,_=>none
theorem QiF(r:Zy φ M0 N D T h a w){t:TypeId}{u:Kv}(U:o.op=.call ⟨.builtin .len,#[x],#[t]⟩)(G:iO P T t x=some u):u.2.1=none∧Yield P o φ M0 h a w u.1 h:=by
 unfold iO at G;split at G
 ·rename_i e v Z hx;split at G
  ·rename_i S es J;simp only[ZA] at G;subst G;have Y:=Nv J<|r.ev hx;simp only[Zj] at Y;refine⟨rfl,Qu r (v:=.int .i64 es.length) ?_<|by rfl⟩;rcases Y with⟨rr,oo,cap,O,aa⟩|⟨rfl,q,cap,O⟩
   ·simp[execOp,U,resolve,invoke,builtin,Builtin.len_,run_underlying Z,O,goInt]
   ·simp[execOp,U,resolve,invoke,builtin,Builtin.len_,run_underlying Z,O,goInt]
  ·cases G
 ·cases G
end
section
variable {P:Program}{o:Oper}{φ:Nat→Nat}{M0:ZR}{N:Nat}{D:DB}{T:Nat→Option AV}{h:QY}{a:Act}{w:World}
def EB(place:Nat→Option (Nat×Nat))(cells:List AV):List (Nat×AV)→Option (List AV)
|[]=>some cells
|(i,v)::rest =>
  match place i,cellsOf v with
 |some (off,size),some G=>if G.length=size∧off+size≤cells.length then EB place (cells.take off++G++cells.drop (off+size)) rest else none
 |_,_=>none
theorem EC:∀(G:List Value) (k off:Nat) (cs:Array Value),off+k+G.length≤cs.size →
  ((G.zipIdx k).foldl (fun(cs:Array Value) (p:Value×Nat)=>cs.setIfInBounds (off+p.2) p.1) cs).toList=cs.toList.take (off+k)++G++cs.toList.drop (off+k+G.length)
|[],k,off,cs,_=>by simp
|v::G,k,off,cs,J=>by
  simp only[List.zipIdx_cons,List.foldl_cons];rw[EC G (k+1) off _<|zc];have e:=list_seg_step cs.toList (off+k) v G (by assumption);simp only[Array.toList_setIfInBounds,DU];omega
theorem ED{M:ZR}{placeC G:Nat→Option (Nat×Nat)}(hp:∀i x,G i=some x→placeC i=some x) :
  ∀(ps:List (Nat×AV)) (O:List (Nat×Value)) (cs:List AV) (c:Array Value) (rs:List AV),(ps.map (·.1)=O.map (·.1))→Ql φ h w M (ps.map (·.2)) (O.map (·.2)) →
   Ql φ h w M cs c.toList→EB G cs ps=some rs→∃c',Instr.fill placeC c O=some c'∧Ql φ h w M rs c'.toList
|[],O,cs,c,rs,U,_,h3,J=>by
  have:O=[]:=by simp_all
  subst this;simp only[EB,ZA] at J;subst J;exact⟨c,rfl,h3⟩
|(i,v)::ps,[],cs,c,rs,U,_,_,_=>by simp at U
|(i,v)::ps,(j,y)::O,cs,c,rs,U,h2,h3,J=>by
  simp only[JR,List.cons.injEq] at U;obtain⟨rfl,U⟩:=U;simp only[JR,Ql] at h2;obtain⟨y',ae,h4,h5,h6⟩:=h2;simp only[List.cons.injEq] at h4;obtain⟨rfl,rfl⟩:=h4;simp only[EB] at J;split at J
  ·rename_i off size vs ad ac;split at J
   ·rename_i hc;obtain⟨h7,_,_⟩:=V7 ac h5;have aa:=ZY h7;have Z:=ZY h3;simp only[Array.length_toList] at aa Z;have ab:=EC y.cells.toList 0 off c (by simp;omega);simp only[Nat.add_zero] at ab
    have Y:Ql φ h w M (cs.take off++vs++cs.drop (off+size)) ((y.cells.toList.zipIdx 0).foldl (fun(cs:Array Value) (p:Value×Nat)=>cs.setIfInBounds (off+p.2) p.1) c).toList:=by
     grind [ZZ,UW,UX]
    obtain⟨c',h8,h9⟩:=ED hp ps O _ _ rs U h6 Y J;refine⟨c',?_,h9⟩
    have e1:(y.cells.zipIdx.foldl (fun(cs:Array Value) (p:Value×Nat)=>cs.setIfInBounds (off+p.2) p.1) c)=((y.cells.toList.zipIdx 0).foldl (fun(cs:Array Value) (p:Value×Nat)=>cs.setIfInBounds (off+p.2) p.1) c):=by
     rw[←Array.foldl_toList];simp
    grind [Instr.fill]
   ·cases J
  ·cases J
def qW(T:Nat→Option AV):List (Nat×Operand)→Option (List<|Nat×AV)
|[]=>some []
|(i,x)::xs=>match Zn T x,qW T xs with|some v,some G=>some ((i,v)::G)|_,_=>none
theorem BH(r:Zy φ M0 N D T h a w):∀{xs:List (Nat×Operand)} {J:List (Nat×AV)},qW T xs=some J →
  J.map (·.1)=(xs.map fun(i,x)=>(i,a.eval x)).map (·.1)∧Ql φ h w (MM φ h M0) (J.map (·.2)) ((xs.map fun(i,x)=>(i,a.eval x)).map (·.2))
|[],J,G=>by grind [qW,Ql]
|(i,x)::xs,J,G=>by
  simp only[qW] at G;split at G
  ·rename_i v O U Z;simp only[ZA] at G;subst G;obtain⟨h3,Y⟩:=BH r Z;refine⟨zc,?_⟩;simp only[JR,Ql];exact⟨_,_,rfl,r.ev U,Y⟩
  ·cases G
def xc(P:Program)(fields:Array Field)(i:Nat):Option (Nat×Nat) :=
 match fields[i]? with
|some f=>match P.info? f.type with|some t=>some (f.offset,t.size)|none=>none
|none=>none
theorem fe{α β:Type}(f:α→Sem β)(g:α→β):∀(l:List α),(∀x∈l,(f x).run P w=.ok (g x) w)→(l.mapM f).run P w=.ok (l.map g) w
|[],_=>by simp
|x::l,hh=>by
  simp only[List.mapM_cons,Sem.run_bind,hh x zq,Result.andThen_ok,fe f g l (fun y G=>hh y<|by simp[G]),Sem.run_pure,JR]
def qX(P:Program)(T:Nat→Option AV)(t:TypeId)(parts:Array (Nat×Operand)):Option Kv :=
 match P.info? t with
|some i =>
  match i.zero,P.underlying t,qW T parts.toList with
 |some z,some (.struct fields),some ps =>
   if fields.toList.all (fun f=>(P.info? f.type).isSome) then
    match cellsOf (y7 z) with
   |some cs=>match EB (xc P fields) cs ps with|some rs=>some (.agg rs,none,[])|none=>none
   |none=>none
   else none
 |some z,some (.array _ e),some ps =>
   match P.info? e,cellsOf (y7 z) with
  |some j,some cs=>match EB (fun i=>some (i*j.size,j.size)) cs ps with|some rs=>some (.agg rs,none,[])|none=>none
  |_,_=>none
 |_,_,_=>none
|none=>none
theorem QbX(r:Zy φ M0 N D T h a w){t:TypeId}{u:Kv}(ho:o.op=.build t parts)(G:qX P T t parts=some u):u.2.1=none∧Yield P o φ M0 h a w u.1 h:=by
 unfold qX at G;split at G
 ·rename_i i hi;split at G
  ·rename_i z fields ps hz ht O;split at G
   ·rename_i Z;split at G
    ·rename_i cs J;split at G
     ·rename_i rs U;simp only[ZA] at G;subst G;obtain⟨h1,h2⟩:=BH r O;obtain⟨h3,_,_⟩:=V7 J (Jy (φ:=φ) (h:=h) (w:=w) (M:=MM φ h M0) z)
      let g:Field→Nat×Nat:=fun f=>(f.offset,((P.info? f.type).map (·.size)).getD 0)
      have aa:∀i x,xc P fields i=some x→(fun k=>((fields.toList.map g).toArray)[k]?) i=some x:=by
       grind [xc]
      obtain⟨c',h4,h5⟩:=ED aa ps _ cs z.cells rs h1 h2 h3 U;refine⟨rfl,Qu r (v:=.agg c') ?_ ?_⟩
      ·have hm:(fields.mapM fun(f:Field)=>(do pure (f.offset,←sizeOf f.type):Sem (Nat×Nat))).run P w=.ok (fields.toList.map g).toArray w:=by
        rw[Array.mapM_eq_mapM_toList];simp only[Sem.run_map]
        rw[fe _ g fields.toList (fun f hf=>by
         have hs:=Fx.1 Z f hf;obtain⟨ti,Y⟩:=TZ.1 hs;simp[Ze Y,g,Y])]
        rfl
       have hq:(parts.map fun(x:Nat×Operand)=>(x.1,a.eval x.2)).toList=parts.toList.map fun(x:Nat×Operand)=>(x.1,a.eval x.2):=by simp
       simp only[execOp,ho,Instr.build,Sem.run_bind,zeroValue,typeInfo,program,Sem.run,hi,hz,Result.andThen_ok,Sem.run_pure,run_underlying ht,hm]
       simp_all
      grind [Qf]
     ·cases G
    ·cases G
   ·cases G
  ·rename_i z n e ps hz ht O;split at G
   ·rename_i j cs hj J;split at G
    ·rename_i rs U;simp only[ZA] at G;subst G;obtain⟨h1,h2⟩:=BH r O;obtain⟨h3,_,_⟩:=V7 J<|Jy (φ:=φ) (h:=h) (w:=w) (M:=MM φ h M0) z;obtain⟨c',h4,h5⟩:=ED (fun i x hx=>hx) ps _ cs z.cells rs h1 h2 h3 U;refine⟨rfl,Qu r (v:=.agg c') ?_ ?_⟩
     ·have hq:(parts.map fun(x:Nat×Operand)=>(x.1,a.eval x.2)).toList=parts.toList.map fun(x:Nat×Operand)=>(x.1,a.eval x.2):=by simp
      simp only[execOp,ho,Instr.build,Sem.run_bind,zeroValue,typeInfo,program,Sem.run,hi,hz,Result.andThen_ok,Sem.run_pure,run_underlying ht,Ze hj]
      simp_all
     grind [Qf]
    ·cases G
   ·cases G
  ·cases G
 ·cases G
def known(T:Nat→Option AV)(x:Operand):Option Value:=match Zn T x with|some v=>AR v|none=>none
def allKnown(T:Nat→Option AV):List Operand→Bool|[]=>true|x::xs=>(known T x).isSome&&allKnown T xs
theorem iP(r:Zy φ M0 N D T h a w)(G:known T x=some v):a.eval x=v:=by
 unfold known at G;split at G
 ·rename_i y J;exact Nu.1 _ _ _ (r.ev J) G
 ·cases G
theorem EE:∀{l:List Operand} {x:Operand},allKnown T l=true→x∈l→(known T x).isSome=true
|y::l,x,J,G=>by
  simp only[allKnown,Ku] at J;rcases List.mem_cons.1 G with rfl|G
  ·exact J.1
  ·exact EE J.2 G
def Hl:Op→Bool|.select ..=>false|_=>true
def Gx(P:Program)(T:Nat→Option AV)(o:Oper):Option Kv :=
 if allKnown T o.op.operands.toList&&Hl o.op then
  match Vf P (execOp (fun x=>(known T x).getD undef) o) with
 |some (.value v)=>some (y7 v,none,[])
 |_=>none
 else none
theorem pure_ok(r:Zy φ M0 N D T h a w){u:Kv}(G:Gx P T o=some u):u.2.1=none∧Yield P o φ M0 h a w u.1 h:=by
 unfold Gx at G;split at G
 ·rename_i O;simp only[Ku] at O;split at G
  ·rename_i v U;simp only[ZA] at G;subst G;refine⟨rfl,Qu r (v:=v) ?_<|Jy v⟩
   have J:execOp a.eval o=execOp (fun x=>(known T x).getD undef) o:=by
    grind [Hl,execOp_congr,EE,TZ,iP]
   grind [vg]
  ·cases G
 ·cases G
def Xo(k:IntKind)(x y:Int):Int:=k.wrap (BitVec.ofInt k.bits x &&& BitVec.ofInt k.bits y).toNat
def bOr(k:IntKind)(x y:Int):Int:=k.wrap (BitVec.ofInt k.bits x ||| BitVec.ofInt k.bits y).toNat
def Qe7(k:IntKind)(x y:Int):Int:=k.wrap (BitVec.ofInt k.bits x ^^^ BitVec.ofInt k.bits y).toNat
def xe(k:IntKind)(x y:Int):Int:=k.wrap (BitVec.ofInt k.bits x &&& ~~~ BitVec.ofInt k.bits y).toNat
def WU(k:IntKind)(x y:Int):Int:=k.wrap<|x*2 ^ (min y.toNat k.bits)
def QiG(k:IntKind)(x y:Int):Int:=x.fdiv<|2 ^ (min y.toNat k.bits)
def QC(x y:Int):Bool:=decide (x<y)
def leI(x y:Int):Bool:=decide (x≤y)
def Qp(x y:Int):Bool:=x==y
def Q0(x y:List UInt8):Bool:=x==y
def R6(b:Bool):Bool:=b
theorem Fz{x y:Int}(h:x<y):QC x y=true:=by simp[QC,h]
theorem V9{x y:Int}(h:¬x<y):QC x y=false:=by grind [QC]
theorem Oh{x y:Int}(h:x≤y):leI x y=true:=by simp[leI,h]
theorem qY{x y:Int}(h:¬x≤y):leI x y=false:=by grind [leI]
theorem wC{x y:Int}(h:x=y):Qp x y=true:=by simp[Qp,h]
theorem QhQ{x y:Int}(h:¬x=y):Qp x y=false:=by simp[Qp,h]
def qZ(op:BinOp)(k:IntKind)(x y:Int):Option Value :=
 match op with
|.add=>some<|.int k<|k.wrap<|x+y
|.sub=>some<|.int k<|k.wrap<|x-y
|.mul=>some<|.int k<|k.wrap<|x*y
|.quo=>if y=0 then none else some (.int k<|k.wrap<|x.tdiv y)
|.rem=>if y=0 then none else some (.int k<|x.tmod y)
|.and=>some<|.int k<|Xo k x y
|.or=>some<|.int k<|bOr k x y
|.xor=>some<|.int k<|Qe7 k x y
|.andNot=>some<|.int k<|xe k x y
|.eql=>some<|.bool<|Qp x y
|.neq=>some<|.bool (!Qp x y)
|.lss=>some<|.bool<|QC x y
|.leq=>some<|.bool<|leI x y
|.gtr=>some<|.bool<|QC y x
|.geq=>some<|.bool<|leI y x
|_=>none
def EF(op:BinOp)(k:IntKind)(x y:Int):Option Value :=
 if y<0 then none else
 match op with
|.shl=>some<|.int k<|WU k x y
|.shr=>some<|.int k<|QiG k x y
|_=>none
def Hm(s:ByteArray):List UInt8:=s.data.toList
def Xr(l:List UInt8):ByteArray:=⟨l.toArray⟩
theorem D7(l:List UInt8):Hm (Xr l)=l:=by rfl
theorem lm(s:ByteArray):Xr (Hm s)=s:=by rfl
theorem dC(s:ByteArray):s.toList=Hm s:=by rw[ByteArray.toList_eq];rfl
theorem dD(x y:ByteArray):x++y=Xr (Hm x++Hm y):=by
 rfl
def xg(op:BinOp)(x y:ByteArray):Option Value :=
 match op with
|.add=>if(Hm x).length+(Hm y).length≤9223372036854775807 then some (.string<|Xr<|Hm x++Hm y) else none
|.eql=>some<|.bool<|Q0 (Hm x)<|Hm y
|.neq=>some<|.bool (!Q0 (Hm x) (Hm y))
|.lss=>some<|.bool<|Op.bytesLess (Hm x)<|Hm y
|.leq=>some<|.bool<|Op.bytesLess (Hm x) (Hm y)||Hm x==Hm y
|.gtr=>some<|.bool (!(Op.bytesLess (Hm x) (Hm y)||Hm x==Hm y))
|.geq=>some<|.bool (!Op.bytesLess (Hm x) (Hm y))
|_=>none
def D8:BinOp→Bool|.shl|.shr=>true|_=>false
def OW(T:Nat→Option AV)(op:BinOp)(x y:Operand):Option Kv :=
 match Zn T x,Zn T y with
|some (.p (.val (.int k a))),some (.p (.val (.int k' b))) =>
  if D8 op then(match EF op k a b with|some v=>some (.p<|.val v,none,[])|none=>none)
  else if k=k' then(match qZ op k a b with|some v=>some (.p<|.val v,none,[])|none=>none) else none
|some (.p (.val (.string a))),some (.p (.val (.string b)))=>match xg op a b with|some v=>some (.p<|.val v,none,[])|none=>none
|_,_=>none
theorem QiH(r:Zy φ M0 N D T h a w){u:Kv}(Z:o.op=.binOp op tx x y ty)(J:OW T op x y=some u):u.2.1=none∧Yield P o φ M0 h a w u.1 h:=by
 unfold OW at J;split at J
 ·rename_i k n k' m hx hy;have U:=r.ev hx;have O:=r.ev hy;simp only[Qf,Zj] at U O;split at J
  ·rename_i hs;split at J
   ·rename_i v G;simp only[ZA] at J;subst J;refine⟨rfl,Qu r (v:=v) ?_<|by rfl⟩;unfold EF at G;split at G
    ·cases G
    ·rename_i Y;cases op<;>simp[D8] at hs<;>simp only[ZA] at G<;>subst G<;>simp[execOp,Z,U,O,eqGuard,binOp,Op.shift,Y,WU,QiG]
   ·cases J
  ·rename_i hs;split at J
   ·rename_i hk;subst hk;split at J
    ·rename_i v G;simp only[ZA] at J;subst J;refine⟨rfl,Qu r (v:=v) ?_<|by rfl⟩;cases op<;>first|(simp[D8] at hs;done)|(simp only[qZ] at G;first|(cases G;done)|(simp only[ZA] at G;subst G;simp[execOp,Z,U,O,eqGuard,binOp,Op.intArith,Op.intBits,Op.intCmp,Xo,bOr,Qe7,xe,QC,leI,Qp,bne];done)|simp_all [execOp,eqGuard,binOp,Op.intDiv])
    ·cases J
   ·cases J
 ·rename_i n m hx hy;have U:=r.ev hx;have O:=r.ev hy;simp only[Qf,Zj] at U O;split at J
  ·rename_i v G;simp only[ZA] at J;subst J;refine⟨rfl,Qu r (v:=v) ?_<|by rfl⟩;cases op<;>simp only[xg] at G<;>first|(cases G;done)|(simp only[ZA] at G;subst G;simp[execOp,Z,U,O,eqGuard,binOp,Op.stringOp,dC,Q0];done)|skip
   split at G
   ·rename_i aa;simp only[ZA] at G;subst G;have e1:n.size=(Hm n).length:=rfl;have e2:m.size=(Hm m).length:=rfl;have ab:¬(((n.size+m.size:Nat):Int)>IntKind.i64.max):=by grind [IntKind.max,IntKind.signed,IntKind.bits]
    simp_all [execOp,binOp,Op.stringOp,eqGuard,Sem.run_bind,if_neg,dD]
   ·cases G
  ·cases J
 ·cases J
def aUn(T:Nat→Option AV)(op:UnOp)(x:Operand):Option Kv :=
 match Zn T x with
|some (.p (.val (.bool b)))=>match op with|.not=>some (.p<|.val<|.bool (!b),none,[])|_=>none
|some (.p (.val (.int k n)))=>match op with|.neg=>some (.p<|.val<|.int k<|k.wrap<|0-n,none,[])|_=>none
|_=>none
theorem QkZ(r:Zy φ M0 N D T h a w){op:UnOp}{u:Kv}(U:o.op=.unOp op tx x)(G:aUn T op x=some u):u.2.1=none∧Yield P o φ M0 h a w u.1 h:=by
 unfold aUn at G;split at G
 ·rename_i b O;have J:=r.ev O;simp only[Qf,Zj] at J;split at G
  ·simp only[ZA] at G;subst G;exact⟨rfl,Qu r (v:=.bool (!b)) (by simp[execOp,U,J,Op.unary])<|by rfl⟩
  ·cases G
 ·rename_i k n O;have J:=r.ev O;simp only[Qf,Zj] at J;split at G
  ·simp only[ZA] at G;subst G;exact⟨rfl,Qu r (v:=.int k<|k.wrap<|0-n) (by simp[execOp,U,J,Op.unary,Op.intArith])<|by rfl⟩
  ·cases G
 ·cases G
def fo(P:Program)(T:Nat→Option AV)(dst:TypeId)(src:TypeId)(x:Operand):Option Kv :=
 match P.underlying dst,P.underlying src,Zn T x with
|some (.int k),some _,some (.p (.val (.int _ n)))=>some (.p<|.val<|.int k<|k.wrap n,none,[])
|_,_,_=>none
theorem Qe8(r:Zy φ M0 N D T h a w){src dst:TypeId}{u:Kv}(U:o.op=.convert src dst x)(G:fo P T dst src x=some u):u.2.1=none∧Yield P o φ M0 h a w u.1 h:=by
 unfold fo at G;split at G
 ·rename_i k d k' n Y hs O;have J:=r.ev O;simp only[Qf,Zj] at J;simp only[ZA] at G;subst G;refine⟨rfl,Qu r (v:=.int k<|k.wrap n) ?_<|by rfl⟩;simp[execOp,U,J,convert,run_underlying Y,run_underlying hs,Conv.intToInt]
 ·cases G
end
section
variable {P:Program}{o:Oper}{φ:Nat→Nat}{M0:ZR}{N:Nat}{D:DB}{T:Nat→Option AV}{h:QY}{a:Act}{w:World}
theorem Rk{M:ZR}{r:Nat}:∀(cs:List PV) (o:Nat),WM w M r o cs →
  ∃l:List Value,l.length=cs.length∧(∀j v,l[j]?=some v→w.cell? ⟨r,o+j,none⟩=some v)∧(∀u∈l,u.oneCell'=true)∧(∀(j:Nat) c v,cs[j]?=some c→l[j]?=some v→Zj w M c v)
|[],o,_=>⟨[],rfl,by simp,by simp,by simp⟩
|c::cs,o,G=>by
  simp only[WM] at G;obtain⟨⟨v,U,Z,O,Y⟩,J⟩:=G;obtain⟨l,g1,g2,g3,g4⟩:=Rk cs (o+1) J;refine⟨v::l,by simp[g1],?_,?_,?_⟩
  ·grind
  ·grind
  grind
theorem ZH{S:Nat}:∀{es:List (List PV)},(∀e∈es,e.length=S)→es.flatten.length=es.length*S
|[],_=>by simp
|e::es,hh=>by
  simp only[List.flatten_cons,C9,DU,ZH (es:=es) fun x G=>hh x<|List.mem_cons_of_mem _ G,hh e zq,Nat.add_mul];omega
theorem Us{o:Nat}{cs:List PV}{l:List Value}(Y:l.length=cs.length)(hc:∀j v,l[j]?=some v→w'.cell? ⟨r,o+j,none⟩=some v)(Z:∀j,j<l.length→¬M r (o+j))(O:∀u∈l,u.oneCell'=true)(G:∀(j:Nat) c v,cs[j]?=some c→l[j]?=some v→Zj w' M c v):WM w' M r o cs:=by
 rw[LP];intro j c J;have hlt:j<l.length:=by grind
 have U:l[j]?=some l[j]:=List.getElem?_eq_getElem hlt
 grind
theorem Oi{t:Nat}{S n':Nat}{c:Array Value}(ht:h t=some (.arr ty S n))(hw:w.heap[φ t]?=some (.cells c ty (0,0)))(hn:n≤n')(ak:c'.size=c.size)(aj:∀x,x<n*S→c'[x]?=c[x]?)(r:ZX φ h w M0) :
  Zi φ h w φ (upd h t<|.arr ty S n') (w.setRow (φ t) c')∧VF φ h w φ (upd h t<|.arr ty S n') (w.setRow (φ t) c'):=by
 have ae:∀x,x≠φ t→(w.setRow (φ t) c').heap[x]?=w.heap[x]?:=fun x hx=>setRow_other w _ x c' hx
 have Y:(w.setRow (φ t) c').heap[φ t]?=some (.cells c' ty (0,0)):=setRow_heap w _ c c' ty _ hw;have hb:∀b ty cs,h b=some (.box ty cs)→t≠b:=fun b ty cs hb e=>by grind
 have ad:∀t2 WI O Z,h t2=some (.arr WI O Z)→∃n3,upd h t (.arr ty S n') t2=some (.arr WI O n3)∧Z≤n3 ∧
   (n3=Z→AKept w (w.setRow (φ t) c') (φ t2) (φ t2) WI):=by
  intro t2 WI O Z J;by_cases e:t=t2
  ·subst e;rw[ht] at J;cases J;refine⟨n',by simp[upd],hn,fun _=>⟨fun h0=>zc,.inr ⟨rfl,fun c0 ah=>⟨c',Y,?_⟩⟩⟩⟩
   grind
  ·have ai:φ t2≠φ t:=fun e2=>e (r.inj t2 t zc zc e2).symm
   exact⟨Z,by simp[upd,e,J],KD _,fun _=>Ve (rfl)<|zc⟩
 have U:∀t2 WI O G,h t2=some (.vec WI O G)→∃aa,upd h t (.arr ty S n') t2=some (.vec WI O aa)∧G.length≤aa.length ∧
   (aa.length=G.length→φ t2=φ t2∧∀c0,w.heap[φ t2]?=some (.cells c0 WI (0,0))→∃c1,(w.setRow (φ t) c').heap[φ t2]?=some (.cells c1 WI (0,0))∧c1.size=c0.size):=by
  intro t2 WI O Z J;have e:¬t=t2:=fun e=>by grind
  have ai:φ t2≠φ t:=fun e2=>e (r.inj t2 t zc zc e2).symm
  exact⟨Z,by simp[upd,e,J],KD _,fun _=>⟨rfl,fun c0 ah=>⟨c0,zc,rfl⟩⟩⟩
 have ab:∀d k x,h d=some k→k.ob=some x→(∃k',upd h t (.arr ty S n') d=some k'∧k'.ob=some x)∧φ d=φ d:=by
  intro d k x hd ho;have e:¬t=d:=fun e=>by rw[←e,ht] at hd;cases hd;cases ho
  exact⟨⟨k,by simp[upd,e,hd],ho⟩,rfl⟩
 refine⟨⟨rfl,rfl,rfl,by simp,?_,?_,?_,?_,?_,fun t2 WI O G _ J=>U t2 WI O G J,fun d k x _=>ab d k x⟩,?_,ad,U,ab⟩
 ·grind
 ·intro x o _ hm;by_cases e:x=φ t
  ·subst e
   have:o<n*S:=by
    rcases Nat.lt_or_ge o (n*S) with hlt|af
    ·exact hlt
    ·exact absurd ⟨t,_,ht,rfl,af⟩ hm
   grind [KE]
  grind [World.cell?]
 ·rintro x y _ ⟨d,q,h1,J,h3⟩;by_cases e:t=d
  ·subst e;have:q=.arr ty S n':=by grind [upd]
   subst this;have h4:n*S≤n'*S:=Nat.mul_le_mul_right _ hn;exact⟨t,_,ht,J,Nat.le_trans h4 h3⟩
  ·exact⟨d,q,by grind [upd],J,h3⟩
 ·intro d ac ds _ hd;exact⟨⟨ds,by grind [upd]⟩,rfl⟩
 ·grind
 ·intro d ac ds hd;exact⟨⟨ac,ds,by grind [upd]⟩,rfl⟩
theorem Db{t:Nat}{S n':Nat}{cap:Nat}(ht:h t=some (.arr ty S n))(r:ZX φ h w M0)(E:Zi φ h w φ' (upd h t<|.arr ty S n') w')(X:VF φ h w φ' (upd h t<|.arr ty S n') w')(J:∀b,b≠t→φ' b=φ b)(O:φ' t=φ t∨φ' t=w.heap.size∧Clear φ h w 1)(ab:∀d,h d≠none→d≠t→w'.heap[φ d]?=w.heap[φ d]?)(ae:w'.heap[φ' t]?=some (.cells c' ty (0,0)))(ad:c'.size=cap*S)(aa:n'≤cap)(ac:cap≤maxLen):ZX φ' (upd h t<|.arr ty S n') w' M0:=by
 have g:∀d,upd h t (.arr ty S n') d≠none→h d≠none:=fun d Z=>by
  grind [upd]
 refine⟨?_,?_,?_,fun x y hx=>Nat.lt_of_lt_of_le (r.lt x y hx) E.size,r.gm.evol E⟩
 ·intro d e Z he G;by_cases e1:d=t<;>by_cases Y:e=t
  ·rw[e1,Y]
  ·rw[e1,J e Y] at G;rcases O with U|⟨U,hC⟩
   ·rw[U] at G;rw[e1];exact r.inj t e zc (g e he) G
   grind
  ·rw[Y,J d e1] at G;rcases O with U|⟨U,hC⟩
   ·rw[U] at G;rw[Y];exact r.inj d t (g d Z) zc G
   grind
  ·rw[J d e1,J e Y] at G;exact r.inj d e (g d Z) (g e he) G
 ·intro d q Z;by_cases e:t=d
  ·subst e;have:q=.arr ty S n':=by grind [upd]
   subst this;exact .inr ⟨c',cap,ae,ad,aa,ac⟩
  ·have h1:h d=some q:=by grind [upd]
   rw[J d fun Y=>e Y.symm];exact Ke (E.keeps M0) X (ab d zc fun Y=>e Y.symm)<|r.blk d q h1
 ·intro d Z o hm;by_cases e:d=t
  ·subst e;rcases O with U|⟨U,_⟩
   ·rw[U] at hm;exact r.fr d (g d Z) o hm
   ·rw[U] at hm;exact absurd (r.lt _ _ hm) zo
  ·rw[J d e] at hm;exact r.fr d (g d Z) o hm
theorem Ls{ob:Obj}{t:Nat}{S n':Nat}(ht:h t=some (.arr ty S n))(hn:n<n')(hh:w'.heap=w.heap.push ob)(ho:w'.os=w.os)(ac:w'.tape=w.tape)(hu:w'.output=w.output)(r:ZX φ h w M0)(hC:Clear φ h w 1) :
  Zi φ h w (QL φ t w.heap.size) (upd h t (.arr ty S n')) w'∧VF φ h w (QL φ t w.heap.size) (upd h t (.arr ty S n')) w':=by
 have O:∀x,x<w.heap.size→w'.heap[x]?=w.heap[x]?:=fun x hx=>by grind
 have hb:∀b ty cs,h b=some (.box ty cs)→¬t=b:=fun b ty cs hb e=>by grind
 have ab:∀t2 WI J Y,h t2=some (.arr WI J Y)→∃n3,upd h t (.arr ty S n') t2=some (.arr WI J n3)∧Y≤n3 ∧
   (n3=Y→AKept w w' (φ t2) (QL φ t w.heap.size t2) WI):=by
  intro t2 WI J Y h2;by_cases e:t=t2
  ·grind [upd,absurd]
  ·exact⟨Y,by simp[upd,e,h2],KD _,fun _=>Ve (by simp[QL,e])<|by rw[hC.lt r zc O<|zc]⟩
 have U:∀t2 WI J G,h t2=some (.vec WI J G)→∃Z,upd h t (.arr ty S n') t2=some (.vec WI J Z)∧G.length≤Z.length ∧
   (Z.length=G.length→QL φ t w.heap.size t2=φ t2∧∀c0,w.heap[φ t2]?=some (.cells c0 WI (0,0))→∃c1,w'.heap[φ t2]?=some (.cells c1 WI (0,0))∧c1.size=c0.size):=by
  intro t2 WI J Y h2;have e:¬t=t2:=fun e=>by grind
  exact⟨Y,by simp[upd,e,h2],KD _,fun _=>⟨by simp[QL,e],fun c0 ad=>⟨c0,zc,rfl⟩⟩⟩
 have aa:∀d k x,h d=some k→k.ob=some x→(∃k',upd h t (.arr ty S n') d=some k'∧k'.ob=some x)∧QL φ t w.heap.size d=φ d:=by
  intro d k x hd ho;have e:¬t=d:=fun e=>by rw[←e,ht] at hd;cases hd;cases ho
  grind [upd,QL]
 refine⟨⟨ho,ac,hu,zc,fun x hx _=>O x hx,fun x o hx _=>by grind [World.cell?],?_,?_,?_,fun t2 WI J G _ h2=>U t2 WI J G h2,fun d k x _=>aa d k x⟩,?_,ab,U,aa⟩
 ·rintro x y hx ⟨d,q,h1,h2,h3⟩;by_cases e:t=d
  ·grind [QL]
  ·exact⟨d,q,by grind [upd],by grind [QL],h3⟩
 ·grind [upd,QL]
 ·grind
 grind [upd,QL]
def isNil:AV→Bool|.p (.val (.slice none 0 0))=>true|_=>false
def BI(S:Nat)(x:AV):Option (List<|List PV) :=
 if isNil x then some [] else match elems x with|some (G,es)=>if G=S then some es else none|none=>none
theorem q8{x:AV}(G:isNil x=true):x=.p (.val<|.slice none 0 0):=by
 grind [isNil]
theorem q9{S:Nat}{x:AV}{es:List (List PV)}(G:BI S x=some es)(O:Qf φ h w M x v):Zj w M (.sl S es) v:=by
 unfold BI at G;split at G
 ·rename_i J;simp only[ZA] at G;subst G;rw[q8 J] at O
  grind [Qf,Zj]
 grind [ZA,Nv]
def D9(P:Program)(T:Nat→Option AV)(h:QY)(dst:Option Tmp)(t:TypeId)(s x:Operand):Option Kv :=
  match P.underlying t,Zn T s,Zn T x with
 |some (.slice e),some sv,some xv =>
    match P.info? e with
   |some i =>
      match i.zero,BI i.size xv with
     |some z,some es' =>
        if z.cells.size=i.size∧0<i.size then
          if isNil sv then
            if es'=[] then some (sv,none,[]) else
            (match dst with
            |some d=>if h d=none∧es'.length*i.bytes≤140737488355328∧es'.length≤140737488355328 then some (.tsl i.size es' d,some (d,.arr e i.size es'.length),[d]) else none
            |none=>none)
          else match sv with
           |.tsl S es tk =>
              (match h tk with
              |some (.arr ty G n) =>
                 if es'=[] then some (.tsl S es tk,some (tk,.arr ty G n),[tk]) else
                 if ty=e∧G=S∧S=i.size∧n=es.length∧(es.length+es'.length)*i.bytes≤140737488355328∧es.length+es'.length≤140737488355328 then
                   some (.tsl S (es++es') tk,some (tk,.arr e S<|es.length+es'.length),[tk]) else none
              |_=>none)
           |_=>none
        else none
     |_,_=>none
   |none=>none
 |_,_,_=>none
end
section
variable {P:Program}{o:Oper}{φ:Nat→Nat}{M0:ZR}{N:Nat}{D:DB}{T:Nat→Option AV}{h:QY}{a:Act}{w:World}
theorem YB{t:TypeId}{s:Operand}(G:o.op=.call ⟨.builtin .append,#[s,x],#[t,t]⟩)(J:(Builtin.append_ #[t,t] o.type #[a.eval s,a.eval x]).run P w=.ok v w'):(execOp a.eval o).run P w=.ok (.value v) w':=by
 simp[execOp,G,resolve,invoke,builtin,J]
theorem JS{t:TypeId}{i:TypeInfo}(J:P.underlying t=some (.slice e))(hi:P.info? e=some i)(b q:Option Addr)(len cap c:Nat)(G:len≤cap) :
  (Builtin.append_ #[t,t] ty #[.slice b len cap,.slice q 0 c]).run P w=.ok (.slice b len cap) w:=by
 cases q<;>cases b<;>simp[Builtin.append_,run_underlying J,sizeOf,typeInfo,hi,Builtin.lenOf,G,Builtin.firstCells,loadCells,loadCellsFrom,storeCells]
theorem Dc{S:Nat}(r:ZX φ h w M0)(U:Clear φ h w 1)(hd:h' d=some (.arr ty S n))(O:φ' d=w.heap.size)(G:∀b k,b≠d→h' b=some k→h b=some k∧φ' b=φ b){x:Nat}(Z:x<n*S):¬MM φ' h' M0 w.heap.size x:=by
 rintro(⟨b,k,J,h2,h3⟩|J)
 ·by_cases e:b=d
  ·grind
  ·obtain⟨h4,h5⟩:=G b k e J;rcases U b zc with Y|Y<;>omega
 ·exact absurd (r.lt _ _ J) zo
theorem UZ{S:Nat}{es:List (List PV)}(U:Zj w M (.sl S es) v)(O:es≠[]) :
  ∃(G J cap:Nat) (l:List Value),v=.slice (some ⟨G,J,none⟩) es.length cap∧es.length≤cap∧(∀e∈es,e.length=S)∧WN w M S G J es∧l.length=es.length*S ∧
   (∀j u,l[j]?=some u→w.cell? ⟨G,J+j,none⟩=some u)∧(∀u∈l,u.oneCell'=true)∧(∀(j:Nat) c u,es.flatten[j]?=some c→l[j]?=some u→Zj w M c u):=by
 grind [Zj,absurd,KY,Rk,ZH]
theorem iQ(r:Zy φ M0 N D T h a w){t:TypeId}{s:Operand}{u:Kv}(ho:o.op=.call ⟨.builtin .append,#[s,x],#[t,t]⟩)(O:D9 P T h o.dst t s x=some u):Yield P o φ M0 h a w u.1 (ap h u.2.1):=by
 unfold D9 at O;split at O;rotate_left
 ·cases O
 rename_i e sv xv ht hs hx;split at O;rotate_left
 ·cases O
 rename_i i hi;split at O;rotate_left
 ·cases O
 rename_i z es' hz bg;split at O;rotate_left
 ·cases O
 rename_i au;refine Yield.of_lift r 1 fun φ r E0 X0 hC=>?_
 have az:=q9 bg<|r.ev hx;have am:=r.ev hs;split at O
 ·rename_i hn;rw[q8 hn] at am;simp only[Qf,Zj] at am;split at O
  ·rename_i aj;subst aj;simp only[ZA] at O;subst O;simp only[ap];refine Qu r (v:=.slice none 0 0) ?_ (by grind [Qf,Zj,q8])
   grind [Zj,YB,JS]
  ·rename_i bf;split at O;rotate_left
   ·cases O
   rename_i d bl;split at O;rotate_left
   ·cases O
   rename_i hc;obtain⟨hd,ay,a7⟩:=hc;simp only[ZA] at O;subst O;simp only[ap];have ad:es'≠[]:=fun e=>bf e
   obtain⟨rr,oo,cap,l,h1,h2,h3,h4,h5,h6,h7,h8⟩:=UZ az ad;have ah:0<es'.length:=List.length_pos_iff.2 ad;have al:=run_append_nil (P:=P) w t o.type e i z ht hi hz ⟨rr,oo,none⟩ es'.length cap l (by rw[h5]) (fun j v Y=>by grind [Addr.add_lit]) ah zo zo;have Z:=grownCap_ge w es'.length 0 e;have ae:grownCap w es'.length 0 e≤maxLen:=grownCap_le_maxLen w es'.length 0 e (by unfold maxLen;omega);generalize grownCap w es'.length 0 e=gc at *
   let C:Array Value:=l.toArray++Builtin.zeroCells z.cells (gc-es'.length)
   let w':World:=w.drew.alloc<|.cells C e
   obtain⟨E,X⟩:=Uo (w:=w) (w':=w') (o:=.cells C e) (b:=d) (k:=.arr e i.size es'.length) (φ:=φ) (h:=h) (M0:=M0) rfl rfl rfl rfl hd r.hp hC
   have aa:C.size=gc*i.size:=by
    simp only[C,Array.size_append,List.size_toArray,size_zeroCells,au.1,h5];rw[←Nat.add_mul];grind
   have G:w'.heap[w.heap.size]?=some (.cells C e (0,0)):=by show(w.heap.push _)[w.heap.size]?=_;simp
   have hH:ZX (QL φ d w.heap.size) (upd h d<|.arr e i.size es'.length) w' M0:=Ur rfl hd r.hp hC E X<|.inr ⟨C,gc,G,aa,Z,ae⟩;refine⟨_,.slice (some ⟨w.heap.size,0,none⟩) es'.length gc,w',QL φ d w.heap.size,YB ho zc,.inl rfl,?_,hH,E,X⟩
   have af:∀x,x<es'.length*i.size→¬MM (QL φ d w.heap.size) (upd h d<|.arr e i.size es'.length) M0 w.heap.size x:=fun x hx =>
    Dc (φ:=φ) (h:=h) r.hp hC (d:=d) (ty:=e) (S:=i.size) (n:=es'.length) (by simp[upd]) (by simp[QL]) (fun b k hb hk=>⟨by grind [upd],by grind [QL]⟩) hx
   simp only[Qf,Zj];refine⟨.inl ⟨w.heap.size,0,gc,rfl,Z,?_⟩,e,es'.length,by simp[upd],KD _,fun _=>.inr ⟨gc,C,by simp[QL],by grind [QL],aa,Z,ae⟩⟩;rw[KY];refine⟨h3,Us (l:=l) (by rw[h5,ZH h3]) ?_ ?_ h7 ?_⟩
   ·intro j v Y;rw[KE G]
    grind
   ·grind
   ·intro j c v Y hv;exact(Kb<|E.keeps M0).1 _ _ (h8 j c v Y hv)
 ·rename_i hn;split at O;rotate_left
  ·cases O
  rename_i S es tk;split at O;rotate_left
  ·cases O
  rename_i ty S' n ab;simp only[Qf] at am;obtain⟨aw,WI,n2,aq,bj,ao⟩:=am;rw[ab] at aq;cases aq;split at O
  ·rename_i an;simp only[ZA] at O;subst O;simp only[ap]
   have a6:∀{k:Blk},h tk=some k→upd h tk k=h:=by
    grind [upd]
   rw[a6 ab];refine Qu r (v:=a.eval s) ?_ (by grind [Qf])
   have bi:∃q c,a.eval x=.slice q 0 c:=by
    grind [Zj]
   obtain⟨q,c,hq⟩:=bi;simp only[Zj] at aw;rcases aw with⟨rr,oo,cap,h1,h2,_⟩|⟨_,q2,cap,h1⟩
   ·grind [YB,JS]
   ·exact YB ho (by simp_all [JS,Nat.zero_le])
  ·rename_i an;split at O;rotate_left
   ·cases O
   rename_i hc;obtain⟨rfl,_,rfl,rfl,ay,a7⟩:=hc;simp only[ZA] at O;subst O;simp only[ap];rcases ao rfl with⟨bd,bc,_⟩|⟨J,c0,bc,ar,a8,be,ai⟩
   ·have aj:es=[]:=List.length_eq_zero_iff.1 bd;subst aj;simp only[List.length_nil,Nat.zero_add] at ay a7 ab ⊢;have ad:es'≠[]:=fun e=>an e
    obtain⟨rr,oo,cap,l,h1,h2,h3,h4,h5,h6,h7,h8⟩:=UZ az ad;have ah:0<es'.length:=List.length_pos_iff.2 ad;have al:=run_append_nil (P:=P) w t o.type ty i z ht hi hz ⟨rr,oo,none⟩ es'.length cap l (by rw[h5]) (fun j v Y=>by grind [Addr.add_lit]) ah zo zo;have Z:=grownCap_ge w es'.length 0 ty;have ae:grownCap w es'.length 0 ty≤maxLen:=grownCap_le_maxLen w es'.length 0 ty (by unfold maxLen;omega);generalize grownCap w es'.length 0 ty=gc at *
    let C:Array Value:=l.toArray++Builtin.zeroCells z.cells (gc-es'.length)
    let w':World:=w.drew.alloc<|.cells C ty
    obtain⟨E,X⟩:=Ls (w:=w) (w':=w') (ob:=.cells C ty) (φ:=φ) (h:=h) (M0:=M0) (n':=es'.length) ab zo rfl rfl rfl rfl r.hp hC
    have aa:C.size=gc*i.size:=by
     simp only[C,Array.size_append,List.size_toArray,size_zeroCells,au.1,h5];rw[←Nat.add_mul];grind
    have G:w'.heap[w.heap.size]?=some (.cells C ty (0,0)):=by show(w.heap.push _)[w.heap.size]?=_;simp
    have U:QL φ tk w.heap.size tk=w.heap.size:=by simp[QL]
    have hH:ZX (QL φ tk w.heap.size) (upd h tk<|.arr ty i.size es'.length) w' M0 :=
     Db ab r.hp E X (fun b hb=>by grind [QL]) (.inr ⟨U,hC⟩) (fun d hd _=>hC.lt r.hp (w':=w') (by show(w.heap.push _).size≤_;simp) (fun x hx=>by show(w.heap.push _)[x]?=_;grind) hd) zc aa Z ae
    refine⟨_,.slice (some ⟨w.heap.size,0,none⟩) es'.length gc,w',QL φ tk w.heap.size,YB ho zc,.inl rfl,?_,hH,E,X⟩
    have af:∀x,x<es'.length*i.size→¬MM (QL φ tk w.heap.size) (upd h tk<|.arr ty i.size es'.length) M0 w.heap.size x:=fun x hx =>
     Dc (φ:=φ) (h:=h) r.hp hC (d:=tk) (ty:=ty) (S:=i.size) (n:=es'.length) (by simp[upd]) U (fun b k hb hk=>⟨by grind [upd],by grind [QL]⟩) hx
    simp only[Qf,Zj,List.nil_append];refine⟨.inl ⟨w.heap.size,0,gc,rfl,Z,?_⟩,ty,es'.length,by simp[upd],KD _,fun _=>.inr ⟨gc,C,by rw[U],zc,aa,Z,ae⟩⟩;rw[KY];refine⟨h3,Us (l:=l) (by rw[h5,ZH h3]) ?_ ?_ h7 ?_⟩
    ·intro j v Y;rw[KE G]
     grind
    ·grind
    ·intro j c v Y hv;exact(Kb<|E.keeps M0).1 _ _ (h8 j c v Y hv)
   obtain⟨rr,oo,cap,l,h1,h2,h3,h4,h5,h6,h7,h8⟩:=UZ az an;have ah:0<es'.length:=List.length_pos_iff.2 an
   have ak:WN w (MM φ h M0) i.size (φ tk) 0 es:=by
    by_cases ba:es=[]
    ·grind [WN]
    ·obtain⟨r2,o2,bk,l2,g1,_,_,g4,_⟩:=UZ aw ba
     grind
   have av:∀e∈es,e.length=i.size:=((KY es 0).1 ak).1;by_cases ac:es.length+es'.length≤J
   ·have bb:es.length*i.size+l.length≤c0.size:=by rw[h5,a8,←Nat.add_mul];exact Nat.mul_le_mul_right _ ac
    have al:=run_append_room (P:=P) w t o.type ty i ht hi (φ tk) es.length J c0 ar ⟨rr,oo,none⟩ es'.length cap l (by rw[h5]) (fun j v Y=>by grind [Addr.add_lit]) h7 ac bb
    let C:Array Value:=(c0.toList.take (es.length*i.size)++l++c0.toList.drop (es.length*i.size+l.length)).toArray
    have bm:(c0.toList.take<|es.length*i.size).length=es.length*i.size:=by simp;omega
    have aa:C.size=c0.size:=by grind
    obtain⟨E,X⟩:=Oi (φ:=φ) (h:=h) (w:=w) (M0:=M0) (n':=es.length+es'.length) (c':=C) ab ar zo aa (fun x hx=>by
     grind) r.hp
    have G:(w.setRow (φ tk) C).heap[φ tk]?=some (.cells C ty (0,0)):=setRow_heap w _ c0 C ty _ ar
    have hH:ZX φ (upd h tk<|.arr ty i.size<|es.length+es'.length) (w.setRow (φ tk) C) M0 :=
     Db ab r.hp E X (fun _ _=>rfl) (.inl rfl) (fun d hd bh=>setRow_other w _ _ C fun e=>bh<|r.hp.inj d tk hd zc e) G zo ac ai
    refine⟨_,.slice (some ⟨φ tk,0,none⟩) (es.length+es'.length) J,_,φ,YB ho zc,.inl rfl,?_,hH,E,X⟩
    have af:∀x,x<(es.length+es'.length)*i.size→¬MM φ (upd h tk<|.arr ty i.size<|es.length+es'.length) M0 (φ tk) x:=by
     rintro x hx (⟨b,k,q1,q2,q3⟩|q1)
     ·by_cases e:tk=b
      ·grind [upd]
      ·have q4:h b=some k:=by grind [upd]
       exact e (r.hp.inj b tk zc zc q2).symm
     ·exact r.hp.fr tk zc x q1
    simp only[Qf,Zj];refine⟨.inl ⟨φ tk,0,J,by simp,zc,?_⟩,ty,es.length+es'.length,by simp[upd],by simp,fun _=>.inr ⟨J,C,rfl,G,by omega,ac,ai⟩⟩;rw[Jz];refine⟨(Kb<|E.keeps M0).2.1 _ _ _ _ ak,?_⟩;rw[KY];refine⟨h3,Us (l:=l) (by rw[h5,ZH h3]) ?_ ?_ h7 ?_⟩
    ·intro j v Y;rw[KE G];have hlt:j<l.length:=(wB.1 Y).1;simp only[Nat.zero_add,C,List.getElem?_toArray]
     simp_all [List.append_assoc,List.getElem?_append_right,List.getElem?_append_left]
    ·grind
    ·intro j c v Y hv;exact(Kb<|E.keeps M0).1 _ _ (h8 j c v Y hv)
   ·obtain⟨ol,g1,g2,g3,g4⟩:=Rk _ _ ((KY es 0).1 ak).2;have ax:ol.length=es.length*i.size:=by grind [ZH]
    have al:=run_append_grow (P:=P) w t o.type ty i z ht hi hz ⟨φ tk,0,none⟩ es.length J ol ax (fun j v Y=>by grind [Addr.add_lit]) ⟨rr,oo,none⟩ es'.length cap l (by rw[h5])
     (fun j v Y=>by grind [Addr.add_lit]) zo zo (growslice_fits zo ay)
    have Z:=grownCap_ge w (es.length+es'.length) J ty;have ae:grownCap w (es.length+es'.length) J ty≤maxLen:=grownCap_le_maxLen w _ J ty (by unfold maxLen;omega);generalize grownCap w (es.length+es'.length) J ty=gc at *
    let C:Array Value:=ol.toArray++l.toArray++Builtin.zeroCells z.cells (gc-(es.length+es'.length))
    let w':World:=w.drew.alloc<|.cells C ty
    obtain⟨E,X⟩:=Ls (w:=w) (w':=w') (ob:=.cells C ty) (φ:=φ) (h:=h) (M0:=M0) (n':=es.length+es'.length) ab zo rfl rfl rfl rfl r.hp hC
    have aa:C.size=gc*i.size:=by
     simp only[C,Array.size_append,List.size_toArray,size_zeroCells,au.1,h5,ax];rw[←Nat.add_mul,←Nat.add_mul];grind
    have G:w'.heap[w.heap.size]?=some (.cells C ty (0,0)):=by show(w.heap.push _)[w.heap.size]?=_;simp
    have U:QL φ tk w.heap.size tk=w.heap.size:=by simp[QL]
    have hH:ZX (QL φ tk w.heap.size) (upd h tk<|.arr ty i.size<|es.length+es'.length) w' M0 :=
     Db ab r.hp E X (fun b hb=>by grind [QL]) (.inr ⟨U,hC⟩) (fun d hd _=>hC.lt r.hp (w':=w') (by show(w.heap.push _).size≤_;simp) (fun x hx=>by show(w.heap.push _)[x]?=_;grind) hd) zc aa Z ae
    refine⟨_,.slice (some ⟨w.heap.size,0,none⟩) (es.length+es'.length) gc,w',QL φ tk w.heap.size,YB ho zc,.inl rfl,?_,hH,E,X⟩
    have af:∀x,x<(es.length+es'.length)*i.size→¬MM (QL φ tk w.heap.size) (upd h tk<|.arr ty i.size<|es.length+es'.length) M0 w.heap.size x:=fun x hx =>
     Dc (φ:=φ) (h:=h) r.hp hC (d:=tk) (ty:=ty) (S:=i.size) (n:=es.length+es'.length) (by simp[upd]) U (fun b k hb hk=>⟨by grind [upd],by grind [QL]⟩) hx
    simp only[Qf,Zj];refine⟨.inl ⟨w.heap.size,0,gc,by simp,zc,?_⟩,ty,es.length+es'.length,by simp[upd],by simp,fun _=>.inr ⟨gc,C,by rw[U],zc,aa,Z,ae⟩⟩;rw[Jz];constructor
    ·rw[KY];refine⟨av,Us (l:=ol) g1 ?_ ?_ g3 ?_⟩
     ·intro j v Y;rw[KE G]
      grind
     ·grind
     ·intro j c v Y hv;exact(Kb<|E.keeps M0).1 _ _ (g4 j c v Y hv)
    ·rw[KY];refine⟨h3,Us (l:=l) (by rw[h5,ZH h3]) ?_ ?_ h7 ?_⟩
     ·intro j v Y;rw[KE G];have hlt:j<l.length:=(wB.1 Y).1;simp only[Nat.zero_add,C];rw[Array.append_assoc,Array.getElem?_append_right (by simp;omega),Array.getElem?_append_left (by simp;omega)];simp only[List.size_toArray,ax,List.getElem?_toArray];rw[show es.length*i.size+j-es.length*i.size=j from by omega];exact Y
     ·grind
     ·intro j c v Y hv;exact(Kb<|E.keeps M0).1 _ _ (h8 j c v Y hv)
end
def iU:AV→Option PV|.p x=>some x|.tsl S es _=>some (.sl S es)|_=>none
def Ta:List AV→Option (List PV)
|[]=>some []
|x::xs=>match iU x,Ta xs with|some y,some ys=>some (y::ys)|_,_=>none
def QbY(P:Program):Nat→TypeId→List (Option Nat)
|0,_=>[]
|d+1,t=>match P.underlying t with
 |some (.slice e)=>[some<|P.cellsOf e]
 |some (.struct G)=>G.toList.flatMap fun f=>QbY P d f.type
 |some (.array n e)=>(List.replicate n<|QbY P d e).flatten
 |_=>[none]
def BJ:List (Option Nat)→List PV→List PV|_,[]=>[]|[],c::cs=>c::cs|some S::ss,.val (.slice none 0 0)::cs=>.sl S []::BJ ss cs|_::ss,c::cs=>c::BJ ss cs
def Pg(S:Nat):Nat→List PV→List (List PV)|0,_=>[]|n+1,l=>l.take S::Pg S n (l.drop S)
theorem zb{S:Nat}:∀(n:Nat) (l:List PV),l.length=n*S→(Pg S n l).flatten=l∧(Pg S n l).length=n∧∀e∈Pg S n l,e.length=S
|0,l,J=>by
  grind [Pg]
|n+1,l,J=>by
  have O:(n+1)*S=n*S+S:=by grind
  obtain⟨a1,a2,U⟩:=zb (S:=S) n (l.drop S) zc;refine⟨by simp_all [Pg],by simp[Pg,a2],?_⟩;intro e G;simp only[Pg,List.mem_cons] at G
  grind
section
variable {P:Program}{o:Oper}{φ:Nat→Nat}{M0:ZR}{N:Nat}{D:DB}{T:Nat→Option AV}{h:QY}{a:Act}{w:World}
theorem fq{x:AV}{y:PV}(G:iU x=some y)(J:Qf φ h w M x v):Zj w M y v:=by
 cases x with
|p x=>grind [iU,Qf]
|tsl S es t=>grind [iU,Qf]
|_=>simp[iU] at G
theorem wD{M:ZR}:∀{xs:List AV} {ys:List PV} {l:List Value},Ta xs=some ys→Ql φ h w M xs l→ys.length=l.length∧∀(j:Nat) c u,ys[j]?=some c→l[j]?=some u→Zj w M c u
|[],ys,l,G,J=>by grind [Ta,Ql]
|x::xs,ys,l,G,J=>by
  simp only[Ta] at G;split at G
  ·rename_i y U h1 Y;simp only[ZA] at G;subst G;simp only[Ql] at J;obtain⟨v,vs,rfl,Z,O⟩:=J;obtain⟨h5,h6⟩:=wD Y O
   grind [fq]
  ·cases G
theorem wE{M:ZR}:∀{ss:List (Option Nat)} {ys:List PV} {l:List Value},ys.length=l.length→(∀(j:Nat) c u,ys[j]?=some c→l[j]?=some u→Zj w M c u) →
  (BJ ss ys).length=l.length∧∀(j:Nat) c u,(BJ ss ys)[j]?=some c→l[j]?=some u→Zj w M c u
|ss,[],l,G,h=>by grind [BJ]
|[],c::cs,l,G,h=>by grind [BJ]
|s::ss,c::cs,[],G,h=>by simp at G
|s::ss,c::cs,v::l,G,h=>by
  have O:=wE (ss:=ss) (ys:=cs) (l:=l) zc (fun j c u U Y=>h (j+1) c u zc<|zc);have h0:=h 0 c v zq zq
  have J:∀c',Zj w M c' v→(c'::BJ ss cs).length=(v::l).length∧∀(j:Nat) c u,(c'::BJ ss cs)[j]?=some c→(v::l)[j]?=some u→Zj w M c u:=by
   grind
  unfold BJ;split
  ·grind
  ·grind
  ·grind [Zj]
  grind
theorem Nw(l:List Value)(s:Nat)(hs:l.length=s)(hp:0<s):∀n:Nat,(List.range<|n*s).map (fun k=>l.toArray[k%l.toArray.size]!)=(List.replicate n l).flatten
|0=>by simp
|n+1=>by
  rw[Nat.add_mul,Nat.one_mul,List.range_add,List.map_append,Nw l s hs hp n,List.replicate_succ',List.flatten_append];congr 1;simp only[List.map_map,List.flatten_cons,List.flatten_nil,List.append_nil];apply List.ext_getElem?;intro j;by_cases G:j<s
  ·simp_all [Nat.add_comm,Nat.add_mul_mod_self_right,Nat.mod_eq_of_lt]
  grind
def FB(P:Program)(T:Nat→Option AV)(h:QY)(dst:Option Tmp)(t:TypeId)(len:Nat)(parts:Array (Nat×Operand)):Option Kv :=
 match P.underlying t,dst,qW T parts.toList with
|some (.slice e),some d,some ps =>
  match P.info? e with
 |some i =>
   match i.zero,h d with
  |some z,none =>
    match cellsOf (y7 z) with
   |some G =>
     if G.length=i.size∧0<i.size∧len*i.size≤16777216 then
      match EB (fun k=>some (k*i.size,i.size)) (List.replicate len G).flatten ps with
     |some rs =>
       match (Ta rs).map (BJ (List.replicate len<|QbY P 5 e).flatten) with
      |some pvs=>if pvs.length=len*i.size∧GH rs then some (.tsl i.size (Pg i.size len pvs) d,some (d,.arr e i.size len),[d]) else none
      |none=>none
     |none=>none
     else none
   |none=>none
  |_,_=>none
 |none=>none
|_,_,_=>none
theorem UI{M:ZR}{xs:List AV}{l:List Value}(G:Ql φ h w M xs l):∀n:Nat,Ql φ h w M (List.replicate n xs).flatten (List.replicate n l).flatten
|0=>by rfl
|n+1=>by simp only[List.replicate_succ,List.flatten_cons];exact ZZ G<|UI G n
theorem vv(r:Zy φ M0 N D T h a w){t:TypeId}{u:Kv}(ho:o.op=.buildSlice t len parts)(G:FB P T h o.dst t len parts=some u):Yield P o φ M0 h a w u.1 (ap h u.2.1):=by
 unfold FB at G;split at G;rotate_left
 ·cases G
 rename_i e d ps ht aq ao;split at G;rotate_left
 ·cases G
 rename_i i hi;split at G;rotate_left
 ·cases G
 rename_i z hz hd;split at G;rotate_left
 ·cases G
 rename_i zs ak;split at G;rotate_left
 ·cases G
 rename_i ac;split at G;rotate_left
 ·cases G
 rename_i rs am;split at G;rotate_left
 ·cases G
 rename_i pvs ae;split at G;rotate_left
 ·cases G
 rename_i O;simp only[ZA] at G;subst G;simp only[ap];refine Yield.of_lift r 1 fun φ r E0 X0 hC=>?_
 obtain⟨h1,h2⟩:=BH r ao;obtain⟨h3,_,_⟩:=V7 ak<|Jy (φ:=φ) (h:=h) (w:=w) (M:=MM φ h M0) z;have av:=ZY h3;have ai:z.cells.toList.length=i.size:=by omega
 have ab:Ql φ h w (MM φ h M0) (List.replicate len zs).flatten (((Array.range<|len*i.size).map (z.cells[·%z.cells.size]!)).toList):=by
  have e1:((Array.range<|len*i.size).map (z.cells[·%z.cells.size]!)).toList=(List.replicate len z.cells.toList).flatten:=by
   have:=Nw z.cells.toList i.size ai ac.2.1 len
   simp_all
  grind [UI]
 obtain⟨c',h4,h5⟩:=ED (placeC:=fun k=>some (k*i.size,i.size)) (fun k x hx=>hx) ps _ _ _ rs h1 h2 ab am;have au:=ZY h5;obtain⟨ar,Y,aa⟩:=F3.1 ae;have J:=wD Y h5;have J:=wE (ss:=(List.replicate len<|QbY P 5 e).flatten) J.1 J.2;rw[aa] at J;obtain⟨h6,h7⟩:=J;have U:c'.size=len*i.size:=by grind
 have ad:=D6 O.2 h5;obtain⟨g1,g2,g3⟩:=zb len pvs O.1
 let w':World:=w.alloc<|.cells c' e
 obtain⟨E,X⟩:=Uo (w:=w) (w':=w') (o:=.cells c' e) (b:=d) (k:=.arr e i.size len) (φ:=φ) (h:=h) (M0:=M0) rfl rfl rfl rfl hd r.hp hC;have Z:w'.heap[w.heap.size]?=some (.cells c' e (0,0)):=by show(w.heap.push _)[w.heap.size]?=_;simp
 have ah:len≤maxLen:=by
  have:len*1≤len*i.size:=Nat.mul_le_mul_left _ ac.2.1;unfold maxLen;omega
 have hH:ZX (QL φ d w.heap.size) (upd h d<|.arr e i.size len) w' M0:=Ur rfl hd r.hp hC E X<|.inr ⟨c',len,Z,U,KD _,ah⟩;refine⟨_,.slice (some ⟨w.heap.size,0,none⟩) len len,w',QL φ d w.heap.size,?_,.inl rfl,?_,hH,E,X⟩
 ·have hq:(parts.map fun(x:Nat×Operand)=>(x.1,a.eval x.2)).toList=parts.toList.map fun(x:Nat×Operand)=>(x.1,a.eval x.2):=by simp
  have af:¬(len*i.size>2 ^ 24):=by omega
  by_cases h0:len*i.size=0
  ·have al:len=0:=by
    grind [Nat.mul_eq_zero]
   subst al;have e0:(Array.range<|0*i.size).map (z.cells[·%z.cells.size]!)=#[]:=by simp
   have e2:(Array.range 0).map (fun _=>(default:Value))=#[]:=by simp
   rw[e0] at h4;have aj:Instr.fill (fun k=>some (k*i.size,i.size)) #[] (parts.toList.map fun(x:Nat×Operand)=>(x.1,a.eval x.2))=some c':=h4;simp only[execOp,ho,Instr.buildSlice,Sem.run_bind,run_underlying ht,Ze hi,Result.andThen_ok,hq,h0,if_true,Sem.run_pure];simp[newRow,newObj,Sem.run,w',e2,aj]
  ·simp only[execOp,ho,Instr.buildSlice,Sem.run_bind,run_underlying ht,Ze hi,Result.andThen_ok,af,if_false,h0,hq,zeroValue,typeInfo,program,Sem.run,hi,hz,Sem.run_pure,h4];simp[newRow,newObj,Sem.run,w']
 ·have an:∀x,x<len*i.size→¬MM (QL φ d w.heap.size) (upd h d<|.arr e i.size len) M0 w.heap.size x:=fun x hx =>
   Dc (φ:=φ) (h:=h) r.hp hC (d:=d) (ty:=e) (S:=i.size) (n:=len) (by simp[upd]) (by simp[QL]) (fun b k hb hk=>⟨by grind [upd],by grind [QL]⟩) hx
  simp only[Qf,Zj];refine⟨.inl ⟨w.heap.size,0,len,by rw[g2],by omega,?_⟩,e,len,by simp[upd],by omega,fun _=>.inr ⟨len,c',by simp[QL],by grind [QL],U,KD _,ah⟩⟩;rw[KY,g1];refine⟨g3,Us (l:=c'.toList) h6.symm ?_ ?_ ad ?_⟩
  ·grind [KE]
  ·grind
  ·intro j c v hj hv;exact(Kb<|E.keeps M0).1 _ _ (h7 j c v hj hv)
def WO(T:Nat→Option AV)(G:Nat):Option Operand→Option Nat
|none=>some G
|some x=>match Zn T x with|some (.p (.val (.int _ n)))=>if 0≤n then some n.toNat else none|_=>none
def F6(P:Program)(T:Nat→Option AV)(t:TypeId)(x:Operand)(lo hi G:Option Operand):Option Kv :=
 match P.underlying t,Zn T x with
|some (.slice e),some v =>
  match elems v,P.info? e with
 |some (S,es),some i =>
   match WO T 0 lo,WO T es.length hi with
  |some l,some hh =>
    if S=i.size∧l≤hh∧hh≤es.length then
     match G with
    |none=>some (.p<|.sl S<|(es.take hh).drop l,none,[])
    |some _=>match hi,WO T es.length G with|some _,some m=>if hh≤m∧m≤es.length then some (.p<|.sl S<|(es.take hh).drop l,none,[]) else none|_,_=>none
    else none
  |_,_=>none
 |_,_=>none
|_,_=>none
theorem GK(r:Zy φ M0 N D T h a w){J:Nat}(G:WO T J (some x)=some n):∃k,a.eval x=.int k n:=by
 simp only[WO] at G;split at G
 ·rename_i k m O;split at G
  ·rename_i U;simp only[ZA] at G;have:=r.ev O
   grind [Qf,Zj]
  ·cases G
 ·cases G
theorem run_sliceBound{x:Value}{k:IntKind}{y:Nat}{code:BoundsCode}(G:x=.int k n)(J:n≤y):(Instr.sliceBound x y code).run P w=.ok n w:=by
 simp_all [Instr.sliceBound,asIntOf]
theorem xh{S G J cap l hh m:Nat}{es:List (List PV)}(Y:WN w M S G J es)(Z:l≤hh)(h2:hh≤es.length)(h3:hh≤m) :
  Zj w M (.sl S<|(es.take hh).drop l) (.slice (if m=l then some ⟨G,J,none⟩ else some ⟨G,J+l*S,none⟩) (hh-l)<|m-l):=by
 have O:((es.take hh).drop l).length=hh-l:=by simp;omega
 simp only[Zj];by_cases he:hh=l
 ·simp_all
 ·left;have U:¬m=l:=by omega
  refine⟨G,J+l*S,m-l,zc,by omega,?_⟩
  have e1:es=(es.take hh).take l++((es.take hh).drop l++es.drop hh):=by
   grind [List.append_assoc,List.take_append_drop]
  grind [Jz]
theorem QbZ(r:Zy φ M0 N D T h a w){t:TypeId}{mx:Option Operand}{u:Kv}(ho:o.op=.slice t x lo hi mx)(G:F6 P T t x lo hi mx=some u):u.2.1=none∧Yield P o φ M0 h a w u.1 h:=by
 unfold F6 at G;split at G;rotate_left
 ·cases G
 rename_i e v ht hx;split at G;rotate_left
 ·cases G
 rename_i S es i aa Y;split at G;rotate_left
 ·cases G
 rename_i l hh hl U;split at G;rotate_left
 ·cases G
 rename_i hc;obtain⟨rfl,ac,ae⟩:=hc;have h2:=Nv aa<|r.ev hx
 have O:∃(q:Option Addr) (cap:Nat),a.eval x=.slice q es.length cap∧es.length≤cap∧(es=[]∨∃rr oo,q=some ⟨rr,oo,none⟩∧WN w (MM φ h M0) i.size rr oo es):=by
  simp only[Zj] at h2
  grind
 obtain⟨q,cap,hv,ah,af⟩:=O;have aj:∀y,hh≤y→True:=fun _ _=>trivial
 have J:∀(code:BoundsCode),(match lo.map a.eval with|some v=>Instr.sliceBound v hh code|none=>pure 0).run P w=.ok l w:=by
  intro code;cases lo with
 |none=>simp_all [WO]
 |some y=>grind [GK,run_sliceBound]
 have fin:∀m,hh≤m→Qf φ h w (MM φ h M0) (.p<|.sl i.size<|(es.take hh).drop l) (.slice (if m=l then q else q.map (·.add (l*i.size))) (hh-l)<|m-l):=by
  intro m hm;simp only[Qf];rcases af with rfl|⟨rr,oo,rfl,g3⟩
  ·grind [Zj]
  ·have:=xh (m:=m) (cap:=cap) g3 ac ae hm
   grind [Addr.add_lit]
 split at G
 ·simp only[ZA] at G;subst G;refine⟨rfl,Qu r (v:=.slice (if cap=l then q else q.map (·.add (l*i.size))) (hh-l) (cap-l)) ?_ (fin cap zo)⟩
  have hb:(Instr.sliceBounds true es.length cap (lo.map a.eval) (hi.map a.eval) none).run P w=.ok (l,hh,cap) w:=by
   cases hi with
  |none =>
    simp only[WO,ZA] at U;subst U;have:=J .sliceB;cases lo with
   |none=>simp_all [Instr.sliceBounds]
   |some y=>simp_all [Instr.sliceBounds]
  |some y =>
    obtain⟨k,hk⟩:=GK r U;have ai:=run_sliceBound (P:=P) (w:=w) (code:=.sliceAcap) hk (show hh≤cap by omega);have:=J .sliceB;cases lo with
   |none=>simp_all [Instr.sliceBounds]
   |some y=>simp_all [Instr.sliceBounds]
  simp[execOp,ho,Instr.sliceAt,Instr.slice,run_underlying ht,hv,hb,Ze Y]
 ·rename_i y;split at G;rotate_left
  ·cases G
  rename_i yh m hm;split at G;rotate_left
  ·cases G
  rename_i Z;simp only[ZA] at G;subst G;refine⟨rfl,Qu r (v:=.slice (if m=l then q else q.map (·.add (l*i.size))) (hh-l)<|m-l) ?_<|fin m Z.1⟩;obtain⟨k1,ab⟩:=GK r hm;obtain⟨k2,ad⟩:=GK r U
  have hb:(Instr.sliceBounds true es.length cap (lo.map a.eval) (some<|a.eval yh)<|some<|a.eval y).run P w=.ok (l,hh,m) w:=by
   have b1:=run_sliceBound (P:=P) (w:=w) (code:=.slice3Acap) ab (show m≤cap by omega);have b2:=run_sliceBound (P:=P) (w:=w) (code:=.slice3B) ad Z.1;have:=J .slice3C;cases lo with
  |none=>simp_all [Instr.sliceBounds]
  |some y=>simp_all [Instr.sliceBounds]
  simp[execOp,ho,Instr.sliceAt,Instr.slice,run_underlying ht,hv,hb,Ze Y]
end
section
variable {P:Program}{o:Oper}{φ:Nat→Nat}{M0:ZR}{N:Nat}{D:DB}{T:Nat→Option AV}{h:QY}{a:Act}{w:World}
theorem BK{S:Nat}:∀{es:List (List PV)} {k:Nat} {e:List PV} {f:Nat},(∀e∈es,e.length=S)→es[k]?=some e→f<S→es.flatten[k*S+f]?=e[f]?
|[],_,_,_,_,G,_=>by simp at G
|O::es,0,e,f,J,G,hf=>by
  grind
|O::es,k+1,e,f,J,G,hf=>by
  have h0:=J O zq;simp only[List.getElem?_cons_succ] at G;have:=BK (f:=f) (fun e U=>J e<|by simp[U]) G hf
  grind
theorem Oj{S:Nat}:∀{es:List (List PV)} {k:Nat} {e G:List PV},(∀e∈es,e.length=S)→es[k]?=some e→G.length=S→(es.set k G).flatten=es.flatten.take (k*S)++G++es.flatten.drop (k*S+S)
|[],_,_,_,_,J,_=>by simp at J
|O::es,0,e,G,U,J,hf=>by
  grind
|O::es,k+1,e,G,U,J,hf=>by
  have h0:=U O zq;simp only[List.getElem?_cons_succ] at J;have:=Oj (fun e Y=>U e<|by simp[Y]) J hf;simp only[List.set_cons_succ,List.flatten_cons,this];have Z:(k+1)*S=O.length+k*S:=by grind
  rw[Z,List.take_length_add_append,Nat.add_assoc,List.drop_length_add_append];simp
theorem BL{t:Nat}{S:Nat}{es:List (List PV)}{c:Array Value}(ht:h t=some (.vec ty S es))(hw:w.heap[φ t]?=some (.cells c ty (0,0)))(hn:es.length≤es'.length)(ah:c'.size=c.size)(r:ZX φ h w M0):Zi φ h w φ (upd h t<|.vec ty S es') (w.setRow (φ t) c')∧VF φ h w φ (upd h t<|.vec ty S es') (w.setRow (φ t) c'):=by
 have ad:∀x,x≠φ t→(w.setRow (φ t) c').heap[x]?=w.heap[x]?:=fun x hx=>setRow_other w _ x c' hx
 have Z:(w.setRow (φ t) c').heap[φ t]?=some (.cells c' ty (0,0)):=setRow_heap w _ c c' ty _ hw;have hb:∀b ty cs,h b=some (.box ty cs)→t≠b:=fun b ty cs hb e=>by grind
 have U:∀t2 WI O n2,h t2=some (.arr WI O n2)→∃n3,upd h t (.vec ty S es') t2=some (.arr WI O n3)∧n2≤n3 ∧
   (n3=n2→AKept w (w.setRow (φ t) c') (φ t2) (φ t2) WI):=by
  intro t2 WI O n2 J;have e:¬t=t2:=fun e=>by grind
  have af:φ t2≠φ t:=fun e2=>e (r.inj t2 t zc zc e2).symm
  exact⟨n2,by simp[upd,e,J],KD _,fun _=>Ve (rfl)<|zc⟩
 have Y:∀t2 WI O G,h t2=some (.vec WI O G)→∃aa,upd h t (.vec ty S es') t2=some (.vec WI O aa)∧G.length≤aa.length ∧
   (aa.length=G.length→φ t2=φ t2∧∀c0,w.heap[φ t2]?=some (.cells c0 WI (0,0))→∃c1,(w.setRow (φ t) c').heap[φ t2]?=some (.cells c1 WI (0,0))∧c1.size=c0.size):=by
  intro t2 WI O n2 J;by_cases e:t=t2
  ·subst e;rw[ht] at J;cases J;refine⟨es',by simp[upd],hn,fun _=>⟨rfl,fun c0 ae=>⟨c',Z,?_⟩⟩⟩
   grind
  ·have af:φ t2≠φ t:=fun e2=>e (r.inj t2 t zc zc e2).symm
   exact⟨n2,by simp[upd,e,J],KD _,fun _=>⟨rfl,fun c0 ae=>⟨c0,zc,rfl⟩⟩⟩
 have ab:∀d k x,h d=some k→k.ob=some x→(∃k',upd h t (.vec ty S es') d=some k'∧k'.ob=some x)∧φ d=φ d:=by
  intro d k x hd ho;have e:¬t=d:=fun e=>by rw[←e,ht] at hd;cases hd;cases ho
  exact⟨⟨k,by simp[upd,e,hd],ho⟩,rfl⟩
 refine⟨⟨rfl,rfl,rfl,by simp,?_,?_,?_,?_,fun t2 WI O G _ J=>U t2 WI O G J,fun t2 WI O G _ J=>Y t2 WI O G J,fun d k x _=>ab d k x⟩,?_,U,Y,ab⟩
 ·grind
 ·intro x o _ hm;have e:x≠φ t:=fun e=>hm ⟨t,_,ht,e.symm,trivial⟩
  grind [World.cell?]
 ·rintro x y _ ⟨d,q,h1,J,h3⟩;by_cases e:t=d
  ·subst e;exact⟨t,_,ht,J,trivial⟩
  ·exact⟨d,q,by grind [upd],J,h3⟩
 ·intro d ac ds _ hd;exact⟨⟨ds,by grind [upd]⟩,rfl⟩
 ·intro d ac ds hd;exact⟨⟨ac,ds,by grind [upd]⟩,rfl⟩
theorem EG{t:Nat}{S:Nat}{es:List (List PV)}{cap:Nat}(ht:h t=some (.vec ty S es))(r:ZX φ h w M0)(E:Zi φ h w φ' (upd h t<|.vec ty S es') w')(X:VF φ h w φ' (upd h t<|.vec ty S es') w')(J:∀b,b≠t→φ' b=φ b)(O:φ' t=φ t∨φ' t=w.heap.size∧Clear φ h w 1)(ab:∀d,h d≠none→d≠t→w'.heap[φ d]?=w.heap[φ d]?)(af:w'.heap[φ' t]?=some (.cells c' ty (0,0)))(ad:c'.size=cap*S)(aa:es'.length≤cap)(ac:cap≤maxLen)(hS:∀e∈es',e.length=S)(ah:∀v∈c'.toList,v.oneCell'=true)(ae:Ql φ h w (MM φ h M0) (es'.flatten.map .p) (c'.toList.take<|es'.length*S)):ZX φ' (upd h t<|.vec ty S es') w' M0:=by
 have g:∀d,upd h t (.vec ty S es') d≠none→h d≠none:=fun d Z=>by
  grind [upd]
 refine⟨?_,?_,?_,fun x y hx=>Nat.lt_of_lt_of_le (r.lt x y hx) E.size,r.gm.evol E⟩
 ·intro d e Z he G;by_cases e1:d=t<;>by_cases Y:e=t
  ·rw[e1,Y]
  ·rw[e1,J e Y] at G;rcases O with U|⟨U,hC⟩
   ·rw[U] at G;rw[e1];exact r.inj t e zc (g e he) G
   grind
  ·rw[Y,J d e1] at G;rcases O with U|⟨U,hC⟩
   ·rw[U] at G;rw[Y];exact r.inj d t (g d Z) zc G
   grind
  ·rw[J d e1,J e Y] at G;exact r.inj d e (g d Z) (g e he) G
 ·intro d q Z;by_cases e:t=d
  ·subst e;have:q=.vec ty S es':=by grind [upd]
   subst this;exact⟨c',cap,af,ad,aa,ac,hS,ah,(QV (E.keeps M0) X).2 _ _ ae⟩
  ·have h1:h d=some q:=by grind [upd]
   rw[J d fun Y=>e Y.symm];exact Ke (E.keeps M0) X (ab d zc fun Y=>e Y.symm)<|r.blk d q h1
 ·intro d Z o hm;by_cases e:d=t
  ·subst e;rcases O with U|⟨U,_⟩
   ·rw[U] at hm;exact r.fr d (g d Z) o hm
   ·rw[U] at hm;exact absurd (r.lt _ _ hm) zo
  ·rw[J d e] at hm;exact r.fr d (g d Z) o hm
theorem xk{ob:Obj}{t:Nat}{S:Nat}{es:List (List PV)}(ht:h t=some (.vec ty S es))(hn:es.length<es'.length)(hh:w'.heap=w.heap.push ob)(ho:w'.os=w.os)(ac:w'.tape=w.tape)(hu:w'.output=w.output)(r:ZX φ h w M0)(hC:Clear φ h w 1) :
  Zi φ h w (QL φ t w.heap.size) (upd h t (.vec ty S es')) w'∧VF φ h w (QL φ t w.heap.size) (upd h t (.vec ty S es')) w':=by
 have U:∀x,x<w.heap.size→w'.heap[x]?=w.heap[x]?:=fun x hx=>by grind
 have hb:∀b ty cs,h b=some (.box ty cs)→¬t=b:=fun b ty cs hb e=>by grind
 have Z:∀t2 WI G J,h t2=some (.vec WI G J)→∃n3,upd h t (.vec ty S es') t2=some (.vec WI G n3)∧J.length≤n3.length ∧
   (n3.length=J.length→QL φ t w.heap.size t2=φ t2∧∀c0,w.heap[φ t2]?=some (.cells c0 WI (0,0))→∃c1,w'.heap[φ t2]?=some (.cells c1 WI (0,0))∧c1.size=c0.size):=by
  intro t2 WI G J Y;by_cases e:t=t2
  ·grind [upd,absurd]
  ·exact⟨J,by simp[upd,e,Y],KD _,fun _=>⟨by simp[QL,e],fun c0 ad=>⟨c0,zc,rfl⟩⟩⟩
 have O:∀t2 WI G J,h t2=some (.arr WI G J)→∃n3,upd h t (.vec ty S es') t2=some (.arr WI G n3)∧J≤n3 ∧
   (n3=J→AKept w w' (φ t2) (QL φ t w.heap.size t2) WI):=by
  intro t2 WI G J Y;have e:¬t=t2:=fun e=>by grind
  exact⟨J,by simp[upd,e,Y],KD _,fun _=>Ve (by simp[QL,e])<|by rw[hC.lt r zc U<|zc]⟩
 have ab:∀d k x,h d=some k→k.ob=some x→(∃k',upd h t (.vec ty S es') d=some k'∧k'.ob=some x)∧QL φ t w.heap.size d=φ d:=by
  intro d k x hd ho;have e:¬t=d:=fun e=>by rw[←e,ht] at hd;cases hd;cases ho
  grind [upd,QL]
 refine⟨⟨ho,ac,hu,zc,fun x hx _=>U x hx,fun x o hx _=>by grind [World.cell?],?_,?_,fun t2 WI G aa _ Y=>O t2 WI G aa Y,fun t2 WI G aa _ Y=>Z t2 WI G aa Y,fun d k x _=>ab d k x⟩,?_,O,Z,ab⟩
 ·rintro x y hx ⟨d,q,h1,Y,h3⟩;by_cases e:t=d
  ·grind [QL]
  ·exact⟨d,q,by grind [upd],by grind [QL],h3⟩
 ·grind [upd,QL]
 grind [upd,QL]
end
section
variable {P:Program}{o:Oper}{φ:Nat→Nat}{M0:ZR}{N:Nat}{D:DB}{T:Nat→Option AV}{h:QY}{a:Act}{w:World}
def JB(P:Program)(T:Nat→Option AV)(h:QY)(t:TypeId)(x ix:Operand):Option Kv :=
 match P.underlying t,Zn T x,Zn T ix with
|some (.slice e),some (.vsl S tk n),some (.p (.val (.int _ k))) =>
  match h tk,P.info? e with
 |some (.vec _ _ es),some i=>if n=es.length∧S=i.size∧0≤k∧k.toNat<n then some (.vptr tk n k.toNat 0,none,[tk]) else none
 |_,_=>none
|some (.array len e),some (.vptr tk n k0 f),some (.p (.val (.int _ k))) =>
  match h tk,P.info? e with
 |some (.vec _ _ es),some i=>if n=es.length∧0≤k∧k<len then some (.vptr tk n k0<|f+k.toNat*i.size,none,[tk]) else none
 |_,_=>none
|_,_,_=>none
theorem vw(r:Zy φ M0 N D T h a w){t:TypeId}{u:Kv}(ho:o.op=.indexAddr t x ix)(G:JB P T h t x ix=some u):u.2.1=none∧Yield P o φ M0 h a w u.1 h:=by
 unfold JB at G;split at G
 ·rename_i e S tk n kk k ht hx Y;split at G
  ·rename_i ty S' es i hb hi;split at G
   ·rename_i hc;simp only[ZA] at G;subst G;have Z:=r.ev hx;have J:=r.ev Y;simp only[Qf,Zj] at Z J;obtain⟨_,WI,ab,O,aa,U⟩:=Z;rw[hb] at O;cases O;obtain⟨cap,c,U,_⟩:=U hc.1;refine⟨rfl,Qu r (v:=.pointer<|some ⟨φ tk,k.toNat*i.size,none⟩) ?_ ?_⟩
    ·have ac:0≤k∧k<(n:Int):=⟨hc.2.2.1,by omega⟩;simp[execOp,ho,Instr.indexAt,J,asIntOf,run_underlying ht,U,ac,Ze hi,Addr.add_lit]
    ·simp only[Qf];exact⟨rfl,ty,S,es,hb,by omega,fun _=>by grind⟩
   ·cases G
  ·cases G
 ·rename_i len e tk n k0 f kk k ht hx Y;split at G
  ·rename_i ty S' es i hb hi;split at G
   ·rename_i hc;simp only[ZA] at G;subst G;have Z:=r.ev hx;have J:=r.ev Y;simp only[Qf,Zj] at Z J;obtain⟨_,WI,S2,ab,O,aa,U⟩:=Z;rw[hb] at O;cases O;have U:=U hc.1;refine⟨rfl,Qu r (v:=.pointer<|some ⟨φ tk,k0*S'+(f+k.toNat*i.size),none⟩) ?_ ?_⟩
    ·simp[execOp,ho,Instr.indexAt,J,asIntOf,run_underlying ht,U,Instr.sureAddr,hc.2.1,hc.2.2,Ze hi,Addr.add_lit,Nat.add_assoc]
    ·simp only[Qf];exact⟨rfl,ty,S',es,hb,by omega,fun _=>rfl⟩
   ·cases G
  ·cases G
 ·cases G
def U0(P:Program)(T:Nat→Option AV)(h:QY)(s:TypeId)(x:Operand)(f:Nat):Option Kv :=
 match P.underlying s,Zn T x with
|some (.struct fields),some (.vptr tk n k g) =>
  match fields[f]?,h tk with
 |some G,some (.vec _ _ es) =>
   match P.info? G.type with
  |some i=>if i.size=0 then none else if n=es.length then some (.vptr tk n k<|g+G.offset,none,[tk]) else none
  |none=>none
 |_,_=>none
|_,_=>none
theorem vz(r:Zy φ M0 N D T h a w){s:TypeId}{f:Nat}{u:Kv}(Z:o.op=.fieldAddr s x f)(G:U0 P T h s x f=some u):u.2.1=none∧Yield P o φ M0 h a w u.1 h:=by
 unfold U0 at G;split at G
 ·rename_i fields tk n k g hs hx;split at G
  ·rename_i fl ty S es hf hb;split at G
   ·rename_i i hi;split at G
    ·cases G
    ·rename_i O;split at G
     ·rename_i hn;simp only[ZA] at G;subst G;have Y:=r.ev hx;simp only[Qf] at Y;obtain⟨_,WI,S2,aa,J,ab,U⟩:=Y;rw[hb] at J;cases J;have U:=U hn;refine⟨rfl,Qu r (v:=.pointer<|some ⟨φ tk,k*S+(g+fl.offset),none⟩) ?_ ?_⟩
      ·simp[execOp,Z,Instr.fieldAt,run_underlying hs,hf,U,Instr.sureAddr,fieldPlace,Ze hi,O,Addr.add_lit,Nat.add_assoc]
      ·simp only[Qf];exact⟨rfl,ty,S,es,hb,by omega,fun _=>rfl⟩
     ·cases G
   ·cases G
  ·cases G
 ·cases G
def Ol(P:Program)(T:Nat→Option AV)(h:QY)(ty:TypeId)(x:Operand):Option Kv :=
 match P.underlying ty,P.info? ty,Zn T x with
|some d,some i,some (.vptr tk n k f) =>
  match h tk with
 |some (.vec _ _ es) =>
   if n=es.length then
    match es[k]? with
   |some e =>
     if F5 d then(if f+i.size≤e.length then some (.agg<|((e.drop f).take i.size).map .p,none,[tk]) else none)
     else match e[f]? with|some c=>some (.p c,none,[tk])|none=>none
   |none=>none
   else none
 |_=>none
|_,_,_=>none
theorem Qb0(r:Zy φ M0 N D T h a w){u:Kv}(ho:o.op=.load ty x)(G:Ol P T h ty x=some u):u.2.1=none∧Yield P o φ M0 h a w u.1 h:=by
 unfold Ol at G;split at G
 ·rename_i d i tk n k f hd hi hx;split at G
  ·rename_i tb S es hb;split at G
   ·rename_i hn;split at G
    ·rename_i e hk;have h2:=r.ev hx;simp only[Qf] at h2;obtain⟨_,WI,S2,aj,ab,ah,hv⟩:=h2;rw[hb] at ab;cases ab;have hv:=hv hn;obtain⟨c,cap,hw,af,ac,ad,hS,ai,aa⟩:=r.hp.blk tk _ hb;have ae:e.length=S:=hS e (List.mem_of_getElem? hk)
     have J:∀f c0,e[f]?=some c0→∃v,w.cell? ⟨φ tk,k*S+f,none⟩=some v∧Qf φ h w (MM φ h M0) (.p c0) v:=by
      intro f c0 O;have hf:f<S:=by grind
      have h3:=BK hS hk hf;rw[O] at h3;obtain⟨v,h4,h5⟩:=GG aa (i:=k*S+f) (x:=.p c0) zc
      grind [KE]
     split at G
     ·rename_i Y;split at G
      ·rename_i U;simp only[ZA] at G;subst G
       have Z:∀(m:Nat) (g:Nat),g+m≤e.length→∃l:List Value,l.length=m∧(∀j v,l[j]?=some v→w.cell? ⟨φ tk,k*S+g+j,none⟩=some v)∧Ql φ h w (MM φ h M0) (((e.drop g).take m).map .p) l:=by
        intro m
        induction m with
       |zero=>intro g _;exact⟨[],rfl,by simp,by rfl⟩
       |succ m ih =>
         intro g hg;have hlt:g<e.length:=by omega
         obtain⟨v,h3,h4⟩:=J g e[g]<|List.getElem?_eq_getElem hlt;obtain⟨l,q1,q2,q3⟩:=ih (g+1) zo;refine⟨v::l,by simp[q1],fun j u hj=>?_,?_⟩
         ·grind
         ·rw[List.drop_eq_getElem_cons hlt];simp only[List.take_succ_cons,JR,Ql]
          grind
       obtain⟨l,q1,q2,q3⟩:=Z i.size f U;refine⟨rfl,Qu r (v:=.agg l.toArray) ?_ (by simp only[Qf];grind)⟩;have:=BF (w:=w) (r:=φ tk) (off:=k*S+f) hd hi Y l q1 q2
       simp_all [execOp,Instr.loadAt,Instr.sureAddr]
      ·cases G
     ·rename_i Y;split at G
      ·rename_i c0 O;simp only[ZA] at G;subst G;obtain⟨v,h3,h4⟩:=J f c0 O;refine⟨rfl,Qu r (v:=v) ?_ h4⟩
       simp_all [execOp,Instr.loadAt,Instr.sureAddr,BG]
      ·cases G
    ·cases G
   ·cases G
  ·cases G
 ·cases G
def BM(P:Program)(T:Nat→Option AV)(h:QY)(ty:TypeId)(x y:Operand):Option Kv :=
 match P.info? ty,Zn T x,Zn T y with
|some i,some (.vptr tk n k f),some v =>
  match h tk,cellsOf v with
 |some (.vec tb S es),some G =>
   match Ta G,es[k]? with
  |some ps,some e=>if n=es.length∧G.length=i.size∧f+ps.length≤e.length then some (.p<|.val undef,some (tk,.vec tb S<|es.set k<|e.take f++ps++e.drop (f+ps.length)),[tk]) else none
  |_,_=>none
 |_,_=>none
|_,_,_=>none
theorem Qk0(A B C:List α)(j:Nat):(A++B++C)[j]?=if j<A.length then A[j]? else if j-A.length<B.length then B[j-A.length]? else C[j-A.length-B.length]?:=by
 grind
theorem BN{M:ZR}:∀{xs:List AV} {ys:List PV} {l:List Value},Ta xs=some ys→Ql φ h w M xs l→Ql φ h w M (ys.map .p) l
|[],ys,l,G,J=>by grind [Ta,Ql]
|x::xs,ys,l,G,J=>by
  simp only[Ta] at G;split at G
  ·rename_i y Y h1 Z;simp only[ZA] at G;subst G;simp only[Ql] at J;obtain⟨v,O,rfl,h3,U⟩:=J;simp only[JR,Ql];refine⟨v,O,rfl,?_,BN Z U⟩
   grind [Qf,fq]
  ·cases G
theorem iV(r:Zy φ M0 N D T h a w){u:Kv}(ho:o.op=.store ty x y)(G:BM P T h ty x y=some u):Yield P o φ M0 h a w u.1 (ap h u.2.1):=by
 unfold BM at G;split at G
 ·rename_i i tk n k f v hi hx hy;have h2:=r.ev hx;have h3:=r.ev hy;simp only[Qf] at h2;split at G
  ·rename_i tb S es vs hb ao;split at G
   ·rename_i ps e al hk;split at G
    ·rename_i hc;obtain⟨hn,av,ax⟩:=hc;simp only[ZA] at G;subst G;obtain⟨_,WI,S2,a7,ae,bb,hv⟩:=h2;rw[hb] at ae;cases ae;have hv:=hv hn;obtain⟨c,cap,hw,ay,aw,Z,hS,a6,au⟩:=r.hp.blk tk _ hb;have ba:e.length=S:=hS e<|List.mem_of_getElem? hk;obtain⟨h4,h5,h6⟩:=V7 ao h3;have az:=ZY h4;have h7:=BN al h4;have ak:=ZY h7;simp only[WF] at ak;have ac:k<es.length:=(wB.1 hk).1;have bc:k*S+S≤es.length*S:=by have:(k+1)*S≤es.length*S:=Nat.mul_le_mul_right _ ac;grind
     have bd:es.length*S≤c.size:=by simp_all [Nat.mul_le_mul_right]
     have aa:k*S+f+(a.eval y).cells.toList.length≤c.size:=by omega
     have ab:=run_storeCells_at P (φ tk) (k*S+f) tb (a.eval y).cells.toList 0 c w hw zo h5;simp only[Nat.add_zero] at ab;have ai:(e.take f++ps++e.drop (f+ps.length)).length=S:=by simp;omega
     have aq:=Oj hS hk ai
     let C:Array Value:=(c.toList.take (k*S+f)++(a.eval y).cells.toList++c.toList.drop (k*S+f+(a.eval y).cells.toList.length)).toArray
     have am:C.size=c.size:=by simp[C] at aa ⊢;omega
     have ar:=ZH hS
     have ah:e=(es.flatten.drop<|k*S).take S:=by
      apply List.ext_getElem?;intro j;by_cases hj:j<S
      ·rw[List.getElem?_take,if_pos hj,List.getElem?_drop,BK hS hk hj]
      grind
     have ad:Ql φ h w (MM φ h M0) ((es.set k<|e.take f++ps++e.drop (f+ps.length)).flatten.map .p) (C.toList.take<|(es.set k<|e.take f++ps++e.drop (f+ps.length)).length*S):=by
      have e1:(es.set k<|e.take f++ps++e.drop (f+ps.length)).flatten=es.flatten.take (k*S+f)++ps++es.flatten.drop (k*S+f+ps.length):=by
       rw[aq,ah];rw[List.take_take,Nat.min_eq_left zo,List.drop_take,List.drop_drop];have e2:es.flatten.take (k*S)++(es.flatten.drop<|k*S).take f=es.flatten.take (k*S+f):=by rw[List.take_add]
       have e3:(es.flatten.drop<|k*S+(f+ps.length)).take (S-(f+ps.length))++es.flatten.drop (k*S+S)=es.flatten.drop (k*S+f+ps.length):=by
        have:=List.take_append_drop (S-(f+ps.length))<|es.flatten.drop<|k*S+(f+ps.length);rw[List.drop_drop] at this;rw[show k*S+(f+ps.length)+(S-(f+ps.length))=k*S+S from by omega] at this
        grind
       grind
      rw[e1,List.length_set]
      have e4:C.toList.take (es.length*S)=(c.toList.take<|es.length*S).take (k*S+f)++(a.eval y).cells.toList++(c.toList.take<|es.length*S).drop (k*S+f+(a.eval y).cells.toList.length):=by
       apply List.ext_getElem?;intro j;have aj:(c.toList.take<|k*S+f).length=k*S+f:=by simp;omega
       have J:((c.toList.take<|es.length*S).take<|k*S+f).length=k*S+f:=by simp;omega
       rw[List.getElem?_take];have hB:(c.toList.take<|es.length*S).length=es.length*S:=by simp;omega
       by_cases hj:j<es.length*S
       ·rw[if_pos hj];simp only[C];rw[Qk0,Qk0,aj,J];by_cases Y:j<k*S+f
        ·grind
        ·rw[if_neg Y,if_neg Y];by_cases U:j-(k*S+f)<(a.eval y).cells.toList.length
         ·grind
         ·rw[if_neg U,if_neg U,List.getElem?_drop,List.getElem?_drop,List.getElem?_take,if_pos zo]
       ·rw[if_neg hj,List.getElem?_eq_none];rw[C9,C9,J,qO,hB];omega
      grind [List.map_take,List.map_drop,ZZ,UW,UX]
     obtain⟨E,X⟩:=BL (φ:=φ) (h:=h) (w:=w) (M0:=M0) (es':=es.set k<|e.take f++ps++e.drop (f+ps.length)) (c':=C) hb hw zq am r.hp;have O:(w.setRow (φ tk) C).heap[φ tk]?=some (.cells C tb (0,0)):=setRow_heap w _ c C tb _ hw
     have hH:=EG (c':=C) (cap:=cap) hb r.hp E X (fun _ _=>rfl) (.inl rfl) (fun d hd an=>setRow_other w _ _ C fun e=>an<|r.hp.inj d tk hd zc e) O zo zc Z
      (fun e' a8=>by grind)
      (fun v hv=>by
       grind) ad
     refine⟨.skip,undef,_,φ,?_,.inr ⟨rfl,rfl⟩,by rfl,hH,E,X⟩;have af:(a.eval y).cells.size=i.size:=by grind
     simp[execOp,ho,Instr.storeAt,hv,Instr.sureAddr,storeVar,Ze hi,af,ab,C]
    ·cases G
   ·cases G
  ·cases G
 ·cases G
def fu(P:Program)(T:Nat→Option AV)(h:QY)(t:TypeId)(x:Operand):Option Kv :=
 match P.underlying t,Zn T x with
|some (.slice _),some (.vsl _ tk n)=>match h tk with|some (.vec _ _ es)=>if n=es.length then some (.p<|.val<|.int .i64 n,none,[tk]) else none|_=>none
|some (.slice _),some .vnil=>some (.p<|.val<|.int .i64 0,none,[])
|_,_=>none
theorem Qe9(r:Zy φ M0 N D T h a w){t:TypeId}{u:Kv}(ho:o.op=.call ⟨.builtin .len,#[x],#[t]⟩)(G:fu P T h t x=some u):u.2.1=none∧Yield P o φ M0 h a w u.1 h:=by
 unfold fu at G;split at G
 ·rename_i e S tk n Z U;split at G
  ·rename_i ty S' es hb;split at G
   ·rename_i hn;simp only[ZA] at G;subst G;have O:=r.ev U;simp only[Qf] at O;obtain⟨_,WI,aa,J,ab,Y⟩:=O;rw[hb] at J;cases J;obtain⟨cap,c,Y,_⟩:=Y hn;refine⟨rfl,Qu r (v:=.int .i64 n) ?_<|by rfl⟩;simp[execOp,ho,resolve,invoke,builtin,Builtin.len_,run_underlying Z,Y,goInt]
   ·cases G
  ·cases G
 ·rename_i e Z U;simp only[ZA] at G;subst G;have O:=r.ev U;simp only[Qf] at O;refine⟨rfl,Qu r (v:=.int .i64 0) ?_<|by rfl⟩;simp[execOp,ho,resolve,invoke,builtin,Builtin.len_,run_underlying Z,O,goInt]
 ·cases G
end
section
variable {P:Program}{o:Oper}{φ:Nat→Nat}{M0:ZR}{N:Nat}{D:DB}{T:Nat→Option AV}{h:QY}{a:Act}{w:World}
def Tc:List Value→Bool|[]=>true|v::l=>v.oneCell'&&Tc l
theorem Cb:∀{l:List Value},Tc l=true→∀v∈l,v.oneCell'=true
|[],_,v,G=>by simp at G
|x::l,J,v,G=>by
  simp only[Tc,Ku] at J;rcases List.mem_cons.1 G with rfl|G
  ·exact J.1
  ·exact Cb J.2 v G
theorem vB{z:Array Value}(G:v∈(Builtin.zeroCells z n).toList)(J:0<z.size):v∈z.toList:=by
 simp only[Builtin.zeroCells,Array.toList_map,List.mem_map] at G;obtain⟨k,_,rfl⟩:=G
 grind [Nat.mod_lt]
theorem Cc{M:ZR}:∀{cs:List PV} {l:List Value},l.length=cs.length→(∀(j:Nat) c u,cs[j]?=some c→l[j]?=some u→Zj w M c u)→Ql φ h w M (cs.map .p) l
|[],l,G,_=>by grind [Ql]
|c::cs,[],G,_=>by simp at G
|c::cs,u::l,G,J=>by
  simp only[JR,Ql];refine⟨u,l,rfl,?_,Cc zc fun j c' O U Y=>J (j+1) c' O zc<|zc⟩;simp only[Qf];exact J 0 c u zq zq
def Td(P:Program)(T:Nat→Option AV)(h:QY)(dst:Option Tmp)(t:TypeId)(s x:Operand):Option Kv :=
  match P.underlying t,Zn T s,Zn T x with
 |some (.slice e),some sv,some xv =>
    match P.info? e with
   |some i =>
      match i.zero,BI i.size xv with
     |some z,some es' =>
        if z.cells.size=i.size∧0<i.size∧Tc z.cells.toList=true then
          match sv with
         |.vnil =>
            if es'=[] then some (.vnil,none,[]) else
            (match dst with
            |some d=>if h d=none∧es'.length*i.bytes≤140737488355328∧es'.length≤140737488355328 then some (.vsl i.size d es'.length,some (d,.vec e i.size es'),[d]) else none
            |none=>none)
         |.vsl S tk n =>
            (match h tk with
            |some (.vec ty G es) =>
               if ty=e∧G=S∧S=i.size∧n=es.length∧(es.length+es'.length)*i.bytes≤140737488355328∧es.length+es'.length≤140737488355328 then
                 if es'=[] then some (.vsl S tk n,some (tk,.vec e S es),[tk]) else
                 some (.vsl S tk<|n+es'.length,some (tk,.vec e S<|es++es'),[tk]) else none
            |_=>none)
         |_=>none
        else none
     |_,_=>none
   |none=>none
 |_,_,_=>none
theorem dE(r:Zy φ M0 N D T h a w){t:TypeId}{s:Operand}{u:Kv}(ho:o.op=.call ⟨.builtin .append,#[s,x],#[t,t]⟩)(G:Td P T h o.dst t s x=some u):Yield P o φ M0 h a w u.1 (ap h u.2.1):=by
 unfold Td at G;split at G;rotate_left
 ·cases G
 rename_i e sv xv ht hs hx;split at G;rotate_left
 ·cases G
 rename_i i hi;split at G;rotate_left
 ·cases G
 rename_i z es' hz bh;split at G;rotate_left
 ·cases G
 rename_i an;refine Yield.of_lift r 1 fun φ r E0 X0 hC=>?_
 have a8:=q9 bh<|r.ev hx;have ao:=r.ev hs;have bq:∀n,∀v∈(Builtin.zeroCells z.cells n).toList,v.oneCell'=true:=fun n v hv=>Cb an.2.2 v<|vB hv zo
 split at G
 ·simp only[Qf] at ao;split at G
  ·rename_i av;subst av;simp only[ZA] at G;subst G;simp only[ap];refine Qu r (v:=.slice none 0 0) ?_ (by simp[Qf])
   grind [Zj,YB,JS]
  ·rename_i bg;split at G;rotate_left
   ·cases G
   rename_i d bo;split at G;rotate_left
   ·cases G
   rename_i hc;obtain⟨hd,a7,bc⟩:=hc;simp only[ZA] at G;subst G;simp only[ap];have ai:es'≠[]:=fun e=>bg e
   obtain⟨rr,oo,cap,l,h1,h2,h3,h4,h5,h6,h7,h8⟩:=UZ a8 ai;have am:0<es'.length:=List.length_pos_iff.2 ai;have al:=run_append_nil (P:=P) w t o.type e i z ht hi hz ⟨rr,oo,none⟩ es'.length cap l (by rw[h5]) (fun j v hj=>by grind [Addr.add_lit]) am zo zo;have af:=grownCap_ge w es'.length 0 e;have ad:grownCap w es'.length 0 e≤maxLen:=grownCap_le_maxLen w es'.length 0 e (by unfold maxLen;omega);generalize grownCap w es'.length 0 e=gc at *
   let C:Array Value:=l.toArray++Builtin.zeroCells z.cells (gc-es'.length)
   let w':World:=w.drew.alloc<|.cells C e
   obtain⟨E,X⟩:=Uo (w:=w) (w':=w') (o:=.cells C e) (b:=d) (k:=.vec e i.size es') (φ:=φ) (h:=h) (M0:=M0) rfl rfl rfl rfl hd r.hp hC
   have Y:C.size=gc*i.size:=by
    simp only[C,Array.size_append,List.size_toArray,size_zeroCells,an.1,h5];rw[←Nat.add_mul];grind
   have O:w'.heap[w.heap.size]?=some (.cells C e (0,0)):=by show(w.heap.push _)[w.heap.size]?=_;simp
   have ac:∀v∈C.toList,v.oneCell'=true:=by
    grind
   have aq:C.toList.take (es'.length*i.size)=l:=by
    grind
   have ax:Ql φ h w (MM φ h M0) (es'.flatten.map .p) l:=Cc (by rw[h5,ZH h3]) h8;have hH:ZX (QL φ d w.heap.size) (upd h d<|.vec e i.size es') w' M0:=Ur rfl hd r.hp hC E X ⟨C,gc,O,Y,af,ad,h3,ac,by rw[aq];exact(QV (E.keeps M0) X).2 _ _ ax⟩;refine⟨_,.slice (some ⟨w.heap.size,0,none⟩) es'.length gc,w',QL φ d w.heap.size,YB ho zc,.inl rfl,?_,hH,E,X⟩;simp only[Qf];exact⟨rfl,e,es',by simp[upd],KD _,fun _=>⟨gc,C,by simp[QL],by grind [QL],Y,af,ad⟩⟩
 ·rename_i S tk n;split at G;rotate_left
  ·cases G
  rename_i ty S' es Z;simp only[Qf] at ao;obtain⟨bu,WI,bt,ak,bm,ah⟩:=ao;rw[Z] at ak;cases ak;split at G;rotate_left
  ·cases G
  rename_i hc;obtain⟨rfl,_,rfl,rfl,a7,bc⟩:=hc;obtain⟨J,c0,br,ab,ay,bf,aa⟩:=ah rfl;obtain⟨c1,bl,aw,bk,ba,be,bd,bp,bb⟩:=r.hp.blk tk _ Z;rw[ab] at aw;cases aw;split at G
  ·rename_i ar;simp only[ZA] at G;subst G;simp only[ap]
   have au:upd h tk (.vec ty i.size es)=h:=by
    grind [upd]
   rw[au];refine Qu r (v:=a.eval s) ?_ (by grind [Qf])
   grind [Zj,YB,JS]
  ·rename_i ar;simp only[ZA] at G;subst G;simp only[ap];obtain⟨rr,oo,cap,l,h1,h2,h3,h4,h5,h6,h7,h8⟩:=UZ a8 ar;have am:0<es'.length:=List.length_pos_iff.2 ar;have bi:Ql φ h w (MM φ h M0) (es'.flatten.map .p) l:=Cc (by rw[h5,ZH h3]) h8;have ae:∀e∈es++es',e.length=i.size:=fun e G=>(List.mem_append.1 G).elim (bd e) (h3 e)
   have bn:es.length*i.size≤c0.size:=by simp_all [Nat.mul_le_mul_right]
   by_cases U:es.length+es'.length≤J
   ·have az:es.length*i.size+l.length≤c0.size:=by rw[h5,ay,←Nat.add_mul];exact Nat.mul_le_mul_right _ U
    have al:=run_append_room (P:=P) w t o.type ty i ht hi (φ tk) es.length J c0 ab ⟨rr,oo,none⟩ es'.length cap l (by rw[h5]) (fun j v hj=>by grind [Addr.add_lit]) h7 U az
    let C:Array Value:=(c0.toList.take (es.length*i.size)++l++c0.toList.drop (es.length*i.size+l.length)).toArray
    have bv:(c0.toList.take<|es.length*i.size).length=es.length*i.size:=by simp;omega
    have Y:C.size=c0.size:=by grind
    obtain⟨E,X⟩:=BL (φ:=φ) (h:=h) (w:=w) (M0:=M0) (es':=es++es') (c':=C) Z ab zq Y r.hp;have O:(w.setRow (φ tk) C).heap[φ tk]?=some (.cells C ty (0,0)):=setRow_heap w _ c0 C ty _ ab
    have ac:∀v∈C.toList,v.oneCell'=true:=by
     grind
    have aq:C.toList.take ((es++es').length*i.size)=c0.toList.take (es.length*i.size)++l:=by
     grind [C9,Nat.add_mul,List.take_left]
    have hH:ZX φ (upd h tk<|.vec ty i.size<|es++es') (w.setRow (φ tk) C) M0 :=
     EG Z r.hp E X (fun _ _=>rfl) (.inl rfl) (fun d hd bj=>setRow_other w _ _ C fun e=>bj<|r.hp.inj d tk hd zc e) O zo zc aa ae ac
      (by grind [List.flatten_append,ZZ])
    refine⟨_,.slice (some ⟨φ tk,0,none⟩) (es.length+es'.length) J,_,φ,YB ho zc,.inl rfl,?_,hH,E,X⟩;simp only[Qf];exact⟨rfl,ty,es++es',by simp[upd],by simp,fun _=>⟨J,C,rfl,O,by omega,U,aa⟩⟩
   ·have a6:(c0.toList.take<|es.length*i.size).length=es.length*i.size:=by simp;omega
    have al:=run_append_grow (P:=P) w t o.type ty i z ht hi hz ⟨φ tk,0,none⟩ es.length J (c0.toList.take<|es.length*i.size) a6 (fun j v hj=>by
      rw[Addr.add_lit,Nat.zero_add,KE ab]
      grind) ⟨rr,oo,none⟩ es'.length cap l (by rw[h5])
     (fun j v hj=>by grind [Addr.add_lit]) zo zo (growslice_fits zo a7)
    have af:=grownCap_ge w (es.length+es'.length) J ty;have ad:grownCap w (es.length+es'.length) J ty≤maxLen:=grownCap_le_maxLen w _ J ty (by unfold maxLen;omega);generalize grownCap w (es.length+es'.length) J ty=gc at *
    let C:Array Value:=(c0.toList.take<|es.length*i.size).toArray++l.toArray++Builtin.zeroCells z.cells (gc-(es.length+es'.length))
    let w':World:=w.drew.alloc<|.cells C ty
    obtain⟨E,X⟩:=xk (w:=w) (w':=w') (ob:=.cells C ty) (φ:=φ) (h:=h) (M0:=M0) (es':=es++es') Z zc rfl rfl rfl rfl r.hp hC
    have Y:C.size=gc*i.size:=by
     simp only[C,Array.size_append,List.size_toArray,size_zeroCells,an.1,h5,a6];rw[←Nat.add_mul,←Nat.add_mul];grind
    have O:w'.heap[w.heap.size]?=some (.cells C ty (0,0)):=by show(w.heap.push _)[w.heap.size]?=_;simp
    have aj:QL φ tk w.heap.size tk=w.heap.size:=by simp[QL]
    have ac:∀v∈C.toList,v.oneCell'=true:=by
     grind
    have aq:C.toList.take ((es++es').length*i.size)=c0.toList.take (es.length*i.size)++l:=by
     grind [Array.toList_append,C9,Nat.add_mul,List.take_left]
    have hH:ZX (QL φ tk w.heap.size) (upd h tk<|.vec ty i.size<|es++es') w' M0 :=
     EG Z r.hp E X (fun b hb=>by grind [QL]) (.inr ⟨aj,hC⟩) (fun d hd _=>hC.lt r.hp (w':=w') (by show(w.heap.push _).size≤_;simp) (fun x hx=>by show(w.heap.push _)[x]?=_;grind) hd) zc Y zc ad ae ac
      (by grind [List.flatten_append,ZZ])
    refine⟨_,.slice (some ⟨w.heap.size,0,none⟩) (es.length+es'.length) gc,w',QL φ tk w.heap.size,YB ho zc,.inl rfl,?_,hH,E,X⟩;simp only[Qf];exact⟨rfl,ty,es++es',by simp[upd],by simp,fun _=>⟨gc,C,by rw[aj],zc,Y,af,ad⟩⟩
 ·cases G
def Om(P:Program)(T:Nat→Option AV)(h:QY)(dst:Option Tmp)(t:TypeId)(x y:Operand):Option Kv :=
 match P.underlying t,Zn T x,Zn T y,dst with
|some (.slice e),some (.p (.val (.int G l))),some (.p (.val (.int J c))),some d =>
  match P.info? e with
 |some i =>
   match i.zero,h d with
  |some z,none =>
    match Ta (z.cells.toList.map y7) with
   |some ps =>
     if z.cells.size=i.size∧0<i.size∧Tc z.cells.toList=true∧ps.length=i.size∧0≤l∧l≤c∧(i.bytes:Int)*c≤281474976710656∧c≤140737488355328 then
      some (.vsl i.size d l.toNat,some (d,.vec e i.size<|List.replicate l.toNat ps),[d])
     else none
   |none=>none
  |_,_=>none
 |none=>none
|_,_,_,_=>none
theorem vC:∀{l:List Value} {ps:List PV},Ta (l.map y7)=some ps→Ql φ h w M (ps.map .p) l
|l,ps,G=>BN G<|repAs_ofV l
where repAs_ofV:∀l:List Value,Ql φ h w M (l.map y7) l
|[]=>by rfl
|x::l=>by simp only[JR,Ql];exact⟨x,l,rfl,Jy x,repAs_ofV l⟩
theorem Bl(f:α→β)(l:List α)(n:Nat):(List.replicate n l).flatten.map f=(List.replicate n<|l.map f).flatten:=by
 simp
theorem Qb1(r:Zy φ M0 N D T h a w){t:TypeId}{u:Kv}(ho:o.op=.makeSlice t x y)(G:Om P T h o.dst t x y=some u):Yield P o φ M0 h a w u.1 (ap h u.2.1):=by
 unfold Om at G;split at G;rotate_left
 ·cases G
 rename_i e kl l kc c d ht hx hy ah;split at G;rotate_left
 ·cases G
 rename_i i hi;split at G;rotate_left
 ·cases G
 rename_i z hz hd;split at G;rotate_left
 ·cases G
 rename_i ps ai;split at G;rotate_left
 ·cases G
 rename_i hc;obtain⟨h1,h2,h3,h4,h5,h6,h7,h8⟩:=hc;simp only[ZA] at G;subst G;simp only[ap];refine Yield.of_lift r 1 fun φ r E0 X0 hC=>?_
 have Y:=r.ev hx;have O:=r.ev hy;simp only[Qf,Zj] at Y O;have ab:=run_make (P:=P) w t e i z ht hi hz kl kc l c h5 h6 h7 zo
 let C:Array Value:=madeCells z.cells<|c.toNat*i.size
 let w':World:=w.alloc<|.cells C e
 have af:C.toList=(List.replicate c.toNat z.cells.toList).flatten:=by
  have:=Nw z.cells.toList i.size zo h2 c.toNat;simp only[Array.toArray_toList] at this;rw[←this];simp[C,madeCells,Array.toList_range]
 obtain⟨E,X⟩:=Uo (w:=w) (w':=w') (o:=.cells C e) (b:=d) (k:=.vec e i.size<|List.replicate l.toNat ps) (φ:=φ) (h:=h) (M0:=M0) rfl rfl rfl rfl hd r.hp hC;have J:w'.heap[w.heap.size]?=some (.cells C e (0,0)):=by show(w.heap.push _)[w.heap.size]?=_;simp
 have Z:C.size=c.toNat*i.size:=by simp[C,madeCells]
 have ad:l.toNat≤c.toNat:=by omega
 have U:c.toNat≤maxLen:=by unfold maxLen;omega
 have ac:∀v∈C.toList,v.oneCell'=true:=by
  grind [List.mem_flatten,Cb]
 have ae:C.toList.take ((List.replicate l.toNat ps).length*i.size)=(List.replicate l.toNat z.cells.toList).flatten:=by
  rw[af,List.length_replicate,show c.toNat=l.toNat+(c.toNat-l.toNat) from by omega,←List.replicate_append_replicate,List.flatten_append]
  simp_all
 have aa:Ql φ h w (MM φ h M0) ((List.replicate l.toNat ps).flatten.map .p) ((List.replicate l.toNat z.cells.toList).flatten):=by
  grind [Bl,UI,vC]
 have hH:ZX (QL φ d w.heap.size) (upd h d<|.vec e i.size<|List.replicate l.toNat ps) w' M0 :=
  Ur rfl hd r.hp hC E X ⟨C,c.toNat,J,Z,by simp;omega,U,fun e' aj=>by grind,ac,by rw[ae];exact(QV (E.keeps M0) X).2 _ _ aa⟩
 refine⟨_,.slice (some ⟨w.heap.size,0,none⟩) l.toNat c.toNat,w',QL φ d w.heap.size,?_,.inl rfl,?_,hH,E,X⟩
 ·simp[execOp,ho,Y,O,ab,w',C]
 ·simp only[Qf];exact⟨rfl,e,List.replicate l.toNat ps,by simp[upd],by simp,fun _=>⟨c.toNat,C,by simp[QL],by grind [QL],Z,ad,U⟩⟩
def dF(P:Program)(h:QY)(dst:Option Tmp)(t:TypeId)(parts:Array (Nat×Operand)):Option Kv :=
 match P.underlying t,dst,parts.toList with
|some (.slice e),some d,[] =>
  match P.info? e,h d with
 |some i,none=>some (.vsl i.size d 0,some (d,.vec e i.size []),[d])
 |_,_=>none
|_,_,_=>none
theorem Qfa(r:Zy φ M0 N D T h a w){t:TypeId}{u:Kv}(ho:o.op=.buildSlice t 0 parts)(G:dF P h o.dst t parts=some u):Yield P o φ M0 h a w u.1 (ap h u.2.1):=by
 unfold dF at G;split at G;rotate_left
 ·cases G
 rename_i e d ht U aa;split at G;rotate_left
 ·cases G
 rename_i i hi Z;simp only[ZA] at G;subst G;simp only[ap];refine Yield.of_lift r 1 fun φ r E0 X0 Y=>?_
 have O:parts=#[]:=by grind
 let w':World:=w.alloc<|.cells #[] e
 obtain⟨E,X⟩:=Uo (w:=w) (w':=w') (o:=.cells #[] e) (b:=d) (k:=.vec e i.size []) (φ:=φ) (h:=h) (M0:=M0) rfl rfl rfl rfl Z r.hp Y;have J:w'.heap[w.heap.size]?=some (.cells #[] e (0,0)):=by show(w.heap.push _)[w.heap.size]?=_;simp
 have hH:ZX (QL φ d w.heap.size) (upd h d<|.vec e i.size []) w' M0 :=
  Ur rfl Z r.hp Y E X ⟨#[],0,J,by simp,by simp,by omega,by simp,by simp,by simp[Ql]⟩
 refine⟨_,.slice (some ⟨w.heap.size,0,none⟩) 0 0,w',QL φ d w.heap.size,?_,.inl rfl,?_,hH,E,X⟩
 ·have e2:(Array.range 0).map (fun _=>(default:Value))=#[]:=by simp
  subst O;simp only[execOp,ho,Instr.buildSlice,Sem.run_bind,run_underlying ht,Ze hi,Result.andThen_ok,Nat.zero_mul,if_true,Sem.run_pure];simp[newRow,newObj,Sem.run,w',e2,Instr.fill]
 ·simp only[Qf];exact⟨rfl,e,[],by simp[upd],by simp,fun _=>⟨0,#[],by simp[QL],by grind [QL],by simp,by simp,by omega⟩⟩
def wF:Option AV→Bool|some (.vptr _ _ _ _)=>true|some (.vsl _ _ _)=>true|some .vnil=>true|_=>false
variable {T':Nat→Option AV}{h':QY}
theorem A9{t:TypeId}{u:Kv}(G:JB P T h t x ix=some u)(J:Zn T' x=Zn T x)(hi:Zn T' ix=Zn T ix)(hh:∀b∈u.2.2,h' b=h b):JB P T' h' t x ix=some u:=by
 unfold JB at G ⊢;rw[J,hi];split at G
 ·grind
 ·grind
 ·cases G
theorem Ia{t:TypeId}{f:Nat}{u:Kv}(G:U0 P T h t x f=some u)(J:Zn T' x=Zn T x)(hh:∀b∈u.2.2,h' b=h b):U0 P T' h' t x f=some u:=by
 unfold U0 at G ⊢
 grind
theorem fw{t:TypeId}{u:Kv}(G:Ol P T h t x=some u)(J:Zn T' x=Zn T x)(hh:∀b∈u.2.2,h' b=h b):Ol P T' h' t x=some u:=by
 unfold Ol at G ⊢;rw[J];split at G
 ·grind
 ·cases G
theorem xm{t:TypeId}{u:Kv}(G:BM P T h t x y=some u)(J:Zn T' x=Zn T x)(O:Zn T' y=Zn T y)(hh:∀b∈u.2.2,h' b=h b):BM P T' h' t x y=some u:=by
 unfold BM at G ⊢;rw[J,O];split at G
 ·grind
 ·cases G
def dG(T:Nat→Option AV)(h:QY)(x:Operand):Option Kv :=
 match Zn T x with
|some (.vptr tk n k f)=>match h tk with
 |some (.vec _ _ es)=>if n=es.length then some (.vptr tk n k f,none,[tk]) else none
 |_=>none
|_=>none
theorem dH{u:Kv}(J:dG T h x=some u)(G:Zn T' x=Zn T x)(hh:∀b∈u.2.2,h' b=h b):dG T' h' x=some u:=by
 grind [dG]
theorem dJ{t:TypeId}{u:Kv}(G:fu P T h t x=some u)(J:Zn T' x=Zn T x)(hh:∀b∈u.2.2,h' b=h b):fu P T' h' t x=some u:=by
 unfold fu at G ⊢
 grind
theorem vD{t:TypeId}{s:Operand}{u:Kv}(G:Td P T h dst t s x=some u)(hs:Zn T' s=Zn T s)(O:Zn T' x=Zn T x)(hh:∀b∈u.2.2,h' b=h b):Td P T' h' dst t s x=some u:=by
 unfold Td at G ⊢;rw[hs,O];split at G
 ·split at G
  ·split at G
   ·split at G
    ·rename_i J;rw[if_pos J];split at G
     ·grind
     ·grind
     ·cases G
    ·cases G
   ·cases G
  ·cases G
 ·cases G
theorem fA{t:TypeId}{u:Kv}(G:Om P T h dst t x y=some u)(J:Zn T' x=Zn T x)(O:Zn T' y=Zn T y)(hh:∀b∈u.2.2,h' b=h b):Om P T' h' dst t x y=some u:=by
 unfold Om at G ⊢;rw[J,O];split at G
 ·grind
 ·cases G
theorem dK{t:TypeId}{ps:Array (Nat×Operand)}{u:Kv}(G:dF P h dst t ps=some u)(hh:∀b∈u.2.2,h' b=h b):dF P h' dst t ps=some u:=by
 unfold dF at G ⊢
 grind
end
theorem Qfb(r:Zy φ M0 N D T h a w){u:Kv}(ho:o.op=.nilCheck x)(G:dG T h x=some u):u.2.1=none∧Yield P o φ M0 h a w u.1 h:=by
 unfold dG at G;split at G
 ·rename_i tk n k f O;split at G
  ·rename_i ty S es hb;split at G
   ·rename_i hn;simp only[ZA] at G;subst G;have J:=r.ev O;refine⟨rfl,Qu r (v:=a.eval x) ?_ J⟩;simp only[Qf] at J;obtain⟨_,WI,S2,U,Z,Y,hv⟩:=J
    simp_all [execOp]
   ·cases G
  ·cases G
 ·cases G
section
variable {P:Program}{o:Oper}{φ:Nat→Nat}{M0:ZR}{N:Nat}{D:DB}{T:Nat→Option AV}{h:QY}{a:Act}{w:World}
def Ny(P:Program)(T:Nat→Option AV)(t:TypeId)(x ix:Operand):Option Kv :=
 match P.underlying t,Zn T x,Zn T ix with
|some .string,some (.p (.val (.string s))),some (.p (.val (.int _ n))) =>
  if 0≤n then(match (Hm s)[n.toNat]? with|some b=>some (.p<|.val<|.int .u8 b.toNat,none,[])|none=>none) else none
|_,_,_=>none
theorem iW(r:Zy φ M0 N D T h a w){t:TypeId}{u:Kv}(Y:o.op=.index t x ix)(G:Ny P T t x ix=some u):u.2.1=none∧Yield P o φ M0 h a w u.1 h:=by
 unfold Ny at G;split at G
 ·rename_i s k n ht Z hi;split at G
  ·rename_i hn;split at G
   ·rename_i b hb;simp only[ZA] at G;subst G;have O:=r.ev Z;have U:=r.ev hi;simp only[Qf,Zj] at O U;refine⟨rfl,Qu r (v:=.int .u8 b.toNat) ?_<|by rfl⟩
    have J:s[n.toNat]?=some b:=by
     simp only[Hm] at hb;rw[←hb];rw[Array.getElem?_toList];rfl
    simp[execOp,Y,Instr.index,O,U,asIntOf,run_underlying ht,hn,J]
   ·cases G
  ·cases G
 ·cases G
def wG(P:Program)(T:Nat→Option AV)(t:TypeId)(x:Operand):Option Kv :=
 match P.underlying t,Zn T x with
|some .string,some (.p (.val (.string s)))=>some (.p<|.val<|.int .i64 (Hm s).length,none,[])
|_,_=>none
theorem Qfc(r:Zy φ M0 N D T h a w){t:TypeId}{u:Kv}(O:o.op=.call ⟨.builtin .len,#[x],#[t]⟩)(G:wG P T t x=some u):u.2.1=none∧Yield P o φ M0 h a w u.1 h:=by
 unfold wG at G;split at G
 ·rename_i s Y U;simp only[ZA] at G;subst G;have J:=r.ev U;simp only[Qf,Zj] at J;refine⟨rfl,Qu r (v:=.int .i64 s.size) ?_ ?_⟩
  ·simp only[execOp,O,resolve,invoke,builtin,Builtin.len_,Sem.run_bind,Sem.run_pure,Result.andThen_ok];simp[run_underlying Y,J,goInt]
  ·rfl
 ·cases G
def FC(P:Program)(ty:TypeId)(l:List Value)(off:Nat):Option Value :=
 match P.underlying ty,P.info? ty with
|some d,some i=>if F5 d then(if off+i.size≤l.length then some (.agg ((l.drop off).take i.size).toArray) else none) else l[off]?
|_,_=>none
def eqV(P:Program):Nat→TypeId→Value→Value→Option Bool
|0,_,_,_=>none
|d+1,t,x,y =>
  match P.underlying t with
 |some .bool=>match x,y with|.bool a,.bool b=>some (a==b)|_,_=>none
 |some (.int _)=>match x,y with|.int k a,.int k' b=>if k=k' then some (Qp a b) else none|_,_=>none
 |some .string=>match x,y with|.string a,.string b=>some (Q0 (Hm a)<|Hm b)|_,_=>none
 |some (.struct fields)=>match x,y with|.agg xs,.agg ys=>if P.stoodInHeld t then none else eqFs P d xs.toList ys.toList fields.toList|_,_=>none
 |some (.array len e)=>match x,y with|.agg xs,.agg ys=>if(P.info? e).isNone then none else eqAs P d e (P.cellsOf e) xs.toList ys.toList (List.range len)|_,_=>none
 |_=>none
where
 eqFs (P:Program) (d:Nat) (xs ys:List Value):List Field→Option Bool
|[]=>some true
|f::G =>
  if f.name="_" then eqFs P d xs ys G else
  match FC P f.type xs f.offset,FC P f.type ys f.offset with
 |some a,some b=>match eqV P d f.type a b,eqFs P d xs ys G with|some p,some q=>some (p&&q)|_,_=>none
 |_,_=>none
 eqAs (P:Program) (d:Nat) (e:TypeId) (c:Nat) (xs ys:List Value):List Nat→Option Bool
|[]=>some true
|i::J =>
  match FC P e xs (i*c),FC P e ys (i*c) with
 |some a,some b=>match eqV P d e a b,eqAs P d e c xs ys J with|some p,some q=>some (p&&q)|_,_=>none
 |_,_=>none
theorem EH{l:List Value}(G:FC P ty l off=some v):(part ty l.toArray off).run P w=.ok v w:=by
 unfold FC at G;split at G
 ·rename_i d i J hi;split at G
  ·simp_all [part,ZA,GI,Ze]
  simp_all [F5,part,GI]
 ·cases G
theorem xn:∀(d:Nat),(∀(t:TypeId) (x y:Value) (b:Bool),eqV P d t x y=some b→∀D,d≤D→(Op.equalIn D t x y).run P w=.ok b w) ∧
  (∀(xs ys:List Value) (O:List Field) (b:Bool),eqV.eqFs P d xs ys O=some b→∀D,d≤D→(Op.eqFields D xs.toArray ys.toArray O).run P w=.ok b w)
|0=>by
  refine⟨fun t x y b G=>by simp[eqV] at G,?_⟩;intro xs ys O
  induction O with
 |nil=>simp[eqV.eqFs,Op.eqFields]
 |cons f O ih =>
   grind [eqV.eqFs,Op.eqFields,eqV]
|d+1=>by
  obtain⟨i1,i2⟩:=xn d
  have j1:∀(t:TypeId) (x y:Value) (b:Bool),eqV P (d+1) t x y=some b→∀D,d+1≤D→(Op.equalIn D t x y).run P w=.ok b w:=by
   intro t x y b G D hD;obtain⟨U,rfl⟩:∃U,D=U+1:=⟨D-1,by omega⟩;unfold eqV at G;split at G
   ·rename_i J;split at G
    ·simp only[ZA] at G;subst G;simp[Op.equalIn,run_underlying J]
    ·cases G
   ·rename_i k0 J;split at G
    ·rename_i k p k' q;split at G
     ·rename_i hk;simp only[ZA] at G;subst G;subst hk;simp[Op.equalIn,run_underlying J,Qp]
     ·cases G
    ·cases G
   ·rename_i J;split at G
    ·rename_i p q;simp only[ZA] at G;subst G
     have:(p==q)=Q0 (Hm p) (Hm q):=by
      rw[beq_toListBytes,ByteArray.toList_eq,ByteArray.toList_eq];rfl
     simp[Op.equalIn,run_underlying J,this]
    ·cases G
   ·rename_i fields J;split at G
    ·rename_i xs ys;split at G
     ·cases G
     ·rename_i hp;have Z:P.stoodInHeld t=false:=by grind
      have hf:P.fieldsOf t=fields:=by simp[Program.fieldsOf,J]
      rw[run_equalIn_struct w U t xs ys zc Z,hf];have:=i2 xs.toList ys.toList fields.toList b G U zo;omega
    ·cases G
   ·rename_i len e J;split at G
    ·rename_i xs ys;split at G
     ·cases G
     ·rename_i hi
      obtain⟨i,hi⟩:∃i,P.info? e=some i:=by
       cases h:P.info? e with
      |none=>grind
      |some i=>simp
      rw[run_equalIn_array w U xs ys J hi]
      have key:∀(Y:List Nat) (b:Bool),eqV.eqAs P d e (P.cellsOf e) xs.toList ys.toList Y=some b→(Op.eqItems U e (P.cellsOf e) xs ys Y).run P w=.ok b w:=by
       intro Y
       induction Y with
      |nil=>simp[eqV.eqAs,Op.eqItems]
      |cons j Y ih =>
        intro b G;simp only[eqV.eqAs] at G;split at G
        ·rename_i p q hp hq;split at G
         ·rename_i b1 b2 h1 h2;simp only[ZA] at G;subst G;have p1:=EH (P:=P) (w:=w) hp;have p2:=EH (P:=P) (w:=w) hq;simp only[Array.toArray_toList] at p1 p2;have p3:=i1 _ _ _ _ h1 U zo;have p4:=ih _ h2;cases b1<;>simp_all [Op.eqItems]
         ·cases G
        ·cases G
      grind
    ·cases G
   ·cases G
  refine⟨j1,?_⟩;intro xs ys O
  induction O with
 |nil=>simp[eqV.eqFs,Op.eqFields]
 |cons f O ih =>
   intro b G D hD;simp only[eqV.eqFs] at G;split at G
   ·grind [Op.eqFields]
   ·rename_i hn;split at G
    ·rename_i p q hp hq;split at G
     ·rename_i b1 b2 h1 h2;simp only[ZA] at G;subst G;simp only[Op.eqFields,ne_eq,hn,not_false_eq_true,if_true,Sem.run_bind,EH (w:=w) hp,EH (w:=w) hq,Result.andThen_ok,j1 _ _ _ _ h1 D hD];cases b1
      ·simp
      grind
     ·cases G
    ·cases G
theorem Nz{t:TypeId}{x y:Value}{b:Bool}(h:∀D,4≤D→(Op.equalIn D t x y).run P w=.ok b w):(Op.equal t x y).run P w=.ok b w:=h 10000 zo
theorem EI{t:TypeId}{x y:Value}{b:Bool}(h:∀D,(Op.equalIn (D+1) t x y).run P w=.ok b w):(Op.equal t x y).run P w=.ok b w:=h 9999
def isConst:Operand→Bool|.const _=>true|_=>false
def fB(P:Program)(T:Nat→Option AV)(op:BinOp)(tx:TypeId)(x y:Operand):Option Bool :=
 match Zn T x,Zn T y with
|some (.ifc _ _),some (.p (.val .nilIface))=>match P.underlying tx with|some (.interface _)=>some false|_=>none
|some (.p (.val .nilIface)),some (.ifc _ _)=>match P.underlying tx with|some (.interface _)=>some false|_=>none
|some (.p (.val .nilIface)),some (.p (.val .nilIface))=>match P.underlying tx with|some (.interface _)=>if isConst x||isConst y then some true else none|_=>none
|some (.p (.val (.bool a))),some (.p (.val (.bool b)))=>match P.underlying tx with|some .bool=>some (a==b)|_=>none
|some (.agg xs),some (.agg ys) =>
  if P.eqGuardType P.depth tx then none else
  match BD xs,BD ys with
 |some vx,some vy=>eqV P 4 tx (.agg vx.toArray)<|.agg vy.toArray
 |_,_=>none
|_,_=>none
def aEq(P:Program)(T:Nat→Option AV)(op:BinOp)(tx:TypeId)(x y:Operand):Option Kv :=
 match op with
|.eql=>match fB P T op tx x y with|some b=>some (.p<|.val<|.bool<|R6 b,none,[])|none=>none
|.neq=>match fB P T op tx x y with|some b=>some (.p<|.val<|.bool (!R6 b),none,[])|none=>none
|_=>none
theorem lq(r:Zy φ M0 N D T h a w){b:Bool}(G:fB P T op tx x y=some b) :
  (eqGuard op tx x y (a.eval x)<|a.eval y).run P w=.ok () w∧(Op.equal tx (a.eval x)<|a.eval y).run P w=.ok b w ∧
   (binOp .eql tx (a.eval x) (a.eval y)=(do pure (.bool (←Op.equal tx (a.eval x) (a.eval y))))∧binOp .neq tx (a.eval x) (a.eval y)=(do pure (.bool (!(←Op.equal tx (a.eval x) (a.eval y)))))):=by
 unfold fB at G;split at G
 ·rename_i t v U Y;have J:=r.ev U;have O:=r.ev Y;simp only[Qf,Zj] at J O;obtain⟨z,J,_⟩:=J;split at G
  ·rename_i ms Z;simp only[ZA] at G;subst G;rw[J,O];refine⟨by simp[eqGuard],EI fun D=>by simp[Op.equalIn,run_underlying Z],rfl,rfl⟩
  ·cases G
 ·rename_i t v U Y;have J:=r.ev U;have O:=r.ev Y;simp only[Qf,Zj] at J O;obtain⟨z,O,_⟩:=O;split at G
  ·rename_i ms Z;simp only[ZA] at G;subst G;rw[J,O];refine⟨by simp[eqGuard],EI fun D=>by simp[Op.equalIn,run_underlying Z],rfl,rfl⟩
  ·cases G
 ·rename_i U Y;have J:=r.ev U;have O:=r.ev Y;simp only[Qf,Zj] at J O;split at G
  ·rename_i ms Z;split at G
   ·rename_i hc;simp only[ZA] at G;subst G;rw[J,O];refine⟨?_,EI fun D=>by simp[Op.equalIn,run_underlying Z],rfl,rfl⟩;cases x<;>cases y<;>simp[isConst] at hc<;>cases op<;>rfl
   ·cases G
  ·cases G
 ·rename_i p q U Y;have J:=r.ev U;have O:=r.ev Y;simp only[Qf,Zj] at J O;split at G
  ·rename_i Z;simp only[ZA] at G;subst G;rw[J,O];refine⟨by simp[eqGuard],EI fun D=>by simp[Op.equalIn,run_underlying Z],rfl,rfl⟩
  ·cases G
 ·rename_i xs ys U Y;have J:=r.ev U;have O:=r.ev Y;simp only[Qf] at J O;obtain⟨lx,J,h3⟩:=J;obtain⟨ly,O,h4⟩:=O;split at G
  ·cases G
  ·rename_i hg;have ab:P.eqGuardType P.depth tx=false:=by grind
   split at G
   ·rename_i vx vy ac aa;have e1:=Nu.2 _ _ _ h3 ac;have e2:=Nu.2 _ _ _ h4 aa;subst e1 e2;rw[J,O];exact⟨run_eqGuard_agg w op tx x y _ _ ab,Nz fun D hD=>(xn 4).1 _ _ _ _ G D hD,rfl,rfl⟩
   ·cases G
 ·cases G
theorem Qk1(r:Zy φ M0 N D T h a w){u:Kv}(J:o.op=.binOp op tx x y ty)(G:aEq P T op tx x y=some u):u.2.1=none∧Yield P o φ M0 h a w u.1 h:=by
 unfold aEq at G;split at G
 ·split at G
  ·rename_i b hb;simp only[ZA] at G;subst G;obtain⟨g1,g2,g3,_⟩:=lq r hb;refine⟨rfl,Qu r (v:=.bool b) ?_<|by rfl⟩
   simp_all [execOp]
  ·cases G
 ·split at G
  ·rename_i b hb;simp only[ZA] at G;subst G;obtain⟨g1,g2,_,g3⟩:=lq r hb;refine⟨rfl,Qu r (v:=.bool (!b)) ?_<|by rfl⟩
   simp_all [execOp]
  ·cases G
 ·cases G
end
section
variable {P:Program}{o:Oper}{φ:Nat→Nat}{M0:ZR}{N:Nat}{D:DB}{T T':Nat→Option AV}{h h':QY}{a:Act}{w:World}
def Xv(P:Program)(T:Nat→Option AV)(h:QY)(t:TypeId)(x ix:Operand):Option Kv :=
 match P.underlying t,Zn T x,Zn T ix with
|some (.slice e),some (.vtl S tk n k0 m),some (.p (.val (.int _ k))) =>
  match h tk,P.info? e with
 |some (.vec _ _ es),some i=>if n=es.length∧S=i.size∧0≤k∧k.toNat<m then some (.vptr tk n (k0+k.toNat) 0,none,[tk]) else none
 |_,_=>none
|_,_,_=>none
theorem vE(r:Zy φ M0 N D T h a w){t:TypeId}{u:Kv}(ho:o.op=.indexAddr t x ix)(G:Xv P T h t x ix=some u):u.2.1=none∧Yield P o φ M0 h a w u.1 h:=by
 unfold Xv at G;split at G;rotate_left
 ·cases G
 rename_i e S tk n k0 m kk k ht hx Y;split at G;rotate_left
 ·cases G
 rename_i ty S' es i hb hi;split at G;rotate_left
 ·cases G
 rename_i hc;simp only[ZA] at G;subst G;have h2:=r.ev hx;have J:=r.ev Y;simp only[Qf,Zj] at h2 J;obtain⟨_,WI,ad,O,ac,U⟩:=h2;rw[hb] at O;cases O;obtain⟨ae,cap,c,U,_,_,ab,_⟩:=U hc.1;have aa:¬cap=k0:=by omega
 rw[if_neg aa] at U;refine⟨rfl,Qu r (v:=.pointer<|some ⟨φ tk,k0*S+k.toNat*i.size,none⟩) ?_ ?_⟩
 ·have Z:0≤k∧k<(m:Int):=⟨hc.2.2.1,by omega⟩;simp[execOp,ho,Instr.indexAt,J,asIntOf,run_underlying ht,U,Z,Ze hi,Addr.add_lit]
 ·simp only[Qf];exact⟨rfl,ty,S,es,hb,by omega,fun _=>by grind⟩
theorem Ib{t:TypeId}{u:Kv}(G:Xv P T h t x ix=some u)(J:Zn T' x=Zn T x)(hi:Zn T' ix=Zn T ix)(hh:∀b∈u.2.2,h' b=h b):Xv P T' h' t x ix=some u:=by
 unfold Xv at G ⊢;rw[J,hi];split at G
 ·grind
 ·cases G
def fC(P:Program)(T:Nat→Option AV)(h:QY)(t:TypeId)(x:Operand):Option Kv :=
 match P.underlying t,Zn T x with
|some (.slice _),some (.vtl _ tk n _ m)=>match h tk with|some (.vec _ _ es)=>if n=es.length then some (.p<|.val<|.int .i64 m,none,[tk]) else none|_=>none
|_,_=>none
theorem Qfd(r:Zy φ M0 N D T h a w){t:TypeId}{u:Kv}(Y:o.op=.call ⟨.builtin .len,#[x],#[t]⟩)(G:fC P T h t x=some u):u.2.1=none∧Yield P o φ M0 h a w u.1 h:=by
 unfold fC at G;split at G;rotate_left
 ·cases G
 rename_i e S tk n k0 m ht Z;split at G;rotate_left
 ·cases G
 rename_i ty S' es hb;split at G;rotate_left
 ·cases G
 rename_i hn;simp only[ZA] at G;subst G;have U:=r.ev Z;simp only[Qf] at U;obtain⟨_,WI,aa,J,ab,O⟩:=U;rw[hb] at J;cases J;obtain⟨_,cap,c,O,_⟩:=O hn;refine⟨rfl,Qu r (v:=.int .i64 m) ?_<|by rfl⟩;simp[execOp,Y,resolve,invoke,builtin,Builtin.len_,run_underlying ht,O,goInt]
theorem dL{t:TypeId}{u:Kv}(G:fC P T h t x=some u)(J:Zn T' x=Zn T x)(hh:∀b∈u.2.2,h' b=h b):fC P T' h' t x=some u:=by
 unfold fC at G ⊢
 grind
def Ce(P:Program)(T:Nat→Option AV)(h:QY)(t:TypeId)(x:Operand)(lo hi G:Option Operand):Option Kv :=
 match P.underlying t,Zn T x,G with
|some (.slice e),some (.vsl S tk n),none =>
  match h tk,P.info? e,WO T 0 lo,WO T n hi with
 |some (.vec _ _ es),some i,some l,some hh=>if n=es.length∧S=i.size∧l≤hh∧hh≤n then some (.vtl S tk n l<|hh-l,none,[tk]) else none
 |_,_,_,_=>none
|_,_,_=>none
theorem iX(r:Zy φ M0 N D T h a w){t:TypeId}{mx:Option Operand}{u:Kv}(ho:o.op=.slice t x lo hi mx)(G:Ce P T h t x lo hi mx=some u):u.2.1=none∧Yield P o φ M0 h a w u.1 h:=by
 unfold Ce at G;split at G;rotate_left
 ·cases G
 rename_i e S tk n ht hx;split at G;rotate_left
 ·cases G
 rename_i ty S' es i l hh hb ab hl U;split at G;rotate_left
 ·cases G
 rename_i hc;obtain⟨hn,hS,ae,ah⟩:=hc;simp only[ZA] at G;subst G;have h2:=r.ev hx;simp only[Qf] at h2;obtain⟨_,WI,af,J,ac,hv⟩:=h2;rw[hb] at J;cases J;obtain⟨cap,c,hv,hw,aa,Y,Z⟩:=hv hn
 have O:∀code,(match lo.map a.eval with|some x=>Instr.sliceBound x hh code|none=>pure 0).run P w=.ok l w:=by
  intro code;cases lo with
 |none=>simp_all [WO]
 |some y=>grind [GK,run_sliceBound]
 refine⟨rfl,Qu r (v:=.slice (if cap=l then some ⟨φ tk,0,none⟩ else some ⟨φ tk,l*S,none⟩) (hh-l)<|cap-l) ?_ ?_⟩
 ·have J:(Instr.sliceBounds true n cap (lo.map a.eval) (hi.map a.eval) none).run P w=.ok (l,hh,cap) w:=by
   cases hi with
  |none =>
    simp only[WO,ZA] at U;subst U;have:=O .sliceB;cases lo with
   |none=>simp_all [Instr.sliceBounds]
   |some y=>simp_all [Instr.sliceBounds]
  |some z =>
    obtain⟨k,hk⟩:=GK r U;have ad:=run_sliceBound (P:=P) (w:=w) (code:=.sliceAcap) hk (show hh≤cap by omega);have:=O .sliceB;cases lo with
   |none=>simp_all [Instr.sliceBounds]
   |some y=>simp_all [Instr.sliceBounds]
  simp[execOp,ho,Instr.sliceAt,Instr.slice,run_underlying ht,hv,J,Ze ab,Addr.add_lit,hS]
 ·simp only[Qf];refine⟨by rfl,ty,es,hb,by omega,fun _=>⟨by omega,cap,c,rfl,hw,aa,Y,Z⟩⟩
theorem xq{t:TypeId}{J:Option Operand}{u:Kv}(G:Ce P T h t x lo hi J=some u)(O:Zn T' x=Zn T x)(Y:∀d,WO T' d lo=WO T d lo)(U:∀d,WO T' d hi=WO T d hi)(hh:∀b∈u.2.2,h' b=h b):Ce P T' h' t x lo hi J=some u:=by
 unfold Ce at G ⊢;rw[O];split at G
 ·grind
 ·cases G
def BO(P:Program)(T:Nat→Option AV)(h:QY)(t:TypeId)(x:Operand):Option Kv :=
 match P.underlying t,Zn T x with
|some (.slice e),some (.vtl S tk n k m) =>
  match h tk,P.info? e with
 |some (.vec tb G es),some i =>
   match i.zero with
  |some (.int kk z)=>if n=es.length∧S=1∧i.size=1∧k+m≤n then some (.tup [],some (tk,.vec tb G<|es.take k++List.replicate m [PV.val<|.int kk z]++es.drop (k+m)),[tk]) else none
  |_=>none
 |_,_=>none
|_,_=>none
theorem xu{t:TypeId}{u:Kv}(G:BO P T h t x=some u)(J:Zn T' x=Zn T x)(hh:∀b∈u.2.2,h' b=h b):BO P T' h' t x=some u:=by
 unfold BO at G ⊢;rw[J];split at G
 ·grind
 ·cases G
theorem iY{es:List (List PV)}(hS:∀e∈es,e.length=1):es.flatten.length=es.length:=by
 have:=ZH hS;omega
theorem ze:∀{es:List (List PV)} (hS:∀e∈es,e.length=1) (k:Nat),(es.take k).flatten=es.flatten.take k
|[],_,k=>by simp
|e::es,hS,0=>by simp
|e::es,hS,k+1=>by
  obtain⟨x,rfl⟩:=List.length_eq_one_iff.1<|hS e zq;simp[ze (es:=es) (fun e G=>hS e<|by simp[G]) k]
theorem zf:∀{es:List (List PV)} (hS:∀e∈es,e.length=1) (k:Nat),(es.drop k).flatten=es.flatten.drop k
|[],_,k=>by simp
|e::es,hS,0=>by simp
|e::es,hS,k+1=>by
  obtain⟨x,rfl⟩:=List.length_eq_one_iff.1<|hS e zq;simp[zf (es:=es) (fun e G=>hS e<|by simp[G]) k]
theorem dM(x:PV):∀m:Nat,(List.replicate m [x]).flatten=List.replicate m x
|0=>rfl
|m+1=>by simp
theorem zg{M:ZR}{x:AV}{v:Value}(G:Qf φ h w M x v):∀m:Nat,Ql φ h w M (List.replicate m x) (List.replicate m v)
|0=>by rfl
|m+1=>by simp only[List.replicate_succ,Ql];exact⟨v,_,rfl,G,zg G m⟩
theorem iZ(r:Zy φ M0 N D T h a w){t:TypeId}{u:Kv}(ho:o.op=.call ⟨.builtin .clear,#[x],#[t]⟩)(G:BO P T h t x=some u):Yield P o φ M0 h a w u.1 (ap h u.2.1):=by
 unfold BO at G;split at G;rotate_left
 ·cases G
 rename_i e S tk n k m ht hx;split at G;rotate_left
 ·cases G
 rename_i tb S' es i hb hi;split at G;rotate_left
 ·cases G
 rename_i kk z hz;split at G;rotate_left
 ·cases G
 rename_i hc;obtain⟨hn,aj,aw,a6⟩:=hc;simp only[ZA] at G;subst G;have h2:=r.ev hx;simp only[Qf] at h2;obtain⟨_,WI,az,ad,a7,O⟩:=h2;rw[hb] at ad;cases ad;subst aj;obtain⟨_,cap,c0,O,_,_,ak,_⟩:=O hn;simp only[ap];obtain⟨c,aa,hw,ae,ax,Z,hS,ay,J⟩:=r.hp.blk tk _ hb;simp only[Nat.mul_one] at ae J;cases hm:m with
|zero =>
  have e1:es.take k++List.replicate 0 [PV.val<|.int kk z]++es.drop (k+0)=es:=by simp
  have e2:upd h tk (.vec tb 1<|es.take k++List.replicate 0 [PV.val<|.int kk z]++es.drop (k+0))=h:=by
   rw[e1];funext b;by_cases e:tk=b
   ·grind [upd]
   ·simp[upd,e]
  rw[e2];refine Qu r (v:=.tuple #[]) ?_ (by simp[Qf,Ql]);subst hm;by_cases hq:cap=k
  ·rw[if_pos hq] at O;simp[execOp,ho,resolve,invoke,builtin,Builtin.clear_,run_underlying ht,O]
  ·rw[if_neg hq] at O;simp[execOp,ho,resolve,invoke,builtin,Builtin.clear_,run_underlying ht,O]
|succ m' =>
  rw[←hm];have al:¬cap=k:=by omega
  rw[if_neg al,Nat.mul_one] at O
  let vals:List Value:=List.replicate m<|.int kk z
  have U:vals.length=m:=by simp[vals]
  have h5:∀v∈vals,v.oneCell'=true:=fun v ah=>by rw[List.eq_of_mem_replicate ah];rfl
  have ab:=run_storeCells_at P (φ tk) k tb vals 0 c w hw zo h5;simp only[Nat.add_zero,U] at ab
  let es':=es.take k++List.replicate m [PV.val<|.int kk z]++es.drop (k+m)
  have au:es'.length=es.length:=by grind
  have ai:∀e∈es',e.length=1:=fun e G=>by
   grind
  let C:Array Value:=(c.toList.take k++vals++c.toList.drop (k+m)).toArray
  have am:C.size=c.size:=by simp[C,vals];omega
  have ar:es'.flatten=es.flatten.take k++List.replicate m (PV.val<|.int kk z)++es.flatten.drop (k+m):=by
   grind [List.replicate,dM,List.flatten_append,ze,zf]
  have av:=iY hS
  have an:C.toList.take es'.length=(c.toList.take es.length).take k++vals++(c.toList.take es.length).drop (k+m):=by
   rw[au];simp only[C];rw[List.take_append,List.take_append];simp only[C9,List.length_take,U,Array.length_toList];have q1:min k c.size=k:=by omega
   rw[q1];congr 1
   ·congr 1
    ·grind
    ·rw[List.take_of_length_le zo]
   ·rw[List.drop_take]
  have ac:Ql φ h w (MM φ h M0) (es'.flatten.map .p) (C.toList.take<|es'.length*1):=by
   rw[Nat.mul_one,an,ar];simp only[List.map_append,List.map_take,List.map_drop,List.map_replicate];exact ZZ (ZZ (UW _ J)<|zg (by rfl) m)<|UX _ J
  obtain⟨E,X⟩:=BL (φ:=φ) (h:=h) (w:=w) (M0:=M0) (es':=es') (c':=C) hb hw zo am r.hp;have Y:(w.setRow (φ tk) C).heap[φ tk]?=some (.cells C tb (0,0)):=setRow_heap w _ c C tb _ hw
  have hH:=EG (c':=C) (cap:=aa) hb r.hp E X (fun _ _=>rfl) (.inl rfl) (fun d hd ao=>setRow_other w _ _ C fun e=>ao<|r.hp.inj d tk hd zc e) Y zo zo Z ai
   (fun v O=>by
    grind) ac
  refine⟨.value<|.tuple #[],.tuple #[],_,φ,?_,.inl rfl,by simp[Qf,Ql],hH,E,X⟩
  have af:(Builtin.zeroCells (Value.cells<|.int kk z) m).toList=vals:=by
   show(Builtin.zeroCells #[.int kk z] m).toList=vals;simp only[vals,Builtin.zeroCells];apply List.ext_getElem
   ·simp
   simp[Nat.mod_one]
  have aq:(zeroValue e).run P w=.ok (.int kk z) w:=by simp[zeroValue,typeInfo,hi,hz]
  subst hm;simp[execOp,ho,resolve,invoke,builtin,Builtin.clear_,run_underlying ht,O,aq,af,ab,C]
end
def Uj(P:Program)(t:TypeId)(v:Value):Bool:=match P.underlying t,v with
|some .bool,.bool _=>true
|some (.int _),.int _ _=>true
|some .string,.string _=>true
|_,_=>false
def WR(P:Program):Nat→List Field→List Value→Bool
|_,[],[]=>true
|i,f::G,v::J=>decide (f.offset=i)&&(f.name != "_")&&Uj P f.type v&&WR P (i+1) G J
|_,_,_=>false
def BP(P:Program)(t:TypeId)(v:Value):Bool:=Uj P t v||match P.underlying t,v with
|some (.struct fields),.agg cs=>WR P 0 fields.toList cs.toList
|_,_=>false
section
variable {P:Program}{w:World}
theorem EJ{t:TypeId}(h:Uj P t v=true)(e:Bool)(n:Nat):(Instr.checkKey e (n+1) t v).run P w=.ok () w:=by
 unfold Uj at h;unfold Instr.checkKey;cases hd:P.underlying t with
|none=>grind
|some d =>
  simp only[Sem.run_bind,run_underlying hd,Result.andThen];rw[hd] at h;cases d<;>cases v<;>simp_all
theorem Cf{t:TypeId}(h:Uj P t v=true){k:TypeDesc}(G:P.underlying t=some k):F5 k=false:=by
 unfold Uj at h;rw[G] at h;cases k<;>first|rfl|(cases v<;>simp at h)
theorem Rl{t:TypeId}(h:BP P t v=true):Uj P t v=true∨∃fields cs,P.underlying t=some (.struct fields)∧v=.agg cs∧WR P 0 fields.toList cs.toList=true:=by
 unfold BP at h
 grind
theorem fD{t:TypeId}(h:Uj P t v=true){l:List Value}(hi:l[i]?=some v):(part t l.toArray i).run P w=.ok v w:=by
 cases hd:P.underlying t with
|none=>simp[Uj,hd] at h
|some d=>simp[part,GI hd,Cf h hd,hi]
theorem Ph:∀(J:List Field) (G:List Value) (i:Nat) (l:List Value) (e:Bool) (n:Nat),WR P i J G=true→l.drop i=G →
  (forIn J PUnit.unit fun f _=>(do
   if f.name≠"_" then Instr.checkKey e (n+1) f.type (←part f.type l.toArray f.offset)
   pure (ForInStep.yield PUnit.unit):Sem (ForInStep PUnit))).run P w=.ok PUnit.unit w
|[],G,i,l,e,n,_,_=>by simp
|f::J,[],i,l,e,n,h,_=>by simp[WR] at h
|f::J,v::G,i,l,e,n,h,Y=>by
  simp only[WR,Ku,Pd,bne_iff_ne] at h;obtain⟨⟨⟨Z,h2⟩,U⟩,h4⟩:=h
  have hi:l[i]?=some v:=by
   have:=congrArg (·[0]?) Y
   grind
  have O:l.drop (i+1)=G:=by
   rw[←List.drop_drop,Y];rfl
  simp only[List.forIn_cons,Sem.run_bind,h2,ne_eq,not_false_eq_true,if_true,Z,fD U hi,Result.andThen_ok,EJ U,Sem.run_pure];exact Ph J G (i+1) l e n h4 O
theorem Rm{t:TypeId}(h:BP P t v=true)(e:Bool):(Instr.checkKey e 10000 t v).run P w=.ok () w:=by
 rcases Rl h with hp|⟨fields,cs,G,rfl,hp⟩
 ·grind [EJ]
 ·rw[show(10000:Nat)=9999+1 from rfl,Instr.checkKey];simp only[Sem.run_bind,run_underlying G,Result.andThen_ok];rw[←Array.forIn_toList];have:=Ph (w:=w) fields.toList cs.toList 0 cs.toList e 9998 hp zq
  simp_all
theorem wH{t:TypeId}{a b:Value}(G:Uj P t a=true)(hb:Uj P t b=true)(h:eqV P (d+1) t a b=some true):a=b:=by
 unfold Uj at G hb;unfold eqV at h;cases hd:P.underlying t with
|none=>grind
|some k =>
  rw[hd] at G hb h;cases k<;>cases a<;>simp only[Bool.false_eq_true] at G<;>cases b<;>simp only[Bool.false_eq_true] at hb<;>simp only at h
  ·grind
  ·grind [Qp]
  ·simp only[ZA,Q0] at h;have J:=eq_of_beq h;have:=congrArg Xr J
   grind [lm]
theorem zh{d:Nat}:∀(Y:List Field) (xs ys:List Value) (i:Nat) (O J:List Value),WR P i Y xs=true→WR P i Y ys=true→O.drop i=xs→J.drop i=ys→eqV.eqFs P (d+1) O J Y=some true→xs=ys
|[],[],[],_,_,_,_,_,_,_,_=>rfl
|[],x::xs,ys,i,O,J,Z,_,_,_,_=>by simp[WR] at Z
|[],[],y::ys,i,O,J,_,hy,_,_,_=>by simp[WR] at hy
|f::Y,[],ys,i,O,J,Z,_,_,_,_=>by simp[WR] at Z
|f::Y,x::xs,[],i,O,J,_,hy,_,_,_=>by simp[WR] at hy
|f::Y,x::xs,y::ys,i,O,J,Z,hy,ac,ab,h=>by
  simp only[WR,Ku,Pd,bne_iff_ne] at Z hy;obtain⟨⟨⟨h1,h2⟩,h3⟩,h4⟩:=Z;obtain⟨⟨⟨_,_⟩,aa⟩,af⟩:=hy
  have ah:O[i]?=some x:=by
   have:=congrArg (·[0]?) ac
   grind
  have ae:J[i]?=some y:=by
   have:=congrArg (·[0]?) ab
   grind
  have G:∀(l:List Value) (v:Value),Uj P f.type v=true→l[i]?=some v→∀q,FC P f.type l i=some q→q=v:=by
   intro l v hv hl q U;unfold FC at U;cases hd:P.underlying f.type with
  |none=>grind
  |some k =>
    have ad:=Cf hv hd;rw[hd] at U;split at U
    ·rename_i dd ii e1 e2;cases e1;rw[ad] at U;simp only[Bool.false_eq_true,if_false] at U;rw[hl] at U;exact(Option.some.inj U).symm
    ·cases U
  simp only[eqV.eqFs,h2,if_false] at h;rw[h1] at h;split at h
  ·rename_i a b e1 e2;obtain rfl:=G O x h3 ah a e1;obtain rfl:=G J y aa ae b e2;split at h
   ·rename_i p q e3 e4;simp only[ZA,Ku] at h;rw[h.1] at e3;rw[h.2] at e4;rw[wH h3 aa e3,zh Y xs ys (i+1) O J h4 af (by rw[←List.drop_drop,ac];rfl) (by rw[←List.drop_drop,ab];rfl) e4]
   ·cases h
  ·cases h
theorem Qfe{t:TypeId}{a b:Value}(Z:BP P t a=true)(hb:BP P t b=true)(h:eqV P 4 t a b=some true):a=b:=by
 rcases Rl Z with Y|⟨fields,xs,U,rfl,Y⟩
 ·rcases Rl hb with G|⟨fields,ys,U,rfl,G⟩
  ·exact wH Y G h
  ·have:=Cf Y U;cases this
 ·rcases Rl hb with G|⟨J,ys,O,rfl,G⟩
  ·have:=Cf G U;cases this
  ·rw[U] at O;cases O;unfold eqV at h;rw[U] at h;simp only at h;split at h
   ·cases h
   ·have:=zh fields.toList xs.toList ys.toList 0 xs.toList ys.toList Y G zq zq h
    simp_all
theorem BQ{t:TypeId}(h:Uj P t v=true)(n:Nat):Instr.sameBits n v v=true:=by
 unfold Uj at h;split at h
 ·simp[Instr.sameBits]
 ·simp[Instr.sameBits]
 ·rename_i s _;obtain⟨x⟩:=s;cases n<;>(show(x==x)=true;simp)
 ·cases h
theorem Oo(n:Nat):∀(J:List Field) (G:List Value) (i:Nat),WR P i J G=true→(G.zip G).all (fun(x,y)=>Instr.sameBits n x y)=true
|[],[],_,_=>rfl
|[],v::G,i,h=>by simp[WR] at h
|f::J,[],i,h=>by rfl
|f::J,v::G,i,h=>by
  simp only[WR,Ku] at h;simp only[List.zip_cons_cons,List.all_cons,Ku];exact⟨BQ h.1.2 n,Oo n J G (i+1) h.2⟩
theorem Qaa{t:TypeId}(h:BP P t v=true):Instr.sameBits 10000 v v=true:=by
 rcases Rl h with hp|⟨fields,cs,G,rfl,hp⟩
 ·exact BQ hp _
 ·rw[show(10000:Nat)=9999+1 from rfl,Instr.sameBits];simp only[beq_self_eq_true,Bool.true_and];exact Oo 9999 _ _ 0 hp
end
def Gy(P:Program)(kt:TypeId)(k:Value):Nat→List (Value×PV)→Option (Option (Nat×PV))
|_,[]=>some none
|i,(k',v)::r=>match (if BP P kt k' then eqV P 4 kt k k' else none) with
 |some true=>some<|some (i,v)
 |some false=>Gy P kt k (i+1) r
 |none=>none
section
variable {P:Program}{w:World}
theorem Oq{t:TypeId}{d:TypeDesc}(Z:P.underlying t=some d){a b:Value}{x y:Bool}(J:Instr.sameNow d a b=some x)(G:eqV P 4 t a b=some y):x=y:=by
 unfold eqV at G;rw[Z] at G;unfold Instr.sameNow at J;split at J
 ·simp only at G;rename_i k k1 n1 k2 n2;split at J
  ·rename_i e;rw[if_pos e] at G;rw[←Option.some.inj J,←Option.some.inj G];rfl
  ·cases J
 ·simp only at G;rename_i s1 Y;rw[←Option.some.inj J,←Option.some.inj G];obtain⟨U⟩:=s1;obtain⟨O⟩:=Y;show(U==O)=Q0 (Hm ⟨U⟩) (Hm ⟨O⟩);simp[Q0,Hm]
 ·grind
 ·cases J
def EK(es:List (Value×PV))(en:List MapEntry)(i:Nat)(r:Option (Nat×PV))(q:Option (Nat×Value)):Prop :=
 match r with
|none=>q=none
|some (j,x)=>∃m e,j=i+m∧q=some (i+m,e.val)∧en[m]?=some e∧es[m]?=some (e.key,x)
theorem zi{kt:TypeId}{k:Value}:∀(es:List (Value×PV)) (en:List MapEntry) (i:Nat) (r:Option (Nat×PV)),en.map (·.key)=es.map (·.1)→Gy P kt k i es=some r→∃q,(Instr.findAsking kt k en i).run P w=.ok q w∧EK es en i r q
|[],en,i,r,J,h=>by
  simp only[Gy,ZA] at h;subst h;have:en=[]:=by simpa using J
  subst this;exact⟨none,by rfl,rfl⟩
|(k',v)::es,[],i,r,J,h=>by simp at J
|(k',v)::es,e::en,i,r,J,h=>by
  simp only[JR,List.cons.injEq] at J;obtain⟨U,Y⟩:=J;simp only[Gy] at h;split at h
  ·rename_i G;simp only[ZA] at h;subst h;split at G
   ·have O:(Op.equal kt k k').run P w=.ok true w:=Nz fun D Z=>(xn 4).1 _ _ _ _ G D Z
    exact⟨some (i,e.val),by simp_all [Instr.findAsking],0,e,by simp,by simp,by simp,by simp[U]⟩
   ·cases G
  ·rename_i G;split at G
   ·have O:(Op.equal kt k k').run P w=.ok false w:=Nz fun D Z=>(xn 4).1 _ _ _ _ G D Z
    obtain⟨q,h1,h2⟩:=zi es en (i+1) r Y h;refine⟨q,by simp_all [Instr.findAsking],?_⟩;unfold EK at h2 ⊢;split
    ·exact h2
    ·rename_i j x;obtain⟨m,e',g1,g2,g3,g4⟩:=h2;exact⟨m+1,e',by omega,zc,zc,zc⟩
   ·cases G
  ·cases h
theorem zk{kt:TypeId}{d:TypeDesc}{k:Value}(Y:P.underlying kt=some d):∀(es:List (Value×PV)) (en:List MapEntry) (i:Nat) (r:Option (Nat×PV)) (q:Option (Nat×Value)),en.map (·.key)=es.map (·.1)→Gy P kt k i es=some r→Instr.findNow d k en i=some q→EK es en i r q
|[],en,i,r,q,O,h,G=>by
  simp only[Gy,ZA] at h;subst h;have:en=[]:=by simpa using O
  subst this;simp only[Instr.findNow,ZA] at G;exact G.symm
|(k',v)::es,[],i,r,q,O,h,G=>by simp at O
|(k',v)::es,e::en,i,r,q,O,h,G=>by
  simp only[JR,List.cons.injEq] at O;obtain⟨U,Z⟩:=O;simp only[Gy] at h;simp only[Instr.findNow,U] at G;cases hs:Instr.sameNow d k k' with
 |none=>grind
 |some b =>
   rw[hs] at G;split at h
   ·rename_i J;simp only[ZA] at h;subst h;split at J
    ·obtain rfl:=Oq Y hs J;simp only[ZA] at G;exact⟨0,e,by simp,zc,by simp,by simp[U]⟩
    ·cases J
   ·rename_i J;split at J
    ·obtain rfl:=Oq Y hs J;simp only at G;have h2:=zk Y es en (i+1) r q Z h G;unfold EK at h2 ⊢;split
     ·exact h2
     ·rename_i j x;obtain⟨m,e',g1,g2,g3,g4⟩:=h2;exact⟨m+1,e',by omega,zc,zc,zc⟩
    ·cases J
   ·cases h
theorem U1{k:Value}{d:TypeDesc}(G:P.underlying kt=some d){es:List (Value×PV)}{en:List MapEntry}{r:Option (Nat×PV)}(J:en.map (·.key)=es.map (·.1))(h:Gy P kt k 0 es=some r) :
  ∃q,(Instr.findKey kt k en).run P w=.ok q w∧EK es en 0 r q:=by
 cases hn:Instr.findNow d k en 0 with
|some q=>exact⟨q,by simp[Instr.findKey,run_underlying G,Result.andThen,hn],zk G es en 0 r q J h hn⟩
|none =>
  simp_all [Instr.findKey,Result.andThen,zi,run_underlying]
theorem wI{kt:TypeId}{k:Value}:∀(es:List (Value×PV)) (i j:Nat) (x:PV),Gy P kt k i es=some (some (j,x))→BP P kt k=true→∃m,j=i+m∧es[m]?=some (k,x)
|[],i,j,x,h,_=>by simp[Gy] at h
|(k',v)::es,i,j,x,h,G=>by
  simp only[Gy] at h;split at h
  ·rename_i O;simp only[ZA,LK] at h;obtain⟨rfl,rfl⟩:=h
   grind [Qfe]
  ·obtain⟨m,J,U⟩:=wI es (i+1) j x h G;exact⟨m+1,by omega,zc⟩
  ·cases h
end
def BR(h:QY)(dst:Option Tmp)(rsv:Option Operand):Option Kv:=match dst,rsv with
|some d,none=>if h d=none then some (.mv d,some (d,.mp []),[d]) else none
|_,_=>none
def BU(ok:Bool)(v:AV)(b:Bool):AV:=if ok then .tup [v,.p<|.val<|.bool b] else v
def avP:PV→AV|.val v=>y7 v|.sl S es=>.p<|.sl S es
def pvO:AV→Option PV|.p x=>some x|.agg cs=>(BD cs).map fun l=>.val (.agg l.toArray)|_=>none
theorem Qff{x:PV}(G:Qf φ h w M (.p x) v):Qf φ h w M (avP x) v:=by
 cases x with
|val u=>simp only[Qf,Zj] at G;rw[G];exact Jy u
|sl S es=>exact G
theorem Qfg{y:AV}{x:PV}(G:pvO y=some x)(J:Qf φ h w M y v):Qf φ h w M (.p x) v:=by
 cases y with
|p z=>grind [pvO]
|agg cs =>
  simp only[pvO,F3] at G;obtain⟨m,O,rfl⟩:=G;simp only[Qf] at J;obtain⟨l,rfl,U⟩:=J;simp only[Qf,Zj];rw[Nu.2 cs l m U O]
|_=>cases G
def UJ(P:Program)(T:Nat→Option AV)(h:QY)(t:TypeId)(x ix:Operand)(ok:Bool):Option Kv :=
 match P.underlying t,Zn T x,Zn T ix with
|some (.map kt e),some (.mv b),some kv =>
  match h b,AR kv,P.underlying kt with
 |some (.mp es),some k,some _ =>
   if BP P kt k then
    match Gy P kt k 0 es with
   |some (some (_,v))=>some (BU ok (avP v) true,none,[b])
   |some none=>match (P.info? e).bind (·.zero) with|some z=>some (BU ok (y7 z) false,none,[b])|none=>none
   |none=>none
   else none
 |_,_,_=>none
|_,_,_=>none
def VO(P:Program)(T:Nat→Option AV)(h:QY)(t:TypeId)(x ix y:Operand):Option Kv :=
 match P.underlying t,Zn T x,Zn T ix,Zn T y with
|some (.map kt e),some (.mv b),some kv,some y =>
  match h b,AR kv,P.underlying kt,pvO y with
 |some (.mp es),some k,some _,some v =>
   if BP P kt k then
    match Gy P kt k 0 es with
   |some (some (i,_))=>some (.p<|.val undef,some (b,.mp<|es.set i (k,v)),[b])
   |some none=>some (.p<|.val undef,some (b,.mp<|es++[(k,v)]),[b])
   |none=>none
   else none
 |_,_,_,_=>none
|_,_,_,_=>none
section
variable {P:Program}{o:Oper}{φ:Nat→Nat}{M0:ZR}{N:Nat}{D:DB}{T:Nat→Option AV}{h:QY}{a:Act}{w:World}
theorem dN(r:Zy φ M0 N D T h a w){t:TypeId}{rsv:Option Operand}{u:Kv}(Y:o.op=.makeMap t rsv)(G:BR h o.dst rsv=some u):Yield P o φ M0 h a w u.1 (ap h u.2.1):=by
 unfold BR at G;split at G
 ·rename_i d hd;split at G
  ·rename_i O;simp only[ZA] at G;subst G;refine Yield.of_lift r 1 fun φ r E0 Z U=>?_
   obtain⟨E,X⟩:=Uo (w':=w.alloc<|.map #[] 0) (o:=.map #[] 0) (b:=d) (k:=.mp []) (M0:=M0) rfl rfl rfl rfl O r.hp U
   have J:RelB (QL φ d w.heap.size) (upd h d<|.mp []) (w.alloc<|.map #[] 0) (MM (QL φ d w.heap.size) (upd h d<|.mp []) M0) w.heap.size (.mp []):=by
    refine⟨#[],0,by show(w.heap.push _)[w.heap.size]?=_;simp,rfl,rfl⟩
   refine⟨_,.map<|some w.heap.size,_,QL φ d w.heap.size,?_,.inl rfl,?_,Ur rfl O r.hp U E X J,E,X⟩
   ·simp[execOp,Y,Instr.makeMap,newObj,Sem.run]
   ·simp only[Qf,ap];exact⟨by simp[QL],.mp [],by simp[upd],rfl⟩
  ·cases G
 ·cases G
theorem BV{M:ZR}:∀{xs:List AV} {G:List Value} {i:Nat} {x:AV} {v:Value},Ql φ h w M xs G→xs[i]?=some x→G[i]?=some v→Qf φ h w M x v
|[],G,i,x,v,_,J,_=>by simp at J
|y::xs,G,i,x,v,O,J,Z=>by
  simp only[Ql] at O;obtain⟨z,zs,rfl,Y,U⟩:=O;cases i with
 |zero =>
   grind
 |succ i=>exact BV U (by simpa using J) zc
theorem Qab(r:Zy φ M0 N D T h a w){t:TypeId}{u:Kv}(ho:o.op=.lookup t x ix ok)(G:UJ P T h t x ix ok=some u):u.2.1=none∧Yield P o φ M0 h a w u.1 h:=by
 unfold UJ at G;split at G;rotate_left
 ·cases G
 rename_i kt e b kv ht hx ae;split at G;rotate_left
 ·cases G
 rename_i es k kd hb hk ac;split at G;rotate_left
 ·cases G
 rename_i ad;have ab:=r.ev hx;simp only[Qf] at ab;have O:=(Nu.1 _ _ _ (r.ev ae) hk);obtain⟨en,clock,hw,J,aa⟩:=r.hp.blk b _ hb;have Z:(getObj<|φ b).run P w=.ok (.map en clock) w:=by simp[getObj,Sem.run,hw]
 have U:=Rm (w:=w) ad en.isEmpty;split at G
 ·rename_i i v hf;simp only[ZA] at G;subst G;refine⟨rfl,?_⟩;obtain⟨q,Po,m,e',g1,g2,g3,g4⟩:=U1 (w:=w) ac J hf;have Y:Qf φ h w (MM φ h M0) (avP v) e'.val:=Qff <| BV aa (i:=m) (by simp[g4]) (by simp[g3]);subst g2;refine Qu r (v:=if ok then .tuple #[e'.val,.bool true] else e'.val) ?_ ?_
  ·simp[execOp,ho,Instr.lookup,run_underlying ht,ab.1,Z,O,U,Po,Result.andThen]
  ·unfold BU;cases ok
   ·exact Y
   ·simp only[if_true,Qf];exact⟨[e'.val,.bool true],by simp,_,_,rfl,Y,_,_,rfl,by rfl,rfl⟩
 ·rename_i hf;split at G
  ·rename_i z hz;simp only[ZA] at G;subst G;refine⟨rfl,?_⟩;obtain⟨inf,hi,hz⟩:=Es.1 hz;obtain⟨q,Po,Dw⟩:=U1 (w:=w) ac J hf;have Dw:q=none:=Dw;subst Dw;refine Qu r (v:=if ok then .tuple #[z,.bool false] else z) ?_ ?_
   ·simp[execOp,ho,Instr.lookup,run_underlying ht,ab.1,Z,O,U,Po,Result.andThen,zeroValue,typeInfo,program,Sem.run,hi,hz]
   ·unfold BU;cases ok
    ·exact Jy z
    ·simp only[if_true,Qf];exact⟨[z,.bool false],by simp,_,_,rfl,Jy z,_,_,rfl,by rfl,rfl⟩
  ·cases G
 ·cases G
theorem xw{es es':List (Value×PV)}{ob:Obj}(hb:h b=some (.mp es))(r:ZX φ h w M0) :
  Zi φ h w φ (upd h b<|.mp es') (w.putObj (φ b) ob)∧VF φ h w φ (upd h b<|.mp es') (w.putObj (φ b) ob):=by
 have hlt:=Ns r hb (fun _ _ e=>by cases e);have aa:∀x,x≠φ b→(w.putObj (φ b) ob).heap[x]?=w.heap[x]?:=fun x hx=>World.putObj_heap_other hx
 have J:∀c k,h c=some k→k.ob=none→¬b=c:=fun c k hc hk e=>by rw[←e,hb] at hc;cases hc;cases hk
 have ab:∀c k,h c=some k→¬b=c→φ c≠φ b:=fun c k hc e h2=>e (r.inj c b zc zc h2).symm
 have U:∀c ty cs,h c=some (.box ty cs)→upd h b (.mp es') c=some (.box ty cs):=fun c ty cs hc=>by simp[upd,J c _ hc rfl,hc]
 have Y:∀t ty S n,h t=some (.arr ty S n)→∃n',upd h b (.mp es') t=some (.arr ty S n')∧n≤n'∧(n'=n→AKept w (w.putObj (φ b) ob) (φ t) (φ t) ty):=by
  intro t ty S n ht;have e:=J t _ ht rfl;exact⟨n,by simp[upd,e,ht],KD _,fun _=>Ve (rfl)<|zc⟩
 have Z:∀t ty S es,h t=some (.vec ty S es)→∃G,upd h b (.mp es') t=some (.vec ty S G)∧es.length≤G.length∧(G.length=es.length→φ t=φ t∧∀c,w.heap[φ t]?=some (.cells c ty (0,0))→∃c',(w.putObj (φ b) ob).heap[φ t]?=some (.cells c' ty (0,0))∧c'.size=c.size):=by
  intro t ty S n ht;have e:=J t _ ht rfl;exact⟨n,by simp[upd,e,ht],KD _,fun _=>⟨rfl,fun c hc=>⟨c,zc,rfl⟩⟩⟩
 have O:∀c k x,h c=some k→k.ob=some x→(∃k',upd h b (.mp es') c=some k'∧k'.ob=some x)∧φ c=φ c:=by
  intro c k x hc ho;by_cases e:b=c
  ·subst e;rw[hb] at hc;cases hc;exact⟨⟨.mp es',by simp[upd],ho⟩,rfl⟩
  ·exact⟨⟨k,by simp[upd,e,hc],ho⟩,rfl⟩
 refine⟨⟨rfl,rfl,rfl,by simp,?_,?_,?_,fun c ty cs _ hc=>⟨⟨cs,U c ty cs hc⟩,rfl⟩,fun t ty S n _=>Y t ty S n,fun t ty S es _=>Z t ty S es,fun c k x _=>O c k x⟩,fun c ty cs hc=>⟨⟨ty,cs,U c ty cs hc⟩,rfl⟩,Y,Z,O⟩
 ·grind
 ·intro x y _ hm;have:x≠φ b:=fun e=>hm ⟨b,_,hb,e.symm,trivial⟩
  grind [World.cell?]
 ·rintro x y _ ⟨d,q,h1,h2,h3⟩;by_cases e:b=d
  ·exact⟨b,_,hb,zc,trivial⟩
  ·exact⟨d,q,by grind [upd],h2,h3⟩
theorem lu{es es':List (Value×PV)}{J:Array MapEntry}{G:Nat}(hb:h b=some (.mp es))(r:ZX φ h w M0)(hk:J.toList.map (·.key)=es'.map (·.1))(Z:Ql φ h w (MM φ h M0) (es'.map fun p=>.p p.2) (J.toList.map (·.val))) :
  ZX φ (upd h b<|.mp es') (w.putObj (φ b)<|.map J G) M0:=by
 obtain⟨E,X⟩:=xw (es':=es') (ob:=.map J G) hb r;have hlt:=Ns r hb (fun _ _ e=>by cases e)
 have g:∀d,upd h b (.mp es') d≠none→h d≠none:=fun d O=>by
  grind [upd]
 refine⟨fun c d hc O U=>r.inj c d (g c hc) (g d O) U,fun c k hc=>?_,fun c hc=>r.fr c<|g c hc,fun x o Y=>by simpa [World.putObj] using r.lt x o Y,r.gm.evol E⟩;by_cases e:b=c
 ·subst e;have:k=.mp es':=by grind [upd]
  subst this;exact⟨J,G,World.putObj_heap_same hlt,hk,(QV (E.keeps M0) X).2 _ _ Z⟩
 ·have hc':h c=some k:=by grind [upd]
  exact Ke (E.keeps M0) X (World.putObj_heap_other fun h2=>e (r.inj c b zc zc h2).symm)<|r.blk c k hc'
theorem wJ{M:ZR}:∀{xs:List AV} {G:List Value} {i:Nat} {x:AV} {v:Value},Ql φ h w M xs G→Qf φ h w M x v→Ql φ h w M (xs.set i x) (G.set i v)
|[],G,i,x,v,J,_=>by
  grind [Ql]
|y::xs,G,i,x,v,J,O=>by
  simp only[Ql] at J;obtain⟨z,Z,rfl,Y,U⟩:=J;cases i with
 |zero=>simp only[List.set_cons_zero,Ql];grind
 |succ i=>simp only[List.set_cons_succ,Ql];exact⟨_,_,rfl,Y,wJ U O⟩
theorem PP{M:ZR}:∀{xs:List AV} {J:List Value} {x:AV} {v:Value},Ql φ h w M xs J→Qf φ h w M x v→Ql φ h w M (xs++[x]) (J++[v])
|[],J,x,v,G,O=>by
  simp only[Ql] at G;subst G;exact⟨v,[],rfl,O,rfl⟩
|y::xs,J,x,v,G,O=>by
  simp only[Ql] at G;obtain⟨z,Z,rfl,Y,U⟩:=G;exact⟨z,Z++[v],rfl,Y,PP U O⟩
theorem zl{e:MapEntry}(k v:Value)(G:en.toList[i]?=some e):(en.modify i fun e=>{ e with key:=k,val:=v }).toList=en.toList.set i { e with key:=k,val:=v }:=by
 apply List.ext_getElem?
 grind
theorem xx(r:Zy φ M0 N D T h a w){t:TypeId}{u:Kv}(ho:o.op=.mapUpdate t x ix y)(J:VO P T h t x ix y=some u):Yield P o φ M0 h a w u.1 (ap h u.2.1):=by
 unfold VO at J;split at J;rotate_left
 ·cases J
 rename_i kt e b kv y0 ht hx aj hy;split at J;rotate_left
 ·cases J
 rename_i es k kd v hb hk ac ai;split at J;rotate_left
 ·cases J
 rename_i O;have ab:=r.ev hx;simp only[Qf] at ab;have U:=(Nu.1 _ _ _ (r.ev aj) hk);have am:=Qfg ai<|r.ev hy;obtain⟨en,clock,hw,G,ae⟩:=r.hp.blk b _ hb;have Z:(getObj<|φ b).run P w=.ok (.map en clock) w:=by simp[getObj,Sem.run,hw]
 have aa:∀ob,(setObj (φ b) ob).run P w=.ok () (w.putObj (φ b) ob):=fun ob=>by simp[setObj,Sem.run,hw,World.putObj]
 have Y:=Rm (w:=w) O false;split at J
 ·rename_i i v0 hf;simp only[ZA] at J;subst J;simp only[ap];obtain⟨q,Po,m,e',g1,g2,g3,g4⟩:=U1 (w:=w) ac G hf;obtain⟨m',ak,al⟩:=wI es 0 i v0 hf O;have ah:m'=m:=by omega
  subst ah;have ad:e'.key=k:=by grind
  have hi:i=m':=by omega
  subst hi;have af:en[i]?=some e':=by grind
  obtain⟨E,X⟩:=xw (es':=es.set i (k,v)) (ob:=.map (en.modify i fun e=>{ e with key:=k,val:=a.eval y }) clock) hb r.hp;refine⟨.skip,undef,w.putObj (φ b)<|.map (en.modify i fun e=>{ e with key:=k,val:=a.eval y }) clock,φ,?_,.inr ⟨rfl,rfl⟩,by rfl,lu hb r.hp ?_ ?_,E,X⟩
  ·simp[execOp,ho,Instr.mapUpdate,run_underlying ht,ab.1,Z,U,Y,Po,g2,Result.andThen,af,ad,Instr.keyThatStays,Qaa O,aa]
  ·rw[zl k (a.eval y) g3,List.map_set,List.map_set,G]
  ·rw[zl k (a.eval y) g3,List.map_set,List.map_set]
   grind [wJ]
 ·rename_i hf;simp only[ZA] at J;subst J;simp only[ap];obtain⟨q,Po,Dw⟩:=U1 (w:=w) ac G hf;have Dw:q=none:=Dw;subst Dw;obtain⟨E,X⟩:=xw (es':=es++[(k,v)]) (ob:=.map (en.push { key:=k,val:=a.eval y,born:=clock })<|clock+1) hb r.hp;refine⟨.skip,undef,w.putObj (φ b)<|.map (en.push { key:=k,val:=a.eval y,born:=clock })<|clock+1,φ,?_,.inr ⟨rfl,rfl⟩,by rfl,lu hb r.hp ?_ ?_,E,X⟩
  ·simp[execOp,ho,Instr.mapUpdate,run_underlying ht,ab.1,Z,U,Y,Po,Result.andThen,aa]
  ·grind
  grind [Array.toList_push,PP]
 ·cases J
theorem wK{q:Addr}{c m k:Nat}(J:o.op=.binOp op tx x y ty)(G:P.underlying tx=some (.slice e))(U:a.eval x=.slice (some q) n c)(Z:a.eval y=.slice none m k) :
  (op=.eql→(execOp a.eval o).run P w=.ok (.value<|.bool false) w)∧(op=.neq→(execOp a.eval o).run P w=.ok (.value<|.bool true) w):=by
 have O:(Op.equal tx (.slice (some q) n c)<|.slice none m k).run P w=.ok false w:=by
  refine Nz fun D Y=>?_
  obtain⟨D,rfl⟩:∃d,D=d+1:=⟨D-1,by omega⟩;unfold Op.equalIn;simp[run_underlying G]
 constructor
 ·rintro rfl
  simp_all [execOp,eqGuard,binOp]
 ·rintro rfl
  simp_all [execOp,eqGuard,binOp]
end
def Ic(P:Program)(T:Nat→Option AV)(h:QY)(op:BinOp)(tx:TypeId)(x y:Operand):Option Kv :=
 match P.underlying tx,Zn T x,Zn T y with
|some (.slice _),some (.tsl _ es t),some (.p (.val (.slice none _ _))) =>
  match h t with
 |some (.arr _ _ n)=>if es.length=n∧es.isEmpty=false then(match op with|.eql=>some (.p<|.val<|.bool false,none,[t])|.neq=>some (.p<|.val<|.bool true,none,[t])|_=>none) else none
 |_=>none
|_,_,_=>none
section
variable {P:Program}{o:Oper}{φ:Nat→Nat}{M0:ZR}{N:Nat}{D:DB}{T:Nat→Option AV}{h:QY}{a:Act}{w:World}
theorem Qb2(r:Zy φ M0 N D T h a w){u:Kv}(ho:o.op=.binOp op tx x y ty)(G:Ic P T h op tx x y=some u):u.2.1=none∧Yield P o φ M0 h a w u.1 h:=by
 unfold Ic at G;split at G;rotate_left
 ·cases G
 rename_i e S es t m k ht hx hy;split at G;rotate_left
 ·cases G
 rename_i ta Sa n hb;split at G;rotate_left
 ·cases G
 rename_i Z;have J:=r.ev hx;have U:=r.ev hy;simp only[Qf,Zj] at U;simp only[Qf] at J;obtain⟨_,WI,n2,O,_,Y⟩:=J;rw[hb] at O;cases O
 obtain⟨cap,c,hv,_⟩:∃cap c,a.eval x=.slice (some ⟨φ t,0,none⟩) n cap∧w.heap[φ t]?=some (.cells c ta (0,0))∧c.size=cap*S∧n≤cap∧cap≤maxLen:=by
  grind
 obtain⟨g1,g2⟩:=wK (P:=P) (w:=w) ho ht hv U;split at G
 ·simp only[ZA] at G;subst G;exact⟨rfl,Qu r (g1 rfl)<|by rfl⟩
 ·simp only[ZA] at G;subst G;exact⟨rfl,Qu r (g2 rfl)<|by rfl⟩
 ·cases G
end
section
variable {P:Program}{o:Oper}{φ:Nat→Nat}{M0:ZR}{N:Nat}{D:DB}{T:Nat→Option AV}{h:QY}{a:Act}{w:World}
theorem EL{k1:Blk}{ob:Obj}(hb:h b=some k0)(h0:k0.ob=some .mp)(h1:k1.ob=some .mp)(r:ZX φ h w M0) :
  Zi φ h w φ (upd h b k1) (w.putObj (φ b) ob)∧VF φ h w φ (upd h b k1) (w.putObj (φ b) ob):=by
 have hm:∀x o,Bv φ (upd h b k1) x o→Bv φ h x o:=by
  rintro x y ⟨d,q,g1,g2,g3⟩;by_cases e:b=d
  ·refine⟨b,_,hb,zc,?_⟩;cases k0<;>first|trivial|cases h0
  ·exact⟨d,q,by grind [upd],g2,g3⟩
 have G:∀x,x≠φ b→(w.putObj (φ b) ob).heap[x]?=w.heap[x]?:=fun x hx=>World.putObj_heap_other hx
 have O:∀c k,h c=some k→k.ob=none→¬b=c:=fun c k hc hk e=>by grind
 have ac:∀c k,h c=some k→¬b=c→φ c≠φ b:=fun c k hc e h2=>e (r.inj c b zc zc h2).symm
 have Z:∀c ty cs,h c=some (.box ty cs)→upd h b k1 c=some (.box ty cs):=fun c ty cs hc=>by simp[upd,O c _ hc rfl,hc]
 have aa:∀t ty S n,h t=some (.arr ty S n)→∃n',upd h b k1 t=some (.arr ty S n')∧n≤n'∧(n'=n→AKept w (w.putObj (φ b) ob) (φ t) (φ t) ty):=by
  intro t ty S n U;have e:=O t _ U rfl;exact⟨n,by simp[upd,e,U],KD _,fun _=>Ve rfl<|G _<|ac t _ U e⟩
 have ab:∀t ty S es,h t=some (.vec ty S es)→∃J,upd h b k1 t=some (.vec ty S J)∧es.length≤J.length∧(J.length=es.length→φ t=φ t∧∀c,w.heap[φ t]?=some (.cells c ty (0,0))→∃c',(w.putObj (φ b) ob).heap[φ t]?=some (.cells c' ty (0,0))∧c'.size=c.size):=by
  intro t ty S n U;have e:=O t _ U rfl;exact⟨n,by simp[upd,e,U],KD _,fun _=>⟨rfl,fun c hc=>⟨c,zc,rfl⟩⟩⟩
 have Y:∀c k x,h c=some k→k.ob=some x→(∃k',upd h b k1 c=some k'∧k'.ob=some x)∧φ c=φ c:=by
  intro c k x hc ho;by_cases e:b=c
  ·subst e;rw[hb] at hc;cases hc;rw[h0] at ho;cases ho;exact⟨⟨k1,by simp[upd],h1⟩,rfl⟩
  ·exact⟨⟨k,by simp[upd,e,hc],ho⟩,rfl⟩
 refine⟨⟨rfl,rfl,rfl,by simp,?_,?_,fun x o _ hx=>hm x o hx,fun c ty cs _ hc=>⟨⟨cs,Z c ty cs hc⟩,rfl⟩,fun t ty S n _=>aa t ty S n,fun t ty S es _=>ab t ty S es,fun c k x _=>Y c k x⟩,fun c ty cs hc=>⟨⟨ty,cs,Z c ty cs hc⟩,rfl⟩,aa,ab,Y⟩
 ·grind
 ·intro x y _ hm;have:x≠φ b:=fun e=>hm ⟨b,_,hb,e.symm,by cases k0<;>first|trivial|cases h0⟩
  grind [World.cell?]
theorem qj{k1:Blk}{ob:Obj}(hb:h b=some k0)(h0:k0.ob=some .mp)(Y:k1.ob=some .mp)(r:ZX φ h w M0)(G:RelB φ (upd h b k1) (w.putObj (φ b) ob) (MM φ (upd h b k1) M0) (φ b) k1):ZX φ (upd h b k1) (w.putObj (φ b) ob) M0:=by
 obtain⟨E,X⟩:=EL (k1:=k1) (ob:=ob) hb h0 Y r
 have g:∀d,upd h b k1 d≠none→h d≠none:=fun d J=>by
  grind [upd]
 refine⟨fun c d hc J O=>r.inj c d (g c hc) (g d J) O,fun c k hc=>?_,fun c hc=>r.fr c<|g c hc,fun x o U=>by simpa [World.putObj] using r.lt x o U,r.gm.evol E⟩;by_cases e:b=c
 ·grind [upd]
 ·have hc':h c=some k:=by grind [upd]
  exact Ke (E.keeps M0) X (World.putObj_heap_other fun Z=>e (r.inj c b zc zc Z).symm)<|r.blk c k hc'
def Tf(w:List UInt8):List (Bool×List UInt8×AV)→Option AV|[]=>none|(f,k,x)::l=>if Q0 w k&&f then some x else Tf w l
def Qac(w:List UInt8)(es:List (Bool×List UInt8×AV)):List (Bool×List UInt8×AV):=es.map fun e=>(!Q0 w e.2.1&&e.1,e.2.1,e.2.2)
def OX(w:List UInt8):Nat→List (Bool×List UInt8×AV)→Option Nat|_,[]=>none|i,e::l=>if Q0 w e.2.1 then some i else OX w (i+1) l
def Qad(l:List (Bool×List UInt8×AV)):List (Value×PV):=l.map fun e=>(BC e.2.1,PV.val undef)
theorem lv(G:P.underlying kt=some .string)(x:ByteArray)(y:List UInt8):eqV P 4 kt (.string x) (BC y)=some (Q0 (Hm x) y):=by
 simp[eqV,G,BC,Hm]
theorem EM(G:P.underlying kt=some .string)(x:ByteArray):BP P kt (.string x)=true:=by simp[BP,Uj,G]
theorem NA{kt:TypeId}(J:P.underlying kt=some .string)(x:ByteArray):∀(l:List (Bool×List UInt8×AV)) (i:Nat),Gy P kt (.string x) i (Qad l)=some ((OX (Hm x) i l).map fun j=>(j,PV.val undef))
|[],i=>rfl
|e::l,i=>by
  have G:BP P kt (BC e.2.1)=true:=EM J _;simp only[Qad,JR,Gy,G,if_true,lv J,OX];cases hq:Q0 (Hm x) e.2.1 with
 |true=>simp
 |false=>exact NA J x l<|i+1
theorem zm(f:Bool)(k:List UInt8)(x:AV)(es:List (Bool×List UInt8×AV)):DZ ((f,k,x)::es)=if f then(f,k,x)::DZ es else DZ es:=by cases f<;>rfl
theorem Ie(w:List UInt8):∀(l:List (Bool×List UInt8×AV)) (i:Nat),OX w (i+1) l=(OX w i l).map (·+1)
|[],i=>rfl
|e::l,i=>by
  simp only[OX];cases Q0 w e.2.1
  ·exact Ie w l<|i+1
  ·rfl
theorem NB(w:List UInt8):∀(es:List (Bool×List UInt8×AV)),Tf w es=(OX w 0<|DZ es).bind fun j=>((DZ es)[j]?).map (·.2.2)
|[]=>rfl
|(f,k,x)::es=>by
  rw[zm];cases f with
 |false=>simp only[Tf,Bool.and_false,Bool.false_eq_true,if_false];exact NB w es
 |true =>
   simp only[Tf,Bool.and_true,if_true,OX];cases hq:Q0 w k with
  |true=>simp
  |false =>
    simp only[Bool.false_eq_true,if_false];rw[Ie,NB w es];cases OX w 0 (DZ es)<;>simp
def BX:List (Bool×List UInt8×AV)→Bool|[]=>true|e::l=>l.all (fun G=>!Q0 e.2.1 G.2.1)&&BX l
theorem Ot{w:List UInt8}:∀{l:List (Bool×List UInt8×AV)} {i:Nat},OX w i l=none→∀e∈l,Q0 w e.2.1=false
|[],_,_,e,G=>by cases G
|J::l,i,h,e,G=>by
  simp only[OX] at h;cases hq:Q0 w J.2.1 with
 |true=>grind
 |false =>
   rw[hq] at h;rcases List.mem_cons.1 G with rfl|G
   ·exact hq
   ·exact Ot h e G
theorem QiI{a b:List UInt8}(h:Q0 a b=true):a=b:=by grind [Q0]
theorem Qb3(w:List UInt8):∀(es:List (Bool×List UInt8×AV)),DZ (Qac w es)=((DZ es).filter fun e=>!Q0 w e.2.1)
|[]=>rfl
|(f,k,x)::es=>by
  have G:=Qb3 w es
  grind [Qac,Q0,zm]
theorem zn:∀{es:List (Bool×List UInt8×AV)},BX es=true→BX (DZ es)=true
|[],_=>rfl
|(f,k,x)::es,h=>by
  simp only[BX,Ku] at h;rw[zm];cases f with
 |false=>exact zn h.2
 |true =>
   simp only[if_true,BX,Ku];refine⟨?_,zn h.2⟩;rw[Fx] at h ⊢;intro e G;exact h.1 e (List.mem_filter.1 G).1
theorem EN{w:List UInt8}:∀{l:List (Bool×List UInt8×AV)} {j:Nat},BX l=true→OX w 0 l=some j→(l.filter fun e=>!Q0 w e.2.1)=l.eraseIdx j
|[],j,_,h=>by cases h
|e::l,j,G,h=>by
  simp only[BX,Ku] at G;simp only[OX] at h;cases hq:Q0 w e.2.1 with
 |true =>
   rw[hq] at h;simp only[if_true,ZA] at h
   grind [Q0,QiI,List.filter_eq_self,Fx]
 |false =>
   rw[hq] at h;simp only[Bool.false_eq_true,if_false] at h;rw[Ie] at h;cases hj:OX w 0 l with
  |none=>grind
  |some J =>
    rw[hj] at h;simp only[Option.map_some,ZA] at h;subst h;simp[hq,EN G.2 hj]
theorem NC{α β:Type}(f:α→β):∀(l:List α) (j:Nat),(l.eraseIdx j).map f=(l.map f).eraseIdx j
|[],j=>by simp
|x::l,0=>rfl
|x::l,j+1=>by simp only[List.eraseIdx_cons_succ,JR,NC f l j]
theorem Ou{M:ZR}:∀{xs:List AV} {G:List Value} (j:Nat),Ql φ h w M xs G→Ql φ h w M (xs.eraseIdx j) (G.eraseIdx j)
|[],G,j,J=>by
  grind [Ql]
|x::xs,G,j,J=>by
  simp only[Ql] at J;obtain⟨y,ys,rfl,U,O⟩:=J;cases j with
 |zero=>exact O
 |succ j=>simp only[List.eraseIdx_cons_succ,Ql];exact⟨_,_,rfl,U,Ou j O⟩
theorem Qae{clock:Nat}{k:Value}(h:F4 en clock):F4 (en.push { key:=k,val:=v,born:=clock }) (clock+1):=by
 obtain⟨O,G⟩:=h;refine⟨?_,fun e J=>?_⟩
 ·grind
 grind
theorem dO{clock:Nat}(h:F4 en clock):F4 (en.eraseIdxIfInBounds j) clock:=by
 obtain⟨U,J⟩:=h;have G:(en.eraseIdxIfInBounds j).toList=en.toList.eraseIdx j:=by simp
 refine⟨?_,fun e O=>J e ?_⟩
 ·grind
 grind
def QiJ:Option Blk→Option (List<|Bool×List UInt8×AV)|some (.mp [])=>some []|some (.mf es)=>some es|_=>none
def XV(P:Program)(T:Nat→Option AV)(h:QY)(t:TypeId)(x ix:Operand)(ok:Bool):Option Kv :=
 match P.underlying t,Zn T x,Zn T ix with
|some (.map kt e),some (.mv b),some (.p (.val (.string s))) =>
  match h b,P.underlying kt with
 |some (.mf es),some .string =>
   match Tf (Hm s) es with
  |some v=>some (BU ok v true,none,[b])
  |none=>match (P.info? e).bind (·.zero) with|some z=>some (BU ok (y7 z) false,none,[b])|none=>none
 |_,_=>none
|_,_,_=>none
def XW(P:Program)(T:Nat→Option AV)(h:QY)(t:TypeId)(x ix y:Operand):Option Kv :=
 match P.underlying t,Zn T x,Zn T ix,Zn T y with
|some (.map kt e),some (.mv b),some (.p (.val (.string s))),some v =>
  match QiJ (h b),P.underlying kt with
 |some es,some .string=>match Tf (Hm s) es with
  |none=>some (.p<|.val undef,some (b,.mf<|es++[(true,Hm s,v)]),[b])
  |some _=>none
 |_,_=>none
|_,_,_,_=>none
def LQ(P:Program)(T:Nat→Option AV)(h:QY)(t:TypeId)(x ix:Operand):Option Kv :=
 match P.underlying t,Zn T x,Zn T ix with
|some (.map kt e),some (.mv b),some (.p (.val (.string s))) =>
  match h b,P.underlying kt with
 |some (.mf es),some .string=>if BX es=true then some (.tup [],some (b,.mf<|Qac (Hm s) es),[b]) else none
 |_,_=>none
|_,_,_=>none
theorem QiK(hb:QiJ (h b)=some es)(r:ZX φ h w M0):∃k0,h b=some k0∧k0.ob=some .mp ∧
  ∃(en:Array MapEntry) (clock:Nat),w.heap[φ b]?=some (.map en clock)∧en.toList.map (·.key)=(DZ es).map (fun e=>BC e.2.1)∧Ql φ h w (MM φ h M0) ((DZ es).map (·.2.2)) (en.toList.map (·.val))∧F4 en clock:=by
 unfold QiJ at hb;split at hb
 ·rename_i G;cases hb;obtain⟨en,clock,O,J,U⟩:=r.blk b _ G;have Y:en.toList=[]:=by simpa using J
  exact⟨_,G,rfl,en,clock,O,J,U,by simp[F4,Y]⟩
 ·rename_i es' G;cases hb;exact⟨_,G,rfl,r.blk b _ G⟩
 ·cases hb
theorem zt{l:List (Bool×List UInt8×AV)}{en:List MapEntry}(G:en.map (·.key)=l.map (fun e=>BC e.2.1)):en.map (·.key)=(Qad l).map (·.1):=by
 rw[G];simp[Qad]
theorem fE(r:Zy φ M0 N D T h a w){t:TypeId}{u:Kv}(ho:o.op=.lookup t x ix ok)(J:XV P T h t x ix ok=some u):u.2.1=none∧Yield P o φ M0 h a w u.1 h:=by
 unfold XV at J;split at J;rotate_left
 ·cases J
 rename_i kt e b s ht hx af;split at J;rotate_left
 ·cases J
 rename_i es hb aa;have ac:=r.ev hx;simp only[Qf] at ac;have O:=r.ev af;simp only[Qf,Zj] at O;obtain⟨en,clock,hw,ad,ab,_⟩:=r.hp.blk b _ hb;have Z:(getObj<|φ b).run P w=.ok (.map en clock) w:=by simp[getObj,Sem.run,hw]
 have U:=Rm (w:=w) (EM aa s) en.isEmpty;have ah:=NA aa s (DZ es) 0;obtain⟨q,Po,Dw⟩:=U1 (w:=w) aa (zt ad) ah;have G:=NB (Hm s) es;cases hi:OX (Hm s) 0 (DZ es) with
|none =>
  rw[hi] at Dw G;simp only[Option.map_none,EK,Option.bind_none] at Dw G;subst Dw;rw[G] at J;simp only at J;split at J
  ·rename_i z hz;simp only[ZA] at J;subst J;refine⟨rfl,?_⟩;obtain⟨inf,hi,hz⟩:=Es.1 hz;refine Qu r (v:=if ok then .tuple #[z,.bool false] else z) ?_ ?_
   ·simp[execOp,ho,Instr.lookup,run_underlying ht,ac.1,Z,O,U,Po,Result.andThen,zeroValue,typeInfo,program,Sem.run,hi,hz]
   ·unfold BU;cases ok
    ·exact Jy z
    ·simp only[if_true,Qf];exact⟨[z,.bool false],by simp,_,_,rfl,Jy z,_,_,rfl,by rfl,rfl⟩
  ·cases J
|some j =>
  rw[hi] at Dw G;simp only[Option.map_some,EK,Zm] at Dw G;obtain⟨m,e',g1,g2,g3,g4⟩:=Dw;have ae:j=m:=by omega
  subst ae
  have hlt:j<(DZ es).length:=by
   grind [Qad]
  rw[List.getElem?_eq_getElem hlt] at G;simp only[Option.map_some] at G;rw[G] at J;simp only[ZA] at J;subst J;refine⟨rfl,?_⟩;have Y:Qf φ h w (MM φ h M0) ((DZ es)[j]).2.2 e'.val:=BV ab (i:=j) (by simp[hlt]) (by simp[g3]);subst g2;refine Qu r (v:=if ok then .tuple #[e'.val,.bool true] else e'.val) ?_ ?_
  ·simp[execOp,ho,Instr.lookup,run_underlying ht,ac.1,Z,O,U,Po,Result.andThen]
  ·unfold BU;cases ok
   ·exact Y
   ·simp only[if_true,Qf];exact⟨[e'.val,.bool true],by simp,_,_,rfl,Y,_,_,rfl,by rfl,rfl⟩
theorem Ov(r:Zy φ M0 N D T h a w){t:TypeId}{u:Kv}(ho:o.op=.mapUpdate t x ix y)(G:XW P T h t x ix y=some u):Yield P o φ M0 h a w u.1 (ap h u.2.1):=by
 unfold XW at G;split at G;rotate_left
 ·cases G
 rename_i kt e b s v ht hx aj hy;split at G;rotate_left
 ·cases G
 rename_i es hb O;have ad:=r.ev hx;simp only[Qf] at ad;have J:=r.ev aj;simp only[Qf,Zj] at J;have al:=r.ev hy;obtain⟨k0,ac,aa,en,clock,hw,Z,U,Y⟩:=QiK hb r.hp;have ae:(getObj<|φ b).run P w=.ok (.map en clock) w:=by simp[getObj,Sem.run,hw]
 have af:∀ob,(setObj (φ b) ob).run P w=.ok () (w.putObj (φ b) ob):=fun ob=>by simp[setObj,Sem.run,hw,World.putObj]
 have ab:=Rm (w:=w) (EM O s) false;have ak:=NA O s (DZ es) 0;obtain⟨q,Po,Dw⟩:=U1 (w:=w) O (zt Z) ak;have am:=NB (Hm s) es;split at G;rotate_left
 ·cases G
 rename_i ai;simp only[ZA] at G;subst G;simp only[ap]
 have hi:OX (Hm s) 0 (DZ es)=none:=by
  cases hi:OX (Hm s) 0 (DZ es) with
 |none=>rfl
 |some j =>
   grind [EK,DZ,Qad]
 rw[hi] at Dw;have Dw:q=none:=Dw;subst Dw;obtain⟨E,X⟩:=EL (k1:=.mf<|es++[(true,Hm s,v)]) (ob:=.map (en.push { key:=.string s,val:=a.eval y,born:=clock })<|clock+1) ac aa rfl r.hp;have an:BC (Hm s)=.string s:=by rfl
 have ah:DZ (es++[(true,Hm s,v)])=DZ es++[(true,Hm s,v)]:=by simp[DZ]
 refine⟨.skip,undef,w.putObj (φ b)<|.map (en.push { key:=.string s,val:=a.eval y,born:=clock })<|clock+1,φ,?_,.inr ⟨rfl,rfl⟩,by rfl,qj ac aa rfl r.hp ⟨_,_,World.putObj_heap_same (AY.1 hw).1,?_,?_,Qae Y⟩,E,X⟩
 ·simp[execOp,ho,Instr.mapUpdate,run_underlying ht,ad.1,ae,J,ab,Po,Result.andThen,af]
 ·grind
 ·rw[ah];simp only[Array.toList_push,List.map_append,JR,List.map_nil];exact PP ((QV (E.keeps M0) X).2 _ _ U)<|(QV (E.keeps M0) X).1 _ _ al
theorem Ox{t k:TypeId}{s:Operand}(J:o.op=.call ⟨.builtin .delete,#[s,x],#[t,k]⟩)(G:(Builtin.delete_ #[t,k] o.type #[a.eval s,a.eval x]).run P w=.ok v w'):(execOp a.eval o).run P w=.ok (.value v) w':=by
 simp[execOp,J,resolve,invoke,builtin,G]
theorem fF(r:Zy φ M0 N D T h a w){t k:TypeId}{u:Kv}(ho:o.op=.call ⟨.builtin .delete,#[x,ix],#[t,k]⟩)(Y:LQ P T h t x ix=some u):Yield P o φ M0 h a w u.1 (ap h u.2.1):=by
 unfold LQ at Y;split at Y;rotate_left
 ·cases Y
 rename_i kt e b s ht hx ak;split at Y;rotate_left
 ·cases Y
 rename_i es hb ad;split at Y;rotate_left
 ·cases Y
 rename_i aj;simp only[ZA] at Y;subst Y;simp only[ap];have ae:=r.ev hx;simp only[Qf] at ae;have G:=r.ev ak;simp only[Qf,Zj] at G;obtain⟨en,clock,hw,af,J,O⟩:=r.hp.blk b _ hb;have aa:(getObj<|φ b).run P w=.ok (.map en clock) w:=by simp[getObj,Sem.run,hw]
 have ab:∀ob,(setObj (φ b) ob).run P w=.ok () (w.putObj (φ b) ob):=fun ob=>by simp[setObj,Sem.run,hw,World.putObj]
 have Z:=Rm (w:=w) (EM ad s) en.isEmpty;have al:=NA ad s (DZ es) 0;obtain⟨q,Po,Dw⟩:=U1 (w:=w) ad (zt af) al;have U:=Qb3 (Hm s) es;cases hi:OX (Hm s) 0 (DZ es) with
|none =>
  rw[hi] at Dw;have Dw:q=none:=Dw;subst Dw
  have ac:DZ (Qac (Hm s) es)=DZ es:=by
   rw[U,List.filter_eq_self];intro e Y
   grind [Ot]
  obtain⟨E,X⟩:=EL (k1:=.mf<|Qac (Hm s) es) (ob:=.map en clock) hb rfl rfl r.hp;refine⟨_,.tuple #[],w.putObj (φ b)<|.map en clock,φ,Ox ho ?_,.inl rfl,?_,qj hb rfl rfl r.hp ⟨en,clock,World.putObj_heap_same (AY.1 hw).1,?_,?_,O⟩,E,X⟩
  ·simp[Builtin.delete_,run_underlying ht,ae.1,aa,G,Z,Po,Result.andThen,ab]
  ·simp only[Qf];exact⟨[],rfl,rfl⟩
  ·grind
  ·rw[ac];exact(QV (E.keeps M0) X).2 _ _ J
|some j =>
  rw[hi] at Dw;simp only[Option.map_some,EK] at Dw;obtain⟨m,e',g1,g2,g3,g4⟩:=Dw;have ah:j=m:=by omega
  subst ah;subst g2;rw[EN (zn aj) hi] at U;have ai:(en.eraseIdxIfInBounds j).toList=en.toList.eraseIdx j:=by simp
  obtain⟨E,X⟩:=EL (k1:=.mf<|Qac (Hm s) es) (ob:=.map (en.eraseIdxIfInBounds j) clock) hb rfl rfl r.hp;refine⟨_,.tuple #[],w.putObj (φ b)<|.map (en.eraseIdxIfInBounds j) clock,φ,Ox ho ?_,.inl rfl,?_,qj hb rfl rfl r.hp ⟨_,clock,World.putObj_heap_same (AY.1 hw).1,?_,?_,dO O⟩,E,X⟩
  ·simp[Builtin.delete_,run_underlying ht,ae.1,aa,G,Z,Po,Result.andThen,ab]
  ·simp only[Qf];exact⟨[],rfl,rfl⟩
  ·grind [NC]
  ·rw[U,ai,NC,NC];exact Ou j<|(QV (E.keeps M0) X).2 _ _ J
end
def Qaf(P:Program)(T:Nat→Option AV)(t:TypeId)(x:Operand):Option Kv:=match P.underlying t,Zn T x with
|some (.slice _),some (.bsl _ n)=>some (.p<|.val<|.int .i64 n,none,[])
|_,_=>none
def isB(T:Nat→Option AV):List (Nat×Operand)→Bool
|(_,x)::_=>match Zn T x with|some (.fn _ _ _)=>true|_=>false
|[]=>false
def GQ(P:Program)(T:Nat→Option AV)(t:TypeId)(x ix:Operand):Option Kv :=
 match Zn T ix,P.underlying t,Zn T x with
|some (.p (.val (.int _ n))),some (.slice e),some (.bsl b m) =>
  match P.info? e with
 |some i=>if i.size=1∧0≤n∧n<m then some (.ptr b n.toNat,none,[]) else none
 |none=>none
|_,_,_=>none
def FD(P:Program)(T:Nat→Option AV)(h:QY)(dst:Option Tmp)(t:TypeId)(len:Nat)(parts:Array (Nat×Operand)):Option Kv :=
 match P.underlying t,dst,qW T parts.toList with
|some (.slice e),some d,some ps =>
  match P.info? e with
 |some i =>
   match i.zero,h d with
  |some z,none =>
    match cellsOf (y7 z) with
   |some G =>
     if G.length=1∧i.size=1∧len≤16777216∧0<len then
      match EB (fun k=>some (k*i.size,i.size)) (List.replicate len G).flatten ps with
     |some rs=>if rs.length=len∧GH rs then some (.bsl d len,some (d,.box e rs),[d]) else none
     |none=>none
     else none
   |none=>none
  |_,_=>none
 |none=>none
|_,_,_=>none
section
variable {P:Program}{o:Oper}{φ:Nat→Nat}{M0:ZR}{N:Nat}{D:DB}{T:Nat→Option AV}{h:QY}{a:Act}{w:World}
theorem Qfh(r:Zy φ M0 N D T h a w){t:TypeId}{u:Kv}(O:o.op=.call ⟨.builtin .len,#[x],#[t]⟩)(G:Qaf P T t x=some u):u.2.1=none∧Yield P o φ M0 h a w u.1 h:=by
 unfold Qaf at G;split at G
 ·rename_i e b n Y U;simp only[ZA] at G;subst G;have J:=r.ev U;simp only[Qf] at J;refine⟨rfl,Qu r (v:=.int .i64 n) ?_<|by rfl⟩;simp[execOp,O,resolve,invoke,builtin,Builtin.len_,run_underlying Y,J.1,goInt]
 ·cases G
theorem vG(r:Zy φ M0 N D T h a w){t:TypeId}{u:Kv}(Z:o.op=.indexAddr t x ix)(G:GQ P T t x ix=some u):u.2.1=none∧Yield P o φ M0 h a w u.1 h:=by
 unfold GQ at G;split at G
 ·rename_i k n e b m O ht hx;split at G
  ·rename_i i hi;split at G
   ·rename_i hc;simp only[ZA] at G;subst G;have J:=r.ev O;simp only[Qf,Zj] at J;have Y:=r.ev hx;simp only[Qf] at Y;refine⟨rfl,Qu r (v:=.pointer<|some ⟨φ b,0+n.toNat*i.size,none⟩) ?_ ?_⟩
    ·have U:0≤n∧n<(m:Int):=hc.2;simp[execOp,Z,Instr.indexAt,J,asIntOf,run_underlying ht,Y.1,U,Ze hi,Addr.add_lit]
    grind [Qf]
   ·cases G
  ·cases G
 ·cases G
theorem zu(r:Zy φ M0 N D T h a w){t:TypeId}{u:Kv}(ho:o.op=.buildSlice t len parts)(G:FD P T h o.dst t len parts=some u):Yield P o φ M0 h a w u.1 (ap h u.2.1):=by
 unfold FD at G;split at G;rotate_left
 ·cases G
 rename_i e d ps ht ac Z;split at G;rotate_left
 ·cases G
 rename_i i hi;split at G;rotate_left
 ·cases G
 rename_i z hz hd;split at G;rotate_left
 ·cases G
 rename_i zs aa;split at G;rotate_left
 ·cases G
 rename_i af;split at G;rotate_left
 ·cases G
 rename_i rs ab;split at G;rotate_left
 ·cases G
 rename_i ad;simp only[ZA] at G;subst G;simp only[ap];refine Yield.of_lift r 1 fun φ r E0 X0 hC=>?_
 obtain⟨h1,h2⟩:=BH r Z;obtain⟨h3,_,_⟩:=V7 aa<|Jy (φ:=φ) (h:=h) (w:=w) (M:=MM φ h M0) z;have ah:=ZY h3;have Y:z.cells.toList.length=i.size:=by omega
 have O:Ql φ h w (MM φ h M0) (List.replicate len zs).flatten (((Array.range<|len*i.size).map (z.cells[·%z.cells.size]!)).toList):=by
  have e1:((Array.range<|len*i.size).map (z.cells[·%z.cells.size]!)).toList=(List.replicate len z.cells.toList).flatten:=by
   have:=Nw z.cells.toList i.size Y zo len
   simp_all
  grind [UI]
 obtain⟨c',h4,h5⟩:=ED (placeC:=fun k=>some (k*i.size,i.size)) (fun k x hx=>hx) ps _ _ _ rs h1 h2 O ab;obtain⟨E,X⟩:=Uo (w:=w) (w':=w.alloc<|.cells c' e) (o:=.cells c' e) (b:=d) (k:=.box e rs) (φ:=φ) (h:=h) (M0:=M0) rfl rfl rfl rfl hd r.hp hC
 have J:RelB (QL φ d w.heap.size) (upd h d<|.box e rs) (w.alloc<|.cells c' e) (MM (QL φ d w.heap.size) (upd h d<|.box e rs) M0) w.heap.size (.box e rs) :=
  ⟨c',by show(w.heap.push _)[w.heap.size]?=_;simp,(QV (E.keeps M0) X).2 _ _ h5⟩
 refine⟨_,.slice (some ⟨w.heap.size,0,none⟩) len len,w.alloc<|.cells c' e,QL φ d w.heap.size,?_,.inl rfl,?_,Ur rfl hd r.hp hC E X J,E,X⟩
 ·have hq:(parts.map fun(x:Nat×Operand)=>(x.1,a.eval x.2)).toList=parts.toList.map fun(x:Nat×Operand)=>(x.1,a.eval x.2):=by simp
  have ae:len*i.size=len:=by grind
  have U:¬(len*i.size>2 ^ 24):=by omega
  have h0:¬len*i.size=0:=by omega
  simp only[execOp,ho,Instr.buildSlice,Sem.run_bind,run_underlying ht,Ze hi,Result.andThen_ok,U,if_false,h0,hq,zeroValue,typeInfo,program,Sem.run,hi,hz,Sem.run_pure,h4];simp[newRow,newObj,Sem.run]
 simp[Qf,QL,upd]
theorem Qag{l:List (Nat×Operand)}(hh:∀x∈l.map (·.2),Zn T' x=Zn T x):isB T' l=isB T l:=by
 cases l with
|nil=>rfl
|cons p l=>grind [isB]
end
def Ti(a b:Option Kv):Option Kv:=match a with|some x=>some x|none=>b
theorem zw{a c c':Option Kv}{u:Kv}(G:Ti a c=some u)(h:c=some u→c'=some u):Ti a c'=some u:=by
 cases a with
|none=>exact h G
|some x=>exact G
def We(P:Program)(o:Oper)(T:Nat→Option AV)(h:QY):Option Kv :=
 match o.op with
|.move x=>WT T x
|.assign x=>WT T x
|.pick c x y=>Pe T c x y
|.alloc ty=>match P.info? ty with
 |some i=>match i.zero with|some z=>vk o h ty (y7 z)|none=>none
 |none=>none
|.box ty x=>match Zn T x with|some v=>vk o h ty v|none=>none
|.build t ps=>qX P T t ps
|.buildSlice t n ps=>if n=0 then dF P h o.dst t ps else if isB T ps.toList=true then FD P T h o.dst t n ps else FB P T h o.dst t n ps
|.load ty x=>if wF (Zn T x) then Ol P T h ty x else Og P T h ty x
|.store ty x y=>if wF (Zn T x) then BM P T h ty x y else qU P T h ty x y
|.makeSlice t x y=>Om P T h o.dst t x y
|.makeMap _ rsv=>BR h o.dst rsv
|.lookup t x i ok=>Ti (UJ P T h t x i ok)<|XV P T h t x i ok
|.mapUpdate t x i y=>Ti (VO P T h t x i y)<|XW P T h t x i y
|.nilCheck x=>if wF (Zn T x) then dG T h x else Ti (GJ T x) (Gx P T o)
|.fieldAddr t x f=>if wF (Zn T x) then U0 P T h t x f else UY P T t x f
|.field t x f=>qV P T t x f
|.indexAddr t x i=>if wF (Zn T x) then JB P T h t x i else Ti (JA P T t x i) (Ti (GQ P T t x i)<|Xv P T h t x i)
|.index t x i=>Ti (AZ P T t x i)<|Ti (Ny P T t x i)<|Gx P T o
|.slice t x lo hi G=>Ti (F6 P T t x lo hi G)<|Ti (Gx P T o)<|Ce P T h t x lo hi G
|.extract x i=>Ri T x i
|.makeFunc f a b=>Da T f a b
|.makeInterface t x=>Xu P T t x
|.typeAssert x _ t ok=>Fy P T x t ok
|.binOp op tx x y _=>Ti (OW T op x y)<|Ti (aEq P T op tx x y)<|Ti (Gx P T o)<|Ic P T h op tx x y
|.unOp op _ x=>Ti (aUn T op x)<|Gx P T o
|.convert src dst x=>Ti (fo P T dst src x)<|Gx P T o
|.call ⟨.builtin .len,args,types⟩=>match args,types with|⟨[x]⟩,⟨[t]⟩=>if wF (Zn T x) then fu P T h t x else Ti (iO P T t x) (Ti (wG P T t x)<|Ti (Gx P T o)<|Ti (Qaf P T t x)<|fC P T h t x)|_,_=>none
|.call ⟨.builtin .append,args,types⟩=>match args,types with|⟨[s,x]⟩,⟨[t,J]⟩=>if t=J then(if wF (Zn T s) then Td P T h o.dst t s x else D9 P T h o.dst t s x) else none|_,_=>none
|.call ⟨.builtin .delete,args,types⟩=>match args,types with|⟨[x,i]⟩,⟨[t,k]⟩=>LQ P T h t x i|_,_=>none
|.call ⟨.builtin .max,_,_⟩=>Gx P T o
|.call ⟨.builtin .min,_,_⟩=>Gx P T o
|.call ⟨.builtin .clear,args,types⟩=>match args,types with|⟨[x]⟩,⟨[t]⟩=>BO P T h t x|_,_=>none
|_=>none
section
variable {P:Program}{o:Oper}{φ:Nat→Nat}{M0:ZR}{N:Nat}{D:DB}{T:Nat→Option AV}{h:QY}{a:Act}{w:World}
theorem K4{u:Kv}(hu:u.2.1=none∧Yield P o φ M0 h a w u.1 h):Yield P o φ M0 h a w u.1 (ap h u.2.1):=by rw[hu.1];exact hu.2
theorem Ut{x y:Option Kv}{u:Kv}(G:Ti x y=some u):x=some u∨y=some u:=by
 unfold Ti at G
 grind
theorem Qb4(r:Zy φ M0 N D T h a w){u:Kv}(G:We P o T h=some u):Yield P o φ M0 h a w u.1 (ap h u.2.1):=by
 unfold We at G;split at G
 case h_1 x ho =>
  unfold WT at G;split at G
  ·rename_i v J;simp only[ZA] at G;subst G;exact lc r (.inl ho) J
  ·cases G
 case h_2 x ho =>
  unfold WT at G;split at G
  ·rename_i v J;simp only[ZA] at G;subst G;exact lc r (.inr ho) J
  ·cases G
 case h_3 c x y ho=>grind [lg,K4]
 case h_4 ty ho =>
  grind [QbU]
 case h_5 ty x ho =>
  grind [QiE]
 case h_6 t ps ho=>grind [K4,QbX]
 case h_7 t n ps ho =>
  grind [Qfa,zu,vv]
 case h_8 ty x ho=>grind [K4,Qb0,Qe5]
 case h_9 ty x y ho=>grind [iV,QbS]
 case h_10 t x y ho=>exact Qb1 r ho G
 case h_11 t rsv ho=>exact dN r ho G
 case h_12 t x i ok ho=>grind [Ut,K4,Qab,fE]
 case h_13 t x i y ho=>grind [Ut,xx,Ov]
 case h_14 x ho=>grind [K4,Qfb,Ut,gZ,pure_ok]
 case h_15 t x f ho=>grind [K4,vz,jY]
 case h_16 t x f ho=>grind [K4,QbV]
 case h_17 t x i ho=>grind [K4,vw,Ut,jZ,vG,vE]
 case h_18 t x i ho=>grind [Ut,K4,QbW,iW,pure_ok]
 case h_19 t x lo hi mx ho=>grind [Ut,K4,QbZ,pure_ok,iX]
 case h_20 x i ho=>grind [K4,dB]
 case h_21 f l m ho=>grind [K4,gY]
 case h_22 t x ho=>grind [K4,A8]
 case h_23 x xt t ok ho=>grind [K4,vo]
 case h_24 op tx x y ty ho=>grind [Ut,K4,QiH,Qk1,pure_ok,Qb2]
 case h_25 op tx x ho=>grind [Ut,K4,QkZ,pure_ok]
 case h_26 src dst x ho=>grind [Ut,K4,Qe8,pure_ok]
 case h_27 args types ho =>
  split at G
  ·rename_i x t;split at G;exact K4<|Qe9 r ho G;grind [Ut,K4,QiF,Qfc,pure_ok,Qfh,Qfd]
  ·cases G
 case h_28 args types ho =>
  grind [dE,iQ]
 case h_29 args types ho =>
  grind [fF]
 case h_30=>exact K4<|pure_ok r G
 case h_31=>exact K4<|pure_ok r G
 case h_32 args types ho =>
  grind [iZ]
 grind
end
inductive KQ where
|ret (x:AV)
|panic (x:AV)
def Qb5(φ:Nat→Nat)(h:QY)(w:World)(M:ZR):KQ→Ending→Prop|.ret x,e=>∃v,e=.returned v∧Qf φ h w M x v|.panic x,e=>∃v,e=.panicked [{ v:=v,recovered:=false }]∧Qf φ h w M x v
def VC(P:Program)(f:FuncId)(args:List AV)(h:QY)(R:KQ→QY→Prop):Prop :=∀φ M0 w G,ZX φ h w M0→Ql φ h w (MM φ h M0) args G→Calls P f G.toArray w fun e w' =>∃φ' r h',R r h'∧ZX φ' h' w' M0∧Zi φ h w φ' h' w'∧Qb5 φ' h' w' (MM φ' h' M0) r e
def R5:QY:=fun _=>none
def Zc(P:Program)(f:FuncId)(args:List AV)(x:KQ):Prop:=VC P f args R5 fun r h'=>r=x∧h'=R5
mutual
def YC:AV→Bool|.p _=>true|.eptr _=>true|.tsl _ _ _=>false|.ptr _ _=>false|.vnil=>true|.vsl _ _ _=>false|.vptr _ _ _ _=>false|.vtl _ _ _ _ _=>false|.yv _=>false|.mv _=>false|.bsl _ _=>false|.sfp _=>false|.iv _=>false|.agg cs=>Vw cs|.tup cs=>Vw cs|.fn _ a b=>Vw a&&Vw b|.ifc _ x=>YC x
def Vw:List AV→Bool|[]=>true|x::xs=>YC x&&Vw xs
end
theorem J5(Y:∀r o v,w.cell? ⟨r,o,none⟩=some v→¬M r o→w'.cell? ⟨r,o,none⟩=some v∧¬M' r o) :
  (∀(x:AV) (v:Value),YC x=true→Qf φ h w M x v→Qf φ' h' w' M' x v)∧(∀(xs:List AV) (l:List Value),Vw xs=true→Ql φ h w M xs l→Ql φ' h' w' M' xs l):=by
 obtain⟨Z,ke,kc⟩:=Kb Y
 have key:∀n:Nat,(∀(x:AV),SizeOf.sizeOf x≤n→∀v,YC x=true→Qf φ h w M x v→Qf φ' h' w' M' x v)∧(∀(xs:List AV),SizeOf.sizeOf xs≤n→∀l,Vw xs=true→Ql φ h w M xs l→Ql φ' h' w' M' xs l):=by
  intro n
  induction n with
 |zero =>
   refine⟨fun x J=>?_,fun es J=>?_⟩
   ·cases x<;>simp at J
   ·cases es<;>simp at J
 |succ n U =>
   obtain⟨i1,i2⟩:=U;refine⟨fun x J v G O=>?_,fun xs J l G O=>?_⟩
   ·cases x with
   |p x=>grind [Qf]
   |tsl S es t=>simp[YC] at G
   |ptr b off=>simp[YC] at G
   |vnil=>assumption
   |vsl S t n=>simp[YC] at G
   |vptr t n k f=>simp[YC] at G
   |vtl S t n k m=>simp[YC] at G
   |yv b=>simp[YC] at G
   |mv b=>simp[YC] at G
   |iv b=>simp[YC] at G
   |bsl b n=>simp[YC] at G
   |sfp b=>simp[YC] at G
   |eptr cs =>
     grind [Qf]
   |agg cs =>
     grind [Qf,YC]
   |tup cs =>
     grind [Qf,YC]
   |fn f a b =>
     grind [Qf,YC]
   |ifc t x =>
     grind [Qf,YC]
   ·cases xs with
   |nil=>assumption
   |cons x xs =>
     grind [Ql,Vw]
 exact⟨fun x v=>(key<|SizeOf.sizeOf x).1 x (KD _) v,fun xs l=>(key<|SizeOf.sizeOf xs).2 xs (KD _) l⟩
mutual
def le:AV→AV→Prop|.tsl S es t,y=>y=.tsl S es t∨y=.p (.sl S es)|.p (.val v),y=>y=.p (.val v)∨(v=.slice none 0 0∧((∃S,y=.p (.sl S []))∨y=.vnil))|.agg xs,y=>∃ys,y=.agg ys∧EO xs ys|.tup xs,y=>∃ys,y=.tup ys∧EO xs ys|.vnil,y=>y=.vnil∨∃S,y=.p (.sl S [])|.vsl S t n,y=>y=.vsl S t n∨y=.vtl S t n 0 n|x,y=>y=x
def EO:List AV→List AV→Prop|[],ys=>ys=[]|x::xs,ys=>∃z G,ys=z::G∧le x z∧EO xs G
end
theorem Uk :
  (∀(x y:AV) (v:Value),le x y→Qf φ h w M x v→Qf φ h w M y v)∧(∀(xs ys:List AV) (l:List Value),EO xs ys→Ql φ h w M xs l→Ql φ h w M ys l):=by
 have key:∀n:Nat,(∀(x:AV),SizeOf.sizeOf x≤n→∀y v,le x y→Qf φ h w M x v→Qf φ h w M y v)∧(∀(xs:List AV),SizeOf.sizeOf xs≤n→∀ys l,EO xs ys→Ql φ h w M xs l→Ql φ h w M ys l):=by
  intro n
  induction n with
 |zero =>
   refine⟨fun x J=>?_,fun es J=>?_⟩
   ·cases x<;>simp at J
   ·cases es<;>simp at J
 |succ n Y =>
   obtain⟨i1,i2⟩:=Y;refine⟨fun x J y v G O=>?_,fun xs J ys l G O=>?_⟩
   ·cases x with
   |p x=>cases x with
    |val u =>
      simp only[le] at G;rcases G with rfl|⟨rfl,⟨S,rfl⟩|rfl⟩
      ·exact O
      ·grind [Qf,Zj]
      grind [Qf,Zj]
    |sl S es=>grind [le]
   |tsl S es t =>
     simp only[le] at G;rcases G with rfl|rfl
     ·exact O
     grind [Qf]
   |ptr b off=>grind [le]
   |eptr cs=>grind [le]
   |vnil =>
     simp only[le] at G;rcases G with rfl|⟨S,rfl⟩
     ·exact O
     grind [Qf,Zj]
   |vsl S t n =>
     simp only[le] at G;rcases G with rfl|rfl
     ·exact O
     grind [Qf]
   |vptr t n k f=>grind [le]
   |vtl S t n k m=>grind [le]
   |yv b=>grind [le]
   |mv b=>grind [le]
   |iv b=>grind [le]
   |bsl b n=>grind [le]
   |sfp b=>grind [le]
   |agg cs =>
     simp only[le] at G;obtain⟨ys,rfl,U⟩:=G
     grind [Qf]
   |tup cs =>
     simp only[le] at G;obtain⟨ys,rfl,U⟩:=G
     grind [Qf]
   |fn f a b=>grind [le]
   |ifc t x=>grind [le]
   ·cases xs with
   |nil=>grind [EO]
   |cons x xs =>
     simp only[EO] at G;obtain⟨z,zs,rfl,Z,U⟩:=G
     grind [Ql]
 exact⟨fun x y v=>(key<|SizeOf.sizeOf x).1 x (KD _) y v,fun xs ys l=>(key<|SizeOf.sizeOf xs).2 xs (KD _) ys l⟩
def TH(P:Program)(N:Nat)(f:FuncId)(args:List AV)(dst:Option Tmp)(s:St)(K:St→Prop)(Q:AX→St→Prop):Prop :=
 ∀φ M0 D a w G,Zy φ M0 N D (look s.T) (look s.H) a w→Ql φ (look s.H) w (MM φ (look s.H) M0) args G→Calls P f G.toArray w fun e w' =>
  match e with
 |.returned v=>∃φ' s',K s'∧Zy φ' M0 N D (look s'.T) (look s'.H) (a.put dst v) w'∧Zi φ (look s.H) w φ' (look s'.H) w'
 |.panicked chain=>Post N D Q φ M0 (look s.H) w (.panic chain) a w'
 |.outgrown=>False
theorem GR(Y:w'.os=w.os)(ht:w'.tape=w.tape)(hu:w'.output=w.output)(hs:w.heap.size≤w'.heap.size)(G:∀x,x<w.heap.size→w'.heap[x]?=w.heap[x]?)(r:ZX φ h w M0)(Z:Clear φ h w (w'.heap.size-w.heap.size)):Zi φ h w φ h w'∧VF φ h w φ h w'∧ZX φ h w' M0:=by
 have hh:∀b k,h b=some k→w'.heap[φ b]?=w.heap[φ b]?:=fun b k hb=>Z.lt r zo G zc
 have E:Zi φ h w φ h w':=⟨Y,ht,hu,hs,fun x J _=>G x J,fun x o J _=>by grind [World.cell?],fun _ _ _ x=>x,fun _ _ _ _ x=>⟨⟨_,x⟩,rfl⟩,
  fun t ty S n _ x=>⟨_,x,KD _,fun _=>Ve (rfl)<|zc⟩,
  fun t ty S n _ x=>⟨_,x,KD _,fun _=>⟨rfl,fun c hc=>⟨c,zc,rfl⟩⟩⟩,fun _ _ _ _ O U=>⟨⟨_,O,U⟩,rfl⟩⟩
 have X:VF φ h w φ h w':=⟨fun _ _ _ x=>⟨⟨_,_,x⟩,rfl⟩,fun t ty S n x=>⟨_,x,KD _,fun _=>Ve (rfl)<|zc⟩,
  fun t ty S n x=>⟨_,x,KD _,fun _=>⟨rfl,fun c hc=>⟨c,zc,rfl⟩⟩⟩,fun _ _ _ O U=>⟨⟨_,O,U⟩,rfl⟩⟩
 exact⟨E,X,r.inj,fun b k hb=>Ke (E.keeps M0) X (hh b k hb)<|r.blk b k hb,r.fr,fun x o J=>Nat.lt_of_lt_of_le (r.lt x o J) hs,r.gm.evol E⟩
def MB(φ:Nat→Nat)(h:QY)(w:World)(M0:ZR):ZR:=fun x o=>MM φ h M0 x o∧x<w.heap.size
theorem fG{x o:Nat}(G:MB φ h w M0 x o):x<w.heap.size:=G.2
theorem ql(J:ZX φ h w M0)(hs:w.heap.size≤w'.heap.size){o:Nat}(O:w'.cell? ⟨r,o,none⟩=some v)(G:¬MB φ h w M0 r o) :
  ¬MM (Ym φ w.heap.size<|w'.heap.size-w.heap.size) h M0 r o:=by
 have hlt:=Nq O;rintro(⟨b,k,g1,g2,g3⟩|g1)
 ·unfold Ym at g2;by_cases e:φ b<w.heap.size
  ·simp only[e,if_true] at g2;exact G ⟨.inl ⟨b,k,g1,g2,g3⟩,by omega⟩
  grind
 ·exact G ⟨.inr g1,J.lt _ _ g1⟩
theorem FE(O:∀x o,M x o→x<w.heap.size)(G:bY w)(U:∀g∈gfix,∀o,¬M g o):ZX φ R5 w M :=
 ⟨fun b c hb=>absurd rfl hb,(fun b k hb=>by cases hb),fun b hb=>absurd rfl hb,O,G,fun g G o h=>h.elim (fun⟨b,k,J,_⟩=>by cases J)<|U g G o⟩
theorem GM.mb(G:GM φ h w M0):∀g∈gfix,∀o,¬MB φ h w M0 g o:=fun g O o J=>G.m g O o J.1
theorem Jp{x o:Nat}:¬Bv φ R5 x o:=by rintro⟨b,k,G,_⟩;cases G
theorem Ig{x:AV}(hc:Zc P f args' (.ret x))(U:EO args args')(hn:Vw args'=true)(J:YC x=true)(hd:∀t,dst=some t→t<N)(hk:K (s.put dst x)):TH P N f args dst s K Q:=by
 intro φ M0 D a w vs r ha;have hH:ZX φ R5 w (MB φ (look s.H) w M0):=FE (fun x o hm=>fG hm) r.hp.gm.w r.hp.gm.mb;have hM:∀r o v,w.cell? ⟨r,o,none⟩=some v→¬MM φ (look s.H) M0 r o→w.cell? ⟨r,o,none⟩=some v∧¬MM φ R5 (MB φ (look s.H) w M0) r o:=fun r o v G Z=>⟨G,fun O=>O.elim Jp fun h4=>Z h4.1⟩
 refine(hc φ (MB φ (look s.H) w M0) w vs hH<|(J5 hM).2 _ _ hn (Uk.2 _ _ _ U ha)).mono ?_;rintro e w' ⟨φ',r',h',⟨rfl,rfl⟩,aa,E,v,rfl,hv⟩;have Y:∀ro o v,w'.cell? ⟨ro,o,none⟩=some v→¬MM φ' R5 (MB φ (look s.H) w M0) ro o→w'.cell? ⟨ro,o,none⟩=some v∧¬MM (Ym φ w.heap.size<|w'.heap.size-w.heap.size) (look s.H) M0 ro o:=fun ro o v G Z=>⟨G,ql r.hp E.size G fun O=>Z<|.inr O⟩
 obtain⟨r,E1,X1,hC⟩:=r.lift<|w'.heap.size-w.heap.size;obtain⟨E2,X2,H2⟩:=GR E.os E.tape E.output E.size (fun x J=>E.same x J fun b hb=>absurd rfl hb) r.hp hC;have r2:Zy _ M0 N D (look s.T) (look s.H) a w':=r.keep E2 X2 H2;exact⟨_,s.put dst x,hk,r2.put hd<|(J5 Y).1 _ _ J hv,by cases dst<;>exact E1.trans E2⟩
theorem OY{x:AV}(hc:Zc P f args' (.panic x))(U:EO args args')(hn:Vw args'=true)(J:YC x=true)(hk:Q (.panic x) s):TH P N f args dst s K Q:=by
 intro φ M0 D a w vs r ha;have hH:ZX φ R5 w (MB φ (look s.H) w M0):=FE (fun x o hm=>fG hm) r.hp.gm.w r.hp.gm.mb;have hM:∀r o v,w.cell? ⟨r,o,none⟩=some v→¬MM φ (look s.H) M0 r o→w.cell? ⟨r,o,none⟩=some v∧¬MM φ R5 (MB φ (look s.H) w M0) r o:=fun r o v G Z=>⟨G,fun O=>O.elim Jp fun h4=>Z h4.1⟩
 refine(hc φ (MB φ (look s.H) w M0) w vs hH<|(J5 hM).2 _ _ hn (Uk.2 _ _ _ U ha)).mono ?_;rintro e w' ⟨φ',r',h',⟨rfl,rfl⟩,aa,E,v,rfl,hv⟩;have Y:∀ro o v,w'.cell? ⟨ro,o,none⟩=some v→¬MM φ' R5 (MB φ (look s.H) w M0) ro o→w'.cell? ⟨ro,o,none⟩=some v∧¬MM (Ym φ w.heap.size<|w'.heap.size-w.heap.size) (look s.H) M0 ro o:=fun ro o v G Z=>⟨G,ql r.hp E.size G fun O=>Z<|.inr O⟩
 obtain⟨r,E1,X1,hC⟩:=r.lift<|w'.heap.size-w.heap.size;obtain⟨E2,X2,H2⟩:=GR E.os E.tape E.output E.size (fun x J=>E.same x J fun b hb=>absurd rfl hb) r.hp hC;have r2:Zy _ M0 N D (look s.T) (look s.H) a w':=r.keep E2 X2 H2;exact⟨_,.panic x,s,hk,r2,E1.trans E2,v,rfl,(J5 Y).1 _ _ J hv⟩
def ZT(ops:Array Oper)(o:Oper)(T:Nat→Option AV):Option Bool :=
 match o.guard with
|none=>some true
|some (j,want) =>
  match ops[j]? with
 |some G=>match G.dst with
  |some d=>match T d with
   |some (.p (.val (.bool b)))=>some<|b==want
   |some (.p (.val (.tuple _)))=>some false
   |_=>none
  |none=>some false
 |none=>some false
theorem Rn(r:Zy φ M0 N D T h a w){t:Bool}(G:ZT ops o T=some t) :
  Region.wanted o (yielded ops a.tmps)=t:=by
 unfold ZT at G;unfold Region.wanted;split at G
 ·grind
 ·rename_i j want U;simp only[U];split at G
  ·rename_i Y Z;split at G
   ·rename_i d hd;split at G
    ·rename_i b hb;simp only[ZA] at G;subst G;obtain⟨J,O⟩:=r.tm d _ hb;simp only[Qf,Zj] at O;have hlt:d<a.tmps.size:=by rw[r.siz];exact J
     simp_all [bool,yielded]
    ·rename_i vs hb;simp only[ZA] at G;subst G;obtain⟨J,O⟩:=r.tm d _ hb;simp only[Qf,Zj] at O;have hlt:d<a.tmps.size:=by rw[r.siz];exact J
     simp_all [yielded]
    ·cases G
   grind [yielded]
  grind [yielded]
def ZE(ops:Array Oper)(o:Oper)(T:List (Nat×AV))(t:Bool):List (Nat×AV) :=
 match o.guard with
|none=>T
|some (j,want) =>
  match ops[j]? with
 |some G=>match G.dst with
  |some d=>match look T d with
   |some (.p (.val (.bool _)))=>(d,.p<|.val<|.bool (if t then want else !want))::T
   |_=>T
  |none=>T
 |none=>T
theorem GU{T:List (Nat×AV)}{t:Bool}(G:ZT ops o (look T)=some t):look (ZE ops o T t)=look T:=by
 unfold ZT at G;unfold ZE;cases hg:o.guard with
|none=>rfl
|some p =>
  obtain⟨j,want⟩:=p;simp only[hg] at G;cases hj:ops[j]? with
 |none=>grind
 |some J =>
   simp only[hj] at G ⊢;cases hd:J.dst with
  |none=>simp only
  |some d =>
    simp only[hd] at G ⊢;split at G
    ·rename_i b hb;simp only[ZA] at G;subst G;simp only[hb];funext x;simp only[look];by_cases e:d=x
     ·subst e;simp only[if_true,hb];cases b<;>cases want<;>rfl
     ·simp[e]
    ·grind
    ·cases G
def Kk(T:Nat→Option AV):Op→Option (FuncId×List AV)
|.call ⟨.value (.func f),args,_⟩=>match A7 T args.toList with|some G=>some (f,G)|none=>none
|.call ⟨.value (.tmp t),args,_⟩ =>
  match T t,A7 T args.toList with
 |some (.fn (.func f) l m),some G=>some (f,l++G++m)
 |some (.p (.val (.func (.func f) l m))),some G=>some (f,(l.toList.map fun c=>.p<|.val c)++G++(m.toList.map fun c=>.p<|.val c))
 |_,_=>none
|_=>none
def TI(b:Bool)(A B:Prop):Prop:=(b=true→A)∧(b=false→B)
theorem Z9(A B:Prop):TI true A B=A:=by simp[TI]
theorem Lu(A B:Prop):TI false A B=B:=by simp[TI]
theorem FH{b:Bool}{A B C:Prop}(h:TI b A B)(G:b=true→A→C)(J:b=false→B→C):C:=by
 cases b
 ·exact J rfl<|h.2 rfl
 ·exact G rfl<|h.1 rfl
def Uu(s:St)(dst:Option Tmp)(u:Kv):St:=⟨match dst with|some d=>(d,u.1)::s.T|none=>s.T,match u.2.1 with|some G=>G::s.H|none=>s.H⟩
def KL(N:Nat):Option Tmp→Bool|none=>true|some d=>decide (d<N)
def zx(N:Nat)(o:Oper)(s:St)(K:St→Prop):Option Kv→Prop|some u=>KL N o.dst=true∧K (Uu s o.dst u)|none=>False
def Vx(P:Program)(f:FuncId):Bool:=(P.funcs[f]?).any fun fn=>fn.body.isSome&&fn.name != "runtime.NumGoroutine"
def lw(P:Program)(N:Nat)(o:Oper)(s:St)(K:St→Prop):Prop :=(∀c,o.op≠.defer c)∧KL N o.dst=true∧∀φ M0 D a w,Zy φ M0 N D (look s.T) (look s.H) a w→∃x s',look s'.T=look s.T∧K (St.put s' o.dst x)∧Yield P o φ M0 (look s.H) a w x (look s'.H)
def H6(P:Program)(N:Nat)(o:Oper)(s:St)(K:St→Prop)(Q:AX→St→Prop):Prop :=
 match o.op with
|.pick c x y=>match Zn (look s.T) c with
 |some (.p (.val (.bool b)))=>TI b (zx N o s K<|WT (look s.T) x)<|zx N o s K<|WT (look s.T) y
 |_=>False
|.panic x=>match Zn (look s.T) x with|some (.ifc t v)=>Q (.panic<|.ifc t v) s|_=>False
|.call ⟨.value f,args,ts⟩=>match Kk (look s.T) (.call ⟨.value f,args,ts⟩) with
 |some (f,args)=>Vx P f=true∧TH P N f args o.dst s K Q
 |none=>False
|_=>zx N o s K (We P o (look s.T)<|look s.H)∨lw P N o s K
def YAt(P:Program)(l:Nat)(args:Array Value)(w:World)(R:Ending→World→Prop):Prop:=YieldAt Fence.wide 0 P l args w R
def Qb6(P:Program)(b:Nat)(args:List AV)(h:QY)(R:KQ→QY→Prop):Prop :=∀φ M0 w G,ZX φ h w M0→Ql φ h w (MM φ h M0) args G→YAt P (φ b) G.toArray w fun e w' =>∃φ' r h',R r h'∧ZX φ' h' w' M0∧Zi φ h w φ' h' w'∧Qb5 φ' h' w' (MM φ' h' M0) r e
def YEx(P:Program)(N:Nat)(b:Nat)(args:List AV)(dst:Option Tmp)(s:St)(K:St→Prop)(Q:AX→St→Prop):Prop :=
 ∀φ M0 D a w G,Zy φ M0 N D (look s.T) (look s.H) a w→Ql φ (look s.H) w (MM φ (look s.H) M0) args G→YAt P (φ b) G.toArray w fun e w' =>
  match e with
 |.returned v=>∃φ' s',K s'∧Zy φ' M0 N D (look s'.T) (look s'.H) (a.put dst v) w'∧Zi φ (look s.H) w φ' (look s'.H) w'
 |.panicked chain=>Post N D Q φ M0 (look s.H) w (.panic chain) a w'
 |.outgrown=>False
def yieldOf(T:Nat→Option AV):Op→Option (Nat×List AV)
|.call ⟨.value (.tmp t),args,_⟩ =>
  match T t with
 |some (.yv b)=>match A7 T args.toList with|some G=>some (b,G)|none=>none
 |_=>none
|_=>none
def YOp(P:Program)(N:Nat)(o:Oper)(s:St)(K:St→Prop)(Q:AX→St→Prop):Option (Nat×List AV)→Prop|some (b,args)=>YEx P N b args o.dst s K Q|none=>H6 P N o s K Q
def YG(P:Program)(N:Nat)(ops:Array Oper)(Q:AX→St→Prop):List Oper→St→Prop
|[],s=>Q .normal s
|o::rest,s =>
  match ZT ops o (look s.T) with
 |some b=>TI b (YOp P N o ⟨ZE ops o s.T true,s.H⟩ (YG P N ops Q rest) Q<|yieldOf (look<|ZE ops o s.T true) o.op)<|KL N o.dst=true∧YG P N ops Q rest (St.put ⟨ZE ops o s.T false,s.H⟩ o.dst<|.p<|.val undef)
 |none=>False
theorem Kc{d:Option Tmp}(G:KL N d=true):∀t,d=some t→t<N:=by
 rintro t rfl
 grind [KL]
theorem H7{args:Array Value}(hf:(P.funcs[f]?).any (fun fn=>fn.body.isSome&&fn.name != "runtime.NumGoroutine")=true):(callFunc f args).run P w=.ok (.enter f args) w:=by
 cases hq:P.funcs[f]? with
|none=>grind
|some fn =>
  simp only[hq,Option.any_some,Ku,bne_iff_ne] at hf;have G:¬fn.body=none:=by grind
  simp[callFunc,program,Sem.run,hq,G,hf.2]
theorem Oper.wp_mono2{K K':Act→World→Prop}{Q:Exit→Act→World→Prop}(hh:o.wp P a w K Q)(h:∀a w,K a w→K' a w)(J:∀e a w,Q e a w→Q' e a w):o.wp P a w K' Q':=by
 unfold Oper.wp at *;generalize (execOp a.eval o).run P w=r at *;cases r with
|ok n w' =>
  cases n<;>simp only[Oper.upon] at hh ⊢ <;>
   first
   |exact h _ _ hh
   |exact Calls.mono hh (fun e w'' G=>by cases e<;>first|exact h _ _ G|exact J _ _ _ G|exact⟨_,_,J _ _ _ G.choose_spec.choose_spec⟩)
   |exact Rows.mono hh (fun _ _ G=>h _ _ G)
|halt x w'=>cases x<;>simp only[Oper.upon] at hh ⊢<;>exact J _ _ _ hh
theorem PQ(r:Zy φ M0 N D T h a w)(hf:Kk T o.op=some (f,args))(hb:Vx P f=true):∃U:List Value,Ql φ h w (MM φ h M0) args U∧(execOp a.eval o).run P w=.ok (.enter f U.toArray) w:=by
 unfold Kk at hf;split at hf
 ·rename_i f0 G ts Z;split at hf
  ·rename_i U J;simp only[ZA,LK] at hf;obtain⟨rfl,rfl⟩:=hf;refine⟨G.toList.map a.eval,Rj r J,?_⟩;have e1:G.map a.eval=(G.toList.map a.eval).toArray:=by grind
   simp only[execOp,Z,resolve,Act.eval,Deferred.ofValue,Sem.run_bind,Sem.run_pure,Result.andThen_ok,invoke];rw[H7 hb]
   grind
  ·cases hf
 ·rename_i t G ts Z;split at hf
  ·rename_i f0 l m U ht J;simp only[ZA,LK] at hf;obtain⟨rfl,rfl⟩:=hf;have Y:=(r.tm t _ ht).2;simp only[Qf] at Y;obtain⟨l',m',h3,h4,h5⟩:=Y;refine⟨l'++G.toList.map a.eval++m',ZZ (ZZ h4<|Rj r J) h5,?_⟩;have O:a.eval (.tmp t)=.func (.func f0) l'.toArray m'.toArray:=h3;simp only[execOp,Z,resolve,O,Deferred.ofValue,Sem.run_bind,Sem.run_pure,Result.andThen_ok,invoke];rw[H7 hb];simp
  ·rename_i f0 l m U ht J;simp only[ZA,LK] at hf;obtain⟨rfl,rfl⟩:=hf;have Y:=(r.tm t _ ht).2;simp only[Qf,Zj] at Y;refine⟨l.toList++G.toList.map a.eval++m.toList,ZZ (ZZ (Rf _)<|Rj r J)<|Rf _,?_⟩;have O:a.eval (.tmp t)=.func (.func f0) l m:=Y;simp only[execOp,Z,resolve,O,Deferred.ofValue,Sem.run_bind,Sem.run_pure,Result.andThen_ok,invoke];rw[H7 hb];simp
  ·cases hf
 ·cases hf
theorem fH{u:Kv}(hd:KL N o.dst=true)(O:K (Uu s o.dst u))(hy:Yield P o φ M0 (look s.H) a w u.1 (ap (look s.H) u.2.1))(r:Zy φ M0 N D (look s.T) (look s.H) a w) :
  o.wp P a w (fun a' w'=>∃φ' s',K s'∧Zy φ' M0 N D (look s'.T) (look s'.H) a' w'∧Zi φ (look s.H) w φ' (look s'.H) w') (Post N D Q φ M0 (look s.H) w):=by
 obtain⟨nx,v,w',φ',Z,h2,h3,h4,U,Y⟩:=hy
 have G:look (Uu s o.dst u).H=ap (look s.H) u.2.1:=by
  unfold Uu ap;cases hq:u.2.1 with
 |none=>rfl
 |some bk=>rfl
 have J:Zy φ' M0 N D (look (Uu s o.dst u).T) (look (Uu s o.dst u).H) (a.put o.dst v) w':=by
  have r3:Zy φ' M0 N D (look s.T) (ap (look s.H) u.2.1) a w':=r.keep U Y h4;rw[G];have:=Zy.put (s:=⟨s.T,(Uu s o.dst u).H⟩) (d:=o.dst) (x:=u.1) (v:=v) (by rw[G];exact r3) (Kc hd) zc;rw[←G];cases hq:o.dst with
 |none=>rw[hq] at this;exact this
 |some d=>rw[hq] at this;exact this
 unfold Oper.wp;rw[Z];rcases h2 with rfl|⟨rfl,rfl⟩
 ·exact⟨φ',_,O,J,zc⟩
 ·exact⟨φ',_,O,J,zc⟩
theorem Qb7(h:lw P N o s K)(r:Zy φ M0 N D (look s.T) (look s.H) a w) :
  o.wp P a w (fun a' w'=>∃φ' s',K s'∧Zy φ' M0 N D (look s'.T) (look s'.H) a' w'∧Zi φ (look s.H) w φ' (look s'.H) w') (Post N D Q φ M0 (look s.H) w):=by
 obtain⟨_,hd,h⟩:=h;obtain⟨x,s1,O,J,nx,v,w',φ',h1,h2,U,h4,Y,Z⟩:=h φ M0 D a w r;have r3:Zy φ' M0 N D (look s1.T) (look s1.H) a w':=by rw[O];exact r.keep Y Z h4
 have G:Zy φ' M0 N D (look (s1.put o.dst x).T) (look (s1.put o.dst x).H) (a.put o.dst v) w':=Zy.put (s:=s1) (d:=o.dst) (x:=x) (v:=v) r3 (Kc hd) U;have hH:(s1.put o.dst x).H=s1.H:=by cases hq:o.dst<;>rfl
 unfold Oper.wp;rw[h1];rcases h2 with rfl|⟨rfl,rfl⟩
 ·exact⟨φ',_,J,G,zc⟩
 ·exact⟨φ',_,J,G,zc⟩
theorem ND(h:H6 P N o s K Q)(r:Zy φ M0 N D (look s.T) (look s.H) a w) :
  o.wp P a w (fun a' w'=>∃φ' s',K s'∧Zy φ' M0 N D (look s'.T) (look s'.H) a' w'∧Zi φ (look s.H) w φ' (look s'.H) w') (Post N D Q φ M0 (look s.H) w):=by
 unfold H6 at h;split at h
 ·rename_i c x y U;split at h
  ·rename_i b hc
   have G:∀z,zx N o s K (WT (look s.T) z)→Pe (look s.T) c x y=WT (look s.T) z →
     o.wp P a w (fun a' w'=>∃φ' s',K s'∧Zy φ' M0 N D (look s'.T) (look s'.H) a' w'∧Zi φ (look s.H) w φ' (look s'.H) w') (Post N D Q φ M0 (look s.H) w):=by
    intro z J hp;cases hm:WT (look s.T) z with
   |none=>rw[hm] at J;exact J.elim
   |some u =>
     rw[hm] at J hp;have:=lg (P:=P) r U hp;exact fH J.1 J.2 (by rw[this.1];exact this.2.2) r
   refine FH h (fun hb J=>G x J ?_) fun hb J=>G y J ?_
   ·grind [Pe]
   grind [Pe]
  grind
 ·rename_i y U;split at h
  ·rename_i t v hv;have Y:=r.ev hv;have O:=Y;simp only[Qf] at O;obtain⟨z,Z,h4⟩:=O;unfold Oper.wp
   have:(execOp a.eval o).run P w=.halt (.panic<|a.eval y) w:=by
    simp[execOp,U,Z,Instr.panic,goPanic]
   rw[this];exact⟨φ,.panic<|.ifc t v,s,h,r,Zi.refl _ _ _,_,rfl,Y⟩
  grind
 ·rename_i f aa ts U;split at h
  ·rename_i f0 args hf;obtain⟨hb,hcall⟩:=h;obtain⟨vs,h1,Y⟩:=PQ (o:=o) r (by rw[U];exact hf) hb;unfold Oper.wp;rw[Y];simp only[Oper.upon];refine(hcall φ M0 D a w vs r h1).mono ?_
   grind
  grind
 ·rcases h with h|h
  ·cases hu:We P o (look s.T) (look s.H) with
  |none=>rw[hu] at h;exact h.elim
  |some u=>rw[hu] at h;exact fH h.1 h.2 (Qb4 r hu) r
  ·exact Qb7 h r
theorem QhR{K:Act→World→Prop}{Q:Exit→Act→World→Prop}(h:o.wp P a w K Q)(G:∀c,o.op≠.defer c):o.wpIn (wd ro) 0 P a w K Q:=by
 refine⟨fun _ _=>trivial,?_⟩;rw[Oper.semAt_eq _ _ _ G];unfold Oper.wp at h;generalize (execOp a.eval o).run P w=r at *;cases r with
|ok n w' =>
  cases n with
 |enter f args=>exact⟨(fun h=>by cases h),callsIn_wide.2 h⟩
 |row row args =>
   refine⟨(fun h=>by cases h),fun c cs _=>?_⟩;obtain⟨v,U,O,J⟩:=(h:Rows P row args w' _) c cs;exact⟨v,U,O,stepsIn_wide.2 J⟩
 |value v=>exact h
 |skip=>exact h
 |defer d=>exact h
 |_=>exact h.elim
|halt x w'=>cases x<;>assumption
theorem Qb8(h:H6 P N o s K Q):∀c,o.op≠.defer c:=by
 intro c G;unfold H6 at h;simp only[G,We] at h;rcases h with h|h
 ·exact h
 ·exact h.1 _ G
theorem Qb9{K:Act→World→Prop}{Q:Exit→Act→World→Prop}{l:Nat}{args:Array Value}(G:(execOp a.eval o).run P w=(Instr.yield l args).run P w)(U:∀c,o.op≠.defer c)(h:YAt P l args w fun
  |.returned v,w''=>K (a.put o.dst v) w''
  |.panicked chain,w''=>Q (.panic chain) a w''
  |.outgrown,_=>LetsOut Q):o.wpIn (wd ro) 0 P a w K Q:=by
 refine⟨fun _ _=>trivial,?_⟩;rw[Oper.semAt_eq _ _ _ U,G];obtain⟨fn,tmps,assign,body,J,O⟩:=h;rw[J];exact⟨(fun h=>by cases h),O⟩
theorem fI(r:Zy φ M0 N D T h a w)(hf:yieldOf T o.op=some (b,args)) :
  ∃O:List Value,Ql φ h w (MM φ h M0) args O∧(execOp a.eval o).run P w=(Instr.yield (φ b) O.toArray).run P w∧∀c,o.op≠.defer c:=by
 unfold yieldOf at hf;split at hf
 ·rename_i t G ts ho;split at hf
  ·rename_i b0 Z;split at hf
   ·rename_i O J;simp only[ZA,LK] at hf;obtain⟨rfl,rfl⟩:=hf;have U:=(r.tm t _ Z).2;simp only[Qf] at U;have Y:a.eval (.tmp t)=.func (.yield<|φ b0) #[] #[]:=U.1;refine⟨G.toList.map a.eval,Rj r J,?_,fun c hc=>by grind⟩;have e1:G.map a.eval=(G.toList.map a.eval).toArray:=by grind
    grind [execOp,resolve,Deferred.ofValue,invoke]
   ·cases hf
  ·cases hf
 ·cases hf
theorem Oper.wpIn_mono2{F:Fence}{K K':Act→World→Prop}{Q:Exit→Act→World→Prop}(hh:o.wpIn F n P a w K Q)(h:∀a w,K a w→K' a w)(J:∀e a w,Q e a w→Q' e a w):o.wpIn F n P a w K' Q':=by
 unfold Oper.wpIn at *;refine⟨hh.1,?_⟩;have hh:=hh.2;generalize (o.semAt F.round a.eval).run P w=r at *;cases r with
|ok x w' =>
  cases x<;>simp only[Oper.uponIn] at hh ⊢ <;>
   first
   |exact h _ _ hh
   |exact⟨hh.1,CallsIn.mono hh.2 (fun e w'' G=>by cases e<;>first|exact h _ _ G|exact J _ _ _ G|exact⟨_,_,J _ _ _ G.choose_spec.choose_spec⟩)⟩
   |exact⟨hh.1,RowsIn.mono hh.2 (fun _ _ G=>h _ _ G)⟩
   |exact⟨hh.1,RoundIn.mono hh.2 (fun e w'' G=>by cases e<;>first|exact h _ _ G|exact J _ _ _ G|exact⟨_,_,J _ _ _ G.choose_spec.choose_spec⟩)⟩
|halt x w'=>cases x<;>simp only[Oper.uponIn] at hh ⊢<;>exact J _ _ _ hh
theorem QiL(h:YOp P N o s K Q (yieldOf (look s.T) o.op))(r:Zy φ M0 N D (look s.T) (look s.H) a w) :
  o.wpIn (wd ro) 0 P a w (fun a' w'=>∃φ' s',K s'∧Zy φ' M0 N D (look s'.T) (look s'.H) a' w'∧Zi φ (look s.H) w φ' (look s'.H) w') (Post N D Q φ M0 (look s.H) w):=by
 cases hy:yieldOf (look s.T) o.op with
|none=>rw[hy] at h;exact QhR (ND h r)<|Qb8 h
|some p =>
  obtain⟨b,args⟩:=p;rw[hy] at h;obtain⟨J,O,U,G⟩:=fI (P:=P) (w:=w) r hy;refine Qb9 U G ?_;obtain⟨fn,tmps,assign,body,g1,g2⟩:=h φ M0 D a w J r O;refine⟨fn,tmps,assign,body,g1,g2.mono ?_⟩
  grind
end Go.Abs
