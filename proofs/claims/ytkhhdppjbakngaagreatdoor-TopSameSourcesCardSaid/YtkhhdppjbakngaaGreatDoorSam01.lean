/-
  A part of the proof of a statement of the seat YtkhhdppjbakngaaGreatDoor.
-/
import Derived.Below
import Derived.Orders
import Derived.Lib.ItoaNum
import Derived.Sort.LoopGhostIn
import Derived.OrdersIn
import Derived.Scope
import Derived.Laws.AppendOwn
import Derived.Laws.StructEq
import Derived.Laws.MakeOwn
import Derived.RangeFuncRecord
import Derived.RangeFuncLeaves
import Derived.RangeFuncSeq
import Derived.Recover
import Derived.KernelRfl
import Derived.LoopNIn
import Derived.ProofKit
import Derived.OpenShut
import Derived.WideKeyArgs
import Derived.RowKit3
import Derived.JoinedCond
import Derived.ChangeSame
import Derived.Maps.RangeRun
import Derived.Laws.BytesString
import Derived.Lib.AppendStr
import Derived.ChangeKeysEq
import Derived.Test.YtkhhdppjbakngaaGreatDoorProg
import Derived.WalkKit
import Derived.Lib.Builder
import Derived.Laws.Externs
import Derived.Laws.IdiomCopy
import Derived.Laws.BitsLemmas
import Derived.Shelf.RegionOpenPlain
import Derived.Lib.UnsafeStr
import Derived.Lib.Strings
import Derived.Lib.Slices
import Derived.Lib.Walk
import Derived.Shelf.Strconv.Itoa3
import Derived.Shelf.Strconv.Itoa0
import Derived.Shelf.Strconv.Itoa1
import Derived.Shelf.LaysM
import Derived.Shelf.Strconv.Itoa2
import Derived.Lib.LaidTab
import Derived.Lib.Bytealg
import Derived.Lib.IndexMore
import Derived.Test.YtkhhdppjbakngaaGreatDoorRows
import Derived.Test.YtkhhdppjbakngaaGreatDoorTie
import Derived.Test.YtkhhdppjbakngaaGreatDoorCards
import Derived.LaidMore
import Derived.Lay
import Derived.MakeChecks
import Derived.SevenTiedAt
import Derived.LaidLaws
set_option linter.unusedVariables false
namespace Go
theorem ZX{p:Prop}[i:Decidable p](h:¬p):decide p=false:=decide_eq_false h
theorem Z9{p:Prop}[i:Decidable p](h:p):decide p=true:=decide_eq_true h
theorem Zf{α β:Type}(a:α)(f:α→Option β):(some a).bind f=f a:=Option.bind_some a f
theorem QW{α:Type}{a b:α}:(some a=some b)=(a=b):=Option.some.injEq a b
theorem ZG{a b:Bool}:((a&&b)=true)=(a=true∧b=true):=Bool.and_eq_true a b
theorem zo{p:Prop}(h:p:=by omega):p:=h
theorem zq{p:Prop}(h:p:=by simp):p:=h
theorem Vv{α:Type}{xs ys:List α}:(xs++ys).length=xs.length+ys.length:=List.length_append
theorem Vr{α:Type}{a:α}{xs:List α}:(a::xs).length=xs.length+1:=List.length_cons
theorem Ls{α:Type}{xs:Array α}{i:Nat}{b:α}:xs[i]?=some b↔∃h:i<xs.size,xs[i]=b:=Array.getElem?_eq_some_iff
theorem RY{α:Type}{x:Option α}:x.isSome=true↔∃a,x=some a:=Option.isSome_iff_exists
theorem GU{α β:Type}{x:Option α}{f:α→β}{b:β}:x.map f=some b↔∃a,x=some a∧f a=b:=Option.map_eq_some_iff
theorem SH{α:Type}{o:Option α}:o≠none↔∃x,o=some x:=Option.ne_none_iff_exists'
theorem Kb{α:Type}{a b:α}:cond true a b=a:=rfl
theorem Km{α:Type}{a b:α}:cond false a b=b:=rfl
theorem Yy{α β:Type}{f:α→β}{a:α}{l:List α}:(a::l).map f=f a::l.map f:=rfl
theorem Jd{α β:Type}{xs:List α}(f:α→β):(xs.map f).length=xs.length:=List.length_map f
theorem Xu{α β:Type}(a:α)(b:β)(c:α)(d:β):((a,b)=(c,d))=(a=c∧b=d):=Prod.mk.injEq a b c d
theorem Fh{p:Prop}[Decidable p]:(decide p=true)=p:=decide_eq_true_eq
theorem Kt(n:Nat):n≤n:=Nat.le_refl n
theorem GV{α:Type}{i:Nat}{l:List α}:(l.drop i).length=l.length-i:=List.length_drop
theorem Xb{α:Type}{p:α→Bool}{l:List α}:l.all p=true↔∀x,x∈l→p x=true:=List.all_eq_true
theorem PS{α β:Type}{o:Option α}{f:α→Option β}{b:β}:o.bind f=some b↔∃a,o=some a∧f a=some b:=Option.bind_eq_some_iff
theorem CS{α:Type}{b:α}{xs:List α}{i:Nat}:xs[i]?=some b↔∃h:i<xs.length,xs[i]=b:=List.getElem?_eq_some_iff
end Go
namespace Go.Abs
open Go
variable {N:Nat}{P:Program}{a:Act}{b:Nat}{c:Code}{c':Array Value}{d:Nat}{dst:Option Tmp}{e:TypeId}{en:Array MapEntry}{f:FuncId}{hi:Option Operand}{i id:Nat}{ix:Operand}{j:Nat}{kt:TypeId}{len:Nat}{lo:Option Operand}{n:Nat}{o:Oper}{off:Nat}{ok:Bool}{op:BinOp}{parts:Array (Nat×Operand)}{r r':Nat}{ro:Option Nat}{tx ty:TypeId}{v:Value}{w w' w'':World}{x y:Operand}{z:Value}{α β:Type}{φ φ':Nat→Nat}
def kindsTab:List (List UInt8):=[[],[102,101,101,100,101,114],[99,97,98,108,101],[111,119,110,101,114],[99,111,110,116,114,97,99,116],[99,104,97,114,103,101,114],[98,97,121],[116,97,114,105,102,102]]
def gfix:List Nat:=[0,1]
def uG(w:World):Prop:=(∃ty G,w.heap[0]?=some (.cells (kindsTab.map fun k=>Value.string ⟨k.toArray⟩).toArray ty G))∧∃ty G,w.heap[1]?=some (.cells (Lib.pow10Tab.map fun z=>Value.int .u64 z).toArray ty G)
theorem vS(h:∀g∈gfix,w'.heap[g]?=w.heap[g]?)(hw:uG w):uG w':=by
 obtain⟨⟨ty,O,h0⟩,MV,G,J⟩:=hw;exact⟨⟨ty,O,by rw[h 0 (by simp[gfix])];exact h0⟩,MV,G,by rw[h 1 (by simp[gfix])];exact J⟩
theorem kw(hw:uG w):∀g∈gfix,g<w.heap.size:=fun g G=>by
 obtain⟨⟨ty,U,h0⟩,MV,J,O⟩:=hw;simp only[gfix,List.mem_cons,List.not_mem_nil,or_false] at G;rcases G with rfl|rfl
 ·exact(Ls.1 h0).1
 ·exact(Ls.1 O).1
theorem Qfe(hw:uG w):∀g∈gfix,∀l,w.heap[g]?≠some (.deferred l):=fun g G l h=>by
 obtain⟨⟨ty,U,h0⟩,MV,J,O⟩:=hw;simp only[gfix,List.mem_cons,List.not_mem_nil,or_false] at G;rcases G with rfl|rfl
 ·rw[h0] at h;cases h
 ·rw[O] at h;cases h
inductive PV where
|val (x:Value)
|sl (S:Nat) (es:List (List PV))
variable {es':List (List PV)}
inductive AV where
|p (x:PV)
|tsl (S:Nat) (es:List (List PV)) (t:Nat)
|ptr (b off:Nat)
|eptr (cs:List PV)
|agg (cs:List AV)
|tup (vs:List AV)
|fn (f:Fn) (first captured:List AV)
|ifc (t:TypeId) (x:AV)
|vnil
|vsl (S t n:Nat)
|vptr (t n k f:Nat)
|yv (b:Nat)
|mv (b:Nat)
|bsl (b n:Nat)
|sfp (b:Nat)
|iv (b:Nat)
variable {T T':Nat→Option AV}{args args':List AV}{es:List (Bool×List UInt8×AV)}
structure TJ where
 N:Nat
 fn:FuncId
 ps:Array Tmp
 assign:Code
 body:Code
inductive Blk where
|box (ty:TypeId) (cs:List AV)
|arr (ty:TypeId) (S n:Nat)
|vec (ty:TypeId) (S:Nat) (es:List (List PV))
|lp (T:List (Nat×AV)) (nf:TJ) (st:LoopState) (pd:Option Code)
|mp (es:List (Value×PV))
|mf (es:List (Bool×List UInt8×AV))
|mg (en:Array MapEntry) (clock:Nat) (es:List (Bool×List UInt8×AV))
|it (m clock:Nat) (seen:Array Nat)
variable {k0:Blk}
inductive OB where
|lp (T:List (Nat×AV)) (nf:TJ)
|mp
def Blk.ob:Blk→Option OB|.lp T nf _ _=>some (.lp T nf)|.mp _=>some .mp|.mf _=>some .mp|.mg _ _ _=>some .mp|.it _ _ _=>some .mp|_=>none
def look{α:Type}:List (Nat×α)→Nat→Option α|[],_=>none|(k,v)::l,t=>if k=t then some v else look l t
abbrev QN:=Nat→Option Blk
variable {h h':QN}
abbrev ZK:=Nat→Nat→Prop
variable {M M' M0:ZK}
mutual
def QM(w:World)(M:ZK):PV→Value→Prop|.val x,v=>v=x|.sl S es,v=>(∃r o cap,v=.slice (some ⟨r,o,none⟩) es.length cap∧es.length≤cap∧Wl w M S r o es)∨(es=[]∧∃a cap,v=.slice a 0 cap)
def Wj(w:World)(M:ZK)(r:Nat):Nat→List PV→Prop|_,[]=>True|o,c::cs=>(∃v,w.cell? ⟨r,o,none⟩=some v∧¬M r o∧v.oneCell'=true∧QM w M c v)∧Wj w M r (o+1) cs
def Wl(w:World)(M:ZK)(S r:Nat):Nat→List (List PV)→Prop|_,[]=>True|o,e::es=>(e.length=S∧Wj w M r o e)∧Wl w M S r (o+S) es
end
mutual
def Qe(φ:Nat→Nat)(h:QN)(w:World)(M:ZK):AV→Value→Prop|.p x,v=>QM w M x v|.tsl S es t,v=>QM w M (.sl S es) v∧∃ty n,h t=some (.arr ty S n)∧es.length≤n ∧ (es.length=n→(n=0∧v=.slice none 0 0∧w.heap[φ t]?=none)∨∃cap c,v=.slice (some ⟨φ t,0,none⟩) n cap∧w.heap[φ t]?=some (.cells c ty (0,0))∧c.size=cap*S∧n≤cap∧cap≤maxLen)|.ptr b off,v=>v=.pointer (some ⟨φ b,off,none⟩)∧∃ty cs,h b=some (.box ty cs)|.eptr cs,v=>∃r o,v=.pointer (some ⟨r,o,none⟩)∧Wj w M r o cs|.agg cs,v=>∃l:List Value,v=.agg l.toArray∧Qi φ h w M cs l|.tup G,v=>∃l:List Value,v=.tuple l.toArray∧Qi φ h w M G l|.fn f a b,v=>∃l m:List Value,v=.func f l.toArray m.toArray∧Qi φ h w M a l∧Qi φ h w M b m|.ifc t x,v=>∃y,v=.iface t y∧Qe φ h w M x y|.vnil,v=>v=.slice none 0 0|.vsl S t n,v=>v.oneCell'=true∧∃ty es,h t=some (.vec ty S es)∧n≤es.length ∧ (n=es.length→∃cap c,v=.slice (some ⟨φ t,0,none⟩) n cap∧w.heap[φ t]?=some (.cells c ty (0,0))∧c.size=cap*S∧n≤cap∧cap≤maxLen)|.vptr t n k f,v=>v.oneCell'=true∧∃ty S es,h t=some (.vec ty S es)∧n≤es.length∧(n=es.length→v=.pointer (some ⟨φ t,k*S+f,none⟩))|.yv b,v=>v=.func (.yield (φ b)) #[] #[]∧∃k T nf,h b=some k∧k.ob=some (.lp T nf)|.mv b,v=>v=.map (some (φ b))∧∃k,h b=some k∧k.ob=some .mp|.bsl b n,v=>v=.slice (some ⟨φ b,0,none⟩) n n∧∃ty cs,h b=some (.box ty cs)|.sfp b,v=>(v=.pointer none∨v=.pointer (some ⟨φ b,0,none⟩))∧∃ty cs,h b=some (.box ty cs)|.iv b,v=>v=.pointer (some ⟨φ b,0,none⟩)∧∃k,h b=some k∧k.ob=some .mp
def Qi(φ:Nat→Nat)(h:QN)(w:World)(M:ZK):List AV→List Value→Prop|[],l=>l=[]|x::xs,l=>∃y ys,l=y::ys∧Qe φ h w M x y∧Qi φ h w M xs ys
end
def TK(φ:Nat→Nat)(h:QN):ZK:=fun r o=>∃b k,h b=some k∧φ b=r∧(match k with|.arr _ S n=>n*S≤o|_=>True)
def MM(φ:Nat→Nat)(h:QN)(M0:ZK):ZK:=fun r o=>TK φ h r o∨M0 r o
def Rm(es:List (Bool×List UInt8×AV)):List (Bool×List UInt8×AV):=es.filter (·.1)
def TU(k:List UInt8):Value:=.string ⟨k.toArray⟩
def Gi(en:Array MapEntry)(clock:Nat):Prop:=(en.toList.map (·.born)).Pairwise (·<·)∧∀e∈en.toList,e.born<clock
def RelB(φ:Nat→Nat)(h:QN)(w:World)(M:ZK)(r:Nat):Blk→Prop|.box ty cs=>∃c:Array Value,w.heap[r]?=some (.cells c ty (0,0))∧Qi φ h w M cs c.toList|.arr ty S n=>(n=0∧w.heap[r]?=none)∨∃(c:Array Value) (cap:Nat),w.heap[r]?=some (.cells c ty (0,0))∧c.size=cap*S∧n≤cap∧cap≤maxLen|.vec ty S es=>∃(c:Array Value) (cap:Nat),w.heap[r]?=some (.cells c ty (0,0))∧c.size=cap*S∧es.length≤cap∧cap≤maxLen∧(∀e∈es,e.length=S) ∧ (∀v∈c.toList,v.oneCell'=true)∧Qi φ h w M (es.flatten.map .p) (c.toList.take (es.length*S))|.lp T nf st pd=>∃(tmps:Array Value) (d:Nat),w.heap[r]?=some (.loop { state:=st,pending:=pd,fn:=nf.fn,tmps:=tmps,params:=nf.ps,assign:=nf.assign,body:=nf.body,defers:=d })∧tmps.size=nf.N ∧ ∀t x,look T t=some x→t<nf.N∧Qe φ h w M x (tmps.getD t undef)|.mp es=>∃(en:Array MapEntry) (clock:Nat),w.heap[r]?=some (.map en clock)∧en.toList.map (·.key)=es.map (·.1)∧Qi φ h w M (es.map fun p=>.p p.2) (en.toList.map (·.val))|.mf es=>∃(en:Array MapEntry) (clock:Nat),w.heap[r]?=some (.map en clock)∧en.toList.map (·.key)=(Rm es).map (fun e=>TU e.2.1)∧Qi φ h w M ((Rm es).map (·.2.2)) (en.toList.map (·.val))∧Gi en clock|.mg en clock es=>w.heap[r]?=some (.map en clock)∧en.toList.map (·.key)=(Rm es).map (fun e=>TU e.2.1)∧Qi φ h w M ((Rm es).map (·.2.2)) (en.toList.map (·.val))∧Gi en clock|.it m clock seen=>w.heap[r]?=some (.mapIter (some (φ m)) clock seen clock)∧∃k,h m=some k∧k.ob=some .mp
structure GM(φ:Nat→Nat)(h:QN)(w:World)(M0:ZK):Prop where
 w:uG w
 m:∀g∈gfix,∀o,¬MM φ h M0 g o
structure ZN(φ:Nat→Nat)(h:QN)(w:World)(M0:ZK):Prop where
 inj:∀b c,h b≠none→h c≠none→φ b=φ c→b=c
 blk:∀b k,h b=some k→RelB φ h w (MM φ h M0) (φ b) k
 fr:∀b,h b≠none→∀o,¬M0 (φ b) o
 lt:∀r o,M0 r o→r<w.heap.size
 gm:GM φ h w M0
def AKept(w w':World)(r r':Nat)(ty:TypeId):Prop :=(w.heap[r]?=none→w'.heap[r']?=none)∧(w.heap[r]?=none∨r'=r∧∀c,w.heap[r]?=some (.cells c ty (0,0))→∃c',w'.heap[r]?=some (.cells c' ty (0,0))∧c'.size=c.size)
theorem Yz(e:r'=r)(h:w'.heap[r]?=w.heap[r]?):AKept w w' r r' ty:=by
 subst e;exact⟨fun G=>h.trans G,.inr ⟨rfl,fun c hc=>⟨c,h.trans hc,rfl⟩⟩⟩
theorem Me(h:w.heap[r]?=none)(h':w'.heap[r']?=none):AKept w w' r r' ty:=⟨fun _=>h',.inl h⟩
theorem AO{l:Array α}(h:l[r]?=none):l.size≤r:=Array.getElem?_eq_none_iff.1 h
theorem Z6{l:Array α}(h:l.size≤r):l[r]?=none:=Array.getElem?_eq_none_iff.2 h
theorem AKept.trans{G:Nat}(hs:w.heap.size≤w'.heap.size)(a:AKept w w' r r' ty)(b:AKept w' w'' r' G ty):AKept w w'' r G ty:=by
 refine⟨fun h=>b.1 (a.1 h),?_⟩;rcases a.2 with h7|⟨h7,Z⟩
 ·exact .inl h7
 rcases b.2 with U|⟨U,h10⟩
 ·rw[h7] at U;exact .inl (Z6 (Nat.le_trans hs (AO U)))
 refine .inr ⟨U.trans h7,fun c hc=>?_⟩;obtain⟨c',hc',W⟩:=Z c hc;rw[h7] at h10;obtain⟨Y,O,J⟩:=h10 c' hc';exact⟨Y,O,J.trans W⟩
structure Q8(φ:Nat→Nat)(h:QN)(w:World)(φ':Nat→Nat)(h':QN)(w':World):Prop where
 os:w'.os=w.os
 tape:w'.tape=w.tape
 output:w'.output=w.output
 size:w.heap.size≤w'.heap.size
 same:∀r,r<w.heap.size→(∀b,h b≠none→φ b≠r)→w'.heap[r]?=w.heap[r]?
 cell:∀r o,r<w.heap.size→¬TK φ h r o→w'.cell? ⟨r,o,none⟩=w.cell? ⟨r,o,none⟩
 mu:∀r o,r<w.heap.size→TK φ' h' r o→TK φ h r o
 kb:∀b ty cs,1000≤b→h b=some (.box ty cs)→(∃cs',h' b=some (.box ty cs'))∧φ' b=φ b
 kt:∀t ty S n,1000≤t→h t=some (.arr ty S n)→∃n',h' t=some (.arr ty S n')∧n≤n' ∧
  (n'=n→AKept w w' (φ t) (φ' t) ty)
 kv:∀t ty S es,1000≤t→h t=some (.vec ty S es)→∃es',h' t=some (.vec ty S es')∧es.length≤es'.length ∧
  (es'.length=es.length→φ' t=φ t∧∀c,w.heap[φ t]?=some (.cells c ty (0,0))→∃c',w'.heap[φ t]?=some (.cells c' ty (0,0))∧c'.size=c.size)
 ko:∀b k x,1000≤b→h b=some k→k.ob=some x→(∃k',h' b=some k'∧k'.ob=some x)∧φ' b=φ b
theorem Q8.refl(φ:Nat→Nat)(h:QN)(w:World):Q8 φ h w φ h w :=
 ⟨rfl,rfl,rfl,Kt _,fun _ _ _=>rfl,fun _ _ _ _=>rfl,fun _ _ _ x=>x,fun _ _ _ _ x=>⟨⟨_,x⟩,rfl⟩,fun _ _ _ _ _ x=>⟨_,x,Kt _,fun _=>Yz (rfl) rfl⟩,fun _ _ _ _ _ x=>⟨_,x,Kt _,fun _=>⟨rfl,fun c hc=>⟨c,hc,rfl⟩⟩⟩,fun _ _ _ _ J G=>⟨⟨_,J,G⟩,rfl⟩⟩
theorem M9{k:Blk}(hb:h b=some k):∃o,TK φ h (φ b) o:=by
 cases k with
|box ty cs=>exact⟨0,b,_,hb,rfl,trivial⟩
|arr ty S n=>exact⟨n*S,b,_,hb,rfl,Kt _⟩
|vec ty S es=>exact⟨0,b,_,hb,rfl,trivial⟩
|lp T nf st pd=>exact⟨0,b,_,hb,rfl,trivial⟩
|mp es=>exact⟨0,b,_,hb,rfl,trivial⟩
|mf es=>exact⟨0,b,_,hb,rfl,trivial⟩
|mg en G es=>exact⟨0,b,_,hb,rfl,trivial⟩
|it m G sn=>exact⟨0,b,_,hb,rfl,trivial⟩
theorem GM.evol(G:GM φ h w M0)(E:Q8 φ h w φ' h' w'):GM φ' h' w' M0:=by
 have U:∀g∈gfix,∀b,h b≠none→φ b≠g:=fun g J b hb e=>by
  obtain⟨k,Y⟩:=SH.1 hb;obtain⟨o,W⟩:=M9 (φ:=φ) Y;rw[e] at W;exact G.m g J o (.inl W)
 refine⟨vS (fun g J=>E.same g (kw G.w g J) (U g J)) G.w,fun g J o O=>?_⟩;rcases O with O|O
 ·exact G.m g J o (.inl (E.mu g o (kw G.w g J) O))
 ·exact G.m g J o (.inr O)
theorem GM.sub{J:ZK}(G:GM φ h w M0)(hs:∀r o,MM φ' h' J r o→MM φ h M0 r o):GM φ' h' w J :=
 ⟨G.w,fun g O o U=>G.m g O o (hs g o U)⟩
theorem Q8.trans{U:Nat→Nat}{ac:QN}(a:Q8 φ h w φ' h' w')(b:Q8 φ' h' w' U ac w''):Q8 φ h w U ac w'':=by
 have Z:∀r,r<w.heap.size→r<w'.heap.size:=fun r G=>Nat.lt_of_lt_of_le G a.size
 refine⟨b.os.trans a.os,b.tape.trans a.tape,b.output.trans a.output,Nat.le_trans a.size b.size,?_,?_,?_,?_,?_,?_,?_⟩
 ·intro r G ab;have O:=a.same r G ab;refine(b.same r (Z r G) ?_).trans O;intro c hc aj;cases hk:h' c with
 |none=>exact hc hk
 |some k =>
   obtain⟨o,ho⟩:=M9 (φ:=φ') hk;rw[aj] at ho;obtain⟨b0,k0,ae,ah,_⟩:=a.mu r o G ho;exact ab b0 (by rw[ae];simp) ah
 ·intro r o G hm;exact(b.cell r o (Z r G) (fun J=>hm (a.mu r o G J))).trans (a.cell r o G hm)
 ·intro r o G hm;exact a.mu r o G (b.mu r o (Z r G) hm)
 ·intro c ty cs hc hb;obtain⟨⟨cs',O⟩,J⟩:=a.kb c ty cs hc hb;obtain⟨h3,W⟩:=b.kb c ty cs' hc O;exact⟨h3,W.trans J⟩
 ·intro t ty S n ht hb;obtain⟨n',O,J,h3⟩:=a.kt t ty S n ht hb;obtain⟨Y,W,h5,h6⟩:=b.kt t ty S n' ht O;exact⟨Y,W,Nat.le_trans J h5,fun e=>(h3 zo).trans a.size (h6 zo)⟩
 ·intro t ty S n ht hb;obtain⟨n',O,J,h3⟩:=a.kv t ty S n ht hb;obtain⟨Y,W,h5,h6⟩:=b.kv t ty S n' ht O;refine⟨Y,W,Nat.le_trans J h5,fun e=>?_⟩;obtain⟨h7,h8⟩:=h3 zo;obtain⟨h9,h10⟩:=h6 zo;refine⟨h9.trans h7,fun c hc=>?_⟩;obtain⟨c',hc',af⟩:=h8 c hc;rw[h7] at h10;obtain⟨ai,aa,ad⟩:=h10 c' hc';exact⟨ai,aa,ad.trans af⟩
 ·intro c k x hc hb ho;obtain⟨⟨k',O,J⟩,h3⟩:=a.ko c k x hc hb ho;obtain⟨W,h5⟩:=b.ko c k' x hc O J;exact⟨W,h5.trans h3⟩
theorem CU{o:Nat}(h:w.cell? ⟨r,o,none⟩=some v):r<w.heap.size:=by
 unfold World.cell? at h;dsimp only at h;split at h
 ·rename_i hc;exact(Ls.1 hc).1
 ·cases h
theorem Z4(hk:∀r o v,w.cell? ⟨r,o,none⟩=some v→¬M r o→w'.cell? ⟨r,o,none⟩=some v∧¬M' r o) :
  (∀(x:PV) (v:Value),QM w M x v→QM w' M' x v)∧(∀(es:List (List PV)) (S r o:Nat),Wl w M S r o es→Wl w' M' S r o es)∧(∀(cs:List PV) (r o:Nat),Wj w M r o cs→Wj w' M' r o cs):=by
 have key:∀n:Nat,(∀(x:PV),SizeOf.sizeOf x≤n→∀v,QM w M x v→QM w' M' x v)∧(∀(es:List (List PV)),SizeOf.sizeOf es≤n→∀S r o,Wl w M S r o es→Wl w' M' S r o es)∧(∀(cs:List PV),SizeOf.sizeOf cs≤n→∀r o,Wj w M r o cs→Wj w' M' r o cs):=by
  intro n
  induction n with
 |zero =>
   refine⟨fun x J=>?_,fun es J=>?_,fun cs J=>?_⟩
   ·cases x<;>simp at J
   ·cases es<;>simp at J
   ·cases cs<;>simp at J
 |succ n ih =>
   obtain⟨i1,i2,i3⟩:=ih;refine⟨fun x J=>?_,fun es J=>?_,fun cs J=>?_⟩
   ·intro v G;cases x with
   |val x=>simpa [QM] using G
   |sl S es =>
     simp only[QM] at G ⊢;rcases G with⟨r,o,cap,U,O⟩|O
     ·exact .inl ⟨r,o,cap,U,O.1,i2 es (by simp at J;omega) S r o O.2⟩
     ·exact .inr O
   ·intro S r o G;cases es with
   |nil=>simp[Wl]
   |cons e es =>
     simp only[Wl] at G ⊢;simp at J;exact⟨⟨G.1.1,i3 e zo r o G.1.2⟩,i2 es zo S r _ G.2⟩
   ·intro r o G;cases cs with
   |nil=>simp[Wj]
   |cons c cs =>
     simp only[Wj] at G ⊢;simp at J;obtain⟨⟨v,U,O,h7,h3⟩,W⟩:=G;obtain⟨Y,Z⟩:=hk r o v U O;exact⟨⟨v,Y,Z,h7,i1 c zo v h3⟩,i3 cs zo r _ W⟩
 exact⟨fun x v=>(key (SizeOf.sizeOf x)).1 x (Kt _) v,fun es=>(key (SizeOf.sizeOf es)).2.1 es (Kt _),fun cs=>(key (SizeOf.sizeOf cs)).2.2 cs (Kt _)⟩
theorem Q8.keeps(E:Q8 φ h w φ' h' w')(M0:ZK)(r o:Nat)(v:Value)(hc:w.cell? ⟨r,o,none⟩=some v)(G:¬MM φ h M0 r o) :
  w'.cell? ⟨r,o,none⟩=some v∧¬MM φ' h' M0 r o:=by
 have O:=CU hc;have J:¬TK φ h r o:=fun x=>G (.inl x)
 refine⟨(E.cell r o O J).trans hc,fun x=>?_⟩;rcases x with x|x
 ·exact J (E.mu r o O x)
 ·exact G (.inr x)
structure Y4(φ:Nat→Nat)(h:QN)(w:World)(φ':Nat→Nat)(h':QN)(w':World):Prop where
 b:∀b ty cs,h b=some (.box ty cs)→(∃ty' cs',h' b=some (.box ty' cs'))∧φ' b=φ b
 t:∀t ty S n,h t=some (.arr ty S n)→∃n',h' t=some (.arr ty S n')∧n≤n' ∧
  (n'=n→AKept w w' (φ t) (φ' t) ty)
 v:∀t ty S es,h t=some (.vec ty S es)→∃es',h' t=some (.vec ty S es')∧es.length≤es'.length ∧
  (es'.length=es.length→φ' t=φ t∧∀c,w.heap[φ t]?=some (.cells c ty (0,0))→∃c',w'.heap[φ t]?=some (.cells c' ty (0,0))∧c'.size=c.size)
 o:∀b k x,h b=some k→k.ob=some x→(∃k',h' b=some k'∧k'.ob=some x)∧φ' b=φ b
theorem QH(hk:∀r o v,w.cell? ⟨r,o,none⟩=some v→¬M r o→w'.cell? ⟨r,o,none⟩=some v∧¬M' r o)(X:Y4 φ h w φ' h' w') :
  (∀(x:AV) (v:Value),Qe φ h w M x v→Qe φ' h' w' M' x v)∧(∀(xs:List AV) (l:List Value),Qi φ h w M xs l→Qi φ' h' w' M' xs l):=by
 obtain⟨kp,ke,kc⟩:=Z4 hk
 have key:∀n:Nat,(∀(x:AV),SizeOf.sizeOf x≤n→∀v,Qe φ h w M x v→Qe φ' h' w' M' x v)∧(∀(xs:List AV),SizeOf.sizeOf xs≤n→∀l,Qi φ h w M xs l→Qi φ' h' w' M' xs l):=by
  intro n
  induction n with
 |zero =>
   refine⟨fun x hx=>?_,fun es hx=>?_⟩
   ·cases x<;>simp at hx
   ·cases es<;>simp at hx
 |succ n ih =>
   obtain⟨i1,i2⟩:=ih;refine⟨fun x hx v G=>?_,fun xs hx l G=>?_⟩
   ·cases x with
   |p x=>simp only[Qe] at G ⊢;exact kp x v G
   |tsl S es t =>
     simp only[Qe] at G ⊢;obtain⟨O,ty,n,J,Y,h5⟩:=G;obtain⟨n',U,W,Z⟩:=X.t t ty S n J;refine⟨kp _ _ O,ty,n',U,by omega,fun he=>?_⟩;have:n'=n:=by omega
     rcases h5 zo with⟨g0,g1,g2⟩|⟨cap,c,g1,g2,g3,g6,g7⟩
     ·exact .inl ⟨by omega,g1,(Z this).1 g2⟩
     rcases(Z this).2 with e4|⟨e4,e5⟩
     ·rw[e4] at g2;cases g2
     obtain⟨c',g4,g5⟩:=e5 c g2;exact .inr ⟨cap,c',by rw[e4,this];exact g1,by rw[e4];exact g4,by rw[g5,g3],by omega,g7⟩
   |ptr b off =>
     simp only[Qe] at G ⊢;obtain⟨O,ty,cs,J⟩:=G;obtain⟨U,W⟩:=X.b b ty cs J;exact⟨by rw[W];exact O,U⟩
   |bsl b n =>
     simp only[Qe] at G ⊢;obtain⟨O,ty,cs,J⟩:=G;obtain⟨U,W⟩:=X.b b ty cs J;exact⟨by rw[W];exact O,U⟩
   |sfp b =>
     simp only[Qe] at G ⊢;obtain⟨O,ty,cs,J⟩:=G;obtain⟨U,W⟩:=X.b b ty cs J;exact⟨by rw[W];exact O,U⟩
   |eptr cs =>
     simp only[Qe] at G ⊢;obtain⟨r,o,O,J⟩:=G;exact⟨r,o,O,kc cs r o J⟩
   |agg cs =>
     simp only[Qe] at G ⊢;obtain⟨l,O,J⟩:=G;exact⟨l,O,i2 cs (by simp at hx;omega) l J⟩
   |tup cs =>
     simp only[Qe] at G ⊢;obtain⟨l,O,J⟩:=G;exact⟨l,O,i2 cs (by simp at hx;omega) l J⟩
   |fn f a b =>
     simp only[Qe] at G ⊢;obtain⟨l,m,O,J,Y⟩:=G;simp at hx;exact⟨l,m,O,i2 a zo l J,i2 b zo m Y⟩
   |ifc t x =>
     simp only[Qe] at G ⊢;obtain⟨y,O,J⟩:=G;exact⟨y,O,i1 x (by simp at hx;omega) y J⟩
   |vnil=>simp only[Qe] at G ⊢;exact G
   |vsl S t n =>
     simp only[Qe] at G ⊢;obtain⟨O,ty,es,J,Y,h5⟩:=G;obtain⟨es',U,W,Z⟩:=X.v t ty S es J;refine⟨O,ty,es',U,by omega,fun he=>?_⟩;have:es'.length=es.length:=by omega
     obtain⟨e4,e5⟩:=Z this;obtain⟨cap,c,g1,g2,g3,g6,g7⟩:=h5 zo;obtain⟨c',g4,g5⟩:=e5 c g2;exact⟨cap,c',by rw[e4];exact g1,by rw[e4];exact g4,by rw[g5,g3],g6,g7⟩
   |vptr t n k f =>
     simp only[Qe] at G ⊢;obtain⟨O,ty,S,es,J,Y,h5⟩:=G;obtain⟨es',U,W,Z⟩:=X.v t ty S es J;refine⟨O,ty,S,es',U,by omega,fun he=>?_⟩;obtain⟨e4,e5⟩:=Z zo;rw[e4];exact h5 zo
   |yv b =>
     simp only[Qe] at G ⊢;obtain⟨O,k,T,nf,J,Y⟩:=G;obtain⟨⟨k',U,W⟩,Z⟩:=X.o b k _ J Y;exact⟨by rw[Z];exact O,k',T,nf,U,W⟩
   |mv b =>
     simp only[Qe] at G ⊢;obtain⟨O,k,J,Y⟩:=G;obtain⟨⟨k',U,W⟩,Z⟩:=X.o b k _ J Y;exact⟨by rw[Z];exact O,k',U,W⟩
   |iv b =>
     simp only[Qe] at G ⊢;obtain⟨O,k,J,Y⟩:=G;obtain⟨⟨k',U,W⟩,Z⟩:=X.o b k _ J Y;exact⟨by rw[Z];exact O,k',U,W⟩
   ·cases xs with
   |nil=>simpa [Qi] using G
   |cons x xs =>
     simp only[Qi] at G ⊢;simp at hx;obtain⟨y,ys,O,J,Y⟩:=G;exact⟨y,ys,O,i1 x zo y J,i2 xs zo ys Y⟩
 exact⟨fun x v=>(key (SizeOf.sizeOf x)).1 x (Kt _) v,fun xs l=>(key (SizeOf.sizeOf xs)).2 xs (Kt _) l⟩
def upd(h:QN)(b:Nat)(k:Blk):QN:=fun x=>if b=x then some k else h x
theorem lN(H:List (Nat×Blk))(b:Nat)(k:Blk):look ((b,k)::H)=upd (look H) b k:=rfl
structure St where
 T:List (Nat×AV)
 H:List (Nat×Blk)
variable {K:St→Prop}{s s':St}
def St.put(s:St)(d:Option Tmp)(x:AV):St:=match d with|some d=>⟨(d,x)::s.T,s.H⟩|none=>s
structure DB where
 l:List Deferred
 base:Nat
variable {D:DB}
def Marks(φ:Nat→Nat)(D:DB)(h:QN)(a:Act)(w:World):Prop :=D.base≤w.heap.size∧∃G:List Nat,a.defers=(G.map fun r=>({ target:=.collected r,args:=#[] }:Deferred))++D.l∧G.Nodup∧∀r∈G,D.base≤r∧w.heap[r]?=some (.deferred (some []))∧∀b,h b≠none→φ b≠r
structure Zn(φ:Nat→Nat)(M0:ZK)(N:Nat)(D:DB)(T:Nat→Option AV)(h:QN)(a:Act)(w:World):Prop where
 dfs:Marks φ D h a w
 siz:a.tmps.size=N
 hp:ZN φ h w M0
 tm:∀t x,T t=some x→t<N∧Qe φ h w (MM φ h M0) x (a.tmps.getD t undef)
inductive AX where
|normal
|exit (id:Nat)
|ret
|panic (x:AV)
variable {Q:AX→St→Prop}
def X9(φ:Nat→Nat)(h:QN)(w:World)(M:ZK):AX→Exit→Prop|.normal,e=>e=.normal|.exit i,e=>e=.exit i|.ret,e=>e=.ret|.panic x,e=>∃v,e=.panic [{ v:=v,recovered:=false }]∧Qe φ h w M x v
def Post(N:Nat)(D:DB)(Q:AX→St→Prop)(φ:Nat→Nat)(M0:ZK)(h:QN)(w:World):Exit→Act→World→Prop:=fun e a' w' =>∃φ' x s',Q x s'∧Zn φ' M0 N D (look s'.T) (look s'.H) a' w'∧Q8 φ h w φ' (look s'.H) w'∧X9 φ' (look s'.H) w' (MM φ' (look s'.H) M0) x e
abbrev wd(ro:Option Nat):Fence:={ Fence.wide with round:=ro }
def Ex(P:Program)(N:Nat)(ro:Option Nat)(c:Code)(s:St)(Q:AX→St→Prop):Prop :=∀φ M0 D a w,Zn φ M0 N D (look s.T) (look s.H) a w→c.wpIn (wd ro) 0 P (Post N D Q φ M0 (look s.H) w) a w
theorem Post.trans{e:Exit}(E:Q8 φ h w φ' h' w')(p:Post N D Q φ' M0 h' w' e a w''):Post N D Q φ M0 h w e a w'':=by
 obtain⟨G,x,s',W,J,U,O⟩:=p;exact⟨G,x,s',W,J,E.trans U,O⟩
theorem Ai{Q':AX→St→Prop}(h:Ex P N ro c s Q)(W:∀x s',Q x s'→Q' x s'):Ex P N ro c s Q' :=
 fun φ M0 D a w r=>wpIn_mono (h φ M0 D a w r) fun _ _ _ ⟨φ',x,s',G,J,U,O⟩=>⟨φ',x,s',W _ _ G,J,U,O⟩
def andThen(K:St→Prop)(Q:AX→St→Prop):AX→St→Prop|.normal,s=>K s|x,s=>Q x s
theorem kz{x y:Code}(h:Ex P N ro x s (andThen (fun s'=>Ex P N ro y s' Q) Q)):Ex P N ro (.seq x y) s Q:=by
 intro φ M0 D a w r;refine wpIn_seq (wpIn_mono (h φ M0 D a w r) ?_);rintro e a' w' ⟨φ',k,s',O,J,U,G⟩;cases k with
|normal =>
  simp only[X9] at G;subst G;exact wpIn_mono (O φ' M0 D a' w' J) fun _ _ _ p=>p.trans U
|exit i=>simp only[X9] at G;subst G;exact⟨φ',.exit i,s',O,J,U,rfl⟩
|ret=>simp only[X9] at G;subst G;exact⟨φ',.ret,s',O,J,U,rfl⟩
|panic v=>obtain⟨u,W,Y⟩:=G;subst W;exact⟨φ',.panic v,s',O,J,U,u,rfl,Y⟩
theorem QbN(h:Q .normal s):Ex P N ro .skip s Q :=
 fun φ _ _ _ w r=>wpIn_skip ⟨φ,.normal,s,h,r,Q8.refl _ _ _,rfl⟩
theorem Qff(h:Q .ret s):Ex P N ro .ret s Q :=
 fun φ _ _ _ w r=>wpIn_ret ⟨φ,.ret,s,h,r,Q8.refl _ _ _,rfl⟩
theorem QbO(h:Q (.exit id) s):Ex P N ro (.exit id) s Q :=
 fun φ _ _ _ w r=>wpIn_exit ⟨φ,.exit id,s,h,r,Q8.refl _ _ _,rfl⟩
theorem lQ{l:Nat}(h:Q .normal s):Ex P N ro (.label l) s Q :=
 fun φ _ _ _ w r=>wpIn_label ⟨φ,.normal,s,h,r,Q8.refl _ _ _,rfl⟩
def inBlock(id:Nat)(Q:AX→St→Prop):AX→St→Prop|.exit i,s=>if i=id then Q .normal s else Q (.exit i) s|x,s=>Q x s
theorem lS(h:Ex P N ro c s (inBlock id Q)):Ex P N ro (.block id c) s Q:=by
 intro φ M0 D a w r;refine wpIn_block (wpIn_mono (h φ M0 D a w r) ?_);rintro e a' w' ⟨φ',k,s',G,O,U,J⟩;cases k with
|normal=>simp only[X9] at J;subst J;exact⟨φ',.normal,s',G,O,U,rfl⟩
|exit i =>
  simp only[X9] at J;subst J;simp only[inBlock] at G;by_cases hi:i=id
  ·simp only[hi,if_true] at G;show Exit.inBlock id _ _ _ _;simp only[Exit.inBlock,hi,if_true];exact⟨φ',.normal,s',G,O,U,rfl⟩
  ·simp only[hi,if_false] at G;show Exit.inBlock id _ _ _ _;simp only[Exit.inBlock,hi,if_false];exact⟨φ',.exit i,s',G,O,U,rfl⟩
|ret=>simp only[X9] at J;subst J;exact⟨φ',.ret,s',G,O,U,rfl⟩
|panic v=>obtain⟨u,W,Y⟩:=J;subst W;exact⟨φ',.panic v,s',G,O,U,u,rfl,Y⟩
theorem XQ{b:Frame}{k:List Item}{cs:List Frame}:step P (lone (b.atR a (.code (.scope c)::k)) cs w)=.next (lone (b.atR a (.code c::.inScope c::k)) cs w) :=
 step_lone_go (by simp[stepG,stepG.exec,Frame.atR])
theorem qm{b:Frame}{k:List Item}{cs:List Frame}:step P (lone (b.atR a (.inScope c::k)) cs w)=.next (lone (b.atR a k) cs w) :=
 step_lone_go (by simp[stepG,stepG.exec,Frame.atR])
theorem uH{F:Fence}{Q:Exit→Act→World→Prop}(h:c.wpIn F n P (Exit.noGoto Q) a w):(Code.scope c).wpIn F n P Q a w:=by
 intro b k cs Y hb Z;have h0:(lone (b.atR a (.code (.scope c)::k)) cs w).fenced P F:=fenced_calm hb Z rfl;obtain⟨e,O,J,U,G⟩:=h b (.inScope c::k) cs Y hb Z;cases e with
|normal=>exact⟨.normal,O,J,U,.head h0 XQ (StepsIn.trans G (.one (fenced_calm hb Z rfl) qm))⟩
|exit id =>
  refine⟨.exit id,O,J,U,fun k' hk=>.head h0 XQ (G.1 k' (by simp[exitTo,hk])),fun h1 h2=>?_⟩;obtain⟨W,g1,g2⟩:=G.2 h1 (by simp[exitTo,h2]);exact⟨W,g1,.head h0 XQ g2⟩
|goto l=>exact U.elim
|ret=>exact⟨_,O,J,U,.of_steps (.one h0 XQ) G⟩
|panic ch=>exact⟨_,O,J,U,.of_steps (.one h0 XQ) G⟩
|outgrown=>exact⟨_,O,J,U,.of_steps (.one h0 XQ) G⟩
theorem lT(h:Ex P N ro c s Q):Ex P N ro (.scope c) s Q:=by
 intro φ M0 D a w r;refine uH (wpIn_mono (h φ M0 D a w r) ?_);rintro e a' w' ⟨φ',k,s',O,J,U,G⟩;cases k with
|normal=>simp only[X9] at G;subst G;exact⟨φ',.normal,s',O,J,U,rfl⟩
|exit i=>simp only[X9] at G;subst G;exact⟨φ',.exit i,s',O,J,U,rfl⟩
|ret=>simp only[X9] at G;subst G;exact⟨φ',.ret,s',O,J,U,rfl⟩
|panic v=>obtain⟨u,W,Y⟩:=G;subst W;exact⟨φ',.panic v,s',O,J,U,u,rfl,Y⟩
def AP:Value→AV|.agg cs=>.agg (cs.toList.map fun c=>.p (.val c))|v=>.p (.val v)
def Zo(T:Nat→Option AV):Operand→Option AV|.tmp t=>T t|.const v=>some (AP v)|.func f=>some (.p (.val (.func (.func f) #[] #[])))|.global _=>none
theorem Fj{φ:Nat→Nat}{h:QN}{w:World}{M:ZK}:∀l:List Value,Qi φ h w M (l.map fun c=>.p (.val c)) l
|[]=>by simp[Qi]
|x::l=>by simp only[Yy,Qi];exact⟨x,l,rfl,by simp[Qe,QM],Fj l⟩
theorem WS(v:Value):Qe φ h w M (AP v) v:=by
 cases v with
|agg cs=>simp only[AP,Qe];exact⟨cs.toList,by simp,Fj _⟩
|_=>simp[AP,Qe,QM]
theorem Zn.ev(r:Zn φ M0 N D T h a w){v:AV}(G:Zo T x=some v) :
  Qe φ h w (MM φ h M0) v (a.eval x):=by
 cases x with
|tmp t=>exact(r.tm t v G).2
|const c=>simp only[Zo,QW] at G;subst G;exact WS _
|func f=>simp only[Zo,QW] at G;subst G;simp[Qe,QM,Act.eval]
|global g=>cases G
theorem kC{c:Operand}{x y:Code}(b:Bool)(hc:Zo (look s.T) c=some (.p (.val (.bool b))))(J:b=true→Ex P N ro x s Q)(hf:b=false→Ex P N ro y s Q):Ex P N ro (.cond c x y) s Q:=by
 intro φ M0 D a w r;have G:=r.ev hc;simp only[Qe,QM] at G;cases b
 ·exact wpIn_cond_false G (hf rfl φ M0 D a w r)
 ·exact wpIn_cond_true G (J rfl φ M0 D a w r)
def Weak(N:Nat)(s s':St):Prop:=∀φ M0 D a w,Zn φ M0 N D (look s.T) (look s.H) a w→∃φ',Zn φ' M0 N D (look s'.T) (look s'.H) a w∧Q8 φ (look s.H) w φ' (look s'.H) w
theorem Weak.refl(N:Nat)(s:St):Weak N s s:=fun φ _ _ _ _ r=>⟨φ,r,Q8.refl _ _ _⟩
theorem Weak.trans{G:St}(a:Weak N s s')(b:Weak N s' G):Weak N s G:=fun φ M0 D U w r =>
 let ⟨J,r1,Y⟩:=a φ M0 D U w r;let ⟨O,Z,W⟩:=b J M0 D U w r1;⟨O,Z,Y.trans W⟩
theorem Lu(hw:Weak N s s')(h:Ex P N ro c s' Q):Ex P N ro c s Q:=by
 intro φ M0 D a w r;obtain⟨G,r1,J⟩:=hw φ M0 D a w r;exact wpIn_mono (h G M0 D a w r1) fun _ _ _ p=>p.trans J
theorem mW{ι:Type}(S:ι→St)(O:ι→Nat)(i0:ι)(round:∀i,Ex P N ro c (S i) (andThen (fun s'=>∃j,O j<O i∧Weak N s' (S j)) Q)):Ex P N ro (.loop c) (S i0) Q:=by
 intro φ M0 D a w r;refine wpIn_loop_ghost (fun n a' w'=>∃i φ',O i=n∧Zn φ' M0 N D (look (S i).T) (look (S i).H) a' w'∧Q8 φ (look (S i0).H) w φ' (look (S i).H) w') (O i0) ⟨i0,φ,rfl,r,Q8.refl _ _ _⟩ ?_;rintro n a' w' ⟨i,φ',rfl,r',E⟩;refine wpIn_mono (round i φ' M0 D a' w' r') ?_;rintro e ab w'' ⟨G,k,s',W,U,Y,J⟩;cases k with
|normal =>
  simp only[X9] at J;subst J;obtain⟨j,hj,aa⟩:=W;obtain⟨Z,r2,e2⟩:=aa G M0 D ab w'' U;exact⟨O j,hj,j,Z,rfl,r2,(E.trans Y).trans e2⟩
|exit i=>simp only[X9] at J;subst J;exact⟨G,.exit i,s',W,U,E.trans Y,rfl⟩
|ret=>simp only[X9] at J;subst J;exact⟨G,.ret,s',W,U,E.trans Y,rfl⟩
|panic v=>obtain⟨u,h5,h6⟩:=J;subst h5;exact⟨G,.panic v,s',W,U,E.trans Y,u,rfl,h6⟩
theorem Marks.keep(m:Marks φ D h a w)(E:Q8 φ h w φ' h' w'):Marks φ' D h' a w':=by
 obtain⟨h0,ms,W,U,Z⟩:=m;refine⟨Nat.le_trans h0 E.size,ms,W,U,fun r Y=>?_⟩;obtain⟨g0,g1,g2⟩:=Z r Y;have hlt:r<w.heap.size:=(Ls.1 g1).1;refine⟨g0,(E.same r hlt g2).trans g1,fun b hb e=>?_⟩;cases hk:h' b with
|none=>exact hb hk
|some k =>
  obtain⟨o,O⟩:=M9 (φ:=φ') hk;rw[e] at O;obtain⟨b0,k0,G,J,_⟩:=E.mu r o hlt O;exact g2 b0 (by rw[G];simp) J
theorem Zn.keep(r:Zn φ M0 N D T h a w)(E:Q8 φ h w φ' h' w')(X:Y4 φ h w φ' h' w')(hp:ZN φ' h' w' M0):Zn φ' M0 N D T h' a w' :=
 ⟨r.dfs.keep E,r.siz,hp,fun t x G=>⟨(r.tm t x G).1,(QH (E.keeps M0) X).1 _ _ (r.tm t x G).2⟩⟩
theorem Y4.trans{G:Nat→Nat}{ab:QN}(hs:w.heap.size≤w'.heap.size)(a:Y4 φ h w φ' h' w')(b:Y4 φ' h' w' G ab w''):Y4 φ h w G ab w'':=by
 refine⟨?_,?_,?_,?_⟩
 ·intro c ty cs hc;obtain⟨⟨ad,cs',W⟩,J⟩:=a.b c ty cs hc;obtain⟨Y,O⟩:=b.b c ad cs' W;exact⟨Y,O.trans J⟩
 ·intro t ty S n ht;obtain⟨n',W,J,Y⟩:=a.t t ty S n ht;obtain⟨U,O,Z,h6⟩:=b.t t ty S n' W;exact⟨U,O,Nat.le_trans J Z,fun e=>(Y zo).trans hs (h6 zo)⟩
 ·intro t ty S n ht;obtain⟨n',W,J,Y⟩:=a.v t ty S n ht;obtain⟨U,O,Z,h6⟩:=b.v t ty S n' W;refine⟨U,O,Nat.le_trans J Z,fun e=>?_⟩;obtain⟨h7,h8⟩:=Y zo;obtain⟨h9,h10⟩:=h6 zo;refine⟨h9.trans h7,fun c hc=>?_⟩;obtain⟨c',hc',ae⟩:=h8 c hc;rw[h7] at h10;obtain⟨af,aa,ac⟩:=h10 c' hc';exact⟨af,aa,ac.trans ae⟩
 ·intro c k x hb ho;obtain⟨⟨k',W,J⟩,Y⟩:=a.o c k x hb ho;obtain⟨O,Z⟩:=b.o c k' x W J;exact⟨O,Z.trans Y⟩
theorem Y4.refl(φ:Nat→Nat)(h:QN)(w:World):Y4 φ h w φ h w :=
 ⟨fun _ _ _ x=>⟨⟨_,_,x⟩,rfl⟩,fun _ _ _ _ x=>⟨_,x,Kt _,fun _=>Yz (rfl) rfl⟩,fun _ _ _ _ x=>⟨_,x,Kt _,fun _=>⟨rfl,fun c hc=>⟨c,hc,rfl⟩⟩⟩,fun _ _ _ J G=>⟨⟨_,J,G⟩,rfl⟩⟩
theorem Zn.put(r:Zn φ M0 N D (look s.T) (look s.H) a w){d:Option Tmp}{x:AV}(J:∀t,d=some t→t<N)(O:Qe φ (look s.H) w (MM φ (look s.H) M0) x v):Zn φ M0 N D (look (s.put d x).T) (look (s.put d x).H) (a.put d v) w:=by
 cases d with
|none=>exact r
|some d =>
  have hlt:=J d rfl;refine⟨r.dfs,by simp[Act.put,r.siz],r.hp,fun t y G=>?_⟩;simp only[St.put,look] at G;by_cases e:d=t
  ·simp only[e,if_true,QW] at G;subst G;refine⟨e▸hlt,?_⟩;have:(a.put (some d) v).tmps.getD t undef=v:=by subst e;simp[Act.put,r.siz,hlt]
   rw[this];exact O
  ·simp only[e,if_false] at G;refine⟨(r.tm t y G).1,?_⟩;have:(a.put (some d) v).tmps.getD t undef=a.tmps.getD t undef:=by simp[Act.put,Array.getElem?_setIfInBounds_ne e]
   rw[this];exact(r.tm t y G).2
theorem Rn(G:w'.heap=w.heap)(J:w'.os=w.os)(U:w'.tape=w.tape)(hu:w'.output=w.output):Q8 φ h w φ h w' :=
 ⟨J,U,hu,by rw[G];exact Kt _,fun _ _ _=>by rw[G],fun _ _ _ _=>by simp[World.cell?,G],fun _ _ _ x=>x,fun _ _ _ _ x=>⟨⟨_,x⟩,rfl⟩,fun _ _ _ _ _ x=>⟨_,x,Kt _,fun _=>Yz (rfl) (by rw[G])⟩,fun _ _ _ _ _ x=>⟨_,x,Kt _,fun _=>⟨rfl,fun c hc=>⟨c,by rw[G];exact hc,rfl⟩⟩⟩,fun _ _ _ _ W O=>⟨⟨_,W,O⟩,rfl⟩⟩
theorem GX(G:w'.heap=w.heap):Y4 φ h w φ h w' :=
 ⟨fun _ _ _ x=>⟨⟨_,_,x⟩,rfl⟩,fun _ _ _ _ x=>⟨_,x,Kt _,fun _=>Yz (rfl) (by rw[G])⟩,fun _ _ _ _ x=>⟨_,x,Kt _,fun _=>⟨rfl,fun c hc=>⟨c,by rw[G];exact hc,rfl⟩⟩⟩,fun _ _ _ O J=>⟨⟨_,O,J⟩,rfl⟩⟩
theorem Z5(W:∀r o v,w.cell? ⟨r,o,none⟩=some v→¬M r o→w'.cell? ⟨r,o,none⟩=some v∧¬M' r o)(X:Y4 φ h w φ' h' w')(U:w'.heap[r']?=w.heap[r]?){k:Blk}(hb:RelB φ h w M r k):RelB φ' h' w' M' r' k:=by
 cases k with
|box ty cs=>obtain⟨c,G,J⟩:=hb;exact⟨c,U.trans G,(QH W X).2 _ _ J⟩
|arr ty S n =>
  rcases hb with⟨h0,G⟩|⟨c,cap,G,J⟩
  ·exact .inl ⟨h0,U.trans G⟩
  ·exact .inr ⟨c,cap,U.trans G,J⟩
|vec ty S es=>obtain⟨c,cap,G,J,O,Y,h5,h6,h7⟩:=hb;exact⟨c,cap,U.trans G,J,O,Y,h5,h6,(QH W X).2 _ _ h7⟩
|lp T nf st pd=>obtain⟨tmps,d,G,J,O⟩:=hb;exact⟨tmps,d,U.trans G,J,fun t x ht=>⟨(O t x ht).1,(QH W X).1 _ _ (O t x ht).2⟩⟩
|mp es=>obtain⟨en,Z,G,J,O⟩:=hb;exact⟨en,Z,U.trans G,J,(QH W X).2 _ _ O⟩
|mf es=>obtain⟨en,Z,G,J,O,Y⟩:=hb;exact⟨en,Z,U.trans G,J,(QH W X).2 _ _ O,Y⟩
|mg en Z es=>obtain⟨G,J,O,Y⟩:=hb;exact⟨U.trans G,J,(QH W X).2 _ _ O,Y⟩
|it m Z sn =>
  obtain⟨G,k,J,O⟩:=hb;obtain⟨⟨k',e1,e2⟩,e3⟩:=X.o m k _ J O;exact⟨U.trans (by rw[e3];exact G),k',e1,e2⟩
theorem CV(G:w'.heap=w.heap)(E:Q8 φ h w φ h w')(r:ZN φ h w M0):ZN φ h w' M0 :=
 ⟨r.inj,fun b k hb=>Z5 (E.keeps M0) (GX G) (by rw[G]) (r.blk b k hb),r.fr,fun x o J=>by rw[G];exact r.lt x o J,r.gm.evol E⟩
def Qx(φ:Nat→Nat)(b r:Nat):Nat→Nat:=fun x=>if b=x then r else φ x
theorem CW(r:ZN φ h w M0){k:Blk}(hb:h b=some k)(J:∀ty S,k≠.arr ty S 0):φ b<w.heap.size:=by
 have:=r.blk b k hb;cases k with
|box ty cs=>obtain⟨c,G,_⟩:=this;exact(Ls.1 G).1
|arr ty S n =>
  rcases this with⟨h0,_⟩|⟨c,cap,G,_⟩
  ·exact absurd (by rw[h0]) (J ty S)
  ·exact(Ls.1 G).1
|vec ty S es=>obtain⟨c,cap,G,_⟩:=this;exact(Ls.1 G).1
|lp T nf st pd=>obtain⟨c,cap,G,_⟩:=this;exact(Ls.1 G).1
|mp es=>obtain⟨c,cap,G,_⟩:=this;exact(Ls.1 G).1
|mf es=>obtain⟨c,cap,G,_⟩:=this;exact(Ls.1 G).1
|mg en O es=>exact(Ls.1 this.1).1
|it m O sn=>exact(Ls.1 this.1).1
theorem vU(r:ZN φ h w M0){S:Nat}{es:List (List PV)}(hb:h b=some (.vec ty S es)):φ b<w.heap.size :=
 CW r hb fun _ _ e=>by cases e
def Clear(φ:Nat→Nat)(h:QN)(w:World)(K:Nat):Prop:=∀b,h b≠none→φ b<w.heap.size∨w.heap.size+K≤φ b
theorem Clear.lt{K:Nat}(O:Clear φ h w K)(r:ZN φ h w M0)(hs:w'.heap.size≤w.heap.size+K)(G:∀x,x<w.heap.size→w'.heap[x]?=w.heap[x]?)(hb:h b≠none) :
  w'.heap[φ b]?=w.heap[φ b]?:=by
 rcases O b hb with J|J
 ·exact G _ J
 ·rw[Z6 (by omega:w'.heap.size≤φ b),Z6 (by omega:w.heap.size≤φ b)]
def K5(φ:Nat→Nat)(n K:Nat):Nat→Nat:=fun b=>if φ b<n then φ b else φ b+K
theorem Fp(r:ZN φ h w M0)(K:Nat){k:Blk}(hb:h b=some k)(G:∀ty S,k≠.arr ty S 0):K5 φ w.heap.size K b=φ b:=by
 have:=CW r hb G;simp[K5,this]
theorem vV{K:Nat}:w.heap[K5 φ w.heap.size K b]?=w.heap[φ b]?:=by
 unfold K5;by_cases e:φ b<w.heap.size
 ·simp only[e,if_true]
 ·simp only[e,if_false];rw[Z6 zo,Z6 zo]
theorem vW(r:ZN φ h w M0)(K:Nat):Q8 φ h w (K5 φ w.heap.size K) h w∧Y4 φ h w (K5 φ w.heap.size K) h w:=by
 have O:∀t ty S n,h t=some (.arr ty S n)→∃n',h t=some (.arr ty S n')∧n≤n' ∧
  (n'=n→AKept w w (φ t) (K5 φ w.heap.size K t) ty):=by
  intro t ty S n O;refine⟨n,O,Kt _,fun _=>?_⟩;by_cases e:φ t<w.heap.size
  ·exact Yz (by simp[K5,e]) rfl
  ·exact Me (Z6 zo) (by rw[vV];exact Z6 zo)
 have J:∀b k x,h b=some k→k.ob=some x→K5 φ w.heap.size K b=φ b:=fun b k x hb J=>Fp r K hb (fun ty S e=>by subst e;cases J)
 refine⟨⟨rfl,rfl,rfl,Kt _,fun _ _ _=>rfl,fun _ _ _ _=>rfl,?_,?_,fun t ty S n _ W=>O t ty S n W,?_,?_⟩,?_,O,?_,?_⟩
 ·rintro x o G ⟨b,k,W,U,Y⟩;refine⟨b,k,W,?_,Y⟩;unfold K5 at U;by_cases e:φ b<w.heap.size
  ·simpa only[e,if_true] using U
  ·simp only[e,if_false] at U;omega
 ·intro b ty cs _ hb;exact⟨⟨cs,hb⟩,Fp r K hb (fun _ _ e=>by cases e)⟩
 ·intro t ty S es _ hb;exact⟨es,hb,Kt _,fun _=>⟨Fp r K hb (fun _ _ e=>by cases e),fun c hc=>⟨c,hc,rfl⟩⟩⟩
 ·intro b k x _ hb G;exact⟨⟨k,hb,G⟩,J b k x hb G⟩
 ·intro b ty cs hb;exact⟨⟨ty,cs,hb⟩,Fp r K hb (fun _ _ e=>by cases e)⟩
 ·intro t ty S es hb;exact⟨es,hb,Kt _,fun _=>⟨Fp r K hb (fun _ _ e=>by cases e),fun c hc=>⟨c,hc,rfl⟩⟩⟩
 ·intro b k x hb G;exact⟨⟨k,hb,G⟩,J b k x hb G⟩
theorem bW(r:ZN φ h w M0)(K:Nat):ZN (K5 φ w.heap.size K) h w M0:=by
 obtain⟨E,X⟩:=vW r K;refine⟨?_,fun b k hb=>Z5 (E.keeps M0) X vV (r.blk b k hb),?_,r.lt,r.gm.evol E⟩
 ·intro b c hb hc e;refine r.inj b c hb hc ?_;unfold K5 at e;by_cases O:φ b<w.heap.size<;>by_cases J:φ c<w.heap.size
  ·simpa only[O,J,if_true] using e
  ·simp only[O,J,if_true,if_false] at e;omega
  ·simp only[O,J,if_true,if_false] at e;omega
  ·simp only[O,J,if_false] at e;omega
 ·intro b hb o G;unfold K5 at G;by_cases e:φ b<w.heap.size
  ·simp only[e,if_true] at G;exact r.fr b hb o G
  ·simp only[e,if_false] at G;have:=r.lt _ _ G;omega
theorem uI(K:Nat):Clear (K5 φ w.heap.size K) h w K:=by
 intro b _;unfold K5;by_cases e:φ b<w.heap.size
 ·simp only[e,if_true];exact .inl trivial
 ·simp only[e,if_false];right;omega
theorem Zn.lift(r:Zn φ M0 N D T h a w)(K:Nat) :
  Zn (K5 φ w.heap.size K) M0 N D T h a w∧Q8 φ h w (K5 φ w.heap.size K) h w∧Y4 φ h w (K5 φ w.heap.size K) h w∧Clear (K5 φ w.heap.size K) h w K:=by
 obtain⟨E,X⟩:=vW r.hp K;exact⟨r.keep E X (bW r.hp K),E,X,uI K⟩
theorem Xg{k:Blk}{o:Obj}(O:w'.heap=w.heap.push o)(U:w'.os=w.os)(ht:w'.tape=w.tape)(hu:w'.output=w.output)(hb:h b=none)(r:ZN φ h w M0)(Z:Clear φ h w 1):Q8 φ h w (Qx φ b w.heap.size) (upd h b k) w'∧Y4 φ h w (Qx φ b w.heap.size) (upd h b k) w':=by
 have G:∀x,x<w.heap.size→w'.heap[x]?=w.heap[x]?:=fun x W=>by rw[O,Array.getElem?_push,if_neg zo]
 have hne:∀c q,h c=some q→¬b=c:=fun c q hc e=>by rw[e] at hb;rw[hb] at hc;cases hc
 refine⟨⟨U,ht,hu,by rw[O];simp,fun x W _=>G x W,fun x o W _=>by simp[World.cell?,G x W],?_,?_,?_,?_,?_⟩,?_,?_,?_,?_⟩
 ·rintro x y W ⟨c,q,h1,Y,h3⟩;simp only[upd,Qx] at h1 Y;by_cases e:b=c
  ·simp only[e,if_true] at Y;omega
  ·simp only[e,if_false] at h1 Y;exact⟨c,q,h1,Y,h3⟩
 ·intro c ty cs _ hc;have:=hne c _ hc;exact⟨⟨cs,by simp[upd,this,hc]⟩,by simp[Qx,this]⟩
 ·intro t ty S n _ hc;have:=hne t _ hc;exact⟨n,by simp[upd,this,hc],Kt _,fun _=>Yz (by simp[Qx,this]) (Z.lt r (by rw[O];simp) G (by rw[hc];simp))⟩
 ·intro t ty S n _ hc;have:=hne t _ hc;refine⟨n,by simp[upd,this,hc],Kt _,fun _=>⟨by simp[Qx,this],fun c J=>⟨c,?_,rfl⟩⟩⟩;rw[Z.lt r (by rw[O];simp) G (by rw[hc];simp)];exact J
 ·intro c k x _ hc U;have:=hne c _ hc;exact⟨⟨k,by simp[upd,this,hc],U⟩,by simp[Qx,this]⟩
 ·intro c ty cs hc;have:=hne c _ hc;exact⟨⟨ty,cs,by simp[upd,this,hc]⟩,by simp[Qx,this]⟩
 ·intro t ty S n hc;have:=hne t _ hc;exact⟨n,by simp[upd,this,hc],Kt _,fun _=>Yz (by simp[Qx,this]) (Z.lt r (by rw[O];simp) G (by rw[hc];simp))⟩
 ·intro t ty S n hc;have:=hne t _ hc;refine⟨n,by simp[upd,this,hc],Kt _,fun _=>⟨by simp[Qx,this],fun c J=>⟨c,?_,rfl⟩⟩⟩;rw[Z.lt r (by rw[O];simp) G (by rw[hc];simp)];exact J
 ·intro c k x hc U;have:=hne c _ hc;exact⟨⟨k,by simp[upd,this,hc],U⟩,by simp[Qx,this]⟩
theorem Xh{k:Blk}{o:Obj}(hh:w'.heap=w.heap.push o)(hb:h b=none)(r:ZN φ h w M0)(hC:Clear φ h w 1)(E:Q8 φ h w (Qx φ b w.heap.size) (upd h b k) w')(X:Y4 φ h w (Qx φ b w.heap.size) (upd h b k) w')(O:RelB (Qx φ b w.heap.size) (upd h b k) w' (MM (Qx φ b w.heap.size) (upd h b k) M0) w.heap.size k):ZN (Qx φ b w.heap.size) (upd h b k) w' M0:=by
 have U:∀x,x<w.heap.size→w'.heap[x]?=w.heap[x]?:=fun x hx=>by rw[hh,Array.getElem?_push,if_neg zo]
 have hlt:∀c,h c≠none→φ c≠w.heap.size:=fun c hc=>by rcases hC c hc with Y|Y<;>omega
 refine⟨?_,?_,?_,fun x y hx=>Nat.lt_of_lt_of_le (r.lt x y hx) E.size,r.gm.evol E⟩
 ·intro c d hc W G;simp only[upd] at hc W;simp only[Qx] at G;by_cases e1:b=c<;>by_cases e2:b=d
  ·omega
  ·simp only[e1,if_true] at G;have ab:¬c=d:=by omega
   simp only[ab,if_false] at G;rw[if_neg e2] at W;have:=hlt d W;omega
  ·simp only[e2,if_true] at G;have aa:¬d=c:=by omega
   simp only[aa,if_false] at G;rw[if_neg e1] at hc;have:=hlt c hc;omega
  ·simp only[e1,e2,if_false] at G hc W;exact r.inj c d hc W G
 ·intro c q hc;by_cases e:b=c
  ·have h2:q=k:=by simp only[upd,e,if_true,QW] at hc;exact hc.symm
   have J:Qx φ b w.heap.size c=w.heap.size:=by simp[Qx,e]
   rw[h2,J];exact O
  ·have Y:h c=some q:=by simpa [upd,e] using hc
   have J:Qx φ b w.heap.size c=φ c:=by simp[Qx,e]
   rw[J];exact Z5 (E.keeps M0) X (hC.lt r (by rw[hh];simp) U (by rw[Y];simp)) (r.blk c q Y)
 ·intro c hc o Z;by_cases e:b=c
  ·have J:Qx φ b w.heap.size c=w.heap.size:=by simp[Qx,e]
   rw[J] at Z;exact absurd (r.lt _ _ Z) zo
  ·have J:Qx φ b w.heap.size c=φ c:=by simp[Qx,e]
   rw[J] at Z;exact r.fr c (by simpa [upd,e] using hc) o Z
theorem AR{cs cs':List AV}{c:Array Value}(hb:h b=some (.box ty cs))(hw:w.heap[φ b]?=some (.cells c ty (0,0)))(r:ZN φ h w M0) :
  Q8 φ h w φ (upd h b (.box ty cs')) (w.setRow (φ b) c')∧Y4 φ h w φ (upd h b (.box ty cs')) (w.setRow (φ b) c'):=by
 have G:∀x,x≠φ b→(w.setRow (φ b) c').heap[x]?=w.heap[x]?:=fun x hx=>setRow_other w _ x c' hx
 have ab:∀t ty S n,h t=some (.arr ty S n)→t≠b:=fun t ty S n O e=>by rw[e,hb] at O;cases O
 have ac:∀t ty S n,h t=some (.arr ty S n)→φ t≠φ b:=fun t ty S n O e=>ab t ty S n O (r.inj t b (by rw[O];simp) (by rw[hb];simp) e)
 have aa:∀t ty S n,h t=some (.vec ty S n)→t≠b:=fun t ty S n O e=>by rw[e,hb] at O;cases O
 have Y:∀t ty S n,h t=some (.vec ty S n)→φ t≠φ b:=fun t ty S n O e=>aa t ty S n O (r.inj t b (by rw[O];simp) (by rw[hb];simp) e)
 have W:∀d k x,h d=some k→k.ob=some x→¬b=d:=fun d k x U Z e=>by rw[←e,hb] at U;cases U;cases Z
 refine⟨⟨rfl,rfl,rfl,by simp,?_,?_,?_,?_,?_,?_,?_⟩,?_,?_,?_,?_⟩
 ·intro x _ W;exact G x (fun e=>W b (by rw[hb];simp) e.symm)
 ·intro x o _ hm;have:x≠φ b:=fun e=>hm ⟨b,_,hb,e.symm,trivial⟩
  simp[World.cell?,G x this]
 ·rintro x y _ ⟨d,q,h1,h2,h3⟩;by_cases e:b=d
  ·exact⟨b,_,hb,by rw[e];exact h2,trivial⟩
  ·exact⟨d,q,by simpa [upd,e] using h1,h2,h3⟩
 ·intro d J ds _ U;by_cases e:b=d
  ·subst e;rw[hb] at U;cases U;exact⟨⟨cs',by simp[upd]⟩,rfl⟩
  ·exact⟨⟨ds,by simp[upd,e,U]⟩,rfl⟩
 ·intro t J S n _ O;have e:=ab t J S n O;refine⟨n,by simp[upd,Ne.symm e,O],Kt _,fun _=>Yz (rfl) (by rw[G _ (ac t J S n O)])⟩
 ·intro t J S n _ O;have e:=aa t J S n O;refine⟨n,by simp[upd,Ne.symm e,O],Kt _,fun _=>⟨rfl,fun c hc=>⟨c,by rw[G _ (Y t J S n O)];exact hc,rfl⟩⟩⟩
 ·intro d k x _ U Z;exact⟨⟨k,by simp[upd,W d k x U Z,U],Z⟩,rfl⟩
 ·intro d J ds U;by_cases e:b=d
  ·exact⟨⟨ty,cs',by simp[upd,e]⟩,rfl⟩
  ·exact⟨⟨J,ds,by simp[upd,e,U]⟩,rfl⟩
 ·intro t J S n O;have e:=ab t J S n O;refine⟨n,by simp[upd,Ne.symm e,O],Kt _,fun _=>Yz (rfl) (by rw[G _ (ac t J S n O)])⟩
 ·intro t J S n O;have e:=aa t J S n O;refine⟨n,by simp[upd,Ne.symm e,O],Kt _,fun _=>⟨rfl,fun c hc=>⟨c,by rw[G _ (Y t J S n O)];exact hc,rfl⟩⟩⟩
 ·intro d k x U Z;exact⟨⟨k,by simp[upd,W d k x U Z,U],Z⟩,rfl⟩
theorem vX{cs cs':List AV}{c:Array Value}(hb:h b=some (.box ty cs))(hw:w.heap[φ b]?=some (.cells c ty (0,0)))(r:ZN φ h w M0)(J:Qi φ h w (MM φ h M0) cs' c'.toList):ZN φ (upd h b (.box ty cs')) (w.setRow (φ b) c') M0:=by
 obtain⟨E,X⟩:=AR (cs':=cs') (c':=c') hb hw r;refine⟨?_,?_,?_,fun x y hx=>Nat.lt_of_lt_of_le (r.lt x y hx) E.size,r.gm.evol E⟩
 ·intro d e G Y O
  have g:∀d,upd h b (.box ty cs') d≠none→h d≠none:=fun d G=>by
   by_cases e:b=d
   ·rw[←e,hb];simp
   ·simpa [upd,e] using G
  exact r.inj d e (g d G) (g e Y) O
 ·intro d q G;by_cases e:b=d
  ·subst e;have:q=.box ty cs':=by simpa [upd] using G.symm
   subst this;exact⟨c',setRow_heap w _ c c' ty _ hw,(QH (E.keeps M0) X).2 _ _ J⟩
  ·have U:h d=some q:=by simpa [upd,e] using G
   have hne:φ d≠φ b:=fun W=>e (r.inj d b (by rw[U];simp) (by rw[hb];simp) W).symm
   exact Z5 (E.keeps M0) X (setRow_other w _ _ c' hne) (r.blk d q U)
 ·intro d G o Z;refine r.fr d ?_ o Z;by_cases e:b=d
  ·rw[←e,hb];simp
  ·simpa [upd,e] using G
section lists
variable {φ:Nat→Nat}{h:QN}{w:World}{M:ZK}
theorem GY{r:Nat}:∀(cs:List PV) (o:Nat),Wj w M r o cs↔∀j c,cs[j]?=some c→∃v,w.cell? ⟨r,o+j,none⟩=some v∧¬M r (o+j)∧v.oneCell'=true∧QM w M c v
|[],o=>by simp[Wj]
|c::cs,o=>by
  simp only[Wj,GY cs (o+1)];constructor
  ·rintro⟨h0,O⟩ j x G;cases j with
  |zero=>simp at G;subst G;exact h0
  |succ j =>
    have:=O j x (by simpa using G)
    rwa [show o+1+j=o+(j+1) from by omega] at this
  ·intro J;refine⟨J 0 c zq,fun j x G=>?_⟩;have:=J (j+1) x (by simpa using G)
   rwa [show o+(j+1)=o+1+j from by omega] at this
theorem R4{r:Nat}:∀(a b:List PV) (o:Nat),Wj w M r o (a++b)↔Wj w M r o a∧Wj w M r (o+a.length) b
|[],b,o=>by simp[Wj]
|c::a,b,o=>by
  simp only[List.cons_append,Wj,R4 a b (o+1),Vr];rw[show o+1+a.length=o+(a.length+1) from by omega];constructor
  ·rintro⟨x,y,z⟩;exact⟨⟨x,y⟩,z⟩
  ·rintro⟨⟨x,y⟩,z⟩;exact⟨x,y,z⟩
theorem KO{S r:Nat}:∀(es:List (List PV)) (o:Nat),Wl w M S r o es↔(∀e∈es,e.length=S)∧Wj w M r o es.flatten
|[],o=>by simp[Wl,Wj]
|e::es,o=>by
  simp only[Wl,KO es (o+S),List.flatten_cons,R4,List.mem_cons];constructor
  ·rintro⟨⟨G,O⟩,U,Y⟩;refine⟨fun x J=>?_,O,by rw[G];exact Y⟩;rcases J with rfl|J
   ·exact G
   ·exact U x J
  ·rintro⟨G,O,U⟩;have W:=G e (.inl rfl);exact⟨⟨W,O⟩,fun x J=>G x (.inr J),by rw[←W];exact U⟩
theorem VD{S r:Nat}:∀(a b:List (List PV)) (o:Nat),Wl w M S r o (a++b)↔Wl w M S r o a∧Wl w M S r (o+a.length*S) b
|[],b,o=>by simp[Wl]
|e::a,b,o=>by
  simp only[List.cons_append,Wl,VD a b (o+S),Vr];rw[show o+S+a.length*S=o+(a.length+1)*S from by rw[Nat.add_mul];omega];constructor
  ·rintro⟨x,y,z⟩;exact⟨⟨x,y⟩,z⟩
  ·rintro⟨⟨x,y⟩,z⟩;exact⟨x,y,z⟩
theorem bX{S o:Nat}{es:List (List PV)}(G:Wl w M S r o es){e:List PV}(hi:es[i]?=some e):e.length=S∧Wj w M r (o+i*S) e:=by
 have hlt:i<es.length:=(CS.1 hi).1
 have hs:es=es.take i++(e::es.drop (i+1)):=by
  have J:es[i]=e:=(CS.1 hi).2
  conv=>lhs;rw[←List.take_append_drop i es]
  rw[←J,List.drop_eq_getElem_cons hlt]
 rw[hs,VD] at G;have O:(es.take i).length=i:=by simp;omega
 rw[O] at G;simp only[Wl] at G;exact G.2.1
theorem ZO:∀{xs:List AV} {l:List Value},Qi φ h w M xs l→xs.length=l.length
|[],l,G=>by simp only[Qi] at G;simp[G]
|x::xs,l,G=>by
  simp only[Qi] at G;obtain⟨y,ys,rfl,_,J⟩:=G;simp[ZO J]
theorem UE:∀{xs:List AV} {l:List Value},Qi φ h w M xs l→∀{i:Nat} {x:AV},xs[i]?=some x→∃v,l[i]?=some v∧Qe φ h w M x v
|[],l,G,i,x,hi=>by simp at hi
|y::xs,l,G,i,x,hi=>by
  simp only[Qi] at G;obtain⟨v,Y,rfl,U,J⟩:=G;cases i with
 |zero=>simp at hi;subst hi;exact⟨v,by simp,U⟩
 |succ i =>
   obtain⟨u,W,O⟩:=UE J (i:=i) (by simpa using hi);exact⟨u,by simpa using W,O⟩
theorem Zz:∀{a b:List AV} {l m:List Value},Qi φ h w M a l→Qi φ h w M b m→Qi φ h w M (a++b) (l++m)
|[],b,l,m,G,J=>by simp only[Qi] at G;subst G;simpa using J
|x::a,b,l,m,G,J=>by
  simp only[Qi] at G;obtain⟨v,O,rfl,W,U⟩:=G;simp only[List.cons_append,Qi];exact⟨v,O++m,rfl,W,Zz U J⟩
theorem UF:∀{a:List AV} {l:List Value} (n:Nat),Qi φ h w M a l→Qi φ h w M (a.take n) (l.take n)
|a,l,0,_=>by simp[Qi]
|[],l,n+1,G=>by simp only[Qi] at G;subst G;simp[Qi]
|x::a,l,n+1,G=>by
  simp only[Qi] at G;obtain⟨v,J,rfl,U,O⟩:=G;simp only[List.take_succ_cons,Qi];exact⟨v,J.take n,rfl,U,UF n O⟩
theorem UG:∀{a:List AV} {l:List Value} (n:Nat),Qi φ h w M a l→Qi φ h w M (a.drop n) (l.drop n)
|a,l,0,O=>by simpa using O
|[],l,n+1,G=>by simp only[Qi] at G;subst G;simp[Qi]
|x::a,l,n+1,G=>by
  simp only[Qi] at G;obtain⟨v,U,rfl,W,J⟩:=G;simpa using UG n J
end lists
def YN{α:Type}(P:Program):Sem α→Option α|.pure a=>some a|.program k=>YN P (k P)|.mark _ k=>YN P k|_=>none
theorem qo{s:Sem α}{a:α}(h:YN P s=some a)(w:World):s.run P w=.ok a w:=by
 induction s with
|pure b=>simp only[YN,QW] at h;subst h;rfl
|program k G=>simp only[YN] at h;exact G P h
|mark m k G=>simp only[YN] at h;exact G h
|_=>simp[YN] at h
mutual
def PW:AV→Option Value
|.p (.val x)=>some x
|.p (.sl _ _)=>none
|.tsl _ _ _=>none
|.ptr _ _=>none
|.eptr _=>none
|.vnil=>none
|.vsl _ _ _=>none
|.vptr _ _ _ _=>none
|.yv _=>none
|.mv _=>none
|.bsl _ _=>none
|.sfp _=>none
|.iv _=>none
|.agg cs=>(Mh cs).map fun l=>.agg l.toArray
|.tup cs=>(Mh cs).map fun l=>.tuple l.toArray
|.ifc t x=>(PW x).map (.iface t)
|.fn f a b=>match Mh a,Mh b with|some l,some m=>some (.func f l.toArray m.toArray)|_,_=>none
def Mh:List AV→Option (List Value)
|[]=>some []
|x::xs=>match PW x,Mh xs with|some y,some ys=>some (y::ys)|_,_=>none
end
theorem CX :
  (∀(x:AV) (v y:Value),Qe φ h w M x v→PW x=some y→v=y)∧(∀(xs:List AV) (l m:List Value),Qi φ h w M xs l→Mh xs=some m→l=m):=by
 have key:∀n:Nat,(∀(x:AV),SizeOf.sizeOf x≤n→∀v y,Qe φ h w M x v→PW x=some y→v=y)∧(∀(xs:List AV),SizeOf.sizeOf xs≤n→∀l m,Qi φ h w M xs l→Mh xs=some m→l=m):=by
  intro n
  induction n with
 |zero =>
   refine⟨fun x O=>?_,fun es O=>?_⟩
   ·cases x<;>simp at O
   ·cases es<;>simp at O
 |succ n ih =>
   obtain⟨Z,i2⟩:=ih;refine⟨fun x O v y J G=>?_,fun xs O l m J G=>?_⟩
   ·cases x with
   |p x=>cases x with
    |val x=>simp only[PW,QW] at G;simp only[Qe,QM] at J;rw[J,G]
    |sl S es=>simp[PW] at G
   |tsl S es t=>simp[PW] at G
   |ptr b off=>simp[PW] at G
   |eptr cs=>simp[PW] at G
   |vnil=>simp[PW] at G
   |vsl S t n=>simp[PW] at G
   |vptr t n k f=>simp[PW] at G
   |yv b=>simp[PW] at G
   |mv b=>simp[PW] at G
   |iv b=>simp[PW] at G
   |bsl b n=>simp[PW] at G
   |sfp b=>simp[PW] at G
   |agg cs =>
     simp only[PW,GU] at G;obtain⟨m,W,rfl⟩:=G;simp only[Qe] at J;obtain⟨l,rfl,U⟩:=J;rw[i2 cs (by simp at O;omega) l m U W]
   |tup cs =>
     simp only[PW,GU] at G;obtain⟨m,W,rfl⟩:=G;simp only[Qe] at J;obtain⟨l,rfl,U⟩:=J;rw[i2 cs (by simp at O;omega) l m U W]
   |fn f a b =>
     simp only[PW] at G;split at G
     ·rename_i l m hl hm;simp only[QW] at G;subst G;simp only[Qe] at J;obtain⟨l',m',rfl,U,Y⟩:=J;simp at O;rw[i2 a zo l' l U hl,i2 b zo m' m Y hm]
     ·cases G
   |ifc t x =>
     simp only[PW,GU] at G;obtain⟨m,W,rfl⟩:=G;simp only[Qe] at J;obtain⟨l,rfl,U⟩:=J;rw[Z x (by simp at O;omega) l m U W]
   ·cases xs with
   |nil=>simp only[Mh,QW] at G;simp only[Qi] at J;rw[J,G]
   |cons x xs =>
     simp only[Mh] at G;split at G
     ·rename_i y ys W U;simp only[QW] at G;subst G;simp only[Qi] at J;obtain⟨u,us,rfl,Y,h4⟩:=J;simp at O;rw[Z x zo u y Y W,i2 xs zo us ys h4 U]
     ·cases G
 exact⟨fun x v=>(key (SizeOf.sizeOf x)).1 x (Kt _) v,fun xs l=>(key (SizeOf.sizeOf xs)).2 xs (Kt _) l⟩
def AV.one:AV→Bool|.p (.val x)=>x.oneCell'|.agg _|.tup _=>false|_=>true
theorem mX{x:AV}(J:x.one=true)(G:Qe φ h w M x v):v.oneCell'=true∧v.cells=#[v]:=by
 have key:v.oneCell'=true:=by
  cases x with
 |p x=>cases x with
  |val y=>simp only[Qe,QM] at G;subst G;exact J
  |sl S es =>
    simp only[Qe,QM] at G;rcases G with⟨r,o,cap,rfl,_⟩|⟨_,a,cap,rfl⟩<;>rfl
 |tsl S es t =>
   simp only[Qe,QM] at G;rcases G.1 with⟨r,o,cap,rfl,_⟩|⟨_,a,cap,rfl⟩<;>rfl
 |ptr b off=>simp only[Qe] at G;rw[G.1];rfl
 |eptr cs=>simp only[Qe] at G;obtain⟨r,o,rfl,_⟩:=G;rfl
 |vnil=>simp only[Qe] at G;rw[G];rfl
 |vsl S t n=>simp only[Qe] at G;exact G.1
 |vptr t n k f=>simp only[Qe] at G;exact G.1
 |yv b=>simp only[Qe] at G;rw[G.1];rfl
 |mv b=>simp only[Qe] at G;rw[G.1];rfl
 |iv b=>simp only[Qe] at G;rw[G.1];rfl
 |bsl b n=>simp only[Qe] at G;rw[G.1];rfl
 |sfp b=>simp only[Qe] at G;rcases G.1 with e|e<;>rw[e]<;>rfl
 |agg cs=>simp[AV.one] at J
 |tup cs=>simp[AV.one] at J
 |fn f a b=>simp only[Qe] at G;obtain⟨l,m,rfl,_⟩:=G;rfl
 |ifc t x=>simp only[Qe] at G;obtain⟨y,rfl,_⟩:=G;rfl
 refine⟨key,?_⟩;cases v<;>first|rfl|(simp[Value.oneCell'] at key)
def UH:List AV→Bool|[]=>true|x::xs=>x.one&&UH xs
def cellsOf:AV→Option (List AV)|.agg cs=>if UH cs then some cs else none|x=>if x.one then some [x] else none
theorem R5{φ:Nat→Nat}{h:QN}{w:World}{M:ZK}:∀{xs:List AV} {l:List Value},UH xs=true→Qi φ h w M xs l→∀u∈l,u.oneCell'=true
|[],l,_,G=>by simp only[Qi] at G;subst G;simp
|x::xs,l,J,G=>by
  simp only[UH,ZG] at J;simp only[Qi] at G;obtain⟨y,ys,rfl,O,U⟩:=G;intro u hu;rcases List.mem_cons.1 hu with rfl|hu
  ·exact(mX J.1 O).1
  ·exact R5 J.2 U u hu
theorem VE{x:AV}{cs:List AV}(hc:cellsOf x=some cs)(U:Qe φ h w M x v) :
  Qi φ h w M cs v.cells.toList∧(∀u∈v.cells.toList,u.oneCell'=true)∧UH cs=true:=by
 have other:(if x.one then some [x] else none)=some cs→Qi φ h w M cs v.cells.toList∧(∀u∈v.cells.toList,u.oneCell'=true)∧UH cs=true:=by
  intro O;split at O
  ·rename_i G;simp only[QW] at O;subst O;obtain⟨J,W⟩:=mX G U;rw[W];exact⟨by simp only[Qi];exact⟨v,[],rfl,U,rfl⟩,by simpa using J,by simp[UH,G]⟩
  ·cases O
 cases x with
|agg xs =>
  simp only[cellsOf] at hc;split at hc
  ·rename_i G;simp only[QW] at hc;subst hc;simp only[Qe] at U;obtain⟨l,rfl,J⟩:=U;simp only[Value.cells];exact⟨J,R5 G J,G⟩
  ·cases hc
|_=>exact other hc
abbrev KN:=AV×Option (Nat×Blk)×List Nat
def ap(h:QN):Option (Nat×Blk)→QN|none=>h|some (b,k)=>upd h b k
def Yield(P:Program)(o:Oper)(φ:Nat→Nat)(M0:ZK)(h:QN)(a:Act)(w:World)(x:AV)(h':QN):Prop :=∃G v w' φ',(execOp a.eval o).run P w=.ok G w'∧(G=.value v∨G=.skip∧v=undef)∧Qe φ' h' w' (MM φ' h' M0) x v∧ZN φ' h' w' M0∧Q8 φ h w φ' h' w'∧Y4 φ h w φ' h' w'
section
variable {P:Program}{o:Oper}{φ:Nat→Nat}{M0:ZK}{N:Nat}{D:DB}{T:Nat→Option AV}{h:QN}{a:Act}{w:World}
theorem Yield.of_lift(r:Zn φ M0 N D T h a w)(K:Nat){x:AV}(hy:∀G,Zn G M0 N D T h a w→Q8 φ h w G h w→Y4 φ h w G h w→Clear G h w K→Yield P o G M0 h a w x h'):Yield P o φ M0 h a w x h':=by
 obtain⟨r1,E1,J,Y⟩:=r.lift K;obtain⟨nx,v,w',φ',h1,O,h3,U,W,Z⟩:=hy _ r1 E1 J Y;exact⟨nx,v,w',φ',h1,O,h3,U,E1.trans W,Y4.trans (Kt _) J Z⟩
theorem Qp(r:Zn φ M0 N D T h a w){x:AV}(G:(execOp a.eval o).run P w=.ok (.value v) w)(J:Qe φ h w (MM φ h M0) x v):Yield P o φ M0 h a w x h :=
 ⟨_,v,w,φ,G,.inl rfl,J,r.hp,Q8.refl _ _ _,Y4.refl _ _ _⟩
def Wt(T:Nat→Option AV)(x:Operand):Option KN:=match Zo T x with|some v=>some (v,none,[])|none=>none
def BL(T:Nat→Option AV)(c x y:Operand):Option KN :=
 match Zo T c with
|some (.p (.val (.bool true)))=>Wt T x
|some (.p (.val (.bool false)))=>Wt T y
|_=>none
theorem mY(r:Zn φ M0 N D T h a w){v:AV}(G:o.op=.move x∨o.op=.assign x)(J:Zo T x=some v):Yield P o φ M0 h a w v h:=by
 refine Qp r (v:=a.eval x) ?_ (r.ev J);rcases G with G|G<;>simp[execOp,G]
theorem mZ(r:Zn φ M0 N D T h a w){c:Operand}{u:KN}(W:o.op=.pick c x y)(G:BL T c x y=some u):u.2.1=none∧u.2.2=[]∧Yield P o φ M0 h a w u.1 h:=by
 unfold BL at G;split at G
 ·rename_i U;unfold Wt at G;split at G
  ·rename_i v O;simp only[QW] at G;subst G;have J:=r.ev U;simp only[Qe,QM] at J;exact⟨rfl,rfl,Qp r (v:=a.eval x) (by simp[execOp,W,J,asBool]) (r.ev O)⟩
  ·cases G
 ·rename_i U;unfold Wt at G;split at G
  ·rename_i v O;simp only[QW] at G;subst G;have J:=r.ev U;simp only[Qe,QM] at J;exact⟨rfl,rfl,Qp r (v:=a.eval y) (by simp[execOp,W,J,asBool]) (r.ev O)⟩
  ·cases G
 ·cases G
def Fq:TypeDesc→Bool|.struct _|.array _ _=>true|_=>false
theorem UI{t:TypeId}{d:TypeDesc}(G:P.underlying t=some d)(w:World):(isAgg t).run P w=.ok (Fq d) w:=by
 simp only[isAgg,Sem.run_bind,run_underlying G,Result.andThen_ok];cases d<;>rfl
theorem Q9{t:TypeId}{i:TypeInfo}(hi:P.info? t=some i)(w:World):(sizeOf t).run P w=.ok i.size w:=by
 simp[sizeOf,typeInfo,hi]
def ES(P:Program)(T:Nat→Option AV)(h:QN)(ty:TypeId)(x:Operand):Option KN :=
 match P.underlying ty,P.info? ty with
|some d,some i =>
  match Zo T x with
 |some (.ptr b off) =>
   match h b with
  |some (.box _ cs) =>
    if Fq d then(if off+i.size≤cs.length then some (.agg ((cs.drop off).take i.size),none,[b]) else none)
    else match cs[off]? with|some c=>some (c,none,[b])|none=>none
  |_=>none
 |some (.eptr cs) =>
   if Fq d then(if i.size≤cs.length then some (.agg ((cs.take i.size).map .p),none,[]) else none)
   else match cs[0]? with|some c=>some (.p c,none,[])|none=>none
 |_=>none
|_,_=>none
theorem Dj{d:TypeDesc}{i:TypeInfo}(U:P.underlying ty=some d)(hi:P.info? ty=some i)(G:Fq d=true)(l:List Value)(W:l.length=i.size)(hc:∀j v,l[j]?=some v→w.cell? ⟨r,off+j,none⟩=some v):(loadVar ty ⟨r,off,none⟩).run P w=.ok (.agg l.toArray) w:=by
 have J:=run_loadCells_list (P:=P) w ⟨r,off,none⟩ l (fun j v O=>by rw[Addr.add_lit];exact hc j v O);rw[W] at J;simp[loadVar,UI U,G,Q9 hi,J]
theorem Dk{d:TypeDesc}(J:P.underlying ty=some d)(G:Fq d=false)(hc:w.cell? ⟨r,off,none⟩=some v) :
  (loadVar ty ⟨r,off,none⟩).run P w=.ok v w:=by
 simp[loadVar,UI J,G,hc]
theorem Kh{c:Array Value}(hw:w.heap[r]?=some (.cells c ty (0,0))):w.cell? ⟨r,off,none⟩=c[off]?:=by simp[World.cell?,hw]
theorem AU(r:Zn φ M0 N D T h a w){u:KN}(G:ES P T h ty x=some u):u.2.1=none∧∃v,(Instr.loadAt ty (a.eval x)).run P w=.ok v w∧Qe φ h w (MM φ h M0) u.1 v:=by
 unfold ES at G;split at G
 ·rename_i d i hd hi;split at G
  ·rename_i b off hx;have W:=r.ev hx;simp only[Qe] at W;split at G
   ·rename_i af cs hb;obtain⟨c,hw,aa⟩:=r.hp.blk b _ hb;split at G
    ·rename_i O;split at G
     ·rename_i Z;simp only[QW] at G;subst G;have ae:=ZO aa;have h3:Qi φ h w (MM φ h M0) ((cs.drop off).take i.size) ((c.toList.drop off).take i.size):=UF _ (UG _ aa);refine⟨rfl,.agg ((c.toList.drop off).take i.size).toArray,?_,?_⟩
      ·have:=Dj (w:=w) (r:=φ b) (off:=off) hd hi O ((c.toList.drop off).take i.size) (by simp at ae ⊢;omega) (fun j v U=>by
        rw[Kh hw];rw[List.getElem?_take] at U;split at U
        ·simpa using U
        ·cases U)
       simp[Instr.loadAt,W.1,Instr.sureAddr,this]
      ·simp only[Qe];exact⟨_,rfl,h3⟩
     ·cases G
    ·rename_i O;split at G
     ·rename_i c0 ab;simp only[QW] at G;subst G;obtain⟨v,hv,ac⟩:=UE aa ab;refine⟨rfl,v,?_,ac⟩;have:=Dk (P:=P) (w:=w) (r:=φ b) (off:=off) hd (by simpa using O) (v:=v) (by rw[Kh hw];simpa using hv);simp[Instr.loadAt,W.1,Instr.sureAddr,this]
     ·cases G
   ·cases G
  ·rename_i cs hx;have W:=r.ev hx;simp only[Qe] at W;obtain⟨rr,J,h3,h4⟩:=W;rw[GY] at h4;split at G
   ·rename_i O;split at G
    ·rename_i Z;simp only[QW] at G;subst G
     have hex:∃l:List Value,l.length=i.size∧(∀j v,l[j]?=some v→w.cell? ⟨rr,J+j,none⟩=some v)∧Qi φ h w (MM φ h M0) ((cs.take i.size).map .p) l:=by
      have ad:∀(k:Nat) (cs:List PV) (J:Nat),k≤cs.length→(∀j c,cs[j]?=some c→∃v,w.cell? ⟨rr,J+j,none⟩=some v∧¬MM φ h M0 rr (J+j)∧v.oneCell'=true∧QM w (MM φ h M0) c v) →
        ∃l:List Value,l.length=k∧(∀j v,l[j]?=some v→w.cell? ⟨rr,J+j,none⟩=some v)∧Qi φ h w (MM φ h M0) ((cs.take k).map .p) l:=by
       intro k
       induction k with
      |zero=>intro cs J _ _;exact⟨[],rfl,by simp,by simp[Qi]⟩
      |succ k ih =>
        intro cs J hk Y;cases cs with
       |nil=>simp at hk
       |cons c cs =>
         obtain⟨v,hv,hm,_,hr⟩:=Y 0 c zq
         obtain⟨l,h1,W,h3⟩:=ih cs (J+1) (by simp at hk;omega) (fun j c' U=>by
          have:=Y (j+1) c' (by simpa using U)
          rwa [show J+(j+1)=J+1+j from by omega] at this)
         refine⟨v::l,by simp[h1],fun j u U=>?_,?_⟩
         ·cases j with
         |zero=>simp at U;subst U;simpa using hv
         |succ j=>have:=W j u (by simpa using U);rwa [show J+1+j=J+(j+1) from by omega] at this
         ·simp only[List.take_succ_cons,Yy,Qi];exact⟨v,l,rfl,by simpa [Qe] using hr,h3⟩
      exact ad i.size cs J Z h4
     obtain⟨l,h5,h6,h7⟩:=hex;refine⟨rfl,.agg l.toArray,?_,?_⟩
     ·have:=Dj (w:=w) (r:=rr) (off:=J) hd hi O l h5 h6;simp[Instr.loadAt,h3,Instr.sureAddr,this]
     ·simp only[Qe];exact⟨l,rfl,h7⟩
    ·cases G
   ·rename_i O;split at G
    ·rename_i c0 ab;simp only[QW] at G;subst G;obtain⟨v,hv,_,_,ac⟩:=h4 0 c0 ab;refine⟨rfl,v,?_,by simpa [Qe] using ac⟩;have:=Dk (P:=P) (w:=w) (r:=rr) (off:=J) hd (by simpa using O) (v:=v) (by simpa using hv);simp[Instr.loadAt,h3,Instr.sureAddr,this]
    ·cases G
  ·cases G
 ·cases G
theorem QbP(r:Zn φ M0 N D T h a w){u:KN}(G:o.op=.load ty x)(O:ES P T h ty x=some u):u.2.1=none∧Yield P o φ M0 h a w u.1 h:=by
 obtain⟨U,v,J,W⟩:=AU (P:=P) r O;exact⟨U,Qp r (v:=v) (by simp[execOp,G,J]) W⟩
def AY(P:Program)(T:Nat→Option AV)(h:QN)(ty:TypeId)(x y:Operand):Option KN :=
 match P.info? ty,Zo T x,Zo T y with
|some i,some (.ptr b off),some v =>
  match h b,cellsOf v with
 |some (.box tb cs),some G =>
   if G.length=i.size∧off+G.length≤cs.length then some (.p (.val undef),some (b,.box tb (cs.take off++G++cs.drop (off+G.length))),[b]) else none
 |_,_=>none
|_,_,_=>none
theorem lU(r:Zn φ M0 N D T h a w){u:KN}(ho:o.op=.store ty x y)(G:AY P T h ty x y=some u):Yield P o φ M0 h a w u.1 (ap h u.2.1):=by
 unfold AY at G;split at G
 ·rename_i i b off v hi hx hy;have h2:=r.ev hx;have h3:=r.ev hy;simp only[Qe] at h2;split at G
  ·rename_i tb cs Y hb Z;split at G
   ·rename_i ac;simp only[QW] at G;subst G;obtain⟨c,hw,O⟩:=r.hp.blk b _ hb;obtain⟨h4,h5,h6⟩:=VE Z h3;have J:=ZO h4;have aa:=ZO O;have W:=run_storeCells_at P (φ b) off tb (a.eval y).cells.toList 0 c w hw (by simp at J aa ⊢;omega) h5;simp only[Nat.add_zero] at W
    have U:Qi φ h w (MM φ h M0) (cs.take off++Y++cs.drop (off+Y.length)) (c.toList.take off++(a.eval y).cells.toList++c.toList.drop (off+(a.eval y).cells.toList.length)):=by
     rw[←J];exact Zz (Zz (UF _ O) h4) (UG _ O)
    obtain⟨E,X⟩:=AR (cs':=cs.take off++Y++cs.drop (off+Y.length)) (c':=(c.toList.take off++(a.eval y).cells.toList++c.toList.drop (off+(a.eval y).cells.toList.length)).toArray) hb hw r.hp;refine⟨.skip,undef,_,φ,?_,.inr ⟨rfl,rfl⟩,by simp[Qe,QM],vX hb hw r.hp (by simpa using U),E,X⟩;have ab:(a.eval y).cells.size=i.size:=by simp at J;omega
    simp[execOp,ho,Instr.storeAt,h2.1,Instr.sureAddr,storeVar,Q9 hi,ab,W]
   ·cases G
  ·cases G
 ·cases G
def qp(o:Oper)(h:QN)(ty:TypeId)(v:AV):Option KN :=
 match o.dst,cellsOf v with
|some d,some cs=>match h d with|none=>some (.ptr d 0,some (d,.box ty cs),[d])|some _=>none
|_,_=>none
theorem lV(r:Zn φ M0 N D T h a w){v:AV}{y:Value}{u:KN}(O:(execOp a.eval o).run P w=.ok (.value (.pointer (some ⟨w.heap.size,0,none⟩))) (w.alloc (.cells y.cells ty)))(W:Qe φ h w (MM φ h M0) v y)(J:qp o h ty v=some u):Yield P o φ M0 h a w u.1 (ap h u.2.1):=by
 unfold qp at J;split at J
 ·rename_i d cs _ U;split at J
  ·rename_i Z;simp only[QW] at J;subst J;refine Yield.of_lift r 1 fun φ r E0 X0 Y=>?_
   have W:=(QH (E0.keeps M0) X0).1 _ _ W;obtain⟨E,X⟩:=Xg (w':=w.alloc (.cells y.cells ty)) (o:=.cells y.cells ty) (b:=d) (k:=.box ty cs) (M0:=M0) rfl rfl rfl rfl Z r.hp Y
   have G:RelB (Qx φ d w.heap.size) (upd h d (.box ty cs)) (w.alloc (.cells y.cells ty)) (MM (Qx φ d w.heap.size) (upd h d (.box ty cs)) M0) w.heap.size (.box ty cs):=by
    refine⟨y.cells,by show(w.heap.push _)[w.heap.size]?=_;simp,(QH (E.keeps M0) X).2 _ _ (VE U W).1⟩
   refine⟨_,_,_,Qx φ d w.heap.size,O,.inl rfl,?_,Xh rfl Z r.hp Y E X G,E,X⟩;simp only[Qe,ap];exact⟨by simp[Qx],ty,cs,by simp[upd]⟩
  ·cases J
 ·cases J
theorem lW(r:Zn φ M0 N D T h a w){i:TypeInfo}{u:KN}(G:o.op=.alloc ty)(hi:P.info? ty=some i)(O:i.zero=some z)(J:qp o h ty (AP z)=some u) :
  Yield P o φ M0 h a w u.1 (ap h u.2.1) :=
 lV r (y:=z) (by simp[execOp,G,Instr.alloc,zeroValue,typeInfo,hi,O,newVar,newRow,newObj,Sem.run]) (WS z) J
theorem Qfg(r:Zn φ M0 N D T h a w){v:AV}{u:KN}(G:o.op=.box ty x)(O:Zo T x=some v)(J:qp o h ty v=some u) :
  Yield P o φ M0 h a w u.1 (ap h u.2.1) :=
 lV r (y:=a.eval x) (by simp[execOp,G,Instr.box,newVar,newRow,newObj,Sem.run]) (r.ev O) J
end
section
variable {P:Program}{o:Oper}{φ:Nat→Nat}{M0:ZK}{N:Nat}{D:DB}{T:Nat→Option AV}{h:QN}{a:Act}{w:World}
theorem Mj{o:Nat}{cs:List PV}(k:Nat)(O:k≤cs.length)(J:Wj w M r o cs):Wj w M r (o+k) (cs.drop k):=by
 have:Wj w M r o (cs.take k++cs.drop k):=by rw[List.take_append_drop];exact J
 rw[R4] at this;have G:(cs.take k).length=k:=by simp;omega
 rw[G] at this;exact this.2
def XE(P:Program)(T:Nat→Option AV)(s:TypeId)(x:Operand)(f:Nat):Option KN :=
 match P.underlying s with
|some (.struct fields) =>
  match fields[f]? with
 |some G =>
   match P.info? G.type with
  |some i =>
    if i.size=0 then none else
    match Zo T x with
   |some (.ptr b off)=>some (.ptr b (off+G.offset),none,[])
   |some (.eptr cs)=>if G.offset≤cs.length then some (.eptr (cs.drop G.offset),none,[]) else none
   |_=>none
  |none=>none
 |none=>none
|_=>none
theorem kD(r:Zn φ M0 N D T h a w){s:TypeId}{f:Nat}{u:KN}(ho:o.op=.fieldAddr s x f)(G:XE P T s x f=some u):u.2.1=none∧Yield P o φ M0 h a w u.1 h:=by
 unfold XE at G;split at G
 ·rename_i fields hs;split at G
  ·rename_i U hf;split at G
   ·rename_i i hi;split at G
    ·cases G
    ·rename_i O;split at G
     ·rename_i b off Y;simp only[QW] at G;subst G;have J:=r.ev Y;simp only[Qe] at J;refine⟨rfl,Qp r (v:=.pointer (some ⟨φ b,off+U.offset,none⟩)) ?_ ?_⟩
      ·simp[execOp,ho,Instr.fieldAt,run_underlying hs,hf,J.1,Instr.sureAddr,fieldPlace,Q9 hi,O,Addr.add_lit]
      ·simp only[Qe];exact⟨trivial,J.2⟩
     ·rename_i cs Y;split at G
      ·rename_i W;simp only[QW] at G;subst G;have J:=r.ev Y;simp only[Qe] at J;obtain⟨rr,Z,h3,h4⟩:=J;refine⟨rfl,Qp r (v:=.pointer (some ⟨rr,Z+U.offset,none⟩)) ?_ ?_⟩
       ·simp[execOp,ho,Instr.fieldAt,run_underlying hs,hf,h3,Instr.sureAddr,fieldPlace,Q9 hi,O,Addr.add_lit]
       ·simp only[Qe];exact⟨rr,Z+U.offset,rfl,Mj _ W h4⟩
      ·cases G
     ·cases G
   ·cases G
  ·cases G
 ·cases G
def elems:AV→Option (Nat×List (List PV))|.p (.sl S es)=>some (S,es)|.tsl S es _=>some (S,es)|_=>none
theorem CY{x:AV}{S:Nat}{es:List (List PV)}(G:elems x=some (S,es))(J:Qe φ h w M x v):QM w M (.sl S es) v:=by
 cases x with
|p x=>cases x with
 |val y=>simp[elems] at G
 |sl O es'=>simp only[elems,QW,Xu] at G;obtain⟨rfl,rfl⟩:=G;simpa only[Qe] using J
|tsl O es' t=>simp only[elems,QW,Xu] at G;obtain⟨rfl,rfl⟩:=G;simp only[Qe] at J;exact J.1
|_=>simp[elems] at G
def UJ(P:Program)(T:Nat→Option AV)(t:TypeId)(x ix:Operand):Option KN :=
 match Zo T ix with
|some (.p (.val (.int _ n))) =>
  match P.underlying t,Zo T x with
 |some (.slice e),some v =>
   match elems v,P.info? e with
  |some (S,es),some i=>if i.size=S∧0≤n then(match es[n.toNat]? with|some c=>some (.eptr c,none,[])|none=>none) else none
  |_,_=>none
 |some (.array len e),some (.ptr b off) =>
   match P.info? e with
  |some i=>if 0≤n∧n<len then some (.ptr b (off+n.toNat*i.size),none,[]) else none
  |none=>none
 |some (.array len e),some (.eptr cs) =>
   match P.info? e with
  |some i=>if 0≤n∧n<len∧n.toNat*i.size≤cs.length then some (.eptr (cs.drop (n.toNat*i.size)),none,[]) else none
  |none=>none
 |_,_=>none
|_=>none
theorem kE(r:Zn φ M0 N D T h a w){t:TypeId}{u:KN}(ho:o.op=.indexAddr t x ix)(G:UJ P T t x ix=some u):u.2.1=none∧Yield P o φ M0 h a w u.1 h:=by
 unfold UJ at G;split at G
 ·rename_i k n ad;have O:=r.ev ad;simp only[Qe,QM] at O;split at G
  ·rename_i e v W Y;split at G
   ·rename_i S es i ae hi;split at G
    ·rename_i hc;split at G
     ·rename_i c U;simp only[QW] at G;subst G;have J:=CY ae (r.ev Y);simp only[QM] at J;have hlt:n.toNat<es.length:=(CS.1 U).1;rcases J with⟨Z,oo,cap,hv,ac⟩|⟨rfl,_⟩
      ·obtain⟨_,aa⟩:=bX ac.2 U;refine⟨rfl,Qp r (v:=.pointer (some ⟨Z,oo+n.toNat*i.size,none⟩)) ?_ ?_⟩
       ·have ab:0≤n∧n<(es.length:Int):=⟨hc.2,by omega⟩;simp[execOp,ho,Instr.indexAt,O,asIntOf,run_underlying W,hv,ab,Q9 hi,Addr.add_lit]
       ·simp only[Qe];exact⟨Z,_,rfl,by rw[hc.1];exact aa⟩
      ·simp at hlt
     ·cases G
    ·cases G
   ·cases G
  ·rename_i len e b off W Y;split at G
   ·rename_i i hi;split at G
    ·rename_i hc;simp only[QW] at G;subst G;have J:=r.ev Y;simp only[Qe] at J;refine⟨rfl,Qp r (v:=.pointer (some ⟨φ b,off+n.toNat*i.size,none⟩)) ?_ ?_⟩
     ·simp[execOp,ho,Instr.indexAt,O,asIntOf,run_underlying W,J.1,Instr.sureAddr,hc,Q9 hi,Addr.add_lit]
     ·simp only[Qe];exact⟨trivial,J.2⟩
    ·cases G
   ·cases G
  ·rename_i len e cs W Y;split at G
   ·rename_i i hi;split at G
    ·rename_i hc;simp only[QW] at G;subst G;have J:=r.ev Y;simp only[Qe] at J;obtain⟨Z,oo,h3,h4⟩:=J;refine⟨rfl,Qp r (v:=.pointer (some ⟨Z,oo+n.toNat*i.size,none⟩)) ?_ ?_⟩
     ·simp[execOp,ho,Instr.indexAt,O,asIntOf,run_underlying W,h3,Instr.sureAddr,hc.1,hc.2.1,Q9 hi,Addr.add_lit]
     ·simp only[Qe];exact⟨Z,_,rfl,Mj _ hc.2.2 h4⟩
    ·cases G
   ·cases G
  ·cases G
 ·cases G
def vY(P:Program)(ty:TypeId)(cs:List AV)(off:Nat):Option AV :=
 match P.underlying ty,P.info? ty with
|some d,some i=>if Fq d then(if off+i.size≤cs.length then some (.agg ((cs.drop off).take i.size)) else none) else cs[off]?
|_,_=>none
theorem ng{cs:List AV}{x:AV}{l:List Value}(G:vY P ty cs off=some x)(W:Qi φ h w M cs l) :
  ∃v,(part ty l.toArray off).run P w=.ok v w∧Qe φ h w M x v:=by
 unfold vY at G;split at G
 ·rename_i d i U hi;split at G
  ·rename_i J;split at G
   ·rename_i Y;simp only[QW] at G;subst G;refine⟨.agg ((l.drop off).take i.size).toArray,?_,?_⟩
    ·simp[part,UI U,J,Q9 hi]
    ·simp only[Qe];exact⟨_,rfl,UF _ (UG _ W)⟩
   ·cases G
  ·rename_i J;obtain⟨v,Z,O⟩:=UE W G;refine⟨v,?_,O⟩;simp[part,UI U,J,Z]
 ·cases G
def AZ(P:Program)(T:Nat→Option AV)(t:TypeId)(x:Operand)(f:Nat):Option KN :=
 match P.underlying t,Zo T x with
|some (.struct fields),some (.agg cs) =>
  match fields[f]? with
 |some G=>match vY P G.type cs G.offset with|some v=>some (v,none,[])|none=>none
 |none=>none
|_,_=>none
theorem lX(r:Zn φ M0 N D T h a w){t:TypeId}{f:Nat}{u:KN}(O:o.op=.field t x f)(G:AZ P T t x f=some u):u.2.1=none∧Yield P o φ M0 h a w u.1 h:=by
 unfold AZ at G;split at G
 ·rename_i fields cs Z hx;split at G
  ·rename_i fl hf;split at G
   ·rename_i v hv;simp only[QW] at G;subst G;have J:=r.ev hx;simp only[Qe] at J;obtain⟨l,h3,U⟩:=J;obtain⟨y,W,Y⟩:=ng hv U;refine⟨rfl,Qp r (v:=y) ?_ Y⟩;simp[execOp,O,Instr.field,run_underlying Z,hf,h3,asAgg,W]
   ·cases G
  ·cases G
 ·cases G
def PX(P:Program)(T:Nat→Option AV)(t:TypeId)(x ix:Operand):Option KN :=
 match P.underlying t,Zo T x,Zo T ix with
|some (.array len e),some (.agg cs),some (.p (.val (.int _ n))) =>
  match P.info? e with
 |some i=>if 0≤n∧n<len then(match vY P e cs (n.toNat*i.size) with|some v=>some (v,none,[])|none=>none) else none
 |none=>none
|_,_,_=>none
theorem lY(r:Zn φ M0 N D T h a w){t:TypeId}{u:KN}(W:o.op=.index t x ix)(G:PX P T t x ix=some u):u.2.1=none∧Yield P o φ M0 h a w u.1 h:=by
 unfold PX at G;split at G
 ·rename_i len e cs k n ht hx O;split at G
  ·rename_i i hi;split at G
   ·rename_i hc;split at G
    ·rename_i v hv;simp only[QW] at G;subst G;have U:=r.ev hx;simp only[Qe] at U;obtain⟨l,h3,Y⟩:=U;have J:=r.ev O;simp only[Qe,QM] at J;obtain⟨y,Z,h6⟩:=ng hv Y;refine⟨rfl,Qp r (v:=y) ?_ h6⟩;simp[execOp,W,Instr.index,J,asIntOf,run_underlying ht,h3,hc,Q9 hi,Z]
    ·cases G
   ·cases G
  ·cases G
 ·cases G
def Fu(T:Nat→Option AV)(x:Operand)(i:Nat):Option KN :=
 match Zo T x with
|some (.tup G)=>match G[i]? with|some v=>some (v,none,[])|none=>none
|_=>none
theorem uJ(r:Zn φ M0 N D T h a w){u:KN}(O:o.op=.extract x i)(G:Fu T x i=some u):u.2.1=none∧Yield P o φ M0 h a w u.1 h:=by
 unfold Fu at G;split at G
 ·rename_i vs W;split at G
  ·rename_i v hv;simp only[QW] at G;subst G;have J:=r.ev W;simp only[Qe] at J;obtain⟨l,h3,Y⟩:=J;obtain⟨y,Z,U⟩:=UE Y hv;refine⟨rfl,Qp r (v:=y) ?_ U⟩;simp[execOp,O,Instr.extract,h3,Z]
  ·cases G
 ·cases G
def PY(T:Nat→Option AV):List Operand→Option (List AV)
|[]=>some []
|x::xs=>match Zo T x,PY T xs with|some v,some G=>some (v::G)|_,_=>none
theorem Fv(r:Zn φ M0 N D T h a w):∀{xs:List Operand} {J:List AV},PY T xs=some J→Qi φ h w (MM φ h M0) J (xs.map a.eval)
|[],J,G=>by simp only[PY,QW] at G;subst G;simp[Qi]
|x::xs,J,G=>by
  simp only[PY] at G;split at G
  ·rename_i v W U O;simp only[QW] at G;subst G;simp only[Yy,Qi];exact⟨_,_,rfl,r.ev U,Fv r O⟩
  ·cases G
def Ro(T:Nat→Option AV)(f:Fn)(first captured:Array Operand):Option KN :=
 match PY T first.toList,PY T captured.toList with
|some l,some m=>some (.fn f l m,none,[])
|_,_=>none
theorem vZ(r:Zn φ M0 N D T h a w){f:Fn}{first captured:Array Operand}{u:KN}(O:o.op=.makeFunc f first captured)(G:Ro T f first captured=some u):u.2.1=none∧Yield P o φ M0 h a w u.1 h:=by
 unfold Ro at G;split at G
 ·rename_i l m W U;simp only[QW] at G;subst G;refine⟨rfl,Qp r (v:=.func f (first.map a.eval) (captured.map a.eval)) ?_ ?_⟩
  ·simp[execOp,O,Instr.makeFunc]
  ·simp only[Qe];refine⟨first.toList.map a.eval,captured.toList.map a.eval,?_,Fv r W,Fv r U⟩;have J:∀z:Array Operand,z.map a.eval=(z.toList.map a.eval).toArray:=fun z=>by apply Array.ext';simp
   rw[J first,J captured]
 ·cases G
def Ju(P:Program)(T:Nat→Option AV)(t:TypeId)(x:Operand):Option KN :=
 match P.underlying t,Zo T x with
|some (.interface _),_=>none
|some _,some v=>some (.ifc t v,none,[])
|_,_=>none
theorem PZ(r:Zn φ M0 N D T h a w){t:TypeId}{u:KN}(O:o.op=.makeInterface t x)(G:Ju P T t x=some u):u.2.1=none∧Yield P o φ M0 h a w u.1 h:=by
 unfold Ju at G;split at G
 ·cases G
 ·rename_i d v hne U Y;simp only[QW] at G;subst G;refine⟨rfl,Qp r (v:=.iface t (a.eval x)) ?_ ?_⟩
  ·have W:∀J,d≠.interface J:=fun J e=>hne J e
   cases d<;>first|(exact absurd rfl (W _))|simp[execOp,O,Instr.makeInterface,run_underlying U]
  ·simp only[Qe];exact⟨_,rfl,r.ev Y⟩
 ·cases G
def Hm(P:Program)(T:Nat→Option AV)(x:Operand)(asserted:TypeId)(ok:Bool):Option KN :=
 match P.underlying asserted,Zo T x with
|some (.interface _),_=>none
|some _,some (.ifc t v) =>
  if t=asserted then some (if ok then .tup [v,.p (.val (.bool true))] else v,none,[])
  else if ok then(match (P.info? asserted).bind (·.zero) with|some z=>some (.tup [AP z,.p (.val (.bool false))],none,[])|none=>none)
  else none
|_,_=>none
theorem qw(r:Zn φ M0 N D T h a w){xt asserted:TypeId}{u:KN}(W:o.op=.typeAssert x xt asserted ok)(G:Hm P T x asserted ok=some u):u.2.1=none∧Yield P o φ M0 h a w u.1 h:=by
 unfold Hm at G;split at G
 ·cases G
 ·rename_i d t v hne Y hx;have Z:∀ms,d≠.interface ms:=fun ms e=>hne ms e
  have h2:=r.ev hx;simp only[Qe] at h2;obtain⟨y,h3,h4⟩:=h2;split at G
  ·rename_i O;simp only[QW] at G;subst G;cases ok
   ·refine⟨rfl,Qp r (v:=y) ?_ h4⟩;cases d<;>first|(exact absurd rfl (Z _))|simp[execOp,W,Instr.typeAssert,run_underlying Y,h3,O]
   ·refine⟨rfl,Qp r (v:=.tuple #[y,.bool true]) ?_ ?_⟩
    ·cases d<;>first|(exact absurd rfl (Z _))|simp[execOp,W,Instr.typeAssert,run_underlying Y,h3,O]
    ·simp only[Qe,if_true];exact⟨[y,.bool true],rfl,by simp[Qi,h4,Qe,QM]⟩
  ·rename_i J;split at G
   ·rename_i hok;split at G
    ·rename_i z U;simp only[QW] at G;subst G;simp only[PS] at U;obtain⟨i,hi,U⟩:=U;refine⟨rfl,Qp r (v:=.tuple #[z,.bool false]) ?_ ?_⟩
     ·cases d<;>first|(exact absurd rfl (Z _))|simp[execOp,W,Instr.typeAssert,run_underlying Y,h3,J,hok,zeroValue,typeInfo,hi,U]
     ·simp only[Qe];exact⟨[z,.bool false],rfl,by simp[Qi,WS,Qe,QM]⟩
    ·cases G
   ·cases G
 ·cases G
def UK(T:Nat→Option AV)(x:Operand):Option KN :=
 match Zo T x with
|some (.ptr b off)=>some (.ptr b off,none,[])
|some (.eptr cs)=>some (.eptr cs,none,[])
|some (.fn (.func f) l m)=>some (.fn (.func f) l m,none,[])
|_=>none
theorem wh(r:Zn φ M0 N D T h a w){u:KN}(U:o.op=.nilCheck x)(J:UK T x=some u):u.2.1=none∧Yield P o φ M0 h a w u.1 h:=by
 unfold UK at J;split at J
 ·rename_i b off O;simp only[QW] at J;subst J;have G:=r.ev O;refine⟨rfl,Qp r (v:=a.eval x) ?_ G⟩;simp only[Qe] at G;simp[execOp,U,G.1]
 ·rename_i cs O;simp only[QW] at J;subst J;have G:=r.ev O;refine⟨rfl,Qp r (v:=a.eval x) ?_ G⟩;simp only[Qe] at G;obtain⟨rr,Y,W,_⟩:=G;simp[execOp,U,W]
 ·rename_i f l m O;simp only[QW] at J;subst J;have G:=r.ev O;refine⟨rfl,Qp r (v:=a.eval x) ?_ G⟩;simp only[Qe] at G;obtain⟨l',Z,W,_⟩:=G;simp[execOp,U,W]
 ·cases J
def lZ(P:Program)(T:Nat→Option AV)(t:TypeId)(x:Operand):Option KN :=
 match P.underlying t,Zo T x with
|some (.slice _),some v=>match elems v with|some (_,es)=>some (.p (.val (.int .i64 es.length)),none,[])|none=>none
|_,_=>none
theorem Qfh(r:Zn φ M0 N D T h a w){t:TypeId}{u:KN}(W:o.op=.call ⟨.builtin .len,#[x],#[t]⟩)(G:lZ P T t x=some u):u.2.1=none∧Yield P o φ M0 h a w u.1 h:=by
 unfold lZ at G;split at G
 ·rename_i e v Y hx;split at G
  ·rename_i S es J;simp only[QW] at G;subst G;have U:=CY J (r.ev hx);simp only[QM] at U;refine⟨rfl,Qp r (v:=.int .i64 es.length) ?_ (by simp[Qe,QM])⟩;rcases U with⟨rr,oo,cap,O,Z⟩|⟨rfl,q,cap,O⟩
   ·simp[execOp,W,resolve,invoke,builtin,Builtin.len_,run_underlying Y,O,goInt]
   ·simp[execOp,W,resolve,invoke,builtin,Builtin.len_,run_underlying Y,O,goInt]
  ·cases G
 ·cases G
end
section
variable {P:Program}{o:Oper}{φ:Nat→Nat}{M0:ZK}{N:Nat}{D:DB}{T:Nat→Option AV}{h:QN}{a:Act}{w:World}
def Na(place:Nat→Option (Nat×Nat))(cells:List AV):List (Nat×AV)→Option (List AV)
|[]=>some cells
|(i,v)::rest =>
  match place i,cellsOf v with
 |some (off,size),some G=>if G.length=size∧off+size≤cells.length then Na place (cells.take off++G++cells.drop (off+size)) rest else none
 |_,_=>none
theorem Nb:∀(G:List Value) (k off:Nat) (cs:Array Value),off+k+G.length≤cs.size →
  ((G.zipIdx k).foldl (fun(cs:Array Value) (p:Value×Nat)=>cs.setIfInBounds (off+p.2) p.1) cs).toList=cs.toList.take (off+k)++G++cs.toList.drop (off+k+G.length)
|[],k,off,cs,_=>by simp
|v::G,k,off,cs,J=>by
  simp only[List.zipIdx_cons,List.foldl_cons];rw[Nb G (k+1) off _ (by simp at J ⊢;omega)];have e:=list_seg_step cs.toList (off+k) v G (by simp at J ⊢;omega);simp only[Array.toList_setIfInBounds,Vr];rw[show off+(k+1)=off+k+1 from by omega];simpa using e
theorem Nc{M:ZK}{placeC G:Nat→Option (Nat×Nat)}(hp:∀i x,G i=some x→placeC i=some x) :
  ∀(ps:List (Nat×AV)) (U:List (Nat×Value)) (cs:List AV) (c:Array Value) (rs:List AV),(ps.map (·.1)=U.map (·.1))→Qi φ h w M (ps.map (·.2)) (U.map (·.2)) →
   Qi φ h w M cs c.toList→Na G cs ps=some rs→∃c',Instr.fill placeC c U=some c'∧Qi φ h w M rs c'.toList
|[],U,cs,c,rs,O,_,Z,J=>by
  have:U=[]:=by simpa using O.symm
  subst this;simp only[Na,QW] at J;subst J;exact⟨c,rfl,Z⟩
|(i,v)::ps,[],cs,c,rs,O,_,_,_=>by simp at O
|(i,v)::ps,(j,y)::U,cs,c,rs,O,h2,Z,J=>by
  simp only[Yy,List.cons.injEq] at O;obtain⟨rfl,O⟩:=O;simp only[Yy,Qi] at h2;obtain⟨y',ae,h4,h5,h6⟩:=h2;simp only[List.cons.injEq] at h4;obtain⟨rfl,rfl⟩:=h4;simp only[Na] at J;split at J
  ·rename_i off size vs aa ab;split at J
   ·rename_i hc;obtain⟨h7,_,_⟩:=VE ab h5;have ac:=ZO h7;have ad:=ZO Z;simp only[Array.length_toList] at ac ad;have W:=Nb y.cells.toList 0 off c (by simp;omega);simp only[Nat.add_zero] at W
    have Y:Qi φ h w M (cs.take off++vs++cs.drop (off+size)) ((y.cells.toList.zipIdx 0).foldl (fun(cs:Array Value) (p:Value×Nat)=>cs.setIfInBounds (off+p.2) p.1) c).toList:=by
     rw[W];have hs:size=y.cells.toList.length:=by simp;omega
     rw[hs];exact Zz (Zz (UF _ Z) h7) (UG _ Z)
    obtain⟨c',h8,h9⟩:=Nc hp ps U _ _ rs O h6 Y J;refine⟨c',?_,h9⟩
    have e1:(y.cells.zipIdx.foldl (fun(cs:Array Value) (p:Value×Nat)=>cs.setIfInBounds (off+p.2) p.1) c)=((y.cells.toList.zipIdx 0).foldl (fun(cs:Array Value) (p:Value×Nat)=>cs.setIfInBounds (off+p.2) p.1) c):=by
     rw[←Array.foldl_toList];simp
    simp only[Instr.fill,hp _ _ aa];have c1:¬(y.cells.size≠size):=by omega
    have c2:¬(off+y.cells.size>c.size):=by omega
    simp only[c1,c2,decide_false,Bool.or_self,Bool.false_eq_true,if_false];rw[←h8,←e1]
   ·cases J
  ·cases J
def A7(T:Nat→Option AV):List (Nat×Operand)→Option (List (Nat×AV))
|[]=>some []
|(i,x)::xs=>match Zo T x,A7 T xs with|some v,some G=>some ((i,v)::G)|_,_=>none
theorem Dl(r:Zn φ M0 N D T h a w):∀{xs:List (Nat×Operand)} {J:List (Nat×AV)},A7 T xs=some J →
  J.map (·.1)=(xs.map fun(i,x)=>(i,a.eval x)).map (·.1)∧Qi φ h w (MM φ h M0) (J.map (·.2)) ((xs.map fun(i,x)=>(i,a.eval x)).map (·.2))
|[],J,G=>by simp only[A7,QW] at G;subst G;simp[Qi]
|(i,x)::xs,J,G=>by
  simp only[A7] at G;split at G
  ·rename_i v Z W O;simp only[QW] at G;subst G;obtain⟨Y,U⟩:=Dl r O;refine⟨by simp only[Yy,Y],?_⟩;simp only[Yy,Qi];exact⟨_,_,rfl,r.ev W,U⟩
  ·cases G
def kF(P:Program)(fields:Array Field)(i:Nat):Option (Nat×Nat) :=
 match fields[i]? with
|some f=>match P.info? f.type with|some t=>some (f.offset,t.size)|none=>none
|none=>none
theorem wm{α β:Type}(f:α→Sem β)(g:α→β):∀(l:List α),(∀x∈l,(f x).run P w=.ok (g x) w)→(l.mapM f).run P w=.ok (l.map g) w
|[],_=>by simp
|x::l,G=>by
  simp only[List.mapM_cons,Sem.run_bind,G x zq,Result.andThen_ok,wm f g l (fun y J=>G y (by simp[J])),Sem.run_pure,Yy]
def A8(P:Program)(T:Nat→Option AV)(t:TypeId)(parts:Array (Nat×Operand)):Option KN :=
 match P.info? t with
|some i =>
  match i.zero,P.underlying t,A7 T parts.toList with
 |some z,some (.struct fields),some ps =>
   if fields.toList.all (fun f=>(P.info? f.type).isSome) then
    match cellsOf (AP z) with
   |some cs=>match Na (kF P fields) cs ps with|some rs=>some (.agg rs,none,[])|none=>none
   |none=>none
   else none
 |some z,some (.array _ e),some ps =>
   match P.info? e,cellsOf (AP z) with
  |some j,some cs=>match Na (fun i=>some (i*j.size,j.size)) cs ps with|some rs=>some (.agg rs,none,[])|none=>none
  |_,_=>none
 |_,_,_=>none
|none=>none
theorem l8(r:Zn φ M0 N D T h a w){t:TypeId}{u:KN}(ho:o.op=.build t parts)(G:A8 P T t parts=some u):u.2.1=none∧Yield P o φ M0 h a w u.1 h:=by
 unfold A8 at G;split at G
 ·rename_i i hi;split at G
  ·rename_i z fields ps hz ht Y;split at G
   ·rename_i Z;split at G
    ·rename_i cs O;split at G
     ·rename_i rs W;simp only[QW] at G;subst G;obtain⟨h1,h2⟩:=Dl r Y;obtain⟨h3,_,_⟩:=VE O (WS (φ:=φ) (h:=h) (w:=w) (M:=MM φ h M0) z)
      let g:Field→Nat×Nat:=fun f=>(f.offset,((P.info? f.type).map (·.size)).getD 0)
      have aa:∀i x,kF P fields i=some x→(fun k=>((fields.toList.map g).toArray)[k]?) i=some x:=by
       intro k x U;unfold kF at U;split at U
       ·rename_i f hf;split at U
        ·rename_i ti J;simp only[QW] at U;subst U;have:fields.toList[k]?=some f:=by simpa using hf
         simp[g,this,J]
        ·cases U
       ·cases U
      obtain⟨c',h4,h5⟩:=Nc aa ps _ cs z.cells rs h1 h2 h3 W;refine⟨rfl,Qp r (v:=.agg c') ?_ ?_⟩
      ·have hm:(fields.mapM fun(f:Field)=>(do pure (f.offset,←sizeOf f.type):Sem (Nat×Nat))).run P w=.ok (fields.toList.map g).toArray w:=by
        rw[Array.mapM_eq_mapM_toList];simp only[Sem.run_map]
        rw[wm _ g fields.toList (fun f hf=>by
         have hs:=Xb.1 Z f hf;obtain⟨ti,J⟩:=RY.1 hs;simp[Q9 J,g,J])]
        rfl
       have hq:(parts.map fun(x:Nat×Operand)=>(x.1,a.eval x.2)).toList=parts.toList.map fun(x:Nat×Operand)=>(x.1,a.eval x.2):=by simp
       simp only[execOp,ho,Instr.build,Sem.run_bind,zeroValue,typeInfo,program,Sem.run,hi,hz,Result.andThen_ok,Sem.run_pure,run_underlying ht,hm];simp only[hq,h4,Sem.run_pure,Result.andThen_ok]
      ·simp only[Qe];exact⟨c'.toList,by simp,h5⟩
     ·cases G
    ·cases G
   ·cases G
  ·rename_i z n e ps hz ht Y;split at G
   ·rename_i j cs hj O;split at G
    ·rename_i rs W;simp only[QW] at G;subst G;obtain⟨h1,h2⟩:=Dl r Y;obtain⟨h3,_,_⟩:=VE O (WS (φ:=φ) (h:=h) (w:=w) (M:=MM φ h M0) z);obtain⟨c',h4,h5⟩:=Nc (fun i x hx=>hx) ps _ cs z.cells rs h1 h2 h3 W;refine⟨rfl,Qp r (v:=.agg c') ?_ ?_⟩
     ·have hq:(parts.map fun(x:Nat×Operand)=>(x.1,a.eval x.2)).toList=parts.toList.map fun(x:Nat×Operand)=>(x.1,a.eval x.2):=by simp
      simp only[execOp,ho,Instr.build,Sem.run_bind,zeroValue,typeInfo,program,Sem.run,hi,hz,Result.andThen_ok,Sem.run_pure,run_underlying ht,Q9 hj];simp only[hq,h4,Sem.run_pure,Result.andThen_ok]
     ·simp only[Qe];exact⟨c'.toList,by simp,h5⟩
    ·cases G
   ·cases G
  ·cases G
 ·cases G
def known(T:Nat→Option AV)(x:Operand):Option Value:=match Zo T x with|some v=>PW v|none=>none
def allKnown(T:Nat→Option AV):List Operand→Bool|[]=>true|x::xs=>(known T x).isSome&&allKnown T xs
theorem bY(r:Zn φ M0 N D T h a w)(G:known T x=some v):a.eval x=v:=by
 unfold known at G;split at G
 ·rename_i y J;exact CX.1 _ _ _ (r.ev J) G
 ·cases G
theorem Nh:∀{l:List Operand} {x:Operand},allKnown T l=true→x∈l→(known T x).isSome=true
|y::l,x,G,J=>by
  simp only[allKnown,ZG] at G;rcases List.mem_cons.1 J with rfl|J
  ·exact G.1
  ·exact Nh G.2 J
def XT:Op→Bool|.select ..=>false|_=>true
def Gs(P:Program)(T:Nat→Option AV)(o:Oper):Option KN :=
 if allKnown T o.op.operands.toList&&XT o.op then
  match YN P (execOp (fun x=>(known T x).getD undef) o) with
 |some (.value v)=>some (AP v,none,[])
 |_=>none
 else none
theorem pure_ok(r:Zn φ M0 N D T h a w){u:KN}(J:Gs P T o=some u):u.2.1=none∧Yield P o φ M0 h a w u.1 h:=by
 unfold Gs at J;split at J
 ·rename_i O;simp only[ZG] at O;split at J
  ·rename_i v W;simp only[QW] at J;subst J;refine⟨rfl,Qp r (v:=v) ?_ (WS v)⟩
   have G:execOp a.eval o=execOp (fun x=>(known T x).getD undef) o:=by
    refine execOp_congr o (fun cs b e=>by rw[e] at O;simp[XT] at O) fun x Y=>?_
    have hs:=Nh O.1 (x:=x) (by simpa using Y);obtain⟨y,U⟩:=RY.1 hs;rw[U,bY r U];rfl
   rw[G];exact qo W w
  ·cases J
 ·cases J
def wo(k:IntKind)(x y:Int):Int:=k.wrap (BitVec.ofInt k.bits x &&& BitVec.ofInt k.bits y).toNat
def ni(k:IntKind)(x y:Int):Int:=k.wrap (BitVec.ofInt k.bits x ||| BitVec.ofInt k.bits y).toNat
def QbQ(k:IntKind)(x y:Int):Int:=k.wrap (BitVec.ofInt k.bits x ^^^ BitVec.ofInt k.bits y).toNat
def kG(k:IntKind)(x y:Int):Int:=k.wrap (BitVec.ofInt k.bits x &&& ~~~ BitVec.ofInt k.bits y).toNat
def kH(k:IntKind)(x y:Int):Int:=k.wrap (x*2 ^ (min y.toNat k.bits))
def Qfi(k:IntKind)(x y:Int):Int:=x.fdiv (2 ^ (min y.toNat k.bits))
def QR(x y:Int):Bool:=decide (x<y)
def leI(x y:Int):Bool:=decide (x≤y)
def Ql(x y:Int):Bool:=x==y
def Qs(x y:List UInt8):Bool:=x==y
def Ni(b:Bool):Bool:=b
theorem A9{x y:Int}(h:x<y):QR x y=true:=by simp[QR,h]
theorem ET{x y:Int}(h:¬x<y):QR x y=false:=by simp only[QR,decide_eq_false_iff_not];exact h
theorem qZ{x y:Int}(h:x=y):Ql x y=true:=by simp[Ql,h]
def Ia(op:BinOp)(k:IntKind)(x y:Int):Option Value :=
 match op with
|.add=>some (.int k (k.wrap (x+y)))
|.sub=>some (.int k (k.wrap (x-y)))
|.mul=>some (.int k (k.wrap (x*y)))
|.quo=>if y=0 then none else some (.int k (k.wrap (x.tdiv y)))
|.rem=>if y=0 then none else some (.int k (x.tmod y))
|.and=>some (.int k (wo k x y))
|.or=>some (.int k (ni k x y))
|.xor=>some (.int k (QbQ k x y))
|.andNot=>some (.int k (kG k x y))
|.eql=>some (.bool (Ql x y))
|.neq=>some (.bool (!Ql x y))
|.lss=>some (.bool (QR x y))
|.leq=>some (.bool (leI x y))
|.gtr=>some (.bool (QR y x))
|.geq=>some (.bool (leI y x))
|_=>none
def Nj(op:BinOp)(k:IntKind)(x y:Int):Option Value :=
 if y<0 then none else
 match op with
|.shl=>some (.int k (kH k x y))
|.shr=>some (.int k (Qfi k x y))
|_=>none
def Xf(s:ByteArray):List UInt8:=s.data.toList
def Je(l:List UInt8):ByteArray:=⟨l.toArray⟩
theorem R6(l:List UInt8):Xf (Je l)=l:=by simp[Xf,Je]
theorem kI(s:ByteArray):Je (Xf s)=s:=by simp[Xf,Je]
theorem uK(s:ByteArray):s.toList=Xf s:=by rw[ByteArray.toList_eq];rfl
theorem uL(x y:ByteArray):x++y=Je (Xf x++Xf y):=by
 apply ByteArray.ext;simp[Je,Xf,ByteArray.data_append]
def kJ(op:BinOp)(x y:ByteArray):Option Value :=
 match op with
|.add=>if(Xf x).length+(Xf y).length≤9223372036854775807 then some (.string (Je (Xf x++Xf y))) else none
|.eql=>some (.bool (Qs (Xf x) (Xf y)))
|.neq=>some (.bool (!Qs (Xf x) (Xf y)))
|.lss=>some (.bool (Op.bytesLess (Xf x) (Xf y)))
|.leq=>some (.bool (Op.bytesLess (Xf x) (Xf y)||Xf x==Xf y))
|.gtr=>some (.bool (!(Op.bytesLess (Xf x) (Xf y)||Xf x==Xf y)))
|.geq=>some (.bool (!Op.bytesLess (Xf x) (Xf y)))
|_=>none
def R7:BinOp→Bool|.shl|.shr=>true|_=>false
def Ib(T:Nat→Option AV)(op:BinOp)(x y:Operand):Option KN :=
 match Zo T x,Zo T y with
|some (.p (.val (.int k a))),some (.p (.val (.int k' b))) =>
  if R7 op then(match Nj op k a b with|some v=>some (.p (.val v),none,[])|none=>none)
  else if k=k' then(match Ia op k a b with|some v=>some (.p (.val v),none,[])|none=>none) else none
|some (.p (.val (.string a))),some (.p (.val (.string b)))=>match kJ op a b with|some v=>some (.p (.val v),none,[])|none=>none
|_,_=>none
theorem Qfj(r:Zn φ M0 N D T h a w){u:KN}(W:o.op=.binOp op tx x y ty)(J:Ib T op x y=some u):u.2.1=none∧Yield P o φ M0 h a w u.1 h:=by
 unfold Ib at J;split at J
 ·rename_i k n k' m hx Z;have U:=r.ev hx;have O:=r.ev Z;simp only[Qe,QM] at U O;split at J
  ·rename_i hs;split at J
   ·rename_i v G;simp only[QW] at J;subst J;refine⟨rfl,Qp r (v:=v) ?_ (by simp[Qe,QM])⟩;unfold Nj at G;split at G
    ·cases G
    ·rename_i Y;cases op<;>simp[R7] at hs<;>simp only[QW] at G<;>subst G<;>simp[execOp,W,U,O,eqGuard,binOp,Op.shift,Y,kH,Qfi]
   ·cases J
  ·rename_i hs;split at J
   ·rename_i hk;subst hk;split at J
    ·rename_i v G;simp only[QW] at J;subst J;refine⟨rfl,Qp r (v:=v) ?_ (by simp[Qe,QM])⟩;cases op<;>first|(simp[R7] at hs;done)|(simp only[Ia] at G;first|(cases G;done)|(simp only[QW] at G;subst G;simp[execOp,W,U,O,eqGuard,binOp,Op.intArith,Op.intBits,Op.intCmp,wo,ni,QbQ,kG,QR,leI,Ql,bne];done)|(by_cases hz:m=0<;>simp only[hz,if_true,if_false] at G<;>first|(cases G;done)|(simp only[QW] at G;subst G;simp[execOp,W,U,O,eqGuard,binOp,Op.intDiv,hz])))
    ·cases J
   ·cases J
 ·rename_i n m hx Z;have U:=r.ev hx;have O:=r.ev Z;simp only[Qe,QM] at U O;split at J
  ·rename_i v G;simp only[QW] at J;subst J;refine⟨rfl,Qp r (v:=v) ?_ (by simp[Qe,QM])⟩;cases op<;>simp only[kJ] at G<;>first|(cases G;done)|(simp only[QW] at G;subst G;simp[execOp,W,U,O,eqGuard,binOp,Op.stringOp,uK,Qs];done)|skip
   split at G
   ·rename_i ab;simp only[QW] at G;subst G;have e1:n.size=(Xf n).length:=rfl;have e2:m.size=(Xf m).length:=rfl;have aa:¬(((n.size+m.size:Nat):Int)>IntKind.i64.max):=by rw[e1,e2];simp[IntKind.max,IntKind.signed,IntKind.bits];omega
    simp only[execOp,W,U,O,binOp,Op.stringOp,Sem.run_bind];rw[if_neg aa];simp[eqGuard,uL]
   ·cases G
  ·cases J
 ·cases J
def aUn(T:Nat→Option AV)(op:UnOp)(x:Operand):Option KN :=
 match Zo T x with
|some (.p (.val (.bool b)))=>match op with|.not=>some (.p (.val (.bool (!b))),none,[])|_=>none
|some (.p (.val (.int k n)))=>match op with|.neg=>some (.p (.val (.int k (k.wrap (0-n)))),none,[])|_=>none
|_=>none
theorem Qhi(r:Zn φ M0 N D T h a w){op:UnOp}{u:KN}(U:o.op=.unOp op tx x)(G:aUn T op x=some u):u.2.1=none∧Yield P o φ M0 h a w u.1 h:=by
 unfold aUn at G;split at G
 ·rename_i b O;have J:=r.ev O;simp only[Qe,QM] at J;split at G
  ·simp only[QW] at G;subst G;exact⟨rfl,Qp r (v:=.bool (!b)) (by simp[execOp,U,J,Op.unary]) (by simp[Qe,QM])⟩
  ·cases G
 ·rename_i k n O;have J:=r.ev O;simp only[Qe,QM] at J;split at G
  ·simp only[QW] at G;subst G;exact⟨rfl,Qp r (v:=.int k (k.wrap (0-n))) (by simp[execOp,U,J,Op.unary,Op.intArith]) (by simp[Qe,QM])⟩
  ·cases G
 ·cases G
def ww(P:Program)(T:Nat→Option AV)(dst:TypeId)(src:TypeId)(x:Operand):Option KN :=
 match P.underlying dst,P.underlying src,Zo T x with
|some (.int k),some _,some (.p (.val (.int _ n)))=>some (.p (.val (.int k (k.wrap n))),none,[])
|_,_,_=>none
theorem QbR(r:Zn φ M0 N D T h a w){src dst:TypeId}{u:KN}(O:o.op=.convert src dst x)(G:ww P T dst src x=some u):u.2.1=none∧Yield P o φ M0 h a w u.1 h:=by
 unfold ww at G;split at G
 ·rename_i k d k' n U hs W;have J:=r.ev W;simp only[Qe,QM] at J;simp only[QW] at G;subst G;refine⟨rfl,Qp r (v:=.int k (k.wrap n)) ?_ (by simp[Qe,QM])⟩;simp[execOp,O,J,convert,run_underlying U,run_underlying hs,Conv.intToInt]
 ·cases G
end
section
variable {P:Program}{o:Oper}{φ:Nat→Nat}{M0:ZK}{N:Nat}{D:DB}{T:Nat→Option AV}{h:QN}{a:Act}{w:World}
theorem Fw{M:ZK}{r:Nat}:∀(cs:List PV) (o:Nat),Wj w M r o cs →
  ∃l:List Value,l.length=cs.length∧(∀j v,l[j]?=some v→w.cell? ⟨r,o+j,none⟩=some v)∧(∀u∈l,u.oneCell'=true)∧(∀(j:Nat) c v,cs[j]?=some c→l[j]?=some v→QM w M c v)
|[],o,_=>⟨[],rfl,by simp,by simp,by simp⟩
|c::cs,o,J=>by
  simp only[Wj] at J;obtain⟨⟨v,W,Z,Y,O⟩,U⟩:=J;obtain⟨l,g1,g2,g3,g4⟩:=Fw cs (o+1) U;refine⟨v::l,by simp[g1],?_,?_,?_⟩
  ·intro j u G;cases j with
  |zero=>simp at G;subst G;simpa using W
  |succ j=>have:=g2 j u (by simpa using G);rwa [show o+1+j=o+(j+1) from by omega] at this
  ·intro u hu;rcases List.mem_cons.1 hu with rfl|hu
   ·exact Y
   ·exact g3 u hu
  ·intro j c' u G hu;cases j with
  |zero=>simp at G hu;subst G hu;exact O
  |succ j=>exact g4 j c' u (by simpa using G) (by simpa using hu)
theorem ZA{S:Nat}:∀{es:List (List PV)},(∀e∈es,e.length=S)→es.flatten.length=es.length*S
|[],_=>by simp
|e::es,G=>by
  simp only[List.flatten_cons,Vv,Vr,ZA (es:=es) (fun x J=>G x (List.mem_cons_of_mem _ J)),G e zq,Nat.add_mul];omega
theorem Xi{o:Nat}{cs:List PV}{l:List Value}(O:l.length=cs.length)(hc:∀j v,l[j]?=some v→w'.cell? ⟨r,o+j,none⟩=some v)(Y:∀j,j<l.length→¬M r (o+j))(U:∀u∈l,u.oneCell'=true)(W:∀(j:Nat) c v,cs[j]?=some c→l[j]?=some v→QM w' M c v):Wj w' M r o cs:=by
 rw[GY];intro j c G;have hlt:j<l.length:=by rw[O];exact(CS.1 G).1
 have J:l[j]?=some l[j]:=List.getElem?_eq_getElem hlt;exact⟨l[j],hc j _ J,Y j hlt,U _ (List.getElem_mem hlt),W j c _ G J⟩
theorem EU{t:Nat}{S n':Nat}{c:Array Value}(Z:h t=some (.arr ty S n))(hw:w.heap[φ t]?=some (.cells c ty (0,0)))(hn:n≤n')(aj:c'.size=c.size)(af:∀x,x<n*S→c'[x]?=c[x]?)(r:ZN φ h w M0) :
  Q8 φ h w φ (upd h t (.arr ty S n')) (w.setRow (φ t) c')∧Y4 φ h w φ (upd h t (.arr ty S n')) (w.setRow (φ t) c'):=by
 have G:∀x,x≠φ t→(w.setRow (φ t) c').heap[x]?=w.heap[x]?:=fun x hx=>setRow_other w _ x c' hx
 have O:(w.setRow (φ t) c').heap[φ t]?=some (.cells c' ty (0,0)):=setRow_heap w _ c c' ty _ hw;have hb:∀b ty cs,h b=some (.box ty cs)→t≠b:=fun b ty cs hb e=>by rw[←e,Z] at hb;cases hb
 have aa:∀t2 V4 U n2,h t2=some (.arr V4 U n2)→∃n3,upd h t (.arr ty S n') t2=some (.arr V4 U n3)∧n2≤n3 ∧
   (n3=n2→AKept w (w.setRow (φ t) c') (φ t2) (φ t2) V4):=by
  intro t2 V4 U n2 J;by_cases e:t=t2
  ·subst e;rw[Z] at J;cases J;refine⟨n',by simp[upd],hn,fun _=>⟨fun h0=>(by rw[hw] at h0;cases h0),.inr ⟨rfl,fun c0 Y=>⟨c',O,?_⟩⟩⟩⟩;rw[hw] at Y;cases Y;exact aj
  ·have hne:φ t2≠φ t:=fun e2=>e (r.inj t2 t (by rw[J];simp) (by rw[Z];simp) e2).symm
   exact⟨n2,by simp[upd,e,J],Kt _,fun _=>Yz (rfl) (by rw[G _ hne])⟩
 have ab:∀t2 V4 U W,h t2=some (.vec V4 U W)→∃ac,upd h t (.arr ty S n') t2=some (.vec V4 U ac)∧W.length≤ac.length ∧
   (ac.length=W.length→φ t2=φ t2∧∀c0,w.heap[φ t2]?=some (.cells c0 V4 (0,0))→∃c1,(w.setRow (φ t) c').heap[φ t2]?=some (.cells c1 V4 (0,0))∧c1.size=c0.size):=by
  intro t2 V4 U n2 J;have e:¬t=t2:=fun e=>by rw[←e,Z] at J;cases J
  have hne:φ t2≠φ t:=fun e2=>e (r.inj t2 t (by rw[J];simp) (by rw[Z];simp) e2).symm
  exact⟨n2,by simp[upd,e,J],Kt _,fun _=>⟨rfl,fun c0 Y=>⟨c0,by rw[G _ hne];exact Y,rfl⟩⟩⟩
 have ae:∀d k x,h d=some k→k.ob=some x→(∃k',upd h t (.arr ty S n') d=some k'∧k'.ob=some x)∧φ d=φ d:=by
  intro d k x hd ho;have e:¬t=d:=fun e=>by rw[←e,Z] at hd;cases hd;cases ho
  exact⟨⟨k,by simp[upd,e,hd],ho⟩,rfl⟩
 refine⟨⟨rfl,rfl,rfl,by simp,?_,?_,?_,?_,?_,fun t2 V4 U W _ J=>ab t2 V4 U W J,fun d k x _=>ae d k x⟩,?_,aa,ab,ae⟩
 ·intro x _ ai;exact G x (fun e=>ai t (by rw[Z];simp) e.symm)
 ·intro x o _ hm;by_cases e:x=φ t
  ·subst e
   have:o<n*S:=by
    rcases Nat.lt_or_ge o (n*S) with hlt|ah
    ·exact hlt
    ·exact absurd ⟨t,_,Z,rfl,ah⟩ hm
   rw[Kh O,Kh hw];exact af o this
  ·simp[World.cell?,G x e]
 ·rintro x y _ ⟨d,q,h1,J,h3⟩;by_cases e:t=d
  ·subst e;have:q=.arr ty S n':=by simpa [upd] using h1.symm
   subst this;have h4:n*S≤n'*S:=Nat.mul_le_mul_right _ hn;exact⟨t,_,Z,J,Nat.le_trans h4 h3⟩
  ·exact⟨d,q,by simpa [upd,e] using h1,J,h3⟩
 ·intro d ad ds _ hd;exact⟨⟨ds,by simp[upd,hb d _ _ hd,hd]⟩,rfl⟩
 ·intro t2 V4 U n2 _ J;exact aa t2 V4 U n2 J
 ·intro d ad ds hd;exact⟨⟨ad,ds,by simp[upd,hb d _ _ hd,hd]⟩,rfl⟩
theorem Rq{t:Nat}{S n':Nat}{cap:Nat}(ht:h t=some (.arr ty S n))(r:ZN φ h w M0)(E:Q8 φ h w φ' (upd h t (.arr ty S n')) w')(X:Y4 φ h w φ' (upd h t (.arr ty S n')) w')(J:∀b,b≠t→φ' b=φ b)(O:φ' t=φ t∨φ' t=w.heap.size∧Clear φ h w 1)(ac:∀d,h d≠none→d≠t→w'.heap[φ d]?=w.heap[φ d]?)(ae:w'.heap[φ' t]?=some (.cells c' ty (0,0)))(ad:c'.size=cap*S)(aa:n'≤cap)(ab:cap≤maxLen):ZN φ' (upd h t (.arr ty S n')) w' M0:=by
 have g:∀d,upd h t (.arr ty S n') d≠none→h d≠none:=fun d U=>by
  by_cases e:t=d
  ·rw[←e,ht];simp
  ·simpa [upd,e] using U
 refine⟨?_,?_,?_,fun x y hx=>Nat.lt_of_lt_of_le (r.lt x y hx) E.size,r.gm.evol E⟩
 ·intro d e U he G;by_cases e1:d=t<;>by_cases W:e=t
  ·rw[e1,W]
  ·rw[e1,J e W] at G;rcases O with Y|⟨Y,hC⟩
   ·rw[Y] at G;rw[e1];exact r.inj t e (by rw[ht];simp) (g e he) G
   ·rcases hC e (g e he) with h4|h4<;>omega
  ·rw[W,J d e1] at G;rcases O with Y|⟨Y,hC⟩
   ·rw[Y] at G;rw[W];exact r.inj d t (g d U) (by rw[ht];simp) G
   ·rcases hC d (g d U) with h4|h4<;>omega
  ·rw[J d e1,J e W] at G;exact r.inj d e (g d U) (g e he) G
 ·intro d q U;by_cases e:t=d
  ·subst e;have:q=.arr ty S n':=by simpa [upd] using U.symm
   subst this;exact .inr ⟨c',cap,ae,ad,aa,ab⟩
  ·have h1:h d=some q:=by simpa [upd,e] using U
   rw[J d (fun W=>e W.symm)];exact Z5 (E.keeps M0) X (ac d (by rw[h1];simp) (fun W=>e W.symm)) (r.blk d q h1)
 ·intro d U o Z;by_cases e:d=t
  ·subst e;rcases O with Y|⟨Y,_⟩
   ·rw[Y] at Z;exact r.fr d (g d U) o Z
   ·rw[Y] at Z;exact absurd (r.lt _ _ Z) zo
  ·rw[J d e] at Z;exact r.fr d (g d U) o Z
theorem Gx{ob:Obj}{t:Nat}{S n':Nat}(ht:h t=some (.arr ty S n))(hn:n<n')(hh:w'.heap=w.heap.push ob)(ho:w'.os=w.os)(af:w'.tape=w.tape)(hu:w'.output=w.output)(r:ZN φ h w M0)(hC:Clear φ h w 1) :
  Q8 φ h w (Qx φ t w.heap.size) (upd h t (.arr ty S n')) w'∧Y4 φ h w (Qx φ t w.heap.size) (upd h t (.arr ty S n')) w':=by
 have J:∀x,x<w.heap.size→w'.heap[x]?=w.heap[x]?:=fun x hx=>by rw[hh,Array.getElem?_push,if_neg zo]
 have hb:∀b ty cs,h b=some (.box ty cs)→¬t=b:=fun b ty cs hb e=>by rw[←e,ht] at hb;cases hb
 have Z:∀t2 V4 O W,h t2=some (.arr V4 O W)→∃n3,upd h t (.arr ty S n') t2=some (.arr V4 O n3)∧W≤n3 ∧
   (n3=W→AKept w w' (φ t2) (Qx φ t w.heap.size t2) V4):=by
  intro t2 V4 O W G;by_cases e:t=t2
  ·subst e;rw[ht] at G;cases G;exact⟨n',by simp[upd],by omega,fun e=>absurd e zo⟩
  ·exact⟨W,by simp[upd,e,G],Kt _,fun _=>Yz (by simp[Qx,e]) (by rw[hC.lt r (by rw[hh];simp) J (by rw[G];simp)])⟩
 have aa:∀t2 V4 O U,h t2=some (.vec V4 O U)→∃ab,upd h t (.arr ty S n') t2=some (.vec V4 O ab)∧U.length≤ab.length ∧
   (ab.length=U.length→Qx φ t w.heap.size t2=φ t2∧∀c0,w.heap[φ t2]?=some (.cells c0 V4 (0,0))→∃c1,w'.heap[φ t2]?=some (.cells c1 V4 (0,0))∧c1.size=c0.size):=by
  intro t2 V4 O W G;have e:¬t=t2:=fun e=>by rw[←e,ht] at G;cases G
  exact⟨W,by simp[upd,e,G],Kt _,fun _=>⟨by simp[Qx,e],fun c0 ae=>⟨c0,by rw[hC.lt r (by rw[hh];simp) J (by rw[G];simp)];exact ae,rfl⟩⟩⟩
 have ad:∀d k x,h d=some k→k.ob=some x→(∃k',upd h t (.arr ty S n') d=some k'∧k'.ob=some x)∧Qx φ t w.heap.size d=φ d:=by
  intro d k x Y ho;have e:¬t=d:=fun e=>by rw[←e,ht] at Y;cases Y;cases ho
  exact⟨⟨k,by simp[upd,e,Y],ho⟩,by simp[Qx,e]⟩
 refine⟨⟨ho,af,hu,by rw[hh];simp,fun x hx _=>J x hx,fun x o hx _=>by simp[World.cell?,J x hx],?_,?_,?_,fun t2 V4 O U _ G=>aa t2 V4 O U G,fun d k x _=>ad d k x⟩,?_,Z,aa,ad⟩
 ·rintro x y hx ⟨d,q,h1,G,h3⟩;by_cases e:t=d
  ·simp only[Qx,e,if_true] at G;omega
  ·exact⟨d,q,by simpa [upd,e] using h1,by simpa [Qx,e] using G,h3⟩
 ·intro d ac ds _ Y;have:=hb d _ _ Y;exact⟨⟨ds,by simp[upd,this,Y]⟩,by simp[Qx,this]⟩
 ·intro t2 V4 O W _ G;exact Z t2 V4 O W G
 ·intro d ac ds Y;have:=hb d _ _ Y;exact⟨⟨ac,ds,by simp[upd,this,Y]⟩,by simp[Qx,this]⟩
def isNil:AV→Bool|.p (.val (.slice none 0 0))=>true|_=>false
def Mo(S:Nat)(x:AV):Option (List (List PV)) :=
 if isNil x then some [] else match elems x with|some (G,es)=>if G=S then some es else none|none=>none
theorem Ic{x:AV}(G:isNil x=true):x=.p (.val (.slice none 0 0)):=by
 unfold isNil at G;split at G
 ·rfl
 ·cases G
theorem Ie{S:Nat}{x:AV}{es:List (List PV)}(G:Mo S x=some es)(J:Qe φ h w M x v):QM w M (.sl S es) v:=by
 unfold Mo at G;split at G
 ·rename_i U;simp only[QW] at G;subst G;rw[Ic U] at J;simp only[Qe,QM] at J;simp only[QM];exact .inr ⟨trivial,none,0,J⟩
 ·split at G
  ·rename_i W es' O;split at G
   ·rename_i hS;simp only[QW] at G;subst G hS;exact CY O J
   ·cases G
  ·cases G
def LA(P:Program)(T:Nat→Option AV)(h:QN)(dst:Option Tmp)(t:TypeId)(s x:Operand):Option KN :=
  match P.underlying t,Zo T s,Zo T x with
 |some (.slice e),some sv,some xv =>
    match P.info? e with
   |some i =>
      match i.zero,Mo i.size xv with
     |some z,some es' =>
        if z.cells.size=i.size∧0<i.size then
          if isNil sv then
            if es'=[] then some (sv,none,[]) else
            (match dst with
            |some d=>if h d=none∧es'.length*i.bytes≤140737488355328∧es'.length≤140737488355328 then some (.tsl i.size es' d,some (d,.arr e i.size es'.length),[d]) else none
            |none=>none)
          else match sv with
           |.tsl S es tk =>
              (match h tk with
              |some (.arr ty G n) =>
                 if es'=[] then some (.tsl S es tk,some (tk,.arr ty G n),[tk]) else
                 if ty=e∧G=S∧S=i.size∧n=es.length∧(es.length+es'.length)*i.bytes≤140737488355328∧es.length+es'.length≤140737488355328 then
                   some (.tsl S (es++es') tk,some (tk,.arr e S (es.length+es'.length)),[tk]) else none
              |_=>none)
           |_=>none
        else none
     |_,_=>none
   |none=>none
 |_,_,_=>none
end
section
variable {P:Program}{o:Oper}{φ:Nat→Nat}{M0:ZK}{N:Nat}{D:DB}{T:Nat→Option AV}{h:QN}{a:Act}{w:World}
theorem KL{t:TypeId}{s:Operand}(J:o.op=.call ⟨.builtin .append,#[s,x],#[t,t]⟩)(G:(Builtin.append_ #[t,t] o.type #[a.eval s,a.eval x]).run P w=.ok v w'):(execOp a.eval o).run P w=.ok (.value v) w':=by
 simp[execOp,J,resolve,invoke,builtin,G]
theorem YS{t:TypeId}{i:TypeInfo}(J:P.underlying t=some (.slice e))(hi:P.info? e=some i)(b q:Option Addr)(len cap c:Nat)(G:len≤cap) :
  (Builtin.append_ #[t,t] ty #[.slice b len cap,.slice q 0 c]).run P w=.ok (.slice b len cap) w:=by
 cases q<;>cases b<;>simp[Builtin.append_,run_underlying J,sizeOf,typeInfo,hi,Builtin.lenOf,G,Builtin.firstCells,loadCells,loadCellsFrom,storeCells]
theorem Rt{S:Nat}(r:ZN φ h w M0)(W:Clear φ h w 1)(Z:h' d=some (.arr ty S n))(O:φ' d=w.heap.size)(G:∀b k,b≠d→h' b=some k→h b=some k∧φ' b=φ b){x:Nat}(hx:x<n*S):¬MM φ' h' M0 w.heap.size x:=by
 rintro(⟨b,k,J,h2,h3⟩|J)
 ·by_cases e:b=d
  ·subst e;rw[Z] at J;cases J;simp only at h3;omega
  ·obtain⟨U,h5⟩:=G b k e J;rcases W b (by rw[U];simp) with Y|Y<;>omega
 ·exact absurd (r.lt _ _ J) zo
theorem XF{S:Nat}{es:List (List PV)}(W:QM w M (.sl S es) v)(hne:es≠[]) :
  ∃(J G cap:Nat) (l:List Value),v=.slice (some ⟨J,G,none⟩) es.length cap∧es.length≤cap∧(∀e∈es,e.length=S)∧Wl w M S J G es∧l.length=es.length*S ∧
   (∀j u,l[j]?=some u→w.cell? ⟨J,G+j,none⟩=some u)∧(∀u∈l,u.oneCell'=true)∧(∀(j:Nat) c u,es.flatten[j]?=some c→l[j]?=some u→QM w M c u):=by
 simp only[QM] at W;rcases W with⟨J,G,cap,U,Z,Y⟩|⟨U,_⟩
 ·have O:=(KO es G).1 Y;obtain⟨l,g1,g2,g3,g4⟩:=Fw _ _ O.2;exact⟨J,G,cap,l,U,Z,O.1,Y,by rw[g1,ZA O.1],g2,g3,g4⟩
 ·exact absurd U hne
theorem bZ(r:Zn φ M0 N D T h a w){t:TypeId}{s:Operand}{u:KN}(ho:o.op=.call ⟨.builtin .append,#[s,x],#[t,t]⟩)(Y:LA P T h o.dst t s x=some u):Yield P o φ M0 h a w u.1 (ap h u.2.1):=by
 unfold LA at Y;split at Y;rotate_left
 ·cases Y
 rename_i e sv xv ht hs hx;split at Y;rotate_left
 ·cases Y
 rename_i i hi;split at Y;rotate_left
 ·cases Y
 rename_i z es' hz bi;split at Y;rotate_left
 ·cases Y
 rename_i az;refine Yield.of_lift r 1 fun φ r E0 X0 hC=>?_
 have ah:=Ie bi (r.ev hx);have ai:=r.ev hs;split at Y
 ·rename_i hn;rw[Ic hn] at ai;simp only[Qe,QM] at ai;split at Y
  ·rename_i al;subst al;simp only[QW] at Y;subst Y;simp only[ap];refine Qp r (v:=.slice none 0 0) ?_ (by rw[Ic hn];simp[Qe,QM]);simp only[QM] at ah;rcases ah with⟨rr,oo,cap,h1,_⟩|⟨_,q,cap,h1⟩
   ·exact KL ho (by rw[ai,h1];exact YS ht hi _ _ _ _ _ zq)
   ·exact KL ho (by rw[ai,h1];exact YS ht hi _ _ _ _ _ zq)
  ·rename_i hne;split at Y;rotate_left
   ·cases Y
   rename_i d bj;split at Y;rotate_left
   ·cases Y
   rename_i hc;obtain⟨hd,a7,ba⟩:=hc;simp only[QW] at Y;subst Y;simp only[ap];have ae:es'≠[]:=fun e=>hne e
   obtain⟨rr,oo,cap,l,h1,h2,h3,h4,h5,h6,h7,h8⟩:=XF ah ae;have aj:0<es'.length:=List.length_pos_iff.2 ae;have ab:=run_append_nil (P:=P) w t o.type e i z ht hi hz ⟨rr,oo,none⟩ es'.length cap l (by rw[h5]) (fun j v J=>by rw[Addr.add_lit];exact h6 j v J) aj zo zo;have ad:=grownCap_ge w es'.length 0 e;have af:grownCap w es'.length 0 e≤maxLen:=grownCap_le_maxLen w es'.length 0 e (by unfold maxLen;omega);generalize grownCap w es'.length 0 e=gc at *
   let C:Array Value:=l.toArray++Builtin.zeroCells z.cells (gc-es'.length)
   let w':World:=w.drew.alloc (.cells C e)
   obtain⟨E,X⟩:=Xg (w:=w) (w':=w') (o:=.cells C e) (b:=d) (k:=.arr e i.size es'.length) (φ:=φ) (h:=h) (M0:=M0) rfl rfl rfl rfl hd r.hp hC
   have aa:C.size=gc*i.size:=by
    simp only[C,Array.size_append,List.size_toArray,size_zeroCells,az.1,h5];rw[←Nat.add_mul];congr 1;omega
   have G:w'.heap[w.heap.size]?=some (.cells C e (0,0)):=by show(w.heap.push _)[w.heap.size]?=_;simp
   have hH:ZN (Qx φ d w.heap.size) (upd h d (.arr e i.size es'.length)) w' M0:=Xh rfl hd r.hp hC E X (.inr ⟨C,gc,G,aa,ad,af⟩);refine⟨_,.slice (some ⟨w.heap.size,0,none⟩) es'.length gc,w',Qx φ d w.heap.size,KL ho (by rw[ai,h1];exact ab),.inl rfl,?_,hH,E,X⟩
   have U:∀x,x<es'.length*i.size→¬MM (Qx φ d w.heap.size) (upd h d (.arr e i.size es'.length)) M0 w.heap.size x:=fun x hx =>
    Rt (φ:=φ) (h:=h) r.hp hC (d:=d) (ty:=e) (S:=i.size) (n:=es'.length) (by simp[upd]) (by simp[Qx]) (fun b k hb hk=>⟨by simpa [upd,Ne.symm hb] using hk,by simp[Qx,Ne.symm hb]⟩) hx
   simp only[Qe,QM];refine⟨.inl ⟨w.heap.size,0,gc,rfl,ad,?_⟩,e,es'.length,by simp[upd],Kt _,fun _=>.inr ⟨gc,C,by simp[Qx],by simpa [Qx] using G,aa,ad,af⟩⟩;rw[KO];refine⟨h3,Xi (l:=l) (by rw[h5,ZA h3]) ?_ ?_ h7 ?_⟩
   ·intro j v J;rw[Kh G];have hlt:j<l.length:=(CS.1 J).1;simp only[Nat.zero_add,C];rw[Array.getElem?_append_left (by simpa using hlt)];simpa using J
   ·intro j J;simp only[Nat.zero_add];exact U j (by rw[←h5];exact J)
   ·intro j c v J hv;exact(Z4 (E.keeps M0)).1 _ _ (h8 j c v J hv)
 ·rename_i hn;split at Y;rotate_left
  ·cases Y
  rename_i S es tk;split at Y;rotate_left
  ·cases Y
  rename_i ty S' n Z;simp only[Qe] at ai;obtain⟨av,V4,n2,ax,bd,ak⟩:=ai;rw[Z] at ax;cases ax;split at Y
  ·rename_i am;simp only[QW] at Y;subst Y;simp only[ap]
   have bb:∀{k:Blk},h tk=some k→upd h tk k=h:=by
    intro k hk;funext b;simp only[upd];split
    ·rename_i e;rw[←e,hk]
    ·rfl
   rw[bb Z];refine Qp r (v:=a.eval s) ?_ (by simp only[Qe];exact⟨av,ty,n,Z,bd,ak⟩)
   have bf:∃q c,a.eval x=.slice q 0 c:=by
    subst am;simp only[QM] at ah;rcases ah with⟨rr,oo,cap,h1,_⟩|⟨_,q,cap,h1⟩
    ·exact⟨_,_,by simpa using h1⟩
    ·exact⟨q,cap,h1⟩
   obtain⟨q,c,hq⟩:=bf;simp only[QM] at av;rcases av with⟨rr,oo,cap,h1,h2,_⟩|⟨_,q2,cap,h1⟩
   ·exact KL ho (by rw[hq,h1];exact YS ht hi _ _ _ _ _ h2)
   ·exact KL ho (by rw[hq,h1];exact YS ht hi _ _ _ _ _ (Nat.zero_le _))
  ·rename_i am;split at Y;rotate_left
   ·cases Y
   rename_i hc;obtain⟨rfl,_,rfl,rfl,a7,ba⟩:=hc;simp only[QW] at Y;subst Y;simp only[ap];rcases ak rfl with⟨bg,aq,_⟩|⟨W,c0,aq,a8,an,bh,ao⟩
   ·have al:es=[]:=List.length_eq_zero_iff.1 bg;subst al;simp only[List.length_nil,Nat.zero_add] at a7 ba Z ⊢;have ae:es'≠[]:=fun e=>am e
    obtain⟨rr,oo,cap,l,h1,h2,h3,h4,h5,h6,h7,h8⟩:=XF ah ae;have aj:0<es'.length:=List.length_pos_iff.2 ae;have ab:=run_append_nil (P:=P) w t o.type ty i z ht hi hz ⟨rr,oo,none⟩ es'.length cap l (by rw[h5]) (fun j v J=>by rw[Addr.add_lit];exact h6 j v J) aj zo zo;have ad:=grownCap_ge w es'.length 0 ty;have af:grownCap w es'.length 0 ty≤maxLen:=grownCap_le_maxLen w es'.length 0 ty (by unfold maxLen;omega);generalize grownCap w es'.length 0 ty=gc at *
    let C:Array Value:=l.toArray++Builtin.zeroCells z.cells (gc-es'.length)
    let w':World:=w.drew.alloc (.cells C ty)
    obtain⟨E,X⟩:=Gx (w:=w) (w':=w') (ob:=.cells C ty) (φ:=φ) (h:=h) (M0:=M0) (n':=es'.length) Z zo rfl rfl rfl rfl r.hp hC
    have aa:C.size=gc*i.size:=by
     simp only[C,Array.size_append,List.size_toArray,size_zeroCells,az.1,h5];rw[←Nat.add_mul];congr 1;omega
    have G:w'.heap[w.heap.size]?=some (.cells C ty (0,0)):=by show(w.heap.push _)[w.heap.size]?=_;simp
    have O:Qx φ tk w.heap.size tk=w.heap.size:=by simp[Qx]
    have hH:ZN (Qx φ tk w.heap.size) (upd h tk (.arr ty i.size es'.length)) w' M0 :=
     Rq Z r.hp E X (fun b hb=>by simp[Qx,Ne.symm hb]) (.inr ⟨O,hC⟩) (fun d hd _=>hC.lt r.hp (w':=w') (by show(w.heap.push _).size≤_;simp) (fun x hx=>by show(w.heap.push _)[x]?=_;rw[Array.getElem?_push,if_neg zo]) hd) (by rw[O];exact G) aa ad af
    refine⟨_,.slice (some ⟨w.heap.size,0,none⟩) es'.length gc,w',Qx φ tk w.heap.size,KL ho (by rw[aq,h1];exact ab),.inl rfl,?_,hH,E,X⟩
    have U:∀x,x<es'.length*i.size→¬MM (Qx φ tk w.heap.size) (upd h tk (.arr ty i.size es'.length)) M0 w.heap.size x:=fun x hx =>
     Rt (φ:=φ) (h:=h) r.hp hC (d:=tk) (ty:=ty) (S:=i.size) (n:=es'.length) (by simp[upd]) O (fun b k hb hk=>⟨by simpa [upd,Ne.symm hb] using hk,by simp[Qx,Ne.symm hb]⟩) hx
    simp only[Qe,QM,List.nil_append];refine⟨.inl ⟨w.heap.size,0,gc,rfl,ad,?_⟩,ty,es'.length,by simp[upd],Kt _,fun _=>.inr ⟨gc,C,by rw[O],by rw[O];exact G,aa,ad,af⟩⟩;rw[KO];refine⟨h3,Xi (l:=l) (by rw[h5,ZA h3]) ?_ ?_ h7 ?_⟩
    ·intro j v J;rw[Kh G];have hlt:j<l.length:=(CS.1 J).1;simp only[Nat.zero_add,C];rw[Array.getElem?_append_left (by simpa using hlt)];simpa using J
    ·intro j J;simp only[Nat.zero_add];exact U j (by rw[←h5];exact J)
    ·intro j c v J hv;exact(Z4 (E.keeps M0)).1 _ _ (h8 j c v J hv)
   obtain⟨rr,oo,cap,l,h1,h2,h3,h4,h5,h6,h7,h8⟩:=XF ah am;have aj:0<es'.length:=List.length_pos_iff.2 am
   have au:Wl w (MM φ h M0) i.size (φ tk) 0 es:=by
    by_cases ay:es=[]
    ·subst ay;simp[Wl]
    ·obtain⟨r2,o2,bk,l2,g1,_,_,g4,_⟩:=XF av ay;rw[aq] at g1;simp only[Value.slice.injEq,QW,Addr.mk.injEq] at g1;obtain⟨⟨rfl,rfl,_⟩,_⟩:=g1;exact g4
   have ar:∀e∈es,e.length=i.size:=((KO es 0).1 au).1;by_cases ac:es.length+es'.length≤W
   ·have bc:es.length*i.size+l.length≤c0.size:=by rw[h5,an,←Nat.add_mul];exact Nat.mul_le_mul_right _ ac
    have ab:=run_append_room (P:=P) w t o.type ty i ht hi (φ tk) es.length W c0 a8 ⟨rr,oo,none⟩ es'.length cap l (by rw[h5]) (fun j v J=>by rw[Addr.add_lit];exact h6 j v J) h7 ac bc
    let C:Array Value:=(c0.toList.take (es.length*i.size)++l++c0.toList.drop (es.length*i.size+l.length)).toArray
    have a6:(c0.toList.take (es.length*i.size)).length=es.length*i.size:=by simp;omega
    have aa:C.size=c0.size:=by simp[C];omega
    obtain⟨E,X⟩:=EU (φ:=φ) (h:=h) (w:=w) (M0:=M0) (n':=es.length+es'.length) (c':=C) Z a8 zo aa (fun x hx=>by
     simp only[C,List.getElem?_toArray];rw[List.append_assoc,List.getElem?_append_left (by rw[a6];exact hx),List.getElem?_take,if_pos hx];simp) r.hp
    have G:(w.setRow (φ tk) C).heap[φ tk]?=some (.cells C ty (0,0)):=setRow_heap w _ c0 C ty _ a8
    have hH:ZN φ (upd h tk (.arr ty i.size (es.length+es'.length))) (w.setRow (φ tk) C) M0 :=
     Rq Z r.hp E X (fun _ _=>rfl) (.inl rfl) (fun d hd be=>setRow_other w _ _ C (fun e=>be (r.hp.inj d tk hd (by rw[Z];simp) e))) G (by rw[aa,an]) ac ao
    refine⟨_,.slice (some ⟨φ tk,0,none⟩) (es.length+es'.length) W,_,φ,KL ho (by rw[aq,h1];exact ab),.inl rfl,?_,hH,E,X⟩
    have U:∀x,x<(es.length+es'.length)*i.size→¬MM φ (upd h tk (.arr ty i.size (es.length+es'.length))) M0 (φ tk) x:=by
     rintro x hx (⟨b,k,q1,q2,q3⟩|q1)
     ·by_cases e:tk=b
      ·subst e;have:k=.arr ty i.size (es.length+es'.length):=by simpa [upd] using q1.symm
       subst this;simp only at q3;omega
      ·have q4:h b=some k:=by simpa [upd,e] using q1
       exact e (r.hp.inj b tk (by rw[q4];simp) (by rw[Z];simp) q2).symm
     ·exact r.hp.fr tk (by rw[Z];simp) x q1
    simp only[Qe,QM];refine⟨.inl ⟨φ tk,0,W,by simp,by simpa using ac,?_⟩,ty,es.length+es'.length,by simp[upd],by simp,fun _=>.inr ⟨W,C,rfl,G,by rw[aa,an],ac,ao⟩⟩;rw[VD];refine⟨(Z4 (E.keeps M0)).2.1 _ _ _ _ au,?_⟩;rw[KO];refine⟨h3,Xi (l:=l) (by rw[h5,ZA h3]) ?_ ?_ h7 ?_⟩
    ·intro j v J;rw[Kh G];have hlt:j<l.length:=(CS.1 J).1;simp only[Nat.zero_add,C,List.getElem?_toArray];rw[List.append_assoc,List.getElem?_append_right (by rw[a6];omega),a6,List.getElem?_append_left zo];rw[show es.length*i.size+j-es.length*i.size=j from by omega];exact J
    ·intro j J;simp only[Nat.zero_add];refine U _ ?_;rw[h5] at J;rw[Nat.add_mul];omega
    ·intro j c v J hv;exact(Z4 (E.keeps M0)).1 _ _ (h8 j c v J hv)
   ·obtain⟨ol,g1,g2,g3,g4⟩:=Fw _ _ ((KO es 0).1 au).2;have aw:ol.length=es.length*i.size:=by rw[g1,ZA ar]
    have ab:=run_append_grow (P:=P) w t o.type ty i z ht hi hz ⟨φ tk,0,none⟩ es.length W ol aw (fun j v J=>by rw[Addr.add_lit];exact g2 j v J) ⟨rr,oo,none⟩ es'.length cap l (by rw[h5])
     (fun j v J=>by rw[Addr.add_lit];exact h6 j v J) zo zo (growslice_fits zo a7)
    have ad:=grownCap_ge w (es.length+es'.length) W ty;have af:grownCap w (es.length+es'.length) W ty≤maxLen:=grownCap_le_maxLen w _ W ty (by unfold maxLen;omega);generalize grownCap w (es.length+es'.length) W ty=gc at *
    let C:Array Value:=ol.toArray++l.toArray++Builtin.zeroCells z.cells (gc-(es.length+es'.length))
    let w':World:=w.drew.alloc (.cells C ty)
    obtain⟨E,X⟩:=Gx (w:=w) (w':=w') (ob:=.cells C ty) (φ:=φ) (h:=h) (M0:=M0) (n':=es.length+es'.length) Z zo rfl rfl rfl rfl r.hp hC
    have aa:C.size=gc*i.size:=by
     simp only[C,Array.size_append,List.size_toArray,size_zeroCells,az.1,h5,aw];rw[←Nat.add_mul,←Nat.add_mul];congr 1;omega
    have G:w'.heap[w.heap.size]?=some (.cells C ty (0,0)):=by show(w.heap.push _)[w.heap.size]?=_;simp
    have O:Qx φ tk w.heap.size tk=w.heap.size:=by simp[Qx]
    have hH:ZN (Qx φ tk w.heap.size) (upd h tk (.arr ty i.size (es.length+es'.length))) w' M0 :=
     Rq Z r.hp E X (fun b hb=>by simp[Qx,Ne.symm hb]) (.inr ⟨O,hC⟩) (fun d hd _=>hC.lt r.hp (w':=w') (by show(w.heap.push _).size≤_;simp) (fun x hx=>by show(w.heap.push _)[x]?=_;rw[Array.getElem?_push,if_neg zo]) hd) (by rw[O];exact G) aa ad af
    refine⟨_,.slice (some ⟨w.heap.size,0,none⟩) (es.length+es'.length) gc,w',Qx φ tk w.heap.size,KL ho (by rw[aq,h1];exact ab),.inl rfl,?_,hH,E,X⟩
    have U:∀x,x<(es.length+es'.length)*i.size→¬MM (Qx φ tk w.heap.size) (upd h tk (.arr ty i.size (es.length+es'.length))) M0 w.heap.size x:=fun x hx =>
     Rt (φ:=φ) (h:=h) r.hp hC (d:=tk) (ty:=ty) (S:=i.size) (n:=es.length+es'.length) (by simp[upd]) O (fun b k hb hk=>⟨by simpa [upd,Ne.symm hb] using hk,by simp[Qx,Ne.symm hb]⟩) hx
    simp only[Qe,QM];refine⟨.inl ⟨w.heap.size,0,gc,by simp,by simpa using ad,?_⟩,ty,es.length+es'.length,by simp[upd],by simp,fun _=>.inr ⟨gc,C,by rw[O],by rw[O];exact G,aa,ad,af⟩⟩;rw[VD];constructor
    ·rw[KO];refine⟨ar,Xi (l:=ol) g1 ?_ ?_ g3 ?_⟩
     ·intro j v J;rw[Kh G];have hlt:j<ol.length:=(CS.1 J).1;simp only[Nat.zero_add,C];rw[Array.append_assoc,Array.getElem?_append_left (by simpa using hlt)];simpa using J
     ·intro j J;simp only[Nat.zero_add];refine U _ ?_;rw[aw] at J;rw[Nat.add_mul];omega
     ·intro j c v J hv;exact(Z4 (E.keeps M0)).1 _ _ (g4 j c v J hv)
    ·rw[KO];refine⟨h3,Xi (l:=l) (by rw[h5,ZA h3]) ?_ ?_ h7 ?_⟩
     ·intro j v J;rw[Kh G];have hlt:j<l.length:=(CS.1 J).1;simp only[Nat.zero_add,C];rw[Array.append_assoc,Array.getElem?_append_right (by simp;omega),Array.getElem?_append_left (by simp;omega)];simp only[List.size_toArray,aw,List.getElem?_toArray];rw[show es.length*i.size+j-es.length*i.size=j from by omega];exact J
     ·intro j J;simp only[Nat.zero_add];refine U _ ?_;rw[h5] at J;rw[Nat.add_mul];omega
     ·intro j c v J hv;exact(Z4 (E.keeps M0)).1 _ _ (h8 j c v J hv)
end
def dA:AV→Option PV|.p x=>some x|.tsl S es _=>some (.sl S es)|_=>none
def LB:List AV→Option (List PV)
|[]=>some []
|x::xs=>match dA x,LB xs with|some y,some ys=>some (y::ys)|_,_=>none
def eu(P:Program):Nat→TypeId→List (Option Nat)
|0,_=>[]
|d+1,t=>match P.underlying t with
 |some (.slice e)=>[some (P.cellsOf e)]
 |some (.struct G)=>G.toList.flatMap fun f=>eu P d f.type
 |some (.array n e)=>(List.replicate n (eu P d e)).flatten
 |_=>[none]
def Dm:List (Option Nat)→List PV→List PV|_,[]=>[]|[],c::cs=>c::cs|some S::ss,.val (.slice none 0 0)::cs=>.sl S []::Dm ss cs|_::ss,c::cs=>c::Dm ss cs
def BM(S:Nat):Nat→List PV→List (List PV)|0,_=>[]|n+1,l=>l.take S::BM S n (l.drop S)
theorem Ig{S:Nat}:∀(n:Nat) (l:List PV),l.length=n*S→(BM S n l).flatten=l∧(BM S n l).length=n∧∀e∈BM S n l,e.length=S
|0,l,J=>by
  have:l=[]:=List.eq_nil_of_length_eq_zero (by simpa using J);subst this;simp[BM]
|n+1,l,J=>by
  have U:(n+1)*S=n*S+S:=by rw[Nat.add_mul];omega
  obtain⟨a1,a2,O⟩:=Ig (S:=S) n (l.drop S) (by rw[GV];omega);refine⟨by simp only[BM,List.flatten_cons,a1,List.take_append_drop],by simp[BM,a2],?_⟩;intro e G;simp only[BM,List.mem_cons] at G;rcases G with rfl|G
  ·simp;omega
  ·exact O e G
section
variable {P:Program}{o:Oper}{φ:Nat→Nat}{M0:ZK}{N:Nat}{D:DB}{T:Nat→Option AV}{h:QN}{a:Act}{w:World}
theorem wy{x:AV}{y:PV}(G:dA x=some y)(J:Qe φ h w M x v):QM w M y v:=by
 cases x with
|p x=>simp only[dA,QW] at G;subst G;simpa only[Qe] using J
|tsl S es t=>simp only[dA,QW] at G;subst G;simp only[Qe] at J;exact J.1
|_=>simp[dA] at G
theorem q8{M:ZK}:∀{xs:List AV} {ys:List PV} {l:List Value},LB xs=some ys→Qi φ h w M xs l→ys.length=l.length∧∀(j:Nat) c u,ys[j]?=some c→l[j]?=some u→QM w M c u
|[],ys,l,G,J=>by simp only[LB,QW] at G;subst G;simp only[Qi] at J;subst J;simp
|x::xs,ys,l,G,J=>by
  simp only[LB] at G;split at G
  ·rename_i y aa Z U;simp only[QW] at G;subst G;simp only[Qi] at J;obtain⟨v,vs,rfl,h3,W⟩:=J;obtain⟨Y,h6⟩:=q8 U W;refine⟨by simp[Y],fun j c u O hu=>?_⟩;cases j with
  |zero=>simp at O hu;subst O hu;exact wy Z h3
  |succ j=>exact h6 j c u (by simpa using O) (by simpa using hu)
  ·cases G
theorem q9{M:ZK}:∀{ss:List (Option Nat)} {ys:List PV} {l:List Value},ys.length=l.length→(∀(j:Nat) c u,ys[j]?=some c→l[j]?=some u→QM w M c u) →
  (Dm ss ys).length=l.length∧∀(j:Nat) c u,(Dm ss ys)[j]?=some c→l[j]?=some u→QM w M c u
|ss,[],l,O,h=>by unfold Dm;exact⟨O,h⟩
|[],c::cs,l,O,h=>by unfold Dm;exact⟨O,h⟩
|s::ss,c::cs,[],O,h=>by simp at O
|s::ss,c::cs,v::l,O,h=>by
  have W:=q9 (ss:=ss) (ys:=cs) (l:=l) (by simpa using O) (fun j c u J G=>h (j+1) c u (by simpa using J) (by simpa using G));have h0:=h 0 c v zq zq
  have U:∀c',QM w M c' v→(c'::Dm ss cs).length=(v::l).length∧∀(j:Nat) c u,(c'::Dm ss cs)[j]?=some c→(v::l)[j]?=some u→QM w M c u:=by
   intro c' hc;refine⟨by simp[W.1],fun j c u J G=>?_⟩;cases j with
  |zero=>simp at J G;subst J G;exact hc
  |succ j=>exact W.2 j c u (by simpa using J) (by simpa using G)
  unfold Dm;split
  ·rename_i h;cases h
  ·rename_i h _;cases h
  ·rename_i S Y cs' J G;cases J;cases G;refine U _ ?_;simp only[QM] at h0 ⊢;exact .inr ⟨trivial,none,0,h0⟩
  ·rename_i J G;cases J;cases G;exact U _ h0
theorem CZ(l:List Value)(s:Nat)(hs:l.length=s)(hp:0<s):∀n:Nat,(List.range (n*s)).map (fun k=>l.toArray[k%l.toArray.size]!)=(List.replicate n l).flatten
|0=>by simp
|n+1=>by
  rw[Nat.add_mul,Nat.one_mul,List.range_add,List.map_append,CZ l s hs hp n,List.replicate_succ',List.flatten_append];congr 1;simp only[List.map_map,List.flatten_cons,List.flatten_nil,List.append_nil];apply List.ext_getElem?;intro j;by_cases G:j<s
  ·have:(n*s+j)%s=j:=by rw[Nat.add_comm,Nat.add_mul_mod_self_right];exact Nat.mod_eq_of_lt G
   simp[G,hs,this]
  ·simp[G,hs]
def Ho(P:Program)(T:Nat→Option AV)(h:QN)(dst:Option Tmp)(t:TypeId)(len:Nat)(parts:Array (Nat×Operand)):Option KN :=
 match P.underlying t,dst,A7 T parts.toList with
|some (.slice e),some d,some ps =>
  match P.info? e with
 |some i =>
   match i.zero,h d with
  |some z,none =>
    match cellsOf (AP z) with
   |some G =>
     if G.length=i.size∧0<i.size∧len*i.size≤16777216 then
      match Na (fun k=>some (k*i.size,i.size)) (List.replicate len G).flatten ps with
     |some rs =>
       match (LB rs).map (Dm (List.replicate len (eu P 5 e)).flatten) with
      |some pvs=>if pvs.length=len*i.size∧UH rs then some (.tsl i.size (BM i.size len pvs) d,some (d,.arr e i.size len),[d]) else none
      |none=>none
     |none=>none
     else none
   |none=>none
  |_,_=>none
 |none=>none
|_,_,_=>none
theorem Xv{M:ZK}{xs:List AV}{l:List Value}(G:Qi φ h w M xs l):∀n:Nat,Qi φ h w M (List.replicate n xs).flatten (List.replicate n l).flatten
|0=>by simp[Qi]
|n+1=>by simp only[List.replicate_succ,List.flatten_cons];exact Zz G (Xv G n)
theorem qx(r:Zn φ M0 N D T h a w){t:TypeId}{u:KN}(ho:o.op=.buildSlice t len parts)(G:Ho P T h o.dst t len parts=some u):Yield P o φ M0 h a w u.1 (ap h u.2.1):=by
 unfold Ho at G;split at G;rotate_left
 ·cases G
 rename_i e d ps ht aq aj;split at G;rotate_left
 ·cases G
 rename_i i hi;split at G;rotate_left
 ·cases G
 rename_i z hz hd;split at G;rotate_left
 ·cases G
 rename_i zs ai;split at G;rotate_left
 ·cases G
 rename_i af;split at G;rotate_left
 ·cases G
 rename_i rs ak;split at G;rotate_left
 ·cases G
 rename_i pvs ac;split at G;rotate_left
 ·cases G
 rename_i W;simp only[QW] at G;subst G;simp only[ap];refine Yield.of_lift r 1 fun φ r E0 X0 hC=>?_
 obtain⟨h1,h2⟩:=Dl r aj;obtain⟨h3,_,_⟩:=VE ai (WS (φ:=φ) (h:=h) (w:=w) (M:=MM φ h M0) z);have au:=ZO h3;have al:z.cells.toList.length=i.size:=by omega
 have Y:Qi φ h w (MM φ h M0) (List.replicate len zs).flatten (((Array.range (len*i.size)).map (z.cells[·%z.cells.size]!)).toList):=by
  have e1:((Array.range (len*i.size)).map (z.cells[·%z.cells.size]!)).toList=(List.replicate len z.cells.toList).flatten:=by
   have:=CZ z.cells.toList i.size al af.2.1 len;simp only[Array.toArray_toList] at this;rw[←this];simp[Array.toList_range]
  rw[e1];exact Xv h3 len
 obtain⟨c',h4,h5⟩:=Nc (placeC:=fun k=>some (k*i.size,i.size)) (fun k x hx=>hx) ps _ _ _ rs h1 h2 Y ak;have ar:=ZO h5;obtain⟨ao,Z,ab⟩:=GU.1 ac;have O:=q8 Z h5;have O:=q9 (ss:=(List.replicate len (eu P 5 e)).flatten) O.1 O.2;rw[ab] at O;obtain⟨h6,h7⟩:=O;have U:c'.size=len*i.size:=by simp at h6;omega
 have ah:=R5 W.2 h5;obtain⟨g1,g2,g3⟩:=Ig len pvs W.1
 let w':World:=w.alloc (.cells c' e)
 obtain⟨E,X⟩:=Xg (w:=w) (w':=w') (o:=.cells c' e) (b:=d) (k:=.arr e i.size len) (φ:=φ) (h:=h) (M0:=M0) rfl rfl rfl rfl hd r.hp hC;have J:w'.heap[w.heap.size]?=some (.cells c' e (0,0)):=by show(w.heap.push _)[w.heap.size]?=_;simp
 have ad:len≤maxLen:=by
  have:len*1≤len*i.size:=Nat.mul_le_mul_left _ af.2.1;unfold maxLen;omega
 have hH:ZN (Qx φ d w.heap.size) (upd h d (.arr e i.size len)) w' M0:=Xh rfl hd r.hp hC E X (.inr ⟨c',len,J,U,Kt _,ad⟩);refine⟨_,.slice (some ⟨w.heap.size,0,none⟩) len len,w',Qx φ d w.heap.size,?_,.inl rfl,?_,hH,E,X⟩
 ·have hq:(parts.map fun(x:Nat×Operand)=>(x.1,a.eval x.2)).toList=parts.toList.map fun(x:Nat×Operand)=>(x.1,a.eval x.2):=by simp
  have ae:¬(len*i.size>2 ^ 24):=by omega
  by_cases h0:len*i.size=0
  ·have am:len=0:=by
    rcases Nat.mul_eq_zero.1 h0 with x|x
    ·exact x
    ·omega
   subst am;have e0:(Array.range (0*i.size)).map (z.cells[·%z.cells.size]!)=#[]:=by apply Array.ext';simp
   have e2:(Array.range 0).map (fun _=>(default:Value))=#[]:=by apply Array.ext';simp
   rw[e0] at h4;have an:Instr.fill (fun k=>some (k*i.size,i.size)) #[] (parts.toList.map fun(x:Nat×Operand)=>(x.1,a.eval x.2))=some c':=h4;simp only[execOp,ho,Instr.buildSlice,Sem.run_bind,run_underlying ht,Q9 hi,Result.andThen_ok,hq,h0,if_true,Sem.run_pure];simp[newRow,newObj,Sem.run,w',e2,an]
  ·simp only[execOp,ho,Instr.buildSlice,Sem.run_bind,run_underlying ht,Q9 hi,Result.andThen_ok,ae,if_false,h0,hq,zeroValue,typeInfo,program,Sem.run,hi,hz,Sem.run_pure,h4];simp[newRow,newObj,Sem.run,w']
 ·have aa:∀x,x<len*i.size→¬MM (Qx φ d w.heap.size) (upd h d (.arr e i.size len)) M0 w.heap.size x:=fun x hx =>
   Rt (φ:=φ) (h:=h) r.hp hC (d:=d) (ty:=e) (S:=i.size) (n:=len) (by simp[upd]) (by simp[Qx]) (fun b k hb hk=>⟨by simpa [upd,Ne.symm hb] using hk,by simp[Qx,Ne.symm hb]⟩) hx
  simp only[Qe,QM];refine⟨.inl ⟨w.heap.size,0,len,by rw[g2],by omega,?_⟩,e,len,by simp[upd],by omega,fun _=>.inr ⟨len,c',by simp[Qx],by simpa [Qx] using J,U,Kt _,ad⟩⟩;rw[KO,g1];refine⟨g3,Xi (l:=c'.toList) h6.symm ?_ ?_ ah ?_⟩
  ·intro j v hj;rw[Kh J];simpa using hj
  ·intro j hj;simp only[Nat.zero_add];exact aa j (by simp at hj;omega)
  ·intro j c v hj hv;exact(Z4 (E.keeps M0)).1 _ _ (h7 j c v hj hv)
def XU(T:Nat→Option AV)(G:Nat):Option Operand→Option Nat
|none=>some G
|some x=>match Zo T x with|some (.p (.val (.int _ n)))=>if 0≤n then some n.toNat else none|_=>none
def Fx(P:Program)(T:Nat→Option AV)(t:TypeId)(x:Operand)(lo hi J:Option Operand):Option KN :=
 match P.underlying t,Zo T x with
|some (.slice e),some v =>
  match elems v,P.info? e with
 |some (S,es),some i =>
   match XU T 0 lo,XU T es.length hi with
  |some l,some G =>
    if S=i.size∧l≤G∧G≤es.length then
     match J with
    |none=>some (.p (.sl S ((es.take G).drop l)),none,[])
    |some _=>match hi,XU T es.length J with|some _,some m=>if G≤m∧m≤es.length then some (.p (.sl S ((es.take G).drop l)),none,[]) else none|_,_=>none
    else none
  |_,_=>none
 |_,_=>none
|_,_=>none
theorem R8(r:Zn φ M0 N D T h a w){J:Nat}(G:XU T J (some x)=some n):∃k,a.eval x=.int k n:=by
 simp only[XU] at G;split at G
 ·rename_i k m O;split at G
  ·rename_i U;simp only[QW] at G;have:=r.ev O;simp only[Qe,QM] at this;exact⟨k,by rw[this];congr 1;omega⟩
  ·cases G
 ·cases G
theorem run_sliceBound{x:Value}{k:IntKind}{y:Nat}{code:BoundsCode}(G:x=.int k n)(J:n≤y):(Instr.sliceBound x y code).run P w=.ok n w:=by
 subst G;have:(0:Int)≤(n:Int)∧(n:Int)≤(y:Int):=⟨by omega,by omega⟩;simp[Instr.sliceBound,asIntOf,this]
theorem kK{S W U cap l G m:Nat}{es:List (List PV)}(O:Wl w M S W U es)(h1:l≤G)(h2:G≤es.length)(h3:G≤m) :
  QM w M (.sl S ((es.take G).drop l)) (.slice (if m=l then some ⟨W,U,none⟩ else some ⟨W,U+l*S,none⟩) (G-l) (m-l)):=by
 have J:((es.take G).drop l).length=G-l:=by simp;omega
 simp only[QM];by_cases he:G=l
 ·right;refine⟨List.eq_nil_of_length_eq_zero (by rw[J];omega),(if m=l then some ⟨W,U,none⟩ else some ⟨W,U+l*S,none⟩),m-l,?_⟩;have Y:G-l=0:=by omega
  rw[Y]
 ·left;have hne:¬m=l:=by omega
  refine⟨W,U+l*S,m-l,by simp[hne,J],by omega,?_⟩
  have e1:es=(es.take G).take l++((es.take G).drop l++es.drop G):=by
   rw[←List.append_assoc,List.take_append_drop,List.take_append_drop]
  rw[e1,VD] at O;have Z:((es.take G).take l).length=l:=by simp;omega
  rw[Z] at O;have:=O.2;rw[VD] at this;exact this.1
theorem eB(r:Zn φ M0 N D T h a w){t:TypeId}{mx:Option Operand}{u:KN}(ho:o.op=.slice t x lo hi mx)(G:Fx P T t x lo hi mx=some u):u.2.1=none∧Yield P o φ M0 h a w u.1 h:=by
 unfold Fx at G;split at G;rotate_left
 ·cases G
 rename_i e v ht hx;split at G;rotate_left
 ·cases G
 rename_i S es i aj Z;split at G;rotate_left
 ·cases G
 rename_i l O hl W;split at G;rotate_left
 ·cases G
 rename_i hc;obtain⟨rfl,ab,aa⟩:=hc;have h2:=CY aj (r.ev hx)
 have U:∃(q:Option Addr) (cap:Nat),a.eval x=.slice q es.length cap∧es.length≤cap∧(es=[]∨∃rr Y,q=some ⟨rr,Y,none⟩∧Wl w (MM φ h M0) i.size rr Y es):=by
  simp only[QM] at h2;rcases h2 with⟨rr,Y,cap,g1,g2,g3⟩|⟨rfl,q,cap,g1⟩
  ·exact⟨_,cap,g1,g2,.inr ⟨rr,Y,rfl,g3⟩⟩
  ·exact⟨q,cap,g1,Nat.zero_le _,.inl rfl⟩
 obtain⟨q,cap,hv,ak,ah⟩:=U;have al:∀y,O≤y→True:=fun _ _=>trivial
 have J:∀(code:BoundsCode),(match lo.map a.eval with|some v=>Instr.sliceBound v O code|none=>pure 0).run P w=.ok l w:=by
  intro code;cases lo with
 |none=>simp only[XU,QW] at hl;subst hl;rfl
 |some y=>obtain⟨k,hk⟩:=R8 r hl;exact run_sliceBound hk ab
 have fin:∀m,O≤m→Qe φ h w (MM φ h M0) (.p (.sl i.size ((es.take O).drop l))) (.slice (if m=l then q else q.map (·.add (l*i.size))) (O-l) (m-l)):=by
  intro m hm;simp only[Qe];rcases ah with rfl|⟨rr,Y,rfl,g3⟩
  ·have:O=0:=by simpa using aa
   subst this;have ai:l=0:=by omega
   subst ai;simp only[QM];exact .inr ⟨by simp,(if m=0 then q else q.map (·.add (0*i.size))),m,by simp⟩
  ·have:=kK (m:=m) (cap:=cap) g3 ab aa hm;simpa [Addr.add_lit] using this
 split at G
 ·simp only[QW] at G;subst G;refine⟨rfl,Qp r (v:=.slice (if cap=l then q else q.map (·.add (l*i.size))) (O-l) (cap-l)) ?_ (fin cap zo)⟩
  have hb:(Instr.sliceBounds true es.length cap (lo.map a.eval) (hi.map a.eval) none).run P w=.ok (l,O,cap) w:=by
   cases hi with
  |none =>
    simp only[XU,QW] at W;subst W;have:=J .sliceB;cases lo with
   |none=>simp[Instr.sliceBounds] at this ⊢;exact this
   |some y=>simp[Instr.sliceBounds] at this ⊢;simp[this]
  |some y =>
    obtain⟨k,hk⟩:=R8 r W;have ac:=run_sliceBound (P:=P) (w:=w) (code:=.sliceAcap) hk (show O≤cap by omega);have:=J .sliceB;cases lo with
   |none=>simp[Instr.sliceBounds,ac] at this ⊢;exact this
   |some y=>simp[Instr.sliceBounds,ac] at this ⊢;simp[this]
  simp[execOp,ho,Instr.sliceAt,Instr.slice,run_underlying ht,hv,hb,Q9 Z]
 ·rename_i y;split at G;rotate_left
  ·cases G
  rename_i yh m hm;split at G;rotate_left
  ·cases G
  rename_i ad;simp only[QW] at G;subst G;refine⟨rfl,Qp r (v:=.slice (if m=l then q else q.map (·.add (l*i.size))) (O-l) (m-l)) ?_ (fin m ad.1)⟩;obtain⟨k1,af⟩:=R8 r hm;obtain⟨k2,ae⟩:=R8 r W
  have hb:(Instr.sliceBounds true es.length cap (lo.map a.eval) (some (a.eval yh)) (some (a.eval y))).run P w=.ok (l,O,m) w:=by
   have b1:=run_sliceBound (P:=P) (w:=w) (code:=.slice3Acap) af (show m≤cap by omega);have b2:=run_sliceBound (P:=P) (w:=w) (code:=.slice3B) ae ad.1;have:=J .slice3C;cases lo with
  |none=>simp[Instr.sliceBounds,b1,b2] at this ⊢;exact this
  |some y=>simp[Instr.sliceBounds,b1,b2] at this ⊢;simp[this]
  simp[execOp,ho,Instr.sliceAt,Instr.slice,run_underlying ht,hv,hb,Q9 Z]
end
section
variable {P:Program}{o:Oper}{φ:Nat→Nat}{M0:ZK}{N:Nat}{D:DB}{T:Nat→Option AV}{h:QN}{a:Act}{w:World}
theorem Dn{S:Nat}:∀{es:List (List PV)} {k:Nat} {e:List PV} {f:Nat},(∀e∈es,e.length=S)→es[k]?=some e→f<S→es.flatten[k*S+f]?=e[f]?
|[],_,_,_,_,G,_=>by simp at G
|O::es,0,e,f,J,G,hf=>by
  simp only[List.getElem?_cons_zero,QW] at G;subst G;have:=J O zq;simp only[Nat.zero_mul,Nat.zero_add,List.flatten_cons];rw[List.getElem?_append_left zo]
|O::es,k+1,e,f,J,G,hf=>by
  have h0:=J O zq;simp only[List.getElem?_cons_succ] at G;have:=Dn (f:=f) (fun e U=>J e (by simp[U])) G hf;rw[List.flatten_cons,List.getElem?_append_right (by rw[h0,Nat.add_mul];omega),h0,Nat.add_mul,show k*S+1*S+f-S=k*S+f from by omega];exact this
theorem EW{S:Nat}:∀{es:List (List PV)} {k:Nat} {e G:List PV},(∀e∈es,e.length=S)→es[k]?=some e→G.length=S→(es.set k G).flatten=es.flatten.take (k*S)++G++es.flatten.drop (k*S+S)
|[],_,_,_,_,J,_=>by simp at J
|U::es,0,e,G,O,J,hf=>by
  have h0:=O U zq;simp only[List.set_cons_zero,List.flatten_cons,Nat.zero_mul,Nat.zero_add,List.take_zero,List.nil_append];rw[←h0,List.drop_left]
|U::es,k+1,e,G,O,J,hf=>by
  have h0:=O U zq;simp only[List.getElem?_cons_succ] at J;have:=EW (fun e Y=>O e (by simp[Y])) J hf;simp only[List.set_cons_succ,List.flatten_cons,this];have W:(k+1)*S=U.length+k*S:=by rw[h0,Nat.add_mul];omega
  rw[W,List.take_length_add_append,Nat.add_assoc,List.drop_length_add_append];simp[List.append_assoc]
theorem EX{t:Nat}{S:Nat}{es:List (List PV)}{c:Array Value}(Y:h t=some (.vec ty S es))(hw:w.heap[φ t]?=some (.cells c ty (0,0)))(hn:es.length≤es'.length)(ai:c'.size=c.size)(r:ZN φ h w M0):Q8 φ h w φ (upd h t (.vec ty S es')) (w.setRow (φ t) c')∧Y4 φ h w φ (upd h t (.vec ty S es')) (w.setRow (φ t) c'):=by
 have G:∀x,x≠φ t→(w.setRow (φ t) c').heap[x]?=w.heap[x]?:=fun x hx=>setRow_other w _ x c' hx
 have ac:(w.setRow (φ t) c').heap[φ t]?=some (.cells c' ty (0,0)):=setRow_heap w _ c c' ty _ hw;have hb:∀b ty cs,h b=some (.box ty cs)→t≠b:=fun b ty cs hb e=>by rw[←e,Y] at hb;cases hb
 have aa:∀t2 V4 U n2,h t2=some (.arr V4 U n2)→∃n3,upd h t (.vec ty S es') t2=some (.arr V4 U n3)∧n2≤n3 ∧
   (n3=n2→AKept w (w.setRow (φ t) c') (φ t2) (φ t2) V4):=by
  intro t2 V4 U n2 J;have e:¬t=t2:=fun e=>by rw[←e,Y] at J;cases J
  have hne:φ t2≠φ t:=fun e2=>e (r.inj t2 t (by rw[J];simp) (by rw[Y];simp) e2).symm
  exact⟨n2,by simp[upd,e,J],Kt _,fun _=>Yz (rfl) (by rw[G _ hne])⟩
 have ab:∀t2 V4 U O,h t2=some (.vec V4 U O)→∃ad,upd h t (.vec ty S es') t2=some (.vec V4 U ad)∧O.length≤ad.length ∧
   (ad.length=O.length→φ t2=φ t2∧∀c0,w.heap[φ t2]?=some (.cells c0 V4 (0,0))→∃c1,(w.setRow (φ t) c').heap[φ t2]?=some (.cells c1 V4 (0,0))∧c1.size=c0.size):=by
  intro t2 V4 U n2 J;by_cases e:t=t2
  ·subst e;rw[Y] at J;cases J;refine⟨es',by simp[upd],hn,fun _=>⟨rfl,fun c0 W=>⟨c',ac,?_⟩⟩⟩;rw[hw] at W;cases W;exact ai
  ·have hne:φ t2≠φ t:=fun e2=>e (r.inj t2 t (by rw[J];simp) (by rw[Y];simp) e2).symm
   exact⟨n2,by simp[upd,e,J],Kt _,fun _=>⟨rfl,fun c0 W=>⟨c0,by rw[G _ hne];exact W,rfl⟩⟩⟩
 have af:∀d k x,h d=some k→k.ob=some x→(∃k',upd h t (.vec ty S es') d=some k'∧k'.ob=some x)∧φ d=φ d:=by
  intro d k x Z ho;have e:¬t=d:=fun e=>by rw[←e,Y] at Z;cases Z;cases ho
  exact⟨⟨k,by simp[upd,e,Z],ho⟩,rfl⟩
 refine⟨⟨rfl,rfl,rfl,by simp,?_,?_,?_,?_,fun t2 V4 U O _ J=>aa t2 V4 U O J,fun t2 V4 U O _ J=>ab t2 V4 U O J,fun d k x _=>af d k x⟩,?_,aa,ab,af⟩
 ·intro x _ ah;exact G x (fun e=>ah t (by rw[Y];simp) e.symm)
 ·intro x o _ hm;have e:x≠φ t:=fun e=>hm ⟨t,_,Y,e.symm,trivial⟩
  simp[World.cell?,G x e]
 ·rintro x y _ ⟨d,q,h1,J,h3⟩;by_cases e:t=d
  ·subst e;exact⟨t,_,Y,J,trivial⟩
  ·exact⟨d,q,by simpa [upd,e] using h1,J,h3⟩
 ·intro d ae ds _ Z;exact⟨⟨ds,by simp[upd,hb d _ _ Z,Z]⟩,rfl⟩
 ·intro d ae ds Z;exact⟨⟨ae,ds,by simp[upd,hb d _ _ Z,Z]⟩,rfl⟩
theorem Ih{t:Nat}{S:Nat}{es:List (List PV)}{cap:Nat}(ht:h t=some (.vec ty S es))(r:ZN φ h w M0)(E:Q8 φ h w φ' (upd h t (.vec ty S es')) w')(X:Y4 φ h w φ' (upd h t (.vec ty S es')) w')(J:∀b,b≠t→φ' b=φ b)(O:φ' t=φ t∨φ' t=w.heap.size∧Clear φ h w 1)(ac:∀d,h d≠none→d≠t→w'.heap[φ d]?=w.heap[φ d]?)(ah:w'.heap[φ' t]?=some (.cells c' ty (0,0)))(ae:c'.size=cap*S)(aa:es'.length≤cap)(ab:cap≤maxLen)(hS:∀e∈es',e.length=S)(af:∀v∈c'.toList,v.oneCell'=true)(ad:Qi φ h w (MM φ h M0) (es'.flatten.map .p) (c'.toList.take (es'.length*S))):ZN φ' (upd h t (.vec ty S es')) w' M0:=by
 have g:∀d,upd h t (.vec ty S es') d≠none→h d≠none:=fun d U=>by
  by_cases e:t=d
  ·rw[←e,ht];simp
  ·simpa [upd,e] using U
 refine⟨?_,?_,?_,fun x y hx=>Nat.lt_of_lt_of_le (r.lt x y hx) E.size,r.gm.evol E⟩
 ·intro d e U he G;by_cases e1:d=t<;>by_cases W:e=t
  ·rw[e1,W]
  ·rw[e1,J e W] at G;rcases O with Y|⟨Y,hC⟩
   ·rw[Y] at G;rw[e1];exact r.inj t e (by rw[ht];simp) (g e he) G
   ·rcases hC e (g e he) with h4|h4<;>omega
  ·rw[W,J d e1] at G;rcases O with Y|⟨Y,hC⟩
   ·rw[Y] at G;rw[W];exact r.inj d t (g d U) (by rw[ht];simp) G
   ·rcases hC d (g d U) with h4|h4<;>omega
  ·rw[J d e1,J e W] at G;exact r.inj d e (g d U) (g e he) G
 ·intro d q U;by_cases e:t=d
  ·subst e;have:q=.vec ty S es':=by simpa [upd] using U.symm
   subst this;exact⟨c',cap,ah,ae,aa,ab,hS,af,(QH (E.keeps M0) X).2 _ _ ad⟩
  ·have h1:h d=some q:=by simpa [upd,e] using U
   rw[J d (fun W=>e W.symm)];exact Z5 (E.keeps M0) X (ac d (by rw[h1];simp) (fun W=>e W.symm)) (r.blk d q h1)
 ·intro d U o Z;by_cases e:d=t
  ·subst e;rcases O with Y|⟨Y,_⟩
   ·rw[Y] at Z;exact r.fr d (g d U) o Z
   ·rw[Y] at Z;exact absurd (r.lt _ _ Z) zo
  ·rw[J d e] at Z;exact r.fr d (g d U) o Z
theorem kL{ob:Obj}{t:Nat}{S:Nat}{es:List (List PV)}(ht:h t=some (.vec ty S es))(hn:es.length<es'.length)(hh:w'.heap=w.heap.push ob)(ho:w'.os=w.os)(ae:w'.tape=w.tape)(hu:w'.output=w.output)(r:ZN φ h w M0)(hC:Clear φ h w 1) :
  Q8 φ h w (Qx φ t w.heap.size) (upd h t (.vec ty S es')) w'∧Y4 φ h w (Qx φ t w.heap.size) (upd h t (.vec ty S es')) w':=by
 have J:∀x,x<w.heap.size→w'.heap[x]?=w.heap[x]?:=fun x hx=>by rw[hh,Array.getElem?_push,if_neg zo]
 have hb:∀b ty cs,h b=some (.box ty cs)→¬t=b:=fun b ty cs hb e=>by rw[←e,ht] at hb;cases hb
 have Z:∀t2 V4 O U,h t2=some (.vec V4 O U)→∃n3,upd h t (.vec ty S es') t2=some (.vec V4 O n3)∧U.length≤n3.length ∧
   (n3.length=U.length→Qx φ t w.heap.size t2=φ t2∧∀c0,w.heap[φ t2]?=some (.cells c0 V4 (0,0))→∃c1,w'.heap[φ t2]?=some (.cells c1 V4 (0,0))∧c1.size=c0.size):=by
  intro t2 V4 O U G;by_cases e:t=t2
  ·subst e;rw[ht] at G;cases G;exact⟨es',by simp[upd],by omega,fun e=>absurd e zo⟩
  ·exact⟨U,by simp[upd,e,G],Kt _,fun _=>⟨by simp[Qx,e],fun c0 ad=>⟨c0,by rw[hC.lt r (by rw[hh];simp) J (by rw[G];simp)];exact ad,rfl⟩⟩⟩
 have Y:∀t2 V4 O U,h t2=some (.arr V4 O U)→∃n3,upd h t (.vec ty S es') t2=some (.arr V4 O n3)∧U≤n3 ∧
   (n3=U→AKept w w' (φ t2) (Qx φ t w.heap.size t2) V4):=by
  intro t2 V4 O U G;have e:¬t=t2:=fun e=>by rw[←e,ht] at G;cases G
  exact⟨U,by simp[upd,e,G],Kt _,fun _=>Yz (by simp[Qx,e]) (by rw[hC.lt r (by rw[hh];simp) J (by rw[G];simp)])⟩
 have ac:∀d k x,h d=some k→k.ob=some x→(∃k',upd h t (.vec ty S es') d=some k'∧k'.ob=some x)∧Qx φ t w.heap.size d=φ d:=by
  intro d k x W ho;have e:¬t=d:=fun e=>by rw[←e,ht] at W;cases W;cases ho
  exact⟨⟨k,by simp[upd,e,W],ho⟩,by simp[Qx,e]⟩
 refine⟨⟨ho,ae,hu,by rw[hh];simp,fun x hx _=>J x hx,fun x o hx _=>by simp[World.cell?,J x hx],?_,?_,fun t2 V4 O aa _ G=>Y t2 V4 O aa G,fun t2 V4 O aa _ G=>Z t2 V4 O aa G,fun d k x _=>ac d k x⟩,?_,Y,Z,ac⟩
 ·rintro x y hx ⟨d,q,h1,G,h3⟩;by_cases e:t=d
  ·simp only[Qx,e,if_true] at G;omega
  ·exact⟨d,q,by simpa [upd,e] using h1,by simpa [Qx,e] using G,h3⟩
 ·intro d ab ds _ W;have:=hb d _ _ W;exact⟨⟨ds,by simp[upd,this,W]⟩,by simp[Qx,this]⟩
 ·intro d ab ds W;have:=hb d _ _ W;exact⟨⟨ab,ds,by simp[upd,this,W]⟩,by simp[Qx,this]⟩
end
section
variable {P:Program}{o:Oper}{φ:Nat→Nat}{M0:ZK}{N:Nat}{D:DB}{T:Nat→Option AV}{h:QN}{a:Act}{w:World}
def Jv(P:Program)(T:Nat→Option AV)(h:QN)(t:TypeId)(x ix:Operand):Option KN :=
 match P.underlying t,Zo T x,Zo T ix with
|some (.slice e),some (.vsl S tk n),some (.p (.val (.int _ k))) =>
  match h tk,P.info? e with
 |some (.vec _ _ es),some i=>if n=es.length∧S=i.size∧0≤k∧k.toNat<n then some (.vptr tk n k.toNat 0,none,[tk]) else none
 |_,_=>none
|some (.array len e),some (.vptr tk n k0 f),some (.p (.val (.int _ k))) =>
  match h tk,P.info? e with
 |some (.vec _ _ es),some i=>if n=es.length∧0≤k∧k<len then some (.vptr tk n k0 (f+k.toNat*i.size),none,[tk]) else none
 |_,_=>none
|_,_,_=>none
theorem qy(r:Zn φ M0 N D T h a w){t:TypeId}{u:KN}(ho:o.op=.indexAddr t x ix)(G:Jv P T h t x ix=some u):u.2.1=none∧Yield P o φ M0 h a w u.1 h:=by
 unfold Jv at G;split at G
 ·rename_i e S tk n kk k ht hx W;split at G
  ·rename_i ty S' es i hb hi;split at G
   ·rename_i hc;simp only[QW] at G;subst G;have Y:=r.ev hx;have O:=r.ev W;simp only[Qe,QM] at Y O;obtain⟨_,V4,aa,J,ab,U⟩:=Y;rw[hb] at J;cases J;obtain⟨cap,c,U,_⟩:=U hc.1;refine⟨rfl,Qp r (v:=.pointer (some ⟨φ tk,k.toNat*i.size,none⟩)) ?_ ?_⟩
    ·have Z:0≤k∧k<(n:Int):=⟨hc.2.2.1,by omega⟩;simp[execOp,ho,Instr.indexAt,O,asIntOf,run_underlying ht,U,Z,Q9 hi,Addr.add_lit]
    ·simp only[Qe];exact⟨rfl,ty,S,es,hb,by omega,fun _=>by rw[hc.2.1];rfl⟩
   ·cases G
  ·cases G
 ·rename_i len e tk n k0 f kk k ht hx W;split at G
  ·rename_i ty S' es i hb hi;split at G
   ·rename_i hc;simp only[QW] at G;subst G;have Y:=r.ev hx;have O:=r.ev W;simp only[Qe,QM] at Y O;obtain⟨_,V4,S2,aa,J,ab,U⟩:=Y;rw[hb] at J;cases J;have U:=U hc.1;refine⟨rfl,Qp r (v:=.pointer (some ⟨φ tk,k0*S'+(f+k.toNat*i.size),none⟩)) ?_ ?_⟩
    ·simp[execOp,ho,Instr.indexAt,O,asIntOf,run_underlying ht,U,Instr.sureAddr,hc.2.1,hc.2.2,Q9 hi,Addr.add_lit,Nat.add_assoc]
    ·simp only[Qe];exact⟨rfl,ty,S',es,hb,by omega,fun _=>rfl⟩
   ·cases G
  ·cases G
 ·cases G
def XG(P:Program)(T:Nat→Option AV)(h:QN)(s:TypeId)(x:Operand)(f:Nat):Option KN :=
 match P.underlying s,Zo T x with
|some (.struct fields),some (.vptr tk n k g) =>
  match fields[f]?,h tk with
 |some G,some (.vec _ _ es) =>
   match P.info? G.type with
  |some i=>if i.size=0 then none else if n=es.length then some (.vptr tk n k (g+G.offset),none,[tk]) else none
  |none=>none
 |_,_=>none
|_,_=>none
theorem qz(r:Zn φ M0 N D T h a w){s:TypeId}{f:Nat}{u:KN}(Y:o.op=.fieldAddr s x f)(G:XG P T h s x f=some u):u.2.1=none∧Yield P o φ M0 h a w u.1 h:=by
 unfold XG at G;split at G
 ·rename_i fields tk n k g hs hx;split at G
  ·rename_i fl ty S es hf hb;split at G
   ·rename_i i hi;split at G
    ·cases G
    ·rename_i U;split at G
     ·rename_i Z;simp only[QW] at G;subst G;have W:=r.ev hx;simp only[Qe] at W;obtain⟨_,V4,S2,aa,J,ab,O⟩:=W;rw[hb] at J;cases J;have O:=O Z;refine⟨rfl,Qp r (v:=.pointer (some ⟨φ tk,k*S+(g+fl.offset),none⟩)) ?_ ?_⟩
      ·simp[execOp,Y,Instr.fieldAt,run_underlying hs,hf,O,Instr.sureAddr,fieldPlace,Q9 hi,U,Addr.add_lit,Nat.add_assoc]
      ·simp only[Qe];exact⟨rfl,ty,S,es,hb,by omega,fun _=>rfl⟩
     ·cases G
   ·cases G
  ·cases G
 ·cases G
def Ii(P:Program)(T:Nat→Option AV)(h:QN)(ty:TypeId)(x:Operand):Option KN :=
 match P.underlying ty,P.info? ty,Zo T x with
|some d,some i,some (.vptr tk n k f) =>
  match h tk with
 |some (.vec _ _ es) =>
   if n=es.length then
    match es[k]? with
   |some e =>
     if Fq d then(if f+i.size≤e.length then some (.agg (((e.drop f).take i.size).map .p),none,[tk]) else none)
     else match e[f]? with|some c=>some (.p c,none,[tk])|none=>none
   |none=>none
   else none
 |_=>none
|_,_,_=>none
theorem eD(r:Zn φ M0 N D T h a w){u:KN}(ho:o.op=.load ty x)(G:Ii P T h ty x=some u):u.2.1=none∧Yield P o φ M0 h a w u.1 h:=by
 unfold Ii at G;split at G
 ·rename_i d i tk n k f hd hi hx;split at G
  ·rename_i tb S es hb;split at G
   ·rename_i hn;split at G
    ·rename_i e hk;have h2:=r.ev hx;simp only[Qe] at h2;obtain⟨_,V4,S2,aj,ab,al,hv⟩:=h2;rw[hb] at ab;cases ab;have hv:=hv hn;obtain⟨c,cap,hw,ai,af,ah,hS,ak,ac⟩:=r.hp.blk tk _ hb;have ae:e.length=S:=hS e (List.mem_of_getElem? hk)
     have J:∀f Z,e[f]?=some Z→∃v,w.cell? ⟨φ tk,k*S+f,none⟩=some v∧Qe φ h w (MM φ h M0) (.p Z) v:=by
      intro f Z O;have hf:f<S:=by rw[←ae];exact(CS.1 O).1
      have Y:=Dn hS hk hf;rw[O] at Y;obtain⟨v,U,h5⟩:=UE ac (i:=k*S+f) (x:=.p Z) (by rw[List.getElem?_map,Y];rfl);refine⟨v,?_,h5⟩;rw[Kh hw];rw[List.getElem?_take] at U;split at U
      ·simpa using U
      ·cases U
     split at G
     ·rename_i W;split at G
      ·rename_i ad;simp only[QW] at G;subst G
       have aa:∀(m:Nat) (g:Nat),g+m≤e.length→∃l:List Value,l.length=m∧(∀j v,l[j]?=some v→w.cell? ⟨φ tk,k*S+g+j,none⟩=some v)∧Qi φ h w (MM φ h M0) (((e.drop g).take m).map .p) l:=by
        intro m
        induction m with
       |zero=>intro g _;exact⟨[],rfl,by simp,by simp[Qi]⟩
       |succ m ih =>
         intro g hg;have hlt:g<e.length:=by omega
         obtain⟨v,Y,U⟩:=J g e[g] (List.getElem?_eq_getElem hlt);obtain⟨l,q1,q2,q3⟩:=ih (g+1) zo;refine⟨v::l,by simp[q1],fun j u hj=>?_,?_⟩
         ·cases j with
         |zero=>simp at hj;subst hj;simpa using Y
         |succ j=>have:=q2 j u (by simpa using hj);rwa [show k*S+(g+1)+j=k*S+g+(j+1) from by omega] at this
         ·rw[List.drop_eq_getElem_cons hlt];simp only[List.take_succ_cons,Yy,Qi];exact⟨v,l,rfl,U,q3⟩
       obtain⟨l,q1,q2,q3⟩:=aa i.size f ad;refine⟨rfl,Qp r (v:=.agg l.toArray) ?_ (by simp only[Qe];exact⟨l,rfl,q3⟩)⟩;have:=Dj (w:=w) (r:=φ tk) (off:=k*S+f) hd hi W l q1 q2;simp[execOp,ho,Instr.loadAt,hv,Instr.sureAddr,this]
      ·cases G
     ·rename_i W;split at G
      ·rename_i Z O;simp only[QW] at G;subst G;obtain⟨v,Y,U⟩:=J f Z O;refine⟨rfl,Qp r (v:=v) ?_ U⟩;have:=Dk (P:=P) (w:=w) (r:=φ tk) (off:=k*S+f) hd (by simpa using W) Y;simp[execOp,ho,Instr.loadAt,hv,Instr.sureAddr,this]
      ·cases G
    ·cases G
   ·cases G
  ·cases G
 ·cases G
def Dp(P:Program)(T:Nat→Option AV)(h:QN)(ty:TypeId)(x y:Operand):Option KN :=
 match P.info? ty,Zo T x,Zo T y with
|some i,some (.vptr tk n k f),some v =>
  match h tk,cellsOf v with
 |some (.vec tb S es),some G =>
   match LB G,es[k]? with
  |some ps,some e=>if n=es.length∧G.length=i.size∧f+ps.length≤e.length then some (.p (.val undef),some (tk,.vec tb S (es.set k (e.take f++ps++e.drop (f+ps.length)))),[tk]) else none
  |_,_=>none
 |_,_=>none
|_,_,_=>none
theorem Qhj(A B C:List α)(j:Nat):(A++B++C)[j]?=if j<A.length then A[j]? else if j-A.length<B.length then B[j-A.length]? else C[j-A.length-B.length]?:=by
 rw[List.append_assoc];by_cases J:j<A.length
 ·rw[if_pos J,List.getElem?_append_left J]
 ·rw[if_neg J,List.getElem?_append_right zo];by_cases G:j-A.length<B.length
  ·rw[if_pos G,List.getElem?_append_left G]
  ·rw[if_neg G,List.getElem?_append_right zo]
theorem Dq{M:ZK}:∀{xs:List AV} {ys:List PV} {l:List Value},LB xs=some ys→Qi φ h w M xs l→Qi φ h w M (ys.map .p) l
|[],ys,l,G,J=>by simp only[LB,QW] at G;subst G;simpa [Qi] using J
|x::xs,ys,l,G,J=>by
  simp only[LB] at G;split at G
  ·rename_i y aa W O;simp only[QW] at G;subst G;simp only[Qi] at J;obtain⟨v,Y,rfl,Z,U⟩:=J;simp only[Yy,Qi];refine⟨v,Y,rfl,?_,Dq O U⟩;simp only[Qe];exact wy W Z
  ·cases G
theorem dB(r:Zn φ M0 N D T h a w){u:KN}(ho:o.op=.store ty x y)(O:Dp P T h ty x y=some u):Yield P o φ M0 h a w u.1 (ap h u.2.1):=by
 unfold Dp at O;split at O
 ·rename_i i tk n k f v hi hx hy;have h2:=r.ev hx;have h3:=r.ev hy;simp only[Qe] at h2;split at O
  ·rename_i tb S es vs hb av;split at O
   ·rename_i ps e an hk;split at O
    ·rename_i hc;obtain⟨hn,a7,a6⟩:=hc;simp only[QW] at O;subst O;obtain⟨_,V4,S2,bb,ad,bd,J⟩:=h2;rw[hb] at ad;cases ad;have J:=J hn;obtain⟨c,cap,hw,aj,Z,ac,hS,ah,aa⟩:=r.hp.blk tk _ hb;have bc:e.length=S:=hS e (List.mem_of_getElem? hk);obtain⟨h4,h5,h6⟩:=VE av h3;have ax:=ZO h4;have h7:=Dq an h4;have af:=ZO h7;simp only[Jd] at af;have ak:k<es.length:=(CS.1 hk).1;have ba:k*S+S≤es.length*S:=by have:(k+1)*S≤es.length*S:=Nat.mul_le_mul_right _ ak;rw[Nat.add_mul] at this;omega
     have a8:es.length*S≤c.size:=by rw[aj];exact Nat.mul_le_mul_right _ Z
     have W:k*S+f+(a.eval y).cells.toList.length≤c.size:=by omega
     have ai:=run_storeCells_at P (φ tk) (k*S+f) tb (a.eval y).cells.toList 0 c w hw (by simpa using W) h5;simp only[Nat.add_zero] at ai;have hne:(e.take f++ps++e.drop (f+ps.length)).length=S:=by simp;omega
     have ay:=EW hS hk hne
     let C:Array Value:=(c.toList.take (k*S+f)++(a.eval y).cells.toList++c.toList.drop (k*S+f+(a.eval y).cells.toList.length)).toArray
     have al:C.size=c.size:=by simp[C] at W ⊢;omega
     have az:=ZA hS
     have aq:e=(es.flatten.drop (k*S)).take S:=by
      apply List.ext_getElem?;intro j;by_cases hj:j<S
      ·rw[List.getElem?_take,if_pos hj,List.getElem?_drop,Dn hS hk hj]
      ·rw[List.getElem?_eq_none zo,List.getElem?_eq_none (by simp;omega)]
     have ae:Qi φ h w (MM φ h M0) ((es.set k (e.take f++ps++e.drop (f+ps.length))).flatten.map .p) (C.toList.take ((es.set k (e.take f++ps++e.drop (f+ps.length))).length*S)):=by
      have e1:(es.set k (e.take f++ps++e.drop (f+ps.length))).flatten=es.flatten.take (k*S+f)++ps++es.flatten.drop (k*S+f+ps.length):=by
       rw[ay,aq];rw[List.take_take,Nat.min_eq_left zo,List.drop_take,List.drop_drop];have e2:es.flatten.take (k*S)++(es.flatten.drop (k*S)).take f=es.flatten.take (k*S+f):=by rw[List.take_add]
       have e3:(es.flatten.drop (k*S+(f+ps.length))).take (S-(f+ps.length))++es.flatten.drop (k*S+S)=es.flatten.drop (k*S+f+ps.length):=by
        have:=List.take_append_drop (S-(f+ps.length)) (es.flatten.drop (k*S+(f+ps.length)));rw[List.drop_drop] at this;rw[show k*S+(f+ps.length)+(S-(f+ps.length))=k*S+S from by omega] at this;rw[this,Nat.add_assoc]
       rw[←e2,←e3];simp[List.append_assoc]
      rw[e1,List.length_set]
      have e4:C.toList.take (es.length*S)=(c.toList.take (es.length*S)).take (k*S+f)++(a.eval y).cells.toList++(c.toList.take (es.length*S)).drop (k*S+f+(a.eval y).cells.toList.length):=by
       apply List.ext_getElem?;intro j;have am:(c.toList.take (k*S+f)).length=k*S+f:=by simp;omega
       have Y:((c.toList.take (es.length*S)).take (k*S+f)).length=k*S+f:=by simp;omega
       rw[List.getElem?_take];have hB:(c.toList.take (es.length*S)).length=es.length*S:=by simp;omega
       by_cases hj:j<es.length*S
       ·rw[if_pos hj];simp only[C];rw[Qhj,Qhj,am,Y];by_cases G:j<k*S+f
        ·rw[if_pos G,if_pos G,List.getElem?_take,if_pos G,List.getElem?_take,if_pos G,List.getElem?_take,if_pos hj]
        ·rw[if_neg G,if_neg G];by_cases U:j-(k*S+f)<(a.eval y).cells.toList.length
         ·rw[if_pos U,if_pos U]
         ·rw[if_neg U,if_neg U,List.getElem?_drop,List.getElem?_drop,List.getElem?_take,if_pos zo]
       ·rw[if_neg hj,List.getElem?_eq_none];rw[Vv,Vv,Y,GV,hB];omega
      rw[e4];have au:ps.length=(a.eval y).cells.toList.length:=af;simp only[List.map_append,List.map_take,List.map_drop];rw[←au];exact Zz (Zz (UF _ aa) h7) (UG _ aa)
     obtain⟨E,X⟩:=EX (φ:=φ) (h:=h) (w:=w) (M0:=M0) (es':=es.set k (e.take f++ps++e.drop (f+ps.length))) (c':=C) hb hw zq al r.hp;have ab:(w.setRow (φ tk) C).heap[φ tk]?=some (.cells C tb (0,0)):=setRow_heap w _ c C tb _ hw
     have hH:=Ih (c':=C) (cap:=cap) hb r.hp E X (fun _ _=>rfl) (.inl rfl) (fun d hd ao=>setRow_other w _ _ C (fun e=>ao (r.hp.inj d tk hd (by rw[hb];simp) e))) ab (by rw[al,aj]) (by simpa using Z) ac
      (fun e' ar=>by rcases List.mem_or_eq_of_mem_set ar with h8|h8;exact hS e' h8;rw[h8];exact hne)
      (fun v J=>by
       simp only[C,List.mem_append] at J;rcases J with(J|J)|J
       ·exact ah v (List.mem_of_mem_take J)
       ·exact h5 v J
       ·exact ah v (List.mem_of_mem_drop J)) ae
     refine⟨.skip,undef,_,φ,?_,.inr ⟨rfl,rfl⟩,by simp[Qe,QM],hH,E,X⟩;have aw:(a.eval y).cells.size=i.size:=by simp at ax;omega
     simp[execOp,ho,Instr.storeAt,J,Instr.sureAddr,storeVar,Q9 hi,aw,ai,C]
    ·cases O
   ·cases O
  ·cases O
 ·cases O
def uM(P:Program)(T:Nat→Option AV)(h:QN)(t:TypeId)(x:Operand):Option KN :=
 match P.underlying t,Zo T x with
|some (.slice _),some (.vsl _ tk n)=>match h tk with|some (.vec _ _ es)=>if n=es.length then some (.p (.val (.int .i64 n)),none,[tk]) else none|_=>none
|some (.slice _),some .vnil=>some (.p (.val (.int .i64 0)),none,[])
|_,_=>none
theorem QbS(r:Zn φ M0 N D T h a w){t:TypeId}{u:KN}(Z:o.op=.call ⟨.builtin .len,#[x],#[t]⟩)(G:uM P T h t x=some u):u.2.1=none∧Yield P o φ M0 h a w u.1 h:=by
 unfold uM at G;split at G
 ·rename_i e S tk n U Y;split at G
  ·rename_i ty S' es hb;split at G
   ·rename_i hn;simp only[QW] at G;subst G;have J:=r.ev Y;simp only[Qe] at J;obtain⟨_,V4,aa,O,ab,W⟩:=J;rw[hb] at O;cases O;obtain⟨cap,c,W,_⟩:=W hn;refine⟨rfl,Qp r (v:=.int .i64 n) ?_ (by simp[Qe,QM])⟩;simp[execOp,Z,resolve,invoke,builtin,Builtin.len_,run_underlying U,W,goInt]
   ·cases G
  ·cases G
 ·rename_i e U Y;simp only[QW] at G;subst G;have J:=r.ev Y;simp only[Qe] at J;refine⟨rfl,Qp r (v:=.int .i64 0) ?_ (by simp[Qe,QM])⟩;simp[execOp,Z,resolve,invoke,builtin,Builtin.len_,run_underlying U,J,goInt]
 ·cases G
end
section
variable {P:Program}{o:Oper}{φ:Nat→Nat}{M0:ZK}{N:Nat}{D:DB}{T:Nat→Option AV}{h:QN}{a:Act}{w:World}
def R9:List Value→Bool|[]=>true|v::l=>v.oneCell'&&R9 l
theorem Ta:∀{l:List Value},R9 l=true→∀v∈l,v.oneCell'=true
|[],_,v,G=>by simp at G
|x::l,J,v,G=>by
  simp only[R9,ZG] at J;rcases List.mem_cons.1 G with rfl|G
  ·exact J.1
  ·exact Ta J.2 v G
theorem qA{z:Array Value}(G:v∈(Builtin.zeroCells z n).toList)(J:0<z.size):v∈z.toList:=by
 simp only[Builtin.zeroCells,Array.toList_map,List.mem_map] at G;obtain⟨k,_,rfl⟩:=G;have:k%z.size<z.size:=Nat.mod_lt _ J;rw[getElem!_pos z _ this];simp
theorem Tc{M:ZK}:∀{cs:List PV} {l:List Value},l.length=cs.length→(∀(j:Nat) c u,cs[j]?=some c→l[j]?=some u→QM w M c u)→Qi φ h w M (cs.map .p) l
|[],l,G,_=>by simp at G;subst G;simp[Qi]
|c::cs,[],G,_=>by simp at G
|c::cs,u::l,G,J=>by
  simp only[Yy,Qi];refine⟨u,l,rfl,?_,Tc (by simpa using G) (fun j c' W U O=>J (j+1) c' W (by simpa using U) (by simpa using O))⟩;simp only[Qe];exact J 0 c u zq zq
def Td(P:Program)(T:Nat→Option AV)(h:QN)(dst:Option Tmp)(t:TypeId)(s x:Operand):Option KN :=
  match P.underlying t,Zo T s,Zo T x with
 |some (.slice e),some sv,some xv =>
    match P.info? e with
   |some i =>
      match i.zero,Mo i.size xv with
     |some z,some es' =>
        if z.cells.size=i.size∧0<i.size∧R9 z.cells.toList=true then
          match sv with
         |.vnil =>
            if es'=[] then some (.vnil,none,[]) else
            (match dst with
            |some d=>if h d=none∧es'.length*i.bytes≤140737488355328∧es'.length≤140737488355328 then some (.vsl i.size d es'.length,some (d,.vec e i.size es'),[d]) else none
            |none=>none)
         |.vsl S tk n =>
            (match h tk with
            |some (.vec ty G es) =>
               if ty=e∧G=S∧S=i.size∧n=es.length∧(es.length+es'.length)*i.bytes≤140737488355328∧es.length+es'.length≤140737488355328 then
                 if es'=[] then some (.vsl S tk n,some (tk,.vec e S es),[tk]) else
                 some (.vsl S tk (n+es'.length),some (tk,.vec e S (es++es')),[tk]) else none
            |_=>none)
         |_=>none
        else none
     |_,_=>none
   |none=>none
 |_,_,_=>none
theorem uN(r:Zn φ M0 N D T h a w){t:TypeId}{s:Operand}{u:KN}(ho:o.op=.call ⟨.builtin .append,#[s,x],#[t,t]⟩)(J:Td P T h o.dst t s x=some u):Yield P o φ M0 h a w u.1 (ap h u.2.1):=by
 unfold Td at J;split at J;rotate_left
 ·cases J
 rename_i e sv xv ht hs hx;split at J;rotate_left
 ·cases J
 rename_i i hi;split at J;rotate_left
 ·cases J
 rename_i z es' hz bp;split at J;rotate_left
 ·cases J
 rename_i az;refine Yield.of_lift r 1 fun φ r E0 X0 hC=>?_
 have ae:=Ie bp (r.ev hx);have af:=r.ev hs;have ba:∀n,∀v∈(Builtin.zeroCells z.cells n).toList,v.oneCell'=true:=fun n v U=>Ta az.2.2 v (qA U zo)
 split at J
 ·simp only[Qe] at af;split at J
  ·rename_i a8;subst a8;simp only[QW] at J;subst J;simp only[ap];refine Qp r (v:=.slice none 0 0) ?_ (by simp[Qe]);simp only[QM] at ae;rcases ae with⟨rr,oo,cap,h1,_⟩|⟨_,q,cap,h1⟩
   ·exact KL ho (by rw[af,h1];exact YS ht hi _ _ _ _ _ zq)
   ·exact KL ho (by rw[af,h1];exact YS ht hi _ _ _ _ _ zq)
  ·rename_i hne;split at J;rotate_left
   ·cases J
   rename_i d bq;split at J;rotate_left
   ·cases J
   rename_i hc;obtain⟨hd,bf,bh⟩:=hc;simp only[QW] at J;subst J;simp only[ap];have ax:es'≠[]:=fun e=>hne e
   obtain⟨rr,oo,cap,l,h1,h2,h3,h4,h5,h6,h7,h8⟩:=XF ae ax;have ah:0<es'.length:=List.length_pos_iff.2 ax;have aa:=run_append_nil (P:=P) w t o.type e i z ht hi hz ⟨rr,oo,none⟩ es'.length cap l (by rw[h5]) (fun j v hj=>by rw[Addr.add_lit];exact h6 j v hj) ah zo zo;have an:=grownCap_ge w es'.length 0 e;have ar:grownCap w es'.length 0 e≤maxLen:=grownCap_le_maxLen w es'.length 0 e (by unfold maxLen;omega);generalize grownCap w es'.length 0 e=gc at *
   let C:Array Value:=l.toArray++Builtin.zeroCells z.cells (gc-es'.length)
   let w':World:=w.drew.alloc (.cells C e)
   obtain⟨E,X⟩:=Xg (w:=w) (w':=w') (o:=.cells C e) (b:=d) (k:=.vec e i.size es') (φ:=φ) (h:=h) (M0:=M0) rfl rfl rfl rfl hd r.hp hC
   have Z:C.size=gc*i.size:=by
    simp only[C,Array.size_append,List.size_toArray,size_zeroCells,az.1,h5];rw[←Nat.add_mul];congr 1;omega
   have G:w'.heap[w.heap.size]?=some (.cells C e (0,0)):=by show(w.heap.push _)[w.heap.size]?=_;simp
   have al:∀v∈C.toList,v.oneCell'=true:=by
    intro v U;simp only[C,Array.toList_append,List.mem_append] at U;rcases U with U|U
    ·exact h7 v U
    ·exact ba _ v U
   have ak:C.toList.take (es'.length*i.size)=l:=by
    simp only[C,Array.toList_append];rw[←h5,List.take_left]
   have bg:Qi φ h w (MM φ h M0) (es'.flatten.map .p) l:=Tc (by rw[h5,ZA h3]) h8;have hH:ZN (Qx φ d w.heap.size) (upd h d (.vec e i.size es')) w' M0:=Xh rfl hd r.hp hC E X ⟨C,gc,G,Z,an,ar,h3,al,by rw[ak];exact(QH (E.keeps M0) X).2 _ _ bg⟩;refine⟨_,.slice (some ⟨w.heap.size,0,none⟩) es'.length gc,w',Qx φ d w.heap.size,KL ho (by rw[af,h1];exact aa),.inl rfl,?_,hH,E,X⟩;simp only[Qe];exact⟨rfl,e,es',by simp[upd],Kt _,fun _=>⟨gc,C,by simp[Qx],by simpa [Qx] using G,Z,an,ar⟩⟩
 ·rename_i S tk n;split at J;rotate_left
  ·cases J
  rename_i ty S' es W;simp only[Qe] at af;obtain⟨bi,V4,bv,ay,bd,ad⟩:=af;rw[W] at ay;cases ay;split at J;rotate_left
  ·cases J
  rename_i hc;obtain⟨rfl,_,rfl,rfl,bf,bh⟩:=hc;obtain⟨O,c0,a7,aq,ab,au,aj⟩:=ad rfl;obtain⟨c1,bt,be,bu,bo,bn,bj,av,am⟩:=r.hp.blk tk _ W;rw[aq] at be;cases be;split at J
  ·rename_i aw;simp only[QW] at J;subst J;simp only[ap]
   have bb:upd h tk (.vec ty i.size es)=h:=by
    funext b;simp only[upd];split
    ·rename_i e;rw[←e,W]
    ·rfl
   rw[bb];refine Qp r (v:=a.eval s) ?_ (by simp only[Qe];exact⟨bi,ty,es,W,bd,ad⟩)
   have bm:∃q c,a.eval x=.slice q 0 c:=by
    subst aw;simp only[QM] at ae;rcases ae with⟨rr,oo,cap,h1,_⟩|⟨_,q,cap,h1⟩
    ·exact⟨_,_,by simpa using h1⟩
    ·exact⟨q,cap,h1⟩
   obtain⟨q,c,hq⟩:=bm;exact KL ho (by rw[hq,a7];exact YS ht hi _ _ _ _ _ au)
  ·rename_i aw;simp only[QW] at J;subst J;simp only[ap];obtain⟨rr,oo,cap,l,h1,h2,h3,h4,h5,h6,h7,h8⟩:=XF ae aw;have ah:0<es'.length:=List.length_pos_iff.2 aw;have ao:Qi φ h w (MM φ h M0) (es'.flatten.map .p) l:=Tc (by rw[h5,ZA h3]) h8;have ai:∀e∈es++es',e.length=i.size:=fun e J=>(List.mem_append.1 J).elim (bj e) (h3 e)
   have br:es.length*i.size≤c0.size:=by rw[ab];exact Nat.mul_le_mul_right _ au
   by_cases Y:es.length+es'.length≤O
   ·have bc:es.length*i.size+l.length≤c0.size:=by rw[h5,ab,←Nat.add_mul];exact Nat.mul_le_mul_right _ Y
    have aa:=run_append_room (P:=P) w t o.type ty i ht hi (φ tk) es.length O c0 aq ⟨rr,oo,none⟩ es'.length cap l (by rw[h5]) (fun j v hj=>by rw[Addr.add_lit];exact h6 j v hj) h7 Y bc
    let C:Array Value:=(c0.toList.take (es.length*i.size)++l++c0.toList.drop (es.length*i.size+l.length)).toArray
    have bk:(c0.toList.take (es.length*i.size)).length=es.length*i.size:=by simp;omega
    have Z:C.size=c0.size:=by simp[C];omega
    obtain⟨E,X⟩:=EX (φ:=φ) (h:=h) (w:=w) (M0:=M0) (es':=es++es') (c':=C) W aq zq Z r.hp;have G:(w.setRow (φ tk) C).heap[φ tk]?=some (.cells C ty (0,0)):=setRow_heap w _ c0 C ty _ aq
    have al:∀v∈C.toList,v.oneCell'=true:=by
     intro v U;simp only[C,List.mem_append] at U;rcases U with(U|U)|U
     ·exact av v (List.mem_of_mem_take U)
     ·exact h7 v U
     ·exact av v (List.mem_of_mem_drop U)
    have ak:C.toList.take ((es++es').length*i.size)=c0.toList.take (es.length*i.size)++l:=by
     simp only[C];have:(es++es').length*i.size=(c0.toList.take (es.length*i.size)++l).length:=by rw[Vv,Vv,bk,h5,Nat.add_mul]
     rw[this,List.take_left]
    have hH:ZN φ (upd h tk (.vec ty i.size (es++es'))) (w.setRow (φ tk) C) M0 :=
     Ih W r.hp E X (fun _ _=>rfl) (.inl rfl) (fun d hd bl=>setRow_other w _ _ C (fun e=>bl (r.hp.inj d tk hd (by rw[W];simp) e))) G (by rw[Z,ab]) (by simpa using Y) aj ai al
      (by rw[ak,List.flatten_append,List.map_append];exact Zz am ao)
    refine⟨_,.slice (some ⟨φ tk,0,none⟩) (es.length+es'.length) O,_,φ,KL ho (by rw[a7,h1];exact aa),.inl rfl,?_,hH,E,X⟩;simp only[Qe];exact⟨rfl,ty,es++es',by simp[upd],by simp,fun _=>⟨O,C,rfl,G,by rw[Z,ab],Y,aj⟩⟩
   ·have a6:(c0.toList.take (es.length*i.size)).length=es.length*i.size:=by simp;omega
    have aa:=run_append_grow (P:=P) w t o.type ty i z ht hi hz ⟨φ tk,0,none⟩ es.length O (c0.toList.take (es.length*i.size)) a6 (fun j v hj=>by
      rw[Addr.add_lit,Nat.zero_add,Kh aq];rw[List.getElem?_take] at hj;split at hj
      ·simpa using hj
      ·cases hj) ⟨rr,oo,none⟩ es'.length cap l (by rw[h5])
     (fun j v hj=>by rw[Addr.add_lit];exact h6 j v hj) zo zo (growslice_fits zo bf)
    have an:=grownCap_ge w (es.length+es'.length) O ty;have ar:grownCap w (es.length+es'.length) O ty≤maxLen:=grownCap_le_maxLen w _ O ty (by unfold maxLen;omega);generalize grownCap w (es.length+es'.length) O ty=gc at *
    let C:Array Value:=(c0.toList.take (es.length*i.size)).toArray++l.toArray++Builtin.zeroCells z.cells (gc-(es.length+es'.length))
    let w':World:=w.drew.alloc (.cells C ty)
    obtain⟨E,X⟩:=kL (w:=w) (w':=w') (ob:=.cells C ty) (φ:=φ) (h:=h) (M0:=M0) (es':=es++es') W (by simp;exact ah) rfl rfl rfl rfl r.hp hC
    have Z:C.size=gc*i.size:=by
     simp only[C,Array.size_append,List.size_toArray,size_zeroCells,az.1,h5,a6];rw[←Nat.add_mul,←Nat.add_mul];congr 1;omega
    have G:w'.heap[w.heap.size]?=some (.cells C ty (0,0)):=by show(w.heap.push _)[w.heap.size]?=_;simp
    have ac:Qx φ tk w.heap.size tk=w.heap.size:=by simp[Qx]
    have al:∀v∈C.toList,v.oneCell'=true:=by
     intro v U;simp only[C,Array.toList_append,List.mem_append] at U;rcases U with(U|U)|U
     ·exact av v (List.mem_of_mem_take U)
     ·exact h7 v U
     ·exact ba _ v U
    have ak:C.toList.take ((es++es').length*i.size)=c0.toList.take (es.length*i.size)++l:=by
     simp only[C,Array.toList_append];have:(es++es').length*i.size=(c0.toList.take (es.length*i.size)++l).length:=by rw[Vv,Vv,a6,h5,Nat.add_mul]
     rw[this,List.take_left]
    have hH:ZN (Qx φ tk w.heap.size) (upd h tk (.vec ty i.size (es++es'))) w' M0 :=
     Ih W r.hp E X (fun b hb=>by simp[Qx,Ne.symm hb]) (.inr ⟨ac,hC⟩) (fun d hd _=>hC.lt r.hp (w':=w') (by show(w.heap.push _).size≤_;simp) (fun x hx=>by show(w.heap.push _)[x]?=_;rw[Array.getElem?_push,if_neg zo]) hd) (by rw[ac];exact G) Z (by simpa using an) ar ai al
      (by rw[ak,List.flatten_append,List.map_append];exact Zz am ao)
    refine⟨_,.slice (some ⟨w.heap.size,0,none⟩) (es.length+es'.length) gc,w',Qx φ tk w.heap.size,KL ho (by rw[a7,h1];exact aa),.inl rfl,?_,hH,E,X⟩;simp only[Qe];exact⟨rfl,ty,es++es',by simp[upd],by simp,fun _=>⟨gc,C,by rw[ac],by rw[ac];exact G,Z,an,ar⟩⟩
 ·cases J
def EY(P:Program)(T:Nat→Option AV)(h:QN)(dst:Option Tmp)(t:TypeId)(x y:Operand):Option KN :=
 match P.underlying t,Zo T x,Zo T y,dst with
|some (.slice e),some (.p (.val (.int G l))),some (.p (.val (.int J c))),some d =>
  match P.info? e with
 |some i =>
   match i.zero,h d with
  |some z,none =>
    match LB (z.cells.toList.map AP) with
   |some ps =>
     if z.cells.size=i.size∧0<i.size∧R9 z.cells.toList=true∧ps.length=i.size∧0≤l∧l≤c∧(i.bytes:Int)*c≤281474976710656∧c≤140737488355328 then
      some (.vsl i.size d l.toNat,some (d,.vec e i.size (List.replicate l.toNat ps)),[d])
     else none
   |none=>none
  |_,_=>none
 |none=>none
|_,_,_,_=>none
theorem qB:∀{l:List Value} {ps:List PV},LB (l.map AP)=some ps→Qi φ h w M (ps.map .p) l
|l,ps,G=>Dq G (repAs_ofV l)
where repAs_ofV:∀l:List Value,Qi φ h w M (l.map AP) l
|[]=>by simp[Qi]
|x::l=>by simp only[Yy,Qi];exact⟨x,l,rfl,WS x,repAs_ofV l⟩
theorem TV(f:α→β)(l:List α)(n:Nat):(List.replicate n l).flatten.map f=(List.replicate n (l.map f)).flatten:=by
 induction n with
|zero=>rfl
|succ n G=>simp[List.replicate_succ,G]
theorem eF(r:Zn φ M0 N D T h a w){t:TypeId}{u:KN}(ho:o.op=.makeSlice t x y)(G:EY P T h o.dst t x y=some u):Yield P o φ M0 h a w u.1 (ap h u.2.1):=by
 unfold EY at G;split at G;rotate_left
 ·cases G
 rename_i e kl l kc c d ht hx hy aj;split at G;rotate_left
 ·cases G
 rename_i i hi;split at G;rotate_left
 ·cases G
 rename_i z hz hd;split at G;rotate_left
 ·cases G
 rename_i ps ae;split at G;rotate_left
 ·cases G
 rename_i hc;obtain⟨h1,h2,h3,h4,h5,h6,h7,h8⟩:=hc;simp only[QW] at G;subst G;simp only[ap];refine Yield.of_lift r 1 fun φ r E0 X0 hC=>?_
 have aa:=r.ev hx;have ac:=r.ev hy;simp only[Qe,QM] at aa ac;have Y:=run_make (P:=P) w t e i z ht hi hz kl kc l c h5 h6 h7 zo
 let C:Array Value:=madeCells z.cells (c.toNat*i.size)
 let w':World:=w.alloc (.cells C e)
 have Z:C.toList=(List.replicate c.toNat z.cells.toList).flatten:=by
  have:=CZ z.cells.toList i.size (by simpa using h1) h2 c.toNat;simp only[Array.toArray_toList] at this;rw[←this];simp[C,madeCells,Array.toList_range]
 obtain⟨E,X⟩:=Xg (w:=w) (w':=w') (o:=.cells C e) (b:=d) (k:=.vec e i.size (List.replicate l.toNat ps)) (φ:=φ) (h:=h) (M0:=M0) rfl rfl rfl rfl hd r.hp hC;have J:w'.heap[w.heap.size]?=some (.cells C e (0,0)):=by show(w.heap.push _)[w.heap.size]?=_;simp
 have U:C.size=c.toNat*i.size:=by simp[C,madeCells]
 have af:l.toNat≤c.toNat:=by omega
 have O:c.toNat≤maxLen:=by unfold maxLen;omega
 have ai:∀v∈C.toList,v.oneCell'=true:=by
  intro v W;rw[Z] at W;obtain⟨q,hq,W⟩:=List.mem_flatten.1 W;rw[List.eq_of_mem_replicate hq] at W;exact Ta h3 v W
 have ah:C.toList.take ((List.replicate l.toNat ps).length*i.size)=(List.replicate l.toNat z.cells.toList).flatten:=by
  rw[Z,List.length_replicate,show c.toNat=l.toNat+(c.toNat-l.toNat) from by omega,←List.replicate_append_replicate,List.flatten_append];have:l.toNat*i.size=((List.replicate l.toNat z.cells.toList).flatten).length:=by simp[h1]
  rw[this,List.take_left]
 have ab:Qi φ h w (MM φ h M0) ((List.replicate l.toNat ps).flatten.map .p) ((List.replicate l.toNat z.cells.toList).flatten):=by
  rw[TV];exact Xv (qB ae) _
 have hH:ZN (Qx φ d w.heap.size) (upd h d (.vec e i.size (List.replicate l.toNat ps))) w' M0 :=
  Xh rfl hd r.hp hC E X ⟨C,c.toNat,J,U,by simp;omega,O,fun e' ad=>by rw[List.eq_of_mem_replicate ad];exact h4,ai,by rw[ah];exact(QH (E.keeps M0) X).2 _ _ ab⟩
 refine⟨_,.slice (some ⟨w.heap.size,0,none⟩) l.toNat c.toNat,w',Qx φ d w.heap.size,?_,.inl rfl,?_,hH,E,X⟩
 ·simp[execOp,ho,aa,ac,Y,w',C]
 ·simp only[Qe];exact⟨rfl,e,List.replicate l.toNat ps,by simp[upd],by simp,fun _=>⟨c.toNat,C,by simp[Qx],by simpa [Qx] using J,U,af,O⟩⟩
def uO(P:Program)(h:QN)(dst:Option Tmp)(t:TypeId)(parts:Array (Nat×Operand)):Option KN :=
 match P.underlying t,dst,parts.toList with
|some (.slice e),some d,[] =>
  match P.info? e,h d with
 |some i,none=>some (.vsl i.size d 0,some (d,.vec e i.size []),[d])
 |_,_=>none
|_,_,_=>none
theorem QbT(r:Zn φ M0 N D T h a w){t:TypeId}{u:KN}(ho:o.op=.buildSlice t 0 parts)(J:uO P h o.dst t parts=some u):Yield P o φ M0 h a w u.1 (ap h u.2.1):=by
 unfold uO at J;split at J;rotate_left
 ·cases J
 rename_i e d ht Y U;split at J;rotate_left
 ·cases J
 rename_i i hi Z;simp only[QW] at J;subst J;simp only[ap];refine Yield.of_lift r 1 fun φ r E0 X0 W=>?_
 have O:parts=#[]:=by apply Array.ext';simpa using U
 let w':World:=w.alloc (.cells #[] e)
 obtain⟨E,X⟩:=Xg (w:=w) (w':=w') (o:=.cells #[] e) (b:=d) (k:=.vec e i.size []) (φ:=φ) (h:=h) (M0:=M0) rfl rfl rfl rfl Z r.hp W;have G:w'.heap[w.heap.size]?=some (.cells #[] e (0,0)):=by show(w.heap.push _)[w.heap.size]?=_;simp
 have hH:ZN (Qx φ d w.heap.size) (upd h d (.vec e i.size [])) w' M0 :=
  Xh rfl Z r.hp W E X ⟨#[],0,G,by simp,by simp,by unfold maxLen;omega,by simp,by simp,by simp[Qi]⟩
 refine⟨_,.slice (some ⟨w.heap.size,0,none⟩) 0 0,w',Qx φ d w.heap.size,?_,.inl rfl,?_,hH,E,X⟩
 ·have e2:(Array.range 0).map (fun _=>(default:Value))=#[]:=by apply Array.ext';simp
  subst O;simp only[execOp,ho,Instr.buildSlice,Sem.run_bind,run_underlying ht,Q9 hi,Result.andThen_ok,Nat.zero_mul,if_true,Sem.run_pure];simp[newRow,newObj,Sem.run,w',e2,Instr.fill]
 ·simp only[Qe];exact⟨rfl,e,[],by simp[upd],by simp,fun _=>⟨0,#[],by simp[Qx],by simpa [Qx] using G,by simp,by simp,by unfold maxLen;omega⟩⟩
def nk:Option AV→Bool|some (.vptr _ _ _ _)=>true|some (.vsl _ _ _)=>true|some .vnil=>true|_=>false
variable {T':Nat→Option AV}{h':QN}
theorem P5{t:TypeId}{u:KN}(G:Jv P T h t x ix=some u)(U:Zo T' x=Zo T x)(hi:Zo T' ix=Zo T ix)(O:∀b∈u.2.2,h' b=h b):Jv P T' h' t x ix=some u:=by
 unfold Jv at G ⊢;rw[U,hi];split at G
 ·split at G
  ·rename_i hb J;split at G
   ·rename_i hc;simp only[QW] at G;subst G;simp only[O _ (List.mem_singleton.2 rfl),hb,J];rw[if_pos hc]
   ·cases G
  ·cases G
 ·split at G
  ·rename_i hb J;split at G
   ·rename_i hc;simp only[QW] at G;subst G;simp only[O _ (List.mem_singleton.2 rfl),hb,J];rw[if_pos hc]
   ·cases G
  ·cases G
 ·cases G
theorem P6{t:TypeId}{f:Nat}{u:KN}(G:XG P T h t x f=some u)(O:Zo T' x=Zo T x)(J:∀b∈u.2.2,h' b=h b):XG P T' h' t x f=some u:=by
 unfold XG at G ⊢;rw[O];split at G
 ·split at G
  ·rename_i hf hb;split at G
   ·rename_i hi;split at G
    ·cases G
    ·rename_i U;split at G
     ·rename_i hc;simp only[QW] at G;subst G;simp only[J _ (List.mem_singleton.2 rfl),hb,hf,hi];rw[if_neg U,if_pos hc]
     ·cases G
   ·cases G
  ·cases G
 ·cases G
theorem wz{t:TypeId}{u:KN}(G:Ii P T h t x=some u)(U:Zo T' x=Zo T x)(O:∀b∈u.2.2,h' b=h b):Ii P T' h' t x=some u:=by
 unfold Ii at G ⊢;rw[U];split at G
 ·rename_i d i tk n k f _ _ _;split at G
  ·rename_i ty S es hb
   have J:h' tk=some (.vec ty S es):=by
    rw[←hb];refine O tk ?_;split at G
    ·split at G
     ·split at G
      ·split at G
       ·simp only[QW] at G;subst G;simp
       ·cases G
      ·split at G
       ·simp only[QW] at G;subst G;simp
       ·cases G
     ·cases G
    ·cases G
   simp only[J];exact G
  ·cases G
 ·cases G
theorem kM{t:TypeId}{u:KN}(G:Dp P T h t x y=some u)(Y:Zo T' x=Zo T x)(W:Zo T' y=Zo T y)(U:∀b∈u.2.2,h' b=h b):Dp P T' h' t x y=some u:=by
 unfold Dp at G ⊢;rw[Y,W];split at G
 ·split at G
  ·rename_i hb O;split at G
   ·rename_i hp J;split at G
    ·rename_i hc;simp only[QW] at G;subst G;simp only[U _ (List.mem_singleton.2 rfl),hb,O,hp,J];rw[if_pos hc]
    ·cases G
   ·cases G
  ·cases G
 ·cases G
def dC(T:Nat→Option AV)(h:QN)(x:Operand):Option KN :=
 match Zo T x with
|some (.vptr tk n k f)=>match h tk with
 |some (.vec _ _ es)=>if n=es.length then some (.vptr tk n k f,none,[tk]) else none
 |_=>none
|_=>none
theorem uP{u:KN}(G:dC T h x=some u)(U:Zo T' x=Zo T x)(O:∀b∈u.2.2,h' b=h b):dC T' h' x=some u:=by
 unfold dC at G ⊢;rw[U];split at G
 ·rename_i tk n k f _;split at G
  ·rename_i ty S es hb
   have J:h' tk=some (.vec ty S es):=by
    rw[←hb];refine O tk ?_;split at G
    ·simp only[QW] at G;subst G;simp
    ·cases G
   simp only[J];exact G
  ·cases G
 ·cases G
theorem uQ{t:TypeId}{u:KN}(G:uM P T h t x=some u)(O:Zo T' x=Zo T x)(J:∀b∈u.2.2,h' b=h b):uM P T' h' t x=some u:=by
 unfold uM at G ⊢;rw[O];split at G
 ·split at G
  ·rename_i hb;split at G
   ·rename_i hc;simp only[QW] at G;subst G;simp only[J _ (List.mem_singleton.2 rfl),hb];rw[if_pos hc]
   ·cases G
  ·cases G
 ·exact G
 ·cases G
theorem qC{t:TypeId}{s:Operand}{u:KN}(G:Td P T h dst t s x=some u)(hs:Zo T' s=Zo T s)(Z:Zo T' x=Zo T x)(Y:∀b∈u.2.2,h' b=h b):Td P T' h' dst t s x=some u:=by
 unfold Td at G ⊢;rw[hs,Z];split at G
 ·split at G
  ·split at G
   ·split at G
    ·rename_i U;rw[if_pos U];split at G
     ·split at G
      ·rename_i J;rw[if_pos J];exact G
      ·rename_i J;rw[if_neg J];split at G
       ·rename_i d;split at G
        ·rename_i hc;simp only[QW] at G;subst G;have:h' d=none:=by rw[Y d zq];exact hc.1
         simp only[this];rw[if_pos ⟨trivial,hc.2⟩]
        ·cases G
       ·cases G
     ·rename_i S tk n _;split at G
      ·rename_i ty S' es W
       have O:h' tk=some (.vec ty S' es):=by
        rw[←W];refine Y tk ?_;split at G
        ·split at G
         ·simp only[QW] at G;subst G;simp
         ·simp only[QW] at G;subst G;simp
        ·cases G
       simp only[O];exact G
      ·cases G
     ·cases G
    ·cases G
   ·cases G
  ·cases G
 ·cases G
theorem wB{t:TypeId}{u:KN}(G:EY P T h dst t x y=some u)(W:Zo T' x=Zo T x)(U:Zo T' y=Zo T y)(O:∀b∈u.2.2,h' b=h b):EY P T' h' dst t x y=some u:=by
 unfold EY at G ⊢;rw[W,U];split at G
 ·rename_i d _ _ _;split at G
  ·split at G
   ·rename_i Y J;split at G
    ·rename_i hp;split at G
     ·rename_i hc;simp only[QW] at G;subst G;simp only[O d zq,J,Y,hp];rw[if_pos hc]
     ·cases G
    ·cases G
   ·cases G
  ·cases G
 ·cases G
theorem uR{t:TypeId}{ps:Array (Nat×Operand)}{u:KN}(G:uO P h dst t ps=some u)(O:∀b∈u.2.2,h' b=h b):uO P h' dst t ps=some u:=by
 unfold uO at G ⊢;split at G
 ·rename_i d _ _;split at G
  ·rename_i hi J;simp only[QW] at G;subst G;simp only[O d zq,J,hi]
  ·cases G
 ·cases G
end
theorem QbU(r:Zn φ M0 N D T h a w){u:KN}(U:o.op=.nilCheck x)(G:dC T h x=some u):u.2.1=none∧Yield P o φ M0 h a w u.1 h:=by
 unfold dC at G;split at G
 ·rename_i tk n k f hx;split at G
  ·rename_i ty S es hb;split at G
   ·rename_i W;simp only[QW] at G;subst G;have O:=r.ev hx;refine⟨rfl,Qp r (v:=a.eval x) ?_ O⟩;simp only[Qe] at O;obtain⟨_,V4,S2,Y,J,aa,hv⟩:=O;rw[hb] at J;cases J;have Z:=hv W;simp[execOp,U,Z]
   ·cases G
  ·cases G
 ·cases G
section
variable {P:Program}{o:Oper}{φ:Nat→Nat}{M0:ZK}{N:Nat}{D:DB}{T:Nat→Option AV}{h:QN}{a:Act}{w:World}
def C8(P:Program)(T:Nat→Option AV)(t:TypeId)(x ix:Operand):Option KN :=
 match P.underlying t,Zo T x,Zo T ix with
|some .string,some (.p (.val (.string s))),some (.p (.val (.int _ n))) =>
  if 0≤n then(match (Xf s)[n.toNat]? with|some b=>some (.p (.val (.int .u8 b.toNat)),none,[])|none=>none) else none
|_,_,_=>none
theorem dD(r:Zn φ M0 N D T h a w){t:TypeId}{u:KN}(Y:o.op=.index t x ix)(G:C8 P T t x ix=some u):u.2.1=none∧Yield P o φ M0 h a w u.1 h:=by
 unfold C8 at G;split at G
 ·rename_i s k n W hx hi;split at G
  ·rename_i Z;split at G
   ·rename_i b hb;simp only[QW] at G;subst G;have O:=r.ev hx;have U:=r.ev hi;simp only[Qe,QM] at O U;refine⟨rfl,Qp r (v:=.int .u8 b.toNat) ?_ (by simp[Qe,QM])⟩
    have J:s[n.toNat]?=some b:=by
     simp only[Xf] at hb;rw[←hb];rw[Array.getElem?_toList];rfl
    simp[execOp,Y,Instr.index,O,U,asIntOf,run_underlying W,Z,J]
   ·cases G
  ·cases G
 ·cases G
def wC(P:Program)(T:Nat→Option AV)(t:TypeId)(x:Operand):Option KN :=
 match P.underlying t,Zo T x with
|some .string,some (.p (.val (.string s)))=>some (.p (.val (.int .i64 (Xf s).length)),none,[])
|_,_=>none
theorem QbV(r:Zn φ M0 N D T h a w){t:TypeId}{u:KN}(O:o.op=.call ⟨.builtin .len,#[x],#[t]⟩)(G:wC P T t x=some u):u.2.1=none∧Yield P o φ M0 h a w u.1 h:=by
 unfold wC at G;split at G
 ·rename_i s U W;simp only[QW] at G;subst G;have J:=r.ev W;simp only[Qe,QM] at J;refine⟨rfl,Qp r (v:=.int .i64 s.size) ?_ ?_⟩
  ·simp only[execOp,O,resolve,invoke,builtin,Builtin.len_,Sem.run_bind,Sem.run_pure,Result.andThen_ok];simp[run_underlying U,J,goInt]
  ·simp only[Qe,QM];rfl
 ·cases G
def Dr(P:Program)(ty:TypeId)(l:List Value)(off:Nat):Option Value :=
 match P.underlying ty,P.info? ty with
|some d,some i=>if Fq d then(if off+i.size≤l.length then some (.agg ((l.drop off).take i.size).toArray) else none) else l[off]?
|_,_=>none
def eqV(P:Program):Nat→TypeId→Value→Value→Option Bool
|0,_,_,_=>none
|d+1,t,x,y =>
  match P.underlying t with
 |some .bool=>match x,y with|.bool a,.bool b=>some (a==b)|_,_=>none
 |some (.int _)=>match x,y with|.int k a,.int k' b=>if k=k' then some (Ql a b) else none|_,_=>none
 |some .string=>match x,y with|.string a,.string b=>some (Qs (Xf a) (Xf b))|_,_=>none
 |some (.struct fields)=>match x,y with|.agg xs,.agg ys=>if P.stoodInHeld t then none else eqFs P d xs.toList ys.toList fields.toList|_,_=>none
 |_=>none
where eqFs (P:Program) (d:Nat) (xs ys:List Value):List Field→Option Bool
|[]=>some true
|f::G =>
  if f.name="_" then eqFs P d xs ys G else
  match Dr P f.type xs f.offset,Dr P f.type ys f.offset with
 |some a,some b=>match eqV P d f.type a b,eqFs P d xs ys G with|some p,some q=>some (p&&q)|_,_=>none
 |_,_=>none
theorem wD{l:List Value}(G:Dr P ty l off=some v):(part ty l.toArray off).run P w=.ok v w:=by
 unfold Dr at G;split at G
 ·rename_i d i U hi;split at G
  ·rename_i J;split at G
   ·rename_i W;simp only[QW] at G;subst G;simp[part,UI U,J,Q9 hi]
   ·cases G
  ·rename_i J;have O:Fq d=false:=by simpa using J
   simp[part,UI U,O,G]
 ·cases G
theorem kN:∀(d:Nat),(∀(t:TypeId) (x y:Value) (b:Bool),eqV P d t x y=some b→∀D,d≤D→(Op.equalIn D t x y).run P w=.ok b w) ∧
  (∀(xs ys:List Value) (J:List Field) (b:Bool),eqV.eqFs P d xs ys J=some b→∀D,d≤D→(Op.eqFields D xs.toArray ys.toArray J).run P w=.ok b w)
|0=>by
  refine⟨fun t x y b G=>by simp[eqV] at G,?_⟩;intro xs ys J
  induction J with
 |nil=>intro b G D _;simp only[eqV.eqFs,QW] at G;subst G;simp[Op.eqFields]
 |cons f J Z =>
   intro b G D U;simp only[eqV.eqFs] at G;split at G
   ·rename_i W;simp only[Op.eqFields,W,ne_eq,not_true_eq_false,if_false];exact Z b G D U
   ·split at G
    ·simp[eqV] at G
    ·cases G
|d+1=>by
  obtain⟨i1,i2⟩:=kN d
  have j1:∀(t:TypeId) (x y:Value) (b:Bool),eqV P (d+1) t x y=some b→∀D,d+1≤D→(Op.equalIn D t x y).run P w=.ok b w:=by
   intro t x y b G D U;obtain⟨Y,rfl⟩:∃Y,D=Y+1:=⟨D-1,by omega⟩;unfold eqV at G;split at G
   ·rename_i O;split at G
    ·simp only[QW] at G;subst G;simp[Op.equalIn,run_underlying O]
    ·cases G
   ·rename_i k0 O;split at G
    ·rename_i k p k' q;split at G
     ·rename_i hk;simp only[QW] at G;subst G;subst hk;simp[Op.equalIn,run_underlying O,Ql]
     ·cases G
    ·cases G
   ·rename_i O;split at G
    ·rename_i p q;simp only[QW] at G;subst G
     have:(p==q)=Qs (Xf p) (Xf q):=by
      rw[beq_toListBytes,ByteArray.toList_eq,ByteArray.toList_eq];rfl
     simp[Op.equalIn,run_underlying O,this]
    ·cases G
   ·rename_i fields O;split at G
    ·rename_i xs ys;split at G
     ·cases G
     ·rename_i hp;have aa:P.stoodInHeld t=false:=by simpa using hp
      have hf:P.fieldsOf t=fields:=by simp[Program.fieldsOf,O]
      rw[run_equalIn_struct w Y t xs ys (by rw[hf];exact O) aa,hf];have:=i2 xs.toList ys.toList fields.toList b G Y zo;simpa using this
    ·cases G
   ·cases G
  refine⟨j1,?_⟩;intro xs ys J
  induction J with
 |nil=>intro b G D _;simp only[eqV.eqFs,QW] at G;subst G;simp[Op.eqFields]
 |cons f J Z =>
   intro b G D U;simp only[eqV.eqFs] at G;split at G
   ·rename_i W;simp only[Op.eqFields,W,ne_eq,not_true_eq_false,if_false];exact Z b G D U
   ·rename_i W;split at G
    ·rename_i p q hp hq;split at G
     ·rename_i b1 b2 h1 h2;simp only[QW] at G;subst G;simp only[Op.eqFields,ne_eq,W,not_false_eq_true,if_true,Sem.run_bind,wD (w:=w) hp,wD (w:=w) hq,Result.andThen_ok,j1 _ _ _ _ h1 D U];cases b1
      ·simp
      ·simpa using Z b2 h2 D U
     ·cases G
    ·cases G
theorem C9{t:TypeId}{x y:Value}{b:Bool}(h:∀D,4≤D→(Op.equalIn D t x y).run P w=.ok b w):(Op.equal t x y).run P w=.ok b w:=h 10000 zo
theorem Nk{t:TypeId}{x y:Value}{b:Bool}(h:∀D,(Op.equalIn (D+1) t x y).run P w=.ok b w):(Op.equal t x y).run P w=.ok b w:=h 9999
def isConst:Operand→Bool|.const _=>true|_=>false
def uS(P:Program)(T:Nat→Option AV)(op:BinOp)(tx:TypeId)(x y:Operand):Option Bool :=
 match Zo T x,Zo T y with
|some (.ifc _ _),some (.p (.val .nilIface))=>match P.underlying tx with|some (.interface _)=>some false|_=>none
|some (.p (.val .nilIface)),some (.ifc _ _)=>match P.underlying tx with|some (.interface _)=>some false|_=>none
|some (.p (.val .nilIface)),some (.p (.val .nilIface))=>match P.underlying tx with|some (.interface _)=>if isConst x||isConst y then some true else none|_=>none
|some (.p (.val (.bool a))),some (.p (.val (.bool b)))=>match P.underlying tx with|some .bool=>some (a==b)|_=>none
|some (.agg xs),some (.agg ys) =>
  if P.eqGuardType P.depth tx then none else
  match Mh xs,Mh ys with
 |some vx,some vy=>eqV P 4 tx (.agg vx.toArray) (.agg vy.toArray)
 |_,_=>none
|_,_=>none
def aEq(P:Program)(T:Nat→Option AV)(op:BinOp)(tx:TypeId)(x y:Operand):Option KN :=
 match op with
|.eql=>match uS P T op tx x y with|some b=>some (.p (.val (.bool (Ni b))),none,[])|none=>none
|.neq=>match uS P T op tx x y with|some b=>some (.p (.val (.bool (!Ni b))),none,[])|none=>none
|_=>none
theorem nu(r:Zn φ M0 N D T h a w){b:Bool}(G:uS P T op tx x y=some b) :
  (eqGuard op tx x y (a.eval x) (a.eval y)).run P w=.ok () w∧(Op.equal tx (a.eval x) (a.eval y)).run P w=.ok b w ∧
   (binOp .eql tx (a.eval x) (a.eval y)=(do pure (.bool (←Op.equal tx (a.eval x) (a.eval y))))∧binOp .neq tx (a.eval x) (a.eval y)=(do pure (.bool (!(←Op.equal tx (a.eval x) (a.eval y)))))):=by
 unfold uS at G;split at G
 ·rename_i t v W U;have O:=r.ev W;have J:=r.ev U;simp only[Qe,QM] at O J;obtain⟨z,O,_⟩:=O;split at G
  ·rename_i ms Y;simp only[QW] at G;subst G;rw[O,J];refine⟨by cases op<;>simp[eqGuard],Nk fun D=>by simp[Op.equalIn,run_underlying Y],rfl,rfl⟩
  ·cases G
 ·rename_i t v W U;have O:=r.ev W;have J:=r.ev U;simp only[Qe,QM] at O J;obtain⟨z,J,_⟩:=J;split at G
  ·rename_i ms Y;simp only[QW] at G;subst G;rw[O,J];refine⟨by cases op<;>simp[eqGuard],Nk fun D=>by simp[Op.equalIn,run_underlying Y],rfl,rfl⟩
  ·cases G
 ·rename_i W U;have O:=r.ev W;have J:=r.ev U;simp only[Qe,QM] at O J;split at G
  ·rename_i ms Y;split at G
   ·rename_i hc;simp only[QW] at G;subst G;rw[O,J];refine⟨?_,Nk fun D=>by simp[Op.equalIn,run_underlying Y],rfl,rfl⟩;cases x<;>cases y<;>simp[isConst] at hc<;>cases op<;>simp[eqGuard]
   ·cases G
  ·cases G
 ·rename_i p q W U;have O:=r.ev W;have J:=r.ev U;simp only[Qe,QM] at O J;split at G
  ·rename_i Y;simp only[QW] at G;subst G;rw[O,J];refine⟨by cases op<;>simp[eqGuard],Nk fun D=>by simp[Op.equalIn,run_underlying Y],rfl,rfl⟩
  ·cases G
 ·rename_i xs ys W U;have O:=r.ev W;have J:=r.ev U;simp only[Qe] at O J;obtain⟨lx,O,h3⟩:=O;obtain⟨ly,J,h4⟩:=J;split at G
  ·cases G
  ·rename_i hg;have Z:P.eqGuardType P.depth tx=false:=by simpa using hg
   split at G
   ·rename_i vx vy ab aa;have e1:=CX.2 _ _ _ h3 ab;have e2:=CX.2 _ _ _ h4 aa;subst e1 e2;rw[O,J];exact⟨run_eqGuard_agg w op tx x y _ _ Z,C9 fun D hD=>(kN 4).1 _ _ _ _ G D hD,rfl,rfl⟩
   ·cases G
 ·cases G
theorem Qhk(r:Zn φ M0 N D T h a w){u:KN}(J:o.op=.binOp op tx x y ty)(G:aEq P T op tx x y=some u):u.2.1=none∧Yield P o φ M0 h a w u.1 h:=by
 unfold aEq at G;split at G
 ·split at G
  ·rename_i b hb;simp only[QW] at G;subst G;obtain⟨g1,g2,g3,_⟩:=nu r hb;refine⟨rfl,Qp r (v:=.bool b) ?_ (by simp[Qe,QM,Ni])⟩;simp only[execOp,J,Sem.run_bind,g1,g2,g3,Result.andThen_ok,Sem.run_pure]
  ·cases G
 ·split at G
  ·rename_i b hb;simp only[QW] at G;subst G;obtain⟨g1,g2,_,g3⟩:=nu r hb;refine⟨rfl,Qp r (v:=.bool (!b)) ?_ (by simp[Qe,QM,Ni])⟩;simp only[execOp,J,Sem.run_bind,g1,g2,g3,Result.andThen_ok,Sem.run_pure]
  ·cases G
 ·cases G
end
def Jw(P:Program)(t:TypeId)(v:Value):Bool:=match P.underlying t,v with
|some .bool,.bool _=>true
|some (.int _),.int _ _=>true
|some .string,.string _=>true
|_,_=>false
def VF(P:Program):Nat→List Field→List Value→Bool
|_,[],[]=>true
|i,f::J,v::G=>decide (f.offset=i)&&(f.name != "_")&&Jw P f.type v&&VF P (i+1) J G
|_,_,_=>false
def Dt(P:Program)(t:TypeId)(v:Value):Bool:=Jw P t v||match P.underlying t,v with
|some (.struct fields),.agg cs=>VF P 0 fields.toList cs.toList
|_,_=>false
section
variable {P:Program}{w:World}
theorem Nl{t:TypeId}(h:Jw P t v=true)(e:Bool)(n:Nat):(Instr.checkKey e (n+1) t v).run P w=.ok () w:=by
 unfold Jw at h;unfold Instr.checkKey;cases hd:P.underlying t with
|none=>simp[hd] at h
|some d =>
  simp only[Sem.run_bind,run_underlying hd,Result.andThen];rw[hd] at h;cases d<;>cases v<;>simp_all
theorem Tf{t:TypeId}(h:Jw P t v=true){k:TypeDesc}(G:P.underlying t=some k):Fq k=false:=by
 unfold Jw at h;rw[G] at h;cases k<;>first|rfl|(cases v<;>simp at h)
theorem Fy{t:TypeId}(h:Dt P t v=true):Jw P t v=true∨∃fields cs,P.underlying t=some (.struct fields)∧v=.agg cs∧VF P 0 fields.toList cs.toList=true:=by
 unfold Dt at h;rw[Bool.or_eq_true] at h;rcases h with h|h
 ·exact .inl h
 ·split at h
  ·rename_i fields cs G;exact .inr ⟨fields,cs,G,rfl,h⟩
  ·cases h
theorem wE{t:TypeId}(h:Jw P t v=true){l:List Value}(hi:l[i]?=some v):(part t l.toArray i).run P w=.ok v w:=by
 cases hd:P.underlying t with
|none=>simp[Jw,hd] at h
|some d=>simp[part,UI hd,Tf h hd,hi]
theorem BN:∀(J:List Field) (G:List Value) (i:Nat) (l:List Value) (e:Bool) (n:Nat),VF P i J G=true→l.drop i=G →
  (forIn J PUnit.unit fun f _=>(do
   if f.name≠"_" then Instr.checkKey e (n+1) f.type (←part f.type l.toArray f.offset)
   pure (ForInStep.yield PUnit.unit):Sem (ForInStep PUnit))).run P w=.ok PUnit.unit w
|[],G,i,l,e,n,_,_=>by simp
|f::J,[],i,l,e,n,h,_=>by simp[VF] at h
|f::J,v::G,i,l,e,n,h,U=>by
  simp only[VF,ZG,Fh,bne_iff_ne] at h;obtain⟨⟨⟨h1,Y⟩,W⟩,Z⟩:=h
  have hi:l[i]?=some v:=by
   have:=congrArg (·[0]?) U;simpa using this
  have O:l.drop (i+1)=G:=by
   rw[←List.drop_drop,U];rfl
  simp only[List.forIn_cons,Sem.run_bind,Y,ne_eq,not_false_eq_true,if_true,h1,wE W hi,Result.andThen_ok,Nl W,Sem.run_pure];exact BN J G (i+1) l e n Z O
theorem Fz{t:TypeId}(h:Dt P t v=true)(e:Bool):(Instr.checkKey e 10000 t v).run P w=.ok () w:=by
 rcases Fy h with hp|⟨fields,cs,G,rfl,hp⟩
 ·exact Nl hp e 9999
 ·rw[show(10000:Nat)=9999+1 from rfl,Instr.checkKey];simp only[Sem.run_bind,run_underlying G,Result.andThen_ok];rw[←Array.forIn_toList];have:=BN (w:=w) fields.toList cs.toList 0 cs.toList e 9998 hp zq;simp only[Array.toArray_toList] at this;rw[this];rfl
theorem zb{t:TypeId}{a b:Value}(G:Jw P t a=true)(hb:Jw P t b=true)(h:eqV P (d+1) t a b=some true):a=b:=by
 unfold Jw at G hb;unfold eqV at h;cases hd:P.underlying t with
|none=>simp[hd] at G
|some k =>
  rw[hd] at G hb h;cases k<;>cases a<;>simp only[Bool.false_eq_true] at G<;>cases b<;>simp only[Bool.false_eq_true] at hb<;>simp only at h
  ·simpa using h
  ·split at h
   ·rename_i e;simp only[QW,Ql] at h;rw[e,eq_of_beq h]
   ·cases h
  ·simp only[QW,Qs] at h;have J:=eq_of_beq h;have:=congrArg Je J;rw[kI,kI] at this;rw[this]
theorem Ij{d:Nat}:∀(W:List Field) (xs ys:List Value) (i:Nat) (J O:List Value),VF P i W xs=true→VF P i W ys=true→J.drop i=xs→O.drop i=ys→eqV.eqFs P (d+1) J O W=some true→xs=ys
|[],[],[],_,_,_,_,_,_,_,_=>rfl
|[],x::xs,ys,i,J,O,Z,_,_,_,_=>by simp[VF] at Z
|[],[],y::ys,i,J,O,_,Y,_,_,_=>by simp[VF] at Y
|f::W,[],ys,i,J,O,Z,_,_,_,_=>by simp[VF] at Z
|f::W,x::xs,[],i,J,O,_,Y,_,_,_=>by simp[VF] at Y
|f::W,x::xs,y::ys,i,J,O,Z,Y,ac,ab,h=>by
  simp only[VF,ZG,Fh,bne_iff_ne] at Z Y;obtain⟨⟨⟨h1,h2⟩,h3⟩,h4⟩:=Z;obtain⟨⟨⟨_,_⟩,aa⟩,ah⟩:=Y
  have af:J[i]?=some x:=by
   have:=congrArg (·[0]?) ac;simpa using this
  have ae:O[i]?=some y:=by
   have:=congrArg (·[0]?) ab;simpa using this
  have G:∀(l:List Value) (v:Value),Jw P f.type v=true→l[i]?=some v→∀q,Dr P f.type l i=some q→q=v:=by
   intro l v hv hl q U;unfold Dr at U;cases hd:P.underlying f.type with
  |none=>simp[Jw,hd] at hv
  |some k =>
    have ad:=Tf hv hd;rw[hd] at U;split at U
    ·rename_i dd ii e1 e2;cases e1;rw[ad] at U;simp only[Bool.false_eq_true,if_false] at U;rw[hl] at U;exact(Option.some.inj U).symm
    ·cases U
  simp only[eqV.eqFs,h2,if_false] at h;rw[h1] at h;split at h
  ·rename_i a b e1 e2;obtain rfl:=G J x h3 af a e1;obtain rfl:=G O y aa ae b e2;split at h
   ·rename_i p q e3 e4;simp only[QW,ZG] at h;rw[h.1] at e3;rw[h.2] at e4;rw[zb h3 aa e3,Ij W xs ys (i+1) J O h4 ah (by rw[←List.drop_drop,ac];rfl) (by rw[←List.drop_drop,ab];rfl) e4]
   ·cases h
  ·cases h
theorem QbX{t:TypeId}{a b:Value}(Y:Dt P t a=true)(hb:Dt P t b=true)(h:eqV P 4 t a b=some true):a=b:=by
 rcases Fy Y with W|⟨fields,xs,J,rfl,W⟩
 ·rcases Fy hb with G|⟨fields,ys,J,rfl,G⟩
  ·exact zb W G h
  ·have:=Tf W J;cases this
 ·rcases Fy hb with G|⟨O,ys,U,rfl,G⟩
  ·have:=Tf G J;cases this
  ·rw[J] at U;cases U;unfold eqV at h;rw[J] at h;simp only at h;split at h
   ·cases h
   ·have:=Ij fields.toList xs.toList ys.toList 0 xs.toList ys.toList W G zq zq h;rw[Array.ext' this]
theorem Du{t:TypeId}(h:Jw P t v=true)(n:Nat):Instr.sameBits n v v=true:=by
 unfold Jw at h;split at h
 ·cases n<;>simp[Instr.sameBits]
 ·cases n<;>simp[Instr.sameBits]
 ·rename_i s _;obtain⟨x⟩:=s;cases n<;>(show(x==x)=true;simp)
 ·cases h
theorem EZ(n:Nat):∀(J:List Field) (G:List Value) (i:Nat),VF P i J G=true→(G.zip G).all (fun(x,y)=>Instr.sameBits n x y)=true
|[],[],_,_=>rfl
|[],v::G,i,h=>by simp[VF] at h
|f::J,[],i,h=>by simp[VF] at h
|f::J,v::G,i,h=>by
  simp only[VF,ZG] at h;simp only[List.zip_cons_cons,List.all_cons,ZG];exact⟨Du h.1.2 n,EZ n J G (i+1) h.2⟩
theorem dE{t:TypeId}(h:Dt P t v=true):Instr.sameBits 10000 v v=true:=by
 rcases Fy h with hp|⟨fields,cs,G,rfl,hp⟩
 ·exact Du hp _
 ·rw[show(10000:Nat)=9999+1 from rfl,Instr.sameBits];simp only[beq_self_eq_true,Bool.true_and];exact EZ 9999 _ _ 0 hp
end
def UA(P:Program)(kt:TypeId)(k:Value):Nat→List (Value×PV)→Option (Option (Nat×PV))
|_,[]=>some none
|i,(k',v)::r=>match (if Dt P kt k' then eqV P 4 kt k k' else none) with
 |some true=>some (some (i,v))
 |some false=>UA P kt k (i+1) r
 |none=>none
section
variable {P:Program}{w:World}
theorem E8{t:TypeId}{d:TypeDesc}(Y:P.underlying t=some d){a b:Value}{x y:Bool}(J:Instr.sameNow d a b=some x)(G:eqV P 4 t a b=some y):x=y:=by
 unfold eqV at G;rw[Y] at G;unfold Instr.sameNow at J;split at J
 ·simp only at G;rename_i k k1 n1 k2 Z;split at J
  ·rename_i e;rw[if_pos e] at G;rw[←Option.some.inj J,←Option.some.inj G];rfl
  ·cases J
 ·simp only at G;rename_i s1 W;rw[←Option.some.inj J,←Option.some.inj G];obtain⟨U⟩:=s1;obtain⟨O⟩:=W;show(U==O)=Qs (Xf ⟨U⟩) (Xf ⟨O⟩);unfold Qs Xf;rw[Bool.eq_iff_iff];simp
 ·simp only at G;rw[←Option.some.inj J,←Option.some.inj G]
 ·cases J
def Nn(es:List (Value×PV))(en:List MapEntry)(i:Nat)(r:Option (Nat×PV))(q:Option (Nat×Value)):Prop :=
 match r with
|none=>q=none
|some (j,x)=>∃m e,j=i+m∧q=some (i+m,e.val)∧en[m]?=some e∧es[m]?=some (e.key,x)
theorem Ik{kt:TypeId}{k:Value}:∀(es:List (Value×PV)) (en:List MapEntry) (i:Nat) (r:Option (Nat×PV)),en.map (·.key)=es.map (·.1)→UA P kt k i es=some r→∃q,(Instr.findAsking kt k en i).run P w=.ok q w∧Nn es en i r q
|[],en,i,r,U,h=>by
  simp only[UA,QW] at h;subst h;have:en=[]:=by simpa using U
  subst this;exact⟨none,by simp[Instr.findAsking],rfl⟩
|(k',v)::es,[],i,r,U,h=>by simp at U
|(k',v)::es,e::en,i,r,U,h=>by
  simp only[Yy,List.cons.injEq] at U;obtain⟨J,Y⟩:=U;simp only[UA] at h;split at h
  ·rename_i O;simp only[QW] at h;subst h;split at O
   ·have G:(Op.equal kt k k').run P w=.ok true w:=C9 fun D Z=>(kN 4).1 _ _ _ _ O D Z
    exact⟨some (i,e.val),by simp[Instr.findAsking,J,G],0,e,by simp,by simp,by simp,by simp[J]⟩
   ·cases O
  ·rename_i O;split at O
   ·have G:(Op.equal kt k k').run P w=.ok false w:=C9 fun D Z=>(kN 4).1 _ _ _ _ O D Z
    obtain⟨q,h1,W⟩:=Ik es en (i+1) r Y h;refine⟨q,by simp[Instr.findAsking,J,G,h1],?_⟩;unfold Nn at W ⊢;split
    ·exact W
    ·rename_i j x;obtain⟨m,e',g1,g2,g3,g4⟩:=W;exact⟨m+1,e',by omega,by rw[g2];congr 2;omega,by simpa using g3,by simpa using g4⟩
   ·cases O
  ·cases h
theorem Il{kt:TypeId}{d:TypeDesc}{k:Value}(Z:P.underlying kt=some d):∀(es:List (Value×PV)) (en:List MapEntry) (i:Nat) (r:Option (Nat×PV)) (q:Option (Nat×Value)),en.map (·.key)=es.map (·.1)→UA P kt k i es=some r→Instr.findNow d k en i=some q→Nn es en i r q
|[],en,i,r,q,O,h,G=>by
  simp only[UA,QW] at h;subst h;have:en=[]:=by simpa using O
  subst this;simp only[Instr.findNow,QW] at G;exact G.symm
|(k',v)::es,[],i,r,q,O,h,G=>by simp at O
|(k',v)::es,e::en,i,r,q,O,h,G=>by
  simp only[Yy,List.cons.injEq] at O;obtain⟨U,Y⟩:=O;simp only[UA] at h;simp only[Instr.findNow,U] at G;cases hs:Instr.sameNow d k k' with
 |none=>rw[hs] at G;cases G
 |some b =>
   rw[hs] at G;split at h
   ·rename_i J;simp only[QW] at h;subst h;split at J
    ·obtain rfl:=E8 Z hs J;simp only[QW] at G;exact⟨0,e,by simp,by simpa using G.symm,by simp,by simp[U]⟩
    ·cases J
   ·rename_i J;split at J
    ·obtain rfl:=E8 Z hs J;simp only at G;have W:=Il Z es en (i+1) r q Y h G;unfold Nn at W ⊢;split
     ·exact W
     ·rename_i j x;obtain⟨m,e',g1,g2,g3,g4⟩:=W;exact⟨m+1,e',by omega,by rw[g2];congr 2;omega,by simpa using g3,by simpa using g4⟩
    ·cases J
   ·cases h
theorem XH{k:Value}{d:TypeDesc}(G:P.underlying kt=some d){es:List (Value×PV)}{en:List MapEntry}{r:Option (Nat×PV)}(J:en.map (·.key)=es.map (·.1))(h:UA P kt k 0 es=some r) :
  ∃q,(Instr.findKey kt k en).run P w=.ok q w∧Nn es en 0 r q:=by
 cases hn:Instr.findNow d k en 0 with
|some q=>exact⟨q,by simp[Instr.findKey,run_underlying G,Result.andThen,hn],Il G es en 0 r q J h hn⟩
|none =>
  obtain⟨q,U,O⟩:=Ik (w:=w) es en 0 r J h;exact⟨q,by simp[Instr.findKey,run_underlying G,Result.andThen,hn,U],O⟩
theorem ze{kt:TypeId}{k:Value}:∀(es:List (Value×PV)) (i j:Nat) (x:PV),UA P kt k i es=some (some (j,x))→Dt P kt k=true→∃m,j=i+m∧es[m]?=some (k,x)
|[],i,j,x,h,_=>by simp[UA] at h
|(k',v)::es,i,j,x,h,O=>by
  simp only[UA] at h;split at h
  ·rename_i G;simp only[QW,Xu] at h;obtain⟨rfl,rfl⟩:=h;split at G
   ·rename_i J;exact⟨0,by simp,by simp[QbX O J G]⟩
   ·cases G
  ·obtain⟨m,W,U⟩:=ze es (i+1) j x h O;exact⟨m+1,by omega,by simpa using U⟩
  ·cases h
end
def Dv(h:QN)(dst:Option Tmp)(rsv:Option Operand):Option KN:=match dst,rsv with
|some d,none=>if h d=none then some (.mv d,some (d,.mp []),[d]) else none
|_,_=>none
def Dw(ok:Bool)(v:AV)(b:Bool):AV:=if ok then .tup [v,.p (.val (.bool b))] else v
def avP:PV→AV|.val v=>AP v|.sl S es=>.p (.sl S es)
def pvO:AV→Option PV|.p x=>some x|.agg cs=>(Mh cs).map fun l=>.val (.agg l.toArray)|_=>none
theorem QbY{x:PV}(G:Qe φ h w M (.p x) v):Qe φ h w M (avP x) v:=by
 cases x with
|val u=>simp only[Qe,QM] at G;rw[G];exact WS u
|sl S es=>exact G
theorem QbZ{y:AV}{x:PV}(G:pvO y=some x)(J:Qe φ h w M y v):Qe φ h w M (.p x) v:=by
 cases y with
|p z=>simp only[pvO,QW] at G;subst G;exact J
|agg cs =>
  simp only[pvO,GU] at G;obtain⟨m,U,rfl⟩:=G;simp only[Qe] at J;obtain⟨l,rfl,O⟩:=J;simp only[Qe,QM];rw[CX.2 cs l m O U]
|_=>cases G
def Xw(P:Program)(T:Nat→Option AV)(h:QN)(t:TypeId)(x ix:Operand)(ok:Bool):Option KN :=
 match P.underlying t,Zo T x,Zo T ix with
|some (.map kt e),some (.mv b),some kv =>
  match h b,PW kv,P.underlying kt with
 |some (.mp es),some k,some _ =>
   if Dt P kt k then
    match UA P kt k 0 es with
   |some (some (_,v))=>some (Dw ok (avP v) true,none,[b])
   |some none=>match (P.info? e).bind (·.zero) with|some z=>some (Dw ok (AP z) false,none,[b])|none=>none
   |none=>none
   else none
 |_,_,_=>none
|_,_,_=>none
def Vl(P:Program)(T:Nat→Option AV)(h:QN)(t:TypeId)(x ix y:Operand):Option KN :=
 match P.underlying t,Zo T x,Zo T ix,Zo T y with
|some (.map kt e),some (.mv b),some kv,some y =>
  match h b,PW kv,P.underlying kt,pvO y with
 |some (.mp es),some k,some _,some v =>
   if Dt P kt k then
    match UA P kt k 0 es with
   |some (some (i,_))=>some (.p (.val undef),some (b,.mp (es.set i (k,v))),[b])
   |some none=>some (.p (.val undef),some (b,.mp (es++[(k,v)])),[b])
   |none=>none
   else none
 |_,_,_,_=>none
|_,_,_,_=>none
section
variable {P:Program}{o:Oper}{φ:Nat→Nat}{M0:ZK}{N:Nat}{D:DB}{T:Nat→Option AV}{h:QN}{a:Act}{w:World}
theorem uT(r:Zn φ M0 N D T h a w){t:TypeId}{rsv:Option Operand}{u:KN}(W:o.op=.makeMap t rsv)(G:Dv h o.dst rsv=some u):Yield P o φ M0 h a w u.1 (ap h u.2.1):=by
 unfold Dv at G;split at G
 ·rename_i d Z;split at G
  ·rename_i U;simp only[QW] at G;subst G;refine Yield.of_lift r 1 fun φ r Y X0 O=>?_
   obtain⟨E,X⟩:=Xg (w':=w.alloc (.map #[] 0)) (o:=.map #[] 0) (b:=d) (k:=.mp []) (M0:=M0) rfl rfl rfl rfl U r.hp O
   have J:RelB (Qx φ d w.heap.size) (upd h d (.mp [])) (w.alloc (.map #[] 0)) (MM (Qx φ d w.heap.size) (upd h d (.mp [])) M0) w.heap.size (.mp []):=by
    refine⟨#[],0,by show(w.heap.push _)[w.heap.size]?=_;simp,rfl,rfl⟩
   refine⟨_,.map (some w.heap.size),_,Qx φ d w.heap.size,?_,.inl rfl,?_,Xh rfl U r.hp O E X J,E,X⟩
   ·simp[execOp,W,Instr.makeMap,newObj,Sem.run]
   ·simp only[Qe,ap];exact⟨by simp[Qx],.mp [],by simp[upd],rfl⟩
  ·cases G
 ·cases G
theorem Dx{M:ZK}:∀{xs:List AV} {J:List Value} {i:Nat} {x:AV} {v:Value},Qi φ h w M xs J→xs[i]?=some x→J[i]?=some v→Qe φ h w M x v
|[],J,i,x,v,_,G,_=>by simp at G
|y::xs,J,i,x,v,U,G,O=>by
  simp only[Qi] at U;obtain⟨z,Z,rfl,Y,W⟩:=U;cases i with
 |zero =>
   simp only[List.getElem?_cons_zero,QW] at G O;subst G O;exact Y
 |succ i=>exact Dx W (by simpa using G) (by simpa using O)
theorem dF(r:Zn φ M0 N D T h a w){t:TypeId}{u:KN}(ho:o.op=.lookup t x ix ok)(G:Xw P T h t x ix ok=some u):u.2.1=none∧Yield P o φ M0 h a w u.1 h:=by
 unfold Xw at G;split at G;rotate_left
 ·cases G
 rename_i kt e b kv ht hx ad;split at G;rotate_left
 ·cases G
 rename_i es k kd hb hk ac;split at G;rotate_left
 ·cases G
 rename_i ab;have Z:=r.ev hx;simp only[Qe] at Z;have U:=(CX.1 _ _ _ (r.ev ad) hk);obtain⟨en,clock,hw,J,aa⟩:=r.hp.blk b _ hb;have Y:(getObj (φ b)).run P w=.ok (.map en clock) w:=by simp[getObj,Sem.run,hw]
 have O:=Fz (w:=w) ab en.isEmpty;split at G
 ·rename_i i v hf;simp only[QW] at G;subst G;refine⟨rfl,?_⟩;obtain⟨q,BC,m,e',g1,g2,g3,g4⟩:=XH (w:=w) ac J hf;have W:Qe φ h w (MM φ h M0) (avP v) e'.val:=QbY <| Dx aa (i:=m) (by simp[g4]) (by simp[g3]);subst g2;refine Qp r (v:=if ok then .tuple #[e'.val,.bool true] else e'.val) ?_ ?_
  ·simp[execOp,ho,Instr.lookup,run_underlying ht,Z.1,Y,U,O,BC,Result.andThen]
  ·unfold Dw;cases ok
   ·exact W
   ·simp only[if_true,Qe];exact⟨[e'.val,.bool true],by simp,_,_,rfl,W,_,_,rfl,by simp[Qe,QM],rfl⟩
 ·rename_i hf;split at G
  ·rename_i z hz;simp only[QW] at G;subst G;refine⟨rfl,?_⟩;obtain⟨inf,hi,hz⟩:=PS.1 hz;obtain⟨q,BC,Rl⟩:=XH (w:=w) ac J hf;have Rl:q=none:=Rl;subst Rl;refine Qp r (v:=if ok then .tuple #[z,.bool false] else z) ?_ ?_
   ·simp[execOp,ho,Instr.lookup,run_underlying ht,Z.1,Y,U,O,BC,Result.andThen,zeroValue,typeInfo,program,Sem.run,hi,hz]
   ·unfold Dw;cases ok
    ·exact WS z
    ·simp only[if_true,Qe];exact⟨[z,.bool false],by simp,_,_,rfl,WS z,_,_,rfl,by simp[Qe,QM],rfl⟩
  ·cases G
 ·cases G
theorem kP{es es':List (Value×PV)}{ob:Obj}(hb:h b=some (.mp es))(r:ZN φ h w M0) :
  Q8 φ h w φ (upd h b (.mp es')) (w.putObj (φ b) ob)∧Y4 φ h w φ (upd h b (.mp es')) (w.putObj (φ b) ob):=by
 have hlt:=CW r hb (fun _ _ e=>by cases e);have G:∀x,x≠φ b→(w.putObj (φ b) ob).heap[x]?=w.heap[x]?:=fun x hx=>World.putObj_heap_other hx
 have hne:∀c k,h c=some k→k.ob=none→¬b=c:=fun c k hc hk e=>by rw[←e,hb] at hc;cases hc;cases hk
 have W:∀c k,h c=some k→¬b=c→φ c≠φ b:=fun c k hc e h2=>e (r.inj c b (by rw[hc];simp) (by rw[hb];simp) h2).symm
 have Z:∀c ty cs,h c=some (.box ty cs)→upd h b (.mp es') c=some (.box ty cs):=fun c ty cs hc=>by simp[upd,hne c _ hc rfl,hc]
 have Y:∀t ty S n,h t=some (.arr ty S n)→∃n',upd h b (.mp es') t=some (.arr ty S n')∧n≤n'∧(n'=n→AKept w (w.putObj (φ b) ob) (φ t) (φ t) ty):=by
  intro t ty S n J;have e:=hne t _ J rfl;exact⟨n,by simp[upd,e,J],Kt _,fun _=>Yz (rfl) (by rw[G _ (W t _ J e)])⟩
 have U:∀t ty S es,h t=some (.vec ty S es)→∃O,upd h b (.mp es') t=some (.vec ty S O)∧es.length≤O.length∧(O.length=es.length→φ t=φ t∧∀c,w.heap[φ t]?=some (.cells c ty (0,0))→∃c',(w.putObj (φ b) ob).heap[φ t]?=some (.cells c' ty (0,0))∧c'.size=c.size):=by
  intro t ty S n J;have e:=hne t _ J rfl;exact⟨n,by simp[upd,e,J],Kt _,fun _=>⟨rfl,fun c hc=>⟨c,by rw[G _ (W t _ J e)];exact hc,rfl⟩⟩⟩
 have aa:∀c k x,h c=some k→k.ob=some x→(∃k',upd h b (.mp es') c=some k'∧k'.ob=some x)∧φ c=φ c:=by
  intro c k x hc ho;by_cases e:b=c
  ·subst e;rw[hb] at hc;cases hc;exact⟨⟨.mp es',by simp[upd],ho⟩,rfl⟩
  ·exact⟨⟨k,by simp[upd,e,hc],ho⟩,rfl⟩
 refine⟨⟨rfl,rfl,rfl,by simp[World.putObj],?_,?_,?_,fun c ty cs _ hc=>⟨⟨cs,Z c ty cs hc⟩,rfl⟩,fun t ty S n _=>Y t ty S n,fun t ty S es _=>U t ty S es,fun c k x _=>aa c k x⟩,fun c ty cs hc=>⟨⟨ty,cs,Z c ty cs hc⟩,rfl⟩,Y,U,aa⟩
 ·intro x _ ab;exact G x (fun e=>ab b (by rw[hb];simp) e.symm)
 ·intro x y _ hm;have:x≠φ b:=fun e=>hm ⟨b,_,hb,e.symm,trivial⟩
  simp[World.cell?,G x this]
 ·rintro x y _ ⟨d,q,h1,h2,h3⟩;by_cases e:b=d
  ·exact⟨b,_,hb,by rw[e];exact h2,trivial⟩
  ·exact⟨d,q,by simpa [upd,e] using h1,h2,h3⟩
theorem ny{es es':List (Value×PV)}{J:Array MapEntry}{G:Nat}(hb:h b=some (.mp es))(r:ZN φ h w M0)(W:J.toList.map (·.key)=es'.map (·.1))(Z:Qi φ h w (MM φ h M0) (es'.map fun p=>.p p.2) (J.toList.map (·.val))) :
  ZN φ (upd h b (.mp es')) (w.putObj (φ b) (.map J G)) M0:=by
 obtain⟨E,X⟩:=kP (es':=es') (ob:=.map J G) hb r;have hlt:=CW r hb (fun _ _ e=>by cases e)
 have g:∀d,upd h b (.mp es') d≠none→h d≠none:=fun d O=>by
  by_cases e:b=d
  ·rw[←e,hb];simp
  ·simpa [upd,e] using O
 refine⟨fun c d hc O Y=>r.inj c d (g c hc) (g d O) Y,fun c k hc=>?_,fun c hc=>r.fr c (g c hc),fun x o hx=>by simpa [World.putObj] using r.lt x o hx,r.gm.evol E⟩;by_cases e:b=c
 ·subst e;have:k=.mp es':=by simpa [upd] using hc.symm
  subst this;exact⟨J,G,World.putObj_heap_same hlt,W,(QH (E.keeps M0) X).2 _ _ Z⟩
 ·have hc':h c=some k:=by simpa [upd,e] using hc
  exact Z5 (E.keeps M0) X (World.putObj_heap_other fun U=>e (r.inj c b (by rw[hc'];simp) (by rw[hb];simp) U).symm) (r.blk c k hc')
theorem zf{M:ZK}:∀{xs:List AV} {J:List Value} {i:Nat} {x:AV} {v:Value},Qi φ h w M xs J→Qe φ h w M x v→Qi φ h w M (xs.set i x) (J.set i v)
|[],J,i,x,v,G,_=>by
  simp only[Qi] at G;subst G;simp[Qi]
|y::xs,J,i,x,v,G,U=>by
  simp only[Qi] at G;obtain⟨z,Y,rfl,W,O⟩:=G;cases i with
 |zero=>simp only[List.set_cons_zero,Qi];exact⟨_,_,rfl,U,O⟩
 |succ i=>simp only[List.set_cons_succ,Qi];exact⟨_,_,rfl,W,zf O U⟩
theorem Mq{M:ZK}:∀{xs:List AV} {J:List Value} {x:AV} {v:Value},Qi φ h w M xs J→Qe φ h w M x v→Qi φ h w M (xs++[x]) (J++[v])
|[],J,x,v,G,O=>by
  simp only[Qi] at G;subst G;exact⟨v,[],rfl,O,rfl⟩
|y::xs,J,x,v,G,O=>by
  simp only[Qi] at G;obtain⟨z,Y,rfl,W,U⟩:=G;exact⟨z,Y++[v],rfl,W,Mq U O⟩
theorem Io{e:MapEntry}(k v:Value)(O:en.toList[i]?=some e):(en.modify i fun e=>{ e with key:=k,val:=v }).toList=en.toList.set i { e with key:=k,val:=v }:=by
 apply List.ext_getElem?;intro j;simp only[Array.getElem?_toList,Array.getElem?_modify,List.getElem?_set];by_cases G:i=j
 ·subst G;have J:en[i]?=some e:=by simpa using O
  have hlt:i<en.toList.length:=(CS.1 O).1;simp[J];simpa using hlt
 ·simp[G]
theorem kR(r:Zn φ M0 N D T h a w){t:TypeId}{u:KN}(ho:o.op=.mapUpdate t x ix y)(J:Vl P T h t x ix y=some u):Yield P o φ M0 h a w u.1 (ap h u.2.1):=by
 unfold Vl at J;split at J;rotate_left
 ·cases J
 rename_i kt e b kv y0 ht hx af hy;split at J;rotate_left
 ·cases J
 rename_i es k kd v hb hk ad ak;split at J;rotate_left
 ·cases J
 rename_i O;have ab:=r.ev hx;simp only[Qe] at ab;have Z:=(CX.1 _ _ _ (r.ev af) hk);have ac:=QbZ ak (r.ev hy);obtain⟨en,clock,hw,G,U⟩:=r.hp.blk b _ hb;have aa:(getObj (φ b)).run P w=.ok (.map en clock) w:=by simp[getObj,Sem.run,hw]
 have W:∀ob,(setObj (φ b) ob).run P w=.ok () (w.putObj (φ b) ob):=fun ob=>by simp[setObj,Sem.run,hw,World.putObj]
 have Y:=Fz (w:=w) O false;split at J
 ·rename_i i v0 hf;simp only[QW] at J;subst J;simp only[ap];obtain⟨q,BC,m,e',g1,g2,g3,g4⟩:=XH (w:=w) ad G hf;obtain⟨m',al,ah⟩:=ze es 0 i v0 hf O;have ae:m'=m:=by omega
  subst ae;have ai:e'.key=k:=by rw[ah] at g4;exact((Prod.mk.inj (Option.some.inj g4)).1).symm
  have hi:i=m':=by omega
  subst hi;have aj:en[i]?=some e':=by simpa using g3
  obtain⟨E,X⟩:=kP (es':=es.set i (k,v)) (ob:=.map (en.modify i fun e=>{ e with key:=k,val:=a.eval y }) clock) hb r.hp;refine⟨.skip,undef,w.putObj (φ b) (.map (en.modify i fun e=>{ e with key:=k,val:=a.eval y }) clock),φ,?_,.inr ⟨rfl,rfl⟩,by simp[Qe,QM],ny hb r.hp ?_ ?_,E,X⟩
  ·simp[execOp,ho,Instr.mapUpdate,run_underlying ht,ab.1,aa,Z,Y,BC,g2,Result.andThen,aj,ai,Instr.keyThatStays,dE O,W]
  ·rw[Io k (a.eval y) g3,List.map_set,List.map_set,G]
  ·rw[Io k (a.eval y) g3,List.map_set,List.map_set];exact zf U ac
 ·rename_i hf;simp only[QW] at J;subst J;simp only[ap];obtain⟨q,BC,Rl⟩:=XH (w:=w) ad G hf;have Rl:q=none:=Rl;subst Rl;obtain⟨E,X⟩:=kP (es':=es++[(k,v)]) (ob:=.map (en.push { key:=k,val:=a.eval y,born:=clock }) (clock+1)) hb r.hp;refine⟨.skip,undef,w.putObj (φ b) (.map (en.push { key:=k,val:=a.eval y,born:=clock }) (clock+1)),φ,?_,.inr ⟨rfl,rfl⟩,by simp[Qe,QM],ny hb r.hp ?_ ?_,E,X⟩
  ·simp[execOp,ho,Instr.mapUpdate,run_underlying ht,ab.1,aa,Z,Y,BC,Result.andThen,W]
  ·simp[G]
  ·simp only[Array.toList_push,List.map_append,Yy,List.map_nil];exact Mq U ac
 ·cases J
theorem dG{q:Addr}{c m k:Nat}(G:o.op=.binOp op tx x y ty)(W:P.underlying tx=some (.slice e))(O:a.eval x=.slice (some q) n c)(U:a.eval y=.slice none m k) :
  (op=.eql→(execOp a.eval o).run P w=.ok (.value (.bool false)) w)∧(op=.neq→(execOp a.eval o).run P w=.ok (.value (.bool true)) w):=by
 have J:(Op.equal tx (.slice (some q) n c) (.slice none m k)).run P w=.ok false w:=by
  refine C9 fun D Y=>?_
  obtain⟨D,rfl⟩:∃d,D=d+1:=⟨D-1,by omega⟩;unfold Op.equalIn;simp[run_underlying W]
 constructor
 ·rintro rfl;simp[execOp,G,O,U,eqGuard,binOp,J]
 ·rintro rfl;simp[execOp,G,O,U,eqGuard,binOp,J]
end
def P7(P:Program)(T:Nat→Option AV)(h:QN)(op:BinOp)(tx:TypeId)(x y:Operand):Option KN :=
 match P.underlying tx,Zo T x,Zo T y with
|some (.slice _),some (.tsl _ es t),some (.p (.val (.slice none _ _))) =>
  match h t with
 |some (.arr _ _ n)=>if es.length=n∧es.isEmpty=false then(match op with|.eql=>some (.p (.val (.bool false)),none,[t])|.neq=>some (.p (.val (.bool true)),none,[t])|_=>none) else none
 |_=>none
|_,_,_=>none
section
variable {P:Program}{o:Oper}{φ:Nat→Nat}{M0:ZK}{N:Nat}{D:DB}{T:Nat→Option AV}{h:QN}{a:Act}{w:World}
theorem eG(r:Zn φ M0 N D T h a w){u:KN}(ho:o.op=.binOp op tx x y ty)(G:P7 P T h op tx x y=some u):u.2.1=none∧Yield P o φ M0 h a w u.1 h:=by
 unfold P7 at G;split at G;rotate_left
 ·cases G
 rename_i e S es t m k ht hx hy;split at G;rotate_left
 ·cases G
 rename_i ta Sa n hb;split at G;rotate_left
 ·cases G
 rename_i J;have Y:=r.ev hx;have U:=r.ev hy;simp only[Qe,QM] at U;simp only[Qe] at Y;obtain⟨_,V4,n2,W,_,O⟩:=Y;rw[hb] at W;cases W
 obtain⟨cap,c,hv,_⟩:∃cap c,a.eval x=.slice (some ⟨φ t,0,none⟩) n cap∧w.heap[φ t]?=some (.cells c ta (0,0))∧c.size=cap*S∧n≤cap∧cap≤maxLen:=by
  rcases O J.1 with⟨h0,_⟩|h0
  ·have h1:=J.1;have Z:=J.2;rw[h0] at h1;rw[List.length_eq_zero_iff.1 h1] at Z;cases Z
  ·exact h0
 obtain⟨g1,g2⟩:=dG (P:=P) (w:=w) ho ht hv U;split at G
 ·simp only[QW] at G;subst G;exact⟨rfl,Qp r (g1 rfl) (by simp[Qe,QM])⟩
 ·simp only[QW] at G;subst G;exact⟨rfl,Qp r (g2 rfl) (by simp[Qe,QM])⟩
 ·cases G
end
section
variable {P:Program}{o:Oper}{φ:Nat→Nat}{M0:ZK}{N:Nat}{D:DB}{T:Nat→Option AV}{h:QN}{a:Act}{w:World}
theorem Np{k1:Blk}{ob:Obj}(hb:h b=some k0)(h0:k0.ob=some .mp)(h1:k1.ob=some .mp)(r:ZN φ h w M0) :
  Q8 φ h w φ (upd h b k1) (w.putObj (φ b) ob)∧Y4 φ h w φ (upd h b k1) (w.putObj (φ b) ob):=by
 have hm:∀x o,TK φ (upd h b k1) x o→TK φ h x o:=by
  rintro x y ⟨d,q,g1,g2,g3⟩;by_cases e:b=d
  ·refine⟨b,_,hb,by rw[e];exact g2,?_⟩;cases k0<;>first|trivial|cases h0
  ·exact⟨d,q,by simpa [upd,e] using g1,g2,g3⟩
 have G:∀x,x≠φ b→(w.putObj (φ b) ob).heap[x]?=w.heap[x]?:=fun x hx=>World.putObj_heap_other hx
 have hne:∀c k,h c=some k→k.ob=none→¬b=c:=fun c k hc hk e=>by rw[←e,hb] at hc;cases hc;rw[hk] at h0;cases h0
 have W:∀c k,h c=some k→¬b=c→φ c≠φ b:=fun c k hc e h2=>e (r.inj c b (by rw[hc];simp) (by rw[hb];simp) h2).symm
 have Z:∀c ty cs,h c=some (.box ty cs)→upd h b k1 c=some (.box ty cs):=fun c ty cs hc=>by simp[upd,hne c _ hc rfl,hc]
 have Y:∀t ty S n,h t=some (.arr ty S n)→∃n',upd h b k1 t=some (.arr ty S n')∧n≤n'∧(n'=n→AKept w (w.putObj (φ b) ob) (φ t) (φ t) ty):=by
  intro t ty S n J;have e:=hne t _ J rfl;exact⟨n,by simp[upd,e,J],Kt _,fun _=>Yz rfl (G _ (W t _ J e))⟩
 have U:∀t ty S es,h t=some (.vec ty S es)→∃O,upd h b k1 t=some (.vec ty S O)∧es.length≤O.length∧(O.length=es.length→φ t=φ t∧∀c,w.heap[φ t]?=some (.cells c ty (0,0))→∃c',(w.putObj (φ b) ob).heap[φ t]?=some (.cells c' ty (0,0))∧c'.size=c.size):=by
  intro t ty S n J;have e:=hne t _ J rfl;exact⟨n,by simp[upd,e,J],Kt _,fun _=>⟨rfl,fun c hc=>⟨c,by rw[G _ (W t _ J e)];exact hc,rfl⟩⟩⟩
 have aa:∀c k x,h c=some k→k.ob=some x→(∃k',upd h b k1 c=some k'∧k'.ob=some x)∧φ c=φ c:=by
  intro c k x hc ho;by_cases e:b=c
  ·subst e;rw[hb] at hc;cases hc;rw[h0] at ho;cases ho;exact⟨⟨k1,by simp[upd],h1⟩,rfl⟩
  ·exact⟨⟨k,by simp[upd,e,hc],ho⟩,rfl⟩
 refine⟨⟨rfl,rfl,rfl,by simp[World.putObj],?_,?_,fun x o _ hx=>hm x o hx,fun c ty cs _ hc=>⟨⟨cs,Z c ty cs hc⟩,rfl⟩,fun t ty S n _=>Y t ty S n,fun t ty S es _=>U t ty S es,fun c k x _=>aa c k x⟩,fun c ty cs hc=>⟨⟨ty,cs,Z c ty cs hc⟩,rfl⟩,Y,U,aa⟩
 ·intro x _ ab;exact G x (fun e=>ab b (by rw[hb];simp) e.symm)
 ·intro x y _ hm;have:x≠φ b:=fun e=>hm ⟨b,_,hb,e.symm,by cases k0<;>first|trivial|cases h0⟩
  simp[World.cell?,G x this]
theorem Aj{k1:Blk}{ob:Obj}(hb:h b=some k0)(h0:k0.ob=some .mp)(U:k1.ob=some .mp)(r:ZN φ h w M0)(G:RelB φ (upd h b k1) (w.putObj (φ b) ob) (MM φ (upd h b k1) M0) (φ b) k1):ZN φ (upd h b k1) (w.putObj (φ b) ob) M0:=by
 obtain⟨E,X⟩:=Np (k1:=k1) (ob:=ob) hb h0 U r
 have g:∀d,upd h b k1 d≠none→h d≠none:=fun d J=>by
  by_cases e:b=d
  ·rw[←e,hb];simp
  ·simpa [upd,e] using J
 refine⟨fun c d hc J W=>r.inj c d (g c hc) (g d J) W,fun c k hc=>?_,fun c hc=>r.fr c (g c hc),fun x o Y=>by simpa [World.putObj] using r.lt x o Y,r.gm.evol E⟩;by_cases e:b=c
 ·subst e;have:k=k1:=by simpa [upd] using hc.symm
  subst this;exact G
 ·have hc':h c=some k:=by simpa [upd,e] using hc
  exact Z5 (E.keeps M0) X (World.putObj_heap_other fun O=>e (r.inj c b (by rw[hc'];simp) (by rw[hb];simp) O).symm) (r.blk c k hc')
def LC(w:List UInt8):List (Bool×List UInt8×AV)→Option AV|[]=>none|(f,k,x)::l=>if Qs w k&&f then some x else LC w l
def dH(w:List UInt8)(es:List (Bool×List UInt8×AV)):List (Bool×List UInt8×AV):=es.map fun e=>(!Qs w e.2.1&&e.1,e.2.1,e.2.2)
def E9(w:List UInt8):Nat→List (Bool×List UInt8×AV)→Option Nat|_,[]=>none|i,e::l=>if Qs w e.2.1 then some i else E9 w (i+1) l
def dJ(l:List (Bool×List UInt8×AV)):List (Value×PV):=l.map fun e=>(TU e.2.1,PV.val undef)
theorem nA(G:P.underlying kt=some .string)(x:ByteArray)(y:List UInt8):eqV P 4 kt (.string x) (TU y)=some (Qs (Xf x) y):=by
 simp[eqV,G,TU,Xf]
theorem Nq(G:P.underlying kt=some .string)(x:ByteArray):Dt P kt (.string x)=true:=by simp[Dt,Jw,G]
theorem Ba{kt:TypeId}(G:P.underlying kt=some .string)(x:ByteArray):∀(l:List (Bool×List UInt8×AV)) (i:Nat),UA P kt (.string x) i (dJ l)=some ((E9 (Xf x) i l).map fun j=>(j,PV.val undef))
|[],i=>rfl
|e::l,i=>by
  have J:Dt P kt (TU e.2.1)=true:=Nq G _;simp only[dJ,Yy,UA,J,if_true,nA G,E9];cases hq:Qs (Xf x) e.2.1 with
 |true=>simp
 |false=>exact Ba G x l (i+1)
theorem Nr(f:Bool)(k:List UInt8)(x:AV)(es:List (Bool×List UInt8×AV)):Rm ((f,k,x)::es)=if f then(f,k,x)::Rm es else Rm es:=by cases f<;>rfl
theorem P8(w:List UInt8):∀(l:List (Bool×List UInt8×AV)) (i:Nat),E9 w (i+1) l=(E9 w i l).map (·+1)
|[],i=>rfl
|e::l,i=>by
  simp only[E9];cases Qs w e.2.1
  ·exact P8 w l (i+1)
  ·rfl
theorem Bc(w:List UInt8):∀(es:List (Bool×List UInt8×AV)),LC w es=(E9 w 0 (Rm es)).bind fun j=>((Rm es)[j]?).map (·.2.2)
|[]=>rfl
|(f,k,x)::es=>by
  rw[Nr];cases f with
 |false=>simp only[LC,Bool.and_false,Bool.false_eq_true,if_false];exact Bc w es
 |true =>
   simp only[LC,Bool.and_true,if_true,E9];cases hq:Qs w k with
  |true=>simp
  |false =>
    simp only[Bool.false_eq_true,if_false];rw[P8,Bc w es];cases E9 w 0 (Rm es)<;>simp
def Dy:List (Bool×List UInt8×AV)→Bool|[]=>true|e::l=>l.all (fun G=>!Qs e.2.1 G.2.1)&&Dy l
theorem Sd{w:List UInt8}:∀{l:List (Bool×List UInt8×AV)} {i:Nat},E9 w i l=none→∀e∈l,Qs w e.2.1=false
|[],_,_,e,G=>by cases G
|J::l,i,h,e,G=>by
  simp only[E9] at h;cases hq:Qs w J.2.1 with
 |true=>rw[hq] at h;cases h
 |false =>
   rw[hq] at h;rcases List.mem_cons.1 G with rfl|G
   ·exact hq
   ·exact Sd h e G
theorem Qfk{a b:List UInt8}(h:Qs a b=true):a=b:=by simpa [Qs] using h
theorem eH(w:List UInt8):∀(es:List (Bool×List UInt8×AV)),Rm (dH w es)=((Rm es).filter fun e=>!Qs w e.2.1)
|[]=>rfl
|(f,k,x)::es=>by
  have G:=eH w es;simp only[dH,Yy] at G ⊢;rw[Nr,Nr,G];cases f<;>cases hq:Qs w k<;>simp[hq]
theorem Ip:∀{es:List (Bool×List UInt8×AV)},Dy es=true→Dy (Rm es)=true
|[],_=>rfl
|(f,k,x)::es,h=>by
  simp only[Dy,ZG] at h;rw[Nr];cases f with
 |false=>exact Ip h.2
 |true =>
   simp only[if_true,Dy,ZG];refine⟨?_,Ip h.2⟩;rw[Xb] at h ⊢;intro e G;exact h.1 e (List.mem_filter.1 G).1
theorem Ns{w:List UInt8}:∀{l:List (Bool×List UInt8×AV)} {j:Nat},Dy l=true→E9 w 0 l=some j→(l.filter fun e=>!Qs w e.2.1)=l.eraseIdx j
|[],j,_,h=>by cases h
|e::l,j,J,h=>by
  simp only[Dy,ZG] at J;simp only[E9] at h;cases hq:Qs w e.2.1 with
 |true =>
   rw[hq] at h;simp only[if_true,QW] at h;subst h;have hw:=Qfk hq
   have:(l.filter fun e=>!Qs w e.2.1)=l:=by
    rw[List.filter_eq_self];intro O G;rw[hw];exact Xb.1 J.1 O G
   simp[hq,this]
 |false =>
   rw[hq] at h;simp only[Bool.false_eq_true,if_false] at h;rw[P8] at h;cases hj:E9 w 0 l with
  |none=>rw[hj] at h;cases h
  |some U =>
    rw[hj] at h;simp only[Option.map_some,QW] at h;subst h;simp[hq,Ns J.2 hj]
theorem Ru{α β:Type}(f:α→β):∀(l:List α) (j:Nat),(l.eraseIdx j).map f=(l.map f).eraseIdx j
|[],j=>by simp
|x::l,0=>rfl
|x::l,j+1=>by simp only[List.eraseIdx_cons_succ,Yy,Ru f l j]
theorem Sg{M:ZK}:∀{xs:List AV} {J:List Value} (j:Nat),Qi φ h w M xs J→Qi φ h w M (xs.eraseIdx j) (J.eraseIdx j)
|[],J,j,G=>by
  simp only[Qi] at G;subst G;simp[Qi]
|x::xs,J,j,G=>by
  simp only[Qi] at G;obtain⟨y,ys,rfl,U,O⟩:=G;cases j with
 |zero=>exact O
 |succ j=>simp only[List.eraseIdx_cons_succ,Qi];exact⟨_,_,rfl,U,Sg j O⟩
theorem dK{clock:Nat}{k:Value}(h:Gi en clock):Gi (en.push { key:=k,val:=v,born:=clock }) (clock+1):=by
 obtain⟨O,J⟩:=h;refine⟨?_,fun e G=>?_⟩
 ·simp only[Array.toList_push,List.map_append,Yy,List.map_nil];rw[List.pairwise_append];refine⟨O,List.pairwise_singleton _ _,fun x W y U=>?_⟩;obtain⟨e,G,rfl⟩:=List.mem_map.1 W;rw[List.mem_singleton.1 U];exact J e G
 ·simp only[Array.toList_push,List.mem_append,List.mem_singleton] at G;rcases G with G|rfl
  ·have:=J e G;omega
  ·exact Nat.lt_succ_self _
theorem uU{clock:Nat}(h:Gi en clock):Gi (en.eraseIdxIfInBounds j) clock:=by
 obtain⟨U,O⟩:=h;have G:(en.eraseIdxIfInBounds j).toList=en.toList.eraseIdx j:=by simp
 refine⟨?_,fun e J=>O e ?_⟩
 ·rw[G];exact U.sublist ((List.eraseIdx_sublist _ _).map _)
 ·rw[G] at J;exact(List.eraseIdx_sublist _ _).mem J
def Qb0:Option Blk→Option (List (Bool×List UInt8×AV))|some (.mp [])=>some []|some (.mf es)=>some es|_=>none
def JV(P:Program)(T:Nat→Option AV)(h:QN)(t:TypeId)(x ix:Operand)(ok:Bool):Option KN :=
 match P.underlying t,Zo T x,Zo T ix with
|some (.map kt e),some (.mv b),some (.p (.val (.string s))) =>
  match h b,P.underlying kt with
 |some (.mf es),some .string =>
   match LC (Xf s) es with
  |some v=>some (Dw ok v true,none,[b])
  |none=>match (P.info? e).bind (·.zero) with|some z=>some (Dw ok (AP z) false,none,[b])|none=>none
 |_,_=>none
|_,_,_=>none
def JW(P:Program)(T:Nat→Option AV)(h:QN)(t:TypeId)(x ix y:Operand):Option KN :=
 match P.underlying t,Zo T x,Zo T ix,Zo T y with
|some (.map kt e),some (.mv b),some (.p (.val (.string s))),some v =>
  match Qb0 (h b),P.underlying kt with
 |some es,some .string=>match LC (Xf s) es with
  |none=>some (.p (.val undef),some (b,.mf (es++[(true,Xf s,v)])),[b])
  |some _=>none
 |_,_=>none
|_,_,_,_=>none
def UL(P:Program)(T:Nat→Option AV)(h:QN)(t:TypeId)(x ix:Operand):Option KN :=
 match P.underlying t,Zo T x,Zo T ix with
|some (.map kt e),some (.mv b),some (.p (.val (.string s))) =>
  match h b,P.underlying kt with
 |some (.mf es),some .string=>if Dy es=true then some (.tup [],some (b,.mf (dH (Xf s) es)),[b]) else none
 |_,_=>none
|_,_,_=>none
theorem eO(hb:Qb0 (h b)=some es)(r:ZN φ h w M0):∃k0,h b=some k0∧k0.ob=some .mp ∧
  ∃(en:Array MapEntry) (clock:Nat),w.heap[φ b]?=some (.map en clock)∧en.toList.map (·.key)=(Rm es).map (fun e=>TU e.2.1)∧Qi φ h w (MM φ h M0) ((Rm es).map (·.2.2)) (en.toList.map (·.val))∧Gi en clock:=by
 unfold Qb0 at hb;split at hb
 ·rename_i G;cases hb;obtain⟨en,clock,W,J,U⟩:=r.blk b _ G;have O:en.toList=[]:=by simpa using J
  exact⟨_,G,rfl,en,clock,W,J,U,by simp[Gi,O]⟩
 ·rename_i es' G;cases hb;exact⟨_,G,rfl,r.blk b _ G⟩
 ·cases hb
theorem Iq{l:List (Bool×List UInt8×AV)}{en:List MapEntry}(G:en.map (·.key)=l.map (fun e=>TU e.2.1)):en.map (·.key)=(dJ l).map (·.1):=by
 rw[G];simp[dJ]
theorem wF(r:Zn φ M0 N D T h a w){t:TypeId}{u:KN}(ho:o.op=.lookup t x ix ok)(J:JV P T h t x ix ok=some u):u.2.1=none∧Yield P o φ M0 h a w u.1 h:=by
 unfold JV at J;split at J;rotate_left
 ·cases J
 rename_i kt e b s ht hx af;split at J;rotate_left
 ·cases J
 rename_i es hb aa;have ab:=r.ev hx;simp only[Qe] at ab;have O:=r.ev af;simp only[Qe,QM] at O;obtain⟨en,clock,hw,Z,ac,_⟩:=r.hp.blk b _ hb;have Y:(getObj (φ b)).run P w=.ok (.map en clock) w:=by simp[getObj,Sem.run,hw]
 have U:=Fz (w:=w) (Nq aa s) en.isEmpty;have ae:=Ba aa s (Rm es) 0;obtain⟨q,BC,Rl⟩:=XH (w:=w) aa (Iq Z) ae;have G:=Bc (Xf s) es;cases hi:E9 (Xf s) 0 (Rm es) with
|none =>
  rw[hi] at Rl G;simp only[Option.map_none,Nn,Option.bind_none] at Rl G;subst Rl;rw[G] at J;simp only at J;split at J
  ·rename_i z hz;simp only[QW] at J;subst J;refine⟨rfl,?_⟩;obtain⟨inf,hi,hz⟩:=PS.1 hz;refine Qp r (v:=if ok then .tuple #[z,.bool false] else z) ?_ ?_
   ·simp[execOp,ho,Instr.lookup,run_underlying ht,ab.1,Y,O,U,BC,Result.andThen,zeroValue,typeInfo,program,Sem.run,hi,hz]
   ·unfold Dw;cases ok
    ·exact WS z
    ·simp only[if_true,Qe];exact⟨[z,.bool false],by simp,_,_,rfl,WS z,_,_,rfl,by simp[Qe,QM],rfl⟩
  ·cases J
|some j =>
  rw[hi] at Rl G;simp only[Option.map_some,Nn,Zf] at Rl G;obtain⟨m,e',g1,g2,g3,g4⟩:=Rl;have ad:j=m:=by omega
  subst ad
  have hlt:j<(Rm es).length:=by
   have:=(CS.1 g4).1;simpa [dJ] using this
  rw[List.getElem?_eq_getElem hlt] at G;simp only[Option.map_some] at G;rw[G] at J;simp only[QW] at J;subst J;refine⟨rfl,?_⟩;have W:Qe φ h w (MM φ h M0) ((Rm es)[j]).2.2 e'.val:=Dx ac (i:=j) (by simp[hlt]) (by simp[g3]);subst g2;refine Qp r (v:=if ok then .tuple #[e'.val,.bool true] else e'.val) ?_ ?_
  ·simp[execOp,ho,Instr.lookup,run_underlying ht,ab.1,Y,O,U,BC,Result.andThen]
  ·unfold Dw;cases ok
   ·exact W
   ·simp only[if_true,Qe];exact⟨[e'.val,.bool true],by simp,_,_,rfl,W,_,_,rfl,by simp[Qe,QM],rfl⟩
theorem Si(r:Zn φ M0 N D T h a w){t:TypeId}{u:KN}(ho:o.op=.mapUpdate t x ix y)(O:JW P T h t x ix y=some u):Yield P o φ M0 h a w u.1 (ap h u.2.1):=by
 unfold JW at O;split at O;rotate_left
 ·cases O
 rename_i kt e b s v ht hx an hy;split at O;rotate_left
 ·cases O
 rename_i es hb Z;have ah:=r.ev hx;simp only[Qe] at ah;have U:=r.ev an;simp only[Qe,QM] at U;have am:=r.ev hy;obtain⟨k0,ac,af,en,clock,hw,G,aa,Y⟩:=eO hb r.hp;have ai:(getObj (φ b)).run P w=.ok (.map en clock) w:=by simp[getObj,Sem.run,hw]
 have ad:∀ob,(setObj (φ b) ob).run P w=.ok () (w.putObj (φ b) ob):=fun ob=>by simp[setObj,Sem.run,hw,World.putObj]
 have ae:=Fz (w:=w) (Nq Z s) false;have al:=Ba Z s (Rm es) 0;obtain⟨q,BC,Rl⟩:=XH (w:=w) Z (Iq G) al;have J:=Bc (Xf s) es;split at O;rotate_left
 ·cases O
 rename_i W;simp only[QW] at O;subst O;simp only[ap]
 have hi:E9 (Xf s) 0 (Rm es)=none:=by
  cases hi:E9 (Xf s) 0 (Rm es) with
 |none=>rfl
 |some j =>
   rw[hi] at Rl J;simp only[Option.map_some,Nn,Zf] at Rl J;obtain⟨m,e',g1,g2,g3,g4⟩:=Rl;have aj:j=m:=by omega
   subst aj
   have hlt:j<(Rm es).length:=by
    have:=(CS.1 g4).1;simpa [dJ] using this
   rw[List.getElem?_eq_getElem hlt,W] at J;cases J
 rw[hi] at Rl;have Rl:q=none:=Rl;subst Rl;obtain⟨E,X⟩:=Np (k1:=.mf (es++[(true,Xf s,v)])) (ob:=.map (en.push { key:=.string s,val:=a.eval y,born:=clock }) (clock+1)) ac af rfl r.hp;have ak:TU (Xf s)=.string s:=by simp[TU,Xf]
 have ab:Rm (es++[(true,Xf s,v)])=Rm es++[(true,Xf s,v)]:=by simp[Rm]
 refine⟨.skip,undef,w.putObj (φ b) (.map (en.push { key:=.string s,val:=a.eval y,born:=clock }) (clock+1)),φ,?_,.inr ⟨rfl,rfl⟩,by simp[Qe,QM],Aj ac af rfl r.hp ⟨_,_,World.putObj_heap_same (Ls.1 hw).1,?_,?_,dK Y⟩,E,X⟩
 ·simp[execOp,ho,Instr.mapUpdate,run_underlying ht,ah.1,ai,U,ae,BC,Result.andThen,ad]
 ·simp[G,ab,ak]
 ·rw[ab];simp only[Array.toList_push,List.map_append,Yy,List.map_nil];exact Mq ((QH (E.keeps M0) X).2 _ _ aa) ((QH (E.keeps M0) X).1 _ _ am)
theorem Sj{t k:TypeId}{s:Operand}(G:o.op=.call ⟨.builtin .delete,#[s,x],#[t,k]⟩)(J:(Builtin.delete_ #[t,k] o.type #[a.eval s,a.eval x]).run P w=.ok v w'):(execOp a.eval o).run P w=.ok (.value v) w':=by
 simp[execOp,G,resolve,invoke,builtin,J]
theorem wG(r:Zn φ M0 N D T h a w){t k:TypeId}{u:KN}(ho:o.op=.call ⟨.builtin .delete,#[x,ix],#[t,k]⟩)(Z:UL P T h t x ix=some u):Yield P o φ M0 h a w u.1 (ap h u.2.1):=by
 unfold UL at Z;split at Z;rotate_left
 ·cases Z
 rename_i kt e b s ht hx aj;split at Z;rotate_left
 ·cases Z
 rename_i es hb ad;split at Z;rotate_left
 ·cases Z
 rename_i ak;simp only[QW] at Z;subst Z;simp only[ap];have ae:=r.ev hx;simp only[Qe] at ae;have W:=r.ev aj;simp only[Qe,QM] at W;obtain⟨en,clock,hw,G,Y,O⟩:=r.hp.blk b _ hb;have ac:(getObj (φ b)).run P w=.ok (.map en clock) w:=by simp[getObj,Sem.run,hw]
 have aa:∀ob,(setObj (φ b) ob).run P w=.ok () (w.putObj (φ b) ob):=fun ob=>by simp[setObj,Sem.run,hw,World.putObj]
 have ab:=Fz (w:=w) (Nq ad s) en.isEmpty;have ai:=Ba ad s (Rm es) 0;obtain⟨q,BC,Rl⟩:=XH (w:=w) ad (Iq G) ai;have J:=eH (Xf s) es;cases hi:E9 (Xf s) 0 (Rm es) with
|none =>
  rw[hi] at Rl;have Rl:q=none:=Rl;subst Rl
  have U:Rm (dH (Xf s) es)=Rm es:=by
   rw[J,List.filter_eq_self];intro e Z;simp[Sd hi e Z]
  obtain⟨E,X⟩:=Np (k1:=.mf (dH (Xf s) es)) (ob:=.map en clock) hb rfl rfl r.hp;refine⟨_,.tuple #[],w.putObj (φ b) (.map en clock),φ,Sj ho ?_,.inl rfl,?_,Aj hb rfl rfl r.hp ⟨en,clock,World.putObj_heap_same (Ls.1 hw).1,?_,?_,O⟩,E,X⟩
  ·simp[Builtin.delete_,run_underlying ht,ae.1,ac,W,ab,BC,Result.andThen,aa]
  ·simp only[Qe];exact⟨[],rfl,rfl⟩
  ·rw[U];exact G
  ·rw[U];exact(QH (E.keeps M0) X).2 _ _ Y
|some j =>
  rw[hi] at Rl;simp only[Option.map_some,Nn] at Rl;obtain⟨m,e',g1,g2,g3,g4⟩:=Rl;have ah:j=m:=by omega
  subst ah;subst g2;rw[Ns (Ip ak) hi] at J;have af:(en.eraseIdxIfInBounds j).toList=en.toList.eraseIdx j:=by simp
  obtain⟨E,X⟩:=Np (k1:=.mf (dH (Xf s) es)) (ob:=.map (en.eraseIdxIfInBounds j) clock) hb rfl rfl r.hp;refine⟨_,.tuple #[],w.putObj (φ b) (.map (en.eraseIdxIfInBounds j) clock),φ,Sj ho ?_,.inl rfl,?_,Aj hb rfl rfl r.hp ⟨_,clock,World.putObj_heap_same (Ls.1 hw).1,?_,?_,uU O⟩,E,X⟩
  ·simp[Builtin.delete_,run_underlying ht,ae.1,ac,W,ab,BC,Result.andThen,aa]
  ·simp only[Qe];exact⟨[],rfl,rfl⟩
  ·rw[J,af,Ru,Ru,G]
  ·rw[J,af,Ru,Ru];exact Sg j ((QH (E.keeps M0) X).2 _ _ Y)
end
def eP(P:Program)(T:Nat→Option AV)(t:TypeId)(x:Operand):Option KN:=match P.underlying t,Zo T x with
|some (.slice _),some (.bsl _ n)=>some (.p (.val (.int .i64 n)),none,[])
|_,_=>none
def isB(T:Nat→Option AV):List (Nat×Operand)→Bool
|(_,x)::_=>match Zo T x with|some (.fn _ _ _)=>true|_=>false
|[]=>false
def FB(P:Program)(T:Nat→Option AV)(t:TypeId)(x ix:Operand):Option KN :=
 match Zo T ix,P.underlying t,Zo T x with
|some (.p (.val (.int _ n))),some (.slice e),some (.bsl b m) =>
  match P.info? e with
 |some i=>if i.size=1∧0≤n∧n<m then some (.ptr b n.toNat,none,[]) else none
 |none=>none
|_,_,_=>none
def Hq(P:Program)(T:Nat→Option AV)(h:QN)(dst:Option Tmp)(t:TypeId)(len:Nat)(parts:Array (Nat×Operand)):Option KN :=
 match P.underlying t,dst,A7 T parts.toList with
|some (.slice e),some d,some ps =>
  match P.info? e with
 |some i =>
   match i.zero,h d with
  |some z,none =>
    match cellsOf (AP z) with
   |some G =>
     if G.length=1∧i.size=1∧len≤16777216∧0<len then
      match Na (fun k=>some (k*i.size,i.size)) (List.replicate len G).flatten ps with
     |some rs=>if rs.length=len∧UH rs then some (.bsl d len,some (d,.box e rs),[d]) else none
     |none=>none
     else none
   |none=>none
  |_,_=>none
 |none=>none
|_,_,_=>none
section
variable {P:Program}{o:Oper}{φ:Nat→Nat}{M0:ZK}{N:Nat}{D:DB}{T:Nat→Option AV}{h:QN}{a:Act}{w:World}
theorem Qb1(r:Zn φ M0 N D T h a w){t:TypeId}{u:KN}(O:o.op=.call ⟨.builtin .len,#[x],#[t]⟩)(G:eP P T t x=some u):u.2.1=none∧Yield P o φ M0 h a w u.1 h:=by
 unfold eP at G;split at G
 ·rename_i e b n U W;simp only[QW] at G;subst G;have J:=r.ev W;simp only[Qe] at J;refine⟨rfl,Qp r (v:=.int .i64 n) ?_ (by simp[Qe,QM])⟩;simp[execOp,O,resolve,invoke,builtin,Builtin.len_,run_underlying U,J.1,goInt]
 ·cases G
theorem qD(r:Zn φ M0 N D T h a w){t:TypeId}{u:KN}(Y:o.op=.indexAddr t x ix)(G:FB P T t x ix=some u):u.2.1=none∧Yield P o φ M0 h a w u.1 h:=by
 unfold FB at G;split at G
 ·rename_i k n e b m W Z hx;split at G
  ·rename_i i hi;split at G
   ·rename_i hc;simp only[QW] at G;subst G;have J:=r.ev W;simp only[Qe,QM] at J;have O:=r.ev hx;simp only[Qe] at O;refine⟨rfl,Qp r (v:=.pointer (some ⟨φ b,0+n.toNat*i.size,none⟩)) ?_ ?_⟩
    ·have U:0≤n∧n<(m:Int):=hc.2;simp[execOp,Y,Instr.indexAt,J,asIntOf,run_underlying Z,O.1,U,Q9 hi,Addr.add_lit]
    ·simp only[Qe];exact⟨by rw[hc.1,Nat.mul_one,Nat.zero_add],O.2⟩
   ·cases G
  ·cases G
 ·cases G
theorem Ir(r:Zn φ M0 N D T h a w){t:TypeId}{u:KN}(ho:o.op=.buildSlice t len parts)(G:Hq P T h o.dst t len parts=some u):Yield P o φ M0 h a w u.1 (ap h u.2.1):=by
 unfold Hq at G;split at G;rotate_left
 ·cases G
 rename_i e d ps ht ad ab;split at G;rotate_left
 ·cases G
 rename_i i hi;split at G;rotate_left
 ·cases G
 rename_i z hz hd;split at G;rotate_left
 ·cases G
 rename_i zs W;split at G;rotate_left
 ·cases G
 rename_i aa;split at G;rotate_left
 ·cases G
 rename_i rs Y;split at G;rotate_left
 ·cases G
 rename_i ae;simp only[QW] at G;subst G;simp only[ap];refine Yield.of_lift r 1 fun φ r E0 X0 hC=>?_
 obtain⟨h1,h2⟩:=Dl r ab;obtain⟨h3,_,_⟩:=VE W (WS (φ:=φ) (h:=h) (w:=w) (M:=MM φ h M0) z);have af:=ZO h3;have Z:z.cells.toList.length=i.size:=by omega
 have O:Qi φ h w (MM φ h M0) (List.replicate len zs).flatten (((Array.range (len*i.size)).map (z.cells[·%z.cells.size]!)).toList):=by
  have e1:((Array.range (len*i.size)).map (z.cells[·%z.cells.size]!)).toList=(List.replicate len z.cells.toList).flatten:=by
   have:=CZ z.cells.toList i.size Z zo len;simp only[Array.toArray_toList] at this;rw[←this];simp[Array.toList_range]
  rw[e1];exact Xv h3 len
 obtain⟨c',h4,h5⟩:=Nc (placeC:=fun k=>some (k*i.size,i.size)) (fun k x hx=>hx) ps _ _ _ rs h1 h2 O Y;obtain⟨E,X⟩:=Xg (w:=w) (w':=w.alloc (.cells c' e)) (o:=.cells c' e) (b:=d) (k:=.box e rs) (φ:=φ) (h:=h) (M0:=M0) rfl rfl rfl rfl hd r.hp hC
 have J:RelB (Qx φ d w.heap.size) (upd h d (.box e rs)) (w.alloc (.cells c' e)) (MM (Qx φ d w.heap.size) (upd h d (.box e rs)) M0) w.heap.size (.box e rs) :=
  ⟨c',by show(w.heap.push _)[w.heap.size]?=_;simp,(QH (E.keeps M0) X).2 _ _ h5⟩
 refine⟨_,.slice (some ⟨w.heap.size,0,none⟩) len len,w.alloc (.cells c' e),Qx φ d w.heap.size,?_,.inl rfl,?_,Xh rfl hd r.hp hC E X J,E,X⟩
 ·have hq:(parts.map fun(x:Nat×Operand)=>(x.1,a.eval x.2)).toList=parts.toList.map fun(x:Nat×Operand)=>(x.1,a.eval x.2):=by simp
  have ac:len*i.size=len:=by rw[aa.2.1,Nat.mul_one]
  have U:¬(len*i.size>2 ^ 24):=by omega
  have h0:¬len*i.size=0:=by omega
  simp only[execOp,ho,Instr.buildSlice,Sem.run_bind,run_underlying ht,Q9 hi,Result.andThen_ok,U,if_false,h0,hq,zeroValue,typeInfo,program,Sem.run,hi,hz,Sem.run_pure,h4];simp[newRow,newObj,Sem.run]
 ·simp only[Qe];exact⟨by simp[Qx],e,rs,by simp[upd]⟩
theorem dL{l:List (Nat×Operand)}(G:∀x∈l.map (·.2),Zo T' x=Zo T x):isB T' l=isB T l:=by
 cases l with
|nil=>rfl
|cons p l=>obtain⟨i,x⟩:=p;simp only[isB,G x zq]
end
def TL(a b:Option KN):Option KN:=match a with|some x=>some x|none=>b
def Jy(P:Program)(o:Oper)(T:Nat→Option AV)(h:QN):Option KN :=
 match o.op with
|.move x=>Wt T x
|.assign x=>Wt T x
|.pick c x y=>BL T c x y
|.alloc ty=>match P.info? ty with
 |some i=>match i.zero with|some z=>qp o h ty (AP z)|none=>none
 |none=>none
|.box ty x=>match Zo T x with|some v=>qp o h ty v|none=>none
|.build t ps=>A8 P T t ps
|.buildSlice t n ps=>if n=0 then uO P h o.dst t ps else if isB T ps.toList=true then Hq P T h o.dst t n ps else Ho P T h o.dst t n ps
|.load ty x=>if nk (Zo T x) then Ii P T h ty x else ES P T h ty x
|.store ty x y=>if nk (Zo T x) then Dp P T h ty x y else AY P T h ty x y
|.makeSlice t x y=>EY P T h o.dst t x y
|.makeMap _ rsv=>Dv h o.dst rsv
|.lookup t x i ok=>TL (Xw P T h t x i ok) (JV P T h t x i ok)
|.mapUpdate t x i y=>TL (Vl P T h t x i y) (JW P T h t x i y)
|.nilCheck x=>if nk (Zo T x) then dC T h x else TL (UK T x) (Gs P T o)
|.fieldAddr t x f=>if nk (Zo T x) then XG P T h t x f else XE P T t x f
|.field t x f=>AZ P T t x f
|.indexAddr t x i=>if nk (Zo T x) then Jv P T h t x i else TL (UJ P T t x i) (FB P T t x i)
|.index t x i=>TL (PX P T t x i) (TL (C8 P T t x i) (Gs P T o))
|.slice t x lo hi J=>TL (Fx P T t x lo hi J) (Gs P T o)
|.extract x i=>Fu T x i
|.makeFunc f a b=>Ro T f a b
|.makeInterface t x=>Ju P T t x
|.typeAssert x _ t ok=>Hm P T x t ok
|.binOp op tx x y _=>TL (Ib T op x y) (TL (aEq P T op tx x y) (TL (Gs P T o) (P7 P T h op tx x y)))
|.unOp op _ x=>TL (aUn T op x) (Gs P T o)
|.convert src dst x=>TL (ww P T dst src x) (Gs P T o)
|.call ⟨.builtin .len,args,types⟩=>match args,types with|⟨[x]⟩,⟨[t]⟩=>if nk (Zo T x) then uM P T h t x else TL (lZ P T t x) (TL (wC P T t x) (TL (Gs P T o) (eP P T t x)))|_,_=>none
|.call ⟨.builtin .append,args,types⟩=>match args,types with|⟨[s,x]⟩,⟨[t,G]⟩=>if t=G then(if nk (Zo T s) then Td P T h o.dst t s x else LA P T h o.dst t s x) else none|_,_=>none
|.call ⟨.builtin .delete,args,types⟩=>match args,types with|⟨[x,i]⟩,⟨[t,k]⟩=>UL P T h t x i|_,_=>none
|.call ⟨.builtin .max,_,_⟩=>Gs P T o
|.call ⟨.builtin .min,_,_⟩=>Gs P T o
|_=>none
section
variable {P:Program}{o:Oper}{φ:Nat→Nat}{M0:ZK}{N:Nat}{D:DB}{T:Nat→Option AV}{h:QN}{a:Act}{w:World}
theorem Zc{u:KN}(hu:u.2.1=none∧Yield P o φ M0 h a w u.1 h):Yield P o φ M0 h a w u.1 (ap h u.2.1):=by rw[hu.1];exact hu.2
theorem Vm{x y:Option KN}{u:KN}(G:TL x y=some u):x=some u∨y=some u:=by
 unfold TL at G;split at G
 ·exact .inl G
 ·exact .inr G
theorem eQ(r:Zn φ M0 N D T h a w){u:KN}(G:Jy P o T h=some u):Yield P o φ M0 h a w u.1 (ap h u.2.1):=by
 unfold Jy at G;split at G
 case h_1 x ho =>
  unfold Wt at G;split at G
  ·rename_i v J;simp only[QW] at G;subst G;exact mY r (.inl ho) J
  ·cases G
 case h_2 x ho =>
  unfold Wt at G;split at G
  ·rename_i v J;simp only[QW] at G;subst G;exact mY r (.inr ho) J
  ·cases G
 case h_3 c x y ho=>have:=mZ (P:=P) r ho G;exact Zc ⟨this.1,this.2.2⟩
 case h_4 ty ho =>
  split at G
  ·rename_i i hi;split at G
   ·rename_i z W;exact lW r ho hi W G
   ·cases G
  ·cases G
 case h_5 ty x ho =>
  split at G
  ·rename_i v J;exact Qfg r ho J G
  ·cases G
 case h_6 t ps ho=>exact Zc (l8 r ho G)
 case h_7 t n ps ho =>
  split at G
  ·rename_i U;subst U;exact QbT r ho G
  ·split at G
   ·exact Ir r ho G
   ·exact qx r ho G
 case h_8 ty x ho=>split at G;exact Zc (eD r ho G);exact Zc (QbP r ho G)
 case h_9 ty x y ho=>split at G;exact dB r ho G;exact lU r ho G
 case h_10 t x y ho=>exact eF r ho G
 case h_11 t rsv ho=>exact uT r ho G
 case h_12 t x i ok ho=>exact(Vm G).elim (fun G=>Zc (dF r ho G)) (fun G=>Zc (wF r ho G))
 case h_13 t x i y ho=>exact(Vm G).elim (fun G=>kR r ho G) (fun G=>Si r ho G)
 case h_14 x ho=>split at G;exact Zc (QbU r ho G);exact(Vm G).elim (fun G=>Zc (wh r ho G)) (fun G=>Zc (pure_ok r G))
 case h_15 t x f ho=>split at G;exact Zc (qz r ho G);exact Zc (kD r ho G)
 case h_16 t x f ho=>exact Zc (lX r ho G)
 case h_17 t x i ho=>split at G;exact Zc (qy r ho G);exact(Vm G).elim (fun G=>Zc (kE r ho G)) (fun G=>Zc (qD r ho G))
 case h_18 t x i ho=>exact(Vm G).elim (fun G=>Zc (lY r ho G)) (fun G=>(Vm G).elim (fun G=>Zc (dD r ho G)) (fun G=>Zc (pure_ok r G)))
 case h_19 t x lo hi mx ho=>exact(Vm G).elim (fun G=>Zc (eB r ho G)) (fun G=>Zc (pure_ok r G))
 case h_20 x i ho=>exact Zc (uJ r ho G)
 case h_21 f l m ho=>exact Zc (vZ r ho G)
 case h_22 t x ho=>exact Zc (PZ r ho G)
 case h_23 x xt t ok ho=>exact Zc (qw r ho G)
 case h_24 op tx x y ty ho=>exact(Vm G).elim (fun G=>Zc (Qfj r ho G)) (fun G=>(Vm G).elim (fun G=>Zc (Qhk r ho G)) (fun G=>(Vm G).elim (fun G=>Zc (pure_ok r G)) (fun G=>Zc (eG r ho G))))
 case h_25 op tx x ho=>exact(Vm G).elim (fun G=>Zc (Qhi r ho G)) (fun G=>Zc (pure_ok r G))
 case h_26 src dst x ho=>exact(Vm G).elim (fun G=>Zc (QbR r ho G)) (fun G=>Zc (pure_ok r G))
 case h_27 args types ho =>
  split at G
  ·rename_i x t;split at G;exact Zc (QbS r ho G);exact(Vm G).elim (fun G=>Zc (Qfh r ho G)) (fun G=>(Vm G).elim (fun G=>Zc (QbV r ho G)) (fun G=>(Vm G).elim (fun G=>Zc (pure_ok r G)) (fun G=>Zc (Qb1 r ho G))))
  ·cases G
 case h_28 args types ho =>
  split at G
  ·rename_i s x t Y;split at G
   ·rename_i O;subst O;split at G;exact uN r ho G;exact bZ r ho G
   ·cases G
  ·cases G
 case h_29 args types ho =>
  split at G
  ·exact wG r ho G
  ·cases G
 case h_30=>exact Zc (pure_ok r G)
 case h_31=>exact Zc (pure_ok r G)
 case h_32=>cases G
end
inductive Kw where
|ret (x:AV)
|panic (x:AV)
def eT(φ:Nat→Nat)(h:QN)(w:World)(M:ZK):Kw→Ending→Prop|.ret x,e=>∃v,e=.returned v∧Qe φ h w M x v|.panic x,e=>∃v,e=.panicked [{ v:=v,recovered:=false }]∧Qe φ h w M x v
def Y0(P:Program)(f:FuncId)(args:List AV)(h:QN)(R:Kw→QN→Prop):Prop :=∀φ M0 w G,ZN φ h w M0→Qi φ h w (MM φ h M0) args G→Calls P f G.toArray w fun e w' =>∃φ' r h',R r h'∧ZN φ' h' w' M0∧Q8 φ h w φ' h' w'∧eT φ' h' w' (MM φ' h' M0) r e
def Lj:QN:=fun _=>none
def Za(P:Program)(f:FuncId)(args:List AV)(x:Kw):Prop:=Y0 P f args Lj fun r h'=>r=x∧h'=Lj
mutual
def Yk:AV→Bool|.p _=>true|.eptr _=>true|.tsl _ _ _=>false|.ptr _ _=>false|.vnil=>true|.vsl _ _ _=>false|.vptr _ _ _ _=>false|.yv _=>false|.mv _=>false|.bsl _ _=>false|.sfp _=>false|.iv _=>false|.agg cs=>Y5 cs|.tup cs=>Y5 cs|.fn _ a b=>Y5 a&&Y5 b|.ifc _ x=>Yk x
def Y5:List AV→Bool|[]=>true|x::xs=>Yk x&&Y5 xs
end
theorem Ji(hk:∀r o v,w.cell? ⟨r,o,none⟩=some v→¬M r o→w'.cell? ⟨r,o,none⟩=some v∧¬M' r o) :
  (∀(x:AV) (v:Value),Yk x=true→Qe φ h w M x v→Qe φ' h' w' M' x v)∧(∀(xs:List AV) (l:List Value),Y5 xs=true→Qi φ h w M xs l→Qi φ' h' w' M' xs l):=by
 obtain⟨kp,ke,kc⟩:=Z4 hk
 have key:∀n:Nat,(∀(x:AV),SizeOf.sizeOf x≤n→∀v,Yk x=true→Qe φ h w M x v→Qe φ' h' w' M' x v)∧(∀(xs:List AV),SizeOf.sizeOf xs≤n→∀l,Y5 xs=true→Qi φ h w M xs l→Qi φ' h' w' M' xs l):=by
  intro n
  induction n with
 |zero =>
   refine⟨fun x W=>?_,fun es W=>?_⟩
   ·cases x<;>simp at W
   ·cases es<;>simp at W
 |succ n ih =>
   obtain⟨Z,i2⟩:=ih;refine⟨fun x W v G J=>?_,fun xs W l G J=>?_⟩
   ·cases x with
   |p x=>simp only[Qe] at J ⊢;exact kp x v J
   |tsl S es t=>simp[Yk] at G
   |ptr b off=>simp[Yk] at G
   |vnil=>simp only[Qe] at J ⊢;exact J
   |vsl S t n=>simp[Yk] at G
   |vptr t n k f=>simp[Yk] at G
   |yv b=>simp[Yk] at G
   |mv b=>simp[Yk] at G
   |iv b=>simp[Yk] at G
   |bsl b n=>simp[Yk] at G
   |sfp b=>simp[Yk] at G
   |eptr cs =>
     simp only[Qe] at J ⊢;obtain⟨r,o,U,O⟩:=J;exact⟨r,o,U,kc cs r o O⟩
   |agg cs =>
     simp only[Qe,Yk] at J G ⊢;obtain⟨l,U,O⟩:=J;exact⟨l,U,i2 cs (by simp at W;omega) l G O⟩
   |tup cs =>
     simp only[Qe,Yk] at J G ⊢;obtain⟨l,U,O⟩:=J;exact⟨l,U,i2 cs (by simp at W;omega) l G O⟩
   |fn f a b =>
     simp only[Qe,Yk,ZG] at J G ⊢;obtain⟨l,m,U,O,Y⟩:=J;simp at W;exact⟨l,m,U,i2 a zo l G.1 O,i2 b zo m G.2 Y⟩
   |ifc t x =>
     simp only[Qe,Yk] at J G ⊢;obtain⟨y,U,O⟩:=J;exact⟨y,U,Z x (by simp at W;omega) y G O⟩
   ·cases xs with
   |nil=>simpa [Qi] using J
   |cons x xs =>
     simp only[Qi,Y5,ZG] at J G ⊢;simp at W;obtain⟨y,ys,U,O,Y⟩:=J;exact⟨y,ys,U,Z x zo y G.1 O,i2 xs zo ys G.2 Y⟩
 exact⟨fun x v=>(key (SizeOf.sizeOf x)).1 x (Kt _) v,fun xs l=>(key (SizeOf.sizeOf xs)).2 xs (Kt _) l⟩
mutual
def le:AV→AV→Prop|.tsl S es t,y=>y=.tsl S es t∨y=.p (.sl S es)|.p (.val v),y=>y=.p (.val v)∨(v=.slice none 0 0∧((∃S,y=.p (.sl S []))∨y=.vnil))|.agg xs,y=>∃ys,y=.agg ys∧Nu xs ys|.tup xs,y=>∃ys,y=.tup ys∧Nu xs ys|.vnil,y=>y=.vnil∨∃S,y=.p (.sl S [])|x,y=>y=x
def Nu:List AV→List AV→Prop|[],ys=>ys=[]|x::xs,ys=>∃z G,ys=z::G∧le x z∧Nu xs G
end
theorem Xc :
  (∀(x y:AV) (v:Value),le x y→Qe φ h w M x v→Qe φ h w M y v)∧(∀(xs ys:List AV) (l:List Value),Nu xs ys→Qi φ h w M xs l→Qi φ h w M ys l):=by
 have key:∀n:Nat,(∀(x:AV),SizeOf.sizeOf x≤n→∀y v,le x y→Qe φ h w M x v→Qe φ h w M y v)∧(∀(xs:List AV),SizeOf.sizeOf xs≤n→∀ys l,Nu xs ys→Qi φ h w M xs l→Qi φ h w M ys l):=by
  intro n
  induction n with
 |zero =>
   refine⟨fun x O=>?_,fun es O=>?_⟩
   ·cases x<;>simp at O
   ·cases es<;>simp at O
 |succ n ih =>
   obtain⟨i1,i2⟩:=ih;refine⟨fun x O y v G J=>?_,fun xs O ys l G J=>?_⟩
   ·cases x with
   |p x=>cases x with
    |val u =>
      simp only[le] at G;rcases G with rfl|⟨rfl,⟨S,rfl⟩|rfl⟩
      ·exact J
      ·simp only[Qe,QM] at J ⊢;exact .inr ⟨trivial,none,0,J⟩
      ·simp only[Qe,QM] at J ⊢;exact J
    |sl S es=>simp only[le] at G;subst G;exact J
   |tsl S es t =>
     simp only[le] at G;rcases G with rfl|rfl
     ·exact J
     ·simp only[Qe] at J ⊢;exact J.1
   |ptr b off=>simp only[le] at G;subst G;exact J
   |eptr cs=>simp only[le] at G;subst G;exact J
   |vnil =>
     simp only[le] at G;rcases G with rfl|⟨S,rfl⟩
     ·exact J
     ·simp only[Qe,QM] at J ⊢;exact .inr ⟨trivial,none,0,J⟩
   |vsl S t n=>simp only[le] at G;subst G;exact J
   |vptr t n k f=>simp only[le] at G;subst G;exact J
   |yv b=>simp only[le] at G;subst G;exact J
   |mv b=>simp only[le] at G;subst G;exact J
   |iv b=>simp only[le] at G;subst G;exact J
   |bsl b n=>simp only[le] at G;subst G;exact J
   |sfp b=>simp only[le] at G;subst G;exact J
   |agg cs =>
     simp only[le] at G;obtain⟨ys,rfl,U⟩:=G;simp only[Qe] at J ⊢;obtain⟨l,W,Y⟩:=J;exact⟨l,W,i2 cs (by simp at O;omega) ys l U Y⟩
   |tup cs =>
     simp only[le] at G;obtain⟨ys,rfl,U⟩:=G;simp only[Qe] at J ⊢;obtain⟨l,W,Y⟩:=J;exact⟨l,W,i2 cs (by simp at O;omega) ys l U Y⟩
   |fn f a b=>simp only[le] at G;subst G;exact J
   |ifc t x=>simp only[le] at G;subst G;exact J
   ·cases xs with
   |nil=>simp only[Nu] at G;subst G;exact J
   |cons x xs =>
     simp only[Nu] at G;obtain⟨z,zs,rfl,W,U⟩:=G;simp only[Qi] at J ⊢;simp at O;obtain⟨y,ys,Y,Z,h5⟩:=J;exact⟨y,ys,Y,i1 x zo z y W Z,i2 xs zo zs ys U h5⟩
 exact⟨fun x y v=>(key (SizeOf.sizeOf x)).1 x (Kt _) y v,fun xs ys l=>(key (SizeOf.sizeOf xs)).2 xs (Kt _) ys l⟩
def LV(P:Program)(N:Nat)(f:FuncId)(args:List AV)(dst:Option Tmp)(s:St)(K:St→Prop)(Q:AX→St→Prop):Prop :=
 ∀φ M0 D a w G,Zn φ M0 N D (look s.T) (look s.H) a w→Qi φ (look s.H) w (MM φ (look s.H) M0) args G→Calls P f G.toArray w fun e w' =>
  match e with
 |.returned v=>∃φ' s',K s'∧Zn φ' M0 N D (look s'.T) (look s'.H) (a.put dst v) w'∧Q8 φ (look s.H) w φ' (look s'.H) w'
 |.panicked chain=>Post N D Q φ M0 (look s.H) w (.panic chain) a w'
 |.outgrown=>False
theorem UM(Y:w'.os=w.os)(ht:w'.tape=w.tape)(hu:w'.output=w.output)(hs:w.heap.size≤w'.heap.size)(G:∀x,x<w.heap.size→w'.heap[x]?=w.heap[x]?)(r:ZN φ h w M0)(Z:Clear φ h w (w'.heap.size-w.heap.size)):Q8 φ h w φ h w'∧Y4 φ h w φ h w'∧ZN φ h w' M0:=by
 have J:∀b k,h b=some k→w'.heap[φ b]?=w.heap[φ b]?:=fun b k hb=>Z.lt r zo G (by rw[hb];simp)
 have E:Q8 φ h w φ h w':=⟨Y,ht,hu,hs,fun x O _=>G x O,fun x o O _=>by simp[World.cell?,G x O],fun _ _ _ x=>x,fun _ _ _ _ x=>⟨⟨_,x⟩,rfl⟩,
  fun t ty S n _ x=>⟨_,x,Kt _,fun _=>Yz (rfl) (by rw[J _ _ x])⟩,
  fun t ty S n _ x=>⟨_,x,Kt _,fun _=>⟨rfl,fun c hc=>⟨c,by rw[J _ _ x];exact hc,rfl⟩⟩⟩,fun _ _ _ _ W U=>⟨⟨_,W,U⟩,rfl⟩⟩
 have X:Y4 φ h w φ h w':=⟨fun _ _ _ x=>⟨⟨_,_,x⟩,rfl⟩,fun t ty S n x=>⟨_,x,Kt _,fun _=>Yz (rfl) (by rw[J _ _ x])⟩,
  fun t ty S n x=>⟨_,x,Kt _,fun _=>⟨rfl,fun c hc=>⟨c,by rw[J _ _ x];exact hc,rfl⟩⟩⟩,fun _ _ _ W U=>⟨⟨_,W,U⟩,rfl⟩⟩
 exact⟨E,X,r.inj,fun b k hb=>Z5 (E.keeps M0) X (J b k hb) (r.blk b k hb),r.fr,fun x o O=>Nat.lt_of_lt_of_le (r.lt x o O) hs,r.gm.evol E⟩
def MB(φ:Nat→Nat)(h:QN)(w:World)(M0:ZK):ZK:=fun x o=>MM φ h M0 x o∧x<w.heap.size
theorem wH{x o:Nat}(G:MB φ h w M0 x o):x<w.heap.size:=G.2
theorem Ak(O:ZN φ h w M0)(hs:w.heap.size≤w'.heap.size){o:Nat}(J:w'.cell? ⟨r,o,none⟩=some v)(G:¬MB φ h w M0 r o) :
  ¬MM (K5 φ w.heap.size (w'.heap.size-w.heap.size)) h M0 r o:=by
 have hlt:=CU J;rintro(⟨b,k,g1,g2,g3⟩|g1)
 ·unfold K5 at g2;by_cases e:φ b<w.heap.size
  ·simp only[e,if_true] at g2;exact G ⟨.inl ⟨b,k,g1,g2,g3⟩,by omega⟩
  ·simp only[e,if_false] at g2;omega
 ·exact G ⟨.inr g1,O.lt _ _ g1⟩
theorem Hr(U:∀x o,M x o→x<w.heap.size)(G:uG w)(O:∀g∈gfix,∀o,¬M g o):ZN φ Lj w M :=
 ⟨fun b c hb=>absurd rfl hb,(fun b k hb=>by cases hb),fun b hb=>absurd rfl hb,U,G,fun g G o h=>h.elim (fun⟨b,k,J,_⟩=>by cases J) (O g G o)⟩
theorem GM.mb(G:GM φ h w M0):∀g∈gfix,∀o,¬MB φ h w M0 g o:=fun g O o J=>G.m g O o J.1
theorem WM{x o:Nat}:¬TK φ Lj x o:=by rintro⟨b,k,G,_⟩;cases G
theorem P9{x:AV}(hc:Za P f args' (.ret x))(Y:Nu args args')(hn:Y5 args'=true)(O:Yk x=true)(hd:∀t,dst=some t→t<N)(hk:K (s.put dst x)):LV P N f args dst s K Q:=by
 intro φ M0 D a w vs r ha;have hH:ZN φ Lj w (MB φ (look s.H) w M0):=Hr (fun x o hm=>wH hm) r.hp.gm.w r.hp.gm.mb;have hM:∀r o v,w.cell? ⟨r,o,none⟩=some v→¬MM φ (look s.H) M0 r o→w.cell? ⟨r,o,none⟩=some v∧¬MM φ Lj (MB φ (look s.H) w M0) r o:=fun r o v G J=>⟨G,fun W=>W.elim WM (fun h4=>J h4.1)⟩
 refine(hc φ (MB φ (look s.H) w M0) w vs hH ((Ji hM).2 _ _ hn (Xc.2 _ _ _ Y ha))).mono ?_;rintro e w' ⟨φ',r',h',⟨rfl,rfl⟩,aa,E,v,rfl,hv⟩;have U:∀ro o v,w'.cell? ⟨ro,o,none⟩=some v→¬MM φ' Lj (MB φ (look s.H) w M0) ro o→w'.cell? ⟨ro,o,none⟩=some v∧¬MM (K5 φ w.heap.size (w'.heap.size-w.heap.size)) (look s.H) M0 ro o:=fun ro o v G J=>⟨G,Ak r.hp E.size G (fun W=>J (.inr W))⟩
 obtain⟨r,E1,X1,hC⟩:=r.lift (w'.heap.size-w.heap.size);obtain⟨E2,Z,H2⟩:=UM E.os E.tape E.output E.size (fun x O=>E.same x O (fun b hb=>absurd rfl hb)) r.hp hC;have r2:Zn _ M0 N D (look s.T) (look s.H) a w':=r.keep E2 Z H2;exact⟨_,s.put dst x,hk,r2.put hd ((Ji U).1 _ _ O hv),by cases dst<;>exact E1.trans E2⟩
end Go.Abs
