/-
  A part of the proof of a statement of the seat YtkhhdppjbakngaaGreatDoor.
-/
import Derived.Below
import Derived.Orders
import Derived.Lib.ItoaNum
import Derived.Sort.LoopGhostIn
import Derived.OrdersIn
import Derived.Scope
import Derived.Laws.AppendOwn
import Derived.Laws.StructEq
import Derived.Laws.MakeOwn
import Derived.RangeFuncRecord
import Derived.RangeFuncLeaves
import Derived.RangeFuncSeq
import Derived.Recover
import Derived.KernelRfl
import Derived.LoopNIn
import Derived.ProofKit
import Derived.OpenShut
import Derived.WideKeyArgs
import Derived.RowKit3
import Derived.JoinedCond
import Derived.ChangeSame
import Derived.Maps.RangeRun
import Derived.Laws.BytesString
import Derived.Lib.AppendStr
import Derived.ChangeKeysEq
import Derived.Test.YtkhhdppjbakngaaGreatDoorProg
import Derived.WalkKit
import Derived.Lib.Builder
import Derived.Laws.Externs
import Derived.Laws.IdiomCopy
import Derived.Laws.BitsLemmas
import Derived.Shelf.RegionOpenPlain
import Derived.Lib.UnsafeStr
import Derived.Lib.Strings
import Derived.Lib.Slices
import Derived.Lib.Walk
import Derived.Shelf.Strconv.Itoa3
import Derived.Shelf.Strconv.Itoa0
import Derived.Shelf.Strconv.Itoa1
import Derived.Shelf.LaysM
import Derived.Shelf.Strconv.Itoa2
import Derived.Lib.LaidTab
import Derived.Lib.Bytealg
import Derived.Lib.IndexMore
import Derived.Test.YtkhhdppjbakngaaGreatDoorRows
import Derived.Test.YtkhhdppjbakngaaGreatDoorTie
import Derived.Test.YtkhhdppjbakngaaGreatDoorCards
import Derived.LaidMore
import Derived.Lay
import Derived.MakeChecks
import Derived.SevenTiedAt
import Derived.LaidLaws
set_option linter.unusedVariables false
namespace Go
theorem Ki{p:Prop}[i:Decidable p](h:¬p):decide p=false:=decide_eq_false h
theorem KJ{p:Prop}[i:Decidable p](h:p):decide p=true:=decide_eq_true h
theorem Zj{α β:Type}(a:α)(f:α→Option β):(some a).bind f=f a:=Option.bind_some a f
theorem Q0{α:Type}{a b:α}:(some a=some b)=(a=b):=Option.some.injEq a b
theorem Z8{a b:Bool}:((a&&b)=true)=(a=true∧b=true):=Bool.and_eq_true a b
theorem zo{p:Prop}(h:p:=by omega):p:=h
theorem zq{p:Prop}(h:p:=by simp):p:=h
theorem X4{α:Type}{xs ys:List α}:(xs++ys).length=xs.length+ys.length:=List.length_append
theorem JF{α:Type}{a:α}{xs:List α}:(a::xs).length=xs.length+1:=List.length_cons
theorem FL{α:Type}{xs:Array α}{i:Nat}{b:α}:xs[i]?=some b↔∃h:i<xs.size,xs[i]=b:=Array.getElem?_eq_some_iff
theorem Rb{α:Type}{x:Option α}:x.isSome=true↔∃a,x=some a:=Option.isSome_iff_exists
theorem Gn{α β:Type}{x:Option α}{f:α→β}{b:β}:x.map f=some b↔∃a,x=some a∧f a=b:=Option.map_eq_some_iff
theorem EM{α:Type}{o:Option α}:o≠none↔∃x,o=some x:=Option.ne_none_iff_exists'
theorem Kj{α:Type}{a b:α}:cond true a b=a:=rfl
theorem Kk{α:Type}{a b:α}:cond false a b=b:=rfl
theorem WV{α β:Type}{f:α→β}{a:α}{l:List α}:(a::l).map f=f a::l.map f:=rfl
theorem WB{α β:Type}{xs:List α}(f:α→β):(xs.map f).length=xs.length:=List.length_map f
theorem XA{α β:Type}(a:α)(b:β)(c:α)(d:β):((a,b)=(c,d))=(a=c∧b=d):=Prod.mk.injEq a b c d
theorem Bg{p:Prop}[Decidable p]:(decide p=true)=p:=decide_eq_true_eq
theorem Kz(n:Nat):n≤n:=Nat.le_refl n
theorem FM{α:Type}{i:Nat}{l:List α}:(l.drop i).length=l.length-i:=List.length_drop
theorem X5{α:Type}{p:α→Bool}{l:List α}:l.all p=true↔∀x,x∈l→p x=true:=List.all_eq_true
theorem NS{α β:Type}{o:Option α}{f:α→Option β}{b:β}:o.bind f=some b↔∃a,o=some a∧f a=some b:=Option.bind_eq_some_iff
theorem DC{α:Type}{b:α}{xs:List α}{i:Nat}:xs[i]?=some b↔∃h:i<xs.length,xs[i]=b:=List.getElem?_eq_some_iff
end Go
namespace Go.Abs
open Go
variable {N:Nat}{P:Program}{a:Act}{b:Nat}{c:Code}{c':Array Value}{d:Nat}{dst:Option Tmp}{e:TypeId}{en:Array MapEntry}{f:FuncId}{hi:Option Operand}{i id:Nat}{ix:Operand}{j:Nat}{kt:TypeId}{len:Nat}{lo:Option Operand}{n:Nat}{o:Oper}{off:Nat}{ok:Bool}{op:BinOp}{parts:Array (Nat×Operand)}{r r':Nat}{ro:Option Nat}{tx ty:TypeId}{v:Value}{w w' w'':World}{x y:Operand}{z:Value}{α β:Type}{φ φ':Nat→Nat}
def kindsTab:List (List UInt8):=[[],[102,101,101,100,101,114],[99,97,98,108,101],[111,119,110,101,114],[99,111,110,116,114,97,99,116],[99,104,97,114,103,101,114],[98,97,121],[116,97,114,105,102,102]]
def gfix:List Nat:=[0,1]
def xx(w:World):Prop:=(∃ty G,w.heap[0]?=some (.cells (kindsTab.map fun k=>Value.string ⟨k.toArray⟩).toArray ty G))∧∃ty G,w.heap[1]?=some (.cells (Lib.pow10Tab.map fun z=>Value.int .u64 z).toArray ty G)
theorem yY(h:∀g∈gfix,w'.heap[g]?=w.heap[g]?)(hw:xx w):xx w':=by
 obtain⟨⟨ty,J,h0⟩,BK,G,O⟩:=hw;exact⟨⟨ty,J,by rw[h 0 (by simp[gfix])];exact h0⟩,BK,G,by rw[h 1 (by simp[gfix])];exact O⟩
theorem zi(hw:xx w):∀g∈gfix,g<w.heap.size:=fun g G=>by
 obtain⟨⟨ty,U,h0⟩,BK,J,O⟩:=hw;simp only[gfix,List.mem_cons,List.not_mem_nil,or_false] at G;rcases G with rfl|rfl
 ·exact(FL.1 h0).1
 ·exact(FL.1 O).1
theorem QdN(hw:xx w):∀g∈gfix,∀l,w.heap[g]?≠some (.deferred l):=fun g G l h=>by
 obtain⟨⟨ty,U,h0⟩,BK,J,O⟩:=hw;simp only[gfix,List.mem_cons,List.not_mem_nil,or_false] at G;rcases G with rfl|rfl
 ·rw[h0] at h;cases h
 ·rw[O] at h;cases h
inductive PV where
|val (x:Value)
|sl (S:Nat) (es:List (List PV))
variable {es':List (List PV)}
inductive AV where
|p (x:PV)
|tsl (S:Nat) (es:List (List PV)) (t:Nat)
|ptr (b off:Nat)
|eptr (cs:List PV)
|agg (cs:List AV)
|tup (vs:List AV)
|fn (f:Fn) (first captured:List AV)
|ifc (t:TypeId) (x:AV)
|vnil
|vsl (S t n:Nat)
|vptr (t n k f:Nat)
|yv (b:Nat)
|mv (b:Nat)
|bsl (b n:Nat)
|sfp (b:Nat)
|iv (b:Nat)
variable {T T':Nat→Option AV}{args args':List AV}{es:List (Bool×List UInt8×AV)}
structure R3 where
 N:Nat
 fn:FuncId
 ps:Array Tmp
 assign:Code
 body:Code
inductive Blk where
|box (ty:TypeId) (cs:List AV)
|arr (ty:TypeId) (S n:Nat)
|vec (ty:TypeId) (S:Nat) (es:List (List PV))
|lp (T:List (Nat×AV)) (nf:R3) (st:LoopState) (pd:Option Code)
|mp (es:List (Value×PV))
|mf (es:List (Bool×List UInt8×AV))
|mg (en:Array MapEntry) (clock:Nat) (es:List (Bool×List UInt8×AV))
|it (m clock:Nat) (seen:Array Nat)
variable {k0:Blk}
inductive OB where
|lp (T:List (Nat×AV)) (nf:R3)
|mp
def Blk.ob:Blk→Option OB|.lp T nf _ _=>some (.lp T nf)|.mp _=>some .mp|.mf _=>some .mp|.mg _ _ _=>some .mp|.it _ _ _=>some .mp|_=>none
def look{α:Type}:List (Nat×α)→Nat→Option α|[],_=>none|(k,v)::l,t=>if k=t then some v else look l t
abbrev QO:=Nat→Option Blk
variable {h h':QO}
abbrev ZM:=Nat→Nat→Prop
variable {M M' M0:ZM}
mutual
def QM(w:World)(M:ZM):PV→Value→Prop|.val x,v=>v=x|.sl S es,v=>(∃r o cap,v=.slice (some ⟨r,o,none⟩) es.length cap∧es.length≤cap∧VR w M S r o es)∨(es=[]∧∃a cap,v=.slice a 0 cap)
def VQ(w:World)(M:ZM)(r:Nat):Nat→List PV→Prop|_,[]=>True|o,c::cs=>(∃v,w.cell? ⟨r,o,none⟩=some v∧¬M r o∧v.oneCell'=true∧QM w M c v)∧VQ w M r (o+1) cs
def VR(w:World)(M:ZM)(S r:Nat):Nat→List (List PV)→Prop|_,[]=>True|o,e::es=>(e.length=S∧VQ w M r o e)∧VR w M S r (o+S) es
end
mutual
def Qe(φ:Nat→Nat)(h:QO)(w:World)(M:ZM):AV→Value→Prop|.p x,v=>QM w M x v|.tsl S es t,v=>QM w M (.sl S es) v∧∃ty n,h t=some (.arr ty S n)∧es.length≤n ∧ (es.length=n→(n=0∧v=.slice none 0 0∧w.heap[φ t]?=none)∨∃cap c,v=.slice (some ⟨φ t,0,none⟩) n cap∧w.heap[φ t]?=some (.cells c ty (0,0))∧c.size=cap*S∧n≤cap∧cap≤maxLen)|.ptr b off,v=>v=.pointer (some ⟨φ b,off,none⟩)∧∃ty cs,h b=some (.box ty cs)|.eptr cs,v=>∃r o,v=.pointer (some ⟨r,o,none⟩)∧VQ w M r o cs|.agg cs,v=>∃l:List Value,v=.agg l.toArray∧Qg φ h w M cs l|.tup G,v=>∃l:List Value,v=.tuple l.toArray∧Qg φ h w M G l|.fn f a b,v=>∃l m:List Value,v=.func f l.toArray m.toArray∧Qg φ h w M a l∧Qg φ h w M b m|.ifc t x,v=>∃y,v=.iface t y∧Qe φ h w M x y|.vnil,v=>v=.slice none 0 0|.vsl S t n,v=>v.oneCell'=true∧∃ty es,h t=some (.vec ty S es)∧n≤es.length ∧ (n=es.length→∃cap c,v=.slice (some ⟨φ t,0,none⟩) n cap∧w.heap[φ t]?=some (.cells c ty (0,0))∧c.size=cap*S∧n≤cap∧cap≤maxLen)|.vptr t n k f,v=>v.oneCell'=true∧∃ty S es,h t=some (.vec ty S es)∧n≤es.length∧(n=es.length→v=.pointer (some ⟨φ t,k*S+f,none⟩))|.yv b,v=>v=.func (.yield (φ b)) #[] #[]∧∃k T nf,h b=some k∧k.ob=some (.lp T nf)|.mv b,v=>v=.map (some (φ b))∧∃k,h b=some k∧k.ob=some .mp|.bsl b n,v=>v=.slice (some ⟨φ b,0,none⟩) n n∧∃ty cs,h b=some (.box ty cs)|.sfp b,v=>(v=.pointer none∨v=.pointer (some ⟨φ b,0,none⟩))∧∃ty cs,h b=some (.box ty cs)|.iv b,v=>v=.pointer (some ⟨φ b,0,none⟩)∧∃k,h b=some k∧k.ob=some .mp
def Qg(φ:Nat→Nat)(h:QO)(w:World)(M:ZM):List AV→List Value→Prop|[],l=>l=[]|x::xs,l=>∃y ys,l=y::ys∧Qe φ h w M x y∧Qg φ h w M xs ys
end
def R4(φ:Nat→Nat)(h:QO):ZM:=fun r o=>∃b k,h b=some k∧φ b=r∧(match k with|.arr _ S n=>n*S≤o|_=>True)
def MM(φ:Nat→Nat)(h:QO)(M0:ZM):ZM:=fun r o=>R4 φ h r o∨M0 r o
def Lu(es:List (Bool×List UInt8×AV)):List (Bool×List UInt8×AV):=es.filter (·.1)
def Tc(k:List UInt8):Value:=.string ⟨k.toArray⟩
def Hl(en:Array MapEntry)(clock:Nat):Prop:=(en.toList.map (·.born)).Pairwise (·<·)∧∀e∈en.toList,e.born<clock
def RelB(φ:Nat→Nat)(h:QO)(w:World)(M:ZM)(r:Nat):Blk→Prop|.box ty cs=>∃c:Array Value,w.heap[r]?=some (.cells c ty (0,0))∧Qg φ h w M cs c.toList|.arr ty S n=>(n=0∧w.heap[r]?=none)∨∃(c:Array Value) (cap:Nat),w.heap[r]?=some (.cells c ty (0,0))∧c.size=cap*S∧n≤cap∧cap≤maxLen|.vec ty S es=>∃(c:Array Value) (cap:Nat),w.heap[r]?=some (.cells c ty (0,0))∧c.size=cap*S∧es.length≤cap∧cap≤maxLen∧(∀e∈es,e.length=S) ∧ (∀v∈c.toList,v.oneCell'=true)∧Qg φ h w M (es.flatten.map .p) (c.toList.take (es.length*S))|.lp T nf st pd=>∃(tmps:Array Value) (d:Nat),w.heap[r]?=some (.loop { state:=st,pending:=pd,fn:=nf.fn,tmps:=tmps,params:=nf.ps,assign:=nf.assign,body:=nf.body,defers:=d })∧tmps.size=nf.N ∧ ∀t x,look T t=some x→t<nf.N∧Qe φ h w M x (tmps.getD t undef)|.mp es=>∃(en:Array MapEntry) (clock:Nat),w.heap[r]?=some (.map en clock)∧en.toList.map (·.key)=es.map (·.1)∧Qg φ h w M (es.map fun p=>.p p.2) (en.toList.map (·.val))|.mf es=>∃(en:Array MapEntry) (clock:Nat),w.heap[r]?=some (.map en clock)∧en.toList.map (·.key)=(Lu es).map (fun e=>Tc e.2.1)∧Qg φ h w M ((Lu es).map (·.2.2)) (en.toList.map (·.val))∧Hl en clock|.mg en clock es=>w.heap[r]?=some (.map en clock)∧en.toList.map (·.key)=(Lu es).map (fun e=>Tc e.2.1)∧Qg φ h w M ((Lu es).map (·.2.2)) (en.toList.map (·.val))∧Hl en clock|.it m clock seen=>w.heap[r]?=some (.mapIter (some (φ m)) clock seen clock)∧∃k,h m=some k∧k.ob=some .mp
structure GM(φ:Nat→Nat)(h:QO)(w:World)(M0:ZM):Prop where
 w:xx w
 m:∀g∈gfix,∀o,¬MM φ h M0 g o
structure ZQ(φ:Nat→Nat)(h:QO)(w:World)(M0:ZM):Prop where
 inj:∀b c,h b≠none→h c≠none→φ b=φ c→b=c
 blk:∀b k,h b=some k→RelB φ h w (MM φ h M0) (φ b) k
 fr:∀b,h b≠none→∀o,¬M0 (φ b) o
 lt:∀r o,M0 r o→r<w.heap.size
 gm:GM φ h w M0
def AKept(w w':World)(r r':Nat)(ty:TypeId):Prop :=(w.heap[r]?=none→w'.heap[r']?=none)∧(w.heap[r]?=none∨r'=r∧∀c,w.heap[r]?=some (.cells c ty (0,0))→∃c',w'.heap[r]?=some (.cells c' ty (0,0))∧c'.size=c.size)
theorem Yy(e:r'=r)(h:w'.heap[r]?=w.heap[r]?):AKept w w' r r' ty:=by
 subst e;exact⟨fun G=>h.trans G,.inr ⟨rfl,fun c hc=>⟨c,h.trans hc,rfl⟩⟩⟩
theorem Bh(h:w.heap[r]?=none)(h':w'.heap[r']?=none):AKept w w' r r' ty:=⟨fun _=>h',.inl h⟩
theorem Af{l:Array α}(h:l[r]?=none):l.size≤r:=Array.getElem?_eq_none_iff.1 h
theorem Z6{l:Array α}(h:l.size≤r):l[r]?=none:=Array.getElem?_eq_none_iff.2 h
theorem AKept.trans{J:Nat}(hs:w.heap.size≤w'.heap.size)(a:AKept w w' r r' ty)(b:AKept w' w'' r' J ty):AKept w w'' r J ty:=by
 refine⟨fun h=>b.1 (a.1 h),?_⟩;rcases a.2 with h7|⟨h7,Z⟩
 ·exact .inl h7
 rcases b.2 with U|⟨U,h10⟩
 ·rw[h7] at U;exact .inl (Z6 (Nat.le_trans hs (Af U)))
 refine .inr ⟨U.trans h7,fun c hc=>?_⟩;obtain⟨c',hc',W⟩:=Z c hc;rw[h7] at h10;obtain⟨Y,O,G⟩:=h10 c' hc';exact⟨Y,O,G.trans W⟩
structure Q8(φ:Nat→Nat)(h:QO)(w:World)(φ':Nat→Nat)(h':QO)(w':World):Prop where
 os:w'.os=w.os
 tape:w'.tape=w.tape
 output:w'.output=w.output
 size:w.heap.size≤w'.heap.size
 same:∀r,r<w.heap.size→(∀b,h b≠none→φ b≠r)→w'.heap[r]?=w.heap[r]?
 cell:∀r o,r<w.heap.size→¬R4 φ h r o→w'.cell? ⟨r,o,none⟩=w.cell? ⟨r,o,none⟩
 mu:∀r o,r<w.heap.size→R4 φ' h' r o→R4 φ h r o
 kb:∀b ty cs,1000≤b→h b=some (.box ty cs)→(∃cs',h' b=some (.box ty cs'))∧φ' b=φ b
 kt:∀t ty S n,1000≤t→h t=some (.arr ty S n)→∃n',h' t=some (.arr ty S n')∧n≤n' ∧
  (n'=n→AKept w w' (φ t) (φ' t) ty)
 kv:∀t ty S es,1000≤t→h t=some (.vec ty S es)→∃es',h' t=some (.vec ty S es')∧es.length≤es'.length ∧
  (es'.length=es.length→φ' t=φ t∧∀c,w.heap[φ t]?=some (.cells c ty (0,0))→∃c',w'.heap[φ t]?=some (.cells c' ty (0,0))∧c'.size=c.size)
 ko:∀b k x,1000≤b→h b=some k→k.ob=some x→(∃k',h' b=some k'∧k'.ob=some x)∧φ' b=φ b
theorem Q8.refl(φ:Nat→Nat)(h:QO)(w:World):Q8 φ h w φ h w :=
 ⟨rfl,rfl,rfl,Kz _,fun _ _ _=>rfl,fun _ _ _ _=>rfl,fun _ _ _ x=>x,fun _ _ _ _ x=>⟨⟨_,x⟩,rfl⟩,fun _ _ _ _ _ x=>⟨_,x,Kz _,fun _=>Yy (rfl) rfl⟩,fun _ _ _ _ _ x=>⟨_,x,Kz _,fun _=>⟨rfl,fun c hc=>⟨c,hc,rfl⟩⟩⟩,fun _ _ _ _ J G=>⟨⟨_,J,G⟩,rfl⟩⟩
theorem ME{k:Blk}(hb:h b=some k):∃o,R4 φ h (φ b) o:=by
 cases k with
|box ty cs=>exact⟨0,b,_,hb,rfl,trivial⟩
|arr ty S n=>exact⟨n*S,b,_,hb,rfl,Kz _⟩
|vec ty S es=>exact⟨0,b,_,hb,rfl,trivial⟩
|lp T nf st pd=>exact⟨0,b,_,hb,rfl,trivial⟩
|mp es=>exact⟨0,b,_,hb,rfl,trivial⟩
|mf es=>exact⟨0,b,_,hb,rfl,trivial⟩
|mg en G es=>exact⟨0,b,_,hb,rfl,trivial⟩
|it m G sn=>exact⟨0,b,_,hb,rfl,trivial⟩
theorem GM.evol(G:GM φ h w M0)(E:Q8 φ h w φ' h' w'):GM φ' h' w' M0:=by
 have U:∀g∈gfix,∀b,h b≠none→φ b≠g:=fun g J b hb e=>by
  obtain⟨k,Y⟩:=EM.1 hb;obtain⟨o,W⟩:=ME (φ:=φ) Y;rw[e] at W;exact G.m g J o (.inl W)
 refine⟨yY (fun g J=>E.same g (zi G.w g J) (U g J)) G.w,fun g J o O=>?_⟩;rcases O with O|O
 ·exact G.m g J o (.inl (E.mu g o (zi G.w g J) O))
 ·exact G.m g J o (.inr O)
theorem GM.sub{J:ZM}(G:GM φ h w M0)(hs:∀r o,MM φ' h' J r o→MM φ h M0 r o):GM φ' h' w J :=
 ⟨G.w,fun g O o U=>G.m g O o (hs g o U)⟩
theorem Q8.trans{U:Nat→Nat}{ab:QO}(a:Q8 φ h w φ' h' w')(b:Q8 φ' h' w' U ab w''):Q8 φ h w U ab w'':=by
 have Z:∀r,r<w.heap.size→r<w'.heap.size:=fun r G=>Nat.lt_of_lt_of_le G a.size
 refine⟨b.os.trans a.os,b.tape.trans a.tape,b.output.trans a.output,Nat.le_trans a.size b.size,?_,?_,?_,?_,?_,?_,?_⟩
 ·intro r G ad;have O:=a.same r G ad;refine(b.same r (Z r G) ?_).trans O;intro c hc aj;cases hk:h' c with
 |none=>exact hc hk
 |some k =>
   obtain⟨o,ho⟩:=ME (φ:=φ') hk;rw[aj] at ho;obtain⟨b0,k0,ai,ah,_⟩:=a.mu r o G ho;exact ad b0 (by rw[ai];simp) ah
 ·intro r o G hm;exact(b.cell r o (Z r G) (fun J=>hm (a.mu r o G J))).trans (a.cell r o G hm)
 ·intro r o G hm;exact a.mu r o G (b.mu r o (Z r G) hm)
 ·intro c ty cs hc hb;obtain⟨⟨cs',O⟩,J⟩:=a.kb c ty cs hc hb;obtain⟨Y,h4⟩:=b.kb c ty cs' hc O;exact⟨Y,h4.trans J⟩
 ·intro t ty S n ht hb;obtain⟨n',O,J,Y⟩:=a.kt t ty S n ht hb;obtain⟨W,h4,h5,h6⟩:=b.kt t ty S n' ht O;exact⟨W,h4,Nat.le_trans J h5,fun e=>(Y zo).trans a.size (h6 zo)⟩
 ·intro t ty S n ht hb;obtain⟨n',O,J,Y⟩:=a.kv t ty S n ht hb;obtain⟨W,h4,h5,h6⟩:=b.kv t ty S n' ht O;refine⟨W,h4,Nat.le_trans J h5,fun e=>?_⟩;obtain⟨h7,h8⟩:=Y zo;obtain⟨h9,h10⟩:=h6 zo;refine⟨h9.trans h7,fun c hc=>?_⟩;obtain⟨c',hc',ae⟩:=h8 c hc;rw[h7] at h10;obtain⟨af,aa,ac⟩:=h10 c' hc';exact⟨af,aa,ac.trans ae⟩
 ·intro c k x hc hb ho;obtain⟨⟨k',O,J⟩,Y⟩:=a.ko c k x hc hb ho;obtain⟨h4,h5⟩:=b.ko c k' x hc O J;exact⟨h4,h5.trans Y⟩
theorem DD{o:Nat}(h:w.cell? ⟨r,o,none⟩=some v):r<w.heap.size:=by
 unfold World.cell? at h;dsimp only at h;split at h
 ·rename_i hc;exact(FL.1 hc).1
 ·cases h
theorem Z0(hk:∀r o v,w.cell? ⟨r,o,none⟩=some v→¬M r o→w'.cell? ⟨r,o,none⟩=some v∧¬M' r o) :
  (∀(x:PV) (v:Value),QM w M x v→QM w' M' x v)∧(∀(es:List (List PV)) (S r o:Nat),VR w M S r o es→VR w' M' S r o es)∧(∀(cs:List PV) (r o:Nat),VQ w M r o cs→VQ w' M' r o cs):=by
 have key:∀n:Nat,(∀(x:PV),SizeOf.sizeOf x≤n→∀v,QM w M x v→QM w' M' x v)∧(∀(es:List (List PV)),SizeOf.sizeOf es≤n→∀S r o,VR w M S r o es→VR w' M' S r o es)∧(∀(cs:List PV),SizeOf.sizeOf cs≤n→∀r o,VQ w M r o cs→VQ w' M' r o cs):=by
  intro n
  induction n with
 |zero =>
   refine⟨fun x G=>?_,fun es G=>?_,fun cs G=>?_⟩
   ·cases x<;>simp at G
   ·cases es<;>simp at G
   ·cases cs<;>simp at G
 |succ n Z =>
   obtain⟨Y,i2,i3⟩:=Z;refine⟨fun x G=>?_,fun es G=>?_,fun cs G=>?_⟩
   ·intro v J;cases x with
   |val x=>simpa [QM] using J
   |sl S es =>
     simp only[QM] at J ⊢;rcases J with⟨r,o,cap,U,O⟩|O
     ·exact .inl ⟨r,o,cap,U,O.1,i2 es (by simp at G;omega) S r o O.2⟩
     ·exact .inr O
   ·intro S r o J;cases es with
   |nil=>simp[VR]
   |cons e es =>
     simp only[VR] at J ⊢;simp at G;exact⟨⟨J.1.1,i3 e zo r o J.1.2⟩,i2 es zo S r _ J.2⟩
   ·intro r o J;cases cs with
   |nil=>simp[VQ]
   |cons c cs =>
     simp only[VQ] at J ⊢;simp at G;obtain⟨⟨v,U,O,h7,h3⟩,h4⟩:=J;obtain⟨W,h6⟩:=hk r o v U O;exact⟨⟨v,W,h6,h7,Y c zo v h3⟩,i3 cs zo r _ h4⟩
 exact⟨fun x v=>(key (SizeOf.sizeOf x)).1 x (Kz _) v,fun es=>(key (SizeOf.sizeOf es)).2.1 es (Kz _),fun cs=>(key (SizeOf.sizeOf cs)).2.2 cs (Kz _)⟩
theorem Q8.keeps(E:Q8 φ h w φ' h' w')(M0:ZM)(r o:Nat)(v:Value)(hc:w.cell? ⟨r,o,none⟩=some v)(O:¬MM φ h M0 r o) :
  w'.cell? ⟨r,o,none⟩=some v∧¬MM φ' h' M0 r o:=by
 have G:=DD hc;have J:¬R4 φ h r o:=fun x=>O (.inl x)
 refine⟨(E.cell r o G J).trans hc,fun x=>?_⟩;rcases x with x|x
 ·exact J (E.mu r o G x)
 ·exact O (.inr x)
structure YZ(φ:Nat→Nat)(h:QO)(w:World)(φ':Nat→Nat)(h':QO)(w':World):Prop where
 b:∀b ty cs,h b=some (.box ty cs)→(∃ty' cs',h' b=some (.box ty' cs'))∧φ' b=φ b
 t:∀t ty S n,h t=some (.arr ty S n)→∃n',h' t=some (.arr ty S n')∧n≤n' ∧
  (n'=n→AKept w w' (φ t) (φ' t) ty)
 v:∀t ty S es,h t=some (.vec ty S es)→∃es',h' t=some (.vec ty S es')∧es.length≤es'.length ∧
  (es'.length=es.length→φ' t=φ t∧∀c,w.heap[φ t]?=some (.cells c ty (0,0))→∃c',w'.heap[φ t]?=some (.cells c' ty (0,0))∧c'.size=c.size)
 o:∀b k x,h b=some k→k.ob=some x→(∃k',h' b=some k'∧k'.ob=some x)∧φ' b=φ b
theorem QH(hk:∀r o v,w.cell? ⟨r,o,none⟩=some v→¬M r o→w'.cell? ⟨r,o,none⟩=some v∧¬M' r o)(X:YZ φ h w φ' h' w') :
  (∀(x:AV) (v:Value),Qe φ h w M x v→Qe φ' h' w' M' x v)∧(∀(xs:List AV) (l:List Value),Qg φ h w M xs l→Qg φ' h' w' M' xs l):=by
 obtain⟨kp,ke,kc⟩:=Z0 hk
 have key:∀n:Nat,(∀(x:AV),SizeOf.sizeOf x≤n→∀v,Qe φ h w M x v→Qe φ' h' w' M' x v)∧(∀(xs:List AV),SizeOf.sizeOf xs≤n→∀l,Qg φ h w M xs l→Qg φ' h' w' M' xs l):=by
  intro n
  induction n with
 |zero =>
   refine⟨fun x hx=>?_,fun es hx=>?_⟩
   ·cases x<;>simp at hx
   ·cases es<;>simp at hx
 |succ n ih =>
   obtain⟨i1,i2⟩:=ih;refine⟨fun x hx v G=>?_,fun xs hx l G=>?_⟩
   ·cases x with
   |p x=>simp only[Qe] at G ⊢;exact kp x v G
   |tsl S es t =>
     simp only[Qe] at G ⊢;obtain⟨O,ty,n,J,Y,h5⟩:=G;obtain⟨n',U,W,Z⟩:=X.t t ty S n J;refine⟨kp _ _ O,ty,n',U,by omega,fun he=>?_⟩;have:n'=n:=by omega
     rcases h5 zo with⟨g0,g1,g2⟩|⟨cap,c,g1,g2,g3,g6,g7⟩
     ·exact .inl ⟨by omega,g1,(Z this).1 g2⟩
     rcases(Z this).2 with e4|⟨e4,e5⟩
     ·rw[e4] at g2;cases g2
     obtain⟨c',g4,g5⟩:=e5 c g2;exact .inr ⟨cap,c',by rw[e4,this];exact g1,by rw[e4];exact g4,by rw[g5,g3],by omega,g7⟩
   |ptr b off =>
     simp only[Qe] at G ⊢;obtain⟨O,ty,cs,J⟩:=G;obtain⟨U,W⟩:=X.b b ty cs J;exact⟨by rw[W];exact O,U⟩
   |bsl b n =>
     simp only[Qe] at G ⊢;obtain⟨O,ty,cs,J⟩:=G;obtain⟨U,W⟩:=X.b b ty cs J;exact⟨by rw[W];exact O,U⟩
   |sfp b =>
     simp only[Qe] at G ⊢;obtain⟨O,ty,cs,J⟩:=G;obtain⟨U,W⟩:=X.b b ty cs J;exact⟨by rw[W];exact O,U⟩
   |eptr cs =>
     simp only[Qe] at G ⊢;obtain⟨r,o,O,J⟩:=G;exact⟨r,o,O,kc cs r o J⟩
   |agg cs =>
     simp only[Qe] at G ⊢;obtain⟨l,O,J⟩:=G;exact⟨l,O,i2 cs (by simp at hx;omega) l J⟩
   |tup cs =>
     simp only[Qe] at G ⊢;obtain⟨l,O,J⟩:=G;exact⟨l,O,i2 cs (by simp at hx;omega) l J⟩
   |fn f a b =>
     simp only[Qe] at G ⊢;obtain⟨l,m,O,J,Y⟩:=G;simp at hx;exact⟨l,m,O,i2 a zo l J,i2 b zo m Y⟩
   |ifc t x =>
     simp only[Qe] at G ⊢;obtain⟨y,O,J⟩:=G;exact⟨y,O,i1 x (by simp at hx;omega) y J⟩
   |vnil=>simp only[Qe] at G ⊢;exact G
   |vsl S t n =>
     simp only[Qe] at G ⊢;obtain⟨O,ty,es,J,Y,h5⟩:=G;obtain⟨es',U,W,Z⟩:=X.v t ty S es J;refine⟨O,ty,es',U,by omega,fun he=>?_⟩;have:es'.length=es.length:=by omega
     obtain⟨e4,e5⟩:=Z this;obtain⟨cap,c,g1,g2,g3,g6,g7⟩:=h5 zo;obtain⟨c',g4,g5⟩:=e5 c g2;exact⟨cap,c',by rw[e4];exact g1,by rw[e4];exact g4,by rw[g5,g3],g6,g7⟩
   |vptr t n k f =>
     simp only[Qe] at G ⊢;obtain⟨O,ty,S,es,J,Y,h5⟩:=G;obtain⟨es',U,W,Z⟩:=X.v t ty S es J;refine⟨O,ty,S,es',U,by omega,fun he=>?_⟩;obtain⟨e4,e5⟩:=Z zo;rw[e4];exact h5 zo
   |yv b =>
     simp only[Qe] at G ⊢;obtain⟨O,k,T,nf,J,Y⟩:=G;obtain⟨⟨k',U,W⟩,Z⟩:=X.o b k _ J Y;exact⟨by rw[Z];exact O,k',T,nf,U,W⟩
   |mv b =>
     simp only[Qe] at G ⊢;obtain⟨O,k,J,Y⟩:=G;obtain⟨⟨k',U,W⟩,Z⟩:=X.o b k _ J Y;exact⟨by rw[Z];exact O,k',U,W⟩
   |iv b =>
     simp only[Qe] at G ⊢;obtain⟨O,k,J,Y⟩:=G;obtain⟨⟨k',U,W⟩,Z⟩:=X.o b k _ J Y;exact⟨by rw[Z];exact O,k',U,W⟩
   ·cases xs with
   |nil=>simpa [Qg] using G
   |cons x xs =>
     simp only[Qg] at G ⊢;simp at hx;obtain⟨y,ys,O,J,Y⟩:=G;exact⟨y,ys,O,i1 x zo y J,i2 xs zo ys Y⟩
 exact⟨fun x v=>(key (SizeOf.sizeOf x)).1 x (Kz _) v,fun xs l=>(key (SizeOf.sizeOf xs)).2 xs (Kz _) l⟩
def upd(h:QO)(b:Nat)(k:Blk):QO:=fun x=>if b=x then some k else h x
theorem tZ(H:List (Nat×Blk))(b:Nat)(k:Blk):look ((b,k)::H)=upd (look H) b k:=rfl
structure St where
 T:List (Nat×AV)
 H:List (Nat×Blk)
variable {K:St→Prop}{s s':St}
def St.put(s:St)(d:Option Tmp)(x:AV):St:=match d with|some d=>⟨(d,x)::s.T,s.H⟩|none=>s
structure DB where
 l:List Deferred
 base:Nat
variable {D:DB}
def Marks(φ:Nat→Nat)(D:DB)(h:QO)(a:Act)(w:World):Prop :=D.base≤w.heap.size∧∃G:List Nat,a.defers=(G.map fun r=>({ target:=.collected r,args:=#[] }:Deferred))++D.l∧G.Nodup∧∀r∈G,D.base≤r∧w.heap[r]?=some (.deferred (some []))∧∀b,h b≠none→φ b≠r
structure Zo(φ:Nat→Nat)(M0:ZM)(N:Nat)(D:DB)(T:Nat→Option AV)(h:QO)(a:Act)(w:World):Prop where
 dfs:Marks φ D h a w
 siz:a.tmps.size=N
 hp:ZQ φ h w M0
 tm:∀t x,T t=some x→t<N∧Qe φ h w (MM φ h M0) x (a.tmps.getD t undef)
inductive AX where
|normal
|exit (id:Nat)
|ret
|panic (x:AV)
variable {Q:AX→St→Prop}
def XF(φ:Nat→Nat)(h:QO)(w:World)(M:ZM):AX→Exit→Prop|.normal,e=>e=.normal|.exit i,e=>e=.exit i|.ret,e=>e=.ret|.panic x,e=>∃v,e=.panic [{ v:=v,recovered:=false }]∧Qe φ h w M x v
def Post(N:Nat)(D:DB)(Q:AX→St→Prop)(φ:Nat→Nat)(M0:ZM)(h:QO)(w:World):Exit→Act→World→Prop:=fun e G w' =>∃φ' x s',Q x s'∧Zo φ' M0 N D (look s'.T) (look s'.H) G w'∧Q8 φ h w φ' (look s'.H) w'∧XF φ' (look s'.H) w' (MM φ' (look s'.H) M0) x e
abbrev wd(ro:Option Nat):Fence:={ Fence.wide with round:=ro }
def Ex(P:Program)(N:Nat)(ro:Option Nat)(c:Code)(s:St)(Q:AX→St→Prop):Prop :=∀φ M0 D a w,Zo φ M0 N D (look s.T) (look s.H) a w→c.wpIn (wd ro) 0 P (Post N D Q φ M0 (look s.H) w) a w
theorem Post.trans{e:Exit}(E:Q8 φ h w φ' h' w')(p:Post N D Q φ' M0 h' w' e a w''):Post N D Q φ M0 h w e a w'':=by
 obtain⟨G,x,s',U,O,W,J⟩:=p;exact⟨G,x,s',U,O,E.trans W,J⟩
theorem Sl{Q':AX→St→Prop}(h:Ex P N ro c s Q)(G:∀x s',Q x s'→Q' x s'):Ex P N ro c s Q' :=
 fun φ M0 D a w r=>wpIn_mono (h φ M0 D a w r) fun _ _ _ ⟨φ',x,s',U,O,W,J⟩=>⟨φ',x,s',G _ _ U,O,W,J⟩
def andThen(K:St→Prop)(Q:AX→St→Prop):AX→St→Prop|.normal,s=>K s|x,s=>Q x s
theorem zk{x y:Code}(h:Ex P N ro x s (andThen (fun s'=>Ex P N ro y s' Q) Q)):Ex P N ro (.seq x y) s Q:=by
 intro φ M0 D a w r;refine wpIn_seq (wpIn_mono (h φ M0 D a w r) ?_);rintro e W w' ⟨φ',k,s',O,J,U,G⟩;cases k with
|normal =>
  simp only[XF] at G;subst G;exact wpIn_mono (O φ' M0 D W w' J) fun _ _ _ p=>p.trans U
|exit i=>simp only[XF] at G;subst G;exact⟨φ',.exit i,s',O,J,U,rfl⟩
|ret=>simp only[XF] at G;subst G;exact⟨φ',.ret,s',O,J,U,rfl⟩
|panic v=>obtain⟨u,Y,Z⟩:=G;subst Y;exact⟨φ',.panic v,s',O,J,U,u,rfl,Z⟩
theorem Qa4(h:Q .normal s):Ex P N ro .skip s Q :=
 fun φ _ _ _ w r=>wpIn_skip ⟨φ,.normal,s,h,r,Q8.refl _ _ _,rfl⟩
theorem QdO(h:Q .ret s):Ex P N ro .ret s Q :=
 fun φ _ _ _ w r=>wpIn_ret ⟨φ,.ret,s,h,r,Q8.refl _ _ _,rfl⟩
theorem Qa5(h:Q (.exit id) s):Ex P N ro (.exit id) s Q :=
 fun φ _ _ _ w r=>wpIn_exit ⟨φ,.exit id,s,h,r,Q8.refl _ _ _,rfl⟩
theorem lc{l:Nat}(h:Q .normal s):Ex P N ro (.label l) s Q :=
 fun φ _ _ _ w r=>wpIn_label ⟨φ,.normal,s,h,r,Q8.refl _ _ _,rfl⟩
def inBlock(id:Nat)(Q:AX→St→Prop):AX→St→Prop|.exit i,s=>if i=id then Q .normal s else Q (.exit i) s|x,s=>Q x s
theorem lg(h:Ex P N ro c s (inBlock id Q)):Ex P N ro (.block id c) s Q:=by
 intro φ M0 D a w r;refine wpIn_block (wpIn_mono (h φ M0 D a w r) ?_);rintro e Z w' ⟨φ',k,s',G,O,U,J⟩;cases k with
|normal=>simp only[XF] at J;subst J;exact⟨φ',.normal,s',G,O,U,rfl⟩
|exit i =>
  simp only[XF] at J;subst J;simp only[inBlock] at G;by_cases hi:i=id
  ·simp only[hi,if_true] at G;show Exit.inBlock id _ _ _ _;simp only[Exit.inBlock,hi,if_true];exact⟨φ',.normal,s',G,O,U,rfl⟩
  ·simp only[hi,if_false] at G;show Exit.inBlock id _ _ _ _;simp only[Exit.inBlock,hi,if_false];exact⟨φ',.exit i,s',G,O,U,rfl⟩
|ret=>simp only[XF] at J;subst J;exact⟨φ',.ret,s',G,O,U,rfl⟩
|panic v=>obtain⟨u,W,Y⟩:=J;subst W;exact⟨φ',.panic v,s',G,O,U,u,rfl,Y⟩
theorem Xp{b:Frame}{k:List Item}{cs:List Frame}:step P (lone (b.atR a (.code (.scope c)::k)) cs w)=.next (lone (b.atR a (.code c::.inScope c::k)) cs w) :=
 step_lone_go (by simp[stepG,stepG.exec,Frame.atR])
theorem Oq{b:Frame}{k:List Item}{cs:List Frame}:step P (lone (b.atR a (.inScope c::k)) cs w)=.next (lone (b.atR a k) cs w) :=
 step_lone_go (by simp[stepG,stepG.exec,Frame.atR])
theorem xy{F:Fence}{Q:Exit→Act→World→Prop}(h:c.wpIn F n P (Exit.noGoto Q) a w):(Code.scope c).wpIn F n P Q a w:=by
 intro b k cs Y hb Z;have h0:(lone (b.atR a (.code (.scope c)::k)) cs w).fenced P F:=fenced_calm hb Z rfl;obtain⟨e,J,O,U,G⟩:=h b (.inScope c::k) cs Y hb Z;cases e with
|normal=>exact⟨.normal,J,O,U,.head h0 Xp (StepsIn.trans G (.one (fenced_calm hb Z rfl) Oq))⟩
|exit id =>
  refine⟨.exit id,J,O,U,fun k' hk=>.head h0 Xp (G.1 k' (by simp[exitTo,hk])),fun h1 h2=>?_⟩;obtain⟨W,g1,g2⟩:=G.2 h1 (by simp[exitTo,h2]);exact⟨W,g1,.head h0 Xp g2⟩
|goto l=>exact U.elim
|ret=>exact⟨_,J,O,U,.of_steps (.one h0 Xp) G⟩
|panic ch=>exact⟨_,J,O,U,.of_steps (.one h0 Xp) G⟩
|outgrown=>exact⟨_,J,O,U,.of_steps (.one h0 Xp) G⟩
theorem lh(h:Ex P N ro c s Q):Ex P N ro (.scope c) s Q:=by
 intro φ M0 D a w r;refine xy (wpIn_mono (h φ M0 D a w r) ?_);rintro e Z w' ⟨φ',k,s',O,J,U,G⟩;cases k with
|normal=>simp only[XF] at G;subst G;exact⟨φ',.normal,s',O,J,U,rfl⟩
|exit i=>simp only[XF] at G;subst G;exact⟨φ',.exit i,s',O,J,U,rfl⟩
|ret=>simp only[XF] at G;subst G;exact⟨φ',.ret,s',O,J,U,rfl⟩
|panic v=>obtain⟨u,W,Y⟩:=G;subst W;exact⟨φ',.panic v,s',O,J,U,u,rfl,Y⟩
def Ag:Value→AV|.agg cs=>.agg (cs.toList.map fun c=>.p (.val c))|v=>.p (.val v)
def Zp(T:Nat→Option AV):Operand→Option AV|.tmp t=>T t|.const v=>some (Ag v)|.func f=>some (.p (.val (.func (.func f) #[] #[])))|.global _=>none
theorem GG{φ:Nat→Nat}{h:QO}{w:World}{M:ZM}:∀l:List Value,Qg φ h w M (l.map fun c=>.p (.val c)) l
|[]=>by simp[Qg]
|x::l=>by simp only[WV,Qg];exact⟨x,l,rfl,by simp[Qe,QM],GG l⟩
theorem WC(v:Value):Qe φ h w M (Ag v) v:=by
 cases v with
|agg cs=>simp only[Ag,Qe];exact⟨cs.toList,by simp,GG _⟩
|_=>simp[Ag,Qe,QM]
theorem Zo.ev(r:Zo φ M0 N D T h a w){v:AV}(G:Zp T x=some v) :
  Qe φ h w (MM φ h M0) v (a.eval x):=by
 cases x with
|tmp t=>exact(r.tm t v G).2
|const c=>simp only[Zp,Q0] at G;subst G;exact WC _
|func f=>simp only[Zp,Q0] at G;subst G;simp[Qe,QM,Act.eval]
|global g=>cases G
theorem zl{c:Operand}{x y:Code}(b:Bool)(hc:Zp (look s.T) c=some (.p (.val (.bool b))))(J:b=true→Ex P N ro x s Q)(hf:b=false→Ex P N ro y s Q):Ex P N ro (.cond c x y) s Q:=by
 intro φ M0 D a w r;have G:=r.ev hc;simp only[Qe,QM] at G;cases b
 ·exact wpIn_cond_false G (hf rfl φ M0 D a w r)
 ·exact wpIn_cond_true G (J rfl φ M0 D a w r)
def Weak(N:Nat)(s s':St):Prop:=∀φ M0 D a w,Zo φ M0 N D (look s.T) (look s.H) a w→∃φ',Zo φ' M0 N D (look s'.T) (look s'.H) a w∧Q8 φ (look s.H) w φ' (look s'.H) w
theorem Weak.refl(N:Nat)(s:St):Weak N s s:=fun φ _ _ _ _ r=>⟨φ,r,Q8.refl _ _ _⟩
theorem Weak.trans{G:St}(a:Weak N s s')(b:Weak N s' G):Weak N s G:=fun φ M0 D U w r =>
 let ⟨O,r1,Y⟩:=a φ M0 D U w r;let ⟨J,r2,W⟩:=b O M0 D U w r1;⟨J,r2,Y.trans W⟩
theorem FN(hw:Weak N s s')(h:Ex P N ro c s' Q):Ex P N ro c s Q:=by
 intro φ M0 D a w r;obtain⟨G,r1,J⟩:=hw φ M0 D a w r;exact wpIn_mono (h G M0 D a w r1) fun _ _ _ p=>p.trans J
theorem gL{ι:Type}(S:ι→St)(O:ι→Nat)(i0:ι)(round:∀i,Ex P N ro c (S i) (andThen (fun s'=>∃j,O j<O i∧Weak N s' (S j)) Q)):Ex P N ro (.loop c) (S i0) Q:=by
 intro φ M0 D a w r;refine wpIn_loop_ghost (fun n Z w'=>∃i φ',O i=n∧Zo φ' M0 N D (look (S i).T) (look (S i).H) Z w'∧Q8 φ (look (S i0).H) w φ' (look (S i).H) w') (O i0) ⟨i0,φ,rfl,r,Q8.refl _ _ _⟩ ?_;rintro n Z w' ⟨i,φ',rfl,r',E⟩;refine wpIn_mono (round i φ' M0 D Z w' r') ?_;rintro e aa w'' ⟨G,k,s',W,U,Y,J⟩;cases k with
|normal =>
  simp only[XF] at J;subst J;obtain⟨j,hj,ac⟩:=W;obtain⟨ab,r2,e2⟩:=ac G M0 D aa w'' U;exact⟨O j,hj,j,ab,rfl,r2,(E.trans Y).trans e2⟩
|exit i=>simp only[XF] at J;subst J;exact⟨G,.exit i,s',W,U,E.trans Y,rfl⟩
|ret=>simp only[XF] at J;subst J;exact⟨G,.ret,s',W,U,E.trans Y,rfl⟩
|panic v=>obtain⟨u,h5,h6⟩:=J;subst h5;exact⟨G,.panic v,s',W,U,E.trans Y,u,rfl,h6⟩
theorem Marks.keep(m:Marks φ D h a w)(E:Q8 φ h w φ' h' w'):Marks φ' D h' a w':=by
 obtain⟨h0,Y,h1,W,h3⟩:=m;refine⟨Nat.le_trans h0 E.size,Y,h1,W,fun r Z=>?_⟩;obtain⟨g0,g1,g2⟩:=h3 r Z;have hlt:r<w.heap.size:=(FL.1 g1).1;refine⟨g0,(E.same r hlt g2).trans g1,fun b hb e=>?_⟩;cases hk:h' b with
|none=>exact hb hk
|some k =>
  obtain⟨o,O⟩:=ME (φ:=φ') hk;rw[e] at O;obtain⟨U,k0,J,G,_⟩:=E.mu r o hlt O;exact g2 U (by rw[J];simp) G
theorem Zo.keep(r:Zo φ M0 N D T h a w)(E:Q8 φ h w φ' h' w')(X:YZ φ h w φ' h' w')(hp:ZQ φ' h' w' M0):Zo φ' M0 N D T h' a w' :=
 ⟨r.dfs.keep E,r.siz,hp,fun t x G=>⟨(r.tm t x G).1,(QH (E.keeps M0) X).1 _ _ (r.tm t x G).2⟩⟩
theorem YZ.trans{G:Nat→Nat}{ab:QO}(hs:w.heap.size≤w'.heap.size)(a:YZ φ h w φ' h' w')(b:YZ φ' h' w' G ab w''):YZ φ h w G ab w'':=by
 refine⟨?_,?_,?_,?_⟩
 ·intro c ty cs hc;obtain⟨⟨af,cs',U⟩,J⟩:=a.b c ty cs hc;obtain⟨W,Y⟩:=b.b c af cs' U;exact⟨W,Y.trans J⟩
 ·intro t ty S n ht;obtain⟨n',U,J,W⟩:=a.t t ty S n ht;obtain⟨O,Y,Z,h6⟩:=b.t t ty S n' U;exact⟨O,Y,Nat.le_trans J Z,fun e=>(W zo).trans hs (h6 zo)⟩
 ·intro t ty S n ht;obtain⟨n',U,J,W⟩:=a.v t ty S n ht;obtain⟨O,Y,Z,h6⟩:=b.v t ty S n' U;refine⟨O,Y,Nat.le_trans J Z,fun e=>?_⟩;obtain⟨h7,h8⟩:=W zo;obtain⟨h9,h10⟩:=h6 zo;refine⟨h9.trans h7,fun c hc=>?_⟩;obtain⟨c',hc',ad⟩:=h8 c hc;rw[h7] at h10;obtain⟨ae,aa,ac⟩:=h10 c' hc';exact⟨ae,aa,ac.trans ad⟩
 ·intro c k x hb ho;obtain⟨⟨k',U,J⟩,W⟩:=a.o c k x hb ho;obtain⟨Y,Z⟩:=b.o c k' x U J;exact⟨Y,Z.trans W⟩
theorem YZ.refl(φ:Nat→Nat)(h:QO)(w:World):YZ φ h w φ h w :=
 ⟨fun _ _ _ x=>⟨⟨_,_,x⟩,rfl⟩,fun _ _ _ _ x=>⟨_,x,Kz _,fun _=>Yy (rfl) rfl⟩,fun _ _ _ _ x=>⟨_,x,Kz _,fun _=>⟨rfl,fun c hc=>⟨c,hc,rfl⟩⟩⟩,fun _ _ _ J G=>⟨⟨_,J,G⟩,rfl⟩⟩
theorem Zo.put(r:Zo φ M0 N D (look s.T) (look s.H) a w){d:Option Tmp}{x:AV}(O:∀t,d=some t→t<N)(J:Qe φ (look s.H) w (MM φ (look s.H) M0) x v):Zo φ M0 N D (look (s.put d x).T) (look (s.put d x).H) (a.put d v) w:=by
 cases d with
|none=>exact r
|some d =>
  have hlt:=O d rfl;refine⟨r.dfs,by simp[Act.put,r.siz],r.hp,fun t y G=>?_⟩;simp only[St.put,look] at G;by_cases e:d=t
  ·simp only[e,if_true,Q0] at G;subst G;refine⟨e▸hlt,?_⟩;have:(a.put (some d) v).tmps.getD t undef=v:=by subst e;simp[Act.put,r.siz,hlt]
   rw[this];exact J
  ·simp only[e,if_false] at G;refine⟨(r.tm t y G).1,?_⟩;have:(a.put (some d) v).tmps.getD t undef=a.tmps.getD t undef:=by simp[Act.put,Array.getElem?_setIfInBounds_ne e]
   rw[this];exact(r.tm t y G).2
theorem LA(G:w'.heap=w.heap)(J:w'.os=w.os)(O:w'.tape=w.tape)(hu:w'.output=w.output):Q8 φ h w φ h w' :=
 ⟨J,O,hu,by rw[G];exact Kz _,fun _ _ _=>by rw[G],fun _ _ _ _=>by simp[World.cell?,G],fun _ _ _ x=>x,fun _ _ _ _ x=>⟨⟨_,x⟩,rfl⟩,fun _ _ _ _ _ x=>⟨_,x,Kz _,fun _=>Yy (rfl) (by rw[G])⟩,fun _ _ _ _ _ x=>⟨_,x,Kz _,fun _=>⟨rfl,fun c hc=>⟨c,by rw[G];exact hc,rfl⟩⟩⟩,fun _ _ _ _ W U=>⟨⟨_,W,U⟩,rfl⟩⟩
theorem Gp(G:w'.heap=w.heap):YZ φ h w φ h w' :=
 ⟨fun _ _ _ x=>⟨⟨_,_,x⟩,rfl⟩,fun _ _ _ _ x=>⟨_,x,Kz _,fun _=>Yy (rfl) (by rw[G])⟩,fun _ _ _ _ x=>⟨_,x,Kz _,fun _=>⟨rfl,fun c hc=>⟨c,by rw[G];exact hc,rfl⟩⟩⟩,fun _ _ _ J O=>⟨⟨_,J,O⟩,rfl⟩⟩
theorem Z4(W:∀r o v,w.cell? ⟨r,o,none⟩=some v→¬M r o→w'.cell? ⟨r,o,none⟩=some v∧¬M' r o)(X:YZ φ h w φ' h' w')(U:w'.heap[r']?=w.heap[r]?){k:Blk}(hb:RelB φ h w M r k):RelB φ' h' w' M' r' k:=by
 cases k with
|box ty cs=>obtain⟨c,G,J⟩:=hb;exact⟨c,U.trans G,(QH W X).2 _ _ J⟩
|arr ty S n =>
  rcases hb with⟨h0,G⟩|⟨c,cap,G,J⟩
  ·exact .inl ⟨h0,U.trans G⟩
  ·exact .inr ⟨c,cap,U.trans G,J⟩
|vec ty S es=>obtain⟨c,cap,G,J,O,Y,h5,h6,h7⟩:=hb;exact⟨c,cap,U.trans G,J,O,Y,h5,h6,(QH W X).2 _ _ h7⟩
|lp T nf st pd=>obtain⟨tmps,d,G,J,O⟩:=hb;exact⟨tmps,d,U.trans G,J,fun t x ht=>⟨(O t x ht).1,(QH W X).1 _ _ (O t x ht).2⟩⟩
|mp es=>obtain⟨en,Z,G,J,O⟩:=hb;exact⟨en,Z,U.trans G,J,(QH W X).2 _ _ O⟩
|mf es=>obtain⟨en,Z,G,J,O,Y⟩:=hb;exact⟨en,Z,U.trans G,J,(QH W X).2 _ _ O,Y⟩
|mg en Z es=>obtain⟨G,J,O,Y⟩:=hb;exact⟨U.trans G,J,(QH W X).2 _ _ O,Y⟩
|it m Z sn =>
  obtain⟨G,k,J,O⟩:=hb;obtain⟨⟨k',e1,e2⟩,e3⟩:=X.o m k _ J O;exact⟨U.trans (by rw[e3];exact G),k',e1,e2⟩
theorem DF(G:w'.heap=w.heap)(E:Q8 φ h w φ h w')(r:ZQ φ h w M0):ZQ φ h w' M0 :=
 ⟨r.inj,fun b k hb=>Z4 (E.keeps M0) (Gp G) (by rw[G]) (r.blk b k hb),r.fr,fun x o J=>by rw[G];exact r.lt x o J,r.gm.evol E⟩
def Qy(φ:Nat→Nat)(b r:Nat):Nat→Nat:=fun x=>if b=x then r else φ x
theorem DI(r:ZQ φ h w M0){k:Blk}(hb:h b=some k)(J:∀ty S,k≠.arr ty S 0):φ b<w.heap.size:=by
 have:=r.blk b k hb;cases k with
|box ty cs=>obtain⟨c,G,_⟩:=this;exact(FL.1 G).1
|arr ty S n =>
  rcases this with⟨h0,_⟩|⟨c,cap,G,_⟩
  ·exact absurd (by rw[h0]) (J ty S)
  ·exact(FL.1 G).1
|vec ty S es=>obtain⟨c,cap,G,_⟩:=this;exact(FL.1 G).1
|lp T nf st pd=>obtain⟨c,cap,G,_⟩:=this;exact(FL.1 G).1
|mp es=>obtain⟨c,cap,G,_⟩:=this;exact(FL.1 G).1
|mf es=>obtain⟨c,cap,G,_⟩:=this;exact(FL.1 G).1
|mg en O es=>exact(FL.1 this.1).1
|it m O sn=>exact(FL.1 this.1).1
theorem yZ(r:ZQ φ h w M0){S:Nat}{es:List (List PV)}(hb:h b=some (.vec ty S es)):φ b<w.heap.size :=
 DI r hb fun _ _ e=>by cases e
def Clear(φ:Nat→Nat)(h:QO)(w:World)(K:Nat):Prop:=∀b,h b≠none→φ b<w.heap.size∨w.heap.size+K≤φ b
theorem Clear.lt{K:Nat}(O:Clear φ h w K)(r:ZQ φ h w M0)(hs:w'.heap.size≤w.heap.size+K)(G:∀x,x<w.heap.size→w'.heap[x]?=w.heap[x]?)(hb:h b≠none) :
  w'.heap[φ b]?=w.heap[φ b]?:=by
 rcases O b hb with J|J
 ·exact G _ J
 ·rw[Z6 (by omega:w'.heap.size≤φ b),Z6 (by omega:w.heap.size≤φ b)]
def KZ(φ:Nat→Nat)(n K:Nat):Nat→Nat:=fun b=>if φ b<n then φ b else φ b+K
theorem GH(r:ZQ φ h w M0)(K:Nat){k:Blk}(hb:h b=some k)(G:∀ty S,k≠.arr ty S 0):KZ φ w.heap.size K b=φ b:=by
 have:=DI r hb G;simp[KZ,this]
theorem y5{K:Nat}:w.heap[KZ φ w.heap.size K b]?=w.heap[φ b]?:=by
 unfold KZ;by_cases e:φ b<w.heap.size
 ·simp only[e,if_true]
 ·simp only[e,if_false];rw[Z6 zo,Z6 zo]
theorem y7(r:ZQ φ h w M0)(K:Nat):Q8 φ h w (KZ φ w.heap.size K) h w∧YZ φ h w (KZ φ w.heap.size K) h w:=by
 have J:∀t ty S n,h t=some (.arr ty S n)→∃n',h t=some (.arr ty S n')∧n≤n' ∧
  (n'=n→AKept w w (φ t) (KZ φ w.heap.size K t) ty):=by
  intro t ty S n J;refine⟨n,J,Kz _,fun _=>?_⟩;by_cases e:φ t<w.heap.size
  ·exact Yy (by simp[KZ,e]) rfl
  ·exact Bh (Z6 zo) (by rw[y5];exact Z6 zo)
 have O:∀b k x,h b=some k→k.ob=some x→KZ φ w.heap.size K b=φ b:=fun b k x hb O=>GH r K hb (fun ty S e=>by subst e;cases O)
 refine⟨⟨rfl,rfl,rfl,Kz _,fun _ _ _=>rfl,fun _ _ _ _=>rfl,?_,?_,fun t ty S n _ W=>J t ty S n W,?_,?_⟩,?_,J,?_,?_⟩
 ·rintro x o G ⟨b,k,W,U,Y⟩;refine⟨b,k,W,?_,Y⟩;unfold KZ at U;by_cases e:φ b<w.heap.size
  ·simpa only[e,if_true] using U
  ·simp only[e,if_false] at U;omega
 ·intro b ty cs _ hb;exact⟨⟨cs,hb⟩,GH r K hb (fun _ _ e=>by cases e)⟩
 ·intro t ty S es _ hb;exact⟨es,hb,Kz _,fun _=>⟨GH r K hb (fun _ _ e=>by cases e),fun c hc=>⟨c,hc,rfl⟩⟩⟩
 ·intro b k x _ hb G;exact⟨⟨k,hb,G⟩,O b k x hb G⟩
 ·intro b ty cs hb;exact⟨⟨ty,cs,hb⟩,GH r K hb (fun _ _ e=>by cases e)⟩
 ·intro t ty S es hb;exact⟨es,hb,Kz _,fun _=>⟨GH r K hb (fun _ _ e=>by cases e),fun c hc=>⟨c,hc,rfl⟩⟩⟩
 ·intro b k x hb G;exact⟨⟨k,hb,G⟩,O b k x hb G⟩
theorem nR(r:ZQ φ h w M0)(K:Nat):ZQ (KZ φ w.heap.size K) h w M0:=by
 obtain⟨E,X⟩:=y7 r K;refine⟨?_,fun b k hb=>Z4 (E.keeps M0) X y5 (r.blk b k hb),?_,r.lt,r.gm.evol E⟩
 ·intro b c hb hc e;refine r.inj b c hb hc ?_;unfold KZ at e;by_cases O:φ b<w.heap.size<;>by_cases J:φ c<w.heap.size
  ·simpa only[O,J,if_true] using e
  ·simp only[O,J,if_true,if_false] at e;omega
  ·simp only[O,J,if_true,if_false] at e;omega
  ·simp only[O,J,if_false] at e;omega
 ·intro b hb o G;unfold KZ at G;by_cases e:φ b<w.heap.size
  ·simp only[e,if_true] at G;exact r.fr b hb o G
  ·simp only[e,if_false] at G;have:=r.lt _ _ G;omega
theorem xz(K:Nat):Clear (KZ φ w.heap.size K) h w K:=by
 intro b _;unfold KZ;by_cases e:φ b<w.heap.size
 ·simp only[e,if_true];exact .inl trivial
 ·simp only[e,if_false];right;omega
theorem Zo.lift(r:Zo φ M0 N D T h a w)(K:Nat) :
  Zo (KZ φ w.heap.size K) M0 N D T h a w∧Q8 φ h w (KZ φ w.heap.size K) h w∧YZ φ h w (KZ φ w.heap.size K) h w∧Clear (KZ φ w.heap.size K) h w K:=by
 obtain⟨E,X⟩:=y7 r.hp K;exact⟨r.keep E X (nR r.hp K),E,X,xz K⟩
theorem JM{k:Blk}{o:Obj}(O:w'.heap=w.heap.push o)(W:w'.os=w.os)(ht:w'.tape=w.tape)(hu:w'.output=w.output)(hb:h b=none)(r:ZQ φ h w M0)(Z:Clear φ h w 1):Q8 φ h w (Qy φ b w.heap.size) (upd h b k) w'∧YZ φ h w (Qy φ b w.heap.size) (upd h b k) w':=by
 have G:∀x,x<w.heap.size→w'.heap[x]?=w.heap[x]?:=fun x U=>by rw[O,Array.getElem?_push,if_neg zo]
 have hne:∀c q,h c=some q→¬b=c:=fun c q hc e=>by rw[e] at hb;rw[hb] at hc;cases hc
 refine⟨⟨W,ht,hu,by rw[O];simp,fun x U _=>G x U,fun x o U _=>by simp[World.cell?,G x U],?_,?_,?_,?_,?_⟩,?_,?_,?_,?_⟩
 ·rintro x y U ⟨c,q,h1,Y,h3⟩;simp only[upd,Qy] at h1 Y;by_cases e:b=c
  ·simp only[e,if_true] at Y;omega
  ·simp only[e,if_false] at h1 Y;exact⟨c,q,h1,Y,h3⟩
 ·intro c ty cs _ hc;have:=hne c _ hc;exact⟨⟨cs,by simp[upd,this,hc]⟩,by simp[Qy,this]⟩
 ·intro t ty S n _ hc;have:=hne t _ hc;exact⟨n,by simp[upd,this,hc],Kz _,fun _=>Yy (by simp[Qy,this]) (Z.lt r (by rw[O];simp) G (by rw[hc];simp))⟩
 ·intro t ty S n _ hc;have:=hne t _ hc;refine⟨n,by simp[upd,this,hc],Kz _,fun _=>⟨by simp[Qy,this],fun c J=>⟨c,?_,rfl⟩⟩⟩;rw[Z.lt r (by rw[O];simp) G (by rw[hc];simp)];exact J
 ·intro c k x _ hc W;have:=hne c _ hc;exact⟨⟨k,by simp[upd,this,hc],W⟩,by simp[Qy,this]⟩
 ·intro c ty cs hc;have:=hne c _ hc;exact⟨⟨ty,cs,by simp[upd,this,hc]⟩,by simp[Qy,this]⟩
 ·intro t ty S n hc;have:=hne t _ hc;exact⟨n,by simp[upd,this,hc],Kz _,fun _=>Yy (by simp[Qy,this]) (Z.lt r (by rw[O];simp) G (by rw[hc];simp))⟩
 ·intro t ty S n hc;have:=hne t _ hc;refine⟨n,by simp[upd,this,hc],Kz _,fun _=>⟨by simp[Qy,this],fun c J=>⟨c,?_,rfl⟩⟩⟩;rw[Z.lt r (by rw[O];simp) G (by rw[hc];simp)];exact J
 ·intro c k x hc W;have:=hne c _ hc;exact⟨⟨k,by simp[upd,this,hc],W⟩,by simp[Qy,this]⟩
theorem JN{k:Blk}{o:Obj}(hh:w'.heap=w.heap.push o)(hb:h b=none)(r:ZQ φ h w M0)(hC:Clear φ h w 1)(E:Q8 φ h w (Qy φ b w.heap.size) (upd h b k) w')(X:YZ φ h w (Qy φ b w.heap.size) (upd h b k) w')(W:RelB (Qy φ b w.heap.size) (upd h b k) w' (MM (Qy φ b w.heap.size) (upd h b k) M0) w.heap.size k):ZQ (Qy φ b w.heap.size) (upd h b k) w' M0:=by
 have O:∀x,x<w.heap.size→w'.heap[x]?=w.heap[x]?:=fun x hx=>by rw[hh,Array.getElem?_push,if_neg zo]
 have hlt:∀c,h c≠none→φ c≠w.heap.size:=fun c hc=>by rcases hC c hc with Z|Z<;>omega
 refine⟨?_,?_,?_,fun x y hx=>Nat.lt_of_lt_of_le (r.lt x y hx) E.size,r.gm.evol E⟩
 ·intro c d hc U G;simp only[upd] at hc U;simp only[Qy] at G;by_cases e1:b=c<;>by_cases e2:b=d
  ·omega
  ·simp only[e1,if_true] at G;have ab:¬c=d:=by omega
   simp only[ab,if_false] at G;rw[if_neg e2] at U;have:=hlt d U;omega
  ·simp only[e2,if_true] at G;have aa:¬d=c:=by omega
   simp only[aa,if_false] at G;rw[if_neg e1] at hc;have:=hlt c hc;omega
  ·simp only[e1,e2,if_false] at G hc U;exact r.inj c d hc U G
 ·intro c q hc;by_cases e:b=c
  ·have h2:q=k:=by simp only[upd,e,if_true,Q0] at hc;exact hc.symm
   have J:Qy φ b w.heap.size c=w.heap.size:=by simp[Qy,e]
   rw[h2,J];exact W
  ·have Z:h c=some q:=by simpa [upd,e] using hc
   have J:Qy φ b w.heap.size c=φ c:=by simp[Qy,e]
   rw[J];exact Z4 (E.keeps M0) X (hC.lt r (by rw[hh];simp) O (by rw[Z];simp)) (r.blk c q Z)
 ·intro c hc o Y;by_cases e:b=c
  ·have J:Qy φ b w.heap.size c=w.heap.size:=by simp[Qy,e]
   rw[J] at Y;exact absurd (r.lt _ _ Y) zo
  ·have J:Qy φ b w.heap.size c=φ c:=by simp[Qy,e]
   rw[J] at Y;exact r.fr c (by simpa [upd,e] using hc) o Y
theorem Ah{cs cs':List AV}{c:Array Value}(hb:h b=some (.box ty cs))(hw:w.heap[φ b]?=some (.cells c ty (0,0)))(r:ZQ φ h w M0) :
  Q8 φ h w φ (upd h b (.box ty cs')) (w.setRow (φ b) c')∧YZ φ h w φ (upd h b (.box ty cs')) (w.setRow (φ b) c'):=by
 have G:∀x,x≠φ b→(w.setRow (φ b) c').heap[x]?=w.heap[x]?:=fun x hx=>setRow_other w _ x c' hx
 have aa:∀t ty S n,h t=some (.arr ty S n)→t≠b:=fun t ty S n O e=>by rw[e,hb] at O;cases O
 have ab:∀t ty S n,h t=some (.arr ty S n)→φ t≠φ b:=fun t ty S n O e=>aa t ty S n O (r.inj t b (by rw[O];simp) (by rw[hb];simp) e)
 have Z:∀t ty S n,h t=some (.vec ty S n)→t≠b:=fun t ty S n O e=>by rw[e,hb] at O;cases O
 have Y:∀t ty S n,h t=some (.vec ty S n)→φ t≠φ b:=fun t ty S n O e=>Z t ty S n O (r.inj t b (by rw[O];simp) (by rw[hb];simp) e)
 have W:∀d k x,h d=some k→k.ob=some x→¬b=d:=fun d k x U ho e=>by rw[←e,hb] at U;cases U;cases ho
 refine⟨⟨rfl,rfl,rfl,by simp,?_,?_,?_,?_,?_,?_,?_⟩,?_,?_,?_,?_⟩
 ·intro x _ W;exact G x (fun e=>W b (by rw[hb];simp) e.symm)
 ·intro x o _ hm;have:x≠φ b:=fun e=>hm ⟨b,_,hb,e.symm,trivial⟩
  simp[World.cell?,G x this]
 ·rintro x y _ ⟨d,q,h1,h2,h3⟩;by_cases e:b=d
  ·exact⟨b,_,hb,by rw[e];exact h2,trivial⟩
  ·exact⟨d,q,by simpa [upd,e] using h1,h2,h3⟩
 ·intro d J ds _ U;by_cases e:b=d
  ·subst e;rw[hb] at U;cases U;exact⟨⟨cs',by simp[upd]⟩,rfl⟩
  ·exact⟨⟨ds,by simp[upd,e,U]⟩,rfl⟩
 ·intro t J S n _ O;have e:=aa t J S n O;refine⟨n,by simp[upd,Ne.symm e,O],Kz _,fun _=>Yy (rfl) (by rw[G _ (ab t J S n O)])⟩
 ·intro t J S n _ O;have e:=Z t J S n O;refine⟨n,by simp[upd,Ne.symm e,O],Kz _,fun _=>⟨rfl,fun c hc=>⟨c,by rw[G _ (Y t J S n O)];exact hc,rfl⟩⟩⟩
 ·intro d k x _ U ho;exact⟨⟨k,by simp[upd,W d k x U ho,U],ho⟩,rfl⟩
 ·intro d J ds U;by_cases e:b=d
  ·exact⟨⟨ty,cs',by simp[upd,e]⟩,rfl⟩
  ·exact⟨⟨J,ds,by simp[upd,e,U]⟩,rfl⟩
 ·intro t J S n O;have e:=aa t J S n O;refine⟨n,by simp[upd,Ne.symm e,O],Kz _,fun _=>Yy (rfl) (by rw[G _ (ab t J S n O)])⟩
 ·intro t J S n O;have e:=Z t J S n O;refine⟨n,by simp[upd,Ne.symm e,O],Kz _,fun _=>⟨rfl,fun c hc=>⟨c,by rw[G _ (Y t J S n O)];exact hc,rfl⟩⟩⟩
 ·intro d k x U ho;exact⟨⟨k,by simp[upd,W d k x U ho,U],ho⟩,rfl⟩
theorem y8{cs cs':List AV}{c:Array Value}(hb:h b=some (.box ty cs))(hw:w.heap[φ b]?=some (.cells c ty (0,0)))(r:ZQ φ h w M0)(J:Qg φ h w (MM φ h M0) cs' c'.toList):ZQ φ (upd h b (.box ty cs')) (w.setRow (φ b) c') M0:=by
 obtain⟨E,X⟩:=Ah (cs':=cs') (c':=c') hb hw r;refine⟨?_,?_,?_,fun x y Y=>Nat.lt_of_lt_of_le (r.lt x y Y) E.size,r.gm.evol E⟩
 ·intro d e G Z O
  have g:∀d,upd h b (.box ty cs') d≠none→h d≠none:=fun d G=>by
   by_cases e:b=d
   ·rw[←e,hb];simp
   ·simpa [upd,e] using G
  exact r.inj d e (g d G) (g e Z) O
 ·intro d q G;by_cases e:b=d
  ·subst e;have:q=.box ty cs':=by simpa [upd] using G.symm
   subst this;exact⟨c',setRow_heap w _ c c' ty _ hw,(QH (E.keeps M0) X).2 _ _ J⟩
  ·have U:h d=some q:=by simpa [upd,e] using G
   have hne:φ d≠φ b:=fun W=>e (r.inj d b (by rw[U];simp) (by rw[hb];simp) W).symm
   exact Z4 (E.keeps M0) X (setRow_other w _ _ c' hne) (r.blk d q U)
 ·intro d G o hm;refine r.fr d ?_ o hm;by_cases e:b=d
  ·rw[←e,hb];simp
  ·simpa [upd,e] using G
section lists
variable {φ:Nat→Nat}{h:QO}{w:World}{M:ZM}
theorem Gq{r:Nat}:∀(cs:List PV) (o:Nat),VQ w M r o cs↔∀j c,cs[j]?=some c→∃v,w.cell? ⟨r,o+j,none⟩=some v∧¬M r (o+j)∧v.oneCell'=true∧QM w M c v
|[],o=>by simp[VQ]
|c::cs,o=>by
  simp only[VQ,Gq cs (o+1)];constructor
  ·rintro⟨h0,O⟩ j x G;cases j with
  |zero=>simp at G;subst G;exact h0
  |succ j =>
    have:=O j x (by simpa using G)
    rwa [show o+1+j=o+(j+1) from by omega] at this
  ·intro J;refine⟨J 0 c zq,fun j x G=>?_⟩;have:=J (j+1) x (by simpa using G)
   rwa [show o+(j+1)=o+1+j from by omega] at this
theorem Ro{r:Nat}:∀(a b:List PV) (o:Nat),VQ w M r o (a++b)↔VQ w M r o a∧VQ w M r (o+a.length) b
|[],b,o=>by simp[VQ]
|c::a,b,o=>by
  simp only[List.cons_append,VQ,Ro a b (o+1),JF];rw[show o+1+a.length=o+(a.length+1) from by omega];constructor
  ·rintro⟨x,y,z⟩;exact⟨⟨x,y⟩,z⟩
  ·rintro⟨⟨x,y⟩,z⟩;exact⟨x,y,z⟩
theorem KM{S r:Nat}:∀(es:List (List PV)) (o:Nat),VR w M S r o es↔(∀e∈es,e.length=S)∧VQ w M r o es.flatten
|[],o=>by simp[VR,VQ]
|e::es,o=>by
  simp only[VR,KM es (o+S),List.flatten_cons,Ro,List.mem_cons];constructor
  ·rintro⟨⟨J,O⟩,U,Y⟩;refine⟨fun x G=>?_,O,by rw[J];exact Y⟩;rcases G with rfl|G
   ·exact J
   ·exact U x G
  ·rintro⟨J,O,U⟩;have W:=J e (.inl rfl);exact⟨⟨W,O⟩,fun x G=>J x (.inr G),by rw[←W];exact U⟩
theorem Vn{S r:Nat}:∀(a b:List (List PV)) (o:Nat),VR w M S r o (a++b)↔VR w M S r o a∧VR w M S r (o+a.length*S) b
|[],b,o=>by simp[VR]
|e::a,b,o=>by
  simp only[List.cons_append,VR,Vn a b (o+S),JF];rw[show o+S+a.length*S=o+(a.length+1)*S from by rw[Nat.add_mul];omega];constructor
  ·rintro⟨x,y,z⟩;exact⟨⟨x,y⟩,z⟩
  ·rintro⟨⟨x,y⟩,z⟩;exact⟨x,y,z⟩
theorem nS{S o:Nat}{es:List (List PV)}(G:VR w M S r o es){e:List PV}(hi:es[i]?=some e):e.length=S∧VQ w M r (o+i*S) e:=by
 have hlt:i<es.length:=(DC.1 hi).1
 have hs:es=es.take i++(e::es.drop (i+1)):=by
  have O:es[i]=e:=(DC.1 hi).2
  conv=>lhs;rw[←List.take_append_drop i es]
  rw[←O,List.drop_eq_getElem_cons hlt]
 rw[hs,Vn] at G;have J:(es.take i).length=i:=by simp;omega
 rw[J] at G;simp only[VR] at G;exact G.2.1
theorem ZR:∀{xs:List AV} {l:List Value},Qg φ h w M xs l→xs.length=l.length
|[],l,G=>by simp only[Qg] at G;simp[G]
|x::xs,l,G=>by
  simp only[Qg] at G;obtain⟨y,ys,rfl,_,J⟩:=G;simp[ZR J]
theorem Ud:∀{xs:List AV} {l:List Value},Qg φ h w M xs l→∀{i:Nat} {x:AV},xs[i]?=some x→∃v,l[i]?=some v∧Qe φ h w M x v
|[],l,G,i,x,hi=>by simp at hi
|y::xs,l,G,i,x,hi=>by
  simp only[Qg] at G;obtain⟨v,Y,rfl,U,J⟩:=G;cases i with
 |zero=>simp at hi;subst hi;exact⟨v,by simp,U⟩
 |succ i =>
   obtain⟨u,W,O⟩:=Ud J (i:=i) (by simpa using hi);exact⟨u,by simpa using W,O⟩
theorem ZF:∀{a b:List AV} {l m:List Value},Qg φ h w M a l→Qg φ h w M b m→Qg φ h w M (a++b) (l++m)
|[],b,l,m,G,J=>by simp only[Qg] at G;subst G;simpa using J
|x::a,b,l,m,G,J=>by
  simp only[Qg] at G;obtain⟨v,W,rfl,U,O⟩:=G;simp only[List.cons_append,Qg];exact⟨v,W++m,rfl,U,ZF O J⟩
theorem Ue:∀{a:List AV} {l:List Value} (n:Nat),Qg φ h w M a l→Qg φ h w M (a.take n) (l.take n)
|a,l,0,_=>by simp[Qg]
|[],l,n+1,G=>by simp only[Qg] at G;subst G;simp[Qg]
|x::a,l,n+1,G=>by
  simp only[Qg] at G;obtain⟨v,U,rfl,O,J⟩:=G;simp only[List.take_succ_cons,Qg];exact⟨v,U.take n,rfl,O,Ue n J⟩
theorem Uf:∀{a:List AV} {l:List Value} (n:Nat),Qg φ h w M a l→Qg φ h w M (a.drop n) (l.drop n)
|a,l,0,J=>by simpa using J
|[],l,n+1,G=>by simp only[Qg] at G;subst G;simp[Qg]
|x::a,l,n+1,G=>by
  simp only[Qg] at G;obtain⟨v,W,rfl,U,O⟩:=G;simpa using Uf n O
end lists
def YL{α:Type}(P:Program):Sem α→Option α|.pure a=>some a|.program k=>YL P (k P)|.mark _ k=>YL P k|_=>none
theorem Ot{s:Sem α}{a:α}(h:YL P s=some a)(w:World):s.run P w=.ok a w:=by
 induction s with
|pure b=>simp only[YL,Q0] at h;subst h;rfl
|program k G=>simp only[YL] at h;exact G P h
|mark m k G=>simp only[YL] at h;exact G h
|_=>simp[YL] at h
mutual
def Ph:AV→Option Value
|.p (.val x)=>some x
|.p (.sl _ _)=>none
|.tsl _ _ _=>none
|.ptr _ _=>none
|.eptr _=>none
|.vnil=>none
|.vsl _ _ _=>none
|.vptr _ _ _ _=>none
|.yv _=>none
|.mv _=>none
|.bsl _ _=>none
|.sfp _=>none
|.iv _=>none
|.agg cs=>(Bi cs).map fun l=>.agg l.toArray
|.tup cs=>(Bi cs).map fun l=>.tuple l.toArray
|.ifc t x=>(Ph x).map (.iface t)
|.fn f a b=>match Bi a,Bi b with|some l,some m=>some (.func f l.toArray m.toArray)|_,_=>none
def Bi:List AV→Option (List Value)
|[]=>some []
|x::xs=>match Ph x,Bi xs with|some y,some ys=>some (y::ys)|_,_=>none
end
theorem DJ :
  (∀(x:AV) (v y:Value),Qe φ h w M x v→Ph x=some y→v=y)∧(∀(xs:List AV) (l m:List Value),Qg φ h w M xs l→Bi xs=some m→l=m):=by
 have key:∀n:Nat,(∀(x:AV),SizeOf.sizeOf x≤n→∀v y,Qe φ h w M x v→Ph x=some y→v=y)∧(∀(xs:List AV),SizeOf.sizeOf xs≤n→∀l m,Qg φ h w M xs l→Bi xs=some m→l=m):=by
  intro n
  induction n with
 |zero =>
   refine⟨fun x O=>?_,fun es O=>?_⟩
   ·cases x<;>simp at O
   ·cases es<;>simp at O
 |succ n ih =>
   obtain⟨Z,i2⟩:=ih;refine⟨fun x O v y J G=>?_,fun xs O l m J G=>?_⟩
   ·cases x with
   |p x=>cases x with
    |val x=>simp only[Ph,Q0] at G;simp only[Qe,QM] at J;rw[J,G]
    |sl S es=>simp[Ph] at G
   |tsl S es t=>simp[Ph] at G
   |ptr b off=>simp[Ph] at G
   |eptr cs=>simp[Ph] at G
   |vnil=>simp[Ph] at G
   |vsl S t n=>simp[Ph] at G
   |vptr t n k f=>simp[Ph] at G
   |yv b=>simp[Ph] at G
   |mv b=>simp[Ph] at G
   |iv b=>simp[Ph] at G
   |bsl b n=>simp[Ph] at G
   |sfp b=>simp[Ph] at G
   |agg cs =>
     simp only[Ph,Gn] at G;obtain⟨m,W,rfl⟩:=G;simp only[Qe] at J;obtain⟨l,rfl,U⟩:=J;rw[i2 cs (by simp at O;omega) l m U W]
   |tup cs =>
     simp only[Ph,Gn] at G;obtain⟨m,W,rfl⟩:=G;simp only[Qe] at J;obtain⟨l,rfl,U⟩:=J;rw[i2 cs (by simp at O;omega) l m U W]
   |fn f a b =>
     simp only[Ph] at G;split at G
     ·rename_i l m hl hm;simp only[Q0] at G;subst G;simp only[Qe] at J;obtain⟨l',m',rfl,U,Y⟩:=J;simp at O;rw[i2 a zo l' l U hl,i2 b zo m' m Y hm]
     ·cases G
   |ifc t x =>
     simp only[Ph,Gn] at G;obtain⟨m,W,rfl⟩:=G;simp only[Qe] at J;obtain⟨l,rfl,U⟩:=J;rw[Z x (by simp at O;omega) l m U W]
   ·cases xs with
   |nil=>simp only[Bi,Q0] at G;simp only[Qg] at J;rw[J,G]
   |cons x xs =>
     simp only[Bi] at G;split at G
     ·rename_i y ys W U;simp only[Q0] at G;subst G;simp only[Qg] at J;obtain⟨u,us,rfl,Y,h4⟩:=J;simp at O;rw[Z x zo u y Y W,i2 xs zo us ys h4 U]
     ·cases G
 exact⟨fun x v=>(key (SizeOf.sizeOf x)).1 x (Kz _) v,fun xs l=>(key (SizeOf.sizeOf xs)).2 xs (Kz _) l⟩
def AV.one:AV→Bool|.p (.val x)=>x.oneCell'|.agg _|.tup _=>false|_=>true
theorem gP{x:AV}(J:x.one=true)(G:Qe φ h w M x v):v.oneCell'=true∧v.cells=#[v]:=by
 have key:v.oneCell'=true:=by
  cases x with
 |p x=>cases x with
  |val y=>simp only[Qe,QM] at G;subst G;exact J
  |sl S es =>
    simp only[Qe,QM] at G;rcases G with⟨r,o,cap,rfl,_⟩|⟨_,a,cap,rfl⟩<;>rfl
 |tsl S es t =>
   simp only[Qe,QM] at G;rcases G.1 with⟨r,o,cap,rfl,_⟩|⟨_,a,cap,rfl⟩<;>rfl
 |ptr b off=>simp only[Qe] at G;rw[G.1];rfl
 |eptr cs=>simp only[Qe] at G;obtain⟨r,o,rfl,_⟩:=G;rfl
 |vnil=>simp only[Qe] at G;rw[G];rfl
 |vsl S t n=>simp only[Qe] at G;exact G.1
 |vptr t n k f=>simp only[Qe] at G;exact G.1
 |yv b=>simp only[Qe] at G;rw[G.1];rfl
 |mv b=>simp only[Qe] at G;rw[G.1];rfl
 |iv b=>simp only[Qe] at G;rw[G.1];rfl
 |bsl b n=>simp only[Qe] at G;rw[G.1];rfl
 |sfp b=>simp only[Qe] at G;rcases G.1 with e|e<;>rw[e]<;>rfl
 |agg cs=>simp[AV.one] at J
 |tup cs=>simp[AV.one] at J
 |fn f a b=>simp only[Qe] at G;obtain⟨l,m,rfl,_⟩:=G;rfl
 |ifc t x=>simp only[Qe] at G;obtain⟨y,rfl,_⟩:=G;rfl
 refine⟨key,?_⟩;cases v<;>first|rfl|(simp[Value.oneCell'] at key)
def Ug:List AV→Bool|[]=>true|x::xs=>x.one&&Ug xs
def cellsOf:AV→Option (List AV)|.agg cs=>if Ug cs then some cs else none|x=>if x.one then some [x] else none
theorem Rq{φ:Nat→Nat}{h:QO}{w:World}{M:ZM}:∀{xs:List AV} {l:List Value},Ug xs=true→Qg φ h w M xs l→∀u∈l,u.oneCell'=true
|[],l,_,G=>by simp only[Qg] at G;subst G;simp
|x::xs,l,J,G=>by
  simp only[Ug,Z8] at J;simp only[Qg] at G;obtain⟨y,ys,rfl,O,U⟩:=G;intro u hu;rcases List.mem_cons.1 hu with rfl|hu
  ·exact(gP J.1 O).1
  ·exact Rq J.2 U u hu
theorem Vo{x:AV}{cs:List AV}(hc:cellsOf x=some cs)(U:Qe φ h w M x v) :
  Qg φ h w M cs v.cells.toList∧(∀u∈v.cells.toList,u.oneCell'=true)∧Ug cs=true:=by
 have other:(if x.one then some [x] else none)=some cs→Qg φ h w M cs v.cells.toList∧(∀u∈v.cells.toList,u.oneCell'=true)∧Ug cs=true:=by
  intro O;split at O
  ·rename_i G;simp only[Q0] at O;subst O;obtain⟨J,W⟩:=gP G U;rw[W];exact⟨by simp only[Qg];exact⟨v,[],rfl,U,rfl⟩,by simpa using J,by simp[Ug,G]⟩
  ·cases O
 cases x with
|agg xs =>
  simp only[cellsOf] at hc;split at hc
  ·rename_i G;simp only[Q0] at hc;subst hc;simp only[Qe] at U;obtain⟨l,rfl,J⟩:=U;simp only[Value.cells];exact⟨J,Rq G J,G⟩
  ·cases hc
|_=>exact other hc
abbrev KL:=AV×Option (Nat×Blk)×List Nat
def ap(h:QO):Option (Nat×Blk)→QO|none=>h|some (b,k)=>upd h b k
def Yield(P:Program)(o:Oper)(φ:Nat→Nat)(M0:ZM)(h:QO)(a:Act)(w:World)(x:AV)(h':QO):Prop :=∃G v w' φ',(execOp a.eval o).run P w=.ok G w'∧(G=.value v∨G=.skip∧v=undef)∧Qe φ' h' w' (MM φ' h' M0) x v∧ZQ φ' h' w' M0∧Q8 φ h w φ' h' w'∧YZ φ h w φ' h' w'
section
variable {P:Program}{o:Oper}{φ:Nat→Nat}{M0:ZM}{N:Nat}{D:DB}{T:Nat→Option AV}{h:QO}{a:Act}{w:World}
theorem Yield.of_lift(r:Zo φ M0 N D T h a w)(K:Nat){x:AV}(hy:∀G,Zo G M0 N D T h a w→Q8 φ h w G h w→YZ φ h w G h w→Clear G h w K→Yield P o G M0 h a w x h'):Yield P o φ M0 h a w x h':=by
 obtain⟨r1,E1,J,hC⟩:=r.lift K;obtain⟨U,v,w',φ',Y,W,Z,h4,O,h6⟩:=hy _ r1 E1 J hC;exact⟨U,v,w',φ',Y,W,Z,h4,E1.trans O,YZ.trans (Kz _) J h6⟩
theorem Qo(r:Zo φ M0 N D T h a w){x:AV}(G:(execOp a.eval o).run P w=.ok (.value v) w)(J:Qe φ h w (MM φ h M0) x v):Yield P o φ M0 h a w x h :=
 ⟨_,v,w,φ,G,.inl rfl,J,r.hp,Q8.refl _ _ _,YZ.refl _ _ _⟩
def V4(T:Nat→Option AV)(x:Operand):Option KL:=match Zp T x with|some v=>some (v,none,[])|none=>none
def CK(T:Nat→Option AV)(c x y:Operand):Option KL :=
 match Zp T c with
|some (.p (.val (.bool true)))=>V4 T x
|some (.p (.val (.bool false)))=>V4 T y
|_=>none
theorem gQ(r:Zo φ M0 N D T h a w){v:AV}(G:o.op=.move x∨o.op=.assign x)(J:Zp T x=some v):Yield P o φ M0 h a w v h:=by
 refine Qo r (v:=a.eval x) ?_ (r.ev J);rcases G with G|G<;>simp[execOp,G]
theorem gU(r:Zo φ M0 N D T h a w){c:Operand}{u:KL}(W:o.op=.pick c x y)(G:CK T c x y=some u):u.2.1=none∧u.2.2=[]∧Yield P o φ M0 h a w u.1 h:=by
 unfold CK at G;split at G
 ·rename_i U;unfold V4 at G;split at G
  ·rename_i v O;simp only[Q0] at G;subst G;have J:=r.ev U;simp only[Qe,QM] at J;exact⟨rfl,rfl,Qo r (v:=a.eval x) (by simp[execOp,W,J,asBool]) (r.ev O)⟩
  ·cases G
 ·rename_i U;unfold V4 at G;split at G
  ·rename_i v O;simp only[Q0] at G;subst G;have J:=r.ev U;simp only[Qe,QM] at J;exact⟨rfl,rfl,Qo r (v:=a.eval y) (by simp[execOp,W,J,asBool]) (r.ev O)⟩
  ·cases G
 ·cases G
def GI:TypeDesc→Bool|.struct _|.array _ _=>true|_=>false
theorem Uh{t:TypeId}{d:TypeDesc}(G:P.underlying t=some d)(w:World):(isAgg t).run P w=.ok (GI d) w:=by
 simp only[isAgg,Sem.run_bind,run_underlying G,Result.andThen_ok];cases d<;>rfl
theorem Zb{t:TypeId}{i:TypeInfo}(hi:P.info? t=some i)(w:World):(sizeOf t).run P w=.ok i.size w:=by
 simp[sizeOf,typeInfo,hi]
def Ee(P:Program)(T:Nat→Option AV)(h:QO)(ty:TypeId)(x:Operand):Option KL :=
 match P.underlying ty,P.info? ty with
|some d,some i =>
  match Zp T x with
 |some (.ptr b off) =>
   match h b with
  |some (.box _ cs) =>
    if GI d then(if off+i.size≤cs.length then some (.agg ((cs.drop off).take i.size),none,[b]) else none)
    else match cs[off]? with|some c=>some (c,none,[b])|none=>none
  |_=>none
 |some (.eptr cs) =>
   if GI d then(if i.size≤cs.length then some (.agg ((cs.take i.size).map .p),none,[]) else none)
   else match cs[0]? with|some c=>some (.p c,none,[])|none=>none
 |_=>none
|_,_=>none
theorem TB{d:TypeDesc}{i:TypeInfo}(O:P.underlying ty=some d)(hi:P.info? ty=some i)(G:GI d=true)(l:List Value)(U:l.length=i.size)(hc:∀j v,l[j]?=some v→w.cell? ⟨r,off+j,none⟩=some v):(loadVar ty ⟨r,off,none⟩).run P w=.ok (.agg l.toArray) w:=by
 have J:=run_loadCells_list (P:=P) w ⟨r,off,none⟩ l (fun j v W=>by rw[Addr.add_lit];exact hc j v W);rw[U] at J;simp[loadVar,Uh O,G,Zb hi,J]
theorem TC{d:TypeDesc}(J:P.underlying ty=some d)(G:GI d=false)(hc:w.cell? ⟨r,off,none⟩=some v) :
  (loadVar ty ⟨r,off,none⟩).run P w=.ok v w:=by
 simp[loadVar,Uh J,G,hc]
theorem Ke{c:Array Value}(hw:w.heap[r]?=some (.cells c ty (0,0))):w.cell? ⟨r,off,none⟩=c[off]?:=by simp[World.cell?,hw]
theorem Ai(r:Zo φ M0 N D T h a w){u:KL}(G:Ee P T h ty x=some u):u.2.1=none∧∃v,(Instr.loadAt ty (a.eval x)).run P w=.ok v w∧Qe φ h w (MM φ h M0) u.1 v:=by
 unfold Ee at G;split at G
 ·rename_i d i hd hi;split at G
  ·rename_i b off hx;have W:=r.ev hx;simp only[Qe] at W;split at G
   ·rename_i af cs hb;obtain⟨c,hw,ac⟩:=r.hp.blk b _ hb;split at G
    ·rename_i O;split at G
     ·rename_i Z;simp only[Q0] at G;subst G;have ae:=ZR ac;have h3:Qg φ h w (MM φ h M0) ((cs.drop off).take i.size) ((c.toList.drop off).take i.size):=Ue _ (Uf _ ac);refine⟨rfl,.agg ((c.toList.drop off).take i.size).toArray,?_,?_⟩
      ·have:=TB (w:=w) (r:=φ b) (off:=off) hd hi O ((c.toList.drop off).take i.size) (by simp at ae ⊢;omega) (fun j v U=>by
        rw[Ke hw];rw[List.getElem?_take] at U;split at U
        ·simpa using U
        ·cases U)
       simp[Instr.loadAt,W.1,Instr.sureAddr,this]
      ·simp only[Qe];exact⟨_,rfl,h3⟩
     ·cases G
    ·rename_i O;split at G
     ·rename_i c0 aa;simp only[Q0] at G;subst G;obtain⟨v,hv,ab⟩:=Ud ac aa;refine⟨rfl,v,?_,ab⟩;have:=TC (P:=P) (w:=w) (r:=φ b) (off:=off) hd (by simpa using O) (v:=v) (by rw[Ke hw];simpa using hv);simp[Instr.loadAt,W.1,Instr.sureAddr,this]
     ·cases G
   ·cases G
  ·rename_i cs hx;have W:=r.ev hx;simp only[Qe] at W;obtain⟨rr,J,h3,h4⟩:=W;rw[Gq] at h4;split at G
   ·rename_i O;split at G
    ·rename_i Z;simp only[Q0] at G;subst G
     have hex:∃l:List Value,l.length=i.size∧(∀j v,l[j]?=some v→w.cell? ⟨rr,J+j,none⟩=some v)∧Qg φ h w (MM φ h M0) ((cs.take i.size).map .p) l:=by
      have ad:∀(k:Nat) (cs:List PV) (J:Nat),k≤cs.length→(∀j c,cs[j]?=some c→∃v,w.cell? ⟨rr,J+j,none⟩=some v∧¬MM φ h M0 rr (J+j)∧v.oneCell'=true∧QM w (MM φ h M0) c v) →
        ∃l:List Value,l.length=k∧(∀j v,l[j]?=some v→w.cell? ⟨rr,J+j,none⟩=some v)∧Qg φ h w (MM φ h M0) ((cs.take k).map .p) l:=by
       intro k
       induction k with
      |zero=>intro cs J _ _;exact⟨[],rfl,by simp,by simp[Qg]⟩
      |succ k ih =>
        intro cs J hk Y;cases cs with
       |nil=>simp at hk
       |cons c cs =>
         obtain⟨v,hv,hm,_,hr⟩:=Y 0 c zq
         obtain⟨l,h1,W,h3⟩:=ih cs (J+1) (by simp at hk;omega) (fun j c' U=>by
          have:=Y (j+1) c' (by simpa using U)
          rwa [show J+(j+1)=J+1+j from by omega] at this)
         refine⟨v::l,by simp[h1],fun j u U=>?_,?_⟩
         ·cases j with
         |zero=>simp at U;subst U;simpa using hv
         |succ j=>have:=W j u (by simpa using U);rwa [show J+1+j=J+(j+1) from by omega] at this
         ·simp only[List.take_succ_cons,WV,Qg];exact⟨v,l,rfl,by simpa [Qe] using hr,h3⟩
      exact ad i.size cs J Z h4
     obtain⟨l,h5,h6,h7⟩:=hex;refine⟨rfl,.agg l.toArray,?_,?_⟩
     ·have:=TB (w:=w) (r:=rr) (off:=J) hd hi O l h5 h6;simp[Instr.loadAt,h3,Instr.sureAddr,this]
     ·simp only[Qe];exact⟨l,rfl,h7⟩
    ·cases G
   ·rename_i O;split at G
    ·rename_i c0 aa;simp only[Q0] at G;subst G;obtain⟨v,hv,_,_,ab⟩:=h4 0 c0 aa;refine⟨rfl,v,?_,by simpa [Qe] using ab⟩;have:=TC (P:=P) (w:=w) (r:=rr) (off:=J) hd (by simpa using O) (v:=v) (by simpa using hv);simp[Instr.loadAt,h3,Instr.sureAddr,this]
    ·cases G
  ·cases G
 ·cases G
theorem Qa6(r:Zo φ M0 N D T h a w){u:KL}(J:o.op=.load ty x)(U:Ee P T h ty x=some u):u.2.1=none∧Yield P o φ M0 h a w u.1 h:=by
 obtain⟨G,v,W,O⟩:=Ai (P:=P) r U;exact⟨G,Qo r (v:=v) (by simp[execOp,J,W]) O⟩
def Aj(P:Program)(T:Nat→Option AV)(h:QO)(ty:TypeId)(x y:Operand):Option KL :=
 match P.info? ty,Zp T x,Zp T y with
|some i,some (.ptr b off),some v =>
  match h b,cellsOf v with
 |some (.box tb cs),some G =>
   if G.length=i.size∧off+G.length≤cs.length then some (.p (.val undef),some (b,.box tb (cs.take off++G++cs.drop (off+G.length))),[b]) else none
 |_,_=>none
|_,_,_=>none
theorem lm(r:Zo φ M0 N D T h a w){u:KL}(ho:o.op=.store ty x y)(G:Aj P T h ty x y=some u):Yield P o φ M0 h a w u.1 (ap h u.2.1):=by
 unfold Aj at G;split at G
 ·rename_i i b off v hi hx hy;have h2:=r.ev hx;have h3:=r.ev hy;simp only[Qe] at h2;split at G
  ·rename_i tb cs Y hb aa;split at G
   ·rename_i ac;simp only[Q0] at G;subst G;obtain⟨c,hw,O⟩:=r.hp.blk b _ hb;obtain⟨h4,h5,h6⟩:=Vo aa h3;have J:=ZR h4;have ab:=ZR O;have U:=run_storeCells_at P (φ b) off tb (a.eval y).cells.toList 0 c w hw (by simp at J ab ⊢;omega) h5;simp only[Nat.add_zero] at U
    have W:Qg φ h w (MM φ h M0) (cs.take off++Y++cs.drop (off+Y.length)) (c.toList.take off++(a.eval y).cells.toList++c.toList.drop (off+(a.eval y).cells.toList.length)):=by
     rw[←J];exact ZF (ZF (Ue _ O) h4) (Uf _ O)
    obtain⟨E,X⟩:=Ah (cs':=cs.take off++Y++cs.drop (off+Y.length)) (c':=(c.toList.take off++(a.eval y).cells.toList++c.toList.drop (off+(a.eval y).cells.toList.length)).toArray) hb hw r.hp;refine⟨.skip,undef,_,φ,?_,.inr ⟨rfl,rfl⟩,by simp[Qe,QM],y8 hb hw r.hp (by simpa using W),E,X⟩;have Z:(a.eval y).cells.size=i.size:=by simp at J;omega
    simp[execOp,ho,Instr.storeAt,h2.1,Instr.sureAddr,storeVar,Zb hi,Z,U]
   ·cases G
  ·cases G
 ·cases G
def Ou(o:Oper)(h:QO)(ty:TypeId)(v:AV):Option KL :=
 match o.dst,cellsOf v with
|some d,some cs=>match h d with|none=>some (.ptr d 0,some (d,.box ty cs),[d])|some _=>none
|_,_=>none
theorem lq(r:Zo φ M0 N D T h a w){v:AV}{y:Value}{u:KL}(O:(execOp a.eval o).run P w=.ok (.value (.pointer (some ⟨w.heap.size,0,none⟩))) (w.alloc (.cells y.cells ty)))(W:Qe φ h w (MM φ h M0) v y)(J:Ou o h ty v=some u):Yield P o φ M0 h a w u.1 (ap h u.2.1):=by
 unfold Ou at J;split at J
 ·rename_i d cs _ U;split at J
  ·rename_i Y;simp only[Q0] at J;subst J;refine Yield.of_lift r 1 fun φ r E0 X0 Z=>?_
   have W:=(QH (E0.keeps M0) X0).1 _ _ W;obtain⟨E,X⟩:=JM (w':=w.alloc (.cells y.cells ty)) (o:=.cells y.cells ty) (b:=d) (k:=.box ty cs) (M0:=M0) rfl rfl rfl rfl Y r.hp Z
   have G:RelB (Qy φ d w.heap.size) (upd h d (.box ty cs)) (w.alloc (.cells y.cells ty)) (MM (Qy φ d w.heap.size) (upd h d (.box ty cs)) M0) w.heap.size (.box ty cs):=by
    refine⟨y.cells,by show(w.heap.push _)[w.heap.size]?=_;simp,(QH (E.keeps M0) X).2 _ _ (Vo U W).1⟩
   refine⟨_,_,_,Qy φ d w.heap.size,O,.inl rfl,?_,JN rfl Y r.hp Z E X G,E,X⟩;simp only[Qe,ap];exact⟨by simp[Qy],ty,cs,by simp[upd]⟩
  ·cases J
 ·cases J
theorem lu(r:Zo φ M0 N D T h a w){i:TypeInfo}{u:KL}(J:o.op=.alloc ty)(hi:P.info? ty=some i)(G:i.zero=some z)(O:Ou o h ty (Ag z)=some u) :
  Yield P o φ M0 h a w u.1 (ap h u.2.1) :=
 lq r (y:=z) (by simp[execOp,J,Instr.alloc,zeroValue,typeInfo,hi,G,newVar,newRow,newObj,Sem.run]) (WC z) O
theorem QdP(r:Zo φ M0 N D T h a w){v:AV}{u:KL}(G:o.op=.box ty x)(J:Zp T x=some v)(O:Ou o h ty v=some u) :
  Yield P o φ M0 h a w u.1 (ap h u.2.1) :=
 lq r (y:=a.eval x) (by simp[execOp,G,Instr.box,newVar,newRow,newObj,Sem.run]) (r.ev J) O
end
section
variable {P:Program}{o:Oper}{φ:Nat→Nat}{M0:ZM}{N:Nat}{D:DB}{T:Nat→Option AV}{h:QO}{a:Act}{w:World}
theorem Bj{o:Nat}{cs:List PV}(k:Nat)(O:k≤cs.length)(G:VQ w M r o cs):VQ w M r (o+k) (cs.drop k):=by
 have:VQ w M r o (cs.take k++cs.drop k):=by rw[List.take_append_drop];exact G
 rw[Ro] at this;have J:(cs.take k).length=k:=by simp;omega
 rw[J] at this;exact this.2
def Xd(P:Program)(T:Nat→Option AV)(s:TypeId)(x:Operand)(f:Nat):Option KL :=
 match P.underlying s with
|some (.struct fields) =>
  match fields[f]? with
 |some G =>
   match P.info? G.type with
  |some i =>
    if i.size=0 then none else
    match Zp T x with
   |some (.ptr b off)=>some (.ptr b (off+G.offset),none,[])
   |some (.eptr cs)=>if G.offset≤cs.length then some (.eptr (cs.drop G.offset),none,[]) else none
   |_=>none
  |none=>none
 |none=>none
|_=>none
theorem zm(r:Zo φ M0 N D T h a w){s:TypeId}{f:Nat}{u:KL}(ho:o.op=.fieldAddr s x f)(G:Xd P T s x f=some u):u.2.1=none∧Yield P o φ M0 h a w u.1 h:=by
 unfold Xd at G;split at G
 ·rename_i fields hs;split at G
  ·rename_i U hf;split at G
   ·rename_i i hi;split at G
    ·cases G
    ·rename_i O;split at G
     ·rename_i b off W;simp only[Q0] at G;subst G;have J:=r.ev W;simp only[Qe] at J;refine⟨rfl,Qo r (v:=.pointer (some ⟨φ b,off+U.offset,none⟩)) ?_ ?_⟩
      ·simp[execOp,ho,Instr.fieldAt,run_underlying hs,hf,J.1,Instr.sureAddr,fieldPlace,Zb hi,O,Addr.add_lit]
      ·simp only[Qe];exact⟨trivial,J.2⟩
     ·rename_i cs W;split at G
      ·rename_i Y;simp only[Q0] at G;subst G;have J:=r.ev W;simp only[Qe] at J;obtain⟨rr,Z,h3,h4⟩:=J;refine⟨rfl,Qo r (v:=.pointer (some ⟨rr,Z+U.offset,none⟩)) ?_ ?_⟩
       ·simp[execOp,ho,Instr.fieldAt,run_underlying hs,hf,h3,Instr.sureAddr,fieldPlace,Zb hi,O,Addr.add_lit]
       ·simp only[Qe];exact⟨rr,Z+U.offset,rfl,Bj _ Y h4⟩
      ·cases G
     ·cases G
   ·cases G
  ·cases G
 ·cases G
def elems:AV→Option (Nat×List (List PV))|.p (.sl S es)=>some (S,es)|.tsl S es _=>some (S,es)|_=>none
theorem DK{x:AV}{S:Nat}{es:List (List PV)}(G:elems x=some (S,es))(J:Qe φ h w M x v):QM w M (.sl S es) v:=by
 cases x with
|p x=>cases x with
 |val y=>simp[elems] at G
 |sl O es'=>simp only[elems,Q0,XA] at G;obtain⟨rfl,rfl⟩:=G;simpa only[Qe] using J
|tsl O es' t=>simp only[elems,Q0,XA] at G;obtain⟨rfl,rfl⟩:=G;simp only[Qe] at J;exact J.1
|_=>simp[elems] at G
def Ui(P:Program)(T:Nat→Option AV)(t:TypeId)(x ix:Operand):Option KL :=
 match Zp T ix with
|some (.p (.val (.int _ n))) =>
  match P.underlying t,Zp T x with
 |some (.slice e),some v =>
   match elems v,P.info? e with
  |some (S,es),some i=>if i.size=S∧0≤n then(match es[n.toNat]? with|some c=>some (.eptr c,none,[])|none=>none) else none
  |_,_=>none
 |some (.array len e),some (.ptr b off) =>
   match P.info? e with
  |some i=>if 0≤n∧n<len then some (.ptr b (off+n.toNat*i.size),none,[]) else none
  |none=>none
 |some (.array len e),some (.eptr cs) =>
   match P.info? e with
  |some i=>if 0≤n∧n<len∧n.toNat*i.size≤cs.length then some (.eptr (cs.drop (n.toNat*i.size)),none,[]) else none
  |none=>none
 |_,_=>none
|_=>none
theorem zn(r:Zo φ M0 N D T h a w){t:TypeId}{u:KL}(ho:o.op=.indexAddr t x ix)(G:Ui P T t x ix=some u):u.2.1=none∧Yield P o φ M0 h a w u.1 h:=by
 unfold Ui at G;split at G
 ·rename_i k n ac;have O:=r.ev ac;simp only[Qe,QM] at O;split at G
  ·rename_i e v Z W;split at G
   ·rename_i S es i aa hi;split at G
    ·rename_i hc;split at G
     ·rename_i c U;simp only[Q0] at G;subst G;have J:=DK aa (r.ev W);simp only[QM] at J;have hlt:n.toNat<es.length:=(DC.1 U).1;rcases J with⟨Y,oo,cap,hv,ae⟩|⟨rfl,_⟩
      ·obtain⟨_,ab⟩:=nS ae.2 U;refine⟨rfl,Qo r (v:=.pointer (some ⟨Y,oo+n.toNat*i.size,none⟩)) ?_ ?_⟩
       ·have ad:0≤n∧n<(es.length:Int):=⟨hc.2,by omega⟩;simp[execOp,ho,Instr.indexAt,O,asIntOf,run_underlying Z,hv,ad,Zb hi,Addr.add_lit]
       ·simp only[Qe];exact⟨Y,_,rfl,by rw[hc.1];exact ab⟩
      ·simp at hlt
     ·cases G
    ·cases G
   ·cases G
  ·rename_i len e b off Z W;split at G
   ·rename_i i hi;split at G
    ·rename_i hc;simp only[Q0] at G;subst G;have J:=r.ev W;simp only[Qe] at J;refine⟨rfl,Qo r (v:=.pointer (some ⟨φ b,off+n.toNat*i.size,none⟩)) ?_ ?_⟩
     ·simp[execOp,ho,Instr.indexAt,O,asIntOf,run_underlying Z,J.1,Instr.sureAddr,hc,Zb hi,Addr.add_lit]
     ·simp only[Qe];exact⟨trivial,J.2⟩
    ·cases G
   ·cases G
  ·rename_i len e cs Z W;split at G
   ·rename_i i hi;split at G
    ·rename_i hc;simp only[Q0] at G;subst G;have J:=r.ev W;simp only[Qe] at J;obtain⟨Y,oo,h3,h4⟩:=J;refine⟨rfl,Qo r (v:=.pointer (some ⟨Y,oo+n.toNat*i.size,none⟩)) ?_ ?_⟩
     ·simp[execOp,ho,Instr.indexAt,O,asIntOf,run_underlying Z,h3,Instr.sureAddr,hc.1,hc.2.1,Zb hi,Addr.add_lit]
     ·simp only[Qe];exact⟨Y,_,rfl,Bj _ hc.2.2 h4⟩
    ·cases G
   ·cases G
  ·cases G
 ·cases G
def y9(P:Program)(ty:TypeId)(cs:List AV)(off:Nat):Option AV :=
 match P.underlying ty,P.info? ty with
|some d,some i=>if GI d then(if off+i.size≤cs.length then some (.agg ((cs.drop off).take i.size)) else none) else cs[off]?
|_,_=>none
theorem gV{cs:List AV}{x:AV}{l:List Value}(G:y9 P ty cs off=some x)(W:Qg φ h w M cs l) :
  ∃v,(part ty l.toArray off).run P w=.ok v w∧Qe φ h w M x v:=by
 unfold y9 at G;split at G
 ·rename_i d i U hi;split at G
  ·rename_i J;split at G
   ·rename_i Y;simp only[Q0] at G;subst G;refine⟨.agg ((l.drop off).take i.size).toArray,?_,?_⟩
    ·simp[part,Uh U,J,Zb hi]
    ·simp only[Qe];exact⟨_,rfl,Ue _ (Uf _ W)⟩
   ·cases G
  ·rename_i J;obtain⟨v,Z,O⟩:=Ud W G;refine⟨v,?_,O⟩;simp[part,Uh U,J,Z]
 ·cases G
def Ak(P:Program)(T:Nat→Option AV)(t:TypeId)(x:Operand)(f:Nat):Option KL :=
 match P.underlying t,Zp T x with
|some (.struct fields),some (.agg cs) =>
  match fields[f]? with
 |some G=>match y9 P G.type cs G.offset with|some v=>some (v,none,[])|none=>none
 |none=>none
|_,_=>none
theorem lv(r:Zo φ M0 N D T h a w){t:TypeId}{f:Nat}{u:KL}(Y:o.op=.field t x f)(G:Ak P T t x f=some u):u.2.1=none∧Yield P o φ M0 h a w u.1 h:=by
 unfold Ak at G;split at G
 ·rename_i fields cs Z W;split at G
  ·rename_i fl hf;split at G
   ·rename_i v hv;simp only[Q0] at G;subst G;have J:=r.ev W;simp only[Qe] at J;obtain⟨l,h3,h4⟩:=J;obtain⟨y,O,U⟩:=gV hv h4;refine⟨rfl,Qo r (v:=y) ?_ U⟩;simp[execOp,Y,Instr.field,run_underlying Z,hf,h3,asAgg,O]
   ·cases G
  ·cases G
 ·cases G
def Pi(P:Program)(T:Nat→Option AV)(t:TypeId)(x ix:Operand):Option KL :=
 match P.underlying t,Zp T x,Zp T ix with
|some (.array len e),some (.agg cs),some (.p (.val (.int _ n))) =>
  match P.info? e with
 |some i=>if 0≤n∧n<len then(match y9 P e cs (n.toNat*i.size) with|some v=>some (v,none,[])|none=>none) else none
 |none=>none
|_,_,_=>none
theorem lw(r:Zo φ M0 N D T h a w){t:TypeId}{u:KL}(ho:o.op=.index t x ix)(G:Pi P T t x ix=some u):u.2.1=none∧Yield P o φ M0 h a w u.1 h:=by
 unfold Pi at G;split at G
 ·rename_i len e cs k n ht Z O;split at G
  ·rename_i i hi;split at G
   ·rename_i hc;split at G
    ·rename_i v hv;simp only[Q0] at G;subst G;have U:=r.ev Z;simp only[Qe] at U;obtain⟨l,h3,h4⟩:=U;have J:=r.ev O;simp only[Qe,QM] at J;obtain⟨y,W,Y⟩:=gV hv h4;refine⟨rfl,Qo r (v:=y) ?_ Y⟩;simp[execOp,ho,Instr.index,J,asIntOf,run_underlying ht,h3,hc,Zb hi,W]
    ·cases G
   ·cases G
  ·cases G
 ·cases G
def GJ(T:Nat→Option AV)(x:Operand)(i:Nat):Option KL :=
 match Zp T x with
|some (.tup G)=>match G[i]? with|some v=>some (v,none,[])|none=>none
|_=>none
theorem xA(r:Zo φ M0 N D T h a w){u:KL}(W:o.op=.extract x i)(G:GJ T x i=some u):u.2.1=none∧Yield P o φ M0 h a w u.1 h:=by
 unfold GJ at G;split at G
 ·rename_i vs hx;split at G
  ·rename_i v Y;simp only[Q0] at G;subst G;have J:=r.ev hx;simp only[Qe] at J;obtain⟨l,h3,Z⟩:=J;obtain⟨y,O,U⟩:=Ud Z Y;refine⟨rfl,Qo r (v:=y) ?_ U⟩;simp[execOp,W,Instr.extract,h3,O]
  ·cases G
 ·cases G
def Pj(T:Nat→Option AV):List Operand→Option (List AV)
|[]=>some []
|x::xs=>match Zp T x,Pj T xs with|some v,some G=>some (v::G)|_,_=>none
theorem GK(r:Zo φ M0 N D T h a w):∀{xs:List Operand} {J:List AV},Pj T xs=some J→Qg φ h w (MM φ h M0) J (xs.map a.eval)
|[],J,G=>by simp only[Pj,Q0] at G;subst G;simp[Qg]
|x::xs,J,G=>by
  simp only[Pj] at G;split at G
  ·rename_i v O W U;simp only[Q0] at G;subst G;simp only[WV,Qg];exact⟨_,_,rfl,r.ev W,GK r U⟩
  ·cases G
def LB(T:Nat→Option AV)(f:Fn)(first captured:Array Operand):Option KL :=
 match Pj T first.toList,Pj T captured.toList with
|some l,some m=>some (.fn f l m,none,[])
|_,_=>none
theorem vg(r:Zo φ M0 N D T h a w){f:Fn}{first captured:Array Operand}{u:KL}(O:o.op=.makeFunc f first captured)(G:LB T f first captured=some u):u.2.1=none∧Yield P o φ M0 h a w u.1 h:=by
 unfold LB at G;split at G
 ·rename_i l m U W;simp only[Q0] at G;subst G;refine⟨rfl,Qo r (v:=.func f (first.map a.eval) (captured.map a.eval)) ?_ ?_⟩
  ·simp[execOp,O,Instr.makeFunc]
  ·simp only[Qe];refine⟨first.toList.map a.eval,captured.toList.map a.eval,?_,GK r U,GK r W⟩;have J:∀z:Array Operand,z.map a.eval=(z.toList.map a.eval).toArray:=fun z=>by apply Array.ext';simp
   rw[J first,J captured]
 ·cases G
def WZ(P:Program)(T:Nat→Option AV)(t:TypeId)(x:Operand):Option KL :=
 match P.underlying t,Zp T x with
|some (.interface _),_=>none
|some _,some v=>some (.ifc t v,none,[])
|_,_=>none
theorem Pk(r:Zo φ M0 N D T h a w){t:TypeId}{u:KL}(U:o.op=.makeInterface t x)(G:WZ P T t x=some u):u.2.1=none∧Yield P o φ M0 h a w u.1 h:=by
 unfold WZ at G;split at G
 ·cases G
 ·rename_i d v hne W Y;simp only[Q0] at G;subst G;refine⟨rfl,Qo r (v:=.iface t (a.eval x)) ?_ ?_⟩
  ·have O:∀J,d≠.interface J:=fun J e=>hne J e
   cases d<;>first|(exact absurd rfl (O _))|simp[execOp,U,Instr.makeInterface,run_underlying W]
  ·simp only[Qe];exact⟨_,rfl,r.ev Y⟩
 ·cases G
def UT(P:Program)(T:Nat→Option AV)(x:Operand)(asserted:TypeId)(ok:Bool):Option KL :=
 match P.underlying asserted,Zp T x with
|some (.interface _),_=>none
|some _,some (.ifc t v) =>
  if t=asserted then some (if ok then .tup [v,.p (.val (.bool true))] else v,none,[])
  else if ok then(match (P.info? asserted).bind (·.zero) with|some z=>some (.tup [Ag z,.p (.val (.bool false))],none,[])|none=>none)
  else none
|_,_=>none
theorem Ov(r:Zo φ M0 N D T h a w){xt asserted:TypeId}{u:KL}(ho:o.op=.typeAssert x xt asserted ok)(G:UT P T x asserted ok=some u):u.2.1=none∧Yield P o φ M0 h a w u.1 h:=by
 unfold UT at G;split at G
 ·cases G
 ·rename_i d t v hne Z hx;have Y:∀W,d≠.interface W:=fun W e=>hne W e
  have h2:=r.ev hx;simp only[Qe] at h2;obtain⟨y,h3,h4⟩:=h2;split at G
  ·rename_i O;simp only[Q0] at G;subst G;cases ok
   ·refine⟨rfl,Qo r (v:=y) ?_ h4⟩;cases d<;>first|(exact absurd rfl (Y _))|simp[execOp,ho,Instr.typeAssert,run_underlying Z,h3,O]
   ·refine⟨rfl,Qo r (v:=.tuple #[y,.bool true]) ?_ ?_⟩
    ·cases d<;>first|(exact absurd rfl (Y _))|simp[execOp,ho,Instr.typeAssert,run_underlying Z,h3,O]
    ·simp only[Qe,if_true];exact⟨[y,.bool true],rfl,by simp[Qg,h4,Qe,QM]⟩
  ·rename_i J;split at G
   ·rename_i hok;split at G
    ·rename_i z U;simp only[Q0] at G;subst G;simp only[NS] at U;obtain⟨i,hi,U⟩:=U;refine⟨rfl,Qo r (v:=.tuple #[z,.bool false]) ?_ ?_⟩
     ·cases d<;>first|(exact absurd rfl (Y _))|simp[execOp,ho,Instr.typeAssert,run_underlying Z,h3,J,hok,zeroValue,typeInfo,hi,U]
     ·simp only[Qe];exact⟨[z,.bool false],rfl,by simp[Qg,WC,Qe,QM]⟩
    ·cases G
   ·cases G
 ·cases G
def Uj(T:Nat→Option AV)(x:Operand):Option KL :=
 match Zp T x with
|some (.ptr b off)=>some (.ptr b off,none,[])
|some (.eptr cs)=>some (.eptr cs,none,[])
|some (.fn (.func f) l m)=>some (.fn (.func f) l m,none,[])
|_=>none
theorem vk(r:Zo φ M0 N D T h a w){u:KL}(U:o.op=.nilCheck x)(J:Uj T x=some u):u.2.1=none∧Yield P o φ M0 h a w u.1 h:=by
 unfold Uj at J;split at J
 ·rename_i b off O;simp only[Q0] at J;subst J;have G:=r.ev O;refine⟨rfl,Qo r (v:=a.eval x) ?_ G⟩;simp only[Qe] at G;simp[execOp,U,G.1]
 ·rename_i cs O;simp only[Q0] at J;subst J;have G:=r.ev O;refine⟨rfl,Qo r (v:=a.eval x) ?_ G⟩;simp only[Qe] at G;obtain⟨Y,oo,W,_⟩:=G;simp[execOp,U,W]
 ·rename_i f l m O;simp only[Q0] at J;subst J;have G:=r.ev O;refine⟨rfl,Qo r (v:=a.eval x) ?_ G⟩;simp only[Qe] at G;obtain⟨l',Z,W,_⟩:=G;simp[execOp,U,W]
 ·cases J
def lC(P:Program)(T:Nat→Option AV)(t:TypeId)(x:Operand):Option KL :=
 match P.underlying t,Zp T x with
|some (.slice _),some v=>match elems v with|some (_,es)=>some (.p (.val (.int .i64 es.length)),none,[])|none=>none
|_,_=>none
theorem QdQ(r:Zo φ M0 N D T h a w){t:TypeId}{u:KL}(Y:o.op=.call ⟨.builtin .len,#[x],#[t]⟩)(G:lC P T t x=some u):u.2.1=none∧Yield P o φ M0 h a w u.1 h:=by
 unfold lC at G;split at G
 ·rename_i e v W Z;split at G
  ·rename_i S es J;simp only[Q0] at G;subst G;have U:=DK J (r.ev Z);simp only[QM] at U;refine⟨rfl,Qo r (v:=.int .i64 es.length) ?_ (by simp[Qe,QM])⟩;rcases U with⟨rr,oo,cap,O,aa⟩|⟨rfl,q,cap,O⟩
   ·simp[execOp,Y,resolve,invoke,builtin,Builtin.len_,run_underlying W,O,goInt]
   ·simp[execOp,Y,resolve,invoke,builtin,Builtin.len_,run_underlying W,O,goInt]
  ·cases G
 ·cases G
end
section
variable {P:Program}{o:Oper}{φ:Nat→Nat}{M0:ZM}{N:Nat}{D:DB}{T:Nat→Option AV}{h:QO}{a:Act}{w:World}
def MF(place:Nat→Option (Nat×Nat))(cells:List AV):List (Nat×AV)→Option (List AV)
|[]=>some cells
|(i,v)::rest =>
  match place i,cellsOf v with
 |some (off,size),some G=>if G.length=size∧off+size≤cells.length then MF place (cells.take off++G++cells.drop (off+size)) rest else none
 |_,_=>none
theorem MG:∀(G:List Value) (k off:Nat) (cs:Array Value),off+k+G.length≤cs.size →
  ((G.zipIdx k).foldl (fun(cs:Array Value) (p:Value×Nat)=>cs.setIfInBounds (off+p.2) p.1) cs).toList=cs.toList.take (off+k)++G++cs.toList.drop (off+k+G.length)
|[],k,off,cs,_=>by simp
|v::G,k,off,cs,J=>by
  simp only[List.zipIdx_cons,List.foldl_cons];rw[MG G (k+1) off _ (by simp at J ⊢;omega)];have e:=list_seg_step cs.toList (off+k) v G (by simp at J ⊢;omega);simp only[Array.toList_setIfInBounds,JF];rw[show off+(k+1)=off+k+1 from by omega];simpa using e
theorem MH{M:ZM}{placeC G:Nat→Option (Nat×Nat)}(hp:∀i x,G i=some x→placeC i=some x) :
  ∀(ps:List (Nat×AV)) (U:List (Nat×Value)) (cs:List AV) (c:Array Value) (rs:List AV),(ps.map (·.1)=U.map (·.1))→Qg φ h w M (ps.map (·.2)) (U.map (·.2)) →
   Qg φ h w M cs c.toList→MF G cs ps=some rs→∃c',Instr.fill placeC c U=some c'∧Qg φ h w M rs c'.toList
|[],U,cs,c,rs,O,_,Z,J=>by
  have:U=[]:=by simpa using O.symm
  subst this;simp only[MF,Q0] at J;subst J;exact⟨c,rfl,Z⟩
|(i,v)::ps,[],cs,c,rs,O,_,_,_=>by simp at O
|(i,v)::ps,(j,y)::U,cs,c,rs,O,h2,Z,J=>by
  simp only[WV,List.cons.injEq] at O;obtain⟨rfl,O⟩:=O;simp only[WV,Qg] at h2;obtain⟨y',ae,h4,h5,h6⟩:=h2;simp only[List.cons.injEq] at h4;obtain⟨rfl,rfl⟩:=h4;simp only[MF] at J;split at J
  ·rename_i off size vs ac ab;split at J
   ·rename_i hc;obtain⟨h7,_,_⟩:=Vo ab h5;have aa:=ZR h7;have ad:=ZR Z;simp only[Array.length_toList] at aa ad;have Y:=MG y.cells.toList 0 off c (by simp;omega);simp only[Nat.add_zero] at Y
    have W:Qg φ h w M (cs.take off++vs++cs.drop (off+size)) ((y.cells.toList.zipIdx 0).foldl (fun(cs:Array Value) (p:Value×Nat)=>cs.setIfInBounds (off+p.2) p.1) c).toList:=by
     rw[Y];have hs:size=y.cells.toList.length:=by simp;omega
     rw[hs];exact ZF (ZF (Ue _ Z) h7) (Uf _ Z)
    obtain⟨c',h8,h9⟩:=MH hp ps U _ _ rs O h6 W J;refine⟨c',?_,h9⟩
    have e1:(y.cells.zipIdx.foldl (fun(cs:Array Value) (p:Value×Nat)=>cs.setIfInBounds (off+p.2) p.1) c)=((y.cells.toList.zipIdx 0).foldl (fun(cs:Array Value) (p:Value×Nat)=>cs.setIfInBounds (off+p.2) p.1) c):=by
     rw[←Array.foldl_toList];simp
    simp only[Instr.fill,hp _ _ ac];have c1:¬(y.cells.size≠size):=by omega
    have c2:¬(off+y.cells.size>c.size):=by omega
    simp only[c1,c2,decide_false,Bool.or_self,Bool.false_eq_true,if_false];rw[←h8,←e1]
   ·cases J
  ·cases J
def Al(T:Nat→Option AV):List (Nat×Operand)→Option (List (Nat×AV))
|[]=>some []
|(i,x)::xs=>match Zp T x,Al T xs with|some v,some G=>some ((i,v)::G)|_,_=>none
theorem TD(r:Zo φ M0 N D T h a w):∀{xs:List (Nat×Operand)} {J:List (Nat×AV)},Al T xs=some J →
  J.map (·.1)=(xs.map fun(i,x)=>(i,a.eval x)).map (·.1)∧Qg φ h w (MM φ h M0) (J.map (·.2)) ((xs.map fun(i,x)=>(i,a.eval x)).map (·.2))
|[],J,G=>by simp only[Al,Q0] at G;subst G;simp[Qg]
|(i,x)::xs,J,G=>by
  simp only[Al] at G;split at G
  ·rename_i v O Y U;simp only[Q0] at G;subst G;obtain⟨Z,W⟩:=TD r U;refine⟨by simp only[WV,Z],?_⟩;simp only[WV,Qg];exact⟨_,_,rfl,r.ev Y,W⟩
  ·cases G
def zt(P:Program)(fields:Array Field)(i:Nat):Option (Nat×Nat) :=
 match fields[i]? with
|some f=>match P.info? f.type with|some t=>some (f.offset,t.size)|none=>none
|none=>none
theorem vo{α β:Type}(f:α→Sem β)(g:α→β):∀(l:List α),(∀x∈l,(f x).run P w=.ok (g x) w)→(l.mapM f).run P w=.ok (l.map g) w
|[],_=>by simp
|x::l,G=>by
  simp only[List.mapM_cons,Sem.run_bind,G x zq,Result.andThen_ok,vo f g l (fun y J=>G y (by simp[J])),Sem.run_pure,WV]
def Am(P:Program)(T:Nat→Option AV)(t:TypeId)(parts:Array (Nat×Operand)):Option KL :=
 match P.info? t with
|some i =>
  match i.zero,P.underlying t,Al T parts.toList with
 |some z,some (.struct fields),some ps =>
   if fields.toList.all (fun f=>(P.info? f.type).isSome) then
    match cellsOf (Ag z) with
   |some cs=>match MF (zt P fields) cs ps with|some rs=>some (.agg rs,none,[])|none=>none
   |none=>none
   else none
 |some z,some (.array _ e),some ps =>
   match P.info? e,cellsOf (Ag z) with
  |some j,some cs=>match MF (fun i=>some (i*j.size,j.size)) cs ps with|some rs=>some (.agg rs,none,[])|none=>none
  |_,_=>none
 |_,_,_=>none
|none=>none
theorem lD(r:Zo φ M0 N D T h a w){t:TypeId}{u:KL}(ho:o.op=.build t parts)(G:Am P T t parts=some u):u.2.1=none∧Yield P o φ M0 h a w u.1 h:=by
 unfold Am at G;split at G
 ·rename_i i hi;split at G
  ·rename_i z fields ps hz ht O;split at G
   ·rename_i Z;split at G
    ·rename_i cs U;split at G
     ·rename_i rs Y;simp only[Q0] at G;subst G;obtain⟨h1,h2⟩:=TD r O;obtain⟨h3,_,_⟩:=Vo U (WC (φ:=φ) (h:=h) (w:=w) (M:=MM φ h M0) z)
      let g:Field→Nat×Nat:=fun f=>(f.offset,((P.info? f.type).map (·.size)).getD 0)
      have aa:∀i x,zt P fields i=some x→(fun k=>((fields.toList.map g).toArray)[k]?) i=some x:=by
       intro k x W;unfold zt at W;split at W
       ·rename_i f hf;split at W
        ·rename_i ti J;simp only[Q0] at W;subst W;have:fields.toList[k]?=some f:=by simpa using hf
         simp[g,this,J]
        ·cases W
       ·cases W
      obtain⟨c',h4,h5⟩:=MH aa ps _ cs z.cells rs h1 h2 h3 Y;refine⟨rfl,Qo r (v:=.agg c') ?_ ?_⟩
      ·have hm:(fields.mapM fun(f:Field)=>(do pure (f.offset,←sizeOf f.type):Sem (Nat×Nat))).run P w=.ok (fields.toList.map g).toArray w:=by
        rw[Array.mapM_eq_mapM_toList];simp only[Sem.run_map]
        rw[vo _ g fields.toList (fun f hf=>by
         have hs:=X5.1 Z f hf;obtain⟨ti,J⟩:=Rb.1 hs;simp[Zb J,g,J])]
        rfl
       have hq:(parts.map fun(x:Nat×Operand)=>(x.1,a.eval x.2)).toList=parts.toList.map fun(x:Nat×Operand)=>(x.1,a.eval x.2):=by simp
       simp only[execOp,ho,Instr.build,Sem.run_bind,zeroValue,typeInfo,program,Sem.run,hi,hz,Result.andThen_ok,Sem.run_pure,run_underlying ht,hm];simp only[hq,h4,Sem.run_pure,Result.andThen_ok]
      ·simp only[Qe];exact⟨c'.toList,by simp,h5⟩
     ·cases G
    ·cases G
   ·cases G
  ·rename_i z n e ps hz ht O;split at G
   ·rename_i j cs hj U;split at G
    ·rename_i rs Y;simp only[Q0] at G;subst G;obtain⟨h1,h2⟩:=TD r O;obtain⟨h3,_,_⟩:=Vo U (WC (φ:=φ) (h:=h) (w:=w) (M:=MM φ h M0) z);obtain⟨c',h4,h5⟩:=MH (fun i x hx=>hx) ps _ cs z.cells rs h1 h2 h3 Y;refine⟨rfl,Qo r (v:=.agg c') ?_ ?_⟩
     ·have hq:(parts.map fun(x:Nat×Operand)=>(x.1,a.eval x.2)).toList=parts.toList.map fun(x:Nat×Operand)=>(x.1,a.eval x.2):=by simp
      simp only[execOp,ho,Instr.build,Sem.run_bind,zeroValue,typeInfo,program,Sem.run,hi,hz,Result.andThen_ok,Sem.run_pure,run_underlying ht,Zb hj];simp only[hq,h4,Sem.run_pure,Result.andThen_ok]
     ·simp only[Qe];exact⟨c'.toList,by simp,h5⟩
    ·cases G
   ·cases G
  ·cases G
 ·cases G
def known(T:Nat→Option AV)(x:Operand):Option Value:=match Zp T x with|some v=>Ph v|none=>none
def allKnown(T:Nat→Option AV):List Operand→Bool|[]=>true|x::xs=>(known T x).isSome&&allKnown T xs
theorem nT(r:Zo φ M0 N D T h a w)(G:known T x=some v):a.eval x=v:=by
 unfold known at G;split at G
 ·rename_i y J;exact DJ.1 _ _ _ (r.ev J) G
 ·cases G
theorem MI:∀{l:List Operand} {x:Operand},allKnown T l=true→x∈l→(known T x).isSome=true
|y::l,x,G,J=>by
  simp only[allKnown,Z8] at G;rcases List.mem_cons.1 J with rfl|J
  ·exact G.1
  ·exact MI G.2 J
def Xq:Op→Bool|.select ..=>false|_=>true
def Ht(P:Program)(T:Nat→Option AV)(o:Oper):Option KL :=
 if allKnown T o.op.operands.toList&&Xq o.op then
  match YL P (execOp (fun x=>(known T x).getD undef) o) with
 |some (.value v)=>some (Ag v,none,[])
 |_=>none
 else none
theorem pure_ok(r:Zo φ M0 N D T h a w){u:KL}(J:Ht P T o=some u):u.2.1=none∧Yield P o φ M0 h a w u.1 h:=by
 unfold Ht at J;split at J
 ·rename_i O;simp only[Z8] at O;split at J
  ·rename_i v W;simp only[Q0] at J;subst J;refine⟨rfl,Qo r (v:=v) ?_ (WC v)⟩
   have G:execOp a.eval o=execOp (fun x=>(known T x).getD undef) o:=by
    refine execOp_congr o (fun cs b e=>by rw[e] at O;simp[Xq] at O) fun x Y=>?_
    have hs:=MI O.1 (x:=x) (by simpa using Y);obtain⟨y,U⟩:=Rb.1 hs;rw[U,nT r U];rfl
   rw[G];exact Ot W w
  ·cases J
 ·cases J
def vv(k:IntKind)(x y:Int):Int:=k.wrap (BitVec.ofInt k.bits x &&& BitVec.ofInt k.bits y).toNat
def gW(k:IntKind)(x y:Int):Int:=k.wrap (BitVec.ofInt k.bits x ||| BitVec.ofInt k.bits y).toNat
def Qa7(k:IntKind)(x y:Int):Int:=k.wrap (BitVec.ofInt k.bits x ^^^ BitVec.ofInt k.bits y).toNat
def zu(k:IntKind)(x y:Int):Int:=k.wrap (BitVec.ofInt k.bits x &&& ~~~ BitVec.ofInt k.bits y).toNat
def zw(k:IntKind)(x y:Int):Int:=k.wrap (x*2 ^ (min y.toNat k.bits))
def QdR(k:IntKind)(x y:Int):Int:=x.fdiv (2 ^ (min y.toNat k.bits))
def QV(x y:Int):Bool:=decide (x<y)
def leI(x y:Int):Bool:=decide (x≤y)
def Qj(x y:Int):Bool:=x==y
def Qs(x y:List UInt8):Bool:=x==y
def MJ(b:Bool):Bool:=b
theorem MK{x y:Int}(h:x<y):QV x y=true:=by simp[QV,h]
theorem Ef{x y:Int}(h:¬x<y):QV x y=false:=by simp only[QV,decide_eq_false_iff_not];exact h
theorem lF{x y:Int}(h:x=y):Qj x y=true:=by simp[Qj,h]
def Ao(op:BinOp)(k:IntKind)(x y:Int):Option Value :=
 match op with
|.add=>some (.int k (k.wrap (x+y)))
|.sub=>some (.int k (k.wrap (x-y)))
|.mul=>some (.int k (k.wrap (x*y)))
|.quo=>if y=0 then none else some (.int k (k.wrap (x.tdiv y)))
|.rem=>if y=0 then none else some (.int k (x.tmod y))
|.and=>some (.int k (vv k x y))
|.or=>some (.int k (gW k x y))
|.xor=>some (.int k (Qa7 k x y))
|.andNot=>some (.int k (zu k x y))
|.eql=>some (.bool (Qj x y))
|.neq=>some (.bool (!Qj x y))
|.lss=>some (.bool (QV x y))
|.leq=>some (.bool (leI x y))
|.gtr=>some (.bool (QV y x))
|.geq=>some (.bool (leI y x))
|_=>none
def ML(op:BinOp)(k:IntKind)(x y:Int):Option Value :=
 if y<0 then none else
 match op with
|.shl=>some (.int k (zw k x y))
|.shr=>some (.int k (QdR k x y))
|_=>none
def JK(s:ByteArray):List UInt8:=s.data.toList
def WN(l:List UInt8):ByteArray:=⟨l.toArray⟩
theorem Rt(l:List UInt8):JK (WN l)=l:=by simp[JK,WN]
theorem zx(s:ByteArray):WN (JK s)=s:=by simp[JK,WN]
theorem xB(s:ByteArray):s.toList=JK s:=by rw[ByteArray.toList_eq];rfl
theorem xD(x y:ByteArray):x++y=WN (JK x++JK y):=by
 apply ByteArray.ext;simp[WN,JK,ByteArray.data_append]
def zy(op:BinOp)(x y:ByteArray):Option Value :=
 match op with
|.add=>if(JK x).length+(JK y).length≤9223372036854775807 then some (.string (WN (JK x++JK y))) else none
|.eql=>some (.bool (Qs (JK x) (JK y)))
|.neq=>some (.bool (!Qs (JK x) (JK y)))
|.lss=>some (.bool (Op.bytesLess (JK x) (JK y)))
|.leq=>some (.bool (Op.bytesLess (JK x) (JK y)||JK x==JK y))
|.gtr=>some (.bool (!(Op.bytesLess (JK x) (JK y)||JK x==JK y)))
|.geq=>some (.bool (!Op.bytesLess (JK x) (JK y)))
|_=>none
def Ru:BinOp→Bool|.shl|.shr=>true|_=>false
def Ap(T:Nat→Option AV)(op:BinOp)(x y:Operand):Option KL :=
 match Zp T x,Zp T y with
|some (.p (.val (.int k a))),some (.p (.val (.int k' b))) =>
  if Ru op then(match ML op k a b with|some v=>some (.p (.val v),none,[])|none=>none)
  else if k=k' then(match Ao op k a b with|some v=>some (.p (.val v),none,[])|none=>none) else none
|some (.p (.val (.string a))),some (.p (.val (.string b)))=>match zy op a b with|some v=>some (.p (.val v),none,[])|none=>none
|_,_=>none
theorem QdS(r:Zo φ M0 N D T h a w){u:KL}(Y:o.op=.binOp op tx x y ty)(J:Ap T op x y=some u):u.2.1=none∧Yield P o φ M0 h a w u.1 h:=by
 unfold Ap at J;split at J
 ·rename_i k n k' m hx Z;have U:=r.ev hx;have O:=r.ev Z;simp only[Qe,QM] at U O;split at J
  ·rename_i hs;split at J
   ·rename_i v G;simp only[Q0] at J;subst J;refine⟨rfl,Qo r (v:=v) ?_ (by simp[Qe,QM])⟩;unfold ML at G;split at G
    ·cases G
    ·rename_i W;cases op<;>simp[Ru] at hs<;>simp only[Q0] at G<;>subst G<;>simp[execOp,Y,U,O,eqGuard,binOp,Op.shift,W,zw,QdR]
   ·cases J
  ·rename_i hs;split at J
   ·rename_i hk;subst hk;split at J
    ·rename_i v G;simp only[Q0] at J;subst J;refine⟨rfl,Qo r (v:=v) ?_ (by simp[Qe,QM])⟩;cases op<;>first|(simp[Ru] at hs;done)|(simp only[Ao] at G;first|(cases G;done)|(simp only[Q0] at G;subst G;simp[execOp,Y,U,O,eqGuard,binOp,Op.intArith,Op.intBits,Op.intCmp,vv,gW,Qa7,zu,QV,leI,Qj,bne];done)|(by_cases hz:m=0<;>simp only[hz,if_true,if_false] at G<;>first|(cases G;done)|(simp only[Q0] at G;subst G;simp[execOp,Y,U,O,eqGuard,binOp,Op.intDiv,hz])))
    ·cases J
   ·cases J
 ·rename_i n m hx Z;have U:=r.ev hx;have O:=r.ev Z;simp only[Qe,QM] at U O;split at J
  ·rename_i v G;simp only[Q0] at J;subst J;refine⟨rfl,Qo r (v:=v) ?_ (by simp[Qe,QM])⟩;cases op<;>simp only[zy] at G<;>first|(cases G;done)|(simp only[Q0] at G;subst G;simp[execOp,Y,U,O,eqGuard,binOp,Op.stringOp,xB,Qs];done)|skip
   split at G
   ·rename_i ab;simp only[Q0] at G;subst G;have e1:n.size=(JK n).length:=rfl;have e2:m.size=(JK m).length:=rfl;have aa:¬(((n.size+m.size:Nat):Int)>IntKind.i64.max):=by rw[e1,e2];simp[IntKind.max,IntKind.signed,IntKind.bits];omega
    simp only[execOp,Y,U,O,binOp,Op.stringOp,Sem.run_bind];rw[if_neg aa];simp[eqGuard,xD]
   ·cases G
  ·cases J
 ·cases J
def aUn(T:Nat→Option AV)(op:UnOp)(x:Operand):Option KL :=
 match Zp T x with
|some (.p (.val (.bool b)))=>match op with|.not=>some (.p (.val (.bool (!b))),none,[])|_=>none
|some (.p (.val (.int k n)))=>match op with|.neg=>some (.p (.val (.int k (k.wrap (0-n)))),none,[])|_=>none
|_=>none
theorem Qft(r:Zo φ M0 N D T h a w){op:UnOp}{u:KL}(U:o.op=.unOp op tx x)(G:aUn T op x=some u):u.2.1=none∧Yield P o φ M0 h a w u.1 h:=by
 unfold aUn at G;split at G
 ·rename_i b O;have J:=r.ev O;simp only[Qe,QM] at J;split at G
  ·simp only[Q0] at G;subst G;exact⟨rfl,Qo r (v:=.bool (!b)) (by simp[execOp,U,J,Op.unary]) (by simp[Qe,QM])⟩
  ·cases G
 ·rename_i k n O;have J:=r.ev O;simp only[Qe,QM] at J;split at G
  ·simp only[Q0] at G;subst G;exact⟨rfl,Qo r (v:=.int k (k.wrap (0-n))) (by simp[execOp,U,J,Op.unary,Op.intArith]) (by simp[Qe,QM])⟩
  ·cases G
 ·cases G
def vw(P:Program)(T:Nat→Option AV)(dst:TypeId)(src:TypeId)(x:Operand):Option KL :=
 match P.underlying dst,P.underlying src,Zp T x with
|some (.int k),some _,some (.p (.val (.int _ n)))=>some (.p (.val (.int k (k.wrap n))),none,[])
|_,_,_=>none
theorem Qa8(r:Zo φ M0 N D T h a w){src dst:TypeId}{u:KL}(U:o.op=.convert src dst x)(G:vw P T dst src x=some u):u.2.1=none∧Yield P o φ M0 h a w u.1 h:=by
 unfold vw at G;split at G
 ·rename_i k d k' n O hs W;have J:=r.ev W;simp only[Qe,QM] at J;simp only[Q0] at G;subst G;refine⟨rfl,Qo r (v:=.int k (k.wrap n)) ?_ (by simp[Qe,QM])⟩;simp[execOp,U,J,convert,run_underlying O,run_underlying hs,Conv.intToInt]
 ·cases G
end
section
variable {P:Program}{o:Oper}{φ:Nat→Nat}{M0:ZM}{N:Nat}{D:DB}{T:Nat→Option AV}{h:QO}{a:Act}{w:World}
theorem GL{M:ZM}{r:Nat}:∀(cs:List PV) (o:Nat),VQ w M r o cs →
  ∃l:List Value,l.length=cs.length∧(∀j v,l[j]?=some v→w.cell? ⟨r,o+j,none⟩=some v)∧(∀u∈l,u.oneCell'=true)∧(∀(j:Nat) c v,cs[j]?=some c→l[j]?=some v→QM w M c v)
|[],o,_=>⟨[],rfl,by simp,by simp,by simp⟩
|c::cs,o,J=>by
  simp only[VQ] at J;obtain⟨⟨v,W,Z,Y,U⟩,O⟩:=J;obtain⟨l,g1,g2,g3,g4⟩:=GL cs (o+1) O;refine⟨v::l,by simp[g1],?_,?_,?_⟩
  ·intro j u G;cases j with
  |zero=>simp at G;subst G;simpa using W
  |succ j=>have:=g2 j u (by simpa using G);rwa [show o+1+j=o+(j+1) from by omega] at this
  ·intro u hu;rcases List.mem_cons.1 hu with rfl|hu
   ·exact Y
   ·exact g3 u hu
  ·intro j c' u G hu;cases j with
  |zero=>simp at G hu;subst G hu;exact U
  |succ j=>exact g4 j c' u (by simpa using G) (by simpa using hu)
theorem ZG{S:Nat}:∀{es:List (List PV)},(∀e∈es,e.length=S)→es.flatten.length=es.length*S
|[],_=>by simp
|e::es,G=>by
  simp only[List.flatten_cons,X4,JF,ZG (es:=es) (fun x J=>G x (List.mem_cons_of_mem _ J)),G e zq,Nat.add_mul];omega
theorem JO{o:Nat}{cs:List PV}{l:List Value}(O:l.length=cs.length)(hc:∀j v,l[j]?=some v→w'.cell? ⟨r,o+j,none⟩=some v)(Y:∀j,j<l.length→¬M r (o+j))(W:∀u∈l,u.oneCell'=true)(U:∀(j:Nat) c v,cs[j]?=some c→l[j]?=some v→QM w' M c v):VQ w' M r o cs:=by
 rw[Gq];intro j c G;have hlt:j<l.length:=by rw[O];exact(DC.1 G).1
 have J:l[j]?=some l[j]:=List.getElem?_eq_getElem hlt;exact⟨l[j],hc j _ J,Y j hlt,W _ (List.getElem_mem hlt),U j c _ G J⟩
theorem Eg{t:Nat}{S n':Nat}{c:Array Value}(ht:h t=some (.arr ty S n))(hw:w.heap[φ t]?=some (.cells c ty (0,0)))(hn:n≤n')(ai:c'.size=c.size)(ad:∀x,x<n*S→c'[x]?=c[x]?)(r:ZQ φ h w M0) :
  Q8 φ h w φ (upd h t (.arr ty S n')) (w.setRow (φ t) c')∧YZ φ h w φ (upd h t (.arr ty S n')) (w.setRow (φ t) c'):=by
 have G:∀x,x≠φ t→(w.setRow (φ t) c').heap[x]?=w.heap[x]?:=fun x hx=>setRow_other w _ x c' hx
 have O:(w.setRow (φ t) c').heap[φ t]?=some (.cells c' ty (0,0)):=setRow_heap w _ c c' ty _ hw;have hb:∀b ty cs,h b=some (.box ty cs)→t≠b:=fun b ty cs hb e=>by rw[←e,ht] at hb;cases hb
 have ab:∀t2 VG W Z,h t2=some (.arr VG W Z)→∃n3,upd h t (.arr ty S n') t2=some (.arr VG W n3)∧Z≤n3 ∧
   (n3=Z→AKept w (w.setRow (φ t) c') (φ t2) (φ t2) VG):=by
  intro t2 VG W Z J;by_cases e:t=t2
  ·subst e;rw[ht] at J;cases J;refine⟨n',by simp[upd],hn,fun _=>⟨fun h0=>(by rw[hw] at h0;cases h0),.inr ⟨rfl,fun c0 Y=>⟨c',O,?_⟩⟩⟩⟩;rw[hw] at Y;cases Y;exact ai
  ·have hne:φ t2≠φ t:=fun e2=>e (r.inj t2 t (by rw[J];simp) (by rw[ht];simp) e2).symm
   exact⟨Z,by simp[upd,e,J],Kz _,fun _=>Yy (rfl) (by rw[G _ hne])⟩
 have aa:∀t2 VG W U,h t2=some (.vec VG W U)→∃ac,upd h t (.arr ty S n') t2=some (.vec VG W ac)∧U.length≤ac.length ∧
   (ac.length=U.length→φ t2=φ t2∧∀c0,w.heap[φ t2]?=some (.cells c0 VG (0,0))→∃c1,(w.setRow (φ t) c').heap[φ t2]?=some (.cells c1 VG (0,0))∧c1.size=c0.size):=by
  intro t2 VG W Z J;have e:¬t=t2:=fun e=>by rw[←e,ht] at J;cases J
  have hne:φ t2≠φ t:=fun e2=>e (r.inj t2 t (by rw[J];simp) (by rw[ht];simp) e2).symm
  exact⟨Z,by simp[upd,e,J],Kz _,fun _=>⟨rfl,fun c0 Y=>⟨c0,by rw[G _ hne];exact Y,rfl⟩⟩⟩
 have af:∀d k x,h d=some k→k.ob=some x→(∃k',upd h t (.arr ty S n') d=some k'∧k'.ob=some x)∧φ d=φ d:=by
  intro d k x hd ho;have e:¬t=d:=fun e=>by rw[←e,ht] at hd;cases hd;cases ho
  exact⟨⟨k,by simp[upd,e,hd],ho⟩,rfl⟩
 refine⟨⟨rfl,rfl,rfl,by simp,?_,?_,?_,?_,?_,fun t2 VG W U _ J=>aa t2 VG W U J,fun d k x _=>af d k x⟩,?_,ab,aa,af⟩
 ·intro x _ aj;exact G x (fun e=>aj t (by rw[ht];simp) e.symm)
 ·intro x o _ hm;by_cases e:x=φ t
  ·subst e
   have:o<n*S:=by
    rcases Nat.lt_or_ge o (n*S) with hlt|ah
    ·exact hlt
    ·exact absurd ⟨t,_,ht,rfl,ah⟩ hm
   rw[Ke O,Ke hw];exact ad o this
  ·simp[World.cell?,G x e]
 ·rintro x y _ ⟨d,q,h1,J,h3⟩;by_cases e:t=d
  ·subst e;have:q=.arr ty S n':=by simpa [upd] using h1.symm
   subst this;have h4:n*S≤n'*S:=Nat.mul_le_mul_right _ hn;exact⟨t,_,ht,J,Nat.le_trans h4 h3⟩
  ·exact⟨d,q,by simpa [upd,e] using h1,J,h3⟩
 ·intro d ae ds _ hd;exact⟨⟨ds,by simp[upd,hb d _ _ hd,hd]⟩,rfl⟩
 ·intro t2 VG W Z _ J;exact ab t2 VG W Z J
 ·intro d ae ds hd;exact⟨⟨ae,ds,by simp[upd,hb d _ _ hd,hd]⟩,rfl⟩
theorem LC{t:Nat}{S n':Nat}{cap:Nat}(ht:h t=some (.arr ty S n))(r:ZQ φ h w M0)(E:Q8 φ h w φ' (upd h t (.arr ty S n')) w')(X:YZ φ h w φ' (upd h t (.arr ty S n')) w')(J:∀b,b≠t→φ' b=φ b)(O:φ' t=φ t∨φ' t=w.heap.size∧Clear φ h w 1)(aa:∀d,h d≠none→d≠t→w'.heap[φ d]?=w.heap[φ d]?)(ad:w'.heap[φ' t]?=some (.cells c' ty (0,0)))(ae:c'.size=cap*S)(ac:n'≤cap)(ab:cap≤maxLen):ZQ φ' (upd h t (.arr ty S n')) w' M0:=by
 have g:∀d,upd h t (.arr ty S n') d≠none→h d≠none:=fun d U=>by
  by_cases e:t=d
  ·rw[←e,ht];simp
  ·simpa [upd,e] using U
 refine⟨?_,?_,?_,fun x y hx=>Nat.lt_of_lt_of_le (r.lt x y hx) E.size,r.gm.evol E⟩
 ·intro d e U he G;by_cases e1:d=t<;>by_cases W:e=t
  ·rw[e1,W]
  ·rw[e1,J e W] at G;rcases O with Y|⟨Y,hC⟩
   ·rw[Y] at G;rw[e1];exact r.inj t e (by rw[ht];simp) (g e he) G
   ·rcases hC e (g e he) with h4|h4<;>omega
  ·rw[W,J d e1] at G;rcases O with Y|⟨Y,hC⟩
   ·rw[Y] at G;rw[W];exact r.inj d t (g d U) (by rw[ht];simp) G
   ·rcases hC d (g d U) with h4|h4<;>omega
  ·rw[J d e1,J e W] at G;exact r.inj d e (g d U) (g e he) G
 ·intro d q U;by_cases e:t=d
  ·subst e;have:q=.arr ty S n':=by simpa [upd] using U.symm
   subst this;exact .inr ⟨c',cap,ad,ae,ac,ab⟩
  ·have h1:h d=some q:=by simpa [upd,e] using U
   rw[J d (fun W=>e W.symm)];exact Z4 (E.keeps M0) X (aa d (by rw[h1];simp) (fun W=>e W.symm)) (r.blk d q h1)
 ·intro d U o Z;by_cases e:d=t
  ·subst e;rcases O with Y|⟨Y,_⟩
   ·rw[Y] at Z;exact r.fr d (g d U) o Z
   ·rw[Y] at Z;exact absurd (r.lt _ _ Z) zo
  ·rw[J d e] at Z;exact r.fr d (g d U) o Z
theorem Hz{ob:Obj}{t:Nat}{S n':Nat}(ht:h t=some (.arr ty S n))(hn:n<n')(hh:w'.heap=w.heap.push ob)(ho:w'.os=w.os)(ae:w'.tape=w.tape)(hu:w'.output=w.output)(r:ZQ φ h w M0)(hC:Clear φ h w 1) :
  Q8 φ h w (Qy φ t w.heap.size) (upd h t (.arr ty S n')) w'∧YZ φ h w (Qy φ t w.heap.size) (upd h t (.arr ty S n')) w':=by
 have J:∀x,x<w.heap.size→w'.heap[x]?=w.heap[x]?:=fun x hx=>by rw[hh,Array.getElem?_push,if_neg zo]
 have hb:∀b ty cs,h b=some (.box ty cs)→¬t=b:=fun b ty cs hb e=>by rw[←e,ht] at hb;cases hb
 have aa:∀t2 VG U W,h t2=some (.arr VG U W)→∃n3,upd h t (.arr ty S n') t2=some (.arr VG U n3)∧W≤n3 ∧
   (n3=W→AKept w w' (φ t2) (Qy φ t w.heap.size t2) VG):=by
  intro t2 VG U W G;by_cases e:t=t2
  ·subst e;rw[ht] at G;cases G;exact⟨n',by simp[upd],by omega,fun e=>absurd e zo⟩
  ·exact⟨W,by simp[upd,e,G],Kz _,fun _=>Yy (by simp[Qy,e]) (by rw[hC.lt r (by rw[hh];simp) J (by rw[G];simp)])⟩
 have Z:∀t2 VG U O,h t2=some (.vec VG U O)→∃ab,upd h t (.arr ty S n') t2=some (.vec VG U ab)∧O.length≤ab.length ∧
   (ab.length=O.length→Qy φ t w.heap.size t2=φ t2∧∀c0,w.heap[φ t2]?=some (.cells c0 VG (0,0))→∃c1,w'.heap[φ t2]?=some (.cells c1 VG (0,0))∧c1.size=c0.size):=by
  intro t2 VG U W G;have e:¬t=t2:=fun e=>by rw[←e,ht] at G;cases G
  exact⟨W,by simp[upd,e,G],Kz _,fun _=>⟨by simp[Qy,e],fun c0 af=>⟨c0,by rw[hC.lt r (by rw[hh];simp) J (by rw[G];simp)];exact af,rfl⟩⟩⟩
 have ad:∀d k x,h d=some k→k.ob=some x→(∃k',upd h t (.arr ty S n') d=some k'∧k'.ob=some x)∧Qy φ t w.heap.size d=φ d:=by
  intro d k x Y ho;have e:¬t=d:=fun e=>by rw[←e,ht] at Y;cases Y;cases ho
  exact⟨⟨k,by simp[upd,e,Y],ho⟩,by simp[Qy,e]⟩
 refine⟨⟨ho,ae,hu,by rw[hh];simp,fun x hx _=>J x hx,fun x o hx _=>by simp[World.cell?,J x hx],?_,?_,?_,fun t2 VG U O _ G=>Z t2 VG U O G,fun d k x _=>ad d k x⟩,?_,aa,Z,ad⟩
 ·rintro x y hx ⟨d,q,h1,G,h3⟩;by_cases e:t=d
  ·simp only[Qy,e,if_true] at G;omega
  ·exact⟨d,q,by simpa [upd,e] using h1,by simpa [Qy,e] using G,h3⟩
 ·intro d ac ds _ Y;have:=hb d _ _ Y;exact⟨⟨ds,by simp[upd,this,Y]⟩,by simp[Qy,this]⟩
 ·intro t2 VG U W _ G;exact aa t2 VG U W G
 ·intro d ac ds Y;have:=hb d _ _ Y;exact⟨⟨ac,ds,by simp[upd,this,Y]⟩,by simp[Qy,this]⟩
def isNil:AV→Bool|.p (.val (.slice none 0 0))=>true|_=>false
def Bl(S:Nat)(x:AV):Option (List (List PV)) :=
 if isNil x then some [] else match elems x with|some (G,es)=>if G=S then some es else none|none=>none
theorem Aq{x:AV}(G:isNil x=true):x=.p (.val (.slice none 0 0)):=by
 unfold isNil at G;split at G
 ·rfl
 ·cases G
theorem Ar{S:Nat}{x:AV}{es:List (List PV)}(G:Bl S x=some es)(J:Qe φ h w M x v):QM w M (.sl S es) v:=by
 unfold Bl at G;split at G
 ·rename_i U;simp only[Q0] at G;subst G;rw[Aq U] at J;simp only[Qe,QM] at J;simp only[QM];exact .inr ⟨trivial,none,0,J⟩
 ·split at G
  ·rename_i W es' O;split at G
   ·rename_i hS;simp only[Q0] at G;subst G hS;exact DK O J
   ·cases G
  ·cases G
def FO(P:Program)(T:Nat→Option AV)(h:QO)(dst:Option Tmp)(t:TypeId)(s x:Operand):Option KL :=
  match P.underlying t,Zp T s,Zp T x with
 |some (.slice e),some sv,some xv =>
    match P.info? e with
   |some i =>
      match i.zero,Bl i.size xv with
     |some z,some es' =>
        if z.cells.size=i.size∧0<i.size then
          if isNil sv then
            if es'=[] then some (sv,none,[]) else
            (match dst with
            |some d=>if h d=none∧es'.length*i.bytes≤140737488355328∧es'.length≤140737488355328 then some (.tsl i.size es' d,some (d,.arr e i.size es'.length),[d]) else none
            |none=>none)
          else match sv with
           |.tsl S es tk =>
              (match h tk with
              |some (.arr ty G n) =>
                 if es'=[] then some (.tsl S es tk,some (tk,.arr ty G n),[tk]) else
                 if ty=e∧G=S∧S=i.size∧n=es.length∧(es.length+es'.length)*i.bytes≤140737488355328∧es.length+es'.length≤140737488355328 then
                   some (.tsl S (es++es') tk,some (tk,.arr e S (es.length+es'.length)),[tk]) else none
              |_=>none)
           |_=>none
        else none
     |_,_=>none
   |none=>none
 |_,_,_=>none
end
section
variable {P:Program}{o:Oper}{φ:Nat→Nat}{M0:ZM}{N:Nat}{D:DB}{T:Nat→Option AV}{h:QO}{a:Act}{w:World}
theorem KI{t:TypeId}{s:Operand}(J:o.op=.call ⟨.builtin .append,#[s,x],#[t,t]⟩)(G:(Builtin.append_ #[t,t] o.type #[a.eval s,a.eval x]).run P w=.ok v w'):(execOp a.eval o).run P w=.ok (.value v) w':=by
 simp[execOp,J,resolve,invoke,builtin,G]
theorem YN{t:TypeId}{i:TypeInfo}(J:P.underlying t=some (.slice e))(hi:P.info? e=some i)(b q:Option Addr)(len cap c:Nat)(G:len≤cap) :
  (Builtin.append_ #[t,t] ty #[.slice b len cap,.slice q 0 c]).run P w=.ok (.slice b len cap) w:=by
 cases q<;>cases b<;>simp[Builtin.append_,run_underlying J,sizeOf,typeInfo,hi,Builtin.lenOf,G,Builtin.firstCells,loadCells,loadCellsFrom,storeCells]
theorem LD{S:Nat}(r:ZQ φ h w M0)(Z:Clear φ h w 1)(W:h' d=some (.arr ty S n))(O:φ' d=w.heap.size)(G:∀b k,b≠d→h' b=some k→h b=some k∧φ' b=φ b){x:Nat}(hx:x<n*S):¬MM φ' h' M0 w.heap.size x:=by
 rintro(⟨b,k,J,h2,h3⟩|J)
 ·by_cases e:b=d
  ·subst e;rw[W] at J;cases J;simp only at h3;omega
  ·obtain⟨Y,h5⟩:=G b k e J;rcases Z b (by rw[Y];simp) with U|U<;>omega
 ·exact absurd (r.lt _ _ J) zo
theorem Xe{S:Nat}{es:List (List PV)}(Y:QM w M (.sl S es) v)(hne:es≠[]) :
  ∃(J G cap:Nat) (l:List Value),v=.slice (some ⟨J,G,none⟩) es.length cap∧es.length≤cap∧(∀e∈es,e.length=S)∧VR w M S J G es∧l.length=es.length*S ∧
   (∀j u,l[j]?=some u→w.cell? ⟨J,G+j,none⟩=some u)∧(∀u∈l,u.oneCell'=true)∧(∀(j:Nat) c u,es.flatten[j]?=some c→l[j]?=some u→QM w M c u):=by
 simp only[QM] at Y;rcases Y with⟨J,G,cap,O,Z,W⟩|⟨O,_⟩
 ·have U:=(KM es G).1 W;obtain⟨l,g1,g2,g3,g4⟩:=GL _ _ U.2;exact⟨J,G,cap,l,O,Z,U.1,W,by rw[g1,ZG U.1],g2,g3,g4⟩
 ·exact absurd O hne
theorem nU(r:Zo φ M0 N D T h a w){t:TypeId}{s:Operand}{u:KL}(ho:o.op=.call ⟨.builtin .append,#[s,x],#[t,t]⟩)(Y:FO P T h o.dst t s x=some u):Yield P o φ M0 h a w u.1 (ap h u.2.1):=by
 unfold FO at Y;split at Y;rotate_left
 ·cases Y
 rename_i e sv xv ht hs hx;split at Y;rotate_left
 ·cases Y
 rename_i i hi;split at Y;rotate_left
 ·cases Y
 rename_i z es' hz bh;split at Y;rotate_left
 ·cases Y
 rename_i a8;refine Yield.of_lift r 1 fun φ r E0 X0 hC=>?_
 have ai:=Ar bh (r.ev hx);have ah:=r.ev hs;split at Y
 ·rename_i hn;rw[Aq hn] at ah;simp only[Qe,QM] at ah;split at Y
  ·rename_i au;subst au;simp only[Q0] at Y;subst Y;simp only[ap];refine Qo r (v:=.slice none 0 0) ?_ (by rw[Aq hn];simp[Qe,QM]);simp only[QM] at ai;rcases ai with⟨rr,oo,cap,h1,_⟩|⟨_,q,cap,h1⟩
   ·exact KI ho (by rw[ah,h1];exact YN ht hi _ _ _ _ _ zq)
   ·exact KI ho (by rw[ah,h1];exact YN ht hi _ _ _ _ _ zq)
  ·rename_i hne;split at Y;rotate_left
   ·cases Y
   rename_i d bj;split at Y;rotate_left
   ·cases Y
   rename_i hc;obtain⟨hd,az,ba⟩:=hc;simp only[Q0] at Y;subst Y;simp only[ap];have ae:es'≠[]:=fun e=>hne e
   obtain⟨rr,oo,cap,l,h1,h2,h3,h4,h5,h6,h7,h8⟩:=Xe ai ae;have aj:0<es'.length:=List.length_pos_iff.2 ae;have ac:=run_append_nil (P:=P) w t o.type e i z ht hi hz ⟨rr,oo,none⟩ es'.length cap l (by rw[h5]) (fun j v J=>by rw[Addr.add_lit];exact h6 j v J) aj zo zo;have ab:=grownCap_ge w es'.length 0 e;have af:grownCap w es'.length 0 e≤maxLen:=grownCap_le_maxLen w es'.length 0 e (by unfold maxLen;omega);generalize grownCap w es'.length 0 e=gc at *
   let C:Array Value:=l.toArray++Builtin.zeroCells z.cells (gc-es'.length)
   let w':World:=w.drew.alloc (.cells C e)
   obtain⟨E,X⟩:=JM (w:=w) (w':=w') (o:=.cells C e) (b:=d) (k:=.arr e i.size es'.length) (φ:=φ) (h:=h) (M0:=M0) rfl rfl rfl rfl hd r.hp hC
   have aa:C.size=gc*i.size:=by
    simp only[C,Array.size_append,List.size_toArray,size_zeroCells,a8.1,h5];rw[←Nat.add_mul];congr 1;omega
   have G:w'.heap[w.heap.size]?=some (.cells C e (0,0)):=by show(w.heap.push _)[w.heap.size]?=_;simp
   have hH:ZQ (Qy φ d w.heap.size) (upd h d (.arr e i.size es'.length)) w' M0:=JN rfl hd r.hp hC E X (.inr ⟨C,gc,G,aa,ab,af⟩);refine⟨_,.slice (some ⟨w.heap.size,0,none⟩) es'.length gc,w',Qy φ d w.heap.size,KI ho (by rw[ah,h1];exact ac),.inl rfl,?_,hH,E,X⟩
   have O:∀x,x<es'.length*i.size→¬MM (Qy φ d w.heap.size) (upd h d (.arr e i.size es'.length)) M0 w.heap.size x:=fun x hx =>
    LD (φ:=φ) (h:=h) r.hp hC (d:=d) (ty:=e) (S:=i.size) (n:=es'.length) (by simp[upd]) (by simp[Qy]) (fun b k hb hk=>⟨by simpa [upd,Ne.symm hb] using hk,by simp[Qy,Ne.symm hb]⟩) hx
   simp only[Qe,QM];refine⟨.inl ⟨w.heap.size,0,gc,rfl,ab,?_⟩,e,es'.length,by simp[upd],Kz _,fun _=>.inr ⟨gc,C,by simp[Qy],by simpa [Qy] using G,aa,ab,af⟩⟩;rw[KM];refine⟨h3,JO (l:=l) (by rw[h5,ZG h3]) ?_ ?_ h7 ?_⟩
   ·intro j v J;rw[Ke G];have hlt:j<l.length:=(DC.1 J).1;simp only[Nat.zero_add,C];rw[Array.getElem?_append_left (by simpa using hlt)];simpa using J
   ·intro j J;simp only[Nat.zero_add];exact O j (by rw[←h5];exact J)
   ·intro j c v J hv;exact(Z0 (E.keeps M0)).1 _ _ (h8 j c v J hv)
 ·rename_i hn;split at Y;rotate_left
  ·cases Y
  rename_i S es tk;split at Y;rotate_left
  ·cases Y
  rename_i ty S' n Z;simp only[Qe] at ah;obtain⟨av,VG,n2,ay,bb,ak⟩:=ah;rw[Z] at ay;cases ay;split at Y
  ·rename_i an;simp only[Q0] at Y;subst Y;simp only[ap]
   have bc:∀{k:Blk},h tk=some k→upd h tk k=h:=by
    intro k hk;funext b;simp only[upd];split
    ·rename_i e;rw[←e,hk]
    ·rfl
   rw[bc Z];refine Qo r (v:=a.eval s) ?_ (by simp only[Qe];exact⟨av,ty,n,Z,bb,ak⟩)
   have bi:∃q c,a.eval x=.slice q 0 c:=by
    subst an;simp only[QM] at ai;rcases ai with⟨rr,oo,cap,h1,_⟩|⟨_,q,cap,h1⟩
    ·exact⟨_,_,by simpa using h1⟩
    ·exact⟨q,cap,h1⟩
   obtain⟨q,c,hq⟩:=bi;simp only[QM] at av;rcases av with⟨rr,oo,cap,h1,h2,_⟩|⟨_,q2,cap,h1⟩
   ·exact KI ho (by rw[hq,h1];exact YN ht hi _ _ _ _ _ h2)
   ·exact KI ho (by rw[hq,h1];exact YN ht hi _ _ _ _ _ (Nat.zero_le _))
  ·rename_i an;split at Y;rotate_left
   ·cases Y
   rename_i hc;obtain⟨rfl,_,rfl,rfl,az,ba⟩:=hc;simp only[Q0] at Y;subst Y;simp only[ap];rcases ak rfl with⟨bf,am,_⟩|⟨W,c0,am,a6,aq,be,al⟩
   ·have au:es=[]:=List.length_eq_zero_iff.1 bf;subst au;simp only[List.length_nil,Nat.zero_add] at az ba Z ⊢;have ae:es'≠[]:=fun e=>an e
    obtain⟨rr,oo,cap,l,h1,h2,h3,h4,h5,h6,h7,h8⟩:=Xe ai ae;have aj:0<es'.length:=List.length_pos_iff.2 ae;have ac:=run_append_nil (P:=P) w t o.type ty i z ht hi hz ⟨rr,oo,none⟩ es'.length cap l (by rw[h5]) (fun j v J=>by rw[Addr.add_lit];exact h6 j v J) aj zo zo;have ab:=grownCap_ge w es'.length 0 ty;have af:grownCap w es'.length 0 ty≤maxLen:=grownCap_le_maxLen w es'.length 0 ty (by unfold maxLen;omega);generalize grownCap w es'.length 0 ty=gc at *
    let C:Array Value:=l.toArray++Builtin.zeroCells z.cells (gc-es'.length)
    let w':World:=w.drew.alloc (.cells C ty)
    obtain⟨E,X⟩:=Hz (w:=w) (w':=w') (ob:=.cells C ty) (φ:=φ) (h:=h) (M0:=M0) (n':=es'.length) Z zo rfl rfl rfl rfl r.hp hC
    have aa:C.size=gc*i.size:=by
     simp only[C,Array.size_append,List.size_toArray,size_zeroCells,a8.1,h5];rw[←Nat.add_mul];congr 1;omega
    have G:w'.heap[w.heap.size]?=some (.cells C ty (0,0)):=by show(w.heap.push _)[w.heap.size]?=_;simp
    have U:Qy φ tk w.heap.size tk=w.heap.size:=by simp[Qy]
    have hH:ZQ (Qy φ tk w.heap.size) (upd h tk (.arr ty i.size es'.length)) w' M0 :=
     LC Z r.hp E X (fun b hb=>by simp[Qy,Ne.symm hb]) (.inr ⟨U,hC⟩) (fun d hd _=>hC.lt r.hp (w':=w') (by show(w.heap.push _).size≤_;simp) (fun x hx=>by show(w.heap.push _)[x]?=_;rw[Array.getElem?_push,if_neg zo]) hd) (by rw[U];exact G) aa ab af
    refine⟨_,.slice (some ⟨w.heap.size,0,none⟩) es'.length gc,w',Qy φ tk w.heap.size,KI ho (by rw[am,h1];exact ac),.inl rfl,?_,hH,E,X⟩
    have O:∀x,x<es'.length*i.size→¬MM (Qy φ tk w.heap.size) (upd h tk (.arr ty i.size es'.length)) M0 w.heap.size x:=fun x hx =>
     LD (φ:=φ) (h:=h) r.hp hC (d:=tk) (ty:=ty) (S:=i.size) (n:=es'.length) (by simp[upd]) U (fun b k hb hk=>⟨by simpa [upd,Ne.symm hb] using hk,by simp[Qy,Ne.symm hb]⟩) hx
    simp only[Qe,QM,List.nil_append];refine⟨.inl ⟨w.heap.size,0,gc,rfl,ab,?_⟩,ty,es'.length,by simp[upd],Kz _,fun _=>.inr ⟨gc,C,by rw[U],by rw[U];exact G,aa,ab,af⟩⟩;rw[KM];refine⟨h3,JO (l:=l) (by rw[h5,ZG h3]) ?_ ?_ h7 ?_⟩
    ·intro j v J;rw[Ke G];have hlt:j<l.length:=(DC.1 J).1;simp only[Nat.zero_add,C];rw[Array.getElem?_append_left (by simpa using hlt)];simpa using J
    ·intro j J;simp only[Nat.zero_add];exact O j (by rw[←h5];exact J)
    ·intro j c v J hv;exact(Z0 (E.keeps M0)).1 _ _ (h8 j c v J hv)
   obtain⟨rr,oo,cap,l,h1,h2,h3,h4,h5,h6,h7,h8⟩:=Xe ai an;have aj:0<es'.length:=List.length_pos_iff.2 an
   have ar:VR w (MM φ h M0) i.size (φ tk) 0 es:=by
    by_cases ax:es=[]
    ·subst ax;simp[VR]
    ·obtain⟨r2,o2,bk,l2,g1,_,_,g4,_⟩:=Xe av ax;rw[am] at g1;simp only[Value.slice.injEq,Q0,Addr.mk.injEq] at g1;obtain⟨⟨rfl,rfl,_⟩,_⟩:=g1;exact g4
   have ao:∀e∈es,e.length=i.size:=((KM es 0).1 ar).1;by_cases ad:es.length+es'.length≤W
   ·have bd:es.length*i.size+l.length≤c0.size:=by rw[h5,aq,←Nat.add_mul];exact Nat.mul_le_mul_right _ ad
    have ac:=run_append_room (P:=P) w t o.type ty i ht hi (φ tk) es.length W c0 a6 ⟨rr,oo,none⟩ es'.length cap l (by rw[h5]) (fun j v J=>by rw[Addr.add_lit];exact h6 j v J) h7 ad bd
    let C:Array Value:=(c0.toList.take (es.length*i.size)++l++c0.toList.drop (es.length*i.size+l.length)).toArray
    have a7:(c0.toList.take (es.length*i.size)).length=es.length*i.size:=by simp;omega
    have aa:C.size=c0.size:=by simp[C];omega
    obtain⟨E,X⟩:=Eg (φ:=φ) (h:=h) (w:=w) (M0:=M0) (n':=es.length+es'.length) (c':=C) Z a6 zo aa (fun x hx=>by
     simp only[C,List.getElem?_toArray];rw[List.append_assoc,List.getElem?_append_left (by rw[a7];exact hx),List.getElem?_take,if_pos hx];simp) r.hp
    have G:(w.setRow (φ tk) C).heap[φ tk]?=some (.cells C ty (0,0)):=setRow_heap w _ c0 C ty _ a6
    have hH:ZQ φ (upd h tk (.arr ty i.size (es.length+es'.length))) (w.setRow (φ tk) C) M0 :=
     LC Z r.hp E X (fun _ _=>rfl) (.inl rfl) (fun d hd bg=>setRow_other w _ _ C (fun e=>bg (r.hp.inj d tk hd (by rw[Z];simp) e))) G (by rw[aa,aq]) ad al
    refine⟨_,.slice (some ⟨φ tk,0,none⟩) (es.length+es'.length) W,_,φ,KI ho (by rw[am,h1];exact ac),.inl rfl,?_,hH,E,X⟩
    have O:∀x,x<(es.length+es'.length)*i.size→¬MM φ (upd h tk (.arr ty i.size (es.length+es'.length))) M0 (φ tk) x:=by
     rintro x hx (⟨b,k,q1,q2,q3⟩|q1)
     ·by_cases e:tk=b
      ·subst e;have:k=.arr ty i.size (es.length+es'.length):=by simpa [upd] using q1.symm
       subst this;simp only at q3;omega
      ·have q4:h b=some k:=by simpa [upd,e] using q1
       exact e (r.hp.inj b tk (by rw[q4];simp) (by rw[Z];simp) q2).symm
     ·exact r.hp.fr tk (by rw[Z];simp) x q1
    simp only[Qe,QM];refine⟨.inl ⟨φ tk,0,W,by simp,by simpa using ad,?_⟩,ty,es.length+es'.length,by simp[upd],by simp,fun _=>.inr ⟨W,C,rfl,G,by rw[aa,aq],ad,al⟩⟩;rw[Vn];refine⟨(Z0 (E.keeps M0)).2.1 _ _ _ _ ar,?_⟩;rw[KM];refine⟨h3,JO (l:=l) (by rw[h5,ZG h3]) ?_ ?_ h7 ?_⟩
    ·intro j v J;rw[Ke G];have hlt:j<l.length:=(DC.1 J).1;simp only[Nat.zero_add,C,List.getElem?_toArray];rw[List.append_assoc,List.getElem?_append_right (by rw[a7];omega),a7,List.getElem?_append_left zo];rw[show es.length*i.size+j-es.length*i.size=j from by omega];exact J
    ·intro j J;simp only[Nat.zero_add];refine O _ ?_;rw[h5] at J;rw[Nat.add_mul];omega
    ·intro j c v J hv;exact(Z0 (E.keeps M0)).1 _ _ (h8 j c v J hv)
   ·obtain⟨ol,g1,g2,g3,g4⟩:=GL _ _ ((KM es 0).1 ar).2;have aw:ol.length=es.length*i.size:=by rw[g1,ZG ao]
    have ac:=run_append_grow (P:=P) w t o.type ty i z ht hi hz ⟨φ tk,0,none⟩ es.length W ol aw (fun j v J=>by rw[Addr.add_lit];exact g2 j v J) ⟨rr,oo,none⟩ es'.length cap l (by rw[h5])
     (fun j v J=>by rw[Addr.add_lit];exact h6 j v J) zo zo (growslice_fits zo az)
    have ab:=grownCap_ge w (es.length+es'.length) W ty;have af:grownCap w (es.length+es'.length) W ty≤maxLen:=grownCap_le_maxLen w _ W ty (by unfold maxLen;omega);generalize grownCap w (es.length+es'.length) W ty=gc at *
    let C:Array Value:=ol.toArray++l.toArray++Builtin.zeroCells z.cells (gc-(es.length+es'.length))
    let w':World:=w.drew.alloc (.cells C ty)
    obtain⟨E,X⟩:=Hz (w:=w) (w':=w') (ob:=.cells C ty) (φ:=φ) (h:=h) (M0:=M0) (n':=es.length+es'.length) Z zo rfl rfl rfl rfl r.hp hC
    have aa:C.size=gc*i.size:=by
     simp only[C,Array.size_append,List.size_toArray,size_zeroCells,a8.1,h5,aw];rw[←Nat.add_mul,←Nat.add_mul];congr 1;omega
    have G:w'.heap[w.heap.size]?=some (.cells C ty (0,0)):=by show(w.heap.push _)[w.heap.size]?=_;simp
    have U:Qy φ tk w.heap.size tk=w.heap.size:=by simp[Qy]
    have hH:ZQ (Qy φ tk w.heap.size) (upd h tk (.arr ty i.size (es.length+es'.length))) w' M0 :=
     LC Z r.hp E X (fun b hb=>by simp[Qy,Ne.symm hb]) (.inr ⟨U,hC⟩) (fun d hd _=>hC.lt r.hp (w':=w') (by show(w.heap.push _).size≤_;simp) (fun x hx=>by show(w.heap.push _)[x]?=_;rw[Array.getElem?_push,if_neg zo]) hd) (by rw[U];exact G) aa ab af
    refine⟨_,.slice (some ⟨w.heap.size,0,none⟩) (es.length+es'.length) gc,w',Qy φ tk w.heap.size,KI ho (by rw[am,h1];exact ac),.inl rfl,?_,hH,E,X⟩
    have O:∀x,x<(es.length+es'.length)*i.size→¬MM (Qy φ tk w.heap.size) (upd h tk (.arr ty i.size (es.length+es'.length))) M0 w.heap.size x:=fun x hx =>
     LD (φ:=φ) (h:=h) r.hp hC (d:=tk) (ty:=ty) (S:=i.size) (n:=es.length+es'.length) (by simp[upd]) U (fun b k hb hk=>⟨by simpa [upd,Ne.symm hb] using hk,by simp[Qy,Ne.symm hb]⟩) hx
    simp only[Qe,QM];refine⟨.inl ⟨w.heap.size,0,gc,by simp,by simpa using ab,?_⟩,ty,es.length+es'.length,by simp[upd],by simp,fun _=>.inr ⟨gc,C,by rw[U],by rw[U];exact G,aa,ab,af⟩⟩;rw[Vn];constructor
    ·rw[KM];refine⟨ao,JO (l:=ol) g1 ?_ ?_ g3 ?_⟩
     ·intro j v J;rw[Ke G];have hlt:j<ol.length:=(DC.1 J).1;simp only[Nat.zero_add,C];rw[Array.append_assoc,Array.getElem?_append_left (by simpa using hlt)];simpa using J
     ·intro j J;simp only[Nat.zero_add];refine O _ ?_;rw[aw] at J;rw[Nat.add_mul];omega
     ·intro j c v J hv;exact(Z0 (E.keeps M0)).1 _ _ (g4 j c v J hv)
    ·rw[KM];refine⟨h3,JO (l:=l) (by rw[h5,ZG h3]) ?_ ?_ h7 ?_⟩
     ·intro j v J;rw[Ke G];have hlt:j<l.length:=(DC.1 J).1;simp only[Nat.zero_add,C];rw[Array.append_assoc,Array.getElem?_append_right (by simp;omega),Array.getElem?_append_left (by simp;omega)];simp only[List.size_toArray,aw,List.getElem?_toArray];rw[show es.length*i.size+j-es.length*i.size=j from by omega];exact J
     ·intro j J;simp only[Nat.zero_add];refine O _ ?_;rw[h5] at J;rw[Nat.add_mul];omega
     ·intro j c v J hv;exact(Z0 (E.keeps M0)).1 _ _ (h8 j c v J hv)
end
def nV:AV→Option PV|.p x=>some x|.tsl S es _=>some (.sl S es)|_=>none
def FP:List AV→Option (List PV)
|[]=>some []
|x::xs=>match nV x,FP xs with|some y,some ys=>some (y::ys)|_,_=>none
def lG(P:Program):Nat→TypeId→List (Option Nat)
|0,_=>[]
|d+1,t=>match P.underlying t with
 |some (.slice e)=>[some (P.cellsOf e)]
 |some (.struct G)=>G.toList.flatMap fun f=>lG P d f.type
 |some (.array n e)=>(List.replicate n (lG P d e)).flatten
 |_=>[none]
def TE:List (Option Nat)→List PV→List PV|_,[]=>[]|[],c::cs=>c::cs|some S::ss,.val (.slice none 0 0)::cs=>.sl S []::TE ss cs|_::ss,c::cs=>c::TE ss cs
def CL(S:Nat):Nat→List PV→List (List PV)|0,_=>[]|n+1,l=>l.take S::CL S n (l.drop S)
theorem Au{S:Nat}:∀(n:Nat) (l:List PV),l.length=n*S→(CL S n l).flatten=l∧(CL S n l).length=n∧∀e∈CL S n l,e.length=S
|0,l,J=>by
  have:l=[]:=List.eq_nil_of_length_eq_zero (by simpa using J);subst this;simp[CL]
|n+1,l,J=>by
  have U:(n+1)*S=n*S+S:=by rw[Nat.add_mul];omega
  obtain⟨a1,a2,O⟩:=Au (S:=S) n (l.drop S) (by rw[FM];omega);refine⟨by simp only[CL,List.flatten_cons,a1,List.take_append_drop],by simp[CL,a2],?_⟩;intro e G;simp only[CL,List.mem_cons] at G;rcases G with rfl|G
  ·simp;omega
  ·exact O e G
section
variable {P:Program}{o:Oper}{φ:Nat→Nat}{M0:ZM}{N:Nat}{D:DB}{T:Nat→Option AV}{h:QO}{a:Act}{w:World}
theorem vz{x:AV}{y:PV}(G:nV x=some y)(J:Qe φ h w M x v):QM w M y v:=by
 cases x with
|p x=>simp only[nV,Q0] at G;subst G;simpa only[Qe] using J
|tsl S es t=>simp only[nV,Q0] at G;subst G;simp only[Qe] at J;exact J.1
|_=>simp[nV] at G
theorem qi{M:ZM}:∀{xs:List AV} {ys:List PV} {l:List Value},FP xs=some ys→Qg φ h w M xs l→ys.length=l.length∧∀(j:Nat) c u,ys[j]?=some c→l[j]?=some u→QM w M c u
|[],ys,l,G,J=>by simp only[FP,Q0] at G;subst G;simp only[Qg] at J;subst J;simp
|x::xs,ys,l,G,J=>by
  simp only[FP] at G;split at G
  ·rename_i y aa h1 Y;simp only[Q0] at G;subst G;simp only[Qg] at J;obtain⟨v,vs,rfl,h3,Z⟩:=J;obtain⟨U,W⟩:=qi Y Z;refine⟨by simp[U],fun j c u O hu=>?_⟩;cases j with
  |zero=>simp at O hu;subst O hu;exact vz h1 h3
  |succ j=>exact W j c u (by simpa using O) (by simpa using hu)
  ·cases G
theorem qj{M:ZM}:∀{ss:List (Option Nat)} {ys:List PV} {l:List Value},ys.length=l.length→(∀(j:Nat) c u,ys[j]?=some c→l[j]?=some u→QM w M c u) →
  (TE ss ys).length=l.length∧∀(j:Nat) c u,(TE ss ys)[j]?=some c→l[j]?=some u→QM w M c u
|ss,[],l,O,h=>by unfold TE;exact⟨O,h⟩
|[],c::cs,l,O,h=>by unfold TE;exact⟨O,h⟩
|s::ss,c::cs,[],O,h=>by simp at O
|s::ss,c::cs,v::l,O,h=>by
  have W:=qj (ss:=ss) (ys:=cs) (l:=l) (by simpa using O) (fun j c u J G=>h (j+1) c u (by simpa using J) (by simpa using G));have h0:=h 0 c v zq zq
  have U:∀c',QM w M c' v→(c'::TE ss cs).length=(v::l).length∧∀(j:Nat) c u,(c'::TE ss cs)[j]?=some c→(v::l)[j]?=some u→QM w M c u:=by
   intro c' hc;refine⟨by simp[W.1],fun j c u J G=>?_⟩;cases j with
  |zero=>simp at J G;subst J G;exact hc
  |succ j=>exact W.2 j c u (by simpa using J) (by simpa using G)
  unfold TE;split
  ·rename_i h;cases h
  ·rename_i h _;cases h
  ·rename_i S Y cs' J G;cases J;cases G;refine U _ ?_;simp only[QM] at h0 ⊢;exact .inr ⟨trivial,none,0,h0⟩
  ·rename_i J G;cases J;cases G;exact U _ h0
theorem DL(l:List Value)(s:Nat)(hs:l.length=s)(hp:0<s):∀n:Nat,(List.range (n*s)).map (fun k=>l.toArray[k%l.toArray.size]!)=(List.replicate n l).flatten
|0=>by simp
|n+1=>by
  rw[Nat.add_mul,Nat.one_mul,List.range_add,List.map_append,DL l s hs hp n,List.replicate_succ',List.flatten_append];congr 1;simp only[List.map_map,List.flatten_cons,List.flatten_nil,List.append_nil];apply List.ext_getElem?;intro j;by_cases G:j<s
  ·have:(n*s+j)%s=j:=by rw[Nat.add_comm,Nat.add_mul_mod_self_right];exact Nat.mod_eq_of_lt G
   simp[G,hs,this]
  ·simp[G,hs]
def UU(P:Program)(T:Nat→Option AV)(h:QO)(dst:Option Tmp)(t:TypeId)(len:Nat)(parts:Array (Nat×Operand)):Option KL :=
 match P.underlying t,dst,Al T parts.toList with
|some (.slice e),some d,some ps =>
  match P.info? e with
 |some i =>
   match i.zero,h d with
  |some z,none =>
    match cellsOf (Ag z) with
   |some G =>
     if G.length=i.size∧0<i.size∧len*i.size≤16777216 then
      match MF (fun k=>some (k*i.size,i.size)) (List.replicate len G).flatten ps with
     |some rs =>
       match (FP rs).map (TE (List.replicate len (lG P 5 e)).flatten) with
      |some pvs=>if pvs.length=len*i.size∧Ug rs then some (.tsl i.size (CL i.size len pvs) d,some (d,.arr e i.size len),[d]) else none
      |none=>none
     |none=>none
     else none
   |none=>none
  |_,_=>none
 |none=>none
|_,_,_=>none
theorem JX{M:ZM}{xs:List AV}{l:List Value}(G:Qg φ h w M xs l):∀n:Nat,Qg φ h w M (List.replicate n xs).flatten (List.replicate n l).flatten
|0=>by simp[Qg]
|n+1=>by simp only[List.replicate_succ,List.flatten_cons];exact ZF G (JX G n)
theorem Ox(r:Zo φ M0 N D T h a w){t:TypeId}{u:KL}(ho:o.op=.buildSlice t len parts)(G:UU P T h o.dst t len parts=some u):Yield P o φ M0 h a w u.1 (ap h u.2.1):=by
 unfold UU at G;split at G;rotate_left
 ·cases G
 rename_i e d ps ht ao ai;split at G;rotate_left
 ·cases G
 rename_i i hi;split at G;rotate_left
 ·cases G
 rename_i z hz hd;split at G;rotate_left
 ·cases G
 rename_i zs an;split at G;rotate_left
 ·cases G
 rename_i ac;split at G;rotate_left
 ·cases G
 rename_i rs al;split at G;rotate_left
 ·cases G
 rename_i pvs ae;split at G;rotate_left
 ·cases G
 rename_i U;simp only[Q0] at G;subst G;simp only[ap];refine Yield.of_lift r 1 fun φ r E0 X0 hC=>?_
 obtain⟨h1,h2⟩:=TD r ai;obtain⟨h3,_,_⟩:=Vo an (WC (φ:=φ) (h:=h) (w:=w) (M:=MM φ h M0) z);have au:=ZR h3;have aj:z.cells.toList.length=i.size:=by omega
 have Z:Qg φ h w (MM φ h M0) (List.replicate len zs).flatten (((Array.range (len*i.size)).map (z.cells[·%z.cells.size]!)).toList):=by
  have e1:((Array.range (len*i.size)).map (z.cells[·%z.cells.size]!)).toList=(List.replicate len z.cells.toList).flatten:=by
   have:=DL z.cells.toList i.size aj ac.2.1 len;simp only[Array.toArray_toList] at this;rw[←this];simp[Array.toList_range]
  rw[e1];exact JX h3 len
 obtain⟨c',h4,h5⟩:=MH (placeC:=fun k=>some (k*i.size,i.size)) (fun k x hx=>hx) ps _ _ _ rs h1 h2 Z al;have ar:=ZR h5;obtain⟨aq,ab,aa⟩:=Gn.1 ae;have O:=qi ab h5;have O:=qj (ss:=(List.replicate len (lG P 5 e)).flatten) O.1 O.2;rw[aa] at O;obtain⟨h6,h7⟩:=O;have W:c'.size=len*i.size:=by simp at h6;omega
 have af:=Rq U.2 h5;obtain⟨g1,g2,g3⟩:=Au len pvs U.1
 let w':World:=w.alloc (.cells c' e)
 obtain⟨E,X⟩:=JM (w:=w) (w':=w') (o:=.cells c' e) (b:=d) (k:=.arr e i.size len) (φ:=φ) (h:=h) (M0:=M0) rfl rfl rfl rfl hd r.hp hC;have J:w'.heap[w.heap.size]?=some (.cells c' e (0,0)):=by show(w.heap.push _)[w.heap.size]?=_;simp
 have ad:len≤maxLen:=by
  have:len*1≤len*i.size:=Nat.mul_le_mul_left _ ac.2.1;unfold maxLen;omega
 have hH:ZQ (Qy φ d w.heap.size) (upd h d (.arr e i.size len)) w' M0:=JN rfl hd r.hp hC E X (.inr ⟨c',len,J,W,Kz _,ad⟩);refine⟨_,.slice (some ⟨w.heap.size,0,none⟩) len len,w',Qy φ d w.heap.size,?_,.inl rfl,?_,hH,E,X⟩
 ·have hq:(parts.map fun(x:Nat×Operand)=>(x.1,a.eval x.2)).toList=parts.toList.map fun(x:Nat×Operand)=>(x.1,a.eval x.2):=by simp
  have ah:¬(len*i.size>2 ^ 24):=by omega
  by_cases h0:len*i.size=0
  ·have ak:len=0:=by
    rcases Nat.mul_eq_zero.1 h0 with x|x
    ·exact x
    ·omega
   subst ak;have e0:(Array.range (0*i.size)).map (z.cells[·%z.cells.size]!)=#[]:=by apply Array.ext';simp
   have e2:(Array.range 0).map (fun _=>(default:Value))=#[]:=by apply Array.ext';simp
   rw[e0] at h4;have am:Instr.fill (fun k=>some (k*i.size,i.size)) #[] (parts.toList.map fun(x:Nat×Operand)=>(x.1,a.eval x.2))=some c':=h4;simp only[execOp,ho,Instr.buildSlice,Sem.run_bind,run_underlying ht,Zb hi,Result.andThen_ok,hq,h0,if_true,Sem.run_pure];simp[newRow,newObj,Sem.run,w',e2,am]
  ·simp only[execOp,ho,Instr.buildSlice,Sem.run_bind,run_underlying ht,Zb hi,Result.andThen_ok,ah,if_false,h0,hq,zeroValue,typeInfo,program,Sem.run,hi,hz,Sem.run_pure,h4];simp[newRow,newObj,Sem.run,w']
 ·have Y:∀x,x<len*i.size→¬MM (Qy φ d w.heap.size) (upd h d (.arr e i.size len)) M0 w.heap.size x:=fun x hx =>
   LD (φ:=φ) (h:=h) r.hp hC (d:=d) (ty:=e) (S:=i.size) (n:=len) (by simp[upd]) (by simp[Qy]) (fun b k hb hk=>⟨by simpa [upd,Ne.symm hb] using hk,by simp[Qy,Ne.symm hb]⟩) hx
  simp only[Qe,QM];refine⟨.inl ⟨w.heap.size,0,len,by rw[g2],by omega,?_⟩,e,len,by simp[upd],by omega,fun _=>.inr ⟨len,c',by simp[Qy],by simpa [Qy] using J,W,Kz _,ad⟩⟩;rw[KM,g1];refine⟨g3,JO (l:=c'.toList) h6.symm ?_ ?_ af ?_⟩
  ·intro j v hj;rw[Ke J];simpa using hj
  ·intro j hj;simp only[Nat.zero_add];exact Y j (by simp at hj;omega)
  ·intro j c v hj hv;exact(Z0 (E.keeps M0)).1 _ _ (h7 j c v hj hv)
def Xr(T:Nat→Option AV)(G:Nat):Option Operand→Option Nat
|none=>some G
|some x=>match Zp T x with|some (.p (.val (.int _ n)))=>if 0≤n then some n.toNat else none|_=>none
def GQ(P:Program)(T:Nat→Option AV)(t:TypeId)(x:Operand)(lo hi J:Option Operand):Option KL :=
 match P.underlying t,Zp T x with
|some (.slice e),some v =>
  match elems v,P.info? e with
 |some (S,es),some i =>
   match Xr T 0 lo,Xr T es.length hi with
  |some l,some G =>
    if S=i.size∧l≤G∧G≤es.length then
     match J with
    |none=>some (.p (.sl S ((es.take G).drop l)),none,[])
    |some _=>match hi,Xr T es.length J with|some _,some m=>if G≤m∧m≤es.length then some (.p (.sl S ((es.take G).drop l)),none,[]) else none|_,_=>none
    else none
  |_,_=>none
 |_,_=>none
|_,_=>none
theorem Rw(r:Zo φ M0 N D T h a w){J:Nat}(G:Xr T J (some x)=some n):∃k,a.eval x=.int k n:=by
 simp only[Xr] at G;split at G
 ·rename_i k m O;split at G
  ·rename_i U;simp only[Q0] at G;have:=r.ev O;simp only[Qe,QM] at this;exact⟨k,by rw[this];congr 1;omega⟩
  ·cases G
 ·cases G
theorem run_sliceBound{x:Value}{k:IntKind}{y:Nat}{code:BoundsCode}(G:x=.int k n)(J:n≤y):(Instr.sliceBound x y code).run P w=.ok n w:=by
 subst G;have:(0:Int)≤(n:Int)∧(n:Int)≤(y:Int):=⟨by omega,by omega⟩;simp[Instr.sliceBound,asIntOf,this]
theorem zz{S U W cap l G m:Nat}{es:List (List PV)}(O:VR w M S U W es)(h1:l≤G)(h2:G≤es.length)(h3:G≤m) :
  QM w M (.sl S ((es.take G).drop l)) (.slice (if m=l then some ⟨U,W,none⟩ else some ⟨U,W+l*S,none⟩) (G-l) (m-l)):=by
 have J:((es.take G).drop l).length=G-l:=by simp;omega
 simp only[QM];by_cases he:G=l
 ·right;refine⟨List.eq_nil_of_length_eq_zero (by rw[J];omega),(if m=l then some ⟨U,W,none⟩ else some ⟨U,W+l*S,none⟩),m-l,?_⟩;have Z:G-l=0:=by omega
  rw[Z]
 ·left;have hne:¬m=l:=by omega
  refine⟨U,W+l*S,m-l,by simp[hne,J],by omega,?_⟩
  have e1:es=(es.take G).take l++((es.take G).drop l++es.drop G):=by
   rw[←List.append_assoc,List.take_append_drop,List.take_append_drop]
  rw[e1,Vn] at O;have Y:((es.take G).take l).length=l:=by simp;omega
  rw[Y] at O;have:=O.2;rw[Vn] at this;exact this.1
theorem lH(r:Zo φ M0 N D T h a w){t:TypeId}{mx:Option Operand}{u:KL}(ho:o.op=.slice t x lo hi mx)(G:GQ P T t x lo hi mx=some u):u.2.1=none∧Yield P o φ M0 h a w u.1 h:=by
 unfold GQ at G;split at G;rotate_left
 ·cases G
 rename_i e v ht hx;split at G;rotate_left
 ·cases G
 rename_i S es i ae aa;split at G;rotate_left
 ·cases G
 rename_i l J hl U;split at G;rotate_left
 ·cases G
 rename_i hc;obtain⟨rfl,Z,ab⟩:=hc;have h2:=DK ae (r.ev hx)
 have W:∃(q:Option Addr) (cap:Nat),a.eval x=.slice q es.length cap∧es.length≤cap∧(es=[]∨∃rr oo,q=some ⟨rr,oo,none⟩∧VR w (MM φ h M0) i.size rr oo es):=by
  simp only[QM] at h2;rcases h2 with⟨rr,oo,cap,g1,g2,g3⟩|⟨rfl,q,cap,g1⟩
  ·exact⟨_,cap,g1,g2,.inr ⟨rr,oo,rfl,g3⟩⟩
  ·exact⟨q,cap,g1,Nat.zero_le _,.inl rfl⟩
 obtain⟨q,cap,hv,aj,ad⟩:=W;have ak:∀y,J≤y→True:=fun _ _=>trivial
 have O:∀(code:BoundsCode),(match lo.map a.eval with|some v=>Instr.sliceBound v J code|none=>pure 0).run P w=.ok l w:=by
  intro code;cases lo with
 |none=>simp only[Xr,Q0] at hl;subst hl;rfl
 |some y=>obtain⟨k,hk⟩:=Rw r hl;exact run_sliceBound hk Z
 have fin:∀m,J≤m→Qe φ h w (MM φ h M0) (.p (.sl i.size ((es.take J).drop l))) (.slice (if m=l then q else q.map (·.add (l*i.size))) (J-l) (m-l)):=by
  intro m hm;simp only[Qe];rcases ad with rfl|⟨rr,oo,rfl,g3⟩
  ·have:J=0:=by simpa using ab
   subst this;have ai:l=0:=by omega
   subst ai;simp only[QM];exact .inr ⟨by simp,(if m=0 then q else q.map (·.add (0*i.size))),m,by simp⟩
  ·have:=zz (m:=m) (cap:=cap) g3 Z ab hm;simpa [Addr.add_lit] using this
 split at G
 ·simp only[Q0] at G;subst G;refine⟨rfl,Qo r (v:=.slice (if cap=l then q else q.map (·.add (l*i.size))) (J-l) (cap-l)) ?_ (fin cap zo)⟩
  have hb:(Instr.sliceBounds true es.length cap (lo.map a.eval) (hi.map a.eval) none).run P w=.ok (l,J,cap) w:=by
   cases hi with
  |none =>
    simp only[Xr,Q0] at U;subst U;have:=O .sliceB;cases lo with
   |none=>simp[Instr.sliceBounds] at this ⊢;exact this
   |some y=>simp[Instr.sliceBounds] at this ⊢;simp[this]
  |some y =>
    obtain⟨k,hk⟩:=Rw r U;have Y:=run_sliceBound (P:=P) (w:=w) (code:=.sliceAcap) hk (show J≤cap by omega);have:=O .sliceB;cases lo with
   |none=>simp[Instr.sliceBounds,Y] at this ⊢;exact this
   |some y=>simp[Instr.sliceBounds,Y] at this ⊢;simp[this]
  simp[execOp,ho,Instr.sliceAt,Instr.slice,run_underlying ht,hv,hb,Zb aa]
 ·rename_i y;split at G;rotate_left
  ·cases G
  rename_i yh m hm;split at G;rotate_left
  ·cases G
  rename_i ac;simp only[Q0] at G;subst G;refine⟨rfl,Qo r (v:=.slice (if m=l then q else q.map (·.add (l*i.size))) (J-l) (m-l)) ?_ (fin m ac.1)⟩;obtain⟨k1,af⟩:=Rw r hm;obtain⟨k2,ah⟩:=Rw r U
  have hb:(Instr.sliceBounds true es.length cap (lo.map a.eval) (some (a.eval yh)) (some (a.eval y))).run P w=.ok (l,J,m) w:=by
   have b1:=run_sliceBound (P:=P) (w:=w) (code:=.slice3Acap) af (show m≤cap by omega);have b2:=run_sliceBound (P:=P) (w:=w) (code:=.slice3B) ah ac.1;have:=O .slice3C;cases lo with
  |none=>simp[Instr.sliceBounds,b1,b2] at this ⊢;exact this
  |some y=>simp[Instr.sliceBounds,b1,b2] at this ⊢;simp[this]
  simp[execOp,ho,Instr.sliceAt,Instr.slice,run_underlying ht,hv,hb,Zb aa]
end
section
variable {P:Program}{o:Oper}{φ:Nat→Nat}{M0:ZM}{N:Nat}{D:DB}{T:Nat→Option AV}{h:QO}{a:Act}{w:World}
theorem TF{S:Nat}:∀{es:List (List PV)} {k:Nat} {e:List PV} {f:Nat},(∀e∈es,e.length=S)→es[k]?=some e→f<S→es.flatten[k*S+f]?=e[f]?
|[],_,_,_,_,G,_=>by simp at G
|O::es,0,e,f,J,G,hf=>by
  simp only[List.getElem?_cons_zero,Q0] at G;subst G;have:=J O zq;simp only[Nat.zero_mul,Nat.zero_add,List.flatten_cons];rw[List.getElem?_append_left zo]
|O::es,k+1,e,f,J,G,hf=>by
  have h0:=J O zq;simp only[List.getElem?_cons_succ] at G;have:=TF (f:=f) (fun e U=>J e (by simp[U])) G hf;rw[List.flatten_cons,List.getElem?_append_right (by rw[h0,Nat.add_mul];omega),h0,Nat.add_mul,show k*S+1*S+f-S=k*S+f from by omega];exact this
theorem Eh{S:Nat}:∀{es:List (List PV)} {k:Nat} {e G:List PV},(∀e∈es,e.length=S)→es[k]?=some e→G.length=S→(es.set k G).flatten=es.flatten.take (k*S)++G++es.flatten.drop (k*S+S)
|[],_,_,_,_,J,_=>by simp at J
|U::es,0,e,G,O,J,hf=>by
  have h0:=O U zq;simp only[List.set_cons_zero,List.flatten_cons,Nat.zero_mul,Nat.zero_add,List.take_zero,List.nil_append];rw[←h0,List.drop_left]
|U::es,k+1,e,G,O,J,hf=>by
  have h0:=O U zq;simp only[List.getElem?_cons_succ] at J;have:=Eh (fun e W=>O e (by simp[W])) J hf;simp only[List.set_cons_succ,List.flatten_cons,this];have Y:(k+1)*S=U.length+k*S:=by rw[h0,Nat.add_mul];omega
  rw[Y,List.take_length_add_append,Nat.add_assoc,List.drop_length_add_append];simp[List.append_assoc]
theorem Ei{t:Nat}{S:Nat}{es:List (List PV)}{c:Array Value}(Z:h t=some (.vec ty S es))(hw:w.heap[φ t]?=some (.cells c ty (0,0)))(hn:es.length≤es'.length)(ah:c'.size=c.size)(r:ZQ φ h w M0):Q8 φ h w φ (upd h t (.vec ty S es')) (w.setRow (φ t) c')∧YZ φ h w φ (upd h t (.vec ty S es')) (w.setRow (φ t) c'):=by
 have G:∀x,x≠φ t→(w.setRow (φ t) c').heap[x]?=w.heap[x]?:=fun x hx=>setRow_other w _ x c' hx
 have ad:(w.setRow (φ t) c').heap[φ t]?=some (.cells c' ty (0,0)):=setRow_heap w _ c c' ty _ hw;have hb:∀b ty cs,h b=some (.box ty cs)→t≠b:=fun b ty cs hb e=>by rw[←e,Z] at hb;cases hb
 have ab:∀t2 VG U n2,h t2=some (.arr VG U n2)→∃n3,upd h t (.vec ty S es') t2=some (.arr VG U n3)∧n2≤n3 ∧
   (n3=n2→AKept w (w.setRow (φ t) c') (φ t2) (φ t2) VG):=by
  intro t2 VG U n2 J;have e:¬t=t2:=fun e=>by rw[←e,Z] at J;cases J
  have hne:φ t2≠φ t:=fun e2=>e (r.inj t2 t (by rw[J];simp) (by rw[Z];simp) e2).symm
  exact⟨n2,by simp[upd,e,J],Kz _,fun _=>Yy (rfl) (by rw[G _ hne])⟩
 have aa:∀t2 VG U O,h t2=some (.vec VG U O)→∃ac,upd h t (.vec ty S es') t2=some (.vec VG U ac)∧O.length≤ac.length ∧
   (ac.length=O.length→φ t2=φ t2∧∀c0,w.heap[φ t2]?=some (.cells c0 VG (0,0))→∃c1,(w.setRow (φ t) c').heap[φ t2]?=some (.cells c1 VG (0,0))∧c1.size=c0.size):=by
  intro t2 VG U n2 J;by_cases e:t=t2
  ·subst e;rw[Z] at J;cases J;refine⟨es',by simp[upd],hn,fun _=>⟨rfl,fun c0 W=>⟨c',ad,?_⟩⟩⟩;rw[hw] at W;cases W;exact ah
  ·have hne:φ t2≠φ t:=fun e2=>e (r.inj t2 t (by rw[J];simp) (by rw[Z];simp) e2).symm
   exact⟨n2,by simp[upd,e,J],Kz _,fun _=>⟨rfl,fun c0 W=>⟨c0,by rw[G _ hne];exact W,rfl⟩⟩⟩
 have af:∀d k x,h d=some k→k.ob=some x→(∃k',upd h t (.vec ty S es') d=some k'∧k'.ob=some x)∧φ d=φ d:=by
  intro d k x Y ho;have e:¬t=d:=fun e=>by rw[←e,Z] at Y;cases Y;cases ho
  exact⟨⟨k,by simp[upd,e,Y],ho⟩,rfl⟩
 refine⟨⟨rfl,rfl,rfl,by simp,?_,?_,?_,?_,fun t2 VG U O _ J=>ab t2 VG U O J,fun t2 VG U O _ J=>aa t2 VG U O J,fun d k x _=>af d k x⟩,?_,ab,aa,af⟩
 ·intro x _ ai;exact G x (fun e=>ai t (by rw[Z];simp) e.symm)
 ·intro x o _ hm;have e:x≠φ t:=fun e=>hm ⟨t,_,Z,e.symm,trivial⟩
  simp[World.cell?,G x e]
 ·rintro x y _ ⟨d,q,h1,J,h3⟩;by_cases e:t=d
  ·subst e;exact⟨t,_,Z,J,trivial⟩
  ·exact⟨d,q,by simpa [upd,e] using h1,J,h3⟩
 ·intro d ae ds _ Y;exact⟨⟨ds,by simp[upd,hb d _ _ Y,Y]⟩,rfl⟩
 ·intro d ae ds Y;exact⟨⟨ae,ds,by simp[upd,hb d _ _ Y,Y]⟩,rfl⟩
theorem Av{t:Nat}{S:Nat}{es:List (List PV)}{cap:Nat}(ht:h t=some (.vec ty S es))(r:ZQ φ h w M0)(E:Q8 φ h w φ' (upd h t (.vec ty S es')) w')(X:YZ φ h w φ' (upd h t (.vec ty S es')) w')(J:∀b,b≠t→φ' b=φ b)(O:φ' t=φ t∨φ' t=w.heap.size∧Clear φ h w 1)(aa:∀d,h d≠none→d≠t→w'.heap[φ d]?=w.heap[φ d]?)(ae:w'.heap[φ' t]?=some (.cells c' ty (0,0)))(af:c'.size=cap*S)(ab:es'.length≤cap)(ac:cap≤maxLen)(hS:∀e∈es',e.length=S)(ah:∀v∈c'.toList,v.oneCell'=true)(ad:Qg φ h w (MM φ h M0) (es'.flatten.map .p) (c'.toList.take (es'.length*S))):ZQ φ' (upd h t (.vec ty S es')) w' M0:=by
 have g:∀d,upd h t (.vec ty S es') d≠none→h d≠none:=fun d U=>by
  by_cases e:t=d
  ·rw[←e,ht];simp
  ·simpa [upd,e] using U
 refine⟨?_,?_,?_,fun x y hx=>Nat.lt_of_lt_of_le (r.lt x y hx) E.size,r.gm.evol E⟩
 ·intro d e U he G;by_cases e1:d=t<;>by_cases W:e=t
  ·rw[e1,W]
  ·rw[e1,J e W] at G;rcases O with Y|⟨Y,hC⟩
   ·rw[Y] at G;rw[e1];exact r.inj t e (by rw[ht];simp) (g e he) G
   ·rcases hC e (g e he) with h4|h4<;>omega
  ·rw[W,J d e1] at G;rcases O with Y|⟨Y,hC⟩
   ·rw[Y] at G;rw[W];exact r.inj d t (g d U) (by rw[ht];simp) G
   ·rcases hC d (g d U) with h4|h4<;>omega
  ·rw[J d e1,J e W] at G;exact r.inj d e (g d U) (g e he) G
 ·intro d q U;by_cases e:t=d
  ·subst e;have:q=.vec ty S es':=by simpa [upd] using U.symm
   subst this;exact⟨c',cap,ae,af,ab,ac,hS,ah,(QH (E.keeps M0) X).2 _ _ ad⟩
  ·have h1:h d=some q:=by simpa [upd,e] using U
   rw[J d (fun W=>e W.symm)];exact Z4 (E.keeps M0) X (aa d (by rw[h1];simp) (fun W=>e W.symm)) (r.blk d q h1)
 ·intro d U o Z;by_cases e:d=t
  ·subst e;rcases O with Y|⟨Y,_⟩
   ·rw[Y] at Z;exact r.fr d (g d U) o Z
   ·rw[Y] at Z;exact absurd (r.lt _ _ Z) zo
  ·rw[J d e] at Z;exact r.fr d (g d U) o Z
theorem zA{ob:Obj}{t:Nat}{S:Nat}{es:List (List PV)}(ht:h t=some (.vec ty S es))(hn:es.length<es'.length)(hh:w'.heap=w.heap.push ob)(ho:w'.os=w.os)(ad:w'.tape=w.tape)(hu:w'.output=w.output)(r:ZQ φ h w M0)(hC:Clear φ h w 1) :
  Q8 φ h w (Qy φ t w.heap.size) (upd h t (.vec ty S es')) w'∧YZ φ h w (Qy φ t w.heap.size) (upd h t (.vec ty S es')) w':=by
 have J:∀x,x<w.heap.size→w'.heap[x]?=w.heap[x]?:=fun x hx=>by rw[hh,Array.getElem?_push,if_neg zo]
 have hb:∀b ty cs,h b=some (.box ty cs)→¬t=b:=fun b ty cs hb e=>by rw[←e,ht] at hb;cases hb
 have Y:∀t2 VG U O,h t2=some (.vec VG U O)→∃n3,upd h t (.vec ty S es') t2=some (.vec VG U n3)∧O.length≤n3.length ∧
   (n3.length=O.length→Qy φ t w.heap.size t2=φ t2∧∀c0,w.heap[φ t2]?=some (.cells c0 VG (0,0))→∃c1,w'.heap[φ t2]?=some (.cells c1 VG (0,0))∧c1.size=c0.size):=by
  intro t2 VG U O G;by_cases e:t=t2
  ·subst e;rw[ht] at G;cases G;exact⟨es',by simp[upd],by omega,fun e=>absurd e zo⟩
  ·exact⟨O,by simp[upd,e,G],Kz _,fun _=>⟨by simp[Qy,e],fun c0 ae=>⟨c0,by rw[hC.lt r (by rw[hh];simp) J (by rw[G];simp)];exact ae,rfl⟩⟩⟩
 have Z:∀t2 VG U O,h t2=some (.arr VG U O)→∃n3,upd h t (.vec ty S es') t2=some (.arr VG U n3)∧O≤n3 ∧
   (n3=O→AKept w w' (φ t2) (Qy φ t w.heap.size t2) VG):=by
  intro t2 VG U O G;have e:¬t=t2:=fun e=>by rw[←e,ht] at G;cases G
  exact⟨O,by simp[upd,e,G],Kz _,fun _=>Yy (by simp[Qy,e]) (by rw[hC.lt r (by rw[hh];simp) J (by rw[G];simp)])⟩
 have ac:∀d k x,h d=some k→k.ob=some x→(∃k',upd h t (.vec ty S es') d=some k'∧k'.ob=some x)∧Qy φ t w.heap.size d=φ d:=by
  intro d k x W ho;have e:¬t=d:=fun e=>by rw[←e,ht] at W;cases W;cases ho
  exact⟨⟨k,by simp[upd,e,W],ho⟩,by simp[Qy,e]⟩
 refine⟨⟨ho,ad,hu,by rw[hh];simp,fun x hx _=>J x hx,fun x o hx _=>by simp[World.cell?,J x hx],?_,?_,fun t2 VG U aa _ G=>Z t2 VG U aa G,fun t2 VG U aa _ G=>Y t2 VG U aa G,fun d k x _=>ac d k x⟩,?_,Z,Y,ac⟩
 ·rintro x y hx ⟨d,q,h1,G,h3⟩;by_cases e:t=d
  ·simp only[Qy,e,if_true] at G;omega
  ·exact⟨d,q,by simpa [upd,e] using h1,by simpa [Qy,e] using G,h3⟩
 ·intro d ab ds _ W;have:=hb d _ _ W;exact⟨⟨ds,by simp[upd,this,W]⟩,by simp[Qy,this]⟩
 ·intro d ab ds W;have:=hb d _ _ W;exact⟨⟨ab,ds,by simp[upd,this,W]⟩,by simp[Qy,this]⟩
end
section
variable {P:Program}{o:Oper}{φ:Nat→Nat}{M0:ZM}{N:Nat}{D:DB}{T:Nat→Option AV}{h:QO}{a:Act}{w:World}
def W9(P:Program)(T:Nat→Option AV)(h:QO)(t:TypeId)(x ix:Operand):Option KL :=
 match P.underlying t,Zp T x,Zp T ix with
|some (.slice e),some (.vsl S tk n),some (.p (.val (.int _ k))) =>
  match h tk,P.info? e with
 |some (.vec _ _ es),some i=>if n=es.length∧S=i.size∧0≤k∧k.toNat<n then some (.vptr tk n k.toNat 0,none,[tk]) else none
 |_,_=>none
|some (.array len e),some (.vptr tk n k0 f),some (.p (.val (.int _ k))) =>
  match h tk,P.info? e with
 |some (.vec _ _ es),some i=>if n=es.length∧0≤k∧k<len then some (.vptr tk n k0 (f+k.toNat*i.size),none,[tk]) else none
 |_,_=>none
|_,_,_=>none
theorem Oy(r:Zo φ M0 N D T h a w){t:TypeId}{u:KL}(ho:o.op=.indexAddr t x ix)(G:W9 P T h t x ix=some u):u.2.1=none∧Yield P o φ M0 h a w u.1 h:=by
 unfold W9 at G;split at G
 ·rename_i e S tk n kk k ht Z U;split at G
  ·rename_i ty S' es i hb hi;split at G
   ·rename_i hc;simp only[Q0] at G;subst G;have Y:=r.ev Z;have J:=r.ev U;simp only[Qe,QM] at Y J;obtain⟨_,VG,aa,O,ac,W⟩:=Y;rw[hb] at O;cases O;obtain⟨cap,c,W,_⟩:=W hc.1;refine⟨rfl,Qo r (v:=.pointer (some ⟨φ tk,k.toNat*i.size,none⟩)) ?_ ?_⟩
    ·have ab:0≤k∧k<(n:Int):=⟨hc.2.2.1,by omega⟩;simp[execOp,ho,Instr.indexAt,J,asIntOf,run_underlying ht,W,ab,Zb hi,Addr.add_lit]
    ·simp only[Qe];exact⟨rfl,ty,S,es,hb,by omega,fun _=>by rw[hc.2.1];rfl⟩
   ·cases G
  ·cases G
 ·rename_i len e tk n k0 f kk k ht Z U;split at G
  ·rename_i ty S' es i hb hi;split at G
   ·rename_i hc;simp only[Q0] at G;subst G;have Y:=r.ev Z;have J:=r.ev U;simp only[Qe,QM] at Y J;obtain⟨_,VG,S2,aa,O,ac,W⟩:=Y;rw[hb] at O;cases O;have W:=W hc.1;refine⟨rfl,Qo r (v:=.pointer (some ⟨φ tk,k0*S'+(f+k.toNat*i.size),none⟩)) ?_ ?_⟩
    ·simp[execOp,ho,Instr.indexAt,J,asIntOf,run_underlying ht,W,Instr.sureAddr,hc.2.1,hc.2.2,Zb hi,Addr.add_lit,Nat.add_assoc]
    ·simp only[Qe];exact⟨rfl,ty,S',es,hb,by omega,fun _=>rfl⟩
   ·cases G
  ·cases G
 ·cases G
def Xf(P:Program)(T:Nat→Option AV)(h:QO)(s:TypeId)(x:Operand)(f:Nat):Option KL :=
 match P.underlying s,Zp T x with
|some (.struct fields),some (.vptr tk n k g) =>
  match fields[f]?,h tk with
 |some G,some (.vec _ _ es) =>
   match P.info? G.type with
  |some i=>if i.size=0 then none else if n=es.length then some (.vptr tk n k (g+G.offset),none,[tk]) else none
  |none=>none
 |_,_=>none
|_,_=>none
theorem Oz(r:Zo φ M0 N D T h a w){s:TypeId}{f:Nat}{u:KL}(ho:o.op=.fieldAddr s x f)(G:Xf P T h s x f=some u):u.2.1=none∧Yield P o φ M0 h a w u.1 h:=by
 unfold Xf at G;split at G
 ·rename_i fields tk n k g hs Z;split at G
  ·rename_i Y ty S es hf hb;split at G
   ·rename_i i hi;split at G
    ·cases G
    ·rename_i O;split at G
     ·rename_i hn;simp only[Q0] at G;subst G;have W:=r.ev Z;simp only[Qe] at W;obtain⟨_,VG,S2,aa,J,ab,U⟩:=W;rw[hb] at J;cases J;have U:=U hn;refine⟨rfl,Qo r (v:=.pointer (some ⟨φ tk,k*S+(g+Y.offset),none⟩)) ?_ ?_⟩
      ·simp[execOp,ho,Instr.fieldAt,run_underlying hs,hf,U,Instr.sureAddr,fieldPlace,Zb hi,O,Addr.add_lit,Nat.add_assoc]
      ·simp only[Qe];exact⟨rfl,ty,S,es,hb,by omega,fun _=>rfl⟩
     ·cases G
   ·cases G
  ·cases G
 ·cases G
def Aw(P:Program)(T:Nat→Option AV)(h:QO)(ty:TypeId)(x:Operand):Option KL :=
 match P.underlying ty,P.info? ty,Zp T x with
|some d,some i,some (.vptr tk n k f) =>
  match h tk with
 |some (.vec _ _ es) =>
   if n=es.length then
    match es[k]? with
   |some e =>
     if GI d then(if f+i.size≤e.length then some (.agg (((e.drop f).take i.size).map .p),none,[tk]) else none)
     else match e[f]? with|some c=>some (.p c,none,[tk])|none=>none
   |none=>none
   else none
 |_=>none
|_,_,_=>none
theorem lI(r:Zo φ M0 N D T h a w){u:KL}(ho:o.op=.load ty x)(G:Aw P T h ty x=some u):u.2.1=none∧Yield P o φ M0 h a w u.1 h:=by
 unfold Aw at G;split at G
 ·rename_i d i tk n k f hd hi hx;split at G
  ·rename_i tb S es hb;split at G
   ·rename_i hn;split at G
    ·rename_i e hk;have h2:=r.ev hx;simp only[Qe] at h2;obtain⟨_,VG,S2,aj,ac,ak,hv⟩:=h2;rw[hb] at ac;cases ac;have hv:=hv hn;obtain⟨c,cap,hw,ai,ah,af,hS,al,ab⟩:=r.hp.blk tk _ hb;have ae:e.length=S:=hS e (List.mem_of_getElem? hk)
     have J:∀f Z,e[f]?=some Z→∃v,w.cell? ⟨φ tk,k*S+f,none⟩=some v∧Qe φ h w (MM φ h M0) (.p Z) v:=by
      intro f Z O;have hf:f<S:=by rw[←ae];exact(DC.1 O).1
      have Y:=TF hS hk hf;rw[O] at Y;obtain⟨v,U,h5⟩:=Ud ab (i:=k*S+f) (x:=.p Z) (by rw[List.getElem?_map,Y];rfl);refine⟨v,?_,h5⟩;rw[Ke hw];rw[List.getElem?_take] at U;split at U
      ·simpa using U
      ·cases U
     split at G
     ·rename_i W;split at G
      ·rename_i ad;simp only[Q0] at G;subst G
       have aa:∀(m:Nat) (g:Nat),g+m≤e.length→∃l:List Value,l.length=m∧(∀j v,l[j]?=some v→w.cell? ⟨φ tk,k*S+g+j,none⟩=some v)∧Qg φ h w (MM φ h M0) (((e.drop g).take m).map .p) l:=by
        intro m
        induction m with
       |zero=>intro g _;exact⟨[],rfl,by simp,by simp[Qg]⟩
       |succ m ih =>
         intro g hg;have hlt:g<e.length:=by omega
         obtain⟨v,Y,U⟩:=J g e[g] (List.getElem?_eq_getElem hlt);obtain⟨l,q1,q2,q3⟩:=ih (g+1) zo;refine⟨v::l,by simp[q1],fun j u hj=>?_,?_⟩
         ·cases j with
         |zero=>simp at hj;subst hj;simpa using Y
         |succ j=>have:=q2 j u (by simpa using hj);rwa [show k*S+(g+1)+j=k*S+g+(j+1) from by omega] at this
         ·rw[List.drop_eq_getElem_cons hlt];simp only[List.take_succ_cons,WV,Qg];exact⟨v,l,rfl,U,q3⟩
       obtain⟨l,q1,q2,q3⟩:=aa i.size f ad;refine⟨rfl,Qo r (v:=.agg l.toArray) ?_ (by simp only[Qe];exact⟨l,rfl,q3⟩)⟩;have:=TB (w:=w) (r:=φ tk) (off:=k*S+f) hd hi W l q1 q2;simp[execOp,ho,Instr.loadAt,hv,Instr.sureAddr,this]
      ·cases G
     ·rename_i W;split at G
      ·rename_i Z O;simp only[Q0] at G;subst G;obtain⟨v,Y,U⟩:=J f Z O;refine⟨rfl,Qo r (v:=v) ?_ U⟩;have:=TC (P:=P) (w:=w) (r:=φ tk) (off:=k*S+f) hd (by simpa using W) Y;simp[execOp,ho,Instr.loadAt,hv,Instr.sureAddr,this]
      ·cases G
    ·cases G
   ·cases G
  ·cases G
 ·cases G
def TG(P:Program)(T:Nat→Option AV)(h:QO)(ty:TypeId)(x y:Operand):Option KL :=
 match P.info? ty,Zp T x,Zp T y with
|some i,some (.vptr tk n k f),some v =>
  match h tk,cellsOf v with
 |some (.vec tb S es),some G =>
   match FP G,es[k]? with
  |some ps,some e=>if n=es.length∧G.length=i.size∧f+ps.length≤e.length then some (.p (.val undef),some (tk,.vec tb S (es.set k (e.take f++ps++e.drop (f+ps.length)))),[tk]) else none
  |_,_=>none
 |_,_=>none
|_,_,_=>none
theorem Qfu(A B C:List α)(j:Nat):(A++B++C)[j]?=if j<A.length then A[j]? else if j-A.length<B.length then B[j-A.length]? else C[j-A.length-B.length]?:=by
 rw[List.append_assoc];by_cases G:j<A.length
 ·rw[if_pos G,List.getElem?_append_left G]
 ·rw[if_neg G,List.getElem?_append_right zo];by_cases J:j-A.length<B.length
  ·rw[if_pos J,List.getElem?_append_left J]
  ·rw[if_neg J,List.getElem?_append_right zo]
theorem TH{M:ZM}:∀{xs:List AV} {ys:List PV} {l:List Value},FP xs=some ys→Qg φ h w M xs l→Qg φ h w M (ys.map .p) l
|[],ys,l,G,J=>by simp only[FP,Q0] at G;subst G;simpa [Qg] using J
|x::xs,ys,l,G,J=>by
  simp only[FP] at G;split at G
  ·rename_i y aa Y O;simp only[Q0] at G;subst G;simp only[Qg] at J;obtain⟨v,U,rfl,Z,W⟩:=J;simp only[WV,Qg];refine⟨v,U,rfl,?_,TH O W⟩;simp only[Qe];exact vz Y Z
  ·cases G
theorem nW(r:Zo φ M0 N D T h a w){u:KL}(ho:o.op=.store ty x y)(O:TG P T h ty x y=some u):Yield P o φ M0 h a w u.1 (ap h u.2.1):=by
 unfold TG at O;split at O
 ·rename_i i tk n k f v hi hx hy;have h2:=r.ev hx;have h3:=r.ev hy;simp only[Qe] at h2;split at O
  ·rename_i tb S es vs hb an;split at O
   ·rename_i ps e am hk;split at O
    ·rename_i hc;obtain⟨hn,a6,a7⟩:=hc;simp only[Q0] at O;subst O;obtain⟨_,VG,S2,a8,ac,bb,J⟩:=h2;rw[hb] at ac;cases ac;have J:=J hn;obtain⟨c,cap,hw,ai,Z,ak,hS,ad,W⟩:=r.hp.blk tk _ hb;have bd:e.length=S:=hS e (List.mem_of_getElem? hk);obtain⟨h4,h5,h6⟩:=Vo an h3;have aw:=ZR h4;have h7:=TH am h4;have ae:=ZR h7;simp only[WB] at ae;have ah:k<es.length:=(DC.1 hk).1;have ba:k*S+S≤es.length*S:=by have:(k+1)*S≤es.length*S:=Nat.mul_le_mul_right _ ah;rw[Nat.add_mul] at this;omega
     have bc:es.length*S≤c.size:=by rw[ai];exact Nat.mul_le_mul_right _ Z
     have aa:k*S+f+(a.eval y).cells.toList.length≤c.size:=by omega
     have aj:=run_storeCells_at P (φ tk) (k*S+f) tb (a.eval y).cells.toList 0 c w hw (by simpa using aa) h5;simp only[Nat.add_zero] at aj;have hne:(e.take f++ps++e.drop (f+ps.length)).length=S:=by simp;omega
     have ar:=Eh hS hk hne
     let C:Array Value:=(c.toList.take (k*S+f)++(a.eval y).cells.toList++c.toList.drop (k*S+f+(a.eval y).cells.toList.length)).toArray
     have al:C.size=c.size:=by simp[C] at aa ⊢;omega
     have az:=ZG hS
     have ao:e=(es.flatten.drop (k*S)).take S:=by
      apply List.ext_getElem?;intro j;by_cases hj:j<S
      ·rw[List.getElem?_take,if_pos hj,List.getElem?_drop,TF hS hk hj]
      ·rw[List.getElem?_eq_none zo,List.getElem?_eq_none (by simp;omega)]
     have af:Qg φ h w (MM φ h M0) ((es.set k (e.take f++ps++e.drop (f+ps.length))).flatten.map .p) (C.toList.take ((es.set k (e.take f++ps++e.drop (f+ps.length))).length*S)):=by
      have e1:(es.set k (e.take f++ps++e.drop (f+ps.length))).flatten=es.flatten.take (k*S+f)++ps++es.flatten.drop (k*S+f+ps.length):=by
       rw[ar,ao];rw[List.take_take,Nat.min_eq_left zo,List.drop_take,List.drop_drop];have e2:es.flatten.take (k*S)++(es.flatten.drop (k*S)).take f=es.flatten.take (k*S+f):=by rw[List.take_add]
       have e3:(es.flatten.drop (k*S+(f+ps.length))).take (S-(f+ps.length))++es.flatten.drop (k*S+S)=es.flatten.drop (k*S+f+ps.length):=by
        have:=List.take_append_drop (S-(f+ps.length)) (es.flatten.drop (k*S+(f+ps.length)));rw[List.drop_drop] at this;rw[show k*S+(f+ps.length)+(S-(f+ps.length))=k*S+S from by omega] at this;rw[this,Nat.add_assoc]
       rw[←e2,←e3];simp[List.append_assoc]
      rw[e1,List.length_set]
      have e4:C.toList.take (es.length*S)=(c.toList.take (es.length*S)).take (k*S+f)++(a.eval y).cells.toList++(c.toList.take (es.length*S)).drop (k*S+f+(a.eval y).cells.toList.length):=by
       apply List.ext_getElem?;intro j;have au:(c.toList.take (k*S+f)).length=k*S+f:=by simp;omega
       have Y:((c.toList.take (es.length*S)).take (k*S+f)).length=k*S+f:=by simp;omega
       rw[List.getElem?_take];have hB:(c.toList.take (es.length*S)).length=es.length*S:=by simp;omega
       by_cases hj:j<es.length*S
       ·rw[if_pos hj];simp only[C];rw[Qfu,Qfu,au,Y];by_cases G:j<k*S+f
        ·rw[if_pos G,if_pos G,List.getElem?_take,if_pos G,List.getElem?_take,if_pos G,List.getElem?_take,if_pos hj]
        ·rw[if_neg G,if_neg G];by_cases U:j-(k*S+f)<(a.eval y).cells.toList.length
         ·rw[if_pos U,if_pos U]
         ·rw[if_neg U,if_neg U,List.getElem?_drop,List.getElem?_drop,List.getElem?_take,if_pos zo]
       ·rw[if_neg hj,List.getElem?_eq_none];rw[X4,X4,Y,FM,hB];omega
      rw[e4];have ay:ps.length=(a.eval y).cells.toList.length:=ae;simp only[List.map_append,List.map_take,List.map_drop];rw[←ay];exact ZF (ZF (Ue _ W) h7) (Uf _ W)
     obtain⟨E,X⟩:=Ei (φ:=φ) (h:=h) (w:=w) (M0:=M0) (es':=es.set k (e.take f++ps++e.drop (f+ps.length))) (c':=C) hb hw zq al r.hp;have ab:(w.setRow (φ tk) C).heap[φ tk]?=some (.cells C tb (0,0)):=setRow_heap w _ c C tb _ hw
     have hH:=Av (c':=C) (cap:=cap) hb r.hp E X (fun _ _=>rfl) (.inl rfl) (fun d hd av=>setRow_other w _ _ C (fun e=>av (r.hp.inj d tk hd (by rw[hb];simp) e))) ab (by rw[al,ai]) (by simpa using Z) ak
      (fun e' ax=>by rcases List.mem_or_eq_of_mem_set ax with h8|h8;exact hS e' h8;rw[h8];exact hne)
      (fun v J=>by
       simp only[C,List.mem_append] at J;rcases J with(J|J)|J
       ·exact ad v (List.mem_of_mem_take J)
       ·exact h5 v J
       ·exact ad v (List.mem_of_mem_drop J)) af
     refine⟨.skip,undef,_,φ,?_,.inr ⟨rfl,rfl⟩,by simp[Qe,QM],hH,E,X⟩;have aq:(a.eval y).cells.size=i.size:=by simp at aw;omega
     simp[execOp,ho,Instr.storeAt,J,Instr.sureAddr,storeVar,Zb hi,aq,aj,C]
    ·cases O
   ·cases O
  ·cases O
 ·cases O
def xH(P:Program)(T:Nat→Option AV)(h:QO)(t:TypeId)(x:Operand):Option KL :=
 match P.underlying t,Zp T x with
|some (.slice _),some (.vsl _ tk n)=>match h tk with|some (.vec _ _ es)=>if n=es.length then some (.p (.val (.int .i64 n)),none,[tk]) else none|_=>none
|some (.slice _),some .vnil=>some (.p (.val (.int .i64 0)),none,[])
|_,_=>none
theorem Qa9(r:Zo φ M0 N D T h a w){t:TypeId}{u:KL}(Z:o.op=.call ⟨.builtin .len,#[x],#[t]⟩)(G:xH P T h t x=some u):u.2.1=none∧Yield P o φ M0 h a w u.1 h:=by
 unfold xH at G;split at G
 ·rename_i e S tk n W U;split at G
  ·rename_i ty S' es hb;split at G
   ·rename_i hn;simp only[Q0] at G;subst G;have J:=r.ev U;simp only[Qe] at J;obtain⟨_,VG,aa,O,ab,Y⟩:=J;rw[hb] at O;cases O;obtain⟨cap,c,Y,_⟩:=Y hn;refine⟨rfl,Qo r (v:=.int .i64 n) ?_ (by simp[Qe,QM])⟩;simp[execOp,Z,resolve,invoke,builtin,Builtin.len_,run_underlying W,Y,goInt]
   ·cases G
  ·cases G
 ·rename_i e W U;simp only[Q0] at G;subst G;have J:=r.ev U;simp only[Qe] at J;refine⟨rfl,Qo r (v:=.int .i64 0) ?_ (by simp[Qe,QM])⟩;simp[execOp,Z,resolve,invoke,builtin,Builtin.len_,run_underlying W,J,goInt]
 ·cases G
end
section
variable {P:Program}{o:Oper}{φ:Nat→Nat}{M0:ZM}{N:Nat}{D:DB}{T:Nat→Option AV}{h:QO}{a:Act}{w:World}
def Rx:List Value→Bool|[]=>true|v::l=>v.oneCell'&&Rx l
theorem Ry:∀{l:List Value},Rx l=true→∀v∈l,v.oneCell'=true
|[],_,v,G=>by simp at G
|x::l,J,v,G=>by
  simp only[Rx,Z8] at J;rcases List.mem_cons.1 G with rfl|G
  ·exact J.1
  ·exact Ry J.2 v G
theorem OA{z:Array Value}(G:v∈(Builtin.zeroCells z n).toList)(J:0<z.size):v∈z.toList:=by
 simp only[Builtin.zeroCells,Array.toList_map,List.mem_map] at G;obtain⟨k,_,rfl⟩:=G;have:k%z.size<z.size:=Nat.mod_lt _ J;rw[getElem!_pos z _ this];simp
theorem Rz{M:ZM}:∀{cs:List PV} {l:List Value},l.length=cs.length→(∀(j:Nat) c u,cs[j]?=some c→l[j]?=some u→QM w M c u)→Qg φ h w M (cs.map .p) l
|[],l,G,_=>by simp at G;subst G;simp[Qg]
|c::cs,[],G,_=>by simp at G
|c::cs,u::l,G,J=>by
  simp only[WV,Qg];refine⟨u,l,rfl,?_,Rz (by simpa using G) (fun j c' O W U=>J (j+1) c' O (by simpa using W) (by simpa using U))⟩;simp only[Qe];exact J 0 c u zq zq
def RA(P:Program)(T:Nat→Option AV)(h:QO)(dst:Option Tmp)(t:TypeId)(s x:Operand):Option KL :=
  match P.underlying t,Zp T s,Zp T x with
 |some (.slice e),some sv,some xv =>
    match P.info? e with
   |some i =>
      match i.zero,Bl i.size xv with
     |some z,some es' =>
        if z.cells.size=i.size∧0<i.size∧Rx z.cells.toList=true then
          match sv with
         |.vnil =>
            if es'=[] then some (.vnil,none,[]) else
            (match dst with
            |some d=>if h d=none∧es'.length*i.bytes≤140737488355328∧es'.length≤140737488355328 then some (.vsl i.size d es'.length,some (d,.vec e i.size es'),[d]) else none
            |none=>none)
         |.vsl S tk n =>
            (match h tk with
            |some (.vec ty G es) =>
               if ty=e∧G=S∧S=i.size∧n=es.length∧(es.length+es'.length)*i.bytes≤140737488355328∧es.length+es'.length≤140737488355328 then
                 if es'=[] then some (.vsl S tk n,some (tk,.vec e S es),[tk]) else
                 some (.vsl S tk (n+es'.length),some (tk,.vec e S (es++es')),[tk]) else none
            |_=>none)
         |_=>none
        else none
     |_,_=>none
   |none=>none
 |_,_,_=>none
theorem xI(r:Zo φ M0 N D T h a w){t:TypeId}{s:Operand}{u:KL}(ho:o.op=.call ⟨.builtin .append,#[s,x],#[t,t]⟩)(J:RA P T h o.dst t s x=some u):Yield P o φ M0 h a w u.1 (ap h u.2.1):=by
 unfold RA at J;split at J;rotate_left
 ·cases J
 rename_i e sv xv ht hs hx;split at J;rotate_left
 ·cases J
 rename_i i hi;split at J;rotate_left
 ·cases J
 rename_i z es' hz bm;split at J;rotate_left
 ·cases J
 rename_i a6;refine Yield.of_lift r 1 fun φ r E0 X0 hC=>?_
 have af:=Ar bm (r.ev hx);have ae:=r.ev hs;have bf:∀n,∀v∈(Builtin.zeroCells z.cells n).toList,v.oneCell'=true:=fun n v U=>Ry a6.2.2 v (OA U zo)
 split at J
 ·simp only[Qe] at ae;split at J
  ·rename_i be;subst be;simp only[Q0] at J;subst J;simp only[ap];refine Qo r (v:=.slice none 0 0) ?_ (by simp[Qe]);simp only[QM] at af;rcases af with⟨rr,oo,cap,h1,_⟩|⟨_,q,cap,h1⟩
   ·exact KI ho (by rw[ae,h1];exact YN ht hi _ _ _ _ _ zq)
   ·exact KI ho (by rw[ae,h1];exact YN ht hi _ _ _ _ _ zq)
  ·rename_i hne;split at J;rotate_left
   ·cases J
   rename_i d bt;split at J;rotate_left
   ·cases J
   rename_i hc;obtain⟨hd,ba,bk⟩:=hc;simp only[Q0] at J;subst J;simp only[ap];have ax:es'≠[]:=fun e=>hne e
   obtain⟨rr,oo,cap,l,h1,h2,h3,h4,h5,h6,h7,h8⟩:=Xe af ax;have aq:0<es'.length:=List.length_pos_iff.2 ax;have aa:=run_append_nil (P:=P) w t o.type e i z ht hi hz ⟨rr,oo,none⟩ es'.length cap l (by rw[h5]) (fun j v hj=>by rw[Addr.add_lit];exact h6 j v hj) aq zo zo;have ak:=grownCap_ge w es'.length 0 e;have au:grownCap w es'.length 0 e≤maxLen:=grownCap_le_maxLen w es'.length 0 e (by unfold maxLen;omega);generalize grownCap w es'.length 0 e=gc at *
   let C:Array Value:=l.toArray++Builtin.zeroCells z.cells (gc-es'.length)
   let w':World:=w.drew.alloc (.cells C e)
   obtain⟨E,X⟩:=JM (w:=w) (w':=w') (o:=.cells C e) (b:=d) (k:=.vec e i.size es') (φ:=φ) (h:=h) (M0:=M0) rfl rfl rfl rfl hd r.hp hC
   have Y:C.size=gc*i.size:=by
    simp only[C,Array.size_append,List.size_toArray,size_zeroCells,a6.1,h5];rw[←Nat.add_mul];congr 1;omega
   have G:w'.heap[w.heap.size]?=some (.cells C e (0,0)):=by show(w.heap.push _)[w.heap.size]?=_;simp
   have ar:∀v∈C.toList,v.oneCell'=true:=by
    intro v U;simp only[C,Array.toList_append,List.mem_append] at U;rcases U with U|U
    ·exact h7 v U
    ·exact bf _ v U
   have ah:C.toList.take (es'.length*i.size)=l:=by
    simp only[C,Array.toList_append];rw[←h5,List.take_left]
   have a8:Qg φ h w (MM φ h M0) (es'.flatten.map .p) l:=Rz (by rw[h5,ZG h3]) h8;have hH:ZQ (Qy φ d w.heap.size) (upd h d (.vec e i.size es')) w' M0:=JN rfl hd r.hp hC E X ⟨C,gc,G,Y,ak,au,h3,ar,by rw[ah];exact(QH (E.keeps M0) X).2 _ _ a8⟩;refine⟨_,.slice (some ⟨w.heap.size,0,none⟩) es'.length gc,w',Qy φ d w.heap.size,KI ho (by rw[ae,h1];exact aa),.inl rfl,?_,hH,E,X⟩;simp only[Qe];exact⟨rfl,e,es',by simp[upd],Kz _,fun _=>⟨gc,C,by simp[Qy],by simpa [Qy] using G,Y,ak,au⟩⟩
 ·rename_i S tk n;split at J;rotate_left
  ·cases J
  rename_i ty S' es W;simp only[Qe] at ae;obtain⟨bj,VG,bv,ay,bb,ac⟩:=ae;rw[W] at ay;cases ay;split at J;rotate_left
  ·cases J
  rename_i hc;obtain⟨rfl,_,rfl,rfl,ba,bk⟩:=hc;obtain⟨O,c0,az,ao,ab,aj,ai⟩:=ac rfl;obtain⟨c1,br,bg,bu,bn,bh,bp,al,av⟩:=r.hp.blk tk _ W;rw[ao] at bg;cases bg;split at J
  ·rename_i aw;simp only[Q0] at J;subst J;simp only[ap]
   have bc:upd h tk (.vec ty i.size es)=h:=by
    funext b;simp only[upd];split
    ·rename_i e;rw[←e,W]
    ·rfl
   rw[bc];refine Qo r (v:=a.eval s) ?_ (by simp only[Qe];exact⟨bj,ty,es,W,bb,ac⟩)
   have bi:∃q c,a.eval x=.slice q 0 c:=by
    subst aw;simp only[QM] at af;rcases af with⟨rr,oo,cap,h1,_⟩|⟨_,q,cap,h1⟩
    ·exact⟨_,_,by simpa using h1⟩
    ·exact⟨q,cap,h1⟩
   obtain⟨q,c,hq⟩:=bi;exact KI ho (by rw[hq,az];exact YN ht hi _ _ _ _ _ aj)
  ·rename_i aw;simp only[Q0] at J;subst J;simp only[ap];obtain⟨rr,oo,cap,l,h1,h2,h3,h4,h5,h6,h7,h8⟩:=Xe af aw;have aq:0<es'.length:=List.length_pos_iff.2 aw;have am:Qg φ h w (MM φ h M0) (es'.flatten.map .p) l:=Rz (by rw[h5,ZG h3]) h8;have an:∀e∈es++es',e.length=i.size:=fun e J=>(List.mem_append.1 J).elim (bp e) (h3 e)
   have bq:es.length*i.size≤c0.size:=by rw[ab];exact Nat.mul_le_mul_right _ aj
   by_cases Z:es.length+es'.length≤O
   ·have bd:es.length*i.size+l.length≤c0.size:=by rw[h5,ab,←Nat.add_mul];exact Nat.mul_le_mul_right _ Z
    have aa:=run_append_room (P:=P) w t o.type ty i ht hi (φ tk) es.length O c0 ao ⟨rr,oo,none⟩ es'.length cap l (by rw[h5]) (fun j v hj=>by rw[Addr.add_lit];exact h6 j v hj) h7 Z bd
    let C:Array Value:=(c0.toList.take (es.length*i.size)++l++c0.toList.drop (es.length*i.size+l.length)).toArray
    have bo:(c0.toList.take (es.length*i.size)).length=es.length*i.size:=by simp;omega
    have Y:C.size=c0.size:=by simp[C];omega
    obtain⟨E,X⟩:=Ei (φ:=φ) (h:=h) (w:=w) (M0:=M0) (es':=es++es') (c':=C) W ao zq Y r.hp;have G:(w.setRow (φ tk) C).heap[φ tk]?=some (.cells C ty (0,0)):=setRow_heap w _ c0 C ty _ ao
    have ar:∀v∈C.toList,v.oneCell'=true:=by
     intro v U;simp only[C,List.mem_append] at U;rcases U with(U|U)|U
     ·exact al v (List.mem_of_mem_take U)
     ·exact h7 v U
     ·exact al v (List.mem_of_mem_drop U)
    have ah:C.toList.take ((es++es').length*i.size)=c0.toList.take (es.length*i.size)++l:=by
     simp only[C];have:(es++es').length*i.size=(c0.toList.take (es.length*i.size)++l).length:=by rw[X4,X4,bo,h5,Nat.add_mul]
     rw[this,List.take_left]
    have hH:ZQ φ (upd h tk (.vec ty i.size (es++es'))) (w.setRow (φ tk) C) M0 :=
     Av W r.hp E X (fun _ _=>rfl) (.inl rfl) (fun d hd bl=>setRow_other w _ _ C (fun e=>bl (r.hp.inj d tk hd (by rw[W];simp) e))) G (by rw[Y,ab]) (by simpa using Z) ai an ar
      (by rw[ah,List.flatten_append,List.map_append];exact ZF av am)
    refine⟨_,.slice (some ⟨φ tk,0,none⟩) (es.length+es'.length) O,_,φ,KI ho (by rw[az,h1];exact aa),.inl rfl,?_,hH,E,X⟩;simp only[Qe];exact⟨rfl,ty,es++es',by simp[upd],by simp,fun _=>⟨O,C,rfl,G,by rw[Y,ab],Z,ai⟩⟩
   ·have a7:(c0.toList.take (es.length*i.size)).length=es.length*i.size:=by simp;omega
    have aa:=run_append_grow (P:=P) w t o.type ty i z ht hi hz ⟨φ tk,0,none⟩ es.length O (c0.toList.take (es.length*i.size)) a7 (fun j v hj=>by
      rw[Addr.add_lit,Nat.zero_add,Ke ao];rw[List.getElem?_take] at hj;split at hj
      ·simpa using hj
      ·cases hj) ⟨rr,oo,none⟩ es'.length cap l (by rw[h5])
     (fun j v hj=>by rw[Addr.add_lit];exact h6 j v hj) zo zo (growslice_fits zo ba)
    have ak:=grownCap_ge w (es.length+es'.length) O ty;have au:grownCap w (es.length+es'.length) O ty≤maxLen:=grownCap_le_maxLen w _ O ty (by unfold maxLen;omega);generalize grownCap w (es.length+es'.length) O ty=gc at *
    let C:Array Value:=(c0.toList.take (es.length*i.size)).toArray++l.toArray++Builtin.zeroCells z.cells (gc-(es.length+es'.length))
    let w':World:=w.drew.alloc (.cells C ty)
    obtain⟨E,X⟩:=zA (w:=w) (w':=w') (ob:=.cells C ty) (φ:=φ) (h:=h) (M0:=M0) (es':=es++es') W (by simp;exact aq) rfl rfl rfl rfl r.hp hC
    have Y:C.size=gc*i.size:=by
     simp only[C,Array.size_append,List.size_toArray,size_zeroCells,a6.1,h5,a7];rw[←Nat.add_mul,←Nat.add_mul];congr 1;omega
    have G:w'.heap[w.heap.size]?=some (.cells C ty (0,0)):=by show(w.heap.push _)[w.heap.size]?=_;simp
    have ad:Qy φ tk w.heap.size tk=w.heap.size:=by simp[Qy]
    have ar:∀v∈C.toList,v.oneCell'=true:=by
     intro v U;simp only[C,Array.toList_append,List.mem_append] at U;rcases U with(U|U)|U
     ·exact al v (List.mem_of_mem_take U)
     ·exact h7 v U
     ·exact bf _ v U
    have ah:C.toList.take ((es++es').length*i.size)=c0.toList.take (es.length*i.size)++l:=by
     simp only[C,Array.toList_append];have:(es++es').length*i.size=(c0.toList.take (es.length*i.size)++l).length:=by rw[X4,X4,a7,h5,Nat.add_mul]
     rw[this,List.take_left]
    have hH:ZQ (Qy φ tk w.heap.size) (upd h tk (.vec ty i.size (es++es'))) w' M0 :=
     Av W r.hp E X (fun b hb=>by simp[Qy,Ne.symm hb]) (.inr ⟨ad,hC⟩) (fun d hd _=>hC.lt r.hp (w':=w') (by show(w.heap.push _).size≤_;simp) (fun x hx=>by show(w.heap.push _)[x]?=_;rw[Array.getElem?_push,if_neg zo]) hd) (by rw[ad];exact G) Y (by simpa using ak) au an ar
      (by rw[ah,List.flatten_append,List.map_append];exact ZF av am)
    refine⟨_,.slice (some ⟨w.heap.size,0,none⟩) (es.length+es'.length) gc,w',Qy φ tk w.heap.size,KI ho (by rw[az,h1];exact aa),.inl rfl,?_,hH,E,X⟩;simp only[Qe];exact⟨rfl,ty,es++es',by simp[upd],by simp,fun _=>⟨gc,C,by rw[ad],by rw[ad];exact G,Y,ak,au⟩⟩
 ·cases J
def Ej(P:Program)(T:Nat→Option AV)(h:QO)(dst:Option Tmp)(t:TypeId)(x y:Operand):Option KL :=
 match P.underlying t,Zp T x,Zp T y,dst with
|some (.slice e),some (.p (.val (.int J l))),some (.p (.val (.int G c))),some d =>
  match P.info? e with
 |some i =>
   match i.zero,h d with
  |some z,none =>
    match FP (z.cells.toList.map Ag) with
   |some ps =>
     if z.cells.size=i.size∧0<i.size∧Rx z.cells.toList=true∧ps.length=i.size∧0≤l∧l≤c∧(i.bytes:Int)*c≤281474976710656∧c≤140737488355328 then
      some (.vsl i.size d l.toNat,some (d,.vec e i.size (List.replicate l.toNat ps)),[d])
     else none
   |none=>none
  |_,_=>none
 |none=>none
|_,_,_,_=>none
theorem OC:∀{l:List Value} {ps:List PV},FP (l.map Ag)=some ps→Qg φ h w M (ps.map .p) l
|l,ps,G=>TH G (repAs_ofV l)
where repAs_ofV:∀l:List Value,Qg φ h w M (l.map Ag) l
|[]=>by simp[Qg]
|x::l=>by simp only[WV,Qg];exact⟨x,l,rfl,WC x,repAs_ofV l⟩
theorem Td(f:α→β)(l:List α)(n:Nat):(List.replicate n l).flatten.map f=(List.replicate n (l.map f)).flatten:=by
 induction n with
|zero=>rfl
|succ n G=>simp[List.replicate_succ,G]
theorem lJ(r:Zo φ M0 N D T h a w){t:TypeId}{u:KL}(ho:o.op=.makeSlice t x y)(G:Ej P T h o.dst t x y=some u):Yield P o φ M0 h a w u.1 (ap h u.2.1):=by
 unfold Ej at G;split at G;rotate_left
 ·cases G
 rename_i e kl l kc c d ht hx hy aj;split at G;rotate_left
 ·cases G
 rename_i i hi;split at G;rotate_left
 ·cases G
 rename_i z hz hd;split at G;rotate_left
 ·cases G
 rename_i ps ad;split at G;rotate_left
 ·cases G
 rename_i hc;obtain⟨h1,h2,h3,h4,h5,h6,h7,h8⟩:=hc;simp only[Q0] at G;subst G;simp only[ap];refine Yield.of_lift r 1 fun φ r E0 X0 hC=>?_
 have ac:=r.ev hx;have aa:=r.ev hy;simp only[Qe,QM] at ac aa;have W:=run_make (P:=P) w t e i z ht hi hz kl kc l c h5 h6 h7 zo
 let C:Array Value:=madeCells z.cells (c.toNat*i.size)
 let w':World:=w.alloc (.cells C e)
 have U:C.toList=(List.replicate c.toNat z.cells.toList).flatten:=by
  have:=DL z.cells.toList i.size (by simpa using h1) h2 c.toNat;simp only[Array.toArray_toList] at this;rw[←this];simp[C,madeCells,Array.toList_range]
 obtain⟨E,X⟩:=JM (w:=w) (w':=w') (o:=.cells C e) (b:=d) (k:=.vec e i.size (List.replicate l.toNat ps)) (φ:=φ) (h:=h) (M0:=M0) rfl rfl rfl rfl hd r.hp hC;have J:w'.heap[w.heap.size]?=some (.cells C e (0,0)):=by show(w.heap.push _)[w.heap.size]?=_;simp
 have ab:C.size=c.toNat*i.size:=by simp[C,madeCells]
 have ai:l.toNat≤c.toNat:=by omega
 have Z:c.toNat≤maxLen:=by unfold maxLen;omega
 have af:∀v∈C.toList,v.oneCell'=true:=by
  intro v Y;rw[U] at Y;obtain⟨q,hq,Y⟩:=List.mem_flatten.1 Y;rw[List.eq_of_mem_replicate hq] at Y;exact Ry h3 v Y
 have ae:C.toList.take ((List.replicate l.toNat ps).length*i.size)=(List.replicate l.toNat z.cells.toList).flatten:=by
  rw[U,List.length_replicate,show c.toNat=l.toNat+(c.toNat-l.toNat) from by omega,←List.replicate_append_replicate,List.flatten_append];have:l.toNat*i.size=((List.replicate l.toNat z.cells.toList).flatten).length:=by simp[h1]
  rw[this,List.take_left]
 have O:Qg φ h w (MM φ h M0) ((List.replicate l.toNat ps).flatten.map .p) ((List.replicate l.toNat z.cells.toList).flatten):=by
  rw[Td];exact JX (OC ad) _
 have hH:ZQ (Qy φ d w.heap.size) (upd h d (.vec e i.size (List.replicate l.toNat ps))) w' M0 :=
  JN rfl hd r.hp hC E X ⟨C,c.toNat,J,ab,by simp;omega,Z,fun e' ah=>by rw[List.eq_of_mem_replicate ah];exact h4,af,by rw[ae];exact(QH (E.keeps M0) X).2 _ _ O⟩
 refine⟨_,.slice (some ⟨w.heap.size,0,none⟩) l.toNat c.toNat,w',Qy φ d w.heap.size,?_,.inl rfl,?_,hH,E,X⟩
 ·simp[execOp,ho,ac,aa,W,w',C]
 ·simp only[Qe];exact⟨rfl,e,List.replicate l.toNat ps,by simp[upd],by simp,fun _=>⟨c.toNat,C,by simp[Qy],by simpa [Qy] using J,ab,ai,Z⟩⟩
def xJ(P:Program)(h:QO)(dst:Option Tmp)(t:TypeId)(parts:Array (Nat×Operand)):Option KL :=
 match P.underlying t,dst,parts.toList with
|some (.slice e),some d,[] =>
  match P.info? e,h d with
 |some i,none=>some (.vsl i.size d 0,some (d,.vec e i.size []),[d])
 |_,_=>none
|_,_,_=>none
theorem Qba(r:Zo φ M0 N D T h a w){t:TypeId}{u:KL}(ho:o.op=.buildSlice t 0 parts)(J:xJ P h o.dst t parts=some u):Yield P o φ M0 h a w u.1 (ap h u.2.1):=by
 unfold xJ at J;split at J;rotate_left
 ·cases J
 rename_i e d ht W O;split at J;rotate_left
 ·cases J
 rename_i i hi Y;simp only[Q0] at J;subst J;simp only[ap];refine Yield.of_lift r 1 fun φ r E0 X0 Z=>?_
 have U:parts=#[]:=by apply Array.ext';simpa using O
 let w':World:=w.alloc (.cells #[] e)
 obtain⟨E,X⟩:=JM (w:=w) (w':=w') (o:=.cells #[] e) (b:=d) (k:=.vec e i.size []) (φ:=φ) (h:=h) (M0:=M0) rfl rfl rfl rfl Y r.hp Z;have G:w'.heap[w.heap.size]?=some (.cells #[] e (0,0)):=by show(w.heap.push _)[w.heap.size]?=_;simp
 have hH:ZQ (Qy φ d w.heap.size) (upd h d (.vec e i.size [])) w' M0 :=
  JN rfl Y r.hp Z E X ⟨#[],0,G,by simp,by simp,by unfold maxLen;omega,by simp,by simp,by simp[Qg]⟩
 refine⟨_,.slice (some ⟨w.heap.size,0,none⟩) 0 0,w',Qy φ d w.heap.size,?_,.inl rfl,?_,hH,E,X⟩
 ·have e2:(Array.range 0).map (fun _=>(default:Value))=#[]:=by apply Array.ext';simp
  subst U;simp only[execOp,ho,Instr.buildSlice,Sem.run_bind,run_underlying ht,Zb hi,Result.andThen_ok,Nat.zero_mul,if_true,Sem.run_pure];simp[newRow,newObj,Sem.run,w',e2,Instr.fill]
 ·simp only[Qe];exact⟨rfl,e,[],by simp[upd],by simp,fun _=>⟨0,#[],by simp[Qy],by simpa [Qy] using G,by simp,by simp,by unfold maxLen;omega⟩⟩
def gX:Option AV→Bool|some (.vptr _ _ _ _)=>true|some (.vsl _ _ _)=>true|some .vnil=>true|_=>false
variable {T':Nat→Option AV}{h':QO}
theorem Pm{t:TypeId}{u:KL}(G:W9 P T h t x ix=some u)(U:Zp T' x=Zp T x)(hi:Zp T' ix=Zp T ix)(O:∀b∈u.2.2,h' b=h b):W9 P T' h' t x ix=some u:=by
 unfold W9 at G ⊢;rw[U,hi];split at G
 ·split at G
  ·rename_i hb J;split at G
   ·rename_i hc;simp only[Q0] at G;subst G;simp only[O _ (List.mem_singleton.2 rfl),hb,J];rw[if_pos hc]
   ·cases G
  ·cases G
 ·split at G
  ·rename_i hb J;split at G
   ·rename_i hc;simp only[Q0] at G;subst G;simp only[O _ (List.mem_singleton.2 rfl),hb,J];rw[if_pos hc]
   ·cases G
  ·cases G
 ·cases G
theorem Pn{t:TypeId}{f:Nat}{u:KL}(G:Xf P T h t x f=some u)(J:Zp T' x=Zp T x)(O:∀b∈u.2.2,h' b=h b):Xf P T' h' t x f=some u:=by
 unfold Xf at G ⊢;rw[J];split at G
 ·split at G
  ·rename_i hf hb;split at G
   ·rename_i hi;split at G
    ·cases G
    ·rename_i U;split at G
     ·rename_i hc;simp only[Q0] at G;subst G;simp only[O _ (List.mem_singleton.2 rfl),hb,hf,hi];rw[if_neg U,if_pos hc]
     ·cases G
   ·cases G
  ·cases G
 ·cases G
theorem vB{t:TypeId}{u:KL}(G:Aw P T h t x=some u)(U:Zp T' x=Zp T x)(O:∀b∈u.2.2,h' b=h b):Aw P T' h' t x=some u:=by
 unfold Aw at G ⊢;rw[U];split at G
 ·rename_i d i tk n k f _ _ _;split at G
  ·rename_i ty S es hb
   have J:h' tk=some (.vec ty S es):=by
    rw[←hb];refine O tk ?_;split at G
    ·split at G
     ·split at G
      ·split at G
       ·simp only[Q0] at G;subst G;simp
       ·cases G
      ·split at G
       ·simp only[Q0] at G;subst G;simp
       ·cases G
     ·cases G
    ·cases G
   simp only[J];exact G
  ·cases G
 ·cases G
theorem zB{t:TypeId}{u:KL}(G:TG P T h t x y=some u)(Y:Zp T' x=Zp T x)(W:Zp T' y=Zp T y)(O:∀b∈u.2.2,h' b=h b):TG P T' h' t x y=some u:=by
 unfold TG at G ⊢;rw[Y,W];split at G
 ·split at G
  ·rename_i hb J;split at G
   ·rename_i hp U;split at G
    ·rename_i hc;simp only[Q0] at G;subst G;simp only[O _ (List.mem_singleton.2 rfl),hb,J,hp,U];rw[if_pos hc]
    ·cases G
   ·cases G
  ·cases G
 ·cases G
def nX(T:Nat→Option AV)(h:QO)(x:Operand):Option KL :=
 match Zp T x with
|some (.vptr tk n k f)=>match h tk with
 |some (.vec _ _ es)=>if n=es.length then some (.vptr tk n k f,none,[tk]) else none
 |_=>none
|_=>none
theorem xK{u:KL}(G:nX T h x=some u)(U:Zp T' x=Zp T x)(O:∀b∈u.2.2,h' b=h b):nX T' h' x=some u:=by
 unfold nX at G ⊢;rw[U];split at G
 ·rename_i tk n k f _;split at G
  ·rename_i ty S es hb
   have J:h' tk=some (.vec ty S es):=by
    rw[←hb];refine O tk ?_;split at G
    ·simp only[Q0] at G;subst G;simp
    ·cases G
   simp only[J];exact G
  ·cases G
 ·cases G
theorem xL{t:TypeId}{u:KL}(G:xH P T h t x=some u)(O:Zp T' x=Zp T x)(J:∀b∈u.2.2,h' b=h b):xH P T' h' t x=some u:=by
 unfold xH at G ⊢;rw[O];split at G
 ·split at G
  ·rename_i hb;split at G
   ·rename_i hc;simp only[Q0] at G;subst G;simp only[J _ (List.mem_singleton.2 rfl),hb];rw[if_pos hc]
   ·cases G
  ·cases G
 ·exact G
 ·cases G
theorem OD{t:TypeId}{s:Operand}{u:KL}(G:RA P T h dst t s x=some u)(hs:Zp T' s=Zp T s)(Z:Zp T' x=Zp T x)(Y:∀b∈u.2.2,h' b=h b):RA P T' h' dst t s x=some u:=by
 unfold RA at G ⊢;rw[hs,Z];split at G
 ·split at G
  ·split at G
   ·split at G
    ·rename_i U;rw[if_pos U];split at G
     ·split at G
      ·rename_i J;rw[if_pos J];exact G
      ·rename_i J;rw[if_neg J];split at G
       ·rename_i d;split at G
        ·rename_i hc;simp only[Q0] at G;subst G;have:h' d=none:=by rw[Y d zq];exact hc.1
         simp only[this];rw[if_pos ⟨trivial,hc.2⟩]
        ·cases G
       ·cases G
     ·rename_i S tk n _;split at G
      ·rename_i ty S' es W
       have O:h' tk=some (.vec ty S' es):=by
        rw[←W];refine Y tk ?_;split at G
        ·split at G
         ·simp only[Q0] at G;subst G;simp
         ·simp only[Q0] at G;subst G;simp
        ·cases G
       simp only[O];exact G
      ·cases G
     ·cases G
    ·cases G
   ·cases G
  ·cases G
 ·cases G
theorem vC{t:TypeId}{u:KL}(G:Ej P T h dst t x y=some u)(Y:Zp T' x=Zp T x)(W:Zp T' y=Zp T y)(O:∀b∈u.2.2,h' b=h b):Ej P T' h' dst t x y=some u:=by
 unfold Ej at G ⊢;rw[Y,W];split at G
 ·rename_i d _ _ _;split at G
  ·split at G
   ·rename_i U J;split at G
    ·rename_i hp;split at G
     ·rename_i hc;simp only[Q0] at G;subst G;simp only[O d zq,J,U,hp];rw[if_pos hc]
     ·cases G
    ·cases G
   ·cases G
  ·cases G
 ·cases G
theorem xM{t:TypeId}{ps:Array (Nat×Operand)}{u:KL}(G:xJ P h dst t ps=some u)(O:∀b∈u.2.2,h' b=h b):xJ P h' dst t ps=some u:=by
 unfold xJ at G ⊢;split at G
 ·rename_i d _ _;split at G
  ·rename_i hi J;simp only[Q0] at G;subst G;simp only[O d zq,J,hi]
  ·cases G
 ·cases G
end
theorem Qbb(r:Zo φ M0 N D T h a w){u:KL}(Z:o.op=.nilCheck x)(G:nX T h x=some u):u.2.1=none∧Yield P o φ M0 h a w u.1 h:=by
 unfold nX at G;split at G
 ·rename_i tk n k f U;split at G
  ·rename_i ty S es hb;split at G
   ·rename_i hn;simp only[Q0] at G;subst G;have O:=r.ev U;refine⟨rfl,Qo r (v:=a.eval x) ?_ O⟩;simp only[Qe] at O;obtain⟨_,VG,S2,W,J,Y,hv⟩:=O;rw[hb] at J;cases J;have h3:=hv hn;simp[execOp,Z,h3]
   ·cases G
  ·cases G
 ·cases G
section
variable {P:Program}{o:Oper}{φ:Nat→Nat}{M0:ZM}{N:Nat}{D:DB}{T:Nat→Option AV}{h:QO}{a:Act}{w:World}
def DN(P:Program)(T:Nat→Option AV)(t:TypeId)(x ix:Operand):Option KL :=
 match P.underlying t,Zp T x,Zp T ix with
|some .string,some (.p (.val (.string s))),some (.p (.val (.int _ n))) =>
  if 0≤n then(match (JK s)[n.toNat]? with|some b=>some (.p (.val (.int .u8 b.toNat)),none,[])|none=>none) else none
|_,_,_=>none
theorem nY(r:Zo φ M0 N D T h a w){t:TypeId}{u:KL}(W:o.op=.index t x ix)(G:DN P T t x ix=some u):u.2.1=none∧Yield P o φ M0 h a w u.1 h:=by
 unfold DN at G;split at G
 ·rename_i s k n Y hx hi;split at G
  ·rename_i Z;split at G
   ·rename_i b hb;simp only[Q0] at G;subst G;have U:=r.ev hx;have O:=r.ev hi;simp only[Qe,QM] at U O;refine⟨rfl,Qo r (v:=.int .u8 b.toNat) ?_ (by simp[Qe,QM])⟩
    have J:s[n.toNat]?=some b:=by
     simp only[JK] at hb;rw[←hb];rw[Array.getElem?_toList];rfl
    simp[execOp,W,Instr.index,U,O,asIntOf,run_underlying Y,Z,J]
   ·cases G
  ·cases G
 ·cases G
def vD(P:Program)(T:Nat→Option AV)(t:TypeId)(x:Operand):Option KL :=
 match P.underlying t,Zp T x with
|some .string,some (.p (.val (.string s)))=>some (.p (.val (.int .i64 (JK s).length)),none,[])
|_,_=>none
theorem Qbc(r:Zo φ M0 N D T h a w){t:TypeId}{u:KL}(O:o.op=.call ⟨.builtin .len,#[x],#[t]⟩)(G:vD P T t x=some u):u.2.1=none∧Yield P o φ M0 h a w u.1 h:=by
 unfold vD at G;split at G
 ·rename_i s U W;simp only[Q0] at G;subst G;have J:=r.ev W;simp only[Qe,QM] at J;refine⟨rfl,Qo r (v:=.int .i64 s.size) ?_ ?_⟩
  ·simp only[execOp,O,resolve,invoke,builtin,Builtin.len_,Sem.run_bind,Sem.run_pure,Result.andThen_ok];simp[run_underlying U,J,goInt]
  ·simp only[Qe,QM];rfl
 ·cases G
def TI(P:Program)(ty:TypeId)(l:List Value)(off:Nat):Option Value :=
 match P.underlying ty,P.info? ty with
|some d,some i=>if GI d then(if off+i.size≤l.length then some (.agg ((l.drop off).take i.size).toArray) else none) else l[off]?
|_,_=>none
def eqV(P:Program):Nat→TypeId→Value→Value→Option Bool
|0,_,_,_=>none
|d+1,t,x,y =>
  match P.underlying t with
 |some .bool=>match x,y with|.bool a,.bool b=>some (a==b)|_,_=>none
 |some (.int _)=>match x,y with|.int k a,.int k' b=>if k=k' then some (Qj a b) else none|_,_=>none
 |some .string=>match x,y with|.string a,.string b=>some (Qs (JK a) (JK b))|_,_=>none
 |some (.struct fields)=>match x,y with|.agg xs,.agg ys=>if P.stoodInHeld t then none else eqFs P d xs.toList ys.toList fields.toList|_,_=>none
 |_=>none
where eqFs (P:Program) (d:Nat) (xs ys:List Value):List Field→Option Bool
|[]=>some true
|f::G =>
  if f.name="_" then eqFs P d xs ys G else
  match TI P f.type xs f.offset,TI P f.type ys f.offset with
 |some a,some b=>match eqV P d f.type a b,eqFs P d xs ys G with|some p,some q=>some (p&&q)|_,_=>none
 |_,_=>none
theorem vE{l:List Value}(G:TI P ty l off=some v):(part ty l.toArray off).run P w=.ok v w:=by
 unfold TI at G;split at G
 ·rename_i d i U hi;split at G
  ·rename_i J;split at G
   ·rename_i W;simp only[Q0] at G;subst G;simp[part,Uh U,J,Zb hi]
   ·cases G
  ·rename_i J;have O:GI d=false:=by simpa using J
   simp[part,Uh U,O,G]
 ·cases G
theorem zC:∀(d:Nat),(∀(t:TypeId) (x y:Value) (b:Bool),eqV P d t x y=some b→∀D,d≤D→(Op.equalIn D t x y).run P w=.ok b w) ∧
  (∀(xs ys:List Value) (O:List Field) (b:Bool),eqV.eqFs P d xs ys O=some b→∀D,d≤D→(Op.eqFields D xs.toArray ys.toArray O).run P w=.ok b w)
|0=>by
  refine⟨fun t x y b G=>by simp[eqV] at G,?_⟩;intro xs ys O
  induction O with
 |nil=>intro b G D _;simp only[eqV.eqFs,Q0] at G;subst G;simp[Op.eqFields]
 |cons f O Y =>
   intro b G D U;simp only[eqV.eqFs] at G;split at G
   ·rename_i W;simp only[Op.eqFields,W,ne_eq,not_true_eq_false,if_false];exact Y b G D U
   ·split at G
    ·simp[eqV] at G
    ·cases G
|d+1=>by
  obtain⟨i1,i2⟩:=zC d
  have j1:∀(t:TypeId) (x y:Value) (b:Bool),eqV P (d+1) t x y=some b→∀D,d+1≤D→(Op.equalIn D t x y).run P w=.ok b w:=by
   intro t x y b G D U;obtain⟨Z,rfl⟩:∃Z,D=Z+1:=⟨D-1,by omega⟩;unfold eqV at G;split at G
   ·rename_i J;split at G
    ·simp only[Q0] at G;subst G;simp[Op.equalIn,run_underlying J]
    ·cases G
   ·rename_i k0 J;split at G
    ·rename_i k p k' q;split at G
     ·rename_i hk;simp only[Q0] at G;subst G;subst hk;simp[Op.equalIn,run_underlying J,Qj]
     ·cases G
    ·cases G
   ·rename_i J;split at G
    ·rename_i p q;simp only[Q0] at G;subst G
     have:(p==q)=Qs (JK p) (JK q):=by
      rw[beq_toListBytes,ByteArray.toList_eq,ByteArray.toList_eq];rfl
     simp[Op.equalIn,run_underlying J,this]
    ·cases G
   ·rename_i fields J;split at G
    ·rename_i xs ys;split at G
     ·cases G
     ·rename_i hp;have aa:P.stoodInHeld t=false:=by simpa using hp
      have hf:P.fieldsOf t=fields:=by simp[Program.fieldsOf,J]
      rw[run_equalIn_struct w Z t xs ys (by rw[hf];exact J) aa,hf];have:=i2 xs.toList ys.toList fields.toList b G Z zo;simpa using this
    ·cases G
   ·cases G
  refine⟨j1,?_⟩;intro xs ys O
  induction O with
 |nil=>intro b G D _;simp only[eqV.eqFs,Q0] at G;subst G;simp[Op.eqFields]
 |cons f O Y =>
   intro b G D U;simp only[eqV.eqFs] at G;split at G
   ·rename_i W;simp only[Op.eqFields,W,ne_eq,not_true_eq_false,if_false];exact Y b G D U
   ·rename_i W;split at G
    ·rename_i p q hp hq;split at G
     ·rename_i b1 b2 h1 h2;simp only[Q0] at G;subst G;simp only[Op.eqFields,ne_eq,W,not_false_eq_true,if_true,Sem.run_bind,vE (w:=w) hp,vE (w:=w) hq,Result.andThen_ok,j1 _ _ _ _ h1 D U];cases b1
      ·simp
      ·simpa using Y b2 h2 D U
     ·cases G
    ·cases G
theorem DR{t:TypeId}{x y:Value}{b:Bool}(h:∀D,4≤D→(Op.equalIn D t x y).run P w=.ok b w):(Op.equal t x y).run P w=.ok b w:=h 10000 zo
theorem MN{t:TypeId}{x y:Value}{b:Bool}(h:∀D,(Op.equalIn (D+1) t x y).run P w=.ok b w):(Op.equal t x y).run P w=.ok b w:=h 9999
def isConst:Operand→Bool|.const _=>true|_=>false
def xP(P:Program)(T:Nat→Option AV)(op:BinOp)(tx:TypeId)(x y:Operand):Option Bool :=
 match Zp T x,Zp T y with
|some (.ifc _ _),some (.p (.val .nilIface))=>match P.underlying tx with|some (.interface _)=>some false|_=>none
|some (.p (.val .nilIface)),some (.ifc _ _)=>match P.underlying tx with|some (.interface _)=>some false|_=>none
|some (.p (.val .nilIface)),some (.p (.val .nilIface))=>match P.underlying tx with|some (.interface _)=>if isConst x||isConst y then some true else none|_=>none
|some (.p (.val (.bool a))),some (.p (.val (.bool b)))=>match P.underlying tx with|some .bool=>some (a==b)|_=>none
|some (.agg xs),some (.agg ys) =>
  if P.eqGuardType P.depth tx then none else
  match Bi xs,Bi ys with
 |some vx,some vy=>eqV P 4 tx (.agg vx.toArray) (.agg vy.toArray)
 |_,_=>none
|_,_=>none
def aEq(P:Program)(T:Nat→Option AV)(op:BinOp)(tx:TypeId)(x y:Operand):Option KL :=
 match op with
|.eql=>match xP P T op tx x y with|some b=>some (.p (.val (.bool (MJ b))),none,[])|none=>none
|.neq=>match xP P T op tx x y with|some b=>some (.p (.val (.bool (!MJ b))),none,[])|none=>none
|_=>none
theorem gY(r:Zo φ M0 N D T h a w){b:Bool}(G:xP P T op tx x y=some b) :
  (eqGuard op tx x y (a.eval x) (a.eval y)).run P w=.ok () w∧(Op.equal tx (a.eval x) (a.eval y)).run P w=.ok b w ∧
   (binOp .eql tx (a.eval x) (a.eval y)=(do pure (.bool (←Op.equal tx (a.eval x) (a.eval y))))∧binOp .neq tx (a.eval x) (a.eval y)=(do pure (.bool (!(←Op.equal tx (a.eval x) (a.eval y)))))):=by
 unfold xP at G;split at G
 ·rename_i t v W U;have O:=r.ev W;have J:=r.ev U;simp only[Qe,QM] at O J;obtain⟨z,O,_⟩:=O;split at G
  ·rename_i ms Y;simp only[Q0] at G;subst G;rw[O,J];refine⟨by cases op<;>simp[eqGuard],MN fun D=>by simp[Op.equalIn,run_underlying Y],rfl,rfl⟩
  ·cases G
 ·rename_i t v W U;have O:=r.ev W;have J:=r.ev U;simp only[Qe,QM] at O J;obtain⟨z,J,_⟩:=J;split at G
  ·rename_i ms Y;simp only[Q0] at G;subst G;rw[O,J];refine⟨by cases op<;>simp[eqGuard],MN fun D=>by simp[Op.equalIn,run_underlying Y],rfl,rfl⟩
  ·cases G
 ·rename_i W U;have O:=r.ev W;have J:=r.ev U;simp only[Qe,QM] at O J;split at G
  ·rename_i ms Y;split at G
   ·rename_i hc;simp only[Q0] at G;subst G;rw[O,J];refine⟨?_,MN fun D=>by simp[Op.equalIn,run_underlying Y],rfl,rfl⟩;cases x<;>cases y<;>simp[isConst] at hc<;>cases op<;>simp[eqGuard]
   ·cases G
  ·cases G
 ·rename_i p q W U;have O:=r.ev W;have J:=r.ev U;simp only[Qe,QM] at O J;split at G
  ·rename_i Y;simp only[Q0] at G;subst G;rw[O,J];refine⟨by cases op<;>simp[eqGuard],MN fun D=>by simp[Op.equalIn,run_underlying Y],rfl,rfl⟩
  ·cases G
 ·rename_i xs ys W U;have O:=r.ev W;have J:=r.ev U;simp only[Qe] at O J;obtain⟨lx,O,h3⟩:=O;obtain⟨ly,J,h4⟩:=J;split at G
  ·cases G
  ·rename_i hg;have Z:P.eqGuardType P.depth tx=false:=by simpa using hg
   split at G
   ·rename_i vx vy aa ab;have e1:=DJ.2 _ _ _ h3 aa;have e2:=DJ.2 _ _ _ h4 ab;subst e1 e2;rw[O,J];exact⟨run_eqGuard_agg w op tx x y _ _ Z,DR fun D hD=>(zC 4).1 _ _ _ _ G D hD,rfl,rfl⟩
   ·cases G
 ·cases G
theorem Qfv(r:Zo φ M0 N D T h a w){u:KL}(J:o.op=.binOp op tx x y ty)(G:aEq P T op tx x y=some u):u.2.1=none∧Yield P o φ M0 h a w u.1 h:=by
 unfold aEq at G;split at G
 ·split at G
  ·rename_i b hb;simp only[Q0] at G;subst G;obtain⟨g1,g2,g3,_⟩:=gY r hb;refine⟨rfl,Qo r (v:=.bool b) ?_ (by simp[Qe,QM,MJ])⟩;simp only[execOp,J,Sem.run_bind,g1,g2,g3,Result.andThen_ok,Sem.run_pure]
  ·cases G
 ·split at G
  ·rename_i b hb;simp only[Q0] at G;subst G;obtain⟨g1,g2,_,g3⟩:=gY r hb;refine⟨rfl,Qo r (v:=.bool (!b)) ?_ (by simp[Qe,QM,MJ])⟩;simp only[execOp,J,Sem.run_bind,g1,g2,g3,Result.andThen_ok,Sem.run_pure]
  ·cases G
 ·cases G
end
def Ja(P:Program)(t:TypeId)(v:Value):Bool:=match P.underlying t,v with
|some .bool,.bool _=>true
|some (.int _),.int _ _=>true
|some .string,.string _=>true
|_,_=>false
def Vp(P:Program):Nat→List Field→List Value→Bool
|_,[],[]=>true
|i,f::G,v::J=>decide (f.offset=i)&&(f.name != "_")&&Ja P f.type v&&Vp P (i+1) G J
|_,_,_=>false
def TJ(P:Program)(t:TypeId)(v:Value):Bool:=Ja P t v||match P.underlying t,v with
|some (.struct fields),.agg cs=>Vp P 0 fields.toList cs.toList
|_,_=>false
section
variable {P:Program}{w:World}
theorem MO{t:TypeId}(h:Ja P t v=true)(e:Bool)(n:Nat):(Instr.checkKey e (n+1) t v).run P w=.ok () w:=by
 unfold Ja at h;unfold Instr.checkKey;cases hd:P.underlying t with
|none=>simp[hd] at h
|some d =>
  simp only[Sem.run_bind,run_underlying hd,Result.andThen];rw[hd] at h;cases d<;>cases v<;>simp_all
theorem RB{t:TypeId}(h:Ja P t v=true){k:TypeDesc}(G:P.underlying t=some k):GI k=false:=by
 unfold Ja at h;rw[G] at h;cases k<;>first|rfl|(cases v<;>simp at h)
theorem GR{t:TypeId}(h:TJ P t v=true):Ja P t v=true∨∃fields cs,P.underlying t=some (.struct fields)∧v=.agg cs∧Vp P 0 fields.toList cs.toList=true:=by
 unfold TJ at h;rw[Bool.or_eq_true] at h;rcases h with h|h
 ·exact .inl h
 ·split at h
  ·rename_i fields cs G;exact .inr ⟨fields,cs,G,rfl,h⟩
  ·cases h
theorem vG{t:TypeId}(h:Ja P t v=true){l:List Value}(hi:l[i]?=some v):(part t l.toArray i).run P w=.ok v w:=by
 cases hd:P.underlying t with
|none=>simp[Ja,hd] at h
|some d=>simp[part,Uh hd,RB h hd,hi]
theorem CO:∀(J:List Field) (G:List Value) (i:Nat) (l:List Value) (e:Bool) (n:Nat),Vp P i J G=true→l.drop i=G →
  (forIn J PUnit.unit fun f _=>(do
   if f.name≠"_" then Instr.checkKey e (n+1) f.type (←part f.type l.toArray f.offset)
   pure (ForInStep.yield PUnit.unit):Sem (ForInStep PUnit))).run P w=.ok PUnit.unit w
|[],G,i,l,e,n,_,_=>by simp
|f::J,[],i,l,e,n,h,_=>by simp[Vp] at h
|f::J,v::G,i,l,e,n,h,U=>by
  simp only[Vp,Z8,Bg,bne_iff_ne] at h;obtain⟨⟨⟨h1,Y⟩,W⟩,Z⟩:=h
  have hi:l[i]?=some v:=by
   have:=congrArg (·[0]?) U;simpa using this
  have O:l.drop (i+1)=G:=by
   rw[←List.drop_drop,U];rfl
  simp only[List.forIn_cons,Sem.run_bind,Y,ne_eq,not_false_eq_true,if_true,h1,vG W hi,Result.andThen_ok,MO W,Sem.run_pure];exact CO J G (i+1) l e n Z O
theorem GU{t:TypeId}(h:TJ P t v=true)(e:Bool):(Instr.checkKey e 10000 t v).run P w=.ok () w:=by
 rcases GR h with hp|⟨fields,cs,G,rfl,hp⟩
 ·exact MO hp e 9999
 ·rw[show(10000:Nat)=9999+1 from rfl,Instr.checkKey];simp only[Sem.run_bind,run_underlying G,Result.andThen_ok];rw[←Array.forIn_toList];have:=CO (w:=w) fields.toList cs.toList 0 cs.toList e 9998 hp zq;simp only[Array.toArray_toList] at this;rw[this];rfl
theorem ql{t:TypeId}{a b:Value}(G:Ja P t a=true)(hb:Ja P t b=true)(h:eqV P (d+1) t a b=some true):a=b:=by
 unfold Ja at G hb;unfold eqV at h;cases hd:P.underlying t with
|none=>simp[hd] at G
|some k =>
  rw[hd] at G hb h;cases k<;>cases a<;>simp only[Bool.false_eq_true] at G<;>cases b<;>simp only[Bool.false_eq_true] at hb<;>simp only at h
  ·simpa using h
  ·split at h
   ·rename_i e;simp only[Q0,Qj] at h;rw[e,eq_of_beq h]
   ·cases h
  ·simp only[Q0,Qs] at h;have J:=eq_of_beq h;have:=congrArg WN J;rw[zx,zx] at this;rw[this]
theorem Az{d:Nat}:∀(W:List Field) (xs ys:List Value) (i:Nat) (O J:List Value),Vp P i W xs=true→Vp P i W ys=true→O.drop i=xs→J.drop i=ys→eqV.eqFs P (d+1) O J W=some true→xs=ys
|[],[],[],_,_,_,_,_,_,_,_=>rfl
|[],x::xs,ys,i,O,J,Y,_,_,_,_=>by simp[Vp] at Y
|[],[],y::ys,i,O,J,_,Z,_,_,_=>by simp[Vp] at Z
|f::W,[],ys,i,O,J,Y,_,_,_,_=>by simp[Vp] at Y
|f::W,x::xs,[],i,O,J,_,Z,_,_,_=>by simp[Vp] at Z
|f::W,x::xs,y::ys,i,O,J,Y,Z,ac,ab,h=>by
  simp only[Vp,Z8,Bg,bne_iff_ne] at Y Z;obtain⟨⟨⟨h1,h2⟩,h3⟩,h4⟩:=Y;obtain⟨⟨⟨_,_⟩,aa⟩,ad⟩:=Z
  have af:O[i]?=some x:=by
   have:=congrArg (·[0]?) ac;simpa using this
  have ae:J[i]?=some y:=by
   have:=congrArg (·[0]?) ab;simpa using this
  have G:∀(l:List Value) (v:Value),Ja P f.type v=true→l[i]?=some v→∀q,TI P f.type l i=some q→q=v:=by
   intro l v hv hl q U;unfold TI at U;cases hd:P.underlying f.type with
  |none=>simp[Ja,hd] at hv
  |some k =>
    have ah:=RB hv hd;rw[hd] at U;split at U
    ·rename_i dd ii e1 e2;cases e1;rw[ah] at U;simp only[Bool.false_eq_true,if_false] at U;rw[hl] at U;exact(Option.some.inj U).symm
    ·cases U
  simp only[eqV.eqFs,h2,if_false] at h;rw[h1] at h;split at h
  ·rename_i a b e1 e2;obtain rfl:=G O x h3 af a e1;obtain rfl:=G J y aa ae b e2;split at h
   ·rename_i p q e3 e4;simp only[Q0,Z8] at h;rw[h.1] at e3;rw[h.2] at e4;rw[ql h3 aa e3,Az W xs ys (i+1) O J h4 ad (by rw[←List.drop_drop,ac];rfl) (by rw[←List.drop_drop,ab];rfl) e4]
   ·cases h
  ·cases h
theorem Qbe{t:TypeId}{a b:Value}(Y:TJ P t a=true)(hb:TJ P t b=true)(h:eqV P 4 t a b=some true):a=b:=by
 rcases GR Y with W|⟨fields,xs,J,rfl,W⟩
 ·rcases GR hb with G|⟨fields,ys,J,rfl,G⟩
  ·exact ql W G h
  ·have:=RB W J;cases this
 ·rcases GR hb with G|⟨U,ys,O,rfl,G⟩
  ·have:=RB G J;cases this
  ·rw[J] at O;cases O;unfold eqV at h;rw[J] at h;simp only at h;split at h
   ·cases h
   ·have:=Az fields.toList xs.toList ys.toList 0 xs.toList ys.toList W G zq zq h;rw[Array.ext' this]
theorem TK{t:TypeId}(h:Ja P t v=true)(n:Nat):Instr.sameBits n v v=true:=by
 unfold Ja at h;split at h
 ·cases n<;>simp[Instr.sameBits]
 ·cases n<;>simp[Instr.sameBits]
 ·rename_i s _;obtain⟨x⟩:=s;cases n<;>(show(x==x)=true;simp)
 ·cases h
theorem Em(n:Nat):∀(J:List Field) (G:List Value) (i:Nat),Vp P i J G=true→(G.zip G).all (fun(x,y)=>Instr.sameBits n x y)=true
|[],[],_,_=>rfl
|[],v::G,i,h=>by simp[Vp] at h
|f::J,[],i,h=>by simp[Vp] at h
|f::J,v::G,i,h=>by
  simp only[Vp,Z8] at h;simp only[List.zip_cons_cons,List.all_cons,Z8];exact⟨TK h.1.2 n,Em n J G (i+1) h.2⟩
theorem nZ{t:TypeId}(h:TJ P t v=true):Instr.sameBits 10000 v v=true:=by
 rcases GR h with hp|⟨fields,cs,G,rfl,hp⟩
 ·exact TK hp _
 ·rw[show(10000:Nat)=9999+1 from rfl,Instr.sameBits];simp only[beq_self_eq_true,Bool.true_and];exact Em 9999 _ _ 0 hp
end
def X7(P:Program)(kt:TypeId)(k:Value):Nat→List (Value×PV)→Option (Option (Nat×PV))
|_,[]=>some none
|i,(k',v)::r=>match (if TJ P kt k' then eqV P 4 kt k k' else none) with
 |some true=>some (some (i,v))
 |some false=>X7 P kt k (i+1) r
 |none=>none
section
variable {P:Program}{w:World}
theorem En{t:TypeId}{d:TypeDesc}(W:P.underlying t=some d){a b:Value}{x y:Bool}(J:Instr.sameNow d a b=some x)(G:eqV P 4 t a b=some y):x=y:=by
 unfold eqV at G;rw[W] at G;unfold Instr.sameNow at J;split at J
 ·simp only at G;rename_i k k1 n1 k2 Z;split at J
  ·rename_i e;rw[if_pos e] at G;rw[←Option.some.inj J,←Option.some.inj G];rfl
  ·cases J
 ·simp only at G;rename_i s1 Y;rw[←Option.some.inj J,←Option.some.inj G];obtain⟨O⟩:=s1;obtain⟨U⟩:=Y;show(O==U)=Qs (JK ⟨O⟩) (JK ⟨U⟩);unfold Qs JK;rw[Bool.eq_iff_iff];simp
 ·simp only at G;rw[←Option.some.inj J,←Option.some.inj G]
 ·cases J
def MP(es:List (Value×PV))(en:List MapEntry)(i:Nat)(r:Option (Nat×PV))(q:Option (Nat×Value)):Prop :=
 match r with
|none=>q=none
|some (j,x)=>∃m e,j=i+m∧q=some (i+m,e.val)∧en[m]?=some e∧es[m]?=some (e.key,x)
theorem AA{kt:TypeId}{k:Value}:∀(es:List (Value×PV)) (en:List MapEntry) (i:Nat) (r:Option (Nat×PV)),en.map (·.key)=es.map (·.1)→X7 P kt k i es=some r→∃q,(Instr.findAsking kt k en i).run P w=.ok q w∧MP es en i r q
|[],en,i,r,U,h=>by
  simp only[X7,Q0] at h;subst h;have:en=[]:=by simpa using U
  subst this;exact⟨none,by simp[Instr.findAsking],rfl⟩
|(k',v)::es,[],i,r,U,h=>by simp at U
|(k',v)::es,e::en,i,r,U,h=>by
  simp only[WV,List.cons.injEq] at U;obtain⟨O,Z⟩:=U;simp only[X7] at h;split at h
  ·rename_i J;simp only[Q0] at h;subst h;split at J
   ·have G:(Op.equal kt k k').run P w=.ok true w:=DR fun D W=>(zC 4).1 _ _ _ _ J D W
    exact⟨some (i,e.val),by simp[Instr.findAsking,O,G],0,e,by simp,by simp,by simp,by simp[O]⟩
   ·cases J
  ·rename_i J;split at J
   ·have G:(Op.equal kt k k').run P w=.ok false w:=DR fun D W=>(zC 4).1 _ _ _ _ J D W
    obtain⟨q,h1,Y⟩:=AA es en (i+1) r Z h;refine⟨q,by simp[Instr.findAsking,O,G,h1],?_⟩;unfold MP at Y ⊢;split
    ·exact Y
    ·rename_i j x;obtain⟨m,e',g1,g2,g3,g4⟩:=Y;exact⟨m+1,e',by omega,by rw[g2];congr 2;omega,by simpa using g3,by simpa using g4⟩
   ·cases J
  ·cases h
theorem AB{kt:TypeId}{d:TypeDesc}{k:Value}(Y:P.underlying kt=some d):∀(es:List (Value×PV)) (en:List MapEntry) (i:Nat) (r:Option (Nat×PV)) (q:Option (Nat×Value)),en.map (·.key)=es.map (·.1)→X7 P kt k i es=some r→Instr.findNow d k en i=some q→MP es en i r q
|[],en,i,r,q,O,h,G=>by
  simp only[X7,Q0] at h;subst h;have:en=[]:=by simpa using O
  subst this;simp only[Instr.findNow,Q0] at G;exact G.symm
|(k',v)::es,[],i,r,q,O,h,G=>by simp at O
|(k',v)::es,e::en,i,r,q,O,h,G=>by
  simp only[WV,List.cons.injEq] at O;obtain⟨U,Z⟩:=O;simp only[X7] at h;simp only[Instr.findNow,U] at G;cases hs:Instr.sameNow d k k' with
 |none=>rw[hs] at G;cases G
 |some b =>
   rw[hs] at G;split at h
   ·rename_i J;simp only[Q0] at h;subst h;split at J
    ·obtain rfl:=En Y hs J;simp only[Q0] at G;exact⟨0,e,by simp,by simpa using G.symm,by simp,by simp[U]⟩
    ·cases J
   ·rename_i J;split at J
    ·obtain rfl:=En Y hs J;simp only at G;have W:=AB Y es en (i+1) r q Z h G;unfold MP at W ⊢;split
     ·exact W
     ·rename_i j x;obtain⟨m,e',g1,g2,g3,g4⟩:=W;exact⟨m+1,e',by omega,by rw[g2];congr 2;omega,by simpa using g3,by simpa using g4⟩
    ·cases J
   ·cases h
theorem Xg{k:Value}{d:TypeDesc}(G:P.underlying kt=some d){es:List (Value×PV)}{en:List MapEntry}{r:Option (Nat×PV)}(J:en.map (·.key)=es.map (·.1))(h:X7 P kt k 0 es=some r) :
  ∃q,(Instr.findKey kt k en).run P w=.ok q w∧MP es en 0 r q:=by
 cases hn:Instr.findNow d k en 0 with
|some q=>exact⟨q,by simp[Instr.findKey,run_underlying G,Result.andThen,hn],AB G es en 0 r q J h hn⟩
|none =>
  obtain⟨q,U,O⟩:=AA (w:=w) es en 0 r J h;exact⟨q,by simp[Instr.findKey,run_underlying G,Result.andThen,hn,U],O⟩
theorem qm{kt:TypeId}{k:Value}:∀(es:List (Value×PV)) (i j:Nat) (x:PV),X7 P kt k i es=some (some (j,x))→TJ P kt k=true→∃m,j=i+m∧es[m]?=some (k,x)
|[],i,j,x,h,_=>by simp[X7] at h
|(k',v)::es,i,j,x,h,O=>by
  simp only[X7] at h;split at h
  ·rename_i G;simp only[Q0,XA] at h;obtain⟨rfl,rfl⟩:=h;split at G
   ·rename_i J;exact⟨0,by simp,by simp[Qbe O J G]⟩
   ·cases G
  ·obtain⟨m,W,U⟩:=qm es (i+1) j x h O;exact⟨m+1,by omega,by simpa using U⟩
  ·cases h
end
def TL(h:QO)(dst:Option Tmp)(rsv:Option Operand):Option KL:=match dst,rsv with
|some d,none=>if h d=none then some (.mv d,some (d,.mp []),[d]) else none
|_,_=>none
def TM(ok:Bool)(v:AV)(b:Bool):AV:=if ok then .tup [v,.p (.val (.bool b))] else v
def avP:PV→AV|.val v=>Ag v|.sl S es=>.p (.sl S es)
def pvO:AV→Option PV|.p x=>some x|.agg cs=>(Bi cs).map fun l=>.val (.agg l.toArray)|_=>none
theorem Qbf{x:PV}(G:Qe φ h w M (.p x) v):Qe φ h w M (avP x) v:=by
 cases x with
|val u=>simp only[Qe,QM] at G;rw[G];exact WC u
|sl S es=>exact G
theorem Qbg{y:AV}{x:PV}(G:pvO y=some x)(J:Qe φ h w M y v):Qe φ h w M (.p x) v:=by
 cases y with
|p z=>simp only[pvO,Q0] at G;subst G;exact J
|agg cs =>
  simp only[pvO,Gn] at G;obtain⟨m,U,rfl⟩:=G;simp only[Qe] at J;obtain⟨l,rfl,O⟩:=J;simp only[Qe,QM];rw[DJ.2 cs l m O U]
|_=>cases G
def JY(P:Program)(T:Nat→Option AV)(h:QO)(t:TypeId)(x ix:Operand)(ok:Bool):Option KL :=
 match P.underlying t,Zp T x,Zp T ix with
|some (.map kt e),some (.mv b),some kv =>
  match h b,Ph kv,P.underlying kt with
 |some (.mp es),some k,some _ =>
   if TJ P kt k then
    match X7 P kt k 0 es with
   |some (some (_,v))=>some (TM ok (avP v) true,none,[b])
   |some none=>match (P.info? e).bind (·.zero) with|some z=>some (TM ok (Ag z) false,none,[b])|none=>none
   |none=>none
   else none
 |_,_,_=>none
|_,_,_=>none
def Va(P:Program)(T:Nat→Option AV)(h:QO)(t:TypeId)(x ix y:Operand):Option KL :=
 match P.underlying t,Zp T x,Zp T ix,Zp T y with
|some (.map kt e),some (.mv b),some kv,some y =>
  match h b,Ph kv,P.underlying kt,pvO y with
 |some (.mp es),some k,some _,some v =>
   if TJ P kt k then
    match X7 P kt k 0 es with
   |some (some (i,_))=>some (.p (.val undef),some (b,.mp (es.set i (k,v))),[b])
   |some none=>some (.p (.val undef),some (b,.mp (es++[(k,v)])),[b])
   |none=>none
   else none
 |_,_,_,_=>none
|_,_,_,_=>none
section
variable {P:Program}{o:Oper}{φ:Nat→Nat}{M0:ZM}{N:Nat}{D:DB}{T:Nat→Option AV}{h:QO}{a:Act}{w:World}
theorem xQ(r:Zo φ M0 N D T h a w){t:TypeId}{rsv:Option Operand}{u:KL}(W:o.op=.makeMap t rsv)(G:TL h o.dst rsv=some u):Yield P o φ M0 h a w u.1 (ap h u.2.1):=by
 unfold TL at G;split at G
 ·rename_i d Y;split at G
  ·rename_i O;simp only[Q0] at G;subst G;refine Yield.of_lift r 1 fun φ r Z X0 U=>?_
   obtain⟨E,X⟩:=JM (w':=w.alloc (.map #[] 0)) (o:=.map #[] 0) (b:=d) (k:=.mp []) (M0:=M0) rfl rfl rfl rfl O r.hp U
   have J:RelB (Qy φ d w.heap.size) (upd h d (.mp [])) (w.alloc (.map #[] 0)) (MM (Qy φ d w.heap.size) (upd h d (.mp [])) M0) w.heap.size (.mp []):=by
    refine⟨#[],0,by show(w.heap.push _)[w.heap.size]?=_;simp,rfl,rfl⟩
   refine⟨_,.map (some w.heap.size),_,Qy φ d w.heap.size,?_,.inl rfl,?_,JN rfl O r.hp U E X J,E,X⟩
   ·simp[execOp,W,Instr.makeMap,newObj,Sem.run]
   ·simp only[Qe,ap];exact⟨by simp[Qy],.mp [],by simp[upd],rfl⟩
  ·cases G
 ·cases G
theorem TN{M:ZM}:∀{xs:List AV} {J:List Value} {i:Nat} {x:AV} {v:Value},Qg φ h w M xs J→xs[i]?=some x→J[i]?=some v→Qe φ h w M x v
|[],J,i,x,v,_,G,_=>by simp at G
|y::xs,J,i,x,v,U,G,O=>by
  simp only[Qg] at U;obtain⟨z,Z,rfl,Y,W⟩:=U;cases i with
 |zero =>
   simp only[List.getElem?_cons_zero,Q0] at G O;subst G O;exact Y
 |succ i=>exact TN W (by simpa using G) (by simpa using O)
theorem pg(r:Zo φ M0 N D T h a w){t:TypeId}{u:KL}(ho:o.op=.lookup t x ix ok)(G:JY P T h t x ix ok=some u):u.2.1=none∧Yield P o φ M0 h a w u.1 h:=by
 unfold JY at G;split at G;rotate_left
 ·cases G
 rename_i kt e b kv ht hx ad;split at G;rotate_left
 ·cases G
 rename_i es k kd hb hk ab;split at G;rotate_left
 ·cases G
 rename_i ac;have aa:=r.ev hx;simp only[Qe] at aa;have W:=(DJ.1 _ _ _ (r.ev ad) hk);obtain⟨en,clock,hw,J,Z⟩:=r.hp.blk b _ hb;have Y:(getObj (φ b)).run P w=.ok (.map en clock) w:=by simp[getObj,Sem.run,hw]
 have O:=GU (w:=w) ac en.isEmpty;split at G
 ·rename_i i v hf;simp only[Q0] at G;subst G;refine⟨rfl,?_⟩;obtain⟨q,Cm,m,e',g1,g2,g3,g4⟩:=Xg (w:=w) ab J hf;have U:Qe φ h w (MM φ h M0) (avP v) e'.val:=Qbf <| TN Z (i:=m) (by simp[g4]) (by simp[g3]);subst g2;refine Qo r (v:=if ok then .tuple #[e'.val,.bool true] else e'.val) ?_ ?_
  ·simp[execOp,ho,Instr.lookup,run_underlying ht,aa.1,Y,W,O,Cm,Result.andThen]
  ·unfold TM;cases ok
   ·exact U
   ·simp only[if_true,Qe];exact⟨[e'.val,.bool true],by simp,_,_,rfl,U,_,_,rfl,by simp[Qe,QM],rfl⟩
 ·rename_i hf;split at G
  ·rename_i z hz;simp only[Q0] at G;subst G;refine⟨rfl,?_⟩;obtain⟨inf,hi,hz⟩:=NS.1 hz;obtain⟨q,Cm,Lp⟩:=Xg (w:=w) ab J hf;have Lp:q=none:=Lp;subst Lp;refine Qo r (v:=if ok then .tuple #[z,.bool false] else z) ?_ ?_
   ·simp[execOp,ho,Instr.lookup,run_underlying ht,aa.1,Y,W,O,Cm,Result.andThen,zeroValue,typeInfo,program,Sem.run,hi,hz]
   ·unfold TM;cases ok
    ·exact WC z
    ·simp only[if_true,Qe];exact⟨[z,.bool false],by simp,_,_,rfl,WC z,_,_,rfl,by simp[Qe,QM],rfl⟩
  ·cases G
 ·cases G
theorem zD{es es':List (Value×PV)}{ob:Obj}(hb:h b=some (.mp es))(r:ZQ φ h w M0) :
  Q8 φ h w φ (upd h b (.mp es')) (w.putObj (φ b) ob)∧YZ φ h w φ (upd h b (.mp es')) (w.putObj (φ b) ob):=by
 have hlt:=DI r hb (fun _ _ e=>by cases e);have G:∀x,x≠φ b→(w.putObj (φ b) ob).heap[x]?=w.heap[x]?:=fun x hx=>World.putObj_heap_other hx
 have hne:∀c k,h c=some k→k.ob=none→¬b=c:=fun c k hc hk e=>by rw[←e,hb] at hc;cases hc;cases hk
 have Y:∀c k,h c=some k→¬b=c→φ c≠φ b:=fun c k hc e h2=>e (r.inj c b (by rw[hc];simp) (by rw[hb];simp) h2).symm
 have W:∀c ty cs,h c=some (.box ty cs)→upd h b (.mp es') c=some (.box ty cs):=fun c ty cs hc=>by simp[upd,hne c _ hc rfl,hc]
 have U:∀t ty S n,h t=some (.arr ty S n)→∃n',upd h b (.mp es') t=some (.arr ty S n')∧n≤n'∧(n'=n→AKept w (w.putObj (φ b) ob) (φ t) (φ t) ty):=by
  intro t ty S n O;have e:=hne t _ O rfl;exact⟨n,by simp[upd,e,O],Kz _,fun _=>Yy (rfl) (by rw[G _ (Y t _ O e)])⟩
 have aa:∀t ty S es,h t=some (.vec ty S es)→∃J,upd h b (.mp es') t=some (.vec ty S J)∧es.length≤J.length∧(J.length=es.length→φ t=φ t∧∀c,w.heap[φ t]?=some (.cells c ty (0,0))→∃c',(w.putObj (φ b) ob).heap[φ t]?=some (.cells c' ty (0,0))∧c'.size=c.size):=by
  intro t ty S n O;have e:=hne t _ O rfl;exact⟨n,by simp[upd,e,O],Kz _,fun _=>⟨rfl,fun c hc=>⟨c,by rw[G _ (Y t _ O e)];exact hc,rfl⟩⟩⟩
 have Z:∀c k x,h c=some k→k.ob=some x→(∃k',upd h b (.mp es') c=some k'∧k'.ob=some x)∧φ c=φ c:=by
  intro c k x hc ho;by_cases e:b=c
  ·subst e;rw[hb] at hc;cases hc;exact⟨⟨.mp es',by simp[upd],ho⟩,rfl⟩
  ·exact⟨⟨k,by simp[upd,e,hc],ho⟩,rfl⟩
 refine⟨⟨rfl,rfl,rfl,by simp[World.putObj],?_,?_,?_,fun c ty cs _ hc=>⟨⟨cs,W c ty cs hc⟩,rfl⟩,fun t ty S n _=>U t ty S n,fun t ty S es _=>aa t ty S es,fun c k x _=>Z c k x⟩,fun c ty cs hc=>⟨⟨ty,cs,W c ty cs hc⟩,rfl⟩,U,aa,Z⟩
 ·intro x _ ab;exact G x (fun e=>ab b (by rw[hb];simp) e.symm)
 ·intro x y _ hm;have:x≠φ b:=fun e=>hm ⟨b,_,hb,e.symm,trivial⟩
  simp[World.cell?,G x this]
 ·rintro x y _ ⟨d,q,h1,h2,h3⟩;by_cases e:b=d
  ·exact⟨b,_,hb,by rw[e];exact h2,trivial⟩
  ·exact⟨d,q,by simpa [upd,e] using h1,h2,h3⟩
theorem gZ{es es':List (Value×PV)}{J:Array MapEntry}{G:Nat}(hb:h b=some (.mp es))(r:ZQ φ h w M0)(hk:J.toList.map (·.key)=es'.map (·.1))(Y:Qg φ h w (MM φ h M0) (es'.map fun p=>.p p.2) (J.toList.map (·.val))) :
  ZQ φ (upd h b (.mp es')) (w.putObj (φ b) (.map J G)) M0:=by
 obtain⟨E,X⟩:=zD (es':=es') (ob:=.map J G) hb r;have hlt:=DI r hb (fun _ _ e=>by cases e)
 have g:∀d,upd h b (.mp es') d≠none→h d≠none:=fun d O=>by
  by_cases e:b=d
  ·rw[←e,hb];simp
  ·simpa [upd,e] using O
 refine⟨fun c d hc O Z=>r.inj c d (g c hc) (g d O) Z,fun c k hc=>?_,fun c hc=>r.fr c (g c hc),fun x o W=>by simpa [World.putObj] using r.lt x o W,r.gm.evol E⟩;by_cases e:b=c
 ·subst e;have:k=.mp es':=by simpa [upd] using hc.symm
  subst this;exact⟨J,G,World.putObj_heap_same hlt,hk,(QH (E.keeps M0) X).2 _ _ Y⟩
 ·have hc':h c=some k:=by simpa [upd,e] using hc
  exact Z4 (E.keeps M0) X (World.putObj_heap_other fun U=>e (r.inj c b (by rw[hc'];simp) (by rw[hb];simp) U).symm) (r.blk c k hc')
theorem qo{M:ZM}:∀{xs:List AV} {J:List Value} {i:Nat} {x:AV} {v:Value},Qg φ h w M xs J→Qe φ h w M x v→Qg φ h w M (xs.set i x) (J.set i v)
|[],J,i,x,v,G,_=>by
  simp only[Qg] at G;subst G;simp[Qg]
|y::xs,J,i,x,v,G,U=>by
  simp only[Qg] at G;obtain⟨z,Y,rfl,W,O⟩:=G;cases i with
 |zero=>simp only[List.set_cons_zero,Qg];exact⟨_,_,rfl,U,O⟩
 |succ i=>simp only[List.set_cons_succ,Qg];exact⟨_,_,rfl,W,qo O U⟩
theorem Bn{M:ZM}:∀{xs:List AV} {J:List Value} {x:AV} {v:Value},Qg φ h w M xs J→Qe φ h w M x v→Qg φ h w M (xs++[x]) (J++[v])
|[],J,x,v,G,O=>by
  simp only[Qg] at G;subst G;exact⟨v,[],rfl,O,rfl⟩
|y::xs,J,x,v,G,O=>by
  simp only[Qg] at G;obtain⟨z,U,rfl,Y,W⟩:=G;exact⟨z,U++[v],rfl,Y,Bn W O⟩
theorem AC{e:MapEntry}(k v:Value)(O:en.toList[i]?=some e):(en.modify i fun e=>{ e with key:=k,val:=v }).toList=en.toList.set i { e with key:=k,val:=v }:=by
 apply List.ext_getElem?;intro j;simp only[Array.getElem?_toList,Array.getElem?_modify,List.getElem?_set];by_cases G:i=j
 ·subst G;have J:en[i]?=some e:=by simpa using O
  have hlt:i<en.toList.length:=(DC.1 O).1;simp[J];simpa using hlt
 ·simp[G]
theorem zF(r:Zo φ M0 N D T h a w){t:TypeId}{u:KL}(ho:o.op=.mapUpdate t x ix y)(J:Va P T h t x ix y=some u):Yield P o φ M0 h a w u.1 (ap h u.2.1):=by
 unfold Va at J;split at J;rotate_left
 ·cases J
 rename_i kt e b kv y0 ht hx af hy;split at J;rotate_left
 ·cases J
 rename_i es k kd v hb hk ac ak;split at J;rotate_left
 ·cases J
 rename_i U;have ab:=r.ev hx;simp only[Qe] at ab;have Z:=(DJ.1 _ _ _ (r.ev af) hk);have ad:=Qbg ak (r.ev hy);obtain⟨en,clock,hw,G,O⟩:=r.hp.blk b _ hb;have aa:(getObj (φ b)).run P w=.ok (.map en clock) w:=by simp[getObj,Sem.run,hw]
 have Y:∀ob,(setObj (φ b) ob).run P w=.ok () (w.putObj (φ b) ob):=fun ob=>by simp[setObj,Sem.run,hw,World.putObj]
 have W:=GU (w:=w) U false;split at J
 ·rename_i i v0 hf;simp only[Q0] at J;subst J;simp only[ap];obtain⟨q,Cm,m,e',g1,g2,g3,g4⟩:=Xg (w:=w) ac G hf;obtain⟨m',al,ae⟩:=qm es 0 i v0 hf U;have ai:m'=m:=by omega
  subst ai;have ah:e'.key=k:=by rw[ae] at g4;exact((Prod.mk.inj (Option.some.inj g4)).1).symm
  have hi:i=m':=by omega
  subst hi;have aj:en[i]?=some e':=by simpa using g3
  obtain⟨E,X⟩:=zD (es':=es.set i (k,v)) (ob:=.map (en.modify i fun e=>{ e with key:=k,val:=a.eval y }) clock) hb r.hp;refine⟨.skip,undef,w.putObj (φ b) (.map (en.modify i fun e=>{ e with key:=k,val:=a.eval y }) clock),φ,?_,.inr ⟨rfl,rfl⟩,by simp[Qe,QM],gZ hb r.hp ?_ ?_,E,X⟩
  ·simp[execOp,ho,Instr.mapUpdate,run_underlying ht,ab.1,aa,Z,W,Cm,g2,Result.andThen,aj,ah,Instr.keyThatStays,nZ U,Y]
  ·rw[AC k (a.eval y) g3,List.map_set,List.map_set,G]
  ·rw[AC k (a.eval y) g3,List.map_set,List.map_set];exact qo O ad
 ·rename_i hf;simp only[Q0] at J;subst J;simp only[ap];obtain⟨q,Cm,Lp⟩:=Xg (w:=w) ac G hf;have Lp:q=none:=Lp;subst Lp;obtain⟨E,X⟩:=zD (es':=es++[(k,v)]) (ob:=.map (en.push { key:=k,val:=a.eval y,born:=clock }) (clock+1)) hb r.hp;refine⟨.skip,undef,w.putObj (φ b) (.map (en.push { key:=k,val:=a.eval y,born:=clock }) (clock+1)),φ,?_,.inr ⟨rfl,rfl⟩,by simp[Qe,QM],gZ hb r.hp ?_ ?_,E,X⟩
  ·simp[execOp,ho,Instr.mapUpdate,run_underlying ht,ab.1,aa,Z,W,Cm,Result.andThen,Y]
  ·simp[G]
  ·simp only[Array.toList_push,List.map_append,WV,List.map_nil];exact Bn O ad
 ·cases J
theorem pq{q:Addr}{c m k:Nat}(G:o.op=.binOp op tx x y ty)(W:P.underlying tx=some (.slice e))(U:a.eval x=.slice (some q) n c)(O:a.eval y=.slice none m k) :
  (op=.eql→(execOp a.eval o).run P w=.ok (.value (.bool false)) w)∧(op=.neq→(execOp a.eval o).run P w=.ok (.value (.bool true)) w):=by
 have J:(Op.equal tx (.slice (some q) n c) (.slice none m k)).run P w=.ok false w:=by
  refine DR fun D Y=>?_
  obtain⟨D,rfl⟩:∃d,D=d+1:=⟨D-1,by omega⟩;unfold Op.equalIn;simp[run_underlying W]
 constructor
 ·rintro rfl;simp[execOp,G,U,O,eqGuard,binOp,J]
 ·rintro rfl;simp[execOp,G,U,O,eqGuard,binOp,J]
end
def Po(P:Program)(T:Nat→Option AV)(h:QO)(op:BinOp)(tx:TypeId)(x y:Operand):Option KL :=
 match P.underlying tx,Zp T x,Zp T y with
|some (.slice _),some (.tsl _ es t),some (.p (.val (.slice none _ _))) =>
  match h t with
 |some (.arr _ _ n)=>if es.length=n∧es.isEmpty=false then(match op with|.eql=>some (.p (.val (.bool false)),none,[t])|.neq=>some (.p (.val (.bool true)),none,[t])|_=>none) else none
 |_=>none
|_,_,_=>none
section
variable {P:Program}{o:Oper}{φ:Nat→Nat}{M0:ZM}{N:Nat}{D:DB}{T:Nat→Option AV}{h:QO}{a:Act}{w:World}
theorem lK(r:Zo φ M0 N D T h a w){u:KL}(ho:o.op=.binOp op tx x y ty)(G:Po P T h op tx x y=some u):u.2.1=none∧Yield P o φ M0 h a w u.1 h:=by
 unfold Po at G;split at G;rotate_left
 ·cases G
 rename_i e S es t m k ht hx hy;split at G;rotate_left
 ·cases G
 rename_i ta Sa n hb;split at G;rotate_left
 ·cases G
 rename_i J;have U:=r.ev hx;have W:=r.ev hy;simp only[Qe,QM] at W;simp only[Qe] at U;obtain⟨_,VG,n2,Y,_,O⟩:=U;rw[hb] at Y;cases Y
 obtain⟨cap,c,hv,_⟩:∃cap c,a.eval x=.slice (some ⟨φ t,0,none⟩) n cap∧w.heap[φ t]?=some (.cells c ta (0,0))∧c.size=cap*S∧n≤cap∧cap≤maxLen:=by
  rcases O J.1 with⟨h0,_⟩|h0
  ·have h1:=J.1;have Z:=J.2;rw[h0] at h1;rw[List.length_eq_zero_iff.1 h1] at Z;cases Z
  ·exact h0
 obtain⟨g1,g2⟩:=pq (P:=P) (w:=w) ho ht hv W;split at G
 ·simp only[Q0] at G;subst G;exact⟨rfl,Qo r (g1 rfl) (by simp[Qe,QM])⟩
 ·simp only[Q0] at G;subst G;exact⟨rfl,Qo r (g2 rfl) (by simp[Qe,QM])⟩
 ·cases G
end
section
variable {P:Program}{o:Oper}{φ:Nat→Nat}{M0:ZM}{N:Nat}{D:DB}{T:Nat→Option AV}{h:QO}{a:Act}{w:World}
theorem MQ{k1:Blk}{ob:Obj}(hb:h b=some k0)(h0:k0.ob=some .mp)(h1:k1.ob=some .mp)(r:ZQ φ h w M0) :
  Q8 φ h w φ (upd h b k1) (w.putObj (φ b) ob)∧YZ φ h w φ (upd h b k1) (w.putObj (φ b) ob):=by
 have hm:∀x o,R4 φ (upd h b k1) x o→R4 φ h x o:=by
  rintro x y ⟨d,q,g1,g2,g3⟩;by_cases e:b=d
  ·refine⟨b,_,hb,by rw[e];exact g2,?_⟩;cases k0<;>first|trivial|cases h0
  ·exact⟨d,q,by simpa [upd,e] using g1,g2,g3⟩
 have G:∀x,x≠φ b→(w.putObj (φ b) ob).heap[x]?=w.heap[x]?:=fun x hx=>World.putObj_heap_other hx
 have hne:∀c k,h c=some k→k.ob=none→¬b=c:=fun c k hc hk e=>by rw[←e,hb] at hc;cases hc;rw[hk] at h0;cases h0
 have Y:∀c k,h c=some k→¬b=c→φ c≠φ b:=fun c k hc e h2=>e (r.inj c b (by rw[hc];simp) (by rw[hb];simp) h2).symm
 have W:∀c ty cs,h c=some (.box ty cs)→upd h b k1 c=some (.box ty cs):=fun c ty cs hc=>by simp[upd,hne c _ hc rfl,hc]
 have U:∀t ty S n,h t=some (.arr ty S n)→∃n',upd h b k1 t=some (.arr ty S n')∧n≤n'∧(n'=n→AKept w (w.putObj (φ b) ob) (φ t) (φ t) ty):=by
  intro t ty S n O;have e:=hne t _ O rfl;exact⟨n,by simp[upd,e,O],Kz _,fun _=>Yy rfl (G _ (Y t _ O e))⟩
 have aa:∀t ty S es,h t=some (.vec ty S es)→∃J,upd h b k1 t=some (.vec ty S J)∧es.length≤J.length∧(J.length=es.length→φ t=φ t∧∀c,w.heap[φ t]?=some (.cells c ty (0,0))→∃c',(w.putObj (φ b) ob).heap[φ t]?=some (.cells c' ty (0,0))∧c'.size=c.size):=by
  intro t ty S n O;have e:=hne t _ O rfl;exact⟨n,by simp[upd,e,O],Kz _,fun _=>⟨rfl,fun c hc=>⟨c,by rw[G _ (Y t _ O e)];exact hc,rfl⟩⟩⟩
 have Z:∀c k x,h c=some k→k.ob=some x→(∃k',upd h b k1 c=some k'∧k'.ob=some x)∧φ c=φ c:=by
  intro c k x hc ho;by_cases e:b=c
  ·subst e;rw[hb] at hc;cases hc;rw[h0] at ho;cases ho;exact⟨⟨k1,by simp[upd],h1⟩,rfl⟩
  ·exact⟨⟨k,by simp[upd,e,hc],ho⟩,rfl⟩
 refine⟨⟨rfl,rfl,rfl,by simp[World.putObj],?_,?_,fun x o _ hx=>hm x o hx,fun c ty cs _ hc=>⟨⟨cs,W c ty cs hc⟩,rfl⟩,fun t ty S n _=>U t ty S n,fun t ty S es _=>aa t ty S es,fun c k x _=>Z c k x⟩,fun c ty cs hc=>⟨⟨ty,cs,W c ty cs hc⟩,rfl⟩,U,aa,Z⟩
 ·intro x _ ab;exact G x (fun e=>ab b (by rw[hb];simp) e.symm)
 ·intro x y _ hm;have:x≠φ b:=fun e=>hm ⟨b,_,hb,e.symm,by cases k0<;>first|trivial|cases h0⟩
  simp[World.cell?,G x this]
theorem Sm{k1:Blk}{ob:Obj}(hb:h b=some k0)(h0:k0.ob=some .mp)(Y:k1.ob=some .mp)(r:ZQ φ h w M0)(G:RelB φ (upd h b k1) (w.putObj (φ b) ob) (MM φ (upd h b k1) M0) (φ b) k1):ZQ φ (upd h b k1) (w.putObj (φ b) ob) M0:=by
 obtain⟨E,X⟩:=MQ (k1:=k1) (ob:=ob) hb h0 Y r
 have g:∀d,upd h b k1 d≠none→h d≠none:=fun d J=>by
  by_cases e:b=d
  ·rw[←e,hb];simp
  ·simpa [upd,e] using J
 refine⟨fun c d hc J W=>r.inj c d (g c hc) (g d J) W,fun c k hc=>?_,fun c hc=>r.fr c (g c hc),fun x o U=>by simpa [World.putObj] using r.lt x o U,r.gm.evol E⟩;by_cases e:b=c
 ·subst e;have:k=k1:=by simpa [upd] using hc.symm
  subst this;exact G
 ·have hc':h c=some k:=by simpa [upd,e] using hc
  exact Z4 (E.keeps M0) X (World.putObj_heap_other fun O=>e (r.inj c b (by rw[hc'];simp) (by rw[hb];simp) O).symm) (r.blk c k hc')
def FQ(w:List UInt8):List (Bool×List UInt8×AV)→Option AV|[]=>none|(f,k,x)::l=>if Qs w k&&f then some x else FQ w l
def pu(w:List UInt8)(es:List (Bool×List UInt8×AV)):List (Bool×List UInt8×AV):=es.map fun e=>(!Qs w e.2.1&&e.1,e.2.1,e.2.2)
def Eo(w:List UInt8):Nat→List (Bool×List UInt8×AV)→Option Nat|_,[]=>none|i,e::l=>if Qs w e.2.1 then some i else Eo w (i+1) l
def pz(l:List (Bool×List UInt8×AV)):List (Value×PV):=l.map fun e=>(Tc e.2.1,PV.val undef)
theorem fe(G:P.underlying kt=some .string)(x:ByteArray)(y:List UInt8):eqV P 4 kt (.string x) (Tc y)=some (Qs (JK x) y):=by
 simp[eqV,G,Tc,JK]
theorem MR(G:P.underlying kt=some .string)(x:ByteArray):TJ P kt (.string x)=true:=by simp[TJ,Ja,G]
theorem DT{kt:TypeId}(J:P.underlying kt=some .string)(x:ByteArray):∀(l:List (Bool×List UInt8×AV)) (i:Nat),X7 P kt (.string x) i (pz l)=some ((Eo (JK x) i l).map fun j=>(j,PV.val undef))
|[],i=>rfl
|e::l,i=>by
  have G:TJ P kt (Tc e.2.1)=true:=MR J _;simp only[pz,WV,X7,G,if_true,fe J,Eo];cases hq:Qs (JK x) e.2.1 with
 |true=>simp
 |false=>exact DT J x l (i+1)
theorem MS(f:Bool)(k:List UInt8)(x:AV)(es:List (Bool×List UInt8×AV)):Lu ((f,k,x)::es)=if f then(f,k,x)::Lu es else Lu es:=by cases f<;>rfl
theorem Pq(w:List UInt8):∀(l:List (Bool×List UInt8×AV)) (i:Nat),Eo w (i+1) l=(Eo w i l).map (·+1)
|[],i=>rfl
|e::l,i=>by
  simp only[Eo];cases Qs w e.2.1
  ·exact Pq w l (i+1)
  ·rfl
theorem DU(w:List UInt8):∀(es:List (Bool×List UInt8×AV)),FQ w es=(Eo w 0 (Lu es)).bind fun j=>((Lu es)[j]?).map (·.2.2)
|[]=>rfl
|(f,k,x)::es=>by
  rw[MS];cases f with
 |false=>simp only[FQ,Bool.and_false,Bool.false_eq_true,if_false];exact DU w es
 |true =>
   simp only[FQ,Bool.and_true,if_true,Eo];cases hq:Qs w k with
  |true=>simp
  |false =>
    simp only[Bool.false_eq_true,if_false];rw[Pq,DU w es];cases Eo w 0 (Lu es)<;>simp
def TP:List (Bool×List UInt8×AV)→Bool|[]=>true|e::l=>l.all (fun G=>!Qs e.2.1 G.2.1)&&TP l
theorem Ep{w:List UInt8}:∀{l:List (Bool×List UInt8×AV)} {i:Nat},Eo w i l=none→∀e∈l,Qs w e.2.1=false
|[],_,_,e,G=>by cases G
|J::l,i,h,e,G=>by
  simp only[Eo] at h;cases hq:Qs w J.2.1 with
 |true=>rw[hq] at h;cases h
 |false =>
   rw[hq] at h;rcases List.mem_cons.1 G with rfl|G
   ·exact hq
   ·exact Ep h e G
theorem QdT{a b:List UInt8}(h:Qs a b=true):a=b:=by simpa [Qs] using h
theorem lL(w:List UInt8):∀(es:List (Bool×List UInt8×AV)),Lu (pu w es)=((Lu es).filter fun e=>!Qs w e.2.1)
|[]=>rfl
|(f,k,x)::es=>by
  have G:=lL w es;simp only[pu,WV] at G ⊢;rw[MS,MS,G];cases f<;>cases hq:Qs w k<;>simp[hq]
theorem AJ:∀{es:List (Bool×List UInt8×AV)},TP es=true→TP (Lu es)=true
|[],_=>rfl
|(f,k,x)::es,h=>by
  simp only[TP,Z8] at h;rw[MS];cases f with
 |false=>exact AJ h.2
 |true =>
   simp only[if_true,TP,Z8];refine⟨?_,AJ h.2⟩;rw[X5] at h ⊢;intro e G;exact h.1 e (List.mem_filter.1 G).1
theorem MV{w:List UInt8}:∀{l:List (Bool×List UInt8×AV)} {j:Nat},TP l=true→Eo w 0 l=some j→(l.filter fun e=>!Qs w e.2.1)=l.eraseIdx j
|[],j,_,h=>by cases h
|e::l,j,J,h=>by
  simp only[TP,Z8] at J;simp only[Eo] at h;cases hq:Qs w e.2.1 with
 |true =>
   rw[hq] at h;simp only[if_true,Q0] at h;subst h;have hw:=QdT hq
   have:(l.filter fun e=>!Qs w e.2.1)=l:=by
    rw[List.filter_eq_self];intro O G;rw[hw];exact X5.1 J.1 O G
   simp[hq,this]
 |false =>
   rw[hq] at h;simp only[Bool.false_eq_true,if_false] at h;rw[Pq] at h;cases hj:Eo w 0 l with
  |none=>rw[hj] at h;cases h
  |some U =>
    rw[hj] at h;simp only[Option.map_some,Q0] at h;subst h;simp[hq,MV J.2 hj]
theorem LF{α β:Type}(f:α→β):∀(l:List α) (j:Nat),(l.eraseIdx j).map f=(l.map f).eraseIdx j
|[],j=>by simp
|x::l,0=>rfl
|x::l,j+1=>by simp only[List.eraseIdx_cons_succ,WV,LF f l j]
theorem Es{M:ZM}:∀{xs:List AV} {J:List Value} (j:Nat),Qg φ h w M xs J→Qg φ h w M (xs.eraseIdx j) (J.eraseIdx j)
|[],J,j,G=>by
  simp only[Qg] at G;subst G;simp[Qg]
|x::xs,J,j,G=>by
  simp only[Qg] at G;obtain⟨y,ys,rfl,U,O⟩:=G;cases j with
 |zero=>exact O
 |succ j=>simp only[List.eraseIdx_cons_succ,Qg];exact⟨_,_,rfl,U,Es j O⟩
theorem pE{clock:Nat}{k:Value}(h:Hl en clock):Hl (en.push { key:=k,val:=v,born:=clock }) (clock+1):=by
 obtain⟨O,J⟩:=h;refine⟨?_,fun e G=>?_⟩
 ·simp only[Array.toList_push,List.map_append,WV,List.map_nil];rw[List.pairwise_append];refine⟨O,List.pairwise_singleton _ _,fun x W y U=>?_⟩;obtain⟨e,G,rfl⟩:=List.mem_map.1 W;rw[List.mem_singleton.1 U];exact J e G
 ·simp only[Array.toList_push,List.mem_append,List.mem_singleton] at G;rcases G with G|rfl
  ·have:=J e G;omega
  ·exact Nat.lt_succ_self _
theorem xU{clock:Nat}(h:Hl en clock):Hl (en.eraseIdxIfInBounds j) clock:=by
 obtain⟨O,U⟩:=h;have G:(en.eraseIdxIfInBounds j).toList=en.toList.eraseIdx j:=by simp
 refine⟨?_,fun e J=>U e ?_⟩
 ·rw[G];exact O.sublist ((List.eraseIdx_sublist _ _).map _)
 ·rw[G] at J;exact(List.eraseIdx_sublist _ _).mem J
def Qbh:Option Blk→Option (List (Bool×List UInt8×AV))|some (.mp [])=>some []|some (.mf es)=>some es|_=>none
def Jr(P:Program)(T:Nat→Option AV)(h:QO)(t:TypeId)(x ix:Operand)(ok:Bool):Option KL :=
 match P.underlying t,Zp T x,Zp T ix with
|some (.map kt e),some (.mv b),some (.p (.val (.string s))) =>
  match h b,P.underlying kt with
 |some (.mf es),some .string =>
   match FQ (JK s) es with
  |some v=>some (TM ok v true,none,[b])
  |none=>match (P.info? e).bind (·.zero) with|some z=>some (TM ok (Ag z) false,none,[b])|none=>none
 |_,_=>none
|_,_,_=>none
def Js(P:Program)(T:Nat→Option AV)(h:QO)(t:TypeId)(x ix y:Operand):Option KL :=
 match P.underlying t,Zp T x,Zp T ix,Zp T y with
|some (.map kt e),some (.mv b),some (.p (.val (.string s))),some v =>
  match Qbh (h b),P.underlying kt with
 |some es,some .string=>match FQ (JK s) es with
  |none=>some (.p (.val undef),some (b,.mf (es++[(true,JK s,v)])),[b])
  |some _=>none
 |_,_=>none
|_,_,_,_=>none
def Uk(P:Program)(T:Nat→Option AV)(h:QO)(t:TypeId)(x ix:Operand):Option KL :=
 match P.underlying t,Zp T x,Zp T ix with
|some (.map kt e),some (.mv b),some (.p (.val (.string s))) =>
  match h b,P.underlying kt with
 |some (.mf es),some .string=>if TP es=true then some (.tup [],some (b,.mf (pu (JK s) es)),[b]) else none
 |_,_=>none
|_,_,_=>none
theorem lM(hb:Qbh (h b)=some es)(r:ZQ φ h w M0):∃k0,h b=some k0∧k0.ob=some .mp ∧
  ∃(en:Array MapEntry) (clock:Nat),w.heap[φ b]?=some (.map en clock)∧en.toList.map (·.key)=(Lu es).map (fun e=>Tc e.2.1)∧Qg φ h w (MM φ h M0) ((Lu es).map (·.2.2)) (en.toList.map (·.val))∧Hl en clock:=by
 unfold Qbh at hb;split at hb
 ·rename_i G;cases hb;obtain⟨en,clock,U,J,W⟩:=r.blk b _ G;have O:en.toList=[]:=by simpa using J
  exact⟨_,G,rfl,en,clock,U,J,W,by simp[Hl,O]⟩
 ·rename_i es' G;cases hb;exact⟨_,G,rfl,r.blk b _ G⟩
 ·cases hb
theorem AL{l:List (Bool×List UInt8×AV)}{en:List MapEntry}(G:en.map (·.key)=l.map (fun e=>Tc e.2.1)):en.map (·.key)=(pz l).map (·.1):=by
 rw[G];simp[pz]
theorem vH(r:Zo φ M0 N D T h a w){t:TypeId}{u:KL}(ho:o.op=.lookup t x ix ok)(J:Jr P T h t x ix ok=some u):u.2.1=none∧Yield P o φ M0 h a w u.1 h:=by
 unfold Jr at J;split at J;rotate_left
 ·cases J
 rename_i kt e b s ht hx af;split at J;rotate_left
 ·cases J
 rename_i es hb ab;have aa:=r.ev hx;simp only[Qe] at aa;have O:=r.ev af;simp only[Qe,QM] at O;obtain⟨en,clock,hw,ac,Z,_⟩:=r.hp.blk b _ hb;have Y:(getObj (φ b)).run P w=.ok (.map en clock) w:=by simp[getObj,Sem.run,hw]
 have U:=GU (w:=w) (MR ab s) en.isEmpty;have ad:=DT ab s (Lu es) 0;obtain⟨q,Cm,Lp⟩:=Xg (w:=w) ab (AL ac) ad;have G:=DU (JK s) es;cases hi:Eo (JK s) 0 (Lu es) with
|none =>
  rw[hi] at Lp G;simp only[Option.map_none,MP,Option.bind_none] at Lp G;subst Lp;rw[G] at J;simp only at J;split at J
  ·rename_i z hz;simp only[Q0] at J;subst J;refine⟨rfl,?_⟩;obtain⟨inf,hi,hz⟩:=NS.1 hz;refine Qo r (v:=if ok then .tuple #[z,.bool false] else z) ?_ ?_
   ·simp[execOp,ho,Instr.lookup,run_underlying ht,aa.1,Y,O,U,Cm,Result.andThen,zeroValue,typeInfo,program,Sem.run,hi,hz]
   ·unfold TM;cases ok
    ·exact WC z
    ·simp only[if_true,Qe];exact⟨[z,.bool false],by simp,_,_,rfl,WC z,_,_,rfl,by simp[Qe,QM],rfl⟩
  ·cases J
|some j =>
  rw[hi] at Lp G;simp only[Option.map_some,MP,Zj] at Lp G;obtain⟨m,e',g1,g2,g3,g4⟩:=Lp;have ae:j=m:=by omega
  subst ae
  have hlt:j<(Lu es).length:=by
   have:=(DC.1 g4).1;simpa [pz] using this
  rw[List.getElem?_eq_getElem hlt] at G;simp only[Option.map_some] at G;rw[G] at J;simp only[Q0] at J;subst J;refine⟨rfl,?_⟩;have W:Qe φ h w (MM φ h M0) ((Lu es)[j]).2.2 e'.val:=TN Z (i:=j) (by simp[hlt]) (by simp[g3]);subst g2;refine Qo r (v:=if ok then .tuple #[e'.val,.bool true] else e'.val) ?_ ?_
  ·simp[execOp,ho,Instr.lookup,run_underlying ht,aa.1,Y,O,U,Cm,Result.andThen]
  ·unfold TM;cases ok
   ·exact W
   ·simp only[if_true,Qe];exact⟨[e'.val,.bool true],by simp,_,_,rfl,W,_,_,rfl,by simp[Qe,QM],rfl⟩
theorem Et(r:Zo φ M0 N D T h a w){t:TypeId}{u:KL}(ho:o.op=.mapUpdate t x ix y)(J:Js P T h t x ix y=some u):Yield P o φ M0 h a w u.1 (ap h u.2.1):=by
 unfold Js at J;split at J;rotate_left
 ·cases J
 rename_i kt e b s v ht hx al hy;split at J;rotate_left
 ·cases J
 rename_i es hb Z;have ad:=r.ev hx;simp only[Qe] at ad;have U:=r.ev al;simp only[Qe,QM] at U;have am:=r.ev hy;obtain⟨k0,ah,af,en,clock,hw,G,W,aa⟩:=lM hb r.hp;have ae:(getObj (φ b)).run P w=.ok (.map en clock) w:=by simp[getObj,Sem.run,hw]
 have ac:∀ob,(setObj (φ b) ob).run P w=.ok () (w.putObj (φ b) ob):=fun ob=>by simp[setObj,Sem.run,hw,World.putObj]
 have ab:=GU (w:=w) (MR Z s) false;have aj:=DT Z s (Lu es) 0;obtain⟨q,Cm,Lp⟩:=Xg (w:=w) Z (AL G) aj;have O:=DU (JK s) es;split at J;rotate_left
 ·cases J
 rename_i Y;simp only[Q0] at J;subst J;simp only[ap]
 have hi:Eo (JK s) 0 (Lu es)=none:=by
  cases hi:Eo (JK s) 0 (Lu es) with
 |none=>rfl
 |some j =>
   rw[hi] at Lp O;simp only[Option.map_some,MP,Zj] at Lp O;obtain⟨m,e',g1,g2,g3,g4⟩:=Lp;have ak:j=m:=by omega
   subst ak
   have hlt:j<(Lu es).length:=by
    have:=(DC.1 g4).1;simpa [pz] using this
   rw[List.getElem?_eq_getElem hlt,Y] at O;cases O
 rw[hi] at Lp;have Lp:q=none:=Lp;subst Lp;obtain⟨E,X⟩:=MQ (k1:=.mf (es++[(true,JK s,v)])) (ob:=.map (en.push { key:=.string s,val:=a.eval y,born:=clock }) (clock+1)) ah af rfl r.hp;have an:Tc (JK s)=.string s:=by simp[Tc,JK]
 have ai:Lu (es++[(true,JK s,v)])=Lu es++[(true,JK s,v)]:=by simp[Lu]
 refine⟨.skip,undef,w.putObj (φ b) (.map (en.push { key:=.string s,val:=a.eval y,born:=clock }) (clock+1)),φ,?_,.inr ⟨rfl,rfl⟩,by simp[Qe,QM],Sm ah af rfl r.hp ⟨_,_,World.putObj_heap_same (FL.1 hw).1,?_,?_,pE aa⟩,E,X⟩
 ·simp[execOp,ho,Instr.mapUpdate,run_underlying ht,ad.1,ae,U,ab,Cm,Result.andThen,ac]
 ·simp[G,ai,an]
 ·rw[ai];simp only[Array.toList_push,List.map_append,WV,List.map_nil];exact Bn ((QH (E.keeps M0) X).2 _ _ W) ((QH (E.keeps M0) X).1 _ _ am)
theorem Eu{t k:TypeId}{s:Operand}(J:o.op=.call ⟨.builtin .delete,#[s,x],#[t,k]⟩)(G:(Builtin.delete_ #[t,k] o.type #[a.eval s,a.eval x]).run P w=.ok v w'):(execOp a.eval o).run P w=.ok (.value v) w':=by
 simp[execOp,J,resolve,invoke,builtin,G]
theorem vI(r:Zo φ M0 N D T h a w){t k:TypeId}{u:KL}(ho:o.op=.call ⟨.builtin .delete,#[x,ix],#[t,k]⟩)(Z:Uk P T h t x ix=some u):Yield P o φ M0 h a w u.1 (ap h u.2.1):=by
 unfold Uk at Z;split at Z;rotate_left
 ·cases Z
 rename_i kt e b s ht hx ak;split at Z;rotate_left
 ·cases Z
 rename_i es hb ae;split at Z;rotate_left
 ·cases Z
 rename_i ai;simp only[Q0] at Z;subst Z;simp only[ap];have ad:=r.ev hx;simp only[Qe] at ad;have U:=r.ev ak;simp only[Qe,QM] at U;obtain⟨en,clock,hw,G,O,W⟩:=r.hp.blk b _ hb;have ac:(getObj (φ b)).run P w=.ok (.map en clock) w:=by simp[getObj,Sem.run,hw]
 have ab:∀ob,(setObj (φ b) ob).run P w=.ok () (w.putObj (φ b) ob):=fun ob=>by simp[setObj,Sem.run,hw,World.putObj]
 have aa:=GU (w:=w) (MR ae s) en.isEmpty;have ah:=DT ae s (Lu es) 0;obtain⟨q,Cm,Lp⟩:=Xg (w:=w) ae (AL G) ah;have J:=lL (JK s) es;cases hi:Eo (JK s) 0 (Lu es) with
|none =>
  rw[hi] at Lp;have Lp:q=none:=Lp;subst Lp
  have Y:Lu (pu (JK s) es)=Lu es:=by
   rw[J,List.filter_eq_self];intro e Z;simp[Ep hi e Z]
  obtain⟨E,X⟩:=MQ (k1:=.mf (pu (JK s) es)) (ob:=.map en clock) hb rfl rfl r.hp;refine⟨_,.tuple #[],w.putObj (φ b) (.map en clock),φ,Eu ho ?_,.inl rfl,?_,Sm hb rfl rfl r.hp ⟨en,clock,World.putObj_heap_same (FL.1 hw).1,?_,?_,W⟩,E,X⟩
  ·simp[Builtin.delete_,run_underlying ht,ad.1,ac,U,aa,Cm,Result.andThen,ab]
  ·simp only[Qe];exact⟨[],rfl,rfl⟩
  ·rw[Y];exact G
  ·rw[Y];exact(QH (E.keeps M0) X).2 _ _ O
|some j =>
  rw[hi] at Lp;simp only[Option.map_some,MP] at Lp;obtain⟨m,e',g1,g2,g3,g4⟩:=Lp;have aj:j=m:=by omega
  subst aj;subst g2;rw[MV (AJ ai) hi] at J;have af:(en.eraseIdxIfInBounds j).toList=en.toList.eraseIdx j:=by simp
  obtain⟨E,X⟩:=MQ (k1:=.mf (pu (JK s) es)) (ob:=.map (en.eraseIdxIfInBounds j) clock) hb rfl rfl r.hp;refine⟨_,.tuple #[],w.putObj (φ b) (.map (en.eraseIdxIfInBounds j) clock),φ,Eu ho ?_,.inl rfl,?_,Sm hb rfl rfl r.hp ⟨_,clock,World.putObj_heap_same (FL.1 hw).1,?_,?_,xU W⟩,E,X⟩
  ·simp[Builtin.delete_,run_underlying ht,ad.1,ac,U,aa,Cm,Result.andThen,ab]
  ·simp only[Qe];exact⟨[],rfl,rfl⟩
  ·rw[J,af,LF,LF,G]
  ·rw[J,af,LF,LF];exact Es j ((QH (E.keeps M0) X).2 _ _ O)
end
def lN(P:Program)(T:Nat→Option AV)(t:TypeId)(x:Operand):Option KL:=match P.underlying t,Zp T x with
|some (.slice _),some (.bsl _ n)=>some (.p (.val (.int .i64 n)),none,[])
|_,_=>none
def isB(T:Nat→Option AV):List (Nat×Operand)→Bool
|(_,x)::_=>match Zp T x with|some (.fn _ _ _)=>true|_=>false
|[]=>false
def GV(P:Program)(T:Nat→Option AV)(t:TypeId)(x ix:Operand):Option KL :=
 match Zp T ix,P.underlying t,Zp T x with
|some (.p (.val (.int _ n))),some (.slice e),some (.bsl b m) =>
  match P.info? e with
 |some i=>if i.size=1∧0≤n∧n<m then some (.ptr b n.toNat,none,[]) else none
 |none=>none
|_,_,_=>none
def UV(P:Program)(T:Nat→Option AV)(h:QO)(dst:Option Tmp)(t:TypeId)(len:Nat)(parts:Array (Nat×Operand)):Option KL :=
 match P.underlying t,dst,Al T parts.toList with
|some (.slice e),some d,some ps =>
  match P.info? e with
 |some i =>
   match i.zero,h d with
  |some z,none =>
    match cellsOf (Ag z) with
   |some G =>
     if G.length=1∧i.size=1∧len≤16777216∧0<len then
      match MF (fun k=>some (k*i.size,i.size)) (List.replicate len G).flatten ps with
     |some rs=>if rs.length=len∧Ug rs then some (.bsl d len,some (d,.box e rs),[d]) else none
     |none=>none
     else none
   |none=>none
  |_,_=>none
 |none=>none
|_,_,_=>none
section
variable {P:Program}{o:Oper}{φ:Nat→Nat}{M0:ZM}{N:Nat}{D:DB}{T:Nat→Option AV}{h:QO}{a:Act}{w:World}
theorem Qbi(r:Zo φ M0 N D T h a w){t:TypeId}{u:KL}(O:o.op=.call ⟨.builtin .len,#[x],#[t]⟩)(G:lN P T t x=some u):u.2.1=none∧Yield P o φ M0 h a w u.1 h:=by
 unfold lN at G;split at G
 ·rename_i e b n U W;simp only[Q0] at G;subst G;have J:=r.ev W;simp only[Qe] at J;refine⟨rfl,Qo r (v:=.int .i64 n) ?_ (by simp[Qe,QM])⟩;simp[execOp,O,resolve,invoke,builtin,Builtin.len_,run_underlying U,J.1,goInt]
 ·cases G
theorem OE(r:Zo φ M0 N D T h a w){t:TypeId}{u:KL}(Z:o.op=.indexAddr t x ix)(G:GV P T t x ix=some u):u.2.1=none∧Yield P o φ M0 h a w u.1 h:=by
 unfold GV at G;split at G
 ·rename_i k n e b m W ht Y;split at G
  ·rename_i i hi;split at G
   ·rename_i hc;simp only[Q0] at G;subst G;have J:=r.ev W;simp only[Qe,QM] at J;have O:=r.ev Y;simp only[Qe] at O;refine⟨rfl,Qo r (v:=.pointer (some ⟨φ b,0+n.toNat*i.size,none⟩)) ?_ ?_⟩
    ·have U:0≤n∧n<(m:Int):=hc.2;simp[execOp,Z,Instr.indexAt,J,asIntOf,run_underlying ht,O.1,U,Zb hi,Addr.add_lit]
    ·simp only[Qe];exact⟨by rw[hc.1,Nat.mul_one,Nat.zero_add],O.2⟩
   ·cases G
  ·cases G
 ·cases G
theorem AO(r:Zo φ M0 N D T h a w){t:TypeId}{u:KL}(ho:o.op=.buildSlice t len parts)(G:UV P T h o.dst t len parts=some u):Yield P o φ M0 h a w u.1 (ap h u.2.1):=by
 unfold UV at G;split at G;rotate_left
 ·cases G
 rename_i e d ps ht ad W;split at G;rotate_left
 ·cases G
 rename_i i hi;split at G;rotate_left
 ·cases G
 rename_i z hz hd;split at G;rotate_left
 ·cases G
 rename_i zs Z;split at G;rotate_left
 ·cases G
 rename_i aa;split at G;rotate_left
 ·cases G
 rename_i rs ab;split at G;rotate_left
 ·cases G
 rename_i ae;simp only[Q0] at G;subst G;simp only[ap];refine Yield.of_lift r 1 fun φ r E0 X0 hC=>?_
 obtain⟨h1,h2⟩:=TD r W;obtain⟨h3,_,_⟩:=Vo Z (WC (φ:=φ) (h:=h) (w:=w) (M:=MM φ h M0) z);have af:=ZR h3;have Y:z.cells.toList.length=i.size:=by omega
 have O:Qg φ h w (MM φ h M0) (List.replicate len zs).flatten (((Array.range (len*i.size)).map (z.cells[·%z.cells.size]!)).toList):=by
  have e1:((Array.range (len*i.size)).map (z.cells[·%z.cells.size]!)).toList=(List.replicate len z.cells.toList).flatten:=by
   have:=DL z.cells.toList i.size Y zo len;simp only[Array.toArray_toList] at this;rw[←this];simp[Array.toList_range]
  rw[e1];exact JX h3 len
 obtain⟨c',h4,h5⟩:=MH (placeC:=fun k=>some (k*i.size,i.size)) (fun k x hx=>hx) ps _ _ _ rs h1 h2 O ab;obtain⟨E,X⟩:=JM (w:=w) (w':=w.alloc (.cells c' e)) (o:=.cells c' e) (b:=d) (k:=.box e rs) (φ:=φ) (h:=h) (M0:=M0) rfl rfl rfl rfl hd r.hp hC
 have J:RelB (Qy φ d w.heap.size) (upd h d (.box e rs)) (w.alloc (.cells c' e)) (MM (Qy φ d w.heap.size) (upd h d (.box e rs)) M0) w.heap.size (.box e rs) :=
  ⟨c',by show(w.heap.push _)[w.heap.size]?=_;simp,(QH (E.keeps M0) X).2 _ _ h5⟩
 refine⟨_,.slice (some ⟨w.heap.size,0,none⟩) len len,w.alloc (.cells c' e),Qy φ d w.heap.size,?_,.inl rfl,?_,JN rfl hd r.hp hC E X J,E,X⟩
 ·have hq:(parts.map fun(x:Nat×Operand)=>(x.1,a.eval x.2)).toList=parts.toList.map fun(x:Nat×Operand)=>(x.1,a.eval x.2):=by simp
  have ac:len*i.size=len:=by rw[aa.2.1,Nat.mul_one]
  have U:¬(len*i.size>2 ^ 24):=by omega
  have h0:¬len*i.size=0:=by omega
  simp only[execOp,ho,Instr.buildSlice,Sem.run_bind,run_underlying ht,Zb hi,Result.andThen_ok,U,if_false,h0,hq,zeroValue,typeInfo,program,Sem.run,hi,hz,Sem.run_pure,h4];simp[newRow,newObj,Sem.run]
 ·simp only[Qe];exact⟨by simp[Qy],e,rs,by simp[upd]⟩
theorem pF{l:List (Nat×Operand)}(G:∀x∈l.map (·.2),Zp T' x=Zp T x):isB T' l=isB T l:=by
 cases l with
|nil=>rfl
|cons p l=>obtain⟨i,x⟩:=p;simp only[isB,G x zq]
end
def R5(a b:Option KL):Option KL:=match a with|some x=>some x|none=>b
def Jb(P:Program)(o:Oper)(T:Nat→Option AV)(h:QO):Option KL :=
 match o.op with
|.move x=>V4 T x
|.assign x=>V4 T x
|.pick c x y=>CK T c x y
|.alloc ty=>match P.info? ty with
 |some i=>match i.zero with|some z=>Ou o h ty (Ag z)|none=>none
 |none=>none
|.box ty x=>match Zp T x with|some v=>Ou o h ty v|none=>none
|.build t ps=>Am P T t ps
|.buildSlice t n ps=>if n=0 then xJ P h o.dst t ps else if isB T ps.toList=true then UV P T h o.dst t n ps else UU P T h o.dst t n ps
|.load ty x=>if gX (Zp T x) then Aw P T h ty x else Ee P T h ty x
|.store ty x y=>if gX (Zp T x) then TG P T h ty x y else Aj P T h ty x y
|.makeSlice t x y=>Ej P T h o.dst t x y
|.makeMap _ rsv=>TL h o.dst rsv
|.lookup t x i ok=>R5 (JY P T h t x i ok) (Jr P T h t x i ok)
|.mapUpdate t x i y=>R5 (Va P T h t x i y) (Js P T h t x i y)
|.nilCheck x=>if gX (Zp T x) then nX T h x else R5 (Uj T x) (Ht P T o)
|.fieldAddr t x f=>if gX (Zp T x) then Xf P T h t x f else Xd P T t x f
|.field t x f=>Ak P T t x f
|.indexAddr t x i=>if gX (Zp T x) then W9 P T h t x i else R5 (Ui P T t x i) (GV P T t x i)
|.index t x i=>R5 (Pi P T t x i) (R5 (DN P T t x i) (Ht P T o))
|.slice t x lo hi J=>R5 (GQ P T t x lo hi J) (Ht P T o)
|.extract x i=>GJ T x i
|.makeFunc f a b=>LB T f a b
|.makeInterface t x=>WZ P T t x
|.typeAssert x _ t ok=>UT P T x t ok
|.binOp op tx x y _=>R5 (Ap T op x y) (R5 (aEq P T op tx x y) (R5 (Ht P T o) (Po P T h op tx x y)))
|.unOp op _ x=>R5 (aUn T op x) (Ht P T o)
|.convert src dst x=>R5 (vw P T dst src x) (Ht P T o)
|.call ⟨.builtin .len,args,types⟩=>match args,types with|⟨[x]⟩,⟨[t]⟩=>if gX (Zp T x) then xH P T h t x else R5 (lC P T t x) (R5 (vD P T t x) (R5 (Ht P T o) (lN P T t x)))|_,_=>none
|.call ⟨.builtin .append,args,types⟩=>match args,types with|⟨[s,x]⟩,⟨[t,G]⟩=>if t=G then(if gX (Zp T s) then RA P T h o.dst t s x else FO P T h o.dst t s x) else none|_,_=>none
|.call ⟨.builtin .delete,args,types⟩=>match args,types with|⟨[x,i]⟩,⟨[t,k]⟩=>Uk P T h t x i|_,_=>none
|.call ⟨.builtin .max,_,_⟩=>Ht P T o
|.call ⟨.builtin .min,_,_⟩=>Ht P T o
|_=>none
section
variable {P:Program}{o:Oper}{φ:Nat→Nat}{M0:ZM}{N:Nat}{D:DB}{T:Nat→Option AV}{h:QO}{a:Act}{w:World}
theorem Zc{u:KL}(hu:u.2.1=none∧Yield P o φ M0 h a w u.1 h):Yield P o φ M0 h a w u.1 (ap h u.2.1):=by rw[hu.1];exact hu.2
theorem Vb{x y:Option KL}{u:KL}(G:R5 x y=some u):x=some u∨y=some u:=by
 unfold R5 at G;split at G
 ·exact .inl G
 ·exact .inr G
theorem lQ(r:Zo φ M0 N D T h a w){u:KL}(G:Jb P o T h=some u):Yield P o φ M0 h a w u.1 (ap h u.2.1):=by
 unfold Jb at G;split at G
 case h_1 x ho =>
  unfold V4 at G;split at G
  ·rename_i v J;simp only[Q0] at G;subst G;exact gQ r (.inl ho) J
  ·cases G
 case h_2 x ho =>
  unfold V4 at G;split at G
  ·rename_i v J;simp only[Q0] at G;subst G;exact gQ r (.inr ho) J
  ·cases G
 case h_3 c x y ho=>have:=gU (P:=P) r ho G;exact Zc ⟨this.1,this.2.2⟩
 case h_4 ty ho =>
  split at G
  ·rename_i i hi;split at G
   ·rename_i z W;exact lu r ho hi W G
   ·cases G
  ·cases G
 case h_5 ty x ho =>
  split at G
  ·rename_i v J;exact QdP r ho J G
  ·cases G
 case h_6 t ps ho=>exact Zc (lD r ho G)
 case h_7 t n ps ho =>
  split at G
  ·rename_i U;subst U;exact Qba r ho G
  ·split at G
   ·exact AO r ho G
   ·exact Ox r ho G
 case h_8 ty x ho=>split at G;exact Zc (lI r ho G);exact Zc (Qa6 r ho G)
 case h_9 ty x y ho=>split at G;exact nW r ho G;exact lm r ho G
 case h_10 t x y ho=>exact lJ r ho G
 case h_11 t rsv ho=>exact xQ r ho G
 case h_12 t x i ok ho=>exact(Vb G).elim (fun G=>Zc (pg r ho G)) (fun G=>Zc (vH r ho G))
 case h_13 t x i y ho=>exact(Vb G).elim (fun G=>zF r ho G) (fun G=>Et r ho G)
 case h_14 x ho=>split at G;exact Zc (Qbb r ho G);exact(Vb G).elim (fun G=>Zc (vk r ho G)) (fun G=>Zc (pure_ok r G))
 case h_15 t x f ho=>split at G;exact Zc (Oz r ho G);exact Zc (zm r ho G)
 case h_16 t x f ho=>exact Zc (lv r ho G)
 case h_17 t x i ho=>split at G;exact Zc (Oy r ho G);exact(Vb G).elim (fun G=>Zc (zn r ho G)) (fun G=>Zc (OE r ho G))
 case h_18 t x i ho=>exact(Vb G).elim (fun G=>Zc (lw r ho G)) (fun G=>(Vb G).elim (fun G=>Zc (nY r ho G)) (fun G=>Zc (pure_ok r G)))
 case h_19 t x lo hi mx ho=>exact(Vb G).elim (fun G=>Zc (lH r ho G)) (fun G=>Zc (pure_ok r G))
 case h_20 x i ho=>exact Zc (xA r ho G)
 case h_21 f l m ho=>exact Zc (vg r ho G)
 case h_22 t x ho=>exact Zc (Pk r ho G)
 case h_23 x xt t ok ho=>exact Zc (Ov r ho G)
 case h_24 op tx x y ty ho=>exact(Vb G).elim (fun G=>Zc (QdS r ho G)) (fun G=>(Vb G).elim (fun G=>Zc (Qfv r ho G)) (fun G=>(Vb G).elim (fun G=>Zc (pure_ok r G)) (fun G=>Zc (lK r ho G))))
 case h_25 op tx x ho=>exact(Vb G).elim (fun G=>Zc (Qft r ho G)) (fun G=>Zc (pure_ok r G))
 case h_26 src dst x ho=>exact(Vb G).elim (fun G=>Zc (Qa8 r ho G)) (fun G=>Zc (pure_ok r G))
 case h_27 args types ho =>
  split at G
  ·rename_i x t;split at G;exact Zc (Qa9 r ho G);exact(Vb G).elim (fun G=>Zc (QdQ r ho G)) (fun G=>(Vb G).elim (fun G=>Zc (Qbc r ho G)) (fun G=>(Vb G).elim (fun G=>Zc (pure_ok r G)) (fun G=>Zc (Qbi r ho G))))
  ·cases G
 case h_28 args types ho =>
  split at G
  ·rename_i s x t Y;split at G
   ·rename_i O;subst O;split at G;exact xI r ho G;exact nU r ho G
   ·cases G
  ·cases G
 case h_29 args types ho =>
  split at G
  ·exact vI r ho G
  ·cases G
 case h_30=>exact Zc (pure_ok r G)
 case h_31=>exact Zc (pure_ok r G)
 case h_32=>cases G
end
inductive Ku where
|ret (x:AV)
|panic (x:AV)
def lS(φ:Nat→Nat)(h:QO)(w:World)(M:ZM):Ku→Ending→Prop|.ret x,e=>∃v,e=.returned v∧Qe φ h w M x v|.panic x,e=>∃v,e=.panicked [{ v:=v,recovered:=false }]∧Qe φ h w M x v
def YV(P:Program)(f:FuncId)(args:List AV)(h:QO)(R:Ku→QO→Prop):Prop :=∀φ M0 w G,ZQ φ h w M0→Qg φ h w (MM φ h M0) args G→Calls P f G.toArray w fun e w' =>∃φ' r h',R r h'∧ZQ φ' h' w' M0∧Q8 φ h w φ' h' w'∧lS φ' h' w' (MM φ' h' M0) r e
def Fz:QO:=fun _=>none
def Q9(P:Program)(f:FuncId)(args:List AV)(x:Ku):Prop:=YV P f args Fz fun r h'=>r=x∧h'=Fz
mutual
def Yf:AV→Bool|.p _=>true|.eptr _=>true|.tsl _ _ _=>false|.ptr _ _=>false|.vnil=>true|.vsl _ _ _=>false|.vptr _ _ _ _=>false|.yv _=>false|.mv _=>false|.bsl _ _=>false|.sfp _=>false|.iv _=>false|.agg cs=>Y0 cs|.tup cs=>Y0 cs|.fn _ a b=>Y0 a&&Y0 b|.ifc _ x=>Yf x
def Y0:List AV→Bool|[]=>true|x::xs=>Yf x&&Y0 xs
end
theorem WQ(hk:∀r o v,w.cell? ⟨r,o,none⟩=some v→¬M r o→w'.cell? ⟨r,o,none⟩=some v∧¬M' r o) :
  (∀(x:AV) (v:Value),Yf x=true→Qe φ h w M x v→Qe φ' h' w' M' x v)∧(∀(xs:List AV) (l:List Value),Y0 xs=true→Qg φ h w M xs l→Qg φ' h' w' M' xs l):=by
 obtain⟨kp,ke,kc⟩:=Z0 hk
 have key:∀n:Nat,(∀(x:AV),SizeOf.sizeOf x≤n→∀v,Yf x=true→Qe φ h w M x v→Qe φ' h' w' M' x v)∧(∀(xs:List AV),SizeOf.sizeOf xs≤n→∀l,Y0 xs=true→Qg φ h w M xs l→Qg φ' h' w' M' xs l):=by
  intro n
  induction n with
 |zero =>
   refine⟨fun x W=>?_,fun es W=>?_⟩
   ·cases x<;>simp at W
   ·cases es<;>simp at W
 |succ n ih =>
   obtain⟨Z,i2⟩:=ih;refine⟨fun x W v G J=>?_,fun xs W l G J=>?_⟩
   ·cases x with
   |p x=>simp only[Qe] at J ⊢;exact kp x v J
   |tsl S es t=>simp[Yf] at G
   |ptr b off=>simp[Yf] at G
   |vnil=>simp only[Qe] at J ⊢;exact J
   |vsl S t n=>simp[Yf] at G
   |vptr t n k f=>simp[Yf] at G
   |yv b=>simp[Yf] at G
   |mv b=>simp[Yf] at G
   |iv b=>simp[Yf] at G
   |bsl b n=>simp[Yf] at G
   |sfp b=>simp[Yf] at G
   |eptr cs =>
     simp only[Qe] at J ⊢;obtain⟨r,o,U,O⟩:=J;exact⟨r,o,U,kc cs r o O⟩
   |agg cs =>
     simp only[Qe,Yf] at J G ⊢;obtain⟨l,U,O⟩:=J;exact⟨l,U,i2 cs (by simp at W;omega) l G O⟩
   |tup cs =>
     simp only[Qe,Yf] at J G ⊢;obtain⟨l,U,O⟩:=J;exact⟨l,U,i2 cs (by simp at W;omega) l G O⟩
   |fn f a b =>
     simp only[Qe,Yf,Z8] at J G ⊢;obtain⟨l,m,U,O,Y⟩:=J;simp at W;exact⟨l,m,U,i2 a zo l G.1 O,i2 b zo m G.2 Y⟩
   |ifc t x =>
     simp only[Qe,Yf] at J G ⊢;obtain⟨y,U,O⟩:=J;exact⟨y,U,Z x (by simp at W;omega) y G O⟩
   ·cases xs with
   |nil=>simpa [Qg] using J
   |cons x xs =>
     simp only[Qg,Y0,Z8] at J G ⊢;simp at W;obtain⟨y,ys,U,O,Y⟩:=J;exact⟨y,ys,U,Z x zo y G.1 O,i2 xs zo ys G.2 Y⟩
 exact⟨fun x v=>(key (SizeOf.sizeOf x)).1 x (Kz _) v,fun xs l=>(key (SizeOf.sizeOf xs)).2 xs (Kz _) l⟩
mutual
def le:AV→AV→Prop|.tsl S es t,y=>y=.tsl S es t∨y=.p (.sl S es)|.p (.val v),y=>y=.p (.val v)∨(v=.slice none 0 0∧((∃S,y=.p (.sl S []))∨y=.vnil))|.agg xs,y=>∃ys,y=.agg ys∧MW xs ys|.tup xs,y=>∃ys,y=.tup ys∧MW xs ys|.vnil,y=>y=.vnil∨∃S,y=.p (.sl S [])|x,y=>y=x
def MW:List AV→List AV→Prop|[],ys=>ys=[]|x::xs,ys=>∃z G,ys=z::G∧le x z∧MW xs G
end
theorem JG :
  (∀(x y:AV) (v:Value),le x y→Qe φ h w M x v→Qe φ h w M y v)∧(∀(xs ys:List AV) (l:List Value),MW xs ys→Qg φ h w M xs l→Qg φ h w M ys l):=by
 have key:∀n:Nat,(∀(x:AV),SizeOf.sizeOf x≤n→∀y v,le x y→Qe φ h w M x v→Qe φ h w M y v)∧(∀(xs:List AV),SizeOf.sizeOf xs≤n→∀ys l,MW xs ys→Qg φ h w M xs l→Qg φ h w M ys l):=by
  intro n
  induction n with
 |zero =>
   refine⟨fun x O=>?_,fun es O=>?_⟩
   ·cases x<;>simp at O
   ·cases es<;>simp at O
 |succ n ih =>
   obtain⟨i1,i2⟩:=ih;refine⟨fun x O y v G J=>?_,fun xs O ys l G J=>?_⟩
   ·cases x with
   |p x=>cases x with
    |val u =>
      simp only[le] at G;rcases G with rfl|⟨rfl,⟨S,rfl⟩|rfl⟩
      ·exact J
      ·simp only[Qe,QM] at J ⊢;exact .inr ⟨trivial,none,0,J⟩
      ·simp only[Qe,QM] at J ⊢;exact J
    |sl S es=>simp only[le] at G;subst G;exact J
   |tsl S es t =>
     simp only[le] at G;rcases G with rfl|rfl
     ·exact J
     ·simp only[Qe] at J ⊢;exact J.1
   |ptr b off=>simp only[le] at G;subst G;exact J
   |eptr cs=>simp only[le] at G;subst G;exact J
   |vnil =>
     simp only[le] at G;rcases G with rfl|⟨S,rfl⟩
     ·exact J
     ·simp only[Qe,QM] at J ⊢;exact .inr ⟨trivial,none,0,J⟩
   |vsl S t n=>simp only[le] at G;subst G;exact J
   |vptr t n k f=>simp only[le] at G;subst G;exact J
   |yv b=>simp only[le] at G;subst G;exact J
   |mv b=>simp only[le] at G;subst G;exact J
   |iv b=>simp only[le] at G;subst G;exact J
   |bsl b n=>simp only[le] at G;subst G;exact J
   |sfp b=>simp only[le] at G;subst G;exact J
   |agg cs =>
     simp only[le] at G;obtain⟨ys,rfl,U⟩:=G;simp only[Qe] at J ⊢;obtain⟨l,W,Y⟩:=J;exact⟨l,W,i2 cs (by simp at O;omega) ys l U Y⟩
   |tup cs =>
     simp only[le] at G;obtain⟨ys,rfl,U⟩:=G;simp only[Qe] at J ⊢;obtain⟨l,W,Y⟩:=J;exact⟨l,W,i2 cs (by simp at O;omega) ys l U Y⟩
   |fn f a b=>simp only[le] at G;subst G;exact J
   |ifc t x=>simp only[le] at G;subst G;exact J
   ·cases xs with
   |nil=>simp only[MW] at G;subst G;exact J
   |cons x xs =>
     simp only[MW] at G;obtain⟨z,zs,rfl,W,U⟩:=G;simp only[Qg] at J ⊢;simp at O;obtain⟨y,ys,Y,h4,Z⟩:=J;exact⟨y,ys,Y,i1 x zo z y W h4,i2 xs zo zs ys U Z⟩
 exact⟨fun x y v=>(key (SizeOf.sizeOf x)).1 x (Kz _) y v,fun xs ys l=>(key (SizeOf.sizeOf xs)).2 xs (Kz _) ys l⟩
def F5(P:Program)(N:Nat)(f:FuncId)(args:List AV)(dst:Option Tmp)(s:St)(K:St→Prop)(Q:AX→St→Prop):Prop :=
 ∀φ M0 D a w G,Zo φ M0 N D (look s.T) (look s.H) a w→Qg φ (look s.H) w (MM φ (look s.H) M0) args G→Calls P f G.toArray w fun e w' =>
  match e with
 |.returned v=>∃φ' s',K s'∧Zo φ' M0 N D (look s'.T) (look s'.H) (a.put dst v) w'∧Q8 φ (look s.H) w φ' (look s'.H) w'
 |.panicked chain=>Post N D Q φ M0 (look s.H) w (.panic chain) a w'
 |.outgrown=>False
theorem Ul(Y:w'.os=w.os)(Z:w'.tape=w.tape)(hu:w'.output=w.output)(hs:w.heap.size≤w'.heap.size)(G:∀x,x<w.heap.size→w'.heap[x]?=w.heap[x]?)(r:ZQ φ h w M0)(hC:Clear φ h w (w'.heap.size-w.heap.size)):Q8 φ h w φ h w'∧YZ φ h w φ h w'∧ZQ φ h w' M0:=by
 have J:∀b k,h b=some k→w'.heap[φ b]?=w.heap[φ b]?:=fun b k hb=>hC.lt r zo G (by rw[hb];simp)
 have E:Q8 φ h w φ h w':=⟨Y,Z,hu,hs,fun x O _=>G x O,fun x o O _=>by simp[World.cell?,G x O],fun _ _ _ x=>x,fun _ _ _ _ x=>⟨⟨_,x⟩,rfl⟩,
  fun t ty S n _ x=>⟨_,x,Kz _,fun _=>Yy (rfl) (by rw[J _ _ x])⟩,
  fun t ty S n _ x=>⟨_,x,Kz _,fun _=>⟨rfl,fun c hc=>⟨c,by rw[J _ _ x];exact hc,rfl⟩⟩⟩,fun _ _ _ _ W U=>⟨⟨_,W,U⟩,rfl⟩⟩
 have X:YZ φ h w φ h w':=⟨fun _ _ _ x=>⟨⟨_,_,x⟩,rfl⟩,fun t ty S n x=>⟨_,x,Kz _,fun _=>Yy (rfl) (by rw[J _ _ x])⟩,
  fun t ty S n x=>⟨_,x,Kz _,fun _=>⟨rfl,fun c hc=>⟨c,by rw[J _ _ x];exact hc,rfl⟩⟩⟩,fun _ _ _ W U=>⟨⟨_,W,U⟩,rfl⟩⟩
 exact⟨E,X,r.inj,fun b k hb=>Z4 (E.keeps M0) X (J b k hb) (r.blk b k hb),r.fr,fun x o O=>Nat.lt_of_lt_of_le (r.lt x o O) hs,r.gm.evol E⟩
def MB(φ:Nat→Nat)(h:QO)(w:World)(M0:ZM):ZM:=fun x o=>MM φ h M0 x o∧x<w.heap.size
theorem vJ{x o:Nat}(G:MB φ h w M0 x o):x<w.heap.size:=G.2
theorem Sn(J:ZQ φ h w M0)(hs:w.heap.size≤w'.heap.size){o:Nat}(O:w'.cell? ⟨r,o,none⟩=some v)(G:¬MB φ h w M0 r o) :
  ¬MM (KZ φ w.heap.size (w'.heap.size-w.heap.size)) h M0 r o:=by
 have hlt:=DD O;rintro(⟨b,k,g1,g2,g3⟩|g1)
 ·unfold KZ at g2;by_cases e:φ b<w.heap.size
  ·simp only[e,if_true] at g2;exact G ⟨.inl ⟨b,k,g1,g2,g3⟩,by omega⟩
  ·simp only[e,if_false] at g2;omega
 ·exact G ⟨.inr g1,J.lt _ _ g1⟩
theorem UW(J:∀x o,M x o→x<w.heap.size)(G:xx w)(U:∀g∈gfix,∀o,¬M g o):ZQ φ Fz w M :=
 ⟨fun b c hb=>absurd rfl hb,(fun b k hb=>by cases hb),fun b hb=>absurd rfl hb,J,G,fun g G o h=>h.elim (fun⟨b,k,O,_⟩=>by cases O) (U g G o)⟩
theorem GM.mb(G:GM φ h w M0):∀g∈gfix,∀o,¬MB φ h w M0 g o:=fun g J o O=>G.m g J o O.1
theorem Wu{x o:Nat}:¬R4 φ Fz x o:=by rintro⟨b,k,G,_⟩;cases G
theorem Pv{x:AV}(hc:Q9 P f args' (.ret x))(W:MW args args')(hn:Y0 args'=true)(O:Yf x=true)(hd:∀t,dst=some t→t<N)(hk:K (s.put dst x)):F5 P N f args dst s K Q:=by
 intro φ M0 D a w vs r Z;have hH:ZQ φ Fz w (MB φ (look s.H) w M0):=UW (fun x o hm=>vJ hm) r.hp.gm.w r.hp.gm.mb;have hM:∀r o v,w.cell? ⟨r,o,none⟩=some v→¬MM φ (look s.H) M0 r o→w.cell? ⟨r,o,none⟩=some v∧¬MM φ Fz (MB φ (look s.H) w M0) r o:=fun r o v G J=>⟨G,fun U=>U.elim Wu (fun h4=>J h4.1)⟩
 refine(hc φ (MB φ (look s.H) w M0) w vs hH ((WQ hM).2 _ _ hn (JG.2 _ _ _ W Z))).mono ?_;rintro e w' ⟨φ',r',h',⟨rfl,rfl⟩,aa,E,v,rfl,hv⟩;have Y:∀ro o v,w'.cell? ⟨ro,o,none⟩=some v→¬MM φ' Fz (MB φ (look s.H) w M0) ro o→w'.cell? ⟨ro,o,none⟩=some v∧¬MM (KZ φ w.heap.size (w'.heap.size-w.heap.size)) (look s.H) M0 ro o:=fun ro o v G J=>⟨G,Sn r.hp E.size G (fun U=>J (.inr U))⟩
 obtain⟨r,E1,X1,hC⟩:=r.lift (w'.heap.size-w.heap.size);obtain⟨E2,X2,H2⟩:=Ul E.os E.tape E.output E.size (fun x O=>E.same x O (fun b hb=>absurd rfl hb)) r.hp hC;have r2:Zo _ M0 N D (look s.T) (look s.H) a w':=r.keep E2 X2 H2;exact⟨_,s.put dst x,hk,r2.put hd ((WQ Y).1 _ _ O hv),by cases dst<;>exact E1.trans E2⟩
end Go.Abs
