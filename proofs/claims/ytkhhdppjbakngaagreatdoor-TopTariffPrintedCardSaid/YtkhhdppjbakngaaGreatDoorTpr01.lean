/-
  A part of the proof of a statement of the seat YtkhhdppjbakngaaGreatDoor.
-/
import Derived.Below
import Derived.Orders
import Derived.Lib.ItoaNum
import Derived.Sort.LoopGhostIn
import Derived.OrdersIn
import Derived.Scope
import Derived.Laws.AppendOwn
import Derived.Laws.StructEq
import Derived.Laws.MakeOwn
import Derived.RangeFuncRecord
import Derived.RangeFuncLeaves
import Derived.RangeFuncSeq
import Derived.Recover
import Derived.KernelRfl
import Derived.LoopNIn
import Derived.ProofKit
import Derived.OpenShut
import Derived.WideKeyArgs
import Derived.RowKit3
import Derived.JoinedCond
import Derived.ChangeSame
import Derived.Maps.RangeRun
import Derived.Laws.BytesString
import Derived.Lib.AppendStr
import Derived.ChangeKeysEq
import Derived.Test.YtkhhdppjbakngaaGreatDoorProg
import Derived.WalkKit
import Derived.Lib.Builder
import Derived.Laws.Externs
import Derived.Laws.IdiomCopy
import Derived.Laws.BitsLemmas
import Derived.Shelf.RegionOpenPlain
import Derived.Lib.UnsafeStr
import Derived.Lib.Strings
import Derived.Lib.Slices
import Derived.Lib.Walk
import Derived.Shelf.Strconv.Itoa3
import Derived.Shelf.Strconv.Itoa0
import Derived.Shelf.Strconv.Itoa1
import Derived.Shelf.LaysM
import Derived.Shelf.Strconv.Itoa2
import Derived.Lib.LaidTab
import Derived.Lib.Bytealg
import Derived.Lib.IndexMore
import Derived.Test.YtkhhdppjbakngaaGreatDoorRows
import Derived.Test.YtkhhdppjbakngaaGreatDoorTie
import Derived.Test.YtkhhdppjbakngaaGreatDoorCards
import Derived.LaidMore
import Derived.Lay
import Derived.MakeChecks
import Derived.SevenTiedAt
import Derived.LaidLaws
set_option linter.unusedVariables false
namespace Go
theorem QN {p:Prop} [i:Decidable p] (h:¬p):decide p=false:=decide_eq_false h
theorem QV {p:Prop} [i:Decidable p] (h:p):decide p=true:=decide_eq_true h
theorem QE {α β:Type} (a:α) (f:α→Option β):(some a).bind f=f a:=Option.bind_some a f
theorem QO {α:Type} {a b:α}:(some a=some b)=(a=b):=Option.some.injEq a b
theorem Zf {a b:Bool}:((a&&b)=true)=(a=true∧b=true):=Bool.and_eq_true a b
theorem zo {p:Prop} (h:p:=by omega):p:=h
theorem zq {p:Prop} (h:p:=by simp):p:=h
theorem Y0 {α:Type} {xs ys:List α}:(xs++ys).length=xs.length+ys.length:=List.length_append
theorem Y6 {α:Type} {a:α} {xs:List α}:(a :: xs).length=xs.length+1:=List.length_cons
theorem Ll {α:Type} {xs:Array α} {i:Nat} {b:α}:xs[i]?=some b↔∃ h:i < xs.size,xs[i]=b:=Array.getElem?_eq_some_iff
theorem TD {α:Type} {x:Option α}:x.isSome=true↔∃ a,x=some a:=Option.isSome_iff_exists
theorem Fe {α β:Type} {x:Option α} {f:α→β} {b:β}:x.map f=some b↔∃ a,x=some a∧f a=b:=Option.map_eq_some_iff
theorem AP {α:Type} {o:Option α}:o ≠ none↔∃ x,o=some x:=Option.ne_none_iff_exists'
end Go
namespace Go.Abs
open Go
variable {N:Nat}{P:Program}{a:Act}{b:Nat}{c:Code}{c':Array Value}{d:Nat}{dst:Option Tmp}{e:TypeId}{f:FuncId}{i id:Nat}{ix:Operand}{j:Nat}{kt:TypeId}{len:Nat}{lo:Option Operand}{n:Nat}{o:Oper}{off:Nat}{ok:Bool}{op:BinOp}{parts:Array (Nat × Operand)}{r r':Nat}{ro:Option Nat}{t tx ty:TypeId}{v:Value}{w w' w'':World}{x y:Operand}{z:Value}{α β:Type}{φ φ':Nat→Nat}
def kindsTab:List (List UInt8):=[[],[102,101,101,100,101,114],[99,97,98,108,101],[111,119,110,101,114],[99,111,110,116,114,97,99,116],[99,104,97,114,103,101,114],[98,97,121],[116,97,114,105,102,102]]
def gfix:List Nat:=[0,1]
def mX (w:World):Prop:=(∃ ty G,w.heap[0]?=some (.cells (kindsTab.map fun k=>Value.string ⟨k.toArray⟩).toArray ty G))∧∃ ty G,w.heap[1]?=some (.cells (Lib.pow10Tab.map fun z=>Value.int .u64 z).toArray ty G)
theorem xz (h:∀ g ∈ gfix,w'.heap[g]?=w.heap[g]?) (O:mX w):mX w':=by
 obtain ⟨⟨ty,Y,h0⟩,Aj,G,J⟩:=O;exact ⟨⟨ty,Y,by rw [h 0 (by simp [gfix])]; exact h0⟩,Aj,G,by rw [h 1 (by simp [gfix])]; exact J⟩
theorem vS (O:mX w):∀ g ∈ gfix,g < w.heap.size:=fun g G=>by
 obtain ⟨⟨ty,Z,h0⟩,Aj,Y,J⟩:=O;simp only [gfix,List.mem_cons,List.not_mem_nil,or_false] at G;rcases G with rfl | rfl
 ·exact (Ll.1 h0).1
 ·exact (Ll.1 J).1
theorem Qgn (O:mX w):∀ g ∈ gfix,∀ l,w.heap[g]? ≠ some (.deferred l):=fun g G l h=>by
 obtain ⟨⟨ty,Z,h0⟩,Aj,Y,J⟩:=O;simp only [gfix,List.mem_cons,List.not_mem_nil,or_false] at G;rcases G with rfl | rfl
 ·rw [h0] at h; cases h
 ·rw [J] at h; cases h
inductive PV where
 | val (x:Value)
 | sl (S:Nat) (es:List (List PV))
variable {es es':List (List PV)}
inductive AV where
 | p (x:PV)
 | tsl (S:Nat) (es:List (List PV)) (t:Nat)
 | ptr (b off:Nat)
 | eptr (cs:List PV)
 | agg (cs:List AV)
 | tup (vs:List AV)
 | fn (f:Fn) (first captured:List AV)
 | ifc (t:TypeId) (x:AV)
 | vnil
 | vsl (S t n:Nat)
 | vptr (t n k f:Nat)
 | yv (b:Nat)
 | mv (b:Nat)
 | bsl (b n:Nat)
 | sfp (b:Nat)
 | iv (b:Nat)
variable {T T':Nat→Option AV}{args args':List AV}
structure Dz where
 N:Nat
 fn:FuncId
 ps:Array Tmp
 assign:Code
 body:Code
inductive Blk where
 | box (ty:TypeId) (cs:List AV)
 | arr (ty:TypeId) (S n:Nat)
 | vec (ty:TypeId) (S:Nat) (es:List (List PV))
 | lp (T:List (Nat × AV)) (nf:Dz) (st:LoopState) (pd:Option Code)
 | mp (es:List (Value × PV))
 | mf (es:List (Bool × List UInt8 × AV))
 | mg (en:Array MapEntry) (clock:Nat) (es:List (Bool × List UInt8 × AV))
 | it (m clock:Nat) (seen:Array Nat)
inductive OB where
 | lp (T:List (Nat × AV)) (nf:Dz)
 | mp
def Blk.ob:Blk→Option OB
 | .lp T nf _ _=>some (.lp T nf)
 | .mp _=>some .mp
 | .mf _=>some .mp
 | .mg _ _ _=>some .mp
 | .it _ _ _=>some .mp
 | _=>none
def look {α:Type}:List (Nat × α)→Nat→Option α
 | [],_=>none
 | (k,v) :: l,t=>if k=t then some v else look l t
abbrev QH:=Nat→Option Blk
variable {h h':QH}
abbrev Zr:=Nat→Nat→Prop
variable {M M' M0:Zr}
mutual
def QI (w:World) (M:Zr):PV→Value→Prop
 | .val x,v=>v=x
 | .sl S es,v=>(∃ r o cap,v=.slice (some ⟨r,o,none⟩) es.length cap∧es.length≤cap∧VN w M S r o es)∨(es=[]∧∃ a cap,v=.slice a 0 cap)
def VM (w:World) (M:Zr) (r:Nat):Nat→List PV→Prop
 | _,[]=>True
 | o,c :: cs=>(∃ v,w.cell? ⟨r,o,none⟩=some v∧¬ M r o∧v.oneCell'=true∧QI w M c v)∧VM w M r (o+1) cs
def VN (w:World) (M:Zr) (S r:Nat):Nat→List (List PV)→Prop
 | _,[]=>True
 | o,e :: es=>(e.length=S∧VM w M r o e)∧VN w M S r (o+S) es
end
mutual
def Qe (φ:Nat→Nat) (h:QH) (w:World) (M:Zr):AV→Value→Prop
 | .p x,v=>QI w M x v
 | .tsl S es t,v=>QI w M (.sl S es) v∧∃ ty n,h t=some (.arr ty S n)∧es.length≤n ∧
   (es.length=n→(n=0∧v=.slice none 0 0∧w.heap[φ t]?=none)∨∃ cap c,v=.slice (some ⟨φ t,0,none⟩) n cap∧w.heap[φ t]?=some (.cells c ty (0,0))∧c.size=cap * S∧n≤cap∧cap≤maxLen)
 | .ptr b off,v=>v=.pointer (some ⟨φ b,off,none⟩)∧∃ ty cs,h b=some (.box ty cs)
 | .eptr cs,v=>∃ r o,v=.pointer (some ⟨r,o,none⟩)∧VM w M r o cs
 | .agg cs,v=>∃ l:List Value,v=.agg l.toArray∧Qi φ h w M cs l
 | .tup G,v=>∃ l:List Value,v=.tuple l.toArray∧Qi φ h w M G l
 | .fn f a b,v=>∃ l m:List Value,v=.func f l.toArray m.toArray∧Qi φ h w M a l∧Qi φ h w M b m
 | .ifc t x,v=>∃ y,v=.iface t y∧Qe φ h w M x y
 | .vnil,v=>v=.slice none 0 0
 | .vsl S t n,v=>v.oneCell'=true∧∃ ty es,h t=some (.vec ty S es)∧n≤es.length ∧
   (n=es.length→∃ cap c,v=.slice (some ⟨φ t,0,none⟩) n cap∧w.heap[φ t]?=some (.cells c ty (0,0))∧c.size=cap * S∧n≤cap∧cap≤maxLen)
 | .vptr t n k f,v=>v.oneCell'=true∧∃ ty S es,h t=some (.vec ty S es)∧n≤es.length∧(n=es.length→v=.pointer (some ⟨φ t,k * S+f,none⟩))
 | .yv b,v=>v=.func (.yield (φ b)) #[] #[]∧∃ k T nf,h b=some k∧k.ob=some (.lp T nf)
 | .mv b,v=>v=.map (some (φ b))∧∃ k,h b=some k∧k.ob=some .mp
 | .bsl b n,v=>v=.slice (some ⟨φ b,0,none⟩) n n∧∃ ty cs,h b=some (.box ty cs)
 | .sfp b,v=>(v=.pointer none∨v=.pointer (some ⟨φ b,0,none⟩))∧∃ ty cs,h b=some (.box ty cs)
 | .iv b,v=>v=.pointer (some ⟨φ b,0,none⟩)∧∃ k,h b=some k∧k.ob=some .mp
def Qi (φ:Nat→Nat) (h:QH) (w:World) (M:Zr):List AV→List Value→Prop
 | [],l=>l=[]
 | x :: xs,l=>∃ y ys,l=y :: ys∧Qe φ h w M x y∧Qi φ h w M xs ys
end
def Cb (φ:Nat→Nat) (h:QH):Zr:=fun r o=>∃ b k,h b=some k∧φ b=r∧(match k with | .arr _ S n=>n * S≤o | _=>True)
def MM (φ:Nat→Nat) (h:QH) (M0:Zr):Zr:=fun r o=>Cb φ h r o∨M0 r o
def TE (es:List (Bool × List UInt8 × AV)):List (Bool × List UInt8 × AV):=es.filter (·.1)
def Iz (k:List UInt8):Value:=.string ⟨k.toArray⟩
def CO (G:Array MapEntry) (clock:Nat):Prop:=(G.toList.map (·.born)).Pairwise (· < ·)∧∀ e ∈ G.toList,e.born < clock
def RelB (φ:Nat→Nat) (h:QH) (w:World) (M:Zr) (r:Nat):Blk→Prop
 | .box ty cs=>∃ c:Array Value,w.heap[r]?=some (.cells c ty (0,0))∧Qi φ h w M cs c.toList
 | .arr ty S n=>(n=0∧w.heap[r]?=none)∨∃ (c:Array Value) (cap:Nat),w.heap[r]?=some (.cells c ty (0,0))∧c.size=cap * S∧n≤cap∧cap≤maxLen
 | .vec ty S es=>∃ (c:Array Value) (cap:Nat),w.heap[r]?=some (.cells c ty (0,0))∧c.size=cap * S∧es.length≤cap∧cap≤maxLen∧(∀ e ∈ es,e.length=S) ∧
   (∀ v ∈ c.toList,v.oneCell'=true)∧Qi φ h w M (es.flatten.map .p) (c.toList.take (es.length * S))
 | .lp T nf st pd=>∃ (tmps:Array Value) (d:Nat),w.heap[r]?=some (.loop { state:=st,pending:=pd,fn:=nf.fn,tmps:=tmps,params:=nf.ps,assign:=nf.assign,body:=nf.body,defers:=d })∧tmps.size=nf.N ∧
   ∀ t x,look T t=some x→t < nf.N∧Qe φ h w M x (tmps.getD t undef)
 | .mp es=>∃ (G:Array MapEntry) (clock:Nat),w.heap[r]?=some (.map G clock)∧G.toList.map (·.key)=es.map (·.1)∧Qi φ h w M (es.map fun p=>.p p.2) (G.toList.map (·.val))
 | .mf es=>∃ (G:Array MapEntry) (clock:Nat),w.heap[r]?=some (.map G clock)∧G.toList.map (·.key)=(TE es).map (fun e=>Iz e.2.1)∧Qi φ h w M ((TE es).map (·.2.2)) (G.toList.map (·.val))∧CO G clock
 | .mg G clock es=>w.heap[r]?=some (.map G clock)∧G.toList.map (·.key)=(TE es).map (fun e=>Iz e.2.1)∧Qi φ h w M ((TE es).map (·.2.2)) (G.toList.map (·.val))∧CO G clock
 | .it m clock seen=>w.heap[r]?=some (.mapIter (some (φ m)) clock seen clock)∧∃ k,h m=some k∧k.ob=some .mp
structure GM (φ:Nat→Nat) (h:QH) (w:World) (M0:Zr):Prop where
 w:mX w
 m:∀ g ∈ gfix,∀ o,¬ MM φ h M0 g o
structure Zz (φ:Nat→Nat) (h:QH) (w:World) (M0:Zr):Prop where
 inj:∀ b c,h b ≠ none→h c ≠ none→φ b=φ c→b=c
 blk:∀ b k,h b=some k→RelB φ h w (MM φ h M0) (φ b) k
 fr:∀ b,h b ≠ none→∀ o,¬ M0 (φ b) o
 lt:∀ r o,M0 r o→r < w.heap.size
 gm:GM φ h w M0
def AKept (w w':World) (r r':Nat) (ty:TypeId):Prop :=
 (w.heap[r]?=none→w'.heap[r']?=none)∧(w.heap[r]?=none∨r'=r∧∀ c,w.heap[r]?=some (.cells c ty (0,0))→∃ c',w'.heap[r]?=some (.cells c' ty (0,0))∧c'.size=c.size)
theorem Yp (e:r'=r) (h:w'.heap[r]?=w.heap[r]?):AKept w w' r r' ty:=by
 subst e;exact ⟨fun G=>h.trans G, .inr ⟨rfl,fun c hc=>⟨c,h.trans hc,rfl⟩⟩⟩
theorem NF (h:w.heap[r]?=none) (h':w'.heap[r']?=none):AKept w w' r r' ty:=⟨fun _=>h', .inl h⟩
theorem OY {l:Array α} (h:l[r]?=none):l.size≤r:=Array.getElem?_eq_none_iff.1 h
theorem ZG {l:Array α} (h:l.size≤r):l[r]?=none:=Array.getElem?_eq_none_iff.2 h
theorem AKept.trans {O:Nat} (hs:w.heap.size≤w'.heap.size) (a:AKept w w' r r' ty) (b:AKept w' w'' r' O ty):AKept w w'' r O ty:=by
 refine ⟨fun h=>b.1 (a.1 h),?_⟩;rcases a.2 with Z | ⟨Z,h8⟩
 ·exact .inl Z
 rcases b.2 with h9 | ⟨h9,Y⟩
 ·rw [Z] at h9;exact .inl (ZG (Nat.le_trans hs (OY h9)))
 refine .inr ⟨h9.trans Z,fun c hc=>?_⟩;obtain ⟨c',hc',aa⟩:=h8 c hc;rw [Z] at Y;obtain ⟨ab,J,G⟩:=Y c' hc';exact ⟨ab,J,G.trans aa⟩
structure QW (φ:Nat→Nat) (h:QH) (w:World) (φ':Nat→Nat) (h':QH) (w':World):Prop where
 os:w'.os=w.os
 tape:w'.tape=w.tape
 output:w'.output=w.output
 size:w.heap.size≤w'.heap.size
 same:∀ r,r < w.heap.size→(∀ b,h b ≠ none→φ b ≠ r)→w'.heap[r]?=w.heap[r]?
 cell:∀ r o,r < w.heap.size→¬ Cb φ h r o→w'.cell? ⟨r,o,none⟩=w.cell? ⟨r,o,none⟩
 mu:∀ r o,r < w.heap.size→Cb φ' h' r o→Cb φ h r o
 kb:∀ b ty cs,1000≤b→h b=some (.box ty cs)→(∃ cs',h' b=some (.box ty cs'))∧φ' b=φ b
 kt:∀ t ty S n,1000≤t→h t=some (.arr ty S n)→∃ n',h' t=some (.arr ty S n')∧n≤n' ∧
  (n'=n→AKept w w' (φ t) (φ' t) ty)
 kv:∀ t ty S es,1000≤t→h t=some (.vec ty S es)→∃ es',h' t=some (.vec ty S es')∧es.length≤es'.length ∧
  (es'.length=es.length→φ' t=φ t∧∀ c,w.heap[φ t]?=some (.cells c ty (0,0))→∃ c',w'.heap[φ t]?=some (.cells c' ty (0,0))∧c'.size=c.size)
 ko:∀ b k x,1000≤b→h b=some k→k.ob=some x→(∃ k',h' b=some k'∧k'.ob=some x)∧φ' b=φ b
theorem QW.refl (φ:Nat→Nat) (h:QH) (w:World):QW φ h w φ h w :=
 ⟨rfl,rfl,rfl,Nat.le_refl _,fun _ _ _=>rfl,fun _ _ _ _=>rfl,fun _ _ _ x=>x,fun _ _ _ _ x=>⟨⟨_,x⟩,rfl⟩,fun _ _ _ _ _ x=>⟨_,x,Nat.le_refl _,fun _=>Yp (rfl) rfl⟩,fun _ _ _ _ _ x=>⟨_,x,Nat.le_refl _,fun _=>⟨rfl,fun c hc=>⟨c,hc,rfl⟩⟩⟩,fun _ _ _ _ G J=>⟨⟨_,G,J⟩,rfl⟩⟩
theorem BU {k:Blk} (hb:h b=some k):∃ o,Cb φ h (φ b) o:=by
 cases k with
 | box ty cs=>exact ⟨0,b,_,hb,rfl,trivial⟩
 | arr ty S n=>exact ⟨n * S,b,_,hb,rfl,Nat.le_refl _⟩
 | vec ty S es=>exact ⟨0,b,_,hb,rfl,trivial⟩
 | lp T nf st pd=>exact ⟨0,b,_,hb,rfl,trivial⟩
 | mp es=>exact ⟨0,b,_,hb,rfl,trivial⟩
 | mf es=>exact ⟨0,b,_,hb,rfl,trivial⟩
 | mg J G es=>exact ⟨0,b,_,hb,rfl,trivial⟩
 | it m G O=>exact ⟨0,b,_,hb,rfl,trivial⟩
theorem GM.evol (G:GM φ h w M0) (E:QW φ h w φ' h' w'):GM φ' h' w' M0:=by
 have Y:∀ g ∈ gfix,∀ b,h b ≠ none→φ b ≠ g:=fun g J b hb e=>by
  obtain ⟨k,hk⟩:=AP.1 hb;obtain ⟨o,Z⟩:=BU (φ:=φ) hk;rw [e] at Z;exact G.m g J o (.inl Z)
 refine ⟨xz (fun g J=>E.same g (vS G.w g J) (Y g J)) G.w,fun g J o O=>?_⟩;rcases O with O | O
 ·exact G.m g J o (.inl (E.mu g o (vS G.w g J) O))
 ·exact G.m g J o (.inr O)
theorem GM.sub {J:Zr} (G:GM φ h w M0) (hs:∀ r o,MM φ' h' J r o→MM φ h M0 r o):GM φ' h' w J :=
 ⟨G.w,fun g Y o O=>G.m g Y o (hs g o O)⟩
theorem QW.trans {Y:Nat→Nat} {af:QH} (a:QW φ h w φ' h' w') (b:QW φ' h' w' Y af w''):QW φ h w Y af w'':=by
 have aa:∀ r,r < w.heap.size→r < w'.heap.size:=fun r G=>Nat.lt_of_lt_of_le G a.size
 refine ⟨b.os.trans a.os,b.tape.trans a.tape,b.output.trans a.output,Nat.le_trans a.size b.size,?_,?_,?_,?_,?_,?_,?_⟩
 ·intro r G ac;have J:=a.same r G ac;refine (b.same r (aa r G) ?_).trans J;intro c hc ai;cases hk:h' c with
  | none=>exact hc hk
  | some k =>
   obtain ⟨o,ho⟩:=BU (φ:=φ') hk;rw [ai] at ho;obtain ⟨b0,k0,ah,ak,_⟩:=a.mu r o G ho;exact ac b0 (by rw [ah]; simp) ak
 ·intro r o G hm;exact (b.cell r o (aa r G) (fun O=>hm (a.mu r o G O))).trans (a.cell r o G hm)
 ·intro r o G hm;exact a.mu r o G (b.mu r o (aa r G) hm)
 ·intro c ty cs hc hb;obtain ⟨⟨cs',J⟩,O⟩:=a.kb c ty cs hc hb;obtain ⟨h3,h4⟩:=b.kb c ty cs' hc J;exact ⟨h3,h4.trans O⟩
 ·intro t ty S n ht hb;obtain ⟨n',J,O,h3⟩:=a.kt t ty S n ht hb;obtain ⟨Z,h4,h5,h6⟩:=b.kt t ty S n' ht J;exact ⟨Z,h4,Nat.le_trans O h5,fun e=>(h3 zo).trans a.size (h6 zo)⟩
 ·intro t ty S n ht hb;obtain ⟨n',J,O,h3⟩:=a.kv t ty S n ht hb;obtain ⟨Z,h4,h5,h6⟩:=b.kv t ty S n' ht J;refine ⟨Z,h4,Nat.le_trans O h5,fun e=>?_⟩;obtain ⟨h7,h8⟩:=h3 zo;obtain ⟨h9,ae⟩:=h6 zo;refine ⟨h9.trans h7,fun c hc=>?_⟩;obtain ⟨c',hc',al⟩:=h8 c hc;rw [h7] at ae;obtain ⟨aj,ab,ad⟩:=ae c' hc';exact ⟨aj,ab,ad.trans al⟩
 ·intro c k x hc hb ho;obtain ⟨⟨k',J,O⟩,h3⟩:=a.ko c k x hc hb ho;obtain ⟨h4,h5⟩:=b.ko c k' x hc J O;exact ⟨h4,h5.trans h3⟩
theorem BV {o:Nat} (h:w.cell? ⟨r,o,none⟩=some v):r < w.heap.size:=by
 unfold World.cell? at h;dsimp only at h;split at h
 ·rename_i hc;exact (Ll.1 hc).1
 ·cases h
theorem ZP (hk:∀ r o v,w.cell? ⟨r,o,none⟩=some v→¬ M r o→w'.cell? ⟨r,o,none⟩=some v∧¬ M' r o) :
  (∀ (x:PV) (v:Value),QI w M x v→QI w' M' x v)∧(∀ (es:List (List PV)) (S r o:Nat),VN w M S r o es→VN w' M' S r o es)∧(∀ (cs:List PV) (r o:Nat),VM w M r o cs→VM w' M' r o cs):=by
 have key:∀ n:Nat,(∀ (x:PV),SizeOf.sizeOf x≤n→∀ v,QI w M x v→QI w' M' x v)∧(∀ (es:List (List PV)),SizeOf.sizeOf es≤n→∀ S r o,VN w M S r o es→VN w' M' S r o es)∧(∀ (cs:List PV),SizeOf.sizeOf cs≤n→∀ r o,VM w M r o cs→VM w' M' r o cs):=by
  intro n
  induction n with
  | zero =>
   refine ⟨fun x G=>?_,fun es G=>?_,fun cs G=>?_⟩
   ·cases x <;> simp at G
   ·cases es <;> simp at G
   ·cases cs <;> simp at G
  | succ n ih =>
   obtain ⟨Z,i2,i3⟩:=ih;refine ⟨fun x G=>?_,fun es G=>?_,fun cs G=>?_⟩
   ·intro v J;cases x with
    | val x=>simpa [QI] using J
    | sl S es =>
     simp only [QI] at J ⊢;rcases J with ⟨r,o,cap,Y,O⟩ | O
     ·exact .inl ⟨r,o,cap,Y,O.1,i2 es (by simp at G; omega) S r o O.2⟩
     ·exact .inr O
   ·intro S r o J;cases es with
    | nil=>simp [VN]
    | cons e es =>
     simp only [VN] at J ⊢;simp at G;exact ⟨⟨J.1.1,i3 e zo r o J.1.2⟩,i2 es zo S r _ J.2⟩
   ·intro r o J;cases cs with
    | nil=>simp [VM]
    | cons c cs =>
     simp only [VM] at J ⊢;simp at G;obtain ⟨⟨v,Y,O,h7,h3⟩,h4⟩:=J;obtain ⟨h5,h6⟩:=hk r o v Y O;exact ⟨⟨v,h5,h6,h7,Z c zo v h3⟩,i3 cs zo r _ h4⟩
 exact ⟨fun x v=>(key (SizeOf.sizeOf x)).1 x (Nat.le_refl _) v,fun es=>(key (SizeOf.sizeOf es)).2.1 es (Nat.le_refl _),fun cs=>(key (SizeOf.sizeOf cs)).2.2 cs (Nat.le_refl _)⟩
theorem QW.keeps (E:QW φ h w φ' h' w') (M0:Zr) (r o:Nat) (v:Value) (hc:w.cell? ⟨r,o,none⟩=some v) (O:¬ MM φ h M0 r o) :
  w'.cell? ⟨r,o,none⟩=some v∧¬ MM φ' h' M0 r o:=by
 have J:=BV hc;have G:¬ Cb φ h r o:=fun x=>O (.inl x)
 refine ⟨(E.cell r o J G).trans hc,fun x=>?_⟩;rcases x with x | x
 ·exact G (E.mu r o J x)
 ·exact O (.inr x)
structure VR (φ:Nat→Nat) (h:QH) (w:World) (φ':Nat→Nat) (h':QH) (w':World):Prop where
 b:∀ b ty cs,h b=some (.box ty cs)→(∃ ty' cs',h' b=some (.box ty' cs'))∧φ' b=φ b
 t:∀ t ty S n,h t=some (.arr ty S n)→∃ n',h' t=some (.arr ty S n')∧n≤n' ∧
  (n'=n→AKept w w' (φ t) (φ' t) ty)
 v:∀ t ty S es,h t=some (.vec ty S es)→∃ es',h' t=some (.vec ty S es')∧es.length≤es'.length ∧
  (es'.length=es.length→φ' t=φ t∧∀ c,w.heap[φ t]?=some (.cells c ty (0,0))→∃ c',w'.heap[φ t]?=some (.cells c' ty (0,0))∧c'.size=c.size)
 o:∀ b k x,h b=some k→k.ob=some x→(∃ k',h' b=some k'∧k'.ob=some x)∧φ' b=φ b
theorem QJ
  (hk:∀ r o v,w.cell? ⟨r,o,none⟩=some v→¬ M r o→w'.cell? ⟨r,o,none⟩=some v∧¬ M' r o) (X:VR φ h w φ' h' w') :
  (∀ (x:AV) (v:Value),Qe φ h w M x v→Qe φ' h' w' M' x v)∧(∀ (xs:List AV) (l:List Value),Qi φ h w M xs l→Qi φ' h' w' M' xs l):=by
 obtain ⟨kp,ke,kc⟩:=ZP hk
 have key:∀ n:Nat,(∀ (x:AV),SizeOf.sizeOf x≤n→∀ v,Qe φ h w M x v→Qe φ' h' w' M' x v)∧(∀ (xs:List AV),SizeOf.sizeOf xs≤n→∀ l,Qi φ h w M xs l→Qi φ' h' w' M' xs l):=by
  intro n
  induction n with
  | zero =>
   refine ⟨fun x hx=>?_,fun es hx=>?_⟩
   ·cases x <;> simp at hx
   ·cases es <;> simp at hx
  | succ n ih =>
   obtain ⟨i1,i2⟩:=ih;refine ⟨fun x hx v G=>?_,fun xs hx l G=>?_⟩
   ·cases x with
    | p x=>simp only [Qe] at G ⊢; exact kp x v G
    | tsl S es t =>
     simp only [Qe] at G ⊢;obtain ⟨J,ty,n,O,h3,h5⟩:=G;obtain ⟨n',Y,Z,e3⟩:=X.t t ty S n O;refine ⟨kp _ _ J,ty,n',Y,by omega,fun he=>?_⟩;have:n'=n:=by omega
     rcases h5 zo with ⟨g0,g1,g2⟩ | ⟨cap,c,g1,g2,g3,g6,g7⟩
     ·exact .inl ⟨by omega,g1,(e3 this).1 g2⟩
     rcases (e3 this).2 with e4 | ⟨e4,e5⟩
     ·rw [e4] at g2; cases g2
     obtain ⟨c',g4,g5⟩:=e5 c g2;exact .inr ⟨cap,c',by rw [e4,this]; exact g1,by rw [e4]; exact g4,by rw [g5,g3],by omega,g7⟩
    | ptr b off =>
     simp only [Qe] at G ⊢;obtain ⟨J,ty,cs,O⟩:=G;obtain ⟨Y,Z⟩:=X.b b ty cs O;exact ⟨by rw [Z]; exact J,Y⟩
    | bsl b n =>
     simp only [Qe] at G ⊢;obtain ⟨J,ty,cs,O⟩:=G;obtain ⟨Y,Z⟩:=X.b b ty cs O;exact ⟨by rw [Z]; exact J,Y⟩
    | sfp b =>
     simp only [Qe] at G ⊢;obtain ⟨J,ty,cs,O⟩:=G;obtain ⟨Y,Z⟩:=X.b b ty cs O;exact ⟨by rw [Z]; exact J,Y⟩
    | eptr cs =>
     simp only [Qe] at G ⊢;obtain ⟨r,o,J,O⟩:=G;exact ⟨r,o,J,kc cs r o O⟩
    | agg cs =>
     simp only [Qe] at G ⊢;obtain ⟨l,J,O⟩:=G;exact ⟨l,J,i2 cs (by simp at hx; omega) l O⟩
    | tup cs =>
     simp only [Qe] at G ⊢;obtain ⟨l,J,O⟩:=G;exact ⟨l,J,i2 cs (by simp at hx; omega) l O⟩
    | fn f a b =>
     simp only [Qe] at G ⊢;obtain ⟨l,m,J,O,h3⟩:=G;simp at hx;exact ⟨l,m,J,i2 a zo l O,i2 b zo m h3⟩
    | ifc t x =>
     simp only [Qe] at G ⊢;obtain ⟨y,J,O⟩:=G;exact ⟨y,J,i1 x (by simp at hx; omega) y O⟩
    | vnil=>simp only [Qe] at G ⊢; exact G
    | vsl S t n =>
     simp only [Qe] at G ⊢;obtain ⟨J,ty,es,O,h3,h5⟩:=G;obtain ⟨es',Y,Z,e3⟩:=X.v t ty S es O;refine ⟨J,ty,es',Y,by omega,fun he=>?_⟩;have:es'.length=es.length:=by omega
     obtain ⟨e4,e5⟩:=e3 this;obtain ⟨cap,c,g1,g2,g3,g6,g7⟩:=h5 zo;obtain ⟨c',g4,g5⟩:=e5 c g2;exact ⟨cap,c',by rw [e4]; exact g1,by rw [e4]; exact g4,by rw [g5,g3],g6,g7⟩
    | vptr t n k f =>
     simp only [Qe] at G ⊢;obtain ⟨J,ty,S,es,O,h3,h5⟩:=G;obtain ⟨es',Y,Z,e3⟩:=X.v t ty S es O;refine ⟨J,ty,S,es',Y,by omega,fun he=>?_⟩;obtain ⟨e4,e5⟩:=e3 zo;rw [e4]; exact h5 zo
    | yv b =>
     simp only [Qe] at G ⊢;obtain ⟨J,k,T,nf,O,h3⟩:=G;obtain ⟨⟨k',Y,Z⟩,e3⟩:=X.o b k _ O h3;exact ⟨by rw [e3]; exact J,k',T,nf,Y,Z⟩
    | mv b =>
     simp only [Qe] at G ⊢;obtain ⟨J,k,O,h3⟩:=G;obtain ⟨⟨k',Y,Z⟩,e3⟩:=X.o b k _ O h3;exact ⟨by rw [e3]; exact J,k',Y,Z⟩
    | iv b =>
     simp only [Qe] at G ⊢;obtain ⟨J,k,O,h3⟩:=G;obtain ⟨⟨k',Y,Z⟩,e3⟩:=X.o b k _ O h3;exact ⟨by rw [e3]; exact J,k',Y,Z⟩
   ·cases xs with
    | nil=>simpa [Qi] using G
    | cons x xs =>
     simp only [Qi] at G ⊢;simp at hx;obtain ⟨y,ys,J,O,h3⟩:=G;exact ⟨y,ys,J,i1 x zo y O,i2 xs zo ys h3⟩
 exact ⟨fun x v=>(key (SizeOf.sizeOf x)).1 x (Nat.le_refl _) v,fun xs l=>(key (SizeOf.sizeOf xs)).2 xs (Nat.le_refl _) l⟩
def upd (h:QH) (b:Nat) (k:Blk):QH:=fun x=>if b=x then some k else h x
structure St where
 T:List (Nat × AV)
 H:List (Nat × Blk)
variable {K:St→Prop}{s s':St}
def St.put (s:St) (d:Option Tmp) (x:AV):St:=match d with | some d=>⟨(d,x) :: s.T,s.H⟩ | none=>s
structure DB where
 l:List Deferred
 base:Nat
variable {D:DB}
def Marks (φ:Nat→Nat) (D:DB) (h:QH) (a:Act) (w:World):Prop :=
 D.base≤w.heap.size∧∃ G:List Nat,a.defers=(G.map fun r=>({ target:=.collected r,args:=#[] }:Deferred))++D.l∧G.Nodup∧∀ r ∈ G,D.base≤r∧w.heap[r]?=some (.deferred (some []))∧∀ b,h b ≠ none→φ b ≠ r
structure Q8 (φ:Nat→Nat) (M0:Zr) (N:Nat) (D:DB) (T:Nat→Option AV) (h:QH) (a:Act) (w:World):Prop where
 dfs:Marks φ D h a w
 siz:a.tmps.size=N
 hp:Zz φ h w M0
 tm:∀ t x,T t=some x→t < N∧Qe φ h w (MM φ h M0) x (a.tmps.getD t undef)
inductive AX where
 | normal
 | exit (id:Nat)
 | ret
 | panic (x:AV)
variable {Q:AX→St→Prop}
def J7 (φ:Nat→Nat) (h:QH) (w:World) (M:Zr):AX→Exit→Prop
 | .normal,e=>e=.normal
 | .exit i,e=>e=.exit i
 | .ret,e=>e=.ret
 | .panic x,e=>∃ v,e=.panic [{ v:=v,recovered:=false }]∧Qe φ h w M x v
def Post (N:Nat) (D:DB) (Q:AX→St→Prop) (φ:Nat→Nat) (M0:Zr) (h:QH) (w:World):Exit→Act→World→Prop:=fun e G w' =>
 ∃ φ' x s',Q x s'∧Q8 φ' M0 N D (look s'.T) (look s'.H) G w'∧QW φ h w φ' (look s'.H) w'∧J7 φ' (look s'.H) w' (MM φ' (look s'.H) M0) x e
abbrev wd (ro:Option Nat):Fence:={ Fence.wide with round:=ro }
def Ex (P:Program) (N:Nat) (ro:Option Nat) (c:Code) (s:St) (Q:AX→St→Prop):Prop :=
 ∀ φ M0 D a w,Q8 φ M0 N D (look s.T) (look s.H) a w→c.wpIn (wd ro) 0 P (Post N D Q φ M0 (look s.H) w) a w
theorem Post.trans {e:Exit}
  (E:QW φ h w φ' h' w') (p:Post N D Q φ' M0 h' w' e a w''):Post N D Q φ M0 h w e a w'':=by
 obtain ⟨G,x,s',J,Z,O,Y⟩:=p;exact ⟨G,x,s',J,Z,E.trans O,Y⟩
theorem vU {Q':AX→St→Prop} (h:Ex P N ro c s Q) (Y:∀ x s',Q x s'→Q' x s'):Ex P N ro c s Q' :=
 fun φ M0 D a w r=>wpIn_mono (h φ M0 D a w r) fun _ _ _ ⟨φ',x,s',G,Z,J,O⟩=>⟨φ',x,s',Y _ _ G,Z,J,O⟩
def andThen (K:St→Prop) (Q:AX→St→Prop):AX→St→Prop
 | .normal,s=>K s
 | x,s=>Q x s
theorem vV {x y:Code} (h:Ex P N ro x s (andThen (fun s'=>Ex P N ro y s' Q) Q)):Ex P N ro (.seq x y) s Q:=by
 intro φ M0 D a w r;refine wpIn_seq (wpIn_mono (h φ M0 D a w r) ?_);rintro e a' w' ⟨φ',k,s',J,Y,O,G⟩;cases k with
 | normal =>
  simp only [J7] at G;subst G;exact wpIn_mono (J φ' M0 D a' w' Y) fun _ _ _ p=>p.trans O
 | exit i=>simp only [J7] at G; subst G; exact ⟨φ', .exit i,s',J,Y,O,rfl⟩
 | ret=>simp only [J7] at G; subst G; exact ⟨φ', .ret,s',J,Y,O,rfl⟩
 | panic v=>obtain ⟨u,Z,h6⟩:=G; subst Z; exact ⟨φ', .panic v,s',J,Y,O,u,rfl,h6⟩
theorem Qc7 (h:Q .normal s):Ex P N ro .skip s Q :=
 fun φ _ _ _ w r=>wpIn_skip ⟨φ, .normal,s,h,r,QW.refl _ _ _,rfl⟩
theorem Qgo (h:Q .ret s):Ex P N ro .ret s Q :=
 fun φ _ _ _ w r=>wpIn_ret ⟨φ, .ret,s,h,r,QW.refl _ _ _,rfl⟩
theorem Qc8 (h:Q (.exit id) s):Ex P N ro (.exit id) s Q :=
 fun φ _ _ _ w r=>wpIn_exit ⟨φ, .exit id,s,h,r,QW.refl _ _ _,rfl⟩
theorem Qar {l:Nat} (h:Q .normal s):Ex P N ro (.label l) s Q :=
 fun φ _ _ _ w r=>wpIn_label ⟨φ, .normal,s,h,r,QW.refl _ _ _,rfl⟩
def inBlock (id:Nat) (Q:AX→St→Prop):AX→St→Prop
 | .exit i,s=>if i=id then Q .normal s else Q (.exit i) s
 | x,s=>Q x s
theorem Qas (h:Ex P N ro c s (inBlock id Q)):Ex P N ro (.block id c) s Q:=by
 intro φ M0 D a w r;refine wpIn_block (wpIn_mono (h φ M0 D a w r) ?_);rintro e a' w' ⟨φ',k,s',G,Y,O,J⟩;cases k with
 | normal=>simp only [J7] at J; subst J; exact ⟨φ', .normal,s',G,Y,O,rfl⟩
 | exit i =>
  simp only [J7] at J;subst J;simp only [inBlock] at G;by_cases hi:i=id
  ·simp only [hi,if_true] at G;show Exit.inBlock id _ _ _ _;simp only [Exit.inBlock,hi,if_true];exact ⟨φ', .normal,s',G,Y,O,rfl⟩
  ·simp only [hi,if_false] at G;show Exit.inBlock id _ _ _ _;simp only [Exit.inBlock,hi,if_false];exact ⟨φ', .exit i,s',G,Y,O,rfl⟩
 | ret=>simp only [J7] at J; subst J; exact ⟨φ', .ret,s',G,Y,O,rfl⟩
 | panic v=>obtain ⟨u,Z,h6⟩:=J; subst Z; exact ⟨φ', .panic v,s',G,Y,O,u,rfl,h6⟩
theorem XG {b:Frame} {k:List Item} {cs:List Frame}:step P (lone (b.atR a (.code (.scope c) :: k)) cs w)=.next (lone (b.atR a (.code c :: .inScope c :: k)) cs w) :=
 step_lone_go (by simp [stepG,stepG.exec,Frame.atR])
theorem zV {b:Frame} {k:List Item} {cs:List Frame}:step P (lone (b.atR a (.inScope c :: k)) cs w)=.next (lone (b.atR a k) cs w) :=
 step_lone_go (by simp [stepG,stepG.exec,Frame.atR])
theorem mY {F:Fence} {Q:Exit→Act→World→Prop} (h:c.wpIn F n P (Exit.noGoto Q) a w):(Code.scope c).wpIn F n P Q a w:=by
 intro b k cs aa hb hr;have h0:(lone (b.atR a (.code (.scope c) :: k)) cs w).fenced P F:=fenced_calm hb hr rfl;obtain ⟨e,J,O,Y,G⟩:=h b (.inScope c :: k) cs aa hb hr;cases e with
 | normal=>exact ⟨.normal,J,O,Y, .head h0 XG (StepsIn.trans G (.one (fenced_calm hb hr rfl) zV))⟩
 | exit id =>
  refine ⟨.exit id,J,O,Y,fun k' hk=>.head h0 XG (G.1 k' (by simp [exitTo,hk])),fun h1 h2=>?_⟩;obtain ⟨Z,g1,g2⟩:=G.2 h1 (by simp [exitTo,h2]);exact ⟨Z,g1, .head h0 XG g2⟩
 | goto l=>exact Y.elim
 | ret=>exact ⟨_,J,O,Y, .of_steps (.one h0 XG) G⟩
 | panic ch=>exact ⟨_,J,O,Y, .of_steps (.one h0 XG) G⟩
 | outgrown=>exact ⟨_,J,O,Y, .of_steps (.one h0 XG) G⟩
theorem Qat (h:Ex P N ro c s Q):Ex P N ro (.scope c) s Q:=by
 intro φ M0 D a w r;refine mY (wpIn_mono (h φ M0 D a w r) ?_);rintro e a' w' ⟨φ',k,s',J,Y,O,G⟩;cases k with
 | normal=>simp only [J7] at G; subst G; exact ⟨φ', .normal,s',J,Y,O,rfl⟩
 | exit i=>simp only [J7] at G; subst G; exact ⟨φ', .exit i,s',J,Y,O,rfl⟩
 | ret=>simp only [J7] at G; subst G; exact ⟨φ', .ret,s',J,Y,O,rfl⟩
 | panic v=>obtain ⟨u,Z,h6⟩:=G; subst Z; exact ⟨φ', .panic v,s',J,Y,O,u,rfl,h6⟩
def zR:Value→AV
 | .agg cs=>.agg (cs.toList.map fun c=>.p (.val c))
 | v=>.p (.val v)
def Zc (T:Nat→Option AV):Operand→Option AV
 | .tmp t=>T t
 | .const v=>some (zR v)
 | .func f=>some (.p (.val (.func (.func f) #[] #[])))
 | .global _=>none
theorem FD {φ:Nat→Nat} {h:QH} {w:World} {M:Zr}:∀ l:List Value,Qi φ h w M (l.map fun c=>.p (.val c)) l
 | []=>by simp [Qi]
 | x :: l=>by simp only [List.map_cons,Qi]; exact ⟨x,l,rfl,by simp [Qe,QI],FD l⟩
theorem Wp (v:Value):Qe φ h w M (zR v) v:=by
 cases v with
 | agg cs=>simp only [zR,Qe]; exact ⟨cs.toList,by simp,FD _⟩
 | _=>simp [zR,Qe,QI]
theorem Q8.ev (r:Q8 φ M0 N D T h a w) {v:AV} (G:Zc T x=some v) :
  Qe φ h w (MM φ h M0) v (a.eval x):=by
 cases x with
 | tmp t=>exact (r.tm t v G).2
 | const c=>simp only [Zc,QO] at G; subst G; exact Wp _
 | func f=>simp only [Zc,QO] at G; subst G; simp [Qe,QI,Act.eval]
 | global g=>cases G
theorem vW {c:Operand} {x y:Code} (b:Bool) (hc:Zc (look s.T) c=some (.p (.val (.bool b))))
  (J:b=true→Ex P N ro x s Q) (hf:b=false→Ex P N ro y s Q):Ex P N ro (.cond c x y) s Q:=by
 intro φ M0 D a w r;have G:=r.ev hc;simp only [Qe,QI] at G;cases b
 ·exact wpIn_cond_false G (hf rfl φ M0 D a w r)
 ·exact wpIn_cond_true G (J rfl φ M0 D a w r)
def Weak (N:Nat) (s s':St):Prop:=∀ φ M0 D a w,Q8 φ M0 N D (look s.T) (look s.H) a w→∃ φ',Q8 φ' M0 N D (look s'.T) (look s'.H) a w∧QW φ (look s.H) w φ' (look s'.H) w
theorem Weak.refl (N:Nat) (s:St):Weak N s s:=fun φ _ _ _ _ r=>⟨φ,r,QW.refl _ _ _⟩
theorem Weak.trans {G:St} (a:Weak N s s') (b:Weak N s' G):Weak N s G:=fun φ M0 D Y w r =>
 let ⟨J,r1,e1⟩:=a φ M0 D Y w r; let ⟨O,r2,Z⟩:=b J M0 D Y w r1; ⟨O,r2,e1.trans Z⟩
theorem TK (O:Weak N s s') (h:Ex P N ro c s' Q):Ex P N ro c s Q:=by
 intro φ M0 D a w r;obtain ⟨G,r1,J⟩:=O φ M0 D a w r;exact wpIn_mono (h G M0 D a w r1) fun _ _ _ p=>p.trans J
theorem Qc9 {ι:Type} (S:ι→St) (O:ι→Nat) (i0:ι)
  (round:∀ i,Ex P N ro c (S i) (andThen (fun s'=>∃ j,O j < O i∧Weak N s' (S j)) Q)):Ex P N ro (.loop c) (S i0) Q:=by
 intro φ M0 D a w r;refine wpIn_loop_ghost (fun n a' w'=>∃ i φ',O i=n∧Q8 φ' M0 N D (look (S i).T) (look (S i).H) a' w'∧QW φ (look (S i0).H) w φ' (look (S i).H) w') (O i0) ⟨i0,φ,rfl,r,QW.refl _ _ _⟩ ?_;rintro n a' w' ⟨i,φ',rfl,r',E⟩;refine wpIn_mono (round i φ' M0 D a' w' r') ?_;rintro e ac w'' ⟨G,k,s',Y,h2,Z,J⟩;cases k with
 | normal =>
  simp only [J7] at J;subst J;obtain ⟨j,hj,aa⟩:=Y;obtain ⟨ab,r2,e2⟩:=aa G M0 D ac w'' h2;exact ⟨O j,hj,j,ab,rfl,r2,(E.trans Z).trans e2⟩
 | exit i=>simp only [J7] at J; subst J; exact ⟨G, .exit i,s',Y,h2,E.trans Z,rfl⟩
 | ret=>simp only [J7] at J; subst J; exact ⟨G, .ret,s',Y,h2,E.trans Z,rfl⟩
 | panic v=>obtain ⟨u,h5,h6⟩:=J; subst h5; exact ⟨G, .panic v,s',Y,h2,E.trans Z,u,rfl,h6⟩
theorem Marks.keep (m:Marks φ D h a w) (E:QW φ h w φ' h' w'):Marks φ' D h' a w':=by
 obtain ⟨h0,ms,Z,h2,h3⟩:=m;refine ⟨Nat.le_trans h0 E.size,ms,Z,h2,fun r hr=>?_⟩;obtain ⟨g0,g1,g2⟩:=h3 r hr;have hlt:r < w.heap.size:=(Ll.1 g1).1;refine ⟨g0,(E.same r hlt g2).trans g1,fun b hb e=>?_⟩;cases hk:h' b with
 | none=>exact hb hk
 | some k =>
  obtain ⟨o,O⟩:=BU (φ:=φ') hk;rw [e] at O;obtain ⟨Y,k0,G,J,_⟩:=E.mu r o hlt O;exact g2 Y (by rw [G]; simp) J
theorem Q8.keep (r:Q8 φ M0 N D T h a w)
  (E:QW φ h w φ' h' w') (X:VR φ h w φ' h' w') (hp:Zz φ' h' w' M0):Q8 φ' M0 N D T h' a w' :=
 ⟨r.dfs.keep E,r.siz,hp,fun t x G=>⟨(r.tm t x G).1,(QJ (E.keeps M0) X).1 _ _ (r.tm t x G).2⟩⟩
theorem VR.trans {G:Nat→Nat} {ad:QH} (hs:w.heap.size≤w'.heap.size) (a:VR φ h w φ' h' w') (b:VR φ' h' w' G ad w''):VR φ h w G ad w'':=by
 refine ⟨?_,?_,?_,?_⟩
 ·intro c ty cs hc;obtain ⟨⟨af,cs',O⟩,h2⟩:=a.b c ty cs hc;obtain ⟨Z,Y⟩:=b.b c af cs' O;exact ⟨Z,Y.trans h2⟩
 ·intro t ty S n ht;obtain ⟨n',O,h2,Z⟩:=a.t t ty S n ht;obtain ⟨J,Y,h5,h6⟩:=b.t t ty S n' O;exact ⟨J,Y,Nat.le_trans h2 h5,fun e=>(Z zo).trans hs (h6 zo)⟩
 ·intro t ty S n ht;obtain ⟨n',O,h2,Z⟩:=a.v t ty S n ht;obtain ⟨J,Y,h5,h6⟩:=b.v t ty S n' O;refine ⟨J,Y,Nat.le_trans h2 h5,fun e=>?_⟩;obtain ⟨h7,h8⟩:=Z zo;obtain ⟨h9,ac⟩:=h6 zo;refine ⟨h9.trans h7,fun c hc=>?_⟩;obtain ⟨c',hc',ah⟩:=h8 c hc;rw [h7] at ac;obtain ⟨ae,aa,ab⟩:=ac c' hc';exact ⟨ae,aa,ab.trans ah⟩
 ·intro c k x hb ho;obtain ⟨⟨k',O,h2⟩,Z⟩:=a.o c k x hb ho;obtain ⟨Y,h5⟩:=b.o c k' x O h2;exact ⟨Y,h5.trans Z⟩
theorem VR.refl (φ:Nat→Nat) (h:QH) (w:World):VR φ h w φ h w :=
 ⟨fun _ _ _ x=>⟨⟨_,_,x⟩,rfl⟩,fun _ _ _ _ x=>⟨_,x,Nat.le_refl _,fun _=>Yp (rfl) rfl⟩,fun _ _ _ _ x=>⟨_,x,Nat.le_refl _,fun _=>⟨rfl,fun c hc=>⟨c,hc,rfl⟩⟩⟩,fun _ _ _ G J=>⟨⟨_,G,J⟩,rfl⟩⟩
theorem Q8.put (r:Q8 φ M0 N D (look s.T) (look s.H) a w) {d:Option Tmp} {x:AV}
  (J:∀ t,d=some t→t < N) (O:Qe φ (look s.H) w (MM φ (look s.H) M0) x v):Q8 φ M0 N D (look (s.put d x).T) (look (s.put d x).H) (a.put d v) w:=by
 cases d with
 | none=>exact r
 | some d =>
  have hlt:=J d rfl;refine ⟨r.dfs,by simp [Act.put,r.siz],r.hp,fun t y G=>?_⟩;simp only [St.put,look] at G;by_cases e:d=t
  ·simp only [e,if_true,QO] at G;subst G;refine ⟨e ▸ hlt,?_⟩;have:(a.put (some d) v).tmps.getD t undef=v:=by subst e; simp [Act.put,r.siz,hlt]
   rw [this]; exact O
  ·simp only [e,if_false] at G;refine ⟨(r.tm t y G).1,?_⟩;have:(a.put (some d) v).tmps.getD t undef=a.tmps.getD t undef:=by simp [Act.put,Array.getElem?_setIfInBounds_ne e]
   rw [this]; exact (r.tm t y G).2
theorem BX (G:w'.heap=w.heap) (Y:w'.os=w.os) (J:w'.tape=w.tape) (hu:w'.output=w.output):QW φ h w φ h w' :=
 ⟨Y,J,hu,by rw [G]; exact Nat.le_refl _,fun _ _ _=>by rw [G],fun _ _ _ _=>by simp [World.cell?,G],fun _ _ _ x=>x,fun _ _ _ _ x=>⟨⟨_,x⟩,rfl⟩,fun _ _ _ _ _ x=>⟨_,x,Nat.le_refl _,fun _=>Yp (rfl) (by rw [G])⟩,fun _ _ _ _ _ x=>⟨_,x,Nat.le_refl _,fun _=>⟨rfl,fun c hc=>⟨c,by rw [G]; exact hc,rfl⟩⟩⟩,fun _ _ _ _ O Z=>⟨⟨_,O,Z⟩,rfl⟩⟩
theorem RB (G:w'.heap=w.heap):VR φ h w φ h w' :=
 ⟨fun _ _ _ x=>⟨⟨_,_,x⟩,rfl⟩,fun _ _ _ _ x=>⟨_,x,Nat.le_refl _,fun _=>Yp (rfl) (by rw [G])⟩,fun _ _ _ _ x=>⟨_,x,Nat.le_refl _,fun _=>⟨rfl,fun c hc=>⟨c,by rw [G]; exact hc,rfl⟩⟩⟩,fun _ _ _ O J=>⟨⟨_,O,J⟩,rfl⟩⟩
theorem ZI
  (Z:∀ r o v,w.cell? ⟨r,o,none⟩=some v→¬ M r o→w'.cell? ⟨r,o,none⟩=some v∧¬ M' r o) (X:VR φ h w φ' h' w')
  (Y:w'.heap[r']?=w.heap[r]?) {k:Blk} (hb:RelB φ h w M r k):RelB φ' h' w' M' r' k:=by
 cases k with
 | box ty cs=>obtain ⟨c,G,J⟩:=hb; exact ⟨c,Y.trans G,(QJ Z X).2 _ _ J⟩
 | arr ty S n =>
  rcases hb with ⟨h0,G⟩ | ⟨c,cap,G,J⟩
  ·exact .inl ⟨h0,Y.trans G⟩
  ·exact .inr ⟨c,cap,Y.trans G,J⟩
 | vec ty S es=>obtain ⟨c,cap,G,J,O,h4,h5,h6,h7⟩:=hb; exact ⟨c,cap,Y.trans G,J,O,h4,h5,h6,(QJ Z X).2 _ _ h7⟩
 | lp T nf st pd=>obtain ⟨tmps,d,G,J,O⟩:=hb; exact ⟨tmps,d,Y.trans G,J,fun t x ht=>⟨(O t x ht).1,(QJ Z X).1 _ _ (O t x ht).2⟩⟩
 | mp es=>obtain ⟨en,cl,G,J,O⟩:=hb; exact ⟨en,cl,Y.trans G,J,(QJ Z X).2 _ _ O⟩
 | mf es=>obtain ⟨en,cl,G,J,O,h4⟩:=hb; exact ⟨en,cl,Y.trans G,J,(QJ Z X).2 _ _ O,h4⟩
 | mg en cl es=>obtain ⟨G,J,O,h4⟩:=hb; exact ⟨Y.trans G,J,(QJ Z X).2 _ _ O,h4⟩
 | it m cl sn =>
  obtain ⟨G,k,J,O⟩:=hb;obtain ⟨⟨k',e1,e2⟩,e3⟩:=X.o m k _ J O;exact ⟨Y.trans (by rw [e3]; exact G),k',e1,e2⟩
theorem SG (G:w'.heap=w.heap) (E:QW φ h w φ h w') (r:Zz φ h w M0):Zz φ h w' M0 :=
 ⟨r.inj,fun b k hb=>ZI (E.keeps M0) (RB G) (by rw [G]) (r.blk b k hb),r.fr,fun x o J=>by rw [G]; exact r.lt x o J,r.gm.evol E⟩
def Qu (φ:Nat→Nat) (b r:Nat):Nat→Nat:=fun x=>if b=x then r else φ x
theorem BZ (r:Zz φ h w M0) {k:Blk} (hb:h b=some k) (J:∀ ty S,k ≠ .arr ty S 0):φ b < w.heap.size:=by
 have:=r.blk b k hb;cases k with
 | box ty cs=>obtain ⟨c,G,_⟩:=this; exact (Ll.1 G).1
 | arr ty S n =>
  rcases this with ⟨h0,_⟩ | ⟨c,cap,G,_⟩
  ·exact absurd (by rw [h0]) (J ty S)
  ·exact (Ll.1 G).1
 | vec ty S es=>obtain ⟨c,cap,G,_⟩:=this; exact (Ll.1 G).1
 | lp T nf st pd=>obtain ⟨c,cap,G,_⟩:=this; exact (Ll.1 G).1
 | mp es=>obtain ⟨c,cap,G,_⟩:=this; exact (Ll.1 G).1
 | mf es=>obtain ⟨c,cap,G,_⟩:=this; exact (Ll.1 G).1
 | mg Y O es=>exact (Ll.1 this.1).1
 | it m O Z=>exact (Ll.1 this.1).1
theorem xA (r:Zz φ h w M0) {S:Nat} (hb:h b=some (.vec ty S es)):φ b < w.heap.size :=
 BZ r hb fun _ _ e=>by cases e
def Clear (φ:Nat→Nat) (h:QH) (w:World) (K:Nat):Prop:=∀ b,h b ≠ none→φ b < w.heap.size∨w.heap.size+K≤φ b
theorem Clear.lt {K:Nat} (O:Clear φ h w K) (r:Zz φ h w M0) (hs:w'.heap.size≤w.heap.size+K) (G:∀ x,x < w.heap.size→w'.heap[x]?=w.heap[x]?) (hb:h b ≠ none) :
  w'.heap[φ b]?=w.heap[φ b]?:=by
 rcases O b hb with J | J
 ·exact G _ J
 ·rw [ZG (by omega:w'.heap.size≤φ b),ZG (by omega:w.heap.size≤φ b)]
def KC (φ:Nat→Nat) (n K:Nat):Nat→Nat:=fun b=>if φ b < n then φ b else φ b+K
theorem FE (r:Zz φ h w M0) (K:Nat) {k:Blk} (hb:h b=some k) (G:∀ ty S,k ≠ .arr ty S 0):KC φ w.heap.size K b=φ b:=by
 have:=BZ r hb G;simp [KC,this]
theorem xB {K:Nat}:w.heap[KC φ w.heap.size K b]?=w.heap[φ b]?:=by
 unfold KC;by_cases e:φ b < w.heap.size
 ·simp only [e,if_true]
 ·simp only [e,if_false];rw [ZG zo,ZG zo]
theorem xD (r:Zz φ h w M0) (K:Nat):QW φ h w (KC φ w.heap.size K) h w∧VR φ h w (KC φ w.heap.size K) h w:=by
 have J:∀ t ty S n,h t=some (.arr ty S n)→∃ n',h t=some (.arr ty S n')∧n≤n' ∧
  (n'=n→AKept w w (φ t) (KC φ w.heap.size K t) ty):=by
  intro t ty S n J;refine ⟨n,J,Nat.le_refl _,fun _=>?_⟩;by_cases e:φ t < w.heap.size
  ·exact Yp (by simp [KC,e]) rfl
  ·exact NF (ZG zo) (by rw [xB]; exact ZG zo)
 have O:∀ b k x,h b=some k→k.ob=some x→KC φ w.heap.size K b=φ b:=fun b k x hb O=>FE r K hb (fun ty S e=>by subst e; cases O)
 refine ⟨⟨rfl,rfl,rfl,Nat.le_refl _,fun _ _ _=>rfl,fun _ _ _ _=>rfl,?_,?_,fun t ty S n _ Y=>J t ty S n Y,?_,?_⟩,?_,J,?_,?_⟩
 ·rintro x o G ⟨b,k,Y,Z,h3⟩;refine ⟨b,k,Y,?_,h3⟩;unfold KC at Z;by_cases e:φ b < w.heap.size
  ·simpa only [e,if_true] using Z
  ·simp only [e,if_false] at Z; omega
 ·intro b ty cs _ hb; exact ⟨⟨cs,hb⟩,FE r K hb (fun _ _ e=>by cases e)⟩
 ·intro t ty S es _ hb; exact ⟨es,hb,Nat.le_refl _,fun _=>⟨FE r K hb (fun _ _ e=>by cases e),fun c hc=>⟨c,hc,rfl⟩⟩⟩
 ·intro b k x _ hb G; exact ⟨⟨k,hb,G⟩,O b k x hb G⟩
 ·intro b ty cs hb; exact ⟨⟨ty,cs,hb⟩,FE r K hb (fun _ _ e=>by cases e)⟩
 ·intro t ty S es hb; exact ⟨es,hb,Nat.le_refl _,fun _=>⟨FE r K hb (fun _ _ e=>by cases e),fun c hc=>⟨c,hc,rfl⟩⟩⟩
 ·intro b k x hb G; exact ⟨⟨k,hb,G⟩,O b k x hb G⟩
theorem tq (r:Zz φ h w M0) (K:Nat):Zz (KC φ w.heap.size K) h w M0:=by
 obtain ⟨E,X⟩:=xD r K;refine ⟨?_,fun b k hb=>ZI (E.keeps M0) X xB (r.blk b k hb),?_,r.lt,r.gm.evol E⟩
 ·intro b c hb hc e;refine r.inj b c hb hc ?_;unfold KC at e;by_cases O:φ b < w.heap.size <;> by_cases J:φ c < w.heap.size
  ·simpa only [O,J,if_true] using e
  ·simp only [O,J,if_true,if_false] at e; omega
  ·simp only [O,J,if_true,if_false] at e; omega
  ·simp only [O,J,if_false] at e; omega
 ·intro b hb o G;unfold KC at G;by_cases e:φ b < w.heap.size
  ·simp only [e,if_true] at G; exact r.fr b hb o G
  ·simp only [e,if_false] at G; have:=r.lt _ _ G; omega
theorem mZ (K:Nat):Clear (KC φ w.heap.size K) h w K:=by
 intro b _;unfold KC;by_cases e:φ b < w.heap.size
 ·simp only [e,if_true]; exact .inl trivial
 ·simp only [e,if_false]; right; omega
theorem Q8.lift (r:Q8 φ M0 N D T h a w) (K:Nat) :
  Q8 (KC φ w.heap.size K) M0 N D T h a w∧QW φ h w (KC φ w.heap.size K) h w∧VR φ h w (KC φ w.heap.size K) h w∧Clear (KC φ w.heap.size K) h w K:=by
 obtain ⟨E,X⟩:=xD r.hp K;exact ⟨r.keep E X (tq r.hp K),E,X,mZ K⟩
theorem XY {k:Blk} {o:Obj} (O:w'.heap=w.heap.push o) (Y:w'.os=w.os) (ht:w'.tape=w.tape) (hu:w'.output=w.output)
  (hb:h b=none) (r:Zz φ h w M0) (hC:Clear φ h w 1):QW φ h w (Qu φ b w.heap.size) (upd h b k) w'∧VR φ h w (Qu φ b w.heap.size) (upd h b k) w':=by
 have G:∀ x,x < w.heap.size→w'.heap[x]?=w.heap[x]?:=fun x Z=>by rw [O,Array.getElem?_push,if_neg zo]
 have hne:∀ c q,h c=some q→¬ b=c:=fun c q hc e=>by rw [e] at hb; rw [hb] at hc; cases hc
 refine ⟨⟨Y,ht,hu,by rw [O]; simp,fun x Z _=>G x Z,fun x o Z _=>by simp [World.cell?,G x Z],?_,?_,?_,?_,?_⟩,?_,?_,?_,?_⟩
 ·rintro x y Z ⟨c,q,h1,h2,h3⟩;simp only [upd,Qu] at h1 h2;by_cases e:b=c
  ·simp only [e,if_true] at h2; omega
  ·simp only [e,if_false] at h1 h2; exact ⟨c,q,h1,h2,h3⟩
 ·intro c ty cs _ hc;have:=hne c _ hc;exact ⟨⟨cs,by simp [upd,this,hc]⟩,by simp [Qu,this]⟩
 ·intro t ty S n _ hc;have:=hne t _ hc;exact ⟨n,by simp [upd,this,hc],Nat.le_refl _,fun _=>Yp (by simp [Qu,this]) (hC.lt r (by rw [O]; simp) G (by rw [hc]; simp))⟩
 ·intro t ty S n _ hc;have:=hne t _ hc;refine ⟨n,by simp [upd,this,hc],Nat.le_refl _,fun _=>⟨by simp [Qu,this],fun c J=>⟨c,?_,rfl⟩⟩⟩;rw [hC.lt r (by rw [O]; simp) G (by rw [hc]; simp)]; exact J
 ·intro c k x _ hc Y;have:=hne c _ hc;exact ⟨⟨k,by simp [upd,this,hc],Y⟩,by simp [Qu,this]⟩
 ·intro c ty cs hc;have:=hne c _ hc;exact ⟨⟨ty,cs,by simp [upd,this,hc]⟩,by simp [Qu,this]⟩
 ·intro t ty S n hc;have:=hne t _ hc;exact ⟨n,by simp [upd,this,hc],Nat.le_refl _,fun _=>Yp (by simp [Qu,this]) (hC.lt r (by rw [O]; simp) G (by rw [hc]; simp))⟩
 ·intro t ty S n hc;have:=hne t _ hc;refine ⟨n,by simp [upd,this,hc],Nat.le_refl _,fun _=>⟨by simp [Qu,this],fun c J=>⟨c,?_,rfl⟩⟩⟩;rw [hC.lt r (by rw [O]; simp) G (by rw [hc]; simp)]; exact J
 ·intro c k x hc Y;have:=hne c _ hc;exact ⟨⟨k,by simp [upd,this,hc],Y⟩,by simp [Qu,this]⟩
theorem XZ {k:Blk} {o:Obj} (hh:w'.heap=w.heap.push o) (hb:h b=none) (r:Zz φ h w M0) (hC:Clear φ h w 1)
  (E:QW φ h w (Qu φ b w.heap.size) (upd h b k) w') (X:VR φ h w (Qu φ b w.heap.size) (upd h b k) w')
  (Y:RelB (Qu φ b w.heap.size) (upd h b k) w' (MM (Qu φ b w.heap.size) (upd h b k) M0) w.heap.size k):Zz (Qu φ b w.heap.size) (upd h b k) w' M0:=by
 have O:∀ x,x < w.heap.size→w'.heap[x]?=w.heap[x]?:=fun x hx=>by rw [hh,Array.getElem?_push,if_neg zo]
 have hlt:∀ c,h c ≠ none→φ c ≠ w.heap.size:=fun c hc=>by rcases hC c hc with h1 | h1 <;> omega
 refine ⟨?_,?_,?_,fun x y hx=>Nat.lt_of_lt_of_le (r.lt x y hx) E.size,r.gm.evol E⟩
 ·intro c d hc Z J;simp only [upd] at hc Z;simp only [Qu] at J;by_cases e1:b=c <;> by_cases e2:b=d
  ·omega
  ·simp only [e1,if_true] at J;have ab:¬ c=d:=by omega
   simp only [ab,if_false] at J;rw [if_neg e2] at Z;have:=hlt d Z; omega
  ·simp only [e2,if_true] at J;have aa:¬ d=c:=by omega
   simp only [aa,if_false] at J;rw [if_neg e1] at hc;have:=hlt c hc; omega
  ·simp only [e1,e2,if_false] at J hc Z; exact r.inj c d hc Z J
 ·intro c q hc;by_cases e:b=c
  ·have h2:q=k:=by simp only [upd,e,if_true,QO] at hc; exact hc.symm
   have G:Qu φ b w.heap.size c=w.heap.size:=by simp [Qu,e]
   rw [h2,G]; exact Y
  ·have h1:h c=some q:=by simpa [upd,e] using hc
   have G:Qu φ b w.heap.size c=φ c:=by simp [Qu,e]
   rw [G];exact ZI (E.keeps M0) X (hC.lt r (by rw [hh]; simp) O (by rw [h1]; simp)) (r.blk c q h1)
 ·intro c hc o hm;by_cases e:b=c
  ·have G:Qu φ b w.heap.size c=w.heap.size:=by simp [Qu,e]
   rw [G] at hm;exact absurd (r.lt _ _ hm) zo
  ·have G:Qu φ b w.heap.size c=φ c:=by simp [Qu,e]
   rw [G] at hm;exact r.fr c (by simpa [upd,e] using hc) o hm
theorem OZ {cs cs':List AV} {c:Array Value} (hb:h b=some (.box ty cs)) (hw:w.heap[φ b]?=some (.cells c ty (0,0))) (r:Zz φ h w M0) :
  QW φ h w φ (upd h b (.box ty cs')) (w.setRow (φ b) c')∧VR φ h w φ (upd h b (.box ty cs')) (w.setRow (φ b) c'):=by
 have G:∀ x,x ≠ φ b→(w.setRow (φ b) c').heap[x]?=w.heap[x]?:=fun x hx=>setRow_other w _ x c' hx
 have ac:∀ t ty S n,h t=some (.arr ty S n)→t ≠ b:=fun t ty S n O e=>by rw [e,hb] at O; cases O
 have ad:∀ t ty S n,h t=some (.arr ty S n)→φ t ≠ φ b:=fun t ty S n O e=>ac t ty S n O (r.inj t b (by rw [O]; simp) (by rw [hb]; simp) e)
 have ab:∀ t ty S n,h t=some (.vec ty S n)→t ≠ b:=fun t ty S n O e=>by rw [e,hb] at O; cases O
 have aa:∀ t ty S n,h t=some (.vec ty S n)→φ t ≠ φ b:=fun t ty S n O e=>ab t ty S n O (r.inj t b (by rw [O]; simp) (by rw [hb]; simp) e)
 have Z:∀ d k x,h d=some k→k.ob=some x→¬ b=d:=fun d k x Y ho e=>by rw [← e,hb] at Y; cases Y; cases ho
 refine ⟨⟨rfl,rfl,rfl,by simp,?_,?_,?_,?_,?_,?_,?_⟩,?_,?_,?_,?_⟩
 ·intro x _ Z;exact G x (fun e=>Z b (by rw [hb]; simp) e.symm)
 ·intro x o _ hm;have:x ≠ φ b:=fun e=>hm ⟨b,_,hb,e.symm,trivial⟩
  simp [World.cell?,G x this]
 ·rintro x y _ ⟨d,q,h1,h2,h3⟩;by_cases e:b=d
  ·exact ⟨b,_,hb,by rw [e]; exact h2,trivial⟩
  ·exact ⟨d,q,by simpa [upd,e] using h1,h2,h3⟩
 ·intro d J ds _ Y;by_cases e:b=d
  ·subst e; rw [hb] at Y; cases Y; exact ⟨⟨cs',by simp [upd]⟩,rfl⟩
  ·exact ⟨⟨ds,by simp [upd,e,Y]⟩,rfl⟩
 ·intro t J S n _ O;have e:=ac t J S n O;refine ⟨n,by simp [upd,Ne.symm e,O],Nat.le_refl _,fun _=>Yp (rfl) (by rw [G _ (ad t J S n O)])⟩
 ·intro t J S n _ O;have e:=ab t J S n O;refine ⟨n,by simp [upd,Ne.symm e,O],Nat.le_refl _,fun _=>⟨rfl,fun c hc=>⟨c,by rw [G _ (aa t J S n O)]; exact hc,rfl⟩⟩⟩
 ·intro d k x _ Y ho;exact ⟨⟨k,by simp [upd,Z d k x Y ho,Y],ho⟩,rfl⟩
 ·intro d J ds Y;by_cases e:b=d
  ·exact ⟨⟨ty,cs',by simp [upd,e]⟩,rfl⟩
  ·exact ⟨⟨J,ds,by simp [upd,e,Y]⟩,rfl⟩
 ·intro t J S n O;have e:=ac t J S n O;refine ⟨n,by simp [upd,Ne.symm e,O],Nat.le_refl _,fun _=>Yp (rfl) (by rw [G _ (ad t J S n O)])⟩
 ·intro t J S n O;have e:=ab t J S n O;refine ⟨n,by simp [upd,Ne.symm e,O],Nat.le_refl _,fun _=>⟨rfl,fun c hc=>⟨c,by rw [G _ (aa t J S n O)]; exact hc,rfl⟩⟩⟩
 ·intro d k x Y ho;exact ⟨⟨k,by simp [upd,Z d k x Y ho,Y],ho⟩,rfl⟩
theorem xH {cs cs':List AV} {c:Array Value} (hb:h b=some (.box ty cs)) (Z:w.heap[φ b]?=some (.cells c ty (0,0))) (r:Zz φ h w M0)
  (J:Qi φ h w (MM φ h M0) cs' c'.toList):Zz φ (upd h b (.box ty cs')) (w.setRow (φ b) c') M0:=by
 obtain ⟨E,X⟩:=OZ (cs':=cs') (c':=c') hb Z r;refine ⟨?_,?_,?_,fun x y hx=>Nat.lt_of_lt_of_le (r.lt x y hx) E.size,r.gm.evol E⟩
 ·intro d e G he O
  have g:∀ d,upd h b (.box ty cs') d ≠ none→h d ≠ none:=fun d G=>by
   by_cases e:b=d
   ·rw [← e,hb]; simp
   ·simpa [upd,e] using G
  exact r.inj d e (g d G) (g e he) O
 ·intro d q G;by_cases e:b=d
  ·subst e;have:q=.box ty cs':=by simpa [upd] using G.symm
   subst this;exact ⟨c',setRow_heap w _ c c' ty _ Z,(QJ (E.keeps M0) X).2 _ _ J⟩
  ·have Y:h d=some q:=by simpa [upd,e] using G
   have hne:φ d ≠ φ b:=fun h2=>e (r.inj d b (by rw [Y]; simp) (by rw [hb]; simp) h2).symm
   exact ZI (E.keeps M0) X (setRow_other w _ _ c' hne) (r.blk d q Y)
 ·intro d G o hm;refine r.fr d ?_ o hm;by_cases e:b=d
  ·rw [← e,hb]; simp
  ·simpa [upd,e] using G
section lists
variable {φ:Nat→Nat} {h:QH} {w:World} {M:Zr}
theorem RD {r:Nat}:∀ (cs:List PV) (o:Nat),VM w M r o cs↔∀ j c,cs[j]?=some c→∃ v,w.cell? ⟨r,o+j,none⟩=some v∧¬ M r (o+j)∧v.oneCell'=true∧QI w M c v
 | [],o=>by simp [VM]
 | c :: cs,o=>by
  simp only [VM,RD cs (o+1)];constructor
  ·rintro ⟨h0,O⟩ j x G;cases j with
   | zero=>simp at G; subst G; exact h0
   | succ j =>
    have:=O j x (by simpa using G)
    rwa [show o+1+j=o+(j+1) from by omega] at this
  ·intro J;refine ⟨J 0 c zq,fun j x G=>?_⟩;have:=J (j+1) x (by simpa using G)
   rwa [show o+(j+1)=o+1+j from by omega] at this
theorem TL {r:Nat}:∀ (a b:List PV) (o:Nat),VM w M r o (a++b)↔VM w M r o a∧VM w M r (o+a.length) b
 | [],b,o=>by simp [VM]
 | c :: a,b,o=>by
  simp only [List.cons_append,VM,TL a b (o+1),Y6];rw [show o+1+a.length=o+(a.length+1) from by omega];constructor
  ·rintro ⟨x,y,z⟩; exact ⟨⟨x,y⟩,z⟩
  ·rintro ⟨⟨x,y⟩,z⟩; exact ⟨x,y,z⟩
theorem Ko {S r:Nat}:∀ (es:List (List PV)) (o:Nat),VN w M S r o es↔(∀ e ∈ es,e.length=S)∧VM w M r o es.flatten
 | [],o=>by simp [VN,VM]
 | e :: es,o=>by
  simp only [VN,Ko es (o+S),List.flatten_cons,TL,List.mem_cons];constructor
  ·rintro ⟨⟨G,Y⟩,O,h4⟩;refine ⟨fun x J=>?_,Y,by rw [G]; exact h4⟩;rcases J with rfl | J
   ·exact G
   ·exact O x J
  ·rintro ⟨G,Y,O⟩;have Z:=G e (.inl rfl);exact ⟨⟨Z,Y⟩,fun x J=>G x (.inr J),by rw [← Z]; exact O⟩
theorem Vh {S r:Nat}:∀ (a b:List (List PV)) (o:Nat),VN w M S r o (a++b)↔VN w M S r o a∧VN w M S r (o+a.length * S) b
 | [],b,o=>by simp [VN]
 | e :: a,b,o=>by
  simp only [List.cons_append,VN,Vh a b (o+S),Y6];rw [show o+S+a.length * S=o+(a.length+1) * S from by rw [Nat.add_mul]; omega];constructor
  ·rintro ⟨x,y,z⟩; exact ⟨⟨x,y⟩,z⟩
  ·rintro ⟨⟨x,y⟩,z⟩; exact ⟨x,y,z⟩
theorem tu {S o:Nat} (G:VN w M S r o es) {e:List PV} (hi:es[i]?=some e):e.length=S∧VM w M r (o+i * S) e:=by
 have hlt:i < es.length:=(List.getElem?_eq_some_iff.1 hi).1
 have hs:es=es.take i++(e :: es.drop (i+1)):=by
  have J:es[i]=e:=(List.getElem?_eq_some_iff.1 hi).2
  conv=>lhs; rw [← List.take_append_drop i es]
  rw [← J,List.drop_eq_getElem_cons hlt]
 rw [hs,Vh] at G;have O:(es.take i).length=i:=by simp; omega
 rw [O] at G;simp only [VN] at G;exact G.2.1
theorem Zt:∀ {xs:List AV} {l:List Value},Qi φ h w M xs l→xs.length=l.length
 | [],l,G=>by simp only [Qi] at G; simp [G]
 | x :: xs,l,G=>by
  simp only [Qi] at G;obtain ⟨y,ys,rfl,_,J⟩:=G;simp [Zt J]
theorem Uy:∀ {xs:List AV} {l:List Value},Qi φ h w M xs l→∀ {i:Nat} {x:AV},xs[i]?=some x→∃ v,l[i]?=some v∧Qe φ h w M x v
 | [],l,G,i,x,hi=>by simp at hi
 | y :: xs,l,G,i,x,hi=>by
  simp only [Qi] at G;obtain ⟨v,vs,rfl,J,Z⟩:=G;cases i with
  | zero=>simp at hi; subst hi; exact ⟨v,by simp,J⟩
  | succ i =>
   obtain ⟨u,Y,O⟩:=Uy Z (i:=i) (by simpa using hi);exact ⟨u,by simpa using Y,O⟩
theorem Zl:∀ {a b:List AV} {l m:List Value},Qi φ h w M a l→Qi φ h w M b m→Qi φ h w M (a++b) (l++m)
 | [],b,l,m,G,J=>by simp only [Qi] at G; subst G; simpa using J
 | x :: a,b,l,m,G,J=>by
  simp only [Qi] at G;obtain ⟨v,Z,rfl,O,Y⟩:=G;simp only [List.cons_append,Qi];exact ⟨v,Z++m,rfl,O,Zl Y J⟩
theorem Uz:∀ {a:List AV} {l:List Value} (n:Nat),Qi φ h w M a l→Qi φ h w M (a.take n) (l.take n)
 | a,l,0,_=>by simp [Qi]
 | [],l,n+1,G=>by simp only [Qi] at G; subst G; simp [Qi]
 | x :: a,l,n+1,G=>by
  simp only [Qi] at G;obtain ⟨v,Y,rfl,J,O⟩:=G;simp only [List.take_succ_cons,Qi];exact ⟨v,Y.take n,rfl,J,Uz n O⟩
theorem UA:∀ {a:List AV} {l:List Value} (n:Nat),Qi φ h w M a l→Qi φ h w M (a.drop n) (l.drop n)
 | a,l,0,O=>by simpa using O
 | [],l,n+1,G=>by simp only [Qi] at G; subst G; simp [Qi]
 | x :: a,l,n+1,G=>by
  simp only [Qi] at G;obtain ⟨v,Z,rfl,Y,J⟩:=G;simpa using UA n J
end lists
def Yq {α:Type} (P:Program):Sem α→Option α
 | .pure a=>some a
 | .program k=>Yq P (k P)
 | .mark _ k=>Yq P k
 | _=>none
theorem zW {s:Sem α} {a:α} (h:Yq P s=some a) (w:World):s.run P w=.ok a w:=by
 induction s with
 | pure b=>simp only [Yq,QO] at h; subst h; rfl
 | program k G=>simp only [Yq] at h; exact G P h
 | mark m k G=>simp only [Yq] at h; exact G h
 | _=>simp [Yq] at h
mutual
def SH:AV→Option Value
 | .p (.val x)=>some x
 | .p (.sl _ _)=>none
 | .tsl _ _ _=>none
 | .ptr _ _=>none
 | .eptr _=>none
 | .vnil=>none
 | .vsl _ _ _=>none
 | .vptr _ _ _ _=>none
 | .yv _=>none
 | .mv _=>none
 | .bsl _ _=>none
 | .sfp _=>none
 | .iv _=>none
 | .agg cs=>(NG cs).map fun l=>.agg l.toArray
 | .tup cs=>(NG cs).map fun l=>.tuple l.toArray
 | .ifc t x=>(SH x).map (.iface t)
 | .fn f a b=>match NG a,NG b with | some l,some m=>some (.func f l.toArray m.toArray) | _,_=>none
def NG:List AV→Option (List Value)
 | []=>some []
 | x :: xs=>match SH x,NG xs with | some y,some ys=>some (y :: ys) | _,_=>none
end
theorem Md :
  (∀ (x:AV) (v y:Value),Qe φ h w M x v→SH x=some y→v=y)∧(∀ (xs:List AV) (l m:List Value),Qi φ h w M xs l→NG xs=some m→l=m):=by
 have key:∀ n:Nat,(∀ (x:AV),SizeOf.sizeOf x≤n→∀ v y,Qe φ h w M x v→SH x=some y→v=y)∧(∀ (xs:List AV),SizeOf.sizeOf xs≤n→∀ l m,Qi φ h w M xs l→NG xs=some m→l=m):=by
  intro n
  induction n with
  | zero =>
   refine ⟨fun x O=>?_,fun es O=>?_⟩
   ·cases x <;> simp at O
   ·cases es <;> simp at O
  | succ n ih =>
   obtain ⟨i1,i2⟩:=ih;refine ⟨fun x O v y J G=>?_,fun xs O l m J G=>?_⟩
   ·cases x with
    | p x=>cases x with
     | val x=>simp only [SH,QO] at G; simp only [Qe,QI] at J; rw [J,G]
     | sl S es=>simp [SH] at G
    | tsl S es t=>simp [SH] at G
    | ptr b off=>simp [SH] at G
    | eptr cs=>simp [SH] at G
    | vnil=>simp [SH] at G
    | vsl S t n=>simp [SH] at G
    | vptr t n k f=>simp [SH] at G
    | yv b=>simp [SH] at G
    | mv b=>simp [SH] at G
    | iv b=>simp [SH] at G
    | bsl b n=>simp [SH] at G
    | sfp b=>simp [SH] at G
    | agg cs =>
     simp only [SH,Fe] at G;obtain ⟨m,Z,rfl⟩:=G;simp only [Qe] at J;obtain ⟨l,rfl,Y⟩:=J;rw [i2 cs (by simp at O; omega) l m Y Z]
    | tup cs =>
     simp only [SH,Fe] at G;obtain ⟨m,Z,rfl⟩:=G;simp only [Qe] at J;obtain ⟨l,rfl,Y⟩:=J;rw [i2 cs (by simp at O; omega) l m Y Z]
    | fn f a b =>
     simp only [SH] at G;split at G
     ·rename_i l m hl hm;simp only [QO] at G;subst G;simp only [Qe] at J;obtain ⟨l',m',rfl,Y,h3⟩:=J;simp at O;rw [i2 a zo l' l Y hl,i2 b zo m' m h3 hm]
     ·cases G
    | ifc t x =>
     simp only [SH,Fe] at G;obtain ⟨m,Z,rfl⟩:=G;simp only [Qe] at J;obtain ⟨l,rfl,Y⟩:=J;rw [i1 x (by simp at O; omega) l m Y Z]
   ·cases xs with
    | nil=>simp only [NG,QO] at G; simp only [Qi] at J; rw [J,G]
    | cons x xs =>
     simp only [NG] at G;split at G
     ·rename_i y ys Z Y;simp only [QO] at G;subst G;simp only [Qi] at J;obtain ⟨u,us,rfl,h3,h4⟩:=J;simp at O;rw [i1 x zo u y h3 Z,i2 xs zo us ys h4 Y]
     ·cases G
 exact ⟨fun x v=>(key (SizeOf.sizeOf x)).1 x (Nat.le_refl _) v,fun xs l=>(key (SizeOf.sizeOf xs)).2 xs (Nat.le_refl _) l⟩
def AV.one:AV→Bool
 | .p (.val x)=>x.oneCell'
 | .agg _ | .tup _=>false
 | _=>true
theorem bW {x:AV} (J:x.one=true) (G:Qe φ h w M x v):v.oneCell'=true∧v.cells=#[v]:=by
 have key:v.oneCell'=true:=by
  cases x with
  | p x=>cases x with
   | val y=>simp only [Qe,QI] at G; subst G; exact J
   | sl S es =>
    simp only [Qe,QI] at G;rcases G with ⟨r,o,cap,rfl,_⟩ | ⟨_,a,cap,rfl⟩ <;> rfl
  | tsl S es t =>
   simp only [Qe,QI] at G;rcases G.1 with ⟨r,o,cap,rfl,_⟩ | ⟨_,a,cap,rfl⟩ <;> rfl
  | ptr b off=>simp only [Qe] at G; rw [G.1]; rfl
  | eptr cs=>simp only [Qe] at G; obtain ⟨r,o,rfl,_⟩:=G; rfl
  | vnil=>simp only [Qe] at G; rw [G]; rfl
  | vsl S t n=>simp only [Qe] at G; exact G.1
  | vptr t n k f=>simp only [Qe] at G; exact G.1
  | yv b=>simp only [Qe] at G; rw [G.1]; rfl
  | mv b=>simp only [Qe] at G; rw [G.1]; rfl
  | iv b=>simp only [Qe] at G; rw [G.1]; rfl
  | bsl b n=>simp only [Qe] at G; rw [G.1]; rfl
  | sfp b=>simp only [Qe] at G; rcases G.1 with e | e <;> rw [e] <;> rfl
  | agg cs=>simp [AV.one] at J
  | tup cs=>simp [AV.one] at J
  | fn f a b=>simp only [Qe] at G; obtain ⟨l,m,rfl,_⟩:=G; rfl
  | ifc t x=>simp only [Qe] at G; obtain ⟨y,rfl,_⟩:=G; rfl
 refine ⟨key,?_⟩;cases v <;> first | rfl | (simp [Value.oneCell'] at key)
def UB:List AV→Bool
 | []=>true
 | x :: xs=>x.one&&UB xs
def cellsOf:AV→Option (List AV)
 | .agg cs=>if UB cs then some cs else none
 | x=>if x.one then some [x] else none
theorem TM {φ:Nat→Nat} {h:QH} {w:World} {M:Zr}:∀ {xs:List AV} {l:List Value},UB xs=true→Qi φ h w M xs l→∀ u ∈ l,u.oneCell'=true
 | [],l,_,G=>by simp only [Qi] at G; subst G; simp
 | x :: xs,l,J,G=>by
  simp only [UB,Zf] at J;simp only [Qi] at G;obtain ⟨y,ys,rfl,Y,O⟩:=G;intro u hu;rcases List.mem_cons.1 hu with rfl | hu
  ·exact (bW J.1 Y).1
  ·exact TM J.2 O u hu
theorem Vi {x:AV} {cs:List AV} (hc:cellsOf x=some cs) (J:Qe φ h w M x v) :
  Qi φ h w M cs v.cells.toList∧(∀ u ∈ v.cells.toList,u.oneCell'=true)∧UB cs=true:=by
 have other:(if x.one then some [x] else none)=some cs→Qi φ h w M cs v.cells.toList∧(∀ u ∈ v.cells.toList,u.oneCell'=true)∧UB cs=true:=by
  intro O;split at O
  ·rename_i G;simp only [QO] at O;subst O;obtain ⟨Y,Z⟩:=bW G J;rw [Z];exact ⟨by simp only [Qi]; exact ⟨v,[],rfl,J,rfl⟩,by simpa using Y,by simp [UB,G]⟩
  ·cases O
 cases x with
 | agg xs =>
  simp only [cellsOf] at hc;split at hc
  ·rename_i G;simp only [QO] at hc;subst hc;simp only [Qe] at J;obtain ⟨l,rfl,Y⟩:=J;simp only [Value.cells];exact ⟨Y,TM G Y,G⟩
  ·cases hc
 | _=>exact other hc
abbrev Xq:=AV × Option (Nat × Blk) × List Nat
variable {u:Xq}
def ap (h:QH):Option (Nat × Blk)→QH
 | none=>h
 | some (b,k)=>upd h b k
def Yield (P:Program) (o:Oper) (φ:Nat→Nat) (M0:Zr) (h:QH) (a:Act) (w:World) (x:AV) (h':QH):Prop :=
 ∃ G v w' φ',(execOp a.eval o).run P w=.ok G w'∧(G=.value v∨G=.skip∧v=undef)∧Qe φ' h' w' (MM φ' h' M0) x v∧Zz φ' h' w' M0∧QW φ h w φ' h' w'∧VR φ h w φ' h' w'
section
variable {P:Program} {o:Oper} {φ:Nat→Nat} {M0:Zr} {N:Nat} {D:DB} {T:Nat→Option AV} {h:QH} {a:Act} {w:World}
theorem Yield.of_lift (r:Q8 φ M0 N D T h a w) (K:Nat) {x:AV}
  (hy:∀ G,Q8 G M0 N D T h a w→QW φ h w G h w→VR φ h w G h w→Clear G h w K→Yield P o G M0 h a w x h'):Yield P o φ M0 h a w x h':=by
 obtain ⟨r1,J,O,Y⟩:=r.lift K;obtain ⟨nx,v,w',φ',h1,h2,h3,h4,h5,Z⟩:=hy _ r1 J O Y;exact ⟨nx,v,w',φ',h1,h2,h3,h4,J.trans h5,VR.trans (Nat.le_refl _) O Z⟩
theorem Qm (r:Q8 φ M0 N D T h a w) {x:AV} (G:(execOp a.eval o).run P w=.ok (.value v) w) (J:Qe φ h w (MM φ h M0) x v):Yield P o φ M0 h a w x h :=
 ⟨_,v,w,φ,G, .inl rfl,J,r.hp,QW.refl _ _ _,VR.refl _ _ _⟩
def VT (T:Nat→Option AV) (x:Operand):Option Xq:=match Zc T x with | some v=>some (v,none,[]) | none=>none
def Nh (T:Nat→Option AV) (c x y:Operand):Option Xq :=
 match Zc T c with
 | some (.p (.val (.bool true)))=>VT T x
 | some (.p (.val (.bool false)))=>VT T y
 | _=>none
theorem bX (r:Q8 φ M0 N D T h a w) {v:AV} (G:o.op=.move x∨o.op=.assign x) (J:Zc T x=some v):Yield P o φ M0 h a w v h:=by
 refine Qm r (v:=a.eval x) ?_ (r.ev J);rcases G with G | G <;> simp [execOp,G]
theorem bY (r:Q8 φ M0 N D T h a w) {c:Operand} (Z:o.op=.pick c x y) (G:Nh T c x y=some u):u.2.1=none∧u.2.2=[]∧Yield P o φ M0 h a w u.1 h:=by
 unfold Nh at G;split at G
 ·rename_i Y;unfold VT at G;split at G
  ·rename_i v O;simp only [QO] at G;subst G;have J:=r.ev Y;simp only [Qe,QI] at J;exact ⟨rfl,rfl,Qm r (v:=a.eval x) (by simp [execOp,Z,J,asBool]) (r.ev O)⟩
  ·cases G
 ·rename_i Y;unfold VT at G;split at G
  ·rename_i v O;simp only [QO] at G;subst G;have J:=r.ev Y;simp only [Qe,QI] at J;exact ⟨rfl,rfl,Qm r (v:=a.eval y) (by simp [execOp,Z,J,asBool]) (r.ev O)⟩
  ·cases G
 ·cases G
def Gt:TypeDesc→Bool
 | .struct _ | .array _ _=>true
 | _=>false
theorem UC {d:TypeDesc} (G:P.underlying t=some d) (w:World):(isAgg t).run P w=.ok (Gt d) w:=by
 simp only [isAgg,Sem.run_bind,run_underlying G,Result.andThen_ok];cases d <;> rfl
theorem QX {i:TypeInfo} (hi:P.info? t=some i) (w:World):(sizeOf t).run P w=.ok i.size w:=by
 simp [sizeOf,typeInfo,hi]
def PW (P:Program) (T:Nat→Option AV) (h:QH) (ty:TypeId) (x:Operand):Option Xq :=
 match P.underlying ty,P.info? ty with
 | some d,some i =>
  match Zc T x with
  | some (.ptr b off) =>
   match h b with
   | some (.box _ cs) =>
    if Gt d then (if off+i.size≤cs.length then some (.agg ((cs.drop off).take i.size),none,[b]) else none)
    else match cs[off]? with | some c=>some (c,none,[b]) | none=>none
   | _=>none
  | some (.eptr cs) =>
   if Gt d then (if i.size≤cs.length then some (.agg ((cs.take i.size).map .p),none,[]) else none)
   else match cs[0]? with | some c=>some (.p c,none,[]) | none=>none
  | _=>none
 | _,_=>none
theorem CP {d:TypeDesc} {i:TypeInfo} (Y:P.underlying ty=some d) (hi:P.info? ty=some i) (G:Gt d=true) (l:List Value) (Z:l.length=i.size)
  (hc:∀ j v,l[j]?=some v→w.cell? ⟨r,off+j,none⟩=some v):(loadVar ty ⟨r,off,none⟩).run P w=.ok (.agg l.toArray) w:=by
 have J:=run_loadCells_list (P:=P) w ⟨r,off,none⟩ l (fun j v O=>by rw [Addr.add_lit]; exact hc j v O);rw [Z] at J;simp [loadVar,UC Y,G,QX hi,J]
theorem CQ {d:TypeDesc} (J:P.underlying ty=some d) (G:Gt d=false) (hc:w.cell? ⟨r,off,none⟩=some v) :
  (loadVar ty ⟨r,off,none⟩).run P w=.ok v w:=by
 simp [loadVar,UC J,G,hc]
theorem ZU {c:Array Value} (G:w.heap[r]?=some (.cells c ty (0,0))):w.cell? ⟨r,off,none⟩=c[off]?:=by simp [World.cell?,G]
theorem O0 (r:Q8 φ M0 N D T h a w) (G:PW P T h ty x=some u):u.2.1=none∧∃ v,(Instr.loadAt ty (a.eval x)).run P w=.ok v w∧Qe φ h w (MM φ h M0) u.1 v:=by
 unfold PW at G;split at G
 ·rename_i d i hd hi;split at G
  ·rename_i b off hx;have h2:=r.ev hx;simp only [Qe] at h2;split at G
   ·rename_i ah cs hb;obtain ⟨c,hw,ad⟩:=r.hp.blk b _ hb;split at G
    ·rename_i J;split at G
     ·rename_i aa;simp only [QO] at G;subst G;have af:=Zt ad;have h3:Qi φ h w (MM φ h M0) ((cs.drop off).take i.size) ((c.toList.drop off).take i.size):=Uz _ (UA _ ad);refine ⟨rfl, .agg ((c.toList.drop off).take i.size).toArray,?_,?_⟩
      ·have:=CP (w:=w) (r:=φ b) (off:=off) hd hi J ((c.toList.drop off).take i.size) (by simp at af ⊢; omega) (fun j v Y=>by
        rw [ZU hw];rw [List.getElem?_take] at Y;split at Y
        ·simpa using Y
        ·cases Y)
       simp [Instr.loadAt,h2.1,Instr.sureAddr,this]
      ·simp only [Qe]; exact ⟨_,rfl,h3⟩
     ·cases G
    ·rename_i J;split at G
     ·rename_i c0 ac;simp only [QO] at G;subst G;obtain ⟨v,hv,ab⟩:=Uy ad ac;refine ⟨rfl,v,?_,ab⟩;have:=CQ (P:=P) (w:=w) (r:=φ b) (off:=off) hd (by simpa using J) (v:=v) (by rw [ZU hw]; simpa using hv);simp [Instr.loadAt,h2.1,Instr.sureAddr,this]
     ·cases G
   ·cases G
  ·rename_i cs hx;have h2:=r.ev hx;simp only [Qe] at h2;obtain ⟨rr,O,h3,h4⟩:=h2;rw [RD] at h4;split at G
   ·rename_i J;split at G
    ·rename_i aa;simp only [QO] at G;subst G
     have hex:∃ l:List Value,l.length=i.size∧(∀ j v,l[j]?=some v→w.cell? ⟨rr,O+j,none⟩=some v)∧Qi φ h w (MM φ h M0) ((cs.take i.size).map .p) l:=by
      have ae:∀ (k:Nat) (cs:List PV) (O:Nat),k≤cs.length→(∀ j c,cs[j]?=some c→∃ v,w.cell? ⟨rr,O+j,none⟩=some v∧¬ MM φ h M0 rr (O+j)∧v.oneCell'=true∧QI w (MM φ h M0) c v) →
        ∃ l:List Value,l.length=k∧(∀ j v,l[j]?=some v→w.cell? ⟨rr,O+j,none⟩=some v)∧Qi φ h w (MM φ h M0) ((cs.take k).map .p) l:=by
       intro k
       induction k with
       | zero=>intro cs O _ _; exact ⟨[],rfl,by simp,by simp [Qi]⟩
       | succ k ih =>
        intro cs O hk Z;cases cs with
        | nil=>simp at hk
        | cons c cs =>
         obtain ⟨v,hv,hm,_,hr⟩:=Z 0 c zq
         obtain ⟨l,h1,h2,h3⟩:=ih cs (O+1) (by simp at hk; omega) (fun j c' Y=>by
          have:=Z (j+1) c' (by simpa using Y)
          rwa [show O+(j+1)=O+1+j from by omega] at this)
         refine ⟨v :: l,by simp [h1],fun j u Y=>?_,?_⟩
         ·cases j with
          | zero=>simp at Y; subst Y; simpa using hv
          | succ j=>have:=h2 j u (by simpa using Y); rwa [show O+1+j=O+(j+1) from by omega] at this
         ·simp only [List.take_succ_cons,List.map_cons,Qi]; exact ⟨v,l,rfl,by simpa [Qe] using hr,h3⟩
      exact ae i.size cs O aa h4
     obtain ⟨l,h5,h6,h7⟩:=hex;refine ⟨rfl, .agg l.toArray,?_,?_⟩
     ·have:=CP (w:=w) (r:=rr) (off:=O) hd hi J l h5 h6;simp [Instr.loadAt,h3,Instr.sureAddr,this]
     ·simp only [Qe]; exact ⟨l,rfl,h7⟩
    ·cases G
   ·rename_i J;split at G
    ·rename_i c0 ac;simp only [QO] at G;subst G;obtain ⟨v,hv,_,_,ab⟩:=h4 0 c0 ac;refine ⟨rfl,v,?_,by simpa [Qe] using ab⟩;have:=CQ (P:=P) (w:=w) (r:=rr) (off:=O) hd (by simpa using J) (v:=v) (by simpa using hv);simp [Instr.loadAt,h3,Instr.sureAddr,this]
    ·cases G
  ·cases G
 ·cases G
theorem Qda (r:Q8 φ M0 N D T h a w) (O:o.op=.load ty x) (Z:PW P T h ty x=some u):u.2.1=none∧Yield P o φ M0 h a w u.1 h:=by
 obtain ⟨J,v,G,Y⟩:=O0 (P:=P) r Z;exact ⟨J,Qm r (v:=v) (by simp [execOp,O,G]) Y⟩
def O1 (P:Program) (T:Nat→Option AV) (h:QH) (ty:TypeId) (x y:Operand):Option Xq :=
 match P.info? ty,Zc T x,Zc T y with
 | some i,some (.ptr b off),some v =>
  match h b,cellsOf v with
  | some (.box tb cs),some G =>
   if G.length=i.size∧off+G.length≤cs.length then some (.p (.val undef),some (b, .box tb (cs.take off++G++cs.drop (off+G.length))),[b]) else none
  | _,_=>none
 | _,_,_=>none
theorem Qau (r:Q8 φ M0 N D T h a w) (ho:o.op=.store ty x y) (G:O1 P T h ty x y=some u):Yield P o φ M0 h a w u.1 (ap h u.2.1):=by
 unfold O1 at G;split at G
 ·rename_i i b off v hi hx hy;have h2:=r.ev hx;have h3:=r.ev hy;simp only [Qe] at h2;split at G
  ·rename_i tb cs vs hb ab;split at G
   ·rename_i ad;simp only [QO] at G;subst G;obtain ⟨c,hw,O⟩:=r.hp.blk b _ hb;obtain ⟨h4,h5,h6⟩:=Vi ab h3;have J:=Zt h4;have aa:=Zt O;have Y:=run_storeCells_at P (φ b) off tb (a.eval y).cells.toList 0 c w hw (by simp at J aa ⊢; omega) h5;simp only [Nat.add_zero] at Y
    have Z:Qi φ h w (MM φ h M0) (cs.take off++vs++cs.drop (off+vs.length)) (c.toList.take off++(a.eval y).cells.toList++c.toList.drop (off+(a.eval y).cells.toList.length)):=by
     rw [← J];exact Zl (Zl (Uz _ O) h4) (UA _ O)
    obtain ⟨E,X⟩:=OZ (cs':=cs.take off++vs++cs.drop (off+vs.length)) (c':=(c.toList.take off++(a.eval y).cells.toList++c.toList.drop (off+(a.eval y).cells.toList.length)).toArray) hb hw r.hp;refine ⟨.skip,undef,_,φ,?_, .inr ⟨rfl,rfl⟩,by simp [Qe,QI],xH hb hw r.hp (by simpa using Z),E,X⟩;have ac:(a.eval y).cells.size=i.size:=by simp at J; omega
    simp [execOp,ho,Instr.storeAt,h2.1,Instr.sureAddr,storeVar,QX hi,ac,Y]
   ·cases G
  ·cases G
 ·cases G
def zX (o:Oper) (h:QH) (ty:TypeId) (v:AV):Option Xq :=
 match o.dst,cellsOf v with
 | some d,some cs=>match h d with | none=>some (.ptr d 0,some (d, .box ty cs),[d]) | some _=>none
 | _,_=>none
theorem Qav (r:Q8 φ M0 N D T h a w) {v:AV} {y:Value} (O:(execOp a.eval o).run P w=.ok (.value (.pointer (some ⟨w.heap.size,0,none⟩))) (w.alloc (.cells y.cells ty)))
  (Y:Qe φ h w (MM φ h M0) v y) (J:zX o h ty v=some u):Yield P o φ M0 h a w u.1 (ap h u.2.1):=by
 unfold zX at J;split at J
 ·rename_i d cs _ Z;split at J
  ·rename_i hd;simp only [QO] at J;subst J;refine Yield.of_lift r 1 fun φ r E0 X0 hC=>?_
   have Y:=(QJ (E0.keeps M0) X0).1 _ _ Y;obtain ⟨E,X⟩:=XY (w':=w.alloc (.cells y.cells ty)) (o:=.cells y.cells ty) (b:=d) (k:=.box ty cs) (M0:=M0) rfl rfl rfl rfl hd r.hp hC
   have G:RelB (Qu φ d w.heap.size) (upd h d (.box ty cs)) (w.alloc (.cells y.cells ty)) (MM (Qu φ d w.heap.size) (upd h d (.box ty cs)) M0) w.heap.size (.box ty cs):=by
    refine ⟨y.cells,by show (w.heap.push _)[w.heap.size]?=_; simp,(QJ (E.keeps M0) X).2 _ _ (Vi Z Y).1⟩
   refine ⟨_,_,_,Qu φ d w.heap.size,O, .inl rfl,?_,XZ rfl hd r.hp hC E X G,E,X⟩;simp only [Qe,ap];exact ⟨by simp [Qu],ty,cs,by simp [upd]⟩
  ·cases J
 ·cases J
theorem Qaw (r:Q8 φ M0 N D T h a w) {i:TypeInfo} (J:o.op=.alloc ty) (hi:P.info? ty=some i) (G:i.zero=some z) (O:zX o h ty (zR z)=some u) :
  Yield P o φ M0 h a w u.1 (ap h u.2.1) :=
 Qav r (y:=z) (by simp [execOp,J,Instr.alloc,zeroValue,typeInfo,hi,G,newVar,newRow,newObj,Sem.run]) (Wp z) O
theorem Qgp (r:Q8 φ M0 N D T h a w) {v:AV} (J:o.op=.box ty x) (G:Zc T x=some v) (O:zX o h ty v=some u) :
  Yield P o φ M0 h a w u.1 (ap h u.2.1) :=
 Qav r (y:=a.eval x) (by simp [execOp,J,Instr.box,newVar,newRow,newObj,Sem.run]) (r.ev G) O
end
section
variable {P:Program} {o:Oper} {φ:Nat→Nat} {M0:Zr} {N:Nat} {D:DB} {T:Nat→Option AV} {h:QH} {a:Act} {w:World}
theorem NH {o:Nat} {cs:List PV} (k:Nat) (O:k≤cs.length) (G:VM w M r o cs):VM w M r (o+k) (cs.drop k):=by
 have:VM w M r o (cs.take k++cs.drop k):=by rw [List.take_append_drop]; exact G
 rw [TL] at this;have J:(cs.take k).length=k:=by simp; omega
 rw [J] at this;exact this.2
def Xr (P:Program) (T:Nat→Option AV) (s:TypeId) (x:Operand) (f:Nat):Option Xq :=
 match P.underlying s with
 | some (.struct fields) =>
  match fields[f]? with
  | some G =>
   match P.info? G.type with
   | some i =>
    if i.size=0 then none else
    match Zc T x with
    | some (.ptr b off)=>some (.ptr b (off+G.offset),none,[])
    | some (.eptr cs)=>if G.offset≤cs.length then some (.eptr (cs.drop G.offset),none,[]) else none
    | _=>none
   | none=>none
  | none=>none
 | _=>none
theorem vX (r:Q8 φ M0 N D T h a w) {s:TypeId} {f:Nat} (ho:o.op=.fieldAddr s x f) (G:Xr P T s x f=some u):u.2.1=none∧Yield P o φ M0 h a w u.1 h:=by
 unfold Xr at G;split at G
 ·rename_i fields hs;split at G
  ·rename_i Y hf;split at G
   ·rename_i i hi;split at G
    ·cases G
    ·rename_i O;split at G
     ·rename_i b off Z;simp only [QO] at G;subst G;have J:=r.ev Z;simp only [Qe] at J;refine ⟨rfl,Qm r (v:=.pointer (some ⟨φ b,off+Y.offset,none⟩)) ?_ ?_⟩
      ·simp [execOp,ho,Instr.fieldAt,run_underlying hs,hf,J.1,Instr.sureAddr,fieldPlace,QX hi,O,Addr.add_lit]
      ·simp only [Qe]; exact ⟨trivial,J.2⟩
     ·rename_i cs Z;split at G
      ·rename_i aa;simp only [QO] at G;subst G;have J:=r.ev Z;simp only [Qe] at J;obtain ⟨rr,oo,h3,h4⟩:=J;refine ⟨rfl,Qm r (v:=.pointer (some ⟨rr,oo+Y.offset,none⟩)) ?_ ?_⟩
       ·simp [execOp,ho,Instr.fieldAt,run_underlying hs,hf,h3,Instr.sureAddr,fieldPlace,QX hi,O,Addr.add_lit]
       ·simp only [Qe]; exact ⟨rr,oo+Y.offset,rfl,NH _ aa h4⟩
      ·cases G
     ·cases G
   ·cases G
  ·cases G
 ·cases G
def elems:AV→Option (Nat × List (List PV))
 | .p (.sl S es)=>some (S,es)
 | .tsl S es _=>some (S,es)
 | _=>none
theorem Me {x:AV} {S:Nat} (G:elems x=some (S,es)) (J:Qe φ h w M x v):QI w M (.sl S es) v:=by
 cases x with
 | p x=>cases x with
  | val y=>simp [elems] at G
  | sl O es'=>simp only [elems,QO,Prod.mk.injEq] at G; obtain ⟨rfl,rfl⟩:=G; simpa only [Qe] using J
 | tsl O es' t=>simp only [elems,QO,Prod.mk.injEq] at G; obtain ⟨rfl,rfl⟩:=G; simp only [Qe] at J; exact J.1
 | _=>simp [elems] at G
def Xt (P:Program) (T:Nat→Option AV) (t:TypeId) (x ix:Operand):Option Xq :=
 match Zc T ix with
 | some (.p (.val (.int _ n))) =>
  match P.underlying t,Zc T x with
  | some (.slice e),some v =>
   match elems v,P.info? e with
   | some (S,es),some i=>if i.size=S∧0≤n then (match es[n.toNat]? with | some c=>some (.eptr c,none,[]) | none=>none) else none
   | _,_=>none
  | some (.array len e),some (.ptr b off) =>
   match P.info? e with
   | some i=>if 0≤n∧n < len then some (.ptr b (off+n.toNat * i.size),none,[]) else none
   | none=>none
  | some (.array len e),some (.eptr cs) =>
   match P.info? e with
   | some i=>if 0≤n∧n < len∧n.toNat * i.size≤cs.length then some (.eptr (cs.drop (n.toNat * i.size)),none,[]) else none
   | none=>none
  | _,_=>none
 | _=>none
theorem vY (r:Q8 φ M0 N D T h a w) (ho:o.op=.indexAddr t x ix) (G:Xt P T t x ix=some u):u.2.1=none∧Yield P o φ M0 h a w u.1 h:=by
 unfold Xt at G;split at G
 ·rename_i k n ac;have J:=r.ev ac;simp only [Qe,QI] at J;split at G
  ·rename_i e v Y Z;split at G
   ·rename_i S es i ab hi;split at G
    ·rename_i hc;split at G
     ·rename_i c aa;simp only [QO] at G;subst G;have O:=Me ab (r.ev Z);simp only [QI] at O;have hlt:n.toNat < es.length:=(List.getElem?_eq_some_iff.1 aa).1;rcases O with ⟨rr,oo,cap,hv,ae⟩ | ⟨rfl,_⟩
      ·obtain ⟨_,af⟩:=tu ae.2 aa;refine ⟨rfl,Qm r (v:=.pointer (some ⟨rr,oo+n.toNat * i.size,none⟩)) ?_ ?_⟩
       ·have ad:0≤n∧n < (es.length:Int):=⟨hc.2,by omega⟩;simp [execOp,ho,Instr.indexAt,J,asIntOf,run_underlying Y,hv,ad,QX hi,Addr.add_lit]
       ·simp only [Qe]; exact ⟨rr,_,rfl,by rw [hc.1]; exact af⟩
      ·simp at hlt
     ·cases G
    ·cases G
   ·cases G
  ·rename_i len e b off Y Z;split at G
   ·rename_i i hi;split at G
    ·rename_i hc;simp only [QO] at G;subst G;have O:=r.ev Z;simp only [Qe] at O;refine ⟨rfl,Qm r (v:=.pointer (some ⟨φ b,off+n.toNat * i.size,none⟩)) ?_ ?_⟩
     ·simp [execOp,ho,Instr.indexAt,J,asIntOf,run_underlying Y,O.1,Instr.sureAddr,hc,QX hi,Addr.add_lit]
     ·simp only [Qe]; exact ⟨trivial,O.2⟩
    ·cases G
   ·cases G
  ·rename_i len e cs Y Z;split at G
   ·rename_i i hi;split at G
    ·rename_i hc;simp only [QO] at G;subst G;have O:=r.ev Z;simp only [Qe] at O;obtain ⟨rr,oo,h3,h4⟩:=O;refine ⟨rfl,Qm r (v:=.pointer (some ⟨rr,oo+n.toNat * i.size,none⟩)) ?_ ?_⟩
     ·simp [execOp,ho,Instr.indexAt,J,asIntOf,run_underlying Y,h3,Instr.sureAddr,hc.1,hc.2.1,QX hi,Addr.add_lit]
     ·simp only [Qe]; exact ⟨rr,_,rfl,NH _ hc.2.2 h4⟩
    ·cases G
   ·cases G
  ·cases G
 ·cases G
def xI (P:Program) (ty:TypeId) (cs:List AV) (off:Nat):Option AV :=
 match P.underlying ty,P.info? ty with
 | some d,some i=>if Gt d then (if off+i.size≤cs.length then some (.agg ((cs.drop off).take i.size)) else none) else cs[off]?
 | _,_=>none
theorem bZ {cs:List AV} {x:AV} {l:List Value} (G:xI P ty cs off=some x) (hr:Qi φ h w M cs l) :
  ∃ v,(part ty l.toArray off).run P w=.ok v w∧Qe φ h w M x v:=by
 unfold xI at G;split at G
 ·rename_i d i Z hi;split at G
  ·rename_i J;split at G
   ·rename_i Y;simp only [QO] at G;subst G;refine ⟨.agg ((l.drop off).take i.size).toArray,?_,?_⟩
    ·simp [part,UC Z,J,QX hi]
    ·simp only [Qe]; exact ⟨_,rfl,Uz _ (UA _ hr)⟩
   ·cases G
  ·rename_i J;obtain ⟨v,hv,O⟩:=Uy hr G;refine ⟨v,?_,O⟩;simp [part,UC Z,J,hv]
 ·cases G
def O3 (P:Program) (T:Nat→Option AV) (t:TypeId) (x:Operand) (f:Nat):Option Xq :=
 match P.underlying t,Zc T x with
 | some (.struct fields),some (.agg cs) =>
  match fields[f]? with
  | some G=>match xI P G.type cs G.offset with | some v=>some (v,none,[]) | none=>none
  | none=>none
 | _,_=>none
theorem Qax (r:Q8 φ M0 N D T h a w) {f:Nat} (ho:o.op=.field t x f) (G:O3 P T t x f=some u):u.2.1=none∧Yield P o φ M0 h a w u.1 h:=by
 unfold O3 at G;split at G
 ·rename_i fields cs Y hx;split at G
  ·rename_i fl hf;split at G
   ·rename_i v hv;simp only [QO] at G;subst G;have J:=r.ev hx;simp only [Qe] at J;obtain ⟨l,Z,O⟩:=J;obtain ⟨y,h5,h6⟩:=bZ hv O;refine ⟨rfl,Qm r (v:=y) ?_ h6⟩;simp [execOp,ho,Instr.field,run_underlying Y,hf,Z,asAgg,h5]
   ·cases G
  ·cases G
 ·cases G
def SI (P:Program) (T:Nat→Option AV) (t:TypeId) (x ix:Operand):Option Xq :=
 match P.underlying t,Zc T x,Zc T ix with
 | some (.array len e),some (.agg cs),some (.p (.val (.int _ n))) =>
  match P.info? e with
  | some i=>if 0≤n∧n < len then (match xI P e cs (n.toNat * i.size) with | some v=>some (v,none,[]) | none=>none) else none
  | none=>none
 | _,_,_=>none
theorem Qay (r:Q8 φ M0 N D T h a w) (ho:o.op=.index t x ix) (G:SI P T t x ix=some u):u.2.1=none∧Yield P o φ M0 h a w u.1 h:=by
 unfold SI at G;split at G
 ·rename_i len e cs k n ht hx O;split at G
  ·rename_i i hi;split at G
   ·rename_i hc;split at G
    ·rename_i v hv;simp only [QO] at G;subst G;have Y:=r.ev hx;simp only [Qe] at Y;obtain ⟨l,h3,Z⟩:=Y;have J:=r.ev O;simp only [Qe,QI] at J;obtain ⟨y,h5,h6⟩:=bZ hv Z;refine ⟨rfl,Qm r (v:=y) ?_ h6⟩;simp [execOp,ho,Instr.index,J,asIntOf,run_underlying ht,h3,hc,QX hi,h5]
    ·cases G
   ·cases G
  ·cases G
 ·cases G
def FH (T:Nat→Option AV) (x:Operand) (i:Nat):Option Xq :=
 match Zc T x with
 | some (.tup G)=>match G[i]? with | some v=>some (v,none,[]) | none=>none
 | _=>none
theorem ng (r:Q8 φ M0 N D T h a w) (Z:o.op=.extract x i) (G:FH T x i=some u):u.2.1=none∧Yield P o φ M0 h a w u.1 h:=by
 unfold FH at G;split at G
 ·rename_i vs hx;split at G
  ·rename_i v hv;simp only [QO] at G;subst G;have J:=r.ev hx;simp only [Qe] at J;obtain ⟨l,O,Y⟩:=J;obtain ⟨y,h5,h6⟩:=Uy Y hv;refine ⟨rfl,Qm r (v:=y) ?_ h6⟩;simp [execOp,Z,Instr.extract,O,h5]
  ·cases G
 ·cases G
def SK (T:Nat→Option AV):List Operand→Option (List AV)
 | []=>some []
 | x :: xs=>match Zc T x,SK T xs with | some v,some G=>some (v :: G) | _,_=>none
theorem FI (r:Q8 φ M0 N D T h a w):∀ {xs:List Operand} {J:List AV},SK T xs=some J→Qi φ h w (MM φ h M0) J (xs.map a.eval)
 | [],J,G=>by simp only [SK,QO] at G; subst G; simp [Qi]
 | x :: xs,J,G=>by
  simp only [SK] at G;split at G
  ·rename_i v Y O Z;simp only [QO] at G;subst G;simp only [List.map_cons,Qi];exact ⟨_,_,rfl,r.ev O,FI r Z⟩
  ·cases G
def RF (T:Nat→Option AV) (f:Fn) (first captured:Array Operand):Option Xq :=
 match SK T first.toList,SK T captured.toList with
 | some l,some m=>some (.fn f l m,none,[])
 | _,_=>none
theorem xJ (r:Q8 φ M0 N D T h a w) {f:Fn} {first captured:Array Operand} (O:o.op=.makeFunc f first captured) (G:RF T f first captured=some u):u.2.1=none∧Yield P o φ M0 h a w u.1 h:=by
 unfold RF at G;split at G
 ·rename_i l m Y Z;simp only [QO] at G;subst G;refine ⟨rfl,Qm r (v:=.func f (first.map a.eval) (captured.map a.eval)) ?_ ?_⟩
  ·simp [execOp,O,Instr.makeFunc]
  ·simp only [Qe];refine ⟨first.toList.map a.eval,captured.toList.map a.eval,?_,FI r Y,FI r Z⟩;have J:∀ z:Array Operand,z.map a.eval=(z.toList.map a.eval).toArray:=fun z=>by apply Array.ext'; simp
   rw [J first,J captured]
 ·cases G
def Jn (P:Program) (T:Nat→Option AV) (t:TypeId) (x:Operand):Option Xq :=
 match P.underlying t,Zc T x with
 | some (.interface _),_=>none
 | some _,some v=>some (.ifc t v,none,[])
 | _,_=>none
theorem SL (r:Q8 φ M0 N D T h a w) (Y:o.op=.makeInterface t x) (G:Jn P T t x=some u):u.2.1=none∧Yield P o φ M0 h a w u.1 h:=by
 unfold Jn at G;split at G
 ·cases G
 ·rename_i d v hne O hx;simp only [QO] at G;subst G;refine ⟨rfl,Qm r (v:=.iface t (a.eval x)) ?_ ?_⟩
  ·have Z:∀ J,d ≠ .interface J:=fun J e=>hne J e
   cases d <;> first | (exact absurd rfl (Z _)) | simp [execOp,Y,Instr.makeInterface,run_underlying O]
  ·simp only [Qe]; exact ⟨_,rfl,r.ev hx⟩
 ·cases G
def Hr (P:Program) (T:Nat→Option AV) (x:Operand) (asserted:TypeId) (ok:Bool):Option Xq :=
 match P.underlying asserted,Zc T x with
 | some (.interface _),_=>none
 | some _,some (.ifc t v) =>
  if t=asserted then some (if ok then .tup [v, .p (.val (.bool true))] else v,none,[])
  else if ok then (match (P.info? asserted).bind (·.zero) with | some z=>some (.tup [zR z, .p (.val (.bool false))],none,[]) | none=>none)
  else none
 | _,_=>none
theorem zY (r:Q8 φ M0 N D T h a w) {xt asserted:TypeId} (ho:o.op=.typeAssert x xt asserted ok) (G:Hr P T x asserted ok=some u):u.2.1=none∧Yield P o φ M0 h a w u.1 h:=by
 unfold Hr at G;split at G
 ·cases G
 ·rename_i d t v hne Z hx;have hd:∀ ms,d ≠ .interface ms:=fun ms e=>hne ms e
  have h2:=r.ev hx;simp only [Qe] at h2;obtain ⟨y,h3,h4⟩:=h2;split at G
  ·rename_i J;simp only [QO] at G;subst G;cases ok
   ·refine ⟨rfl,Qm r (v:=y) ?_ h4⟩;cases d <;> first | (exact absurd rfl (hd _)) | simp [execOp,ho,Instr.typeAssert,run_underlying Z,h3,J]
   ·refine ⟨rfl,Qm r (v:=.tuple #[y, .bool true]) ?_ ?_⟩
    ·cases d <;> first | (exact absurd rfl (hd _)) | simp [execOp,ho,Instr.typeAssert,run_underlying Z,h3,J]
    ·simp only [Qe,if_true];exact ⟨[y, .bool true],rfl,by simp [Qi,h4,Qe,QI]⟩
  ·rename_i O;split at G
   ·rename_i hok;split at G
    ·rename_i z Y;simp only [QO] at G;subst G;simp only [Option.bind_eq_some_iff] at Y;obtain ⟨i,hi,Y⟩:=Y;refine ⟨rfl,Qm r (v:=.tuple #[z, .bool false]) ?_ ?_⟩
     ·cases d <;> first | (exact absurd rfl (hd _)) | simp [execOp,ho,Instr.typeAssert,run_underlying Z,h3,O,hok,zeroValue,typeInfo,hi,Y]
     ·simp only [Qe];exact ⟨[z, .bool false],rfl,by simp [Qi,Wp,Qe,QI]⟩
    ·cases G
   ·cases G
 ·cases G
def UD (T:Nat→Option AV) (x:Operand):Option Xq :=
 match Zc T x with
 | some (.ptr b off)=>some (.ptr b off,none,[])
 | some (.eptr cs)=>some (.eptr cs,none,[])
 | some (.fn (.func f) l m)=>some (.fn (.func f) l m,none,[])
 | _=>none
theorem xK (r:Q8 φ M0 N D T h a w) (Z:o.op=.nilCheck x) (J:UD T x=some u):u.2.1=none∧Yield P o φ M0 h a w u.1 h:=by
 unfold UD at J;split at J
 ·rename_i b off O;simp only [QO] at J;subst J;have G:=r.ev O;refine ⟨rfl,Qm r (v:=a.eval x) ?_ G⟩;simp only [Qe] at G;simp [execOp,Z,G.1]
 ·rename_i cs O;simp only [QO] at J;subst J;have G:=r.ev O;refine ⟨rfl,Qm r (v:=a.eval x) ?_ G⟩;simp only [Qe] at G;obtain ⟨rr,oo,Y,_⟩:=G;simp [execOp,Z,Y]
 ·rename_i f l m O;simp only [QO] at J;subst J;have G:=r.ev O;refine ⟨rfl,Qm r (v:=a.eval x) ?_ G⟩;simp only [Qe] at G;obtain ⟨l',m',Y,_⟩:=G;simp [execOp,Z,Y]
 ·cases J
def Qaz (P:Program) (T:Nat→Option AV) (t:TypeId) (x:Operand):Option Xq :=
 match P.underlying t,Zc T x with
 | some (.slice _),some v=>match elems v with | some (_,es)=>some (.p (.val (.int .i64 es.length)),none,[]) | none=>none
 | _,_=>none
theorem Qgq (r:Q8 φ M0 N D T h a w) (Z:o.op=.call ⟨.builtin .len,#[x],#[t]⟩) (G:Qaz P T t x=some u):u.2.1=none∧Yield P o φ M0 h a w u.1 h:=by
 unfold Qaz at G;split at G
 ·rename_i e v Y hx;split at G
  ·rename_i S es J;simp only [QO] at G;subst G;have h2:=Me J (r.ev hx);simp only [QI] at h2;refine ⟨rfl,Qm r (v:=.int .i64 es.length) ?_ (by simp [Qe,QI])⟩;rcases h2 with ⟨rr,oo,cap,O,aa⟩ | ⟨rfl,q,cap,O⟩
   ·simp [execOp,Z,resolve,invoke,builtin,Builtin.len_,run_underlying Y,O,goInt]
   ·simp [execOp,Z,resolve,invoke,builtin,Builtin.len_,run_underlying Y,O,goInt]
  ·cases G
 ·cases G
end
section
variable {P:Program} {o:Oper} {φ:Nat→Nat} {M0:Zr} {N:Nat} {D:DB} {T:Nat→Option AV} {h:QH} {a:Act} {w:World}
def PX (place:Nat→Option (Nat × Nat)) (cells:List AV):List (Nat × AV)→Option (List AV)
 | []=>some cells
 | (i,v) :: rest =>
  match place i,cellsOf v with
  | some (off,size),some G=>if G.length=size∧off+size≤cells.length then PX place (cells.take off++G++cells.drop (off+size)) rest else none
  | _,_=>none
theorem PY:∀ (G:List Value) (k off:Nat) (cs:Array Value),off+k+G.length≤cs.size →
  ((G.zipIdx k).foldl (fun (cs:Array Value) (p:Value × Nat)=>cs.setIfInBounds (off+p.2) p.1) cs).toList=cs.toList.take (off+k)++G++cs.toList.drop (off+k+G.length)
 | [],k,off,cs,_=>by simp
 | v :: G,k,off,cs,J=>by
  simp only [List.zipIdx_cons,List.foldl_cons];rw [PY G (k+1) off _ (by simp at J ⊢; omega)];have e:=list_seg_step cs.toList (off+k) v G (by simp at J ⊢; omega);simp only [Array.toList_setIfInBounds,Y6];rw [show off+(k+1)=off+k+1 from by omega];simpa using e
theorem PZ {M:Zr} {placeC G:Nat→Option (Nat × Nat)} (hp:∀ i x,G i=some x→placeC i=some x) :
  ∀ (ps:List (Nat × AV)) (Y:List (Nat × Value)) (cs:List AV) (c:Array Value) (Z:List AV),(ps.map (·.1)=Y.map (·.1))→Qi φ h w M (ps.map (·.2)) (Y.map (·.2)) →
   Qi φ h w M cs c.toList→PX G cs ps=some Z→∃ c',Instr.fill placeC c Y=some c'∧Qi φ h w M Z c'.toList
 | [],Y,cs,c,Z,O,_,h3,J=>by
  have:Y=[]:=by simpa using O.symm
  subst this;simp only [PX,QO] at J;subst J;exact ⟨c,rfl,h3⟩
 | (i,v) :: ps,[],cs,c,Z,O,_,_,_=>by simp at O
 | (i,v) :: ps,(j,y) :: Y,cs,c,Z,O,h2,h3,J=>by
  simp only [List.map_cons,List.cons.injEq] at O;obtain ⟨rfl,O⟩:=O;simp only [List.map_cons,Qi] at h2;obtain ⟨y',ah,h4,h5,h6⟩:=h2;simp only [List.cons.injEq] at h4;obtain ⟨rfl,rfl⟩:=h4;simp only [PX] at J;split at J
  ·rename_i off size vs ad ae;split at J
   ·rename_i hc;obtain ⟨h7,_,_⟩:=Vi ae h5;have af:=Zt h7;have ac:=Zt h3;simp only [Array.length_toList] at af ac;have ab:=PY y.cells.toList 0 off c (by simp; omega);simp only [Nat.add_zero] at ab
    have aa:Qi φ h w M (cs.take off++vs++cs.drop (off+size)) ((y.cells.toList.zipIdx 0).foldl (fun (cs:Array Value) (p:Value × Nat)=>cs.setIfInBounds (off+p.2) p.1) c).toList:=by
     rw [ab];have hs:size=y.cells.toList.length:=by simp; omega
     rw [hs];exact Zl (Zl (Uz _ h3) h7) (UA _ h3)
    obtain ⟨c',h8,h9⟩:=PZ hp ps Y _ _ Z O h6 aa J;refine ⟨c',?_,h9⟩
    have e1:(y.cells.zipIdx.foldl (fun (cs:Array Value) (p:Value × Nat)=>cs.setIfInBounds (off+p.2) p.1) c)=((y.cells.toList.zipIdx 0).foldl (fun (cs:Array Value) (p:Value × Nat)=>cs.setIfInBounds (off+p.2) p.1) c):=by
     rw [← Array.foldl_toList];simp
    simp only [Instr.fill,hp _ _ ad];have c1:¬ (y.cells.size ≠ size):=by omega
    have c2:¬ (off+y.cells.size > c.size):=by omega
    simp only [c1,c2,decide_false,Bool.or_self,Bool.false_eq_true,if_false];rw [← h8,← e1]
   ·cases J
  ·cases J
def O4 (T:Nat→Option AV):List (Nat × Operand)→Option (List (Nat × AV))
 | []=>some []
 | (i,x) :: xs=>match Zc T x,O4 T xs with | some v,some G=>some ((i,v) :: G) | _,_=>none
theorem CR (r:Q8 φ M0 N D T h a w):∀ {xs:List (Nat × Operand)} {J:List (Nat × AV)},O4 T xs=some J →
  J.map (·.1)=(xs.map fun (i,x)=>(i,a.eval x)).map (·.1)∧Qi φ h w (MM φ h M0) (J.map (·.2)) ((xs.map fun (i,x)=>(i,a.eval x)).map (·.2))
 | [],J,G=>by simp only [O4,QO] at G; subst G; simp [Qi]
 | (i,x) :: xs,J,G=>by
  simp only [O4] at G;split at G
  ·rename_i v aa O h2;simp only [QO] at G;subst G;obtain ⟨Z,Y⟩:=CR r h2;refine ⟨by simp only [List.map_cons,Z],?_⟩;simp only [List.map_cons,Qi];exact ⟨_,_,rfl,r.ev O,Y⟩
  ·cases G
def vZ (P:Program) (fields:Array Field) (i:Nat):Option (Nat × Nat) :=
 match fields[i]? with
 | some f=>match P.info? f.type with | some t=>some (f.offset,t.size) | none=>none
 | none=>none
theorem xL {α β:Type} (f:α→Sem β) (g:α→β):∀ (l:List α),(∀ x ∈ l,(f x).run P w=.ok (g x) w)→(l.mapM f).run P w=.ok (l.map g) w
 | [],_=>by simp
 | x :: l,G=>by
  simp only [List.mapM_cons,Sem.run_bind,G x zq,Result.andThen_ok,xL f g l (fun y J=>G y (by simp [J])),Sem.run_pure,List.map_cons]
def O5 (P:Program) (T:Nat→Option AV) (t:TypeId) (parts:Array (Nat × Operand)):Option Xq :=
 match P.info? t with
 | some i =>
  match i.zero,P.underlying t,O4 T parts.toList with
  | some z,some (.struct fields),some ps =>
   if fields.toList.all (fun f=>(P.info? f.type).isSome) then
    match cellsOf (zR z) with
    | some cs=>match PX (vZ P fields) cs ps with | some G=>some (.agg G,none,[]) | none=>none
    | none=>none
   else none
  | some z,some (.array _ e),some ps =>
   match P.info? e,cellsOf (zR z) with
   | some j,some cs=>match PX (fun i=>some (i * j.size,j.size)) cs ps with | some G=>some (.agg G,none,[]) | none=>none
   | _,_=>none
  | _,_,_=>none
 | none=>none
theorem QaA (r:Q8 φ M0 N D T h a w) (ho:o.op=.build t parts) (G:O5 P T t parts=some u):u.2.1=none∧Yield P o φ M0 h a w u.1 h:=by
 unfold O5 at G;split at G
 ·rename_i i hi;split at G
  ·rename_i z fields ps hz ht Z;split at G
   ·rename_i ab;split at G
    ·rename_i cs aa;split at G
     ·rename_i rs Y;simp only [QO] at G;subst G;obtain ⟨h1,h2⟩:=CR r Z;obtain ⟨h3,_,_⟩:=Vi aa (Wp (φ:=φ) (h:=h) (w:=w) (M:=MM φ h M0) z)
      let g:Field→Nat × Nat:=fun f=>(f.offset,((P.info? f.type).map (·.size)).getD 0)
      have ac:∀ i x,vZ P fields i=some x→(fun k=>((fields.toList.map g).toArray)[k]?) i=some x:=by
       intro k x O;unfold vZ at O;split at O
       ·rename_i f hf;split at O
        ·rename_i ti J;simp only [QO] at O;subst O;have:fields.toList[k]?=some f:=by simpa using hf
         simp [g,this,J]
        ·cases O
       ·cases O
      obtain ⟨c',h4,h5⟩:=PZ ac ps _ cs z.cells rs h1 h2 h3 Y;refine ⟨rfl,Qm r (v:=.agg c') ?_ ?_⟩
      ·have hm:(fields.mapM fun (f:Field)=>(do pure (f.offset,← sizeOf f.type):Sem (Nat × Nat))).run P w=.ok (fields.toList.map g).toArray w:=by
        rw [Array.mapM_eq_mapM_toList];simp only [Sem.run_map]
        rw [xL _ g fields.toList (fun f hf=>by
         have hs:=List.all_eq_true.1 ab f hf;obtain ⟨ti,J⟩:=TD.1 hs;simp [QX J,g,J])]
        rfl
       have hq:(parts.map fun (x:Nat × Operand)=>(x.1,a.eval x.2)).toList=parts.toList.map fun (x:Nat × Operand)=>(x.1,a.eval x.2):=by simp
       simp only [execOp,ho,Instr.build,Sem.run_bind,zeroValue,typeInfo,program,Sem.run,hi,hz,Result.andThen_ok,Sem.run_pure,run_underlying ht,hm];simp only [hq,h4,Sem.run_pure,Result.andThen_ok]
      ·simp only [Qe]; exact ⟨c'.toList,by simp,h5⟩
     ·cases G
    ·cases G
   ·cases G
  ·rename_i z n e ps hz ht Z;split at G
   ·rename_i j cs hj aa;split at G
    ·rename_i rs Y;simp only [QO] at G;subst G;obtain ⟨h1,h2⟩:=CR r Z;obtain ⟨h3,_,_⟩:=Vi aa (Wp (φ:=φ) (h:=h) (w:=w) (M:=MM φ h M0) z);obtain ⟨c',h4,h5⟩:=PZ (fun i x hx=>hx) ps _ cs z.cells rs h1 h2 h3 Y;refine ⟨rfl,Qm r (v:=.agg c') ?_ ?_⟩
     ·have hq:(parts.map fun (x:Nat × Operand)=>(x.1,a.eval x.2)).toList=parts.toList.map fun (x:Nat × Operand)=>(x.1,a.eval x.2):=by simp
      simp only [execOp,ho,Instr.build,Sem.run_bind,zeroValue,typeInfo,program,Sem.run,hi,hz,Result.andThen_ok,Sem.run_pure,run_underlying ht,QX hj];simp only [hq,h4,Sem.run_pure,Result.andThen_ok]
     ·simp only [Qe]; exact ⟨c'.toList,by simp,h5⟩
    ·cases G
   ·cases G
  ·cases G
 ·cases G
def known (T:Nat→Option AV) (x:Operand):Option Value:=match Zc T x with | some v=>SH v | none=>none
def allKnown (T:Nat→Option AV):List Operand→Bool
 | []=>true
 | x :: xs=>(known T x).isSome&&allKnown T xs
theorem tC (r:Q8 φ M0 N D T h a w) (G:known T x=some v):a.eval x=v:=by
 unfold known at G;split at G
 ·rename_i y J; exact Md.1 _ _ _ (r.ev J) G
 ·cases G
theorem P5:∀ {l:List Operand} {x:Operand},allKnown T l=true→x ∈ l→(known T x).isSome=true
 | y :: l,x,G,J=>by
  simp only [allKnown,Zf] at G;rcases List.mem_cons.1 J with rfl | J
  ·exact G.1
  ·exact P5 G.2 J
def XH:Op→Bool | .select ..=>false | _=>true
def GA (P:Program) (T:Nat→Option AV) (o:Oper):Option Xq :=
 if allKnown T o.op.operands.toList&&XH o.op then
  match Yq P (execOp (fun x=>(known T x).getD undef) o) with
  | some (.value v)=>some (zR v,none,[])
  | _=>none
 else none
theorem pure_ok (r:Q8 φ M0 N D T h a w) (J:GA P T o=some u):u.2.1=none∧Yield P o φ M0 h a w u.1 h:=by
 unfold GA at J;split at J
 ·rename_i O;simp only [Zf] at O;split at J
  ·rename_i v Z;simp only [QO] at J;subst J;refine ⟨rfl,Qm r (v:=v) ?_ (Wp v)⟩
   have G:execOp a.eval o=execOp (fun x=>(known T x).getD undef) o:=by
    refine execOp_congr o (fun cs b e=>by rw [e] at O; simp [XH] at O) fun x hx=>?_
    have hs:=P5 O.1 (x:=x) (by simpa using hx);obtain ⟨y,Y⟩:=TD.1 hs;rw [Y,tC r Y];rfl
   rw [G];exact zW Z w
  ·cases J
 ·cases J
def Lm (k:IntKind) (x y:Int):Int:=k.wrap (BitVec.ofInt k.bits x &&& BitVec.ofInt k.bits y).toNat
def fM (k:IntKind) (x y:Int):Int:=k.wrap (BitVec.ofInt k.bits x ||| BitVec.ofInt k.bits y).toNat
def Qdb (k:IntKind) (x y:Int):Int:=k.wrap (BitVec.ofInt k.bits x ^^^ BitVec.ofInt k.bits y).toNat
def wh (k:IntKind) (x y:Int):Int:=k.wrap (BitVec.ofInt k.bits x &&& ~~~ BitVec.ofInt k.bits y).toNat
def wm (k:IntKind) (x y:Int):Int:=k.wrap (x * 2 ^ (min y.toNat k.bits))
def Qgr (k:IntKind) (x y:Int):Int:=x.fdiv (2 ^ (min y.toNat k.bits))
def Qs (x y:Int):Bool:=decide (x < y)
def leI (x y:Int):Bool:=decide (x≤y)
def Qp (x y:Int):Bool:=x == y
def Qr (x y:List UInt8):Bool:=x == y
def opq (b:Bool):Bool:=b
theorem P6 {x y:Int} (h:x < y):Qs x y=true:=by simp [Qs,h]
theorem O6 {x y:Int} (h:¬ x < y):Qs x y=false:=by simp only [Qs,decide_eq_false_iff_not]; exact h
theorem xM {x y:Int} (h:x=y):Qp x y=true:=by simp [Qp,h]
def NI (op:BinOp) (k:IntKind) (x y:Int):Option Value :=
 match op with
 | .add=>some (.int k (k.wrap (x+y)))
 | .sub=>some (.int k (k.wrap (x - y)))
 | .mul=>some (.int k (k.wrap (x * y)))
 | .quo=>if y=0 then none else some (.int k (k.wrap (x.tdiv y)))
 | .rem=>if y=0 then none else some (.int k (x.tmod y))
 | .and=>some (.int k (Lm k x y))
 | .or=>some (.int k (fM k x y))
 | .xor=>some (.int k (Qdb k x y))
 | .andNot=>some (.int k (wh k x y))
 | .eql=>some (.bool (Qp x y))
 | .neq=>some (.bool (!Qp x y))
 | .lss=>some (.bool (Qs x y))
 | .leq=>some (.bool (leI x y))
 | .gtr=>some (.bool (Qs y x))
 | .geq=>some (.bool (leI y x))
 | _=>none
def P7 (op:BinOp) (k:IntKind) (x y:Int):Option Value :=
 if y < 0 then none else
 match op with
 | .shl=>some (.int k (wm k x y))
 | .shr=>some (.int k (Qgr k x y))
 | _=>none
def J4 (s:ByteArray):List UInt8:=s.data.toList
def JW (l:List UInt8):ByteArray:=⟨l.toArray⟩
theorem TN (l:List UInt8):J4 (JW l)=l:=by simp [J4,JW]
theorem wo (s:ByteArray):JW (J4 s)=s:=by simp [J4,JW]
theorem ni (s:ByteArray):s.toList=J4 s:=by rw [ByteArray.toList_eq]; rfl
theorem nk (x y:ByteArray):x++y=JW (J4 x++J4 y):=by
 apply ByteArray.ext;simp [JW,J4,ByteArray.data_append]
def ww (op:BinOp) (x y:ByteArray):Option Value :=
 match op with
 | .add=>if (J4 x).length+(J4 y).length≤9223372036854775807 then some (.string (JW (J4 x++J4 y))) else none
 | .eql=>some (.bool (Qr (J4 x) (J4 y)))
 | .neq=>some (.bool (!Qr (J4 x) (J4 y)))
 | .lss=>some (.bool (Op.bytesLess (J4 x) (J4 y)))
 | .leq=>some (.bool (Op.bytesLess (J4 x) (J4 y)||J4 x == J4 y))
 | .gtr=>some (.bool (!(Op.bytesLess (J4 x) (J4 y)||J4 x == J4 y)))
 | .geq=>some (.bool (!Op.bytesLess (J4 x) (J4 y)))
 | _=>none
def GR:BinOp→Bool | .shl | .shr=>true | _=>false
def SN (T:Nat→Option AV) (op:BinOp) (x y:Operand):Option Xq :=
 match Zc T x,Zc T y with
 | some (.p (.val (.int k a))),some (.p (.val (.int k' b))) =>
  if GR op then (match P7 op k a b with | some v=>some (.p (.val v),none,[]) | none=>none)
  else if k=k' then (match NI op k a b with | some v=>some (.p (.val v),none,[]) | none=>none) else none
 | some (.p (.val (.string a))),some (.p (.val (.string b)))=>match ww op a b with | some v=>some (.p (.val v),none,[]) | none=>none
 | _,_=>none
theorem Qgs (r:Q8 φ M0 N D T h a w) (ho:o.op=.binOp op tx x y ty) (J:SN T op x y=some u):u.2.1=none∧Yield P o φ M0 h a w u.1 h:=by
 unfold SN at J;split at J
 ·rename_i k n k' m hx hy;have O:=r.ev hx;have Y:=r.ev hy;simp only [Qe,QI] at O Y;split at J
  ·rename_i hs;split at J
   ·rename_i v G;simp only [QO] at J;subst J;refine ⟨rfl,Qm r (v:=v) ?_ (by simp [Qe,QI])⟩;unfold P7 at G;split at G
    ·cases G
    ·rename_i Z;cases op <;> simp [GR] at hs <;> simp only [QO] at G <;> subst G <;> simp [execOp,ho,O,Y,eqGuard,binOp,Op.shift,Z,wm,Qgr]
   ·cases J
  ·rename_i hs;split at J
   ·rename_i hk;subst hk;split at J
    ·rename_i v G;simp only [QO] at J;subst J;refine ⟨rfl,Qm r (v:=v) ?_ (by simp [Qe,QI])⟩;cases op <;> first | (simp [GR] at hs; done) | (simp only [NI] at G; first | (cases G; done) | (simp only [QO] at G; subst G; simp [execOp,ho,O,Y,eqGuard,binOp,Op.intArith,Op.intBits,Op.intCmp,Lm,fM,Qdb,wh,Qs,leI,Qp,bne]; done) | (by_cases hz:m=0 <;> simp only [hz,if_true,if_false] at G <;> first | (cases G; done) | (simp only [QO] at G; subst G; simp [execOp,ho,O,Y,eqGuard,binOp,Op.intDiv,hz])))
    ·cases J
   ·cases J
 ·rename_i n m hx hy;have O:=r.ev hx;have Y:=r.ev hy;simp only [Qe,QI] at O Y;split at J
  ·rename_i v G;simp only [QO] at J;subst J;refine ⟨rfl,Qm r (v:=v) ?_ (by simp [Qe,QI])⟩;cases op <;> simp only [ww] at G <;> first | (cases G; done) | (simp only [QO] at G; subst G; simp [execOp,ho,O,Y,eqGuard,binOp,Op.stringOp,ni,Qr]; done) | skip
   split at G
   ·rename_i ab;simp only [QO] at G;subst G;have e1:n.size=(J4 n).length:=rfl;have e2:m.size=(J4 m).length:=rfl;have aa:¬ (((n.size+m.size:Nat):Int) > IntKind.i64.max):=by rw [e1,e2]; simp [IntKind.max,IntKind.signed,IntKind.bits]; omega
    simp only [execOp,ho,O,Y,binOp,Op.stringOp,Sem.run_bind];rw [if_neg aa];simp [eqGuard,nk]
   ·cases G
  ·cases J
 ·cases J
def aUn (T:Nat→Option AV) (op:UnOp) (x:Operand):Option Xq :=
 match Zc T x with
 | some (.p (.val (.bool b)))=>match op with | .not=>some (.p (.val (.bool (!b))),none,[]) | _=>none
 | some (.p (.val (.int k n)))=>match op with | .neg=>some (.p (.val (.int k (k.wrap (0 - n)))),none,[]) | _=>none
 | _=>none
theorem Qh5 (r:Q8 φ M0 N D T h a w) {op:UnOp} (Y:o.op=.unOp op tx x) (G:aUn T op x=some u):u.2.1=none∧Yield P o φ M0 h a w u.1 h:=by
 unfold aUn at G;split at G
 ·rename_i b O;have J:=r.ev O;simp only [Qe,QI] at J;split at G
  ·simp only [QO] at G;subst G;exact ⟨rfl,Qm r (v:=.bool (!b)) (by simp [execOp,Y,J,Op.unary]) (by simp [Qe,QI])⟩
  ·cases G
 ·rename_i k n O;have J:=r.ev O;simp only [Qe,QI] at J;split at G
  ·simp only [QO] at G;subst G;exact ⟨rfl,Qm r (v:=.int k (k.wrap (0 - n))) (by simp [execOp,Y,J,Op.unary,Op.intArith]) (by simp [Qe,QI])⟩
  ·cases G
 ·cases G
def xP (P:Program) (T:Nat→Option AV) (dst:TypeId) (src:TypeId) (x:Operand):Option Xq :=
 match P.underlying dst,P.underlying src,Zc T x with
 | some (.int k),some _,some (.p (.val (.int _ n)))=>some (.p (.val (.int k (k.wrap n))),none,[])
 | _,_,_=>none
theorem Qdd (r:Q8 φ M0 N D T h a w) {src dst:TypeId} (O:o.op=.convert src dst x) (G:xP P T dst src x=some u):u.2.1=none∧Yield P o φ M0 h a w u.1 h:=by
 unfold xP at G;split at G
 ·rename_i k d k' n Y hs Z;have J:=r.ev Z;simp only [Qe,QI] at J;simp only [QO] at G;subst G;refine ⟨rfl,Qm r (v:=.int k (k.wrap n)) ?_ (by simp [Qe,QI])⟩;simp [execOp,O,J,convert,run_underlying Y,run_underlying hs,Conv.intToInt]
 ·cases G
end
section
variable {P:Program} {o:Oper} {φ:Nat→Nat} {M0:Zr} {N:Nat} {D:DB} {T:Nat→Option AV} {h:QH} {a:Act} {w:World}
theorem FJ {M:Zr} {r:Nat}:∀ (cs:List PV) (o:Nat),VM w M r o cs →
  ∃ l:List Value,l.length=cs.length∧(∀ j v,l[j]?=some v→w.cell? ⟨r,o+j,none⟩=some v)∧(∀ u ∈ l,u.oneCell'=true)∧(∀ (j:Nat) c v,cs[j]?=some c→l[j]?=some v→QI w M c v)
 | [],o,_=>⟨[],rfl,by simp,by simp,by simp⟩
 | c :: cs,o,J=>by
  simp only [VM] at J;obtain ⟨⟨v,O,h2,Z,Y⟩,h5⟩:=J;obtain ⟨l,g1,g2,g3,g4⟩:=FJ cs (o+1) h5;refine ⟨v :: l,by simp [g1],?_,?_,?_⟩
  ·intro j u G;cases j with
   | zero=>simp at G; subst G; simpa using O
   | succ j=>have:=g2 j u (by simpa using G); rwa [show o+1+j=o+(j+1) from by omega] at this
  ·intro u hu;rcases List.mem_cons.1 hu with rfl | hu
   ·exact Z
   ·exact g3 u hu
  ·intro j c' u G hu;cases j with
   | zero=>simp at G hu; subst G hu; exact Y
   | succ j=>exact g4 j c' u (by simpa using G) (by simpa using hu)
theorem Zm {S:Nat}:∀ {es:List (List PV)},(∀ e ∈ es,e.length=S)→es.flatten.length=es.length * S
 | [],_=>by simp
 | e :: es,G=>by
  simp only [List.flatten_cons,Y0,Y6,Zm (es:=es) (fun x J=>G x (List.mem_cons_of_mem _ J)),G e zq,Nat.add_mul];omega
theorem J8 {o:Nat} {cs:List PV} {l:List Value} (Y:l.length=cs.length) (hc:∀ j v,l[j]?=some v→w'.cell? ⟨r,o+j,none⟩=some v)
  (Z:∀ j,j < l.length→¬ M r (o+j)) (O:∀ u ∈ l,u.oneCell'=true) (hr:∀ (j:Nat) c v,cs[j]?=some c→l[j]?=some v→QI w' M c v):VM w' M r o cs:=by
 rw [RD];intro j c G;have hlt:j < l.length:=by rw [Y]; exact (List.getElem?_eq_some_iff.1 G).1
 have J:l[j]?=some l[j]:=List.getElem?_eq_getElem hlt;exact ⟨l[j],hc j _ J,Z j hlt,O _ (List.getElem_mem hlt),hr j c _ G J⟩
theorem AQ {t:Nat} {S n':Nat} {c:Array Value} (ht:h t=some (.arr ty S n)) (hw:w.heap[φ t]?=some (.cells c ty (0,0))) (hn:n≤n') (ai:c'.size=c.size)
  (ae:∀ x,x < n * S→c'[x]?=c[x]?) (r:Zz φ h w M0) :
  QW φ h w φ (upd h t (.arr ty S n')) (w.setRow (φ t) c')∧VR φ h w φ (upd h t (.arr ty S n')) (w.setRow (φ t) c'):=by
 have G:∀ x,x ≠ φ t→(w.setRow (φ t) c').heap[x]?=w.heap[x]?:=fun x hx=>setRow_other w _ x c' hx
 have Y:(w.setRow (φ t) c').heap[φ t]?=some (.cells c' ty (0,0)):=setRow_heap w _ c c' ty _ hw;have hb:∀ b ty cs,h b=some (.box ty cs)→t ≠ b:=fun b ty cs hb e=>by rw [← e,ht] at hb; cases hb
 have ab:∀ t2 Vz Z n2,h t2=some (.arr Vz Z n2)→∃ n3,upd h t (.arr ty S n') t2=some (.arr Vz Z n3)∧n2≤n3 ∧
   (n3=n2→AKept w (w.setRow (φ t) c') (φ t2) (φ t2) Vz):=by
  intro t2 Vz Z n2 J;by_cases e:t=t2
  ·subst e;rw [ht] at J;cases J;refine ⟨n',by simp [upd],hn,fun _=>⟨fun h0=>(by rw [hw] at h0; cases h0), .inr ⟨rfl,fun c0 aa=>⟨c',Y,?_⟩⟩⟩⟩;rw [hw] at aa;cases aa;exact ai
  ·have hne:φ t2 ≠ φ t:=fun e2=>e (r.inj t2 t (by rw [J]; simp) (by rw [ht]; simp) e2).symm
   exact ⟨n2,by simp [upd,e,J],Nat.le_refl _,fun _=>Yp (rfl) (by rw [G _ hne])⟩
 have ac:∀ t2 Vz Z O,h t2=some (.vec Vz Z O)→∃ ad,upd h t (.arr ty S n') t2=some (.vec Vz Z ad)∧O.length≤ad.length ∧
   (ad.length=O.length→φ t2=φ t2∧∀ c0,w.heap[φ t2]?=some (.cells c0 Vz (0,0))→∃ c1,(w.setRow (φ t) c').heap[φ t2]?=some (.cells c1 Vz (0,0))∧c1.size=c0.size):=by
  intro t2 Vz Z n2 J;have e:¬ t=t2:=fun e=>by rw [← e,ht] at J; cases J
  have hne:φ t2 ≠ φ t:=fun e2=>e (r.inj t2 t (by rw [J]; simp) (by rw [ht]; simp) e2).symm
  exact ⟨n2,by simp [upd,e,J],Nat.le_refl _,fun _=>⟨rfl,fun c0 aa=>⟨c0,by rw [G _ hne]; exact aa,rfl⟩⟩⟩
 have af:∀ d k x,h d=some k→k.ob=some x→(∃ k',upd h t (.arr ty S n') d=some k'∧k'.ob=some x)∧φ d=φ d:=by
  intro d k x hd ho;have e:¬ t=d:=fun e=>by rw [← e,ht] at hd; cases hd; cases ho
  exact ⟨⟨k,by simp [upd,e,hd],ho⟩,rfl⟩
 refine ⟨⟨rfl,rfl,rfl,by simp,?_,?_,?_,?_,?_,fun t2 Vz Z O _ J=>ac t2 Vz Z O J,fun d k x _=>af d k x⟩,?_,ab,ac,af⟩
 ·intro x _ aj;exact G x (fun e=>aj t (by rw [ht]; simp) e.symm)
 ·intro x o _ hm;by_cases e:x=φ t
  ·subst e
   have:o < n * S:=by
    rcases Nat.lt_or_ge o (n * S) with hlt | ak
    ·exact hlt
    ·exact absurd ⟨t,_,ht,rfl,ak⟩ hm
   rw [ZU Y,ZU hw];exact ae o this
  ·simp [World.cell?,G x e]
 ·rintro x y _ ⟨d,q,h1,J,h3⟩;by_cases e:t=d
  ·subst e;have:q=.arr ty S n':=by simpa [upd] using h1.symm
   subst this;have h4:n * S≤n' * S:=Nat.mul_le_mul_right _ hn;exact ⟨t,_,ht,J,Nat.le_trans h4 h3⟩
  ·exact ⟨d,q,by simpa [upd,e] using h1,J,h3⟩
 ·intro d ah ds _ hd;exact ⟨⟨ds,by simp [upd,hb d _ _ hd,hd]⟩,rfl⟩
 ·intro t2 Vz Z n2 _ J;exact ab t2 Vz Z n2 J
 ·intro d ah ds hd;exact ⟨⟨ah,ds,by simp [upd,hb d _ _ hd,hd]⟩,rfl⟩
theorem RG {t:Nat} {S n':Nat} {cap:Nat} (ht:h t=some (.arr ty S n)) (r:Zz φ h w M0)
  (E:QW φ h w φ' (upd h t (.arr ty S n')) w') (X:VR φ h w φ' (upd h t (.arr ty S n')) w')
  (J:∀ b,b ≠ t→φ' b=φ b) (Y:φ' t=φ t∨φ' t=w.heap.size∧Clear φ h w 1) (ab:∀ d,h d ≠ none→d ≠ t→w'.heap[φ d]?=w.heap[φ d]?)
  (ae:w'.heap[φ' t]?=some (.cells c' ty (0,0))) (ad:c'.size=cap * S) (aa:n'≤cap) (ac:cap≤maxLen):Zz φ' (upd h t (.arr ty S n')) w' M0:=by
 have g:∀ d,upd h t (.arr ty S n') d ≠ none→h d ≠ none:=fun d O=>by
  by_cases e:t=d
  ·rw [← e,ht]; simp
  ·simpa [upd,e] using O
 refine ⟨?_,?_,?_,fun x y hx=>Nat.lt_of_lt_of_le (r.lt x y hx) E.size,r.gm.evol E⟩
 ·intro d e O he G;by_cases e1:d=t <;> by_cases Z:e=t
  ·rw [e1,Z]
  ·rw [e1,J e Z] at G;rcases Y with h3 | ⟨h3,hC⟩
   ·rw [h3] at G; rw [e1]; exact r.inj t e (by rw [ht]; simp) (g e he) G
   ·rcases hC e (g e he) with h4 | h4 <;> omega
  ·rw [Z,J d e1] at G;rcases Y with h3 | ⟨h3,hC⟩
   ·rw [h3] at G; rw [Z]; exact r.inj d t (g d O) (by rw [ht]; simp) G
   ·rcases hC d (g d O) with h4 | h4 <;> omega
  ·rw [J d e1,J e Z] at G; exact r.inj d e (g d O) (g e he) G
 ·intro d q O;by_cases e:t=d
  ·subst e;have:q=.arr ty S n':=by simpa [upd] using O.symm
   subst this;exact .inr ⟨c',cap,ae,ad,aa,ac⟩
  ·have h1:h d=some q:=by simpa [upd,e] using O
   rw [J d (fun Z=>e Z.symm)];exact ZI (E.keeps M0) X (ab d (by rw [h1]; simp) (fun Z=>e Z.symm)) (r.blk d q h1)
 ·intro d O o hm;by_cases e:d=t
  ·subst e;rcases Y with h3 | ⟨h3,_⟩
   ·rw [h3] at hm; exact r.fr d (g d O) o hm
   ·rw [h3] at hm; exact absurd (r.lt _ _ hm) zo
  ·rw [J d e] at hm; exact r.fr d (g d O) o hm
theorem GU {ob:Obj} {t:Nat} {S n':Nat} (ht:h t=some (.arr ty S n)) (hn:n < n') (hh:w'.heap=w.heap.push ob) (ho:w'.os=w.os) (af:w'.tape=w.tape) (hu:w'.output=w.output) (r:Zz φ h w M0) (hC:Clear φ h w 1) :
  QW φ h w (Qu φ t w.heap.size) (upd h t (.arr ty S n')) w'∧VR φ h w (Qu φ t w.heap.size) (upd h t (.arr ty S n')) w':=by
 have J:∀ x,x < w.heap.size→w'.heap[x]?=w.heap[x]?:=fun x hx=>by rw [hh,Array.getElem?_push,if_neg zo]
 have hb:∀ b ty cs,h b=some (.box ty cs)→¬ t=b:=fun b ty cs hb e=>by rw [← e,ht] at hb; cases hb
 have aa:∀ t2 Vz Y Z,h t2=some (.arr Vz Y Z)→∃ n3,upd h t (.arr ty S n') t2=some (.arr Vz Y n3)∧Z≤n3 ∧
   (n3=Z→AKept w w' (φ t2) (Qu φ t w.heap.size t2) Vz):=by
  intro t2 Vz Y Z G;by_cases e:t=t2
  ·subst e;rw [ht] at G;cases G;exact ⟨n',by simp [upd],by omega,fun e=>absurd e zo⟩
  ·exact ⟨Z,by simp [upd,e,G],Nat.le_refl _,fun _=>Yp (by simp [Qu,e]) (by rw [hC.lt r (by rw [hh]; simp) J (by rw [G]; simp)])⟩
 have ab:∀ t2 Vz Y O,h t2=some (.vec Vz Y O)→∃ ac,upd h t (.arr ty S n') t2=some (.vec Vz Y ac)∧O.length≤ac.length ∧
   (ac.length=O.length→Qu φ t w.heap.size t2=φ t2∧∀ c0,w.heap[φ t2]?=some (.cells c0 Vz (0,0))→∃ c1,w'.heap[φ t2]?=some (.cells c1 Vz (0,0))∧c1.size=c0.size):=by
  intro t2 Vz Y Z G;have e:¬ t=t2:=fun e=>by rw [← e,ht] at G; cases G
  exact ⟨Z,by simp [upd,e,G],Nat.le_refl _,fun _=>⟨by simp [Qu,e],fun c0 ah=>⟨c0,by rw [hC.lt r (by rw [hh]; simp) J (by rw [G]; simp)]; exact ah,rfl⟩⟩⟩
 have ad:∀ d k x,h d=some k→k.ob=some x→(∃ k',upd h t (.arr ty S n') d=some k'∧k'.ob=some x)∧Qu φ t w.heap.size d=φ d:=by
  intro d k x hd ho;have e:¬ t=d:=fun e=>by rw [← e,ht] at hd; cases hd; cases ho
  exact ⟨⟨k,by simp [upd,e,hd],ho⟩,by simp [Qu,e]⟩
 refine ⟨⟨ho,af,hu,by rw [hh]; simp,fun x hx _=>J x hx,fun x o hx _=>by simp [World.cell?,J x hx],?_,?_,?_,fun t2 Vz Y O _ G=>ab t2 Vz Y O G,fun d k x _=>ad d k x⟩,?_,aa,ab,ad⟩
 ·rintro x y hx ⟨d,q,h1,G,h3⟩;by_cases e:t=d
  ·simp only [Qu,e,if_true] at G; omega
  ·exact ⟨d,q,by simpa [upd,e] using h1,by simpa [Qu,e] using G,h3⟩
 ·intro d ae ds _ hd;have:=hb d _ _ hd;exact ⟨⟨ds,by simp [upd,this,hd]⟩,by simp [Qu,this]⟩
 ·intro t2 Vz Y Z _ G;exact aa t2 Vz Y Z G
 ·intro d ae ds hd;have:=hb d _ _ hd;exact ⟨⟨ae,ds,by simp [upd,this,hd]⟩,by simp [Qu,this]⟩
def isNil:AV→Bool
 | .p (.val (.slice none 0 0))=>true
 | _=>false
def NJ (S:Nat) (x:AV):Option (List (List PV)) :=
 if isNil x then some [] else match elems x with | some (G,es)=>if G=S then some es else none | none=>none
theorem O7 {x:AV} (G:isNil x=true):x=.p (.val (.slice none 0 0)):=by
 unfold isNil at G;split at G
 ·rfl
 ·cases G
theorem O8 {S:Nat} {x:AV} (G:NJ S x=some es) (J:Qe φ h w M x v):QI w M (.sl S es) v:=by
 unfold NJ at G;split at G
 ·rename_i Y;simp only [QO] at G;subst G;rw [O7 Y] at J;simp only [Qe,QI] at J;simp only [QI];exact .inr ⟨trivial,none,0,J⟩
 ·split at G
  ·rename_i Z es' O;split at G
   ·rename_i hS;simp only [QO] at G;subst G hS;exact Me O J
   ·cases G
  ·cases G
def LC (P:Program) (T:Nat→Option AV) (h:QH) (dst:Option Tmp) (t:TypeId) (s x:Operand):Option Xq :=
  match P.underlying t,Zc T s,Zc T x with
  | some (.slice e),some sv,some xv =>
    match P.info? e with
    | some i =>
      match i.zero,NJ i.size xv with
      | some z,some es' =>
        if z.cells.size=i.size∧0 < i.size then
          if isNil sv then
            if es'=[] then some (sv,none,[]) else
            (match dst with
             | some d=>if h d=none∧es'.length * i.bytes≤140737488355328∧es'.length≤140737488355328 then some (.tsl i.size es' d,some (d, .arr e i.size es'.length),[d]) else none
             | none=>none)
          else match sv with
            | .tsl S es tk =>
              (match h tk with
               | some (.arr ty G n) =>
                 if es'=[] then some (.tsl S es tk,some (tk, .arr ty G n),[tk]) else
                 if ty=e∧G=S∧S=i.size∧n=es.length∧(es.length+es'.length) * i.bytes≤140737488355328∧es.length+es'.length≤140737488355328 then
                   some (.tsl S (es++es') tk,some (tk, .arr e S (es.length+es'.length)),[tk]) else none
               | _=>none)
            | _=>none
        else none
      | _,_=>none
    | none=>none
  | _,_,_=>none
end
section
variable {P:Program} {o:Oper} {φ:Nat→Nat} {M0:Zr} {N:Nat} {D:DB} {T:Nat→Option AV} {h:QH} {a:Act} {w:World}
theorem Z8 {s:Operand} (G:o.op=.call ⟨.builtin .append,#[s,x],#[t,t]⟩)
  (J:(Builtin.append_ #[t,t] o.type #[a.eval s,a.eval x]).run P w=.ok v w'):(execOp a.eval o).run P w=.ok (.value v) w':=by
 simp [execOp,G,resolve,invoke,builtin,J]
theorem Yv {i:TypeInfo} (J:P.underlying t=some (.slice e)) (hi:P.info? e=some i) (b q:Option Addr) (len cap c:Nat) (G:len≤cap) :
  (Builtin.append_ #[t,t] ty #[.slice b len cap, .slice q 0 c]).run P w=.ok (.slice b len cap) w:=by
 cases q <;> cases b <;> simp [Builtin.append_,run_underlying J,sizeOf,typeInfo,hi,Builtin.lenOf,G,Builtin.firstCells,loadCells,loadCellsFrom,storeCells]
theorem RH {S:Nat} (r:Zz φ h w M0) (Z:Clear φ h w 1) (hd:h' d=some (.arr ty S n)) (O:φ' d=w.heap.size)
  (J:∀ b k,b ≠ d→h' b=some k→h b=some k∧φ' b=φ b) {x:Nat} (hx:x < n * S):¬ MM φ' h' M0 w.heap.size x:=by
 rintro (⟨b,k,G,h2,h3⟩ | G)
 ·by_cases e:b=d
  ·subst e;rw [hd] at G;cases G;simp only at h3;omega
  ·obtain ⟨Y,h5⟩:=J b k e G;rcases Z b (by rw [Y]; simp) with h6 | h6 <;> omega
 ·exact absurd (r.lt _ _ G) zo
theorem Xu {S:Nat} (Z:QI w M (.sl S es) v) (hne:es ≠ []) :
  ∃ (J G cap:Nat) (l:List Value),v=.slice (some ⟨J,G,none⟩) es.length cap∧es.length≤cap∧(∀ e ∈ es,e.length=S)∧VN w M S J G es∧l.length=es.length * S ∧
   (∀ j u,l[j]?=some u→w.cell? ⟨J,G+j,none⟩=some u)∧(∀ u ∈ l,u.oneCell'=true)∧(∀ (j:Nat) c u,es.flatten[j]?=some c→l[j]?=some u→QI w M c u):=by
 simp only [QI] at Z;rcases Z with ⟨J,G,cap,O,h2,h3⟩ | ⟨O,_⟩
 ·have Y:=(Ko es G).1 h3;obtain ⟨l,g1,g2,g3,g4⟩:=FJ _ _ Y.2;exact ⟨J,G,cap,l,O,h2,Y.1,h3,by rw [g1,Zm Y.1],g2,g3,g4⟩
 ·exact absurd O hne
theorem tF (r:Q8 φ M0 N D T h a w) {s:Operand} (ho:o.op=.call ⟨.builtin .append,#[s,x],#[t,t]⟩) (he:LC P T h o.dst t s x=some u):Yield P o φ M0 h a w u.1 (ap h u.2.1):=by
 unfold LC at he;split at he;rotate_left
 ·cases he
 rename_i e sv xv ht hs hx;split at he;rotate_left
 ·cases he
 rename_i i hi;split at he;rotate_left
 ·cases he
 rename_i z es' hz bi;split at he;rotate_left
 ·cases he
 rename_i a6;refine Yield.of_lift r 1 fun φ r E0 X0 hC=>?_
 have ai:=O8 bi (r.ev hx);have aj:=r.ev hs;split at he
 ·rename_i hn;rw [O7 hn] at aj;simp only [Qe,QI] at aj;split at he
  ·rename_i au;subst au;simp only [QO] at he;subst he;simp only [ap];refine Qm r (v:=.slice none 0 0) ?_ (by rw [O7 hn]; simp [Qe,QI]);simp only [QI] at ai;rcases ai with ⟨rr,oo,cap,h1,_⟩ | ⟨_,q,cap,h1⟩
   ·exact Z8 ho (by rw [aj,h1]; exact Yv ht hi _ _ _ _ _ zq)
   ·exact Z8 ho (by rw [aj,h1]; exact Yv ht hi _ _ _ _ _ zq)
  ·rename_i hne;split at he;rotate_left
   ·cases he
   rename_i d bl;split at he;rotate_left
   ·cases he
   rename_i hc;obtain ⟨hd,ba,bd⟩:=hc;simp only [QO] at he;subst he;simp only [ap];have ah:es' ≠ []:=fun e=>hne e
   obtain ⟨rr,oo,cap,l,h1,h2,h3,h4,h5,h6,h7,h8⟩:=Xu ai ah;have ak:0 < es'.length:=List.length_pos_iff.2 ah;have ae:=run_append_nil (P:=P) w t o.type e i z ht hi hz ⟨rr,oo,none⟩ es'.length cap l (by rw [h5]) (fun j v J=>by rw [Addr.add_lit]; exact h6 j v J) ak zo zo;have ad:=grownCap_ge w es'.length 0 e;have af:grownCap w es'.length 0 e≤maxLen:=grownCap_le_maxLen w es'.length 0 e (by unfold maxLen; omega);generalize grownCap w es'.length 0 e=gc at *
   let C:Array Value:=l.toArray++Builtin.zeroCells z.cells (gc - es'.length)
   let w':World:=w.drew.alloc (.cells C e)
   obtain ⟨E,X⟩:=XY (w:=w) (w':=w') (o:=.cells C e) (b:=d) (k:=.arr e i.size es'.length) (φ:=φ) (h:=h) (M0:=M0) rfl rfl rfl rfl hd r.hp hC
   have ab:C.size=gc * i.size:=by
    simp only [C,Array.size_append,List.size_toArray,size_zeroCells,a6.1,h5];rw [← Nat.add_mul]; congr 1; omega
   have G:w'.heap[w.heap.size]?=some (.cells C e (0,0)):=by show (w.heap.push _)[w.heap.size]?=_; simp
   have hH:Zz (Qu φ d w.heap.size) (upd h d (.arr e i.size es'.length)) w' M0:=XZ rfl hd r.hp hC E X (.inr ⟨C,gc,G,ab,ad,af⟩);refine ⟨_, .slice (some ⟨w.heap.size,0,none⟩) es'.length gc,w',Qu φ d w.heap.size,Z8 ho (by rw [aj,h1]; exact ae), .inl rfl,?_,hH,E,X⟩
   have O:∀ x,x < es'.length * i.size→¬ MM (Qu φ d w.heap.size) (upd h d (.arr e i.size es'.length)) M0 w.heap.size x:=fun x hx =>
    RH (φ:=φ) (h:=h) r.hp hC (d:=d) (ty:=e) (S:=i.size) (n:=es'.length) (by simp [upd]) (by simp [Qu]) (fun b k hb hk=>⟨by simpa [upd,Ne.symm hb] using hk,by simp [Qu,Ne.symm hb]⟩) hx
   simp only [Qe,QI];refine ⟨.inl ⟨w.heap.size,0,gc,rfl,ad,?_⟩,e,es'.length,by simp [upd],Nat.le_refl _,fun _=>.inr ⟨gc,C,by simp [Qu],by simpa [Qu] using G,ab,ad,af⟩⟩;rw [Ko];refine ⟨h3,J8 (l:=l) (by rw [h5,Zm h3]) ?_ ?_ h7 ?_⟩
   ·intro j v J;rw [ZU G];have hlt:j < l.length:=(List.getElem?_eq_some_iff.1 J).1;simp only [Nat.zero_add,C];rw [Array.getElem?_append_left (by simpa using hlt)];simpa using J
   ·intro j J;simp only [Nat.zero_add];exact O j (by rw [← h5]; exact J)
   ·intro j c v J hv;exact (ZP (E.keeps M0)).1 _ _ (h8 j c v J hv)
 ·rename_i hn;split at he;rotate_left
  ·cases he
  rename_i S es tk;split at he;rotate_left
  ·cases he
  rename_i ty S' n aa;simp only [Qe] at aj;obtain ⟨aw,Vz,n2,ay,bb,al⟩:=aj;rw [aa] at ay;cases ay;split at he
  ·rename_i aq;simp only [QO] at he;subst he;simp only [ap]
   have bc:∀ {k:Blk},h tk=some k→upd h tk k=h:=by
    intro k hk;funext b;simp only [upd];split
    ·rename_i e; rw [← e,hk]
    ·rfl
   rw [bc aa];refine Qm r (v:=a.eval s) ?_ (by simp only [Qe]; exact ⟨aw,ty,n,aa,bb,al⟩)
   have bj:∃ q c,a.eval x=.slice q 0 c:=by
    subst aq;simp only [QI] at ai;rcases ai with ⟨rr,oo,cap,h1,_⟩ | ⟨_,q,cap,h1⟩
    ·exact ⟨_,_,by simpa using h1⟩
    ·exact ⟨q,cap,h1⟩
   obtain ⟨q,c,hq⟩:=bj;simp only [QI] at aw;rcases aw with ⟨rr,oo,cap,h1,h2,_⟩ | ⟨_,q2,cap,h1⟩
   ·exact Z8 ho (by rw [hq,h1]; exact Yv ht hi _ _ _ _ _ h2)
   ·exact Z8 ho (by rw [hq,h1]; exact Yv ht hi _ _ _ _ _ (Nat.zero_le _))
  ·rename_i aq;split at he;rotate_left
   ·cases he
   rename_i hc;obtain ⟨rfl,_,rfl,rfl,ba,bd⟩:=hc;simp only [QO] at he;subst he;simp only [ap];rcases al rfl with ⟨bh,ao,_⟩ | ⟨Z,c0,ao,a8,ar,bg,av⟩
   ·have au:es=[]:=List.length_eq_zero_iff.1 bh;subst au;simp only [List.length_nil,Nat.zero_add] at ba bd aa ⊢;have ah:es' ≠ []:=fun e=>aq e
    obtain ⟨rr,oo,cap,l,h1,h2,h3,h4,h5,h6,h7,h8⟩:=Xu ai ah;have ak:0 < es'.length:=List.length_pos_iff.2 ah;have ae:=run_append_nil (P:=P) w t o.type ty i z ht hi hz ⟨rr,oo,none⟩ es'.length cap l (by rw [h5]) (fun j v J=>by rw [Addr.add_lit]; exact h6 j v J) ak zo zo;have ad:=grownCap_ge w es'.length 0 ty;have af:grownCap w es'.length 0 ty≤maxLen:=grownCap_le_maxLen w es'.length 0 ty (by unfold maxLen; omega);generalize grownCap w es'.length 0 ty=gc at *
    let C:Array Value:=l.toArray++Builtin.zeroCells z.cells (gc - es'.length)
    let w':World:=w.drew.alloc (.cells C ty)
    obtain ⟨E,X⟩:=GU (w:=w) (w':=w') (ob:=.cells C ty) (φ:=φ) (h:=h) (M0:=M0) (n':=es'.length) aa zo rfl rfl rfl rfl r.hp hC
    have ab:C.size=gc * i.size:=by
     simp only [C,Array.size_append,List.size_toArray,size_zeroCells,a6.1,h5];rw [← Nat.add_mul]; congr 1; omega
    have G:w'.heap[w.heap.size]?=some (.cells C ty (0,0)):=by show (w.heap.push _)[w.heap.size]?=_; simp
    have Y:Qu φ tk w.heap.size tk=w.heap.size:=by simp [Qu]
    have hH:Zz (Qu φ tk w.heap.size) (upd h tk (.arr ty i.size es'.length)) w' M0 :=
     RG aa r.hp E X (fun b hb=>by simp [Qu,Ne.symm hb]) (.inr ⟨Y,hC⟩) (fun d hd _=>hC.lt r.hp (w':=w') (by show (w.heap.push _).size≤_; simp) (fun x hx=>by show (w.heap.push _)[x]?=_; rw [Array.getElem?_push,if_neg zo]) hd) (by rw [Y]; exact G) ab ad af
    refine ⟨_, .slice (some ⟨w.heap.size,0,none⟩) es'.length gc,w',Qu φ tk w.heap.size,Z8 ho (by rw [ao,h1]; exact ae), .inl rfl,?_,hH,E,X⟩
    have O:∀ x,x < es'.length * i.size→¬ MM (Qu φ tk w.heap.size) (upd h tk (.arr ty i.size es'.length)) M0 w.heap.size x:=fun x hx =>
     RH (φ:=φ) (h:=h) r.hp hC (d:=tk) (ty:=ty) (S:=i.size) (n:=es'.length) (by simp [upd]) Y (fun b k hb hk=>⟨by simpa [upd,Ne.symm hb] using hk,by simp [Qu,Ne.symm hb]⟩) hx
    simp only [Qe,QI,List.nil_append];refine ⟨.inl ⟨w.heap.size,0,gc,rfl,ad,?_⟩,ty,es'.length,by simp [upd],Nat.le_refl _,fun _=>.inr ⟨gc,C,by rw [Y],by rw [Y]; exact G,ab,ad,af⟩⟩;rw [Ko];refine ⟨h3,J8 (l:=l) (by rw [h5,Zm h3]) ?_ ?_ h7 ?_⟩
    ·intro j v J;rw [ZU G];have hlt:j < l.length:=(List.getElem?_eq_some_iff.1 J).1;simp only [Nat.zero_add,C];rw [Array.getElem?_append_left (by simpa using hlt)];simpa using J
    ·intro j J;simp only [Nat.zero_add];exact O j (by rw [← h5]; exact J)
    ·intro j c v J hv;exact (ZP (E.keeps M0)).1 _ _ (h8 j c v J hv)
   obtain ⟨rr,oo,cap,l,h1,h2,h3,h4,h5,h6,h7,h8⟩:=Xu ai aq;have ak:0 < es'.length:=List.length_pos_iff.2 aq
   have am:VN w (MM φ h M0) i.size (φ tk) 0 es:=by
    by_cases az:es=[]
    ·subst az; simp [VN]
    ·obtain ⟨r2,o2,bk,l2,g1,_,_,g4,_⟩:=Xu aw az;rw [ao] at g1;simp only [Value.slice.injEq,QO,Addr.mk.injEq] at g1;obtain ⟨⟨rfl,rfl,_⟩,_⟩:=g1;exact g4
   have an:∀ e ∈ es,e.length=i.size:=((Ko es 0).1 am).1;by_cases ac:es.length+es'.length≤Z
   ·have be:es.length * i.size+l.length≤c0.size:=by rw [h5,ar,← Nat.add_mul]; exact Nat.mul_le_mul_right _ ac
    have ae:=run_append_room (P:=P) w t o.type ty i ht hi (φ tk) es.length Z c0 a8 ⟨rr,oo,none⟩ es'.length cap l (by rw [h5]) (fun j v J=>by rw [Addr.add_lit]; exact h6 j v J) h7 ac be
    let C:Array Value:=(c0.toList.take (es.length * i.size)++l++c0.toList.drop (es.length * i.size+l.length)).toArray
    have a7:(c0.toList.take (es.length * i.size)).length=es.length * i.size:=by simp; omega
    have ab:C.size=c0.size:=by simp [C]; omega
    obtain ⟨E,X⟩:=AQ (φ:=φ) (h:=h) (w:=w) (M0:=M0) (n':=es.length+es'.length) (c':=C) aa a8 zo ab (fun x hx=>by
     simp only [C,List.getElem?_toArray];rw [List.append_assoc,List.getElem?_append_left (by rw [a7]; exact hx),List.getElem?_take,if_pos hx];simp) r.hp
    have G:(w.setRow (φ tk) C).heap[φ tk]?=some (.cells C ty (0,0)):=setRow_heap w _ c0 C ty _ a8
    have hH:Zz φ (upd h tk (.arr ty i.size (es.length+es'.length))) (w.setRow (φ tk) C) M0 :=
     RG aa r.hp E X (fun _ _=>rfl) (.inl rfl) (fun d hd bf=>setRow_other w _ _ C (fun e=>bf (r.hp.inj d tk hd (by rw [aa]; simp) e))) G (by rw [ab,ar]) ac av
    refine ⟨_, .slice (some ⟨φ tk,0,none⟩) (es.length+es'.length) Z,_,φ,Z8 ho (by rw [ao,h1]; exact ae), .inl rfl,?_,hH,E,X⟩
    have O:∀ x,x < (es.length+es'.length) * i.size→¬ MM φ (upd h tk (.arr ty i.size (es.length+es'.length))) M0 (φ tk) x:=by
     rintro x hx (⟨b,k,q1,q2,q3⟩ | q1)
     ·by_cases e:tk=b
      ·subst e;have:k=.arr ty i.size (es.length+es'.length):=by simpa [upd] using q1.symm
       subst this;simp only at q3;omega
      ·have q4:h b=some k:=by simpa [upd,e] using q1
       exact e (r.hp.inj b tk (by rw [q4]; simp) (by rw [aa]; simp) q2).symm
     ·exact r.hp.fr tk (by rw [aa]; simp) x q1
    simp only [Qe,QI];refine ⟨.inl ⟨φ tk,0,Z,by simp,by simpa using ac,?_⟩,ty,es.length+es'.length,by simp [upd],by simp,fun _=>.inr ⟨Z,C,rfl,G,by rw [ab,ar],ac,av⟩⟩;rw [Vh];refine ⟨(ZP (E.keeps M0)).2.1 _ _ _ _ am,?_⟩;rw [Ko];refine ⟨h3,J8 (l:=l) (by rw [h5,Zm h3]) ?_ ?_ h7 ?_⟩
    ·intro j v J;rw [ZU G];have hlt:j < l.length:=(List.getElem?_eq_some_iff.1 J).1;simp only [Nat.zero_add,C,List.getElem?_toArray];rw [List.append_assoc,List.getElem?_append_right (by rw [a7]; omega),a7,List.getElem?_append_left zo];rw [show es.length * i.size+j - es.length * i.size=j from by omega];exact J
    ·intro j J;simp only [Nat.zero_add];refine O _ ?_;rw [h5] at J;rw [Nat.add_mul]; omega
    ·intro j c v J hv;exact (ZP (E.keeps M0)).1 _ _ (h8 j c v J hv)
   ·obtain ⟨ol,g1,g2,g3,g4⟩:=FJ _ _ ((Ko es 0).1 am).2;have ax:ol.length=es.length * i.size:=by rw [g1,Zm an]
    have ae:=run_append_grow (P:=P) w t o.type ty i z ht hi hz ⟨φ tk,0,none⟩ es.length Z ol ax (fun j v J=>by rw [Addr.add_lit]; exact g2 j v J) ⟨rr,oo,none⟩ es'.length cap l (by rw [h5])
     (fun j v J=>by rw [Addr.add_lit]; exact h6 j v J) zo zo (growslice_fits zo ba)
    have ad:=grownCap_ge w (es.length+es'.length) Z ty;have af:grownCap w (es.length+es'.length) Z ty≤maxLen:=grownCap_le_maxLen w _ Z ty (by unfold maxLen; omega);generalize grownCap w (es.length+es'.length) Z ty=gc at *
    let C:Array Value:=ol.toArray++l.toArray++Builtin.zeroCells z.cells (gc - (es.length+es'.length))
    let w':World:=w.drew.alloc (.cells C ty)
    obtain ⟨E,X⟩:=GU (w:=w) (w':=w') (ob:=.cells C ty) (φ:=φ) (h:=h) (M0:=M0) (n':=es.length+es'.length) aa zo rfl rfl rfl rfl r.hp hC
    have ab:C.size=gc * i.size:=by
     simp only [C,Array.size_append,List.size_toArray,size_zeroCells,a6.1,h5,ax];rw [← Nat.add_mul,← Nat.add_mul]; congr 1; omega
    have G:w'.heap[w.heap.size]?=some (.cells C ty (0,0)):=by show (w.heap.push _)[w.heap.size]?=_; simp
    have Y:Qu φ tk w.heap.size tk=w.heap.size:=by simp [Qu]
    have hH:Zz (Qu φ tk w.heap.size) (upd h tk (.arr ty i.size (es.length+es'.length))) w' M0 :=
     RG aa r.hp E X (fun b hb=>by simp [Qu,Ne.symm hb]) (.inr ⟨Y,hC⟩) (fun d hd _=>hC.lt r.hp (w':=w') (by show (w.heap.push _).size≤_; simp) (fun x hx=>by show (w.heap.push _)[x]?=_; rw [Array.getElem?_push,if_neg zo]) hd) (by rw [Y]; exact G) ab ad af
    refine ⟨_, .slice (some ⟨w.heap.size,0,none⟩) (es.length+es'.length) gc,w',Qu φ tk w.heap.size,Z8 ho (by rw [ao,h1]; exact ae), .inl rfl,?_,hH,E,X⟩
    have O:∀ x,x < (es.length+es'.length) * i.size→¬ MM (Qu φ tk w.heap.size) (upd h tk (.arr ty i.size (es.length+es'.length))) M0 w.heap.size x:=fun x hx =>
     RH (φ:=φ) (h:=h) r.hp hC (d:=tk) (ty:=ty) (S:=i.size) (n:=es.length+es'.length) (by simp [upd]) Y (fun b k hb hk=>⟨by simpa [upd,Ne.symm hb] using hk,by simp [Qu,Ne.symm hb]⟩) hx
    simp only [Qe,QI];refine ⟨.inl ⟨w.heap.size,0,gc,by simp,by simpa using ad,?_⟩,ty,es.length+es'.length,by simp [upd],by simp,fun _=>.inr ⟨gc,C,by rw [Y],by rw [Y]; exact G,ab,ad,af⟩⟩;rw [Vh];constructor
    ·rw [Ko];refine ⟨an,J8 (l:=ol) g1 ?_ ?_ g3 ?_⟩
     ·intro j v J;rw [ZU G];have hlt:j < ol.length:=(List.getElem?_eq_some_iff.1 J).1;simp only [Nat.zero_add,C];rw [Array.append_assoc,Array.getElem?_append_left (by simpa using hlt)];simpa using J
     ·intro j J;simp only [Nat.zero_add];refine O _ ?_;rw [ax] at J;rw [Nat.add_mul]; omega
     ·intro j c v J hv;exact (ZP (E.keeps M0)).1 _ _ (g4 j c v J hv)
    ·rw [Ko];refine ⟨h3,J8 (l:=l) (by rw [h5,Zm h3]) ?_ ?_ h7 ?_⟩
     ·intro j v J;rw [ZU G];have hlt:j < l.length:=(List.getElem?_eq_some_iff.1 J).1;simp only [Nat.zero_add,C];rw [Array.append_assoc,Array.getElem?_append_right (by simp; omega),Array.getElem?_append_left (by simp; omega)];simp only [List.size_toArray,ax,List.getElem?_toArray];rw [show es.length * i.size+j - es.length * i.size=j from by omega];exact J
     ·intro j J;simp only [Nat.zero_add];refine O _ ?_;rw [h5] at J;rw [Nat.add_mul]; omega
     ·intro j c v J hv;exact (ZP (E.keeps M0)).1 _ _ (h8 j c v J hv)
end
def tH:AV→Option PV
 | .p x=>some x
 | .tsl S es _=>some (.sl S es)
 | _=>none
def DC:List AV→Option (List PV)
 | []=>some []
 | x :: xs=>match tH x,DC xs with | some y,some ys=>some (y :: ys) | _,_=>none
def QaB (P:Program):Nat→TypeId→List (Option Nat)
 | 0,_=>[]
 | d+1,t=>match P.underlying t with
  | some (.slice e)=>[some (P.cellsOf e)]
  | some (.struct G)=>G.toList.flatMap fun f=>QaB P d f.type
  | some (.array n e)=>(List.replicate n (QaB P d e)).flatten
  | _=>[none]
def CS:List (Option Nat)→List PV→List PV
 | _,[]=>[]
 | [],c :: cs=>c :: cs
 | some S :: ss, .val (.slice none 0 0) :: cs=>.sl S [] :: CS ss cs
 | _ :: ss,c :: cs=>c :: CS ss cs
def Ni (S:Nat):Nat→List PV→List (List PV)
 | 0,_=>[]
 | n+1,l=>l.take S :: Ni S n (l.drop S)
theorem O9 {S:Nat}:∀ (n:Nat) (l:List PV),l.length=n * S→(Ni S n l).flatten=l∧(Ni S n l).length=n∧∀ e ∈ Ni S n l,e.length=S
 | 0,l,J=>by
  have:l=[]:=List.eq_nil_of_length_eq_zero (by simpa using J);subst this;simp [Ni]
 | n+1,l,J=>by
  have Y:(n+1) * S=n * S+S:=by rw [Nat.add_mul]; omega
  obtain ⟨a1,a2,O⟩:=O9 (S:=S) n (l.drop S) (by rw [List.length_drop]; omega);refine ⟨by simp only [Ni,List.flatten_cons,a1,List.take_append_drop],by simp [Ni,a2],?_⟩;intro e G;simp only [Ni,List.mem_cons] at G;rcases G with rfl | G
  ·simp; omega
  ·exact O e G
section
variable {P:Program} {o:Oper} {φ:Nat→Nat} {M0:Zr} {N:Nat} {D:DB} {T:Nat→Option AV} {h:QH} {a:Act} {w:World}
theorem xQ {x:AV} {y:PV} (G:tH x=some y) (J:Qe φ h w M x v):QI w M y v:=by
 cases x with
 | p x=>simp only [tH,QO] at G; subst G; simpa only [Qe] using J
 | tsl S es t=>simp only [tH,QO] at G; subst G; simp only [Qe] at J; exact J.1
 | _=>simp [tH] at G
theorem yB {M:Zr}:∀ {xs:List AV} {ys:List PV} {l:List Value},DC xs=some ys→Qi φ h w M xs l→ys.length=l.length∧∀ (j:Nat) c u,ys[j]?=some c→l[j]?=some u→QI w M c u
 | [],ys,l,G,J=>by simp only [DC,QO] at G; subst G; simp only [Qi] at J; subst J; simp
 | x :: xs,ys,l,G,J=>by
  simp only [DC] at G;split at G
  ·rename_i y aa Y h2;simp only [QO] at G;subst G;simp only [Qi] at J;obtain ⟨v,vs,rfl,h3,Z⟩:=J;obtain ⟨h5,h6⟩:=yB h2 Z;refine ⟨by simp [h5],fun j c u O hu=>?_⟩;cases j with
   | zero=>simp at O hu; subst O hu; exact xQ Y h3
   | succ j=>exact h6 j c u (by simpa using O) (by simpa using hu)
  ·cases G
theorem yC {M:Zr}:∀ {ss:List (Option Nat)} {ys:List PV} {l:List Value},ys.length=l.length→(∀ (j:Nat) c u,ys[j]?=some c→l[j]?=some u→QI w M c u) →
  (CS ss ys).length=l.length∧∀ (j:Nat) c u,(CS ss ys)[j]?=some c→l[j]?=some u→QI w M c u
 | ss,[],l,O,h=>by unfold CS; exact ⟨O,h⟩
 | [],c :: cs,l,O,h=>by unfold CS; exact ⟨O,h⟩
 | s :: ss,c :: cs,[],O,h=>by simp at O
 | s :: ss,c :: cs,v :: l,O,h=>by
  have Z:=yC (ss:=ss) (ys:=cs) (l:=l) (by simpa using O) (fun j c u G J=>h (j+1) c u (by simpa using G) (by simpa using J));have h0:=h 0 c v zq zq
  have Y:∀ c',QI w M c' v→(c' :: CS ss cs).length=(v :: l).length∧∀ (j:Nat) c u,(c' :: CS ss cs)[j]?=some c→(v :: l)[j]?=some u→QI w M c u:=by
   intro c' hc;refine ⟨by simp [Z.1],fun j c u G J=>?_⟩;cases j with
   | zero=>simp at G J; subst G J; exact hc
   | succ j=>exact Z.2 j c u (by simpa using G) (by simpa using J)
  unfold CS;split
  ·rename_i h; cases h
  ·rename_i h _; cases h
  ·rename_i S aa cs' G J;cases G; cases J;refine Y _ ?_;simp only [QI] at h0 ⊢;exact .inr ⟨trivial,none,0,h0⟩
  ·rename_i G J;cases G; cases J;exact Y _ h0
theorem Mh (l:List Value) (s:Nat) (hs:l.length=s) (hp:0 < s):∀ n:Nat,(List.range (n * s)).map (fun k=>l.toArray[k % l.toArray.size]!)=(List.replicate n l).flatten
 | 0=>by simp
 | n+1=>by
  rw [Nat.add_mul,Nat.one_mul,List.range_add,List.map_append,Mh l s hs hp n,List.replicate_succ',List.flatten_append];congr 1;simp only [List.map_map,List.flatten_cons,List.flatten_nil,List.append_nil];apply List.ext_getElem?;intro j;by_cases G:j < s
  ·have:(n * s+j) % s=j:=by rw [Nat.add_comm,Nat.add_mul_mod_self_right]; exact Nat.mod_eq_of_lt G
   simp [G,hs,this]
  ·simp [G,hs]
def Ht (P:Program) (T:Nat→Option AV) (h:QH) (dst:Option Tmp) (t:TypeId) (len:Nat) (parts:Array (Nat × Operand)):Option Xq :=
 match P.underlying t,dst,O4 T parts.toList with
 | some (.slice e),some d,some ps =>
  match P.info? e with
  | some i =>
   match i.zero,h d with
   | some z,none =>
    match cellsOf (zR z) with
    | some J =>
     if J.length=i.size∧0 < i.size∧len * i.size≤16777216 then
      match PX (fun k=>some (k * i.size,i.size)) (List.replicate len J).flatten ps with
      | some G =>
       match (DC G).map (CS (List.replicate len (QaB P 5 e)).flatten) with
       | some pvs=>if pvs.length=len * i.size∧UB G then some (.tsl i.size (Ni i.size len pvs) d,some (d, .arr e i.size len),[d]) else none
       | none=>none
      | none=>none
     else none
    | none=>none
   | _,_=>none
  | none=>none
 | _,_,_=>none
theorem Xh {M:Zr} {xs:List AV} {l:List Value} (G:Qi φ h w M xs l):∀ n:Nat,Qi φ h w M (List.replicate n xs).flatten (List.replicate n l).flatten
 | 0=>by simp [Qi]
 | n+1=>by simp only [List.replicate_succ,List.flatten_cons]; exact Zl G (Xh G n)
theorem zZ (r:Q8 φ M0 N D T h a w) (ho:o.op=.buildSlice t len parts) (G:Ht P T h o.dst t len parts=some u):Yield P o φ M0 h a w u.1 (ap h u.2.1):=by
 unfold Ht at G;split at G;rotate_left
 ·cases G
 rename_i e d ps ht au aq;split at G;rotate_left
 ·cases G
 rename_i i hi;split at G;rotate_left
 ·cases G
 rename_i z hz hd;split at G;rotate_left
 ·cases G
 rename_i zs ak;split at G;rotate_left
 ·cases G
 rename_i ae;split at G;rotate_left
 ·cases G
 rename_i rs al;split at G;rotate_left
 ·cases G
 rename_i pvs ah;split at G;rotate_left
 ·cases G
 rename_i Y;simp only [QO] at G;subst G;simp only [ap];refine Yield.of_lift r 1 fun φ r E0 X0 hC=>?_
 obtain ⟨h1,h2⟩:=CR r aq;obtain ⟨h3,_,_⟩:=Vi ak (Wp (φ:=φ) (h:=h) (w:=w) (M:=MM φ h M0) z);have aw:=Zt h3;have am:z.cells.toList.length=i.size:=by omega
 have ac:Qi φ h w (MM φ h M0) (List.replicate len zs).flatten (((Array.range (len * i.size)).map (z.cells[· % z.cells.size]!)).toList):=by
  have e1:((Array.range (len * i.size)).map (z.cells[· % z.cells.size]!)).toList=(List.replicate len z.cells.toList).flatten:=by
   have:=Mh z.cells.toList i.size am ae.2.1 len;simp only [Array.toArray_toList] at this;rw [← this];simp [Array.toList_range]
  rw [e1];exact Xh h3 len
 obtain ⟨c',h4,h5⟩:=PZ (placeC:=fun k=>some (k * i.size,i.size)) (fun k x hx=>hx) ps _ _ _ rs h1 h2 ac al;have av:=Zt h5;obtain ⟨ar,ab,aa⟩:=Fe.1 ah;have O:=yB ab h5;have O:=yC (ss:=(List.replicate len (QaB P 5 e)).flatten) O.1 O.2;rw [aa] at O;obtain ⟨h6,h7⟩:=O;have Z:c'.size=len * i.size:=by simp at h6; omega
 have ai:=TM Y.2 h5;obtain ⟨g1,g2,g3⟩:=O9 len pvs Y.1
 let w':World:=w.alloc (.cells c' e)
 obtain ⟨E,X⟩:=XY (w:=w) (w':=w') (o:=.cells c' e) (b:=d) (k:=.arr e i.size len) (φ:=φ) (h:=h) (M0:=M0) rfl rfl rfl rfl hd r.hp hC;have J:w'.heap[w.heap.size]?=some (.cells c' e (0,0)):=by show (w.heap.push _)[w.heap.size]?=_; simp
 have aj:len≤maxLen:=by
  have:len * 1≤len * i.size:=Nat.mul_le_mul_left _ ae.2.1;unfold maxLen; omega
 have hH:Zz (Qu φ d w.heap.size) (upd h d (.arr e i.size len)) w' M0:=XZ rfl hd r.hp hC E X (.inr ⟨c',len,J,Z,Nat.le_refl _,aj⟩);refine ⟨_, .slice (some ⟨w.heap.size,0,none⟩) len len,w',Qu φ d w.heap.size,?_, .inl rfl,?_,hH,E,X⟩
 ·have hq:(parts.map fun (x:Nat × Operand)=>(x.1,a.eval x.2)).toList=parts.toList.map fun (x:Nat × Operand)=>(x.1,a.eval x.2):=by simp
  have af:¬ (len * i.size > 2 ^ 24):=by omega
  by_cases h0:len * i.size=0
  ·have ao:len=0:=by
    rcases Nat.mul_eq_zero.1 h0 with x | x
    ·exact x
    ·omega
   subst ao;have e0:(Array.range (0 * i.size)).map (z.cells[· % z.cells.size]!)=#[]:=by apply Array.ext'; simp
   have e2:(Array.range 0).map (fun _=>(default:Value))=#[]:=by apply Array.ext'; simp
   rw [e0] at h4;have an:Instr.fill (fun k=>some (k * i.size,i.size)) #[] (parts.toList.map fun (x:Nat × Operand)=>(x.1,a.eval x.2))=some c':=h4;simp only [execOp,ho,Instr.buildSlice,Sem.run_bind,run_underlying ht,QX hi,Result.andThen_ok,hq,h0,if_true,Sem.run_pure];simp [newRow,newObj,Sem.run,w',e2,an]
  ·simp only [execOp,ho,Instr.buildSlice,Sem.run_bind,run_underlying ht,QX hi,Result.andThen_ok,af,if_false,h0,hq,zeroValue,typeInfo,program,Sem.run,hi,hz,Sem.run_pure,h4];simp [newRow,newObj,Sem.run,w']
 ·have ad:∀ x,x < len * i.size→¬ MM (Qu φ d w.heap.size) (upd h d (.arr e i.size len)) M0 w.heap.size x:=fun x hx =>
   RH (φ:=φ) (h:=h) r.hp hC (d:=d) (ty:=e) (S:=i.size) (n:=len) (by simp [upd]) (by simp [Qu]) (fun b k hb hk=>⟨by simpa [upd,Ne.symm hb] using hk,by simp [Qu,Ne.symm hb]⟩) hx
  simp only [Qe,QI];refine ⟨.inl ⟨w.heap.size,0,len,by rw [g2],by omega,?_⟩,e,len,by simp [upd],by omega,fun _=>.inr ⟨len,c',by simp [Qu],by simpa [Qu] using J,Z,Nat.le_refl _,aj⟩⟩;rw [Ko,g1];refine ⟨g3,J8 (l:=c'.toList) h6.symm ?_ ?_ ai ?_⟩
  ·intro j v hj;rw [ZU J];simpa using hj
  ·intro j hj;simp only [Nat.zero_add];exact ad j (by simp at hj; omega)
  ·intro j c v hj hv;exact (ZP (E.keeps M0)).1 _ _ (h7 j c v hj hv)
def XI (T:Nat→Option AV) (G:Nat):Option Operand→Option Nat
 | none=>some G
 | some x=>match Zc T x with | some (.p (.val (.int _ n)))=>if 0≤n then some n.toNat else none | _=>none
def TP (P:Program) (T:Nat→Option AV) (t:TypeId) (x:Operand) (lo hi J:Option Operand):Option Xq :=
 match P.underlying t,Zc T x with
 | some (.slice e),some v =>
  match elems v,P.info? e with
  | some (S,es),some i =>
   match XI T 0 lo,XI T es.length hi with
   | some l,some G =>
    if S=i.size∧l≤G∧G≤es.length then
     match J with
     | none=>some (.p (.sl S ((es.take G).drop l)),none,[])
     | some _=>match hi,XI T es.length J with | some _,some m=>if G≤m∧m≤es.length then some (.p (.sl S ((es.take G).drop l)),none,[]) else none | _,_=>none
    else none
   | _,_=>none
  | _,_=>none
 | _,_=>none
theorem TQ (r:Q8 φ M0 N D T h a w) {J:Nat} (G:XI T J (some x)=some n):∃ k,a.eval x=.int k n:=by
 simp only [XI] at G;split at G
 ·rename_i k m O;split at G
  ·rename_i Y;simp only [QO] at G;have:=r.ev O;simp only [Qe,QI] at this;exact ⟨k,by rw [this]; congr 1; omega⟩
  ·cases G
 ·cases G
theorem run_sliceBound {x:Value} {k:IntKind} {y:Nat} {code:BoundsCode} (G:x=.int k n) (J:n≤y):(Instr.sliceBound x y code).run P w=.ok n w:=by
 subst G;have:(0:Int)≤(n:Int)∧(n:Int)≤(y:Int):=⟨by omega,by omega⟩;simp [Instr.sliceBound,asIntOf,this]
theorem wy {S Z Y cap l G m:Nat} (O:VN w M S Z Y es) (h1:l≤G) (h2:G≤es.length) (h3:G≤m) :
  QI w M (.sl S ((es.take G).drop l)) (.slice (if m=l then some ⟨Z,Y,none⟩ else some ⟨Z,Y+l * S,none⟩) (G - l) (m - l)):=by
 have J:((es.take G).drop l).length=G - l:=by simp; omega
 simp only [QI];by_cases he:G=l
 ·right;refine ⟨List.eq_nil_of_length_eq_zero (by rw [J]; omega),(if m=l then some ⟨Z,Y,none⟩ else some ⟨Z,Y+l * S,none⟩),m - l,?_⟩;have e0:G - l=0:=by omega
  rw [e0]
 ·left;have hne:¬ m=l:=by omega
  refine ⟨Z,Y+l * S,m - l,by simp [hne,J],by omega,?_⟩
  have e1:es=(es.take G).take l++((es.take G).drop l++es.drop G):=by
   rw [← List.append_assoc,List.take_append_drop,List.take_append_drop]
  rw [e1,Vh] at O;have hl:((es.take G).take l).length=l:=by simp; omega
  rw [hl] at O;have:=O.2;rw [Vh] at this;exact this.1
theorem QaC (r:Q8 φ M0 N D T h a w) {hi mx:Option Operand} (ho:o.op=.slice t x lo hi mx) (G:TP P T t x lo hi mx=some u):u.2.1=none∧Yield P o φ M0 h a w u.1 h:=by
 unfold TP at G;split at G;rotate_left
 ·cases G
 rename_i e v ht hx;split at G;rotate_left
 ·cases G
 rename_i S es i af ab;split at G;rotate_left
 ·cases G
 rename_i l J hl Y;split at G;rotate_left
 ·cases G
 rename_i hc;obtain ⟨rfl,ae,ac⟩:=hc;have h2:=Me af (r.ev hx)
 have Z:∃ (q:Option Addr) (cap:Nat),a.eval x=.slice q es.length cap∧es.length≤cap∧(es=[]∨∃ rr oo,q=some ⟨rr,oo,none⟩∧VN w (MM φ h M0) i.size rr oo es):=by
  simp only [QI] at h2;rcases h2 with ⟨rr,oo,cap,g1,g2,g3⟩ | ⟨rfl,q,cap,g1⟩
  ·exact ⟨_,cap,g1,g2, .inr ⟨rr,oo,rfl,g3⟩⟩
  ·exact ⟨q,cap,g1,Nat.zero_le _, .inl rfl⟩
 obtain ⟨q,cap,hv,al,ah⟩:=Z;have am:∀ y,J≤y→True:=fun _ _=>trivial
 have O:∀ (code:BoundsCode),(match lo.map a.eval with | some v=>Instr.sliceBound v J code | none=>pure 0).run P w=.ok l w:=by
  intro code;cases lo with
  | none=>simp only [XI,QO] at hl; subst hl; rfl
  | some y=>obtain ⟨k,hk⟩:=TQ r hl; exact run_sliceBound hk ae
 have fin:∀ m,J≤m→Qe φ h w (MM φ h M0) (.p (.sl i.size ((es.take J).drop l))) (.slice (if m=l then q else q.map (·.add (l * i.size))) (J - l) (m - l)):=by
  intro m hm;simp only [Qe];rcases ah with rfl | ⟨rr,oo,rfl,g3⟩
  ·have:J=0:=by simpa using ac
   subst this;have aj:l=0:=by omega
   subst aj;simp only [QI];exact .inr ⟨by simp,(if m=0 then q else q.map (·.add (0 * i.size))),m,by simp⟩
  ·have:=wy (m:=m) (cap:=cap) g3 ae ac hm;simpa [Addr.add_lit] using this
 split at G
 ·simp only [QO] at G;subst G;refine ⟨rfl,Qm r (v:=.slice (if cap=l then q else q.map (·.add (l * i.size))) (J - l) (cap - l)) ?_ (fin cap zo)⟩
  have hb:(Instr.sliceBounds true es.length cap (lo.map a.eval) (hi.map a.eval) none).run P w=.ok (l,J,cap) w:=by
   cases hi with
   | none =>
    simp only [XI,QO] at Y;subst Y;have:=O .sliceB;cases lo with
    | none=>simp [Instr.sliceBounds] at this ⊢; exact this
    | some y=>simp [Instr.sliceBounds] at this ⊢; simp [this]
   | some y =>
    obtain ⟨k,hk⟩:=TQ r Y;have ad:=run_sliceBound (P:=P) (w:=w) (code:=.sliceAcap) hk (show J≤cap by omega);have:=O .sliceB;cases lo with
    | none=>simp [Instr.sliceBounds,ad] at this ⊢; exact this
    | some y=>simp [Instr.sliceBounds,ad] at this ⊢; simp [this]
  simp [execOp,ho,Instr.sliceAt,Instr.slice,run_underlying ht,hv,hb,QX ab]
 ·rename_i y;split at G;rotate_left
  ·cases G
  rename_i yh m hm;split at G;rotate_left
  ·cases G
  rename_i aa;simp only [QO] at G;subst G;refine ⟨rfl,Qm r (v:=.slice (if m=l then q else q.map (·.add (l * i.size))) (J - l) (m - l)) ?_ (fin m aa.1)⟩;obtain ⟨k1,ak⟩:=TQ r hm;obtain ⟨k2,ai⟩:=TQ r Y
  have hb:(Instr.sliceBounds true es.length cap (lo.map a.eval) (some (a.eval yh)) (some (a.eval y))).run P w=.ok (l,J,m) w:=by
   have b1:=run_sliceBound (P:=P) (w:=w) (code:=.slice3Acap) ak (show m≤cap by omega);have b2:=run_sliceBound (P:=P) (w:=w) (code:=.slice3B) ai aa.1;have:=O .slice3C;cases lo with
   | none=>simp [Instr.sliceBounds,b1,b2] at this ⊢; exact this
   | some y=>simp [Instr.sliceBounds,b1,b2] at this ⊢; simp [this]
  simp [execOp,ho,Instr.sliceAt,Instr.slice,run_underlying ht,hv,hb,QX ab]
end
section
variable {P:Program} {o:Oper} {φ:Nat→Nat} {M0:Zr} {N:Nat} {D:DB} {T:Nat→Option AV} {h:QH} {a:Act} {w:World}
theorem CU {S:Nat}:∀ {es:List (List PV)} {k:Nat} {e:List PV} {f:Nat},(∀ e ∈ es,e.length=S)→es[k]?=some e→f < S→es.flatten[k * S+f]?=e[f]?
 | [],_,_,_,_,G,_=>by simp at G
 | O :: es,0,e,f,J,G,hf=>by
  simp only [List.getElem?_cons_zero,QO] at G;subst G;have:=J O zq;simp only [Nat.zero_mul,Nat.zero_add,List.flatten_cons];rw [List.getElem?_append_left zo]
 | O :: es,k+1,e,f,J,G,hf=>by
  have h0:=J O zq;simp only [List.getElem?_cons_succ] at G;have:=CU (f:=f) (fun e Y=>J e (by simp [Y])) G hf;rw [List.flatten_cons,List.getElem?_append_right (by rw [h0,Nat.add_mul]; omega),h0,Nat.add_mul,show k * S+1 * S+f - S=k * S+f from by omega];exact this
theorem AR {S:Nat}:∀ {es:List (List PV)} {k:Nat} {e G:List PV},(∀ e ∈ es,e.length=S)→es[k]?=some e→G.length=S→(es.set k G).flatten=es.flatten.take (k * S)++G++es.flatten.drop (k * S+S)
 | [],_,_,_,_,J,_=>by simp at J
 | Y :: es,0,e,G,O,J,hf=>by
  have h0:=O Y zq;simp only [List.set_cons_zero,List.flatten_cons,Nat.zero_mul,Nat.zero_add,List.take_zero,List.nil_append];rw [← h0,List.drop_left]
 | Y :: es,k+1,e,G,O,J,hf=>by
  have h0:=O Y zq;simp only [List.getElem?_cons_succ] at J;have:=AR (fun e he=>O e (by simp [he])) J hf;simp only [List.set_cons_succ,List.flatten_cons,this];have Z:(k+1) * S=Y.length+k * S:=by rw [h0,Nat.add_mul]; omega
  rw [Z,List.take_length_add_append,Nat.add_assoc,List.drop_length_add_append];simp [List.append_assoc]
theorem AU {t:Nat} {S:Nat} {c:Array Value} (Z:h t=some (.vec ty S es)) (hw:w.heap[φ t]?=some (.cells c ty (0,0))) (hn:es.length≤es'.length) (ai:c'.size=c.size)
  (r:Zz φ h w M0):QW φ h w φ (upd h t (.vec ty S es')) (w.setRow (φ t) c')∧VR φ h w φ (upd h t (.vec ty S es')) (w.setRow (φ t) c'):=by
 have G:∀ x,x ≠ φ t→(w.setRow (φ t) c').heap[x]?=w.heap[x]?:=fun x hx=>setRow_other w _ x c' hx
 have ae:(w.setRow (φ t) c').heap[φ t]?=some (.cells c' ty (0,0)):=setRow_heap w _ c c' ty _ hw;have hb:∀ b ty cs,h b=some (.box ty cs)→t ≠ b:=fun b ty cs hb e=>by rw [← e,Z] at hb; cases hb
 have ab:∀ t2 Vz Y n2,h t2=some (.arr Vz Y n2)→∃ n3,upd h t (.vec ty S es') t2=some (.arr Vz Y n3)∧n2≤n3 ∧
   (n3=n2→AKept w (w.setRow (φ t) c') (φ t2) (φ t2) Vz):=by
  intro t2 Vz Y n2 J;have e:¬ t=t2:=fun e=>by rw [← e,Z] at J; cases J
  have hne:φ t2 ≠ φ t:=fun e2=>e (r.inj t2 t (by rw [J]; simp) (by rw [Z]; simp) e2).symm
  exact ⟨n2,by simp [upd,e,J],Nat.le_refl _,fun _=>Yp (rfl) (by rw [G _ hne])⟩
 have ac:∀ t2 Vz Y O,h t2=some (.vec Vz Y O)→∃ ad,upd h t (.vec ty S es') t2=some (.vec Vz Y ad)∧O.length≤ad.length ∧
   (ad.length=O.length→φ t2=φ t2∧∀ c0,w.heap[φ t2]?=some (.cells c0 Vz (0,0))→∃ c1,(w.setRow (φ t) c').heap[φ t2]?=some (.cells c1 Vz (0,0))∧c1.size=c0.size):=by
  intro t2 Vz Y n2 J;by_cases e:t=t2
  ·subst e;rw [Z] at J;cases J;refine ⟨es',by simp [upd],hn,fun _=>⟨rfl,fun c0 aa=>⟨c',ae,?_⟩⟩⟩;rw [hw] at aa;cases aa;exact ai
  ·have hne:φ t2 ≠ φ t:=fun e2=>e (r.inj t2 t (by rw [J]; simp) (by rw [Z]; simp) e2).symm
   exact ⟨n2,by simp [upd,e,J],Nat.le_refl _,fun _=>⟨rfl,fun c0 aa=>⟨c0,by rw [G _ hne]; exact aa,rfl⟩⟩⟩
 have af:∀ d k x,h d=some k→k.ob=some x→(∃ k',upd h t (.vec ty S es') d=some k'∧k'.ob=some x)∧φ d=φ d:=by
  intro d k x hd ho;have e:¬ t=d:=fun e=>by rw [← e,Z] at hd; cases hd; cases ho
  exact ⟨⟨k,by simp [upd,e,hd],ho⟩,rfl⟩
 refine ⟨⟨rfl,rfl,rfl,by simp,?_,?_,?_,?_,fun t2 Vz Y O _ J=>ab t2 Vz Y O J,fun t2 Vz Y O _ J=>ac t2 Vz Y O J,fun d k x _=>af d k x⟩,?_,ab,ac,af⟩
 ·intro x _ aj;exact G x (fun e=>aj t (by rw [Z]; simp) e.symm)
 ·intro x o _ hm;have e:x ≠ φ t:=fun e=>hm ⟨t,_,Z,e.symm,trivial⟩
  simp [World.cell?,G x e]
 ·rintro x y _ ⟨d,q,h1,J,h3⟩;by_cases e:t=d
  ·subst e;exact ⟨t,_,Z,J,trivial⟩
  ·exact ⟨d,q,by simpa [upd,e] using h1,J,h3⟩
 ·intro d ah ds _ hd;exact ⟨⟨ds,by simp [upd,hb d _ _ hd,hd]⟩,rfl⟩
 ·intro d ah ds hd;exact ⟨⟨ah,ds,by simp [upd,hb d _ _ hd,hd]⟩,rfl⟩
theorem qa {t:Nat} {S:Nat} {cap:Nat} (ht:h t=some (.vec ty S es)) (r:Zz φ h w M0)
  (E:QW φ h w φ' (upd h t (.vec ty S es')) w') (X:VR φ h w φ' (upd h t (.vec ty S es')) w')
  (J:∀ b,b ≠ t→φ' b=φ b) (Y:φ' t=φ t∨φ' t=w.heap.size∧Clear φ h w 1) (ab:∀ d,h d ≠ none→d ≠ t→w'.heap[φ d]?=w.heap[φ d]?)
  (af:w'.heap[φ' t]?=some (.cells c' ty (0,0))) (ae:c'.size=cap * S) (aa:es'.length≤cap) (ac:cap≤maxLen) (hS:∀ e ∈ es',e.length=S) (ah:∀ v ∈ c'.toList,v.oneCell'=true)
  (ad:Qi φ h w (MM φ h M0) (es'.flatten.map .p) (c'.toList.take (es'.length * S))):Zz φ' (upd h t (.vec ty S es')) w' M0:=by
 have g:∀ d,upd h t (.vec ty S es') d ≠ none→h d ≠ none:=fun d O=>by
  by_cases e:t=d
  ·rw [← e,ht]; simp
  ·simpa [upd,e] using O
 refine ⟨?_,?_,?_,fun x y hx=>Nat.lt_of_lt_of_le (r.lt x y hx) E.size,r.gm.evol E⟩
 ·intro d e O he G;by_cases e1:d=t <;> by_cases Z:e=t
  ·rw [e1,Z]
  ·rw [e1,J e Z] at G;rcases Y with h3 | ⟨h3,hC⟩
   ·rw [h3] at G; rw [e1]; exact r.inj t e (by rw [ht]; simp) (g e he) G
   ·rcases hC e (g e he) with h4 | h4 <;> omega
  ·rw [Z,J d e1] at G;rcases Y with h3 | ⟨h3,hC⟩
   ·rw [h3] at G; rw [Z]; exact r.inj d t (g d O) (by rw [ht]; simp) G
   ·rcases hC d (g d O) with h4 | h4 <;> omega
  ·rw [J d e1,J e Z] at G; exact r.inj d e (g d O) (g e he) G
 ·intro d q O;by_cases e:t=d
  ·subst e;have:q=.vec ty S es':=by simpa [upd] using O.symm
   subst this;exact ⟨c',cap,af,ae,aa,ac,hS,ah,(QJ (E.keeps M0) X).2 _ _ ad⟩
  ·have h1:h d=some q:=by simpa [upd,e] using O
   rw [J d (fun Z=>e Z.symm)];exact ZI (E.keeps M0) X (ab d (by rw [h1]; simp) (fun Z=>e Z.symm)) (r.blk d q h1)
 ·intro d O o hm;by_cases e:d=t
  ·subst e;rcases Y with h3 | ⟨h3,_⟩
   ·rw [h3] at hm; exact r.fr d (g d O) o hm
   ·rw [h3] at hm; exact absurd (r.lt _ _ hm) zo
  ·rw [J d e] at hm; exact r.fr d (g d O) o hm
theorem wz {ob:Obj} {t:Nat} {S:Nat} (ht:h t=some (.vec ty S es)) (hn:es.length < es'.length) (hh:w'.heap=w.heap.push ob) (ho:w'.os=w.os) (af:w'.tape=w.tape) (hu:w'.output=w.output) (r:Zz φ h w M0) (hC:Clear φ h w 1) :
  QW φ h w (Qu φ t w.heap.size) (upd h t (.vec ty S es')) w'∧VR φ h w (Qu φ t w.heap.size) (upd h t (.vec ty S es')) w':=by
 have J:∀ x,x < w.heap.size→w'.heap[x]?=w.heap[x]?:=fun x hx=>by rw [hh,Array.getElem?_push,if_neg zo]
 have hb:∀ b ty cs,h b=some (.box ty cs)→¬ t=b:=fun b ty cs hb e=>by rw [← e,ht] at hb; cases hb
 have ab:∀ t2 Vz Y O,h t2=some (.vec Vz Y O)→∃ n3,upd h t (.vec ty S es') t2=some (.vec Vz Y n3)∧O.length≤n3.length ∧
   (n3.length=O.length→Qu φ t w.heap.size t2=φ t2∧∀ c0,w.heap[φ t2]?=some (.cells c0 Vz (0,0))→∃ c1,w'.heap[φ t2]?=some (.cells c1 Vz (0,0))∧c1.size=c0.size):=by
  intro t2 Vz Y O G;by_cases e:t=t2
  ·subst e;rw [ht] at G;cases G;exact ⟨es',by simp [upd],by omega,fun e=>absurd e zo⟩
  ·exact ⟨O,by simp [upd,e,G],Nat.le_refl _,fun _=>⟨by simp [Qu,e],fun c0 ah=>⟨c0,by rw [hC.lt r (by rw [hh]; simp) J (by rw [G]; simp)]; exact ah,rfl⟩⟩⟩
 have aa:∀ t2 Vz Y O,h t2=some (.arr Vz Y O)→∃ n3,upd h t (.vec ty S es') t2=some (.arr Vz Y n3)∧O≤n3 ∧
   (n3=O→AKept w w' (φ t2) (Qu φ t w.heap.size t2) Vz):=by
  intro t2 Vz Y O G;have e:¬ t=t2:=fun e=>by rw [← e,ht] at G; cases G
  exact ⟨O,by simp [upd,e,G],Nat.le_refl _,fun _=>Yp (by simp [Qu,e]) (by rw [hC.lt r (by rw [hh]; simp) J (by rw [G]; simp)])⟩
 have ad:∀ d k x,h d=some k→k.ob=some x→(∃ k',upd h t (.vec ty S es') d=some k'∧k'.ob=some x)∧Qu φ t w.heap.size d=φ d:=by
  intro d k x Z ho;have e:¬ t=d:=fun e=>by rw [← e,ht] at Z; cases Z; cases ho
  exact ⟨⟨k,by simp [upd,e,Z],ho⟩,by simp [Qu,e]⟩
 refine ⟨⟨ho,af,hu,by rw [hh]; simp,fun x hx _=>J x hx,fun x o hx _=>by simp [World.cell?,J x hx],?_,?_,fun t2 Vz Y ac _ G=>aa t2 Vz Y ac G,fun t2 Vz Y ac _ G=>ab t2 Vz Y ac G,fun d k x _=>ad d k x⟩,?_,aa,ab,ad⟩
 ·rintro x y hx ⟨d,q,h1,G,h3⟩;by_cases e:t=d
  ·simp only [Qu,e,if_true] at G; omega
  ·exact ⟨d,q,by simpa [upd,e] using h1,by simpa [Qu,e] using G,h3⟩
 ·intro d ae ds _ Z;have:=hb d _ _ Z;exact ⟨⟨ds,by simp [upd,this,Z]⟩,by simp [Qu,this]⟩
 ·intro d ae ds Z;have:=hb d _ _ Z;exact ⟨⟨ae,ds,by simp [upd,this,Z]⟩,by simp [Qu,this]⟩
end
section
variable {P:Program} {o:Oper} {φ:Nat→Nat} {M0:Zr} {N:Nat} {D:DB} {T:Nat→Option AV} {h:QH} {a:Act} {w:World}
def Xv (P:Program) (T:Nat→Option AV) (h:QH) (t:TypeId) (x ix:Operand):Option Xq :=
 match P.underlying t,Zc T x,Zc T ix with
 | some (.slice e),some (.vsl S tk n),some (.p (.val (.int _ k))) =>
  match h tk,P.info? e with
  | some (.vec _ _ es),some i=>if n=es.length∧S=i.size∧0≤k∧k.toNat < n then some (.vptr tk n k.toNat 0,none,[tk]) else none
  | _,_=>none
 | some (.array len e),some (.vptr tk n G f),some (.p (.val (.int _ k))) =>
  match h tk,P.info? e with
  | some (.vec _ _ es),some i=>if n=es.length∧0≤k∧k < len then some (.vptr tk n G (f+k.toNat * i.size),none,[tk]) else none
  | _,_=>none
 | _,_,_=>none
theorem z8 (r:Q8 φ M0 N D T h a w) (ho:o.op=.indexAddr t x ix) (G:Xv P T h t x ix=some u):u.2.1=none∧Yield P o φ M0 h a w u.1 h:=by
 unfold Xv at G;split at G
 ·rename_i e S tk n kk k ht hx Y;split at G
  ·rename_i ty S' es i hb hi;split at G
   ·rename_i hc;simp only [QO] at G;subst G;have h2:=r.ev hx;have O:=r.ev Y;simp only [Qe,QI] at h2 O;obtain ⟨_,Vz,aa,J,ac,Z⟩:=h2;rw [hb] at J;cases J;obtain ⟨cap,c,Z,_⟩:=Z hc.1;refine ⟨rfl,Qm r (v:=.pointer (some ⟨φ tk,k.toNat * i.size,none⟩)) ?_ ?_⟩
    ·have ab:0≤k∧k < (n:Int):=⟨hc.2.2.1,by omega⟩;simp [execOp,ho,Instr.indexAt,O,asIntOf,run_underlying ht,Z,ab,QX hi,Addr.add_lit]
    ·simp only [Qe];exact ⟨rfl,ty,S,es,hb,by omega,fun _=>by rw [hc.2.1]; rfl⟩
   ·cases G
  ·cases G
 ·rename_i len e tk n k0 f kk k ht hx Y;split at G
  ·rename_i ty S' es i hb hi;split at G
   ·rename_i hc;simp only [QO] at G;subst G;have h2:=r.ev hx;have O:=r.ev Y;simp only [Qe,QI] at h2 O;obtain ⟨_,Vz,S2,aa,J,ac,Z⟩:=h2;rw [hb] at J;cases J;have Z:=Z hc.1;refine ⟨rfl,Qm r (v:=.pointer (some ⟨φ tk,k0 * S'+(f+k.toNat * i.size),none⟩)) ?_ ?_⟩
    ·simp [execOp,ho,Instr.indexAt,O,asIntOf,run_underlying ht,Z,Instr.sureAddr,hc.2.1,hc.2.2,QX hi,Addr.add_lit,Nat.add_assoc]
    ·simp only [Qe];exact ⟨rfl,ty,S',es,hb,by omega,fun _=>rfl⟩
   ·cases G
  ·cases G
 ·cases G
def Xw (P:Program) (T:Nat→Option AV) (h:QH) (s:TypeId) (x:Operand) (f:Nat):Option Xq :=
 match P.underlying s,Zc T x with
 | some (.struct fields),some (.vptr tk n k g) =>
  match fields[f]?,h tk with
  | some G,some (.vec _ _ es) =>
   match P.info? G.type with
   | some i=>if i.size=0 then none else if n=es.length then some (.vptr tk n k (g+G.offset),none,[tk]) else none
   | none=>none
  | _,_=>none
 | _,_=>none
theorem kg (r:Q8 φ M0 N D T h a w) {s:TypeId} {f:Nat} (ho:o.op=.fieldAddr s x f) (G:Xw P T h s x f=some u):u.2.1=none∧Yield P o φ M0 h a w u.1 h:=by
 unfold Xw at G;split at G
 ·rename_i fields tk n k g hs hx;split at G
  ·rename_i fl ty S es hf hb;split at G
   ·rename_i i hi;split at G
    ·cases G
    ·rename_i O;split at G
     ·rename_i hn;simp only [QO] at G;subst G;have Z:=r.ev hx;simp only [Qe] at Z;obtain ⟨_,Vz,S2,ab,J,aa,Y⟩:=Z;rw [hb] at J;cases J;have Y:=Y hn;refine ⟨rfl,Qm r (v:=.pointer (some ⟨φ tk,k * S+(g+fl.offset),none⟩)) ?_ ?_⟩
      ·simp [execOp,ho,Instr.fieldAt,run_underlying hs,hf,Y,Instr.sureAddr,fieldPlace,QX hi,O,Addr.add_lit,Nat.add_assoc]
      ·simp only [Qe];exact ⟨rfl,ty,S,es,hb,by omega,fun _=>rfl⟩
     ·cases G
   ·cases G
  ·cases G
 ·cases G
def qb (P:Program) (T:Nat→Option AV) (h:QH) (ty:TypeId) (x:Operand):Option Xq :=
 match P.underlying ty,P.info? ty,Zc T x with
 | some d,some i,some (.vptr tk n k f) =>
  match h tk with
  | some (.vec _ _ es) =>
   if n=es.length then
    match es[k]? with
    | some e =>
     if Gt d then (if f+i.size≤e.length then some (.agg (((e.drop f).take i.size).map .p),none,[tk]) else none)
     else match e[f]? with | some c=>some (.p c,none,[tk]) | none=>none
    | none=>none
   else none
  | _=>none
 | _,_,_=>none
theorem QaD (r:Q8 φ M0 N D T h a w) (ho:o.op=.load ty x) (G:qb P T h ty x=some u):u.2.1=none∧Yield P o φ M0 h a w u.1 h:=by
 unfold qb at G;split at G
 ·rename_i d i tk n k f hd hi hx;split at G
  ·rename_i tb S es hb;split at G
   ·rename_i hn;split at G
    ·rename_i e hk;have h2:=r.ev hx;simp only [Qe] at h2;obtain ⟨_,Vz,S2,ai,ac,aj,hv⟩:=h2;rw [hb] at ac;cases ac;have hv:=hv hn;obtain ⟨c,cap,hw,al,af,ah,hS,ak,aa⟩:=r.hp.blk tk _ hb;have ae:e.length=S:=hS e (List.mem_of_getElem? hk)
     have J:∀ f c0,e[f]?=some c0→∃ v,w.cell? ⟨φ tk,k * S+f,none⟩=some v∧Qe φ h w (MM φ h M0) (.p c0) v:=by
      intro f c0 O;have hf:f < S:=by rw [← ae]; exact (List.getElem?_eq_some_iff.1 O).1
      have h3:=CU hS hk hf;rw [O] at h3;obtain ⟨v,Y,h5⟩:=Uy aa (i:=k * S+f) (x:=.p c0) (by rw [List.getElem?_map,h3]; rfl);refine ⟨v,?_,h5⟩;rw [ZU hw];rw [List.getElem?_take] at Y;split at Y
      ·simpa using Y
      ·cases Y
     split at G
     ·rename_i Z;split at G
      ·rename_i ad;simp only [QO] at G;subst G
       have ab:∀ (m:Nat) (g:Nat),g+m≤e.length→∃ l:List Value,l.length=m∧(∀ j v,l[j]?=some v→w.cell? ⟨φ tk,k * S+g+j,none⟩=some v)∧Qi φ h w (MM φ h M0) (((e.drop g).take m).map .p) l:=by
        intro m
        induction m with
        | zero=>intro g _; exact ⟨[],rfl,by simp,by simp [Qi]⟩
        | succ m ih =>
         intro g hg;have hlt:g < e.length:=by omega
         obtain ⟨v,h3,Y⟩:=J g e[g] (List.getElem?_eq_getElem hlt);obtain ⟨l,q1,q2,q3⟩:=ih (g+1) zo;refine ⟨v :: l,by simp [q1],fun j u hj=>?_,?_⟩
         ·cases j with
          | zero=>simp at hj; subst hj; simpa using h3
          | succ j=>have:=q2 j u (by simpa using hj); rwa [show k * S+(g+1)+j=k * S+g+(j+1) from by omega] at this
         ·rw [List.drop_eq_getElem_cons hlt];simp only [List.take_succ_cons,List.map_cons,Qi];exact ⟨v,l,rfl,Y,q3⟩
       obtain ⟨l,q1,q2,q3⟩:=ab i.size f ad;refine ⟨rfl,Qm r (v:=.agg l.toArray) ?_ (by simp only [Qe]; exact ⟨l,rfl,q3⟩)⟩;have:=CP (w:=w) (r:=φ tk) (off:=k * S+f) hd hi Z l q1 q2;simp [execOp,ho,Instr.loadAt,hv,Instr.sureAddr,this]
      ·cases G
     ·rename_i Z;split at G
      ·rename_i c0 O;simp only [QO] at G;subst G;obtain ⟨v,h3,Y⟩:=J f c0 O;refine ⟨rfl,Qm r (v:=v) ?_ Y⟩;have:=CQ (P:=P) (w:=w) (r:=φ tk) (off:=k * S+f) hd (by simpa using Z) h3;simp [execOp,ho,Instr.loadAt,hv,Instr.sureAddr,this]
      ·cases G
    ·cases G
   ·cases G
  ·cases G
 ·cases G
def NK (P:Program) (T:Nat→Option AV) (h:QH) (ty:TypeId) (x y:Operand):Option Xq :=
 match P.info? ty,Zc T x,Zc T y with
 | some i,some (.vptr tk n k f),some v =>
  match h tk,cellsOf v with
  | some (.vec tb S es),some G =>
   match DC G,es[k]? with
   | some ps,some e=>if n=es.length∧G.length=i.size∧f+ps.length≤e.length then some (.p (.val undef),some (tk, .vec tb S (es.set k (e.take f++ps++e.drop (f+ps.length)))),[tk]) else none
   | _,_=>none
  | _,_=>none
 | _,_,_=>none
theorem Qh6 (A B C:List α) (j:Nat):(A++B++C)[j]?=if j < A.length then A[j]? else if j - A.length < B.length then B[j - A.length]? else C[j - A.length - B.length]?:=by
 rw [List.append_assoc];by_cases J:j < A.length
 ·rw [if_pos J,List.getElem?_append_left J]
 ·rw [if_neg J,List.getElem?_append_right zo];by_cases G:j - A.length < B.length
  ·rw [if_pos G,List.getElem?_append_left G]
  ·rw [if_neg G,List.getElem?_append_right zo]
theorem CV {M:Zr}:∀ {xs:List AV} {ys:List PV} {l:List Value},DC xs=some ys→Qi φ h w M xs l→Qi φ h w M (ys.map .p) l
 | [],ys,l,G,J=>by simp only [DC,QO] at G; subst G; simpa [Qi] using J
 | x :: xs,ys,l,G,J=>by
  simp only [DC] at G;split at G
  ·rename_i y aa O h2;simp only [QO] at G;subst G;simp only [Qi] at J;obtain ⟨v,Z,rfl,h3,Y⟩:=J;simp only [List.map_cons,Qi];refine ⟨v,Z,rfl,?_,CV h2 Y⟩;simp only [Qe];exact xQ O h3
  ·cases G
theorem tJ (r:Q8 φ M0 N D T h a w) (ho:o.op=.store ty x y) (O:NK P T h ty x y=some u):Yield P o φ M0 h a w u.1 (ap h u.2.1):=by
 unfold NK at O;split at O
 ·rename_i i tk n k f v hi hx hy;have h2:=r.ev hx;have h3:=r.ev hy;simp only [Qe] at h2;split at O
  ·rename_i tb S es vs hb ar;split at O
   ·rename_i ps e aw hk;split at O
    ·rename_i hc;obtain ⟨hn,ba,a8⟩:=hc;simp only [QO] at O;subst O;obtain ⟨_,Vz,S2,bb,aj,be,J⟩:=h2;rw [hb] at aj;cases aj;have J:=J hn;obtain ⟨c,cap,hw,an,ac,al,hS,ak,aa⟩:=r.hp.blk tk _ hb;have bc:e.length=S:=hS e (List.mem_of_getElem? hk);obtain ⟨h4,h5,h6⟩:=Vi ar h3;have az:=Zt h4;have h7:=CV aw h4;have ae:=Zt h7;simp only [List.length_map] at ae;have af:k < es.length:=(List.getElem?_eq_some_iff.1 hk).1;have bd:k * S+S≤es.length * S:=by have:(k+1) * S≤es.length * S:=Nat.mul_le_mul_right _ af; rw [Nat.add_mul] at this; omega
     have bf:es.length * S≤c.size:=by rw [an]; exact Nat.mul_le_mul_right _ ac
     have ab:k * S+f+(a.eval y).cells.toList.length≤c.size:=by omega
     have ah:=run_storeCells_at P (φ tk) (k * S+f) tb (a.eval y).cells.toList 0 c w hw (by simpa using ab) h5;simp only [Nat.add_zero] at ah;have hne:(e.take f++ps++e.drop (f+ps.length)).length=S:=by simp; omega
     have aq:=AR hS hk hne
     let C:Array Value:=(c.toList.take (k * S+f)++(a.eval y).cells.toList++c.toList.drop (k * S+f+(a.eval y).cells.toList.length)).toArray
     have ai:C.size=c.size:=by simp [C] at ab ⊢; omega
     have a7:=Zm hS
     have ax:e=(es.flatten.drop (k * S)).take S:=by
      apply List.ext_getElem?;intro j;by_cases hj:j < S
      ·rw [List.getElem?_take,if_pos hj,List.getElem?_drop,CU hS hk hj]
      ·rw [List.getElem?_eq_none zo,List.getElem?_eq_none (by simp; omega)]
     have am:Qi φ h w (MM φ h M0) ((es.set k (e.take f++ps++e.drop (f+ps.length))).flatten.map .p) (C.toList.take ((es.set k (e.take f++ps++e.drop (f+ps.length))).length * S)):=by
      have e1:(es.set k (e.take f++ps++e.drop (f+ps.length))).flatten=es.flatten.take (k * S+f)++ps++es.flatten.drop (k * S+f+ps.length):=by
       rw [aq,ax];rw [List.take_take,Nat.min_eq_left zo,List.drop_take,List.drop_drop];have e2:es.flatten.take (k * S)++(es.flatten.drop (k * S)).take f=es.flatten.take (k * S+f):=by rw [List.take_add]
       have e3:(es.flatten.drop (k * S+(f+ps.length))).take (S - (f+ps.length))++es.flatten.drop (k * S+S)=es.flatten.drop (k * S+f+ps.length):=by
        have:=List.take_append_drop (S - (f+ps.length)) (es.flatten.drop (k * S+(f+ps.length)));rw [List.drop_drop] at this;rw [show k * S+(f+ps.length)+(S - (f+ps.length))=k * S+S from by omega] at this;rw [this,Nat.add_assoc]
       rw [← e2,← e3];simp [List.append_assoc]
      rw [e1,List.length_set]
      have e4:C.toList.take (es.length * S)=(c.toList.take (es.length * S)).take (k * S+f)++(a.eval y).cells.toList++(c.toList.take (es.length * S)).drop (k * S+f+(a.eval y).cells.toList.length):=by
       apply List.ext_getElem?;intro j;have au:(c.toList.take (k * S+f)).length=k * S+f:=by simp; omega
       have Z:((c.toList.take (es.length * S)).take (k * S+f)).length=k * S+f:=by simp; omega
       rw [List.getElem?_take];have hB:(c.toList.take (es.length * S)).length=es.length * S:=by simp; omega
       by_cases hj:j < es.length * S
       ·rw [if_pos hj];simp only [C];rw [Qh6,Qh6,au,Z];by_cases G:j < k * S+f
        ·rw [if_pos G,if_pos G,List.getElem?_take,if_pos G,List.getElem?_take,if_pos G,List.getElem?_take,if_pos hj]
        ·rw [if_neg G,if_neg G];by_cases Y:j - (k * S+f) < (a.eval y).cells.toList.length
         ·rw [if_pos Y,if_pos Y]
         ·rw [if_neg Y,if_neg Y,List.getElem?_drop,List.getElem?_drop,List.getElem?_take,if_pos zo]
       ·rw [if_neg hj,List.getElem?_eq_none];rw [Y0,Y0,Z,List.length_drop,hB];omega
      rw [e4];have ao:ps.length=(a.eval y).cells.toList.length:=ae;simp only [List.map_append,List.map_take,List.map_drop];rw [← ao];exact Zl (Zl (Uz _ aa) h7) (UA _ aa)
     obtain ⟨E,X⟩:=AU (φ:=φ) (h:=h) (w:=w) (M0:=M0) (es':=es.set k (e.take f++ps++e.drop (f+ps.length))) (c':=C) hb hw zq ai r.hp;have ad:(w.setRow (φ tk) C).heap[φ tk]?=some (.cells C tb (0,0)):=setRow_heap w _ c C tb _ hw
     have hH:=qa (c':=C) (cap:=cap) hb r.hp E X (fun _ _=>rfl) (.inl rfl) (fun d hd av=>setRow_other w _ _ C (fun e=>av (r.hp.inj d tk hd (by rw [hb]; simp) e))) ad (by rw [ai,an]) (by simpa using ac) al
      (fun e' a6=>by rcases List.mem_or_eq_of_mem_set a6 with h8 | h8; exact hS e' h8; rw [h8]; exact hne)
      (fun v J=>by
       simp only [C,List.mem_append] at J;rcases J with (J | J) | J
       ·exact ak v (List.mem_of_mem_take J)
       ·exact h5 v J
       ·exact ak v (List.mem_of_mem_drop J)) am
     refine ⟨.skip,undef,_,φ,?_, .inr ⟨rfl,rfl⟩,by simp [Qe,QI],hH,E,X⟩;have ay:(a.eval y).cells.size=i.size:=by simp at az; omega
     simp [execOp,ho,Instr.storeAt,J,Instr.sureAddr,storeVar,QX hi,ay,ah,C]
    ·cases O
   ·cases O
  ·cases O
 ·cases O
def nu (P:Program) (T:Nat→Option AV) (h:QH) (t:TypeId) (x:Operand):Option Xq :=
 match P.underlying t,Zc T x with
 | some (.slice _),some (.vsl _ tk n)=>match h tk with | some (.vec _ _ es)=>if n=es.length then some (.p (.val (.int .i64 n)),none,[tk]) else none | _=>none
 | some (.slice _),some .vnil=>some (.p (.val (.int .i64 0)),none,[])
 | _,_=>none
theorem Qde (r:Q8 φ M0 N D T h a w) (ho:o.op=.call ⟨.builtin .len,#[x],#[t]⟩) (G:nu P T h t x=some u):u.2.1=none∧Yield P o φ M0 h a w u.1 h:=by
 unfold nu at G;split at G
 ·rename_i e S tk n Y hx;split at G
  ·rename_i ty S' es hb;split at G
   ·rename_i hn;simp only [QO] at G;subst G;have O:=r.ev hx;simp only [Qe] at O;obtain ⟨_,Vz,aa,J,ab,Z⟩:=O;rw [hb] at J;cases J;obtain ⟨cap,c,Z,_⟩:=Z hn;refine ⟨rfl,Qm r (v:=.int .i64 n) ?_ (by simp [Qe,QI])⟩;simp [execOp,ho,resolve,invoke,builtin,Builtin.len_,run_underlying Y,Z,goInt]
   ·cases G
  ·cases G
 ·rename_i e Y hx;simp only [QO] at G;subst G;have O:=r.ev hx;simp only [Qe] at O;refine ⟨rfl,Qm r (v:=.int .i64 0) ?_ (by simp [Qe,QI])⟩;simp [execOp,ho,resolve,invoke,builtin,Builtin.len_,run_underlying Y,O,goInt]
 ·cases G
end
section
variable {P:Program} {o:Oper} {φ:Nat→Nat} {M0:Zr} {N:Nat} {D:DB} {T:Nat→Option AV} {h:QH} {a:Act} {w:World}
def Mj:List Value→Bool
 | []=>true
 | v :: l=>v.oneCell'&&Mj l
theorem TR:∀ {l:List Value},Mj l=true→∀ v ∈ l,v.oneCell'=true
 | [],_,v,G=>by simp at G
 | x :: l,J,v,G=>by
  simp only [Mj,Zf] at J;rcases List.mem_cons.1 G with rfl | G
  ·exact J.1
  ·exact TR J.2 v G
theorem ku {z:Array Value} (G:v ∈ (Builtin.zeroCells z n).toList) (J:0 < z.size):v ∈ z.toList:=by
 simp only [Builtin.zeroCells,Array.toList_map,List.mem_map] at G;obtain ⟨k,_,rfl⟩:=G;have:k % z.size < z.size:=Nat.mod_lt _ J;rw [getElem!_pos z _ this];simp
theorem TS {M:Zr}:∀ {cs:List PV} {l:List Value},l.length=cs.length→(∀ (j:Nat) c u,cs[j]?=some c→l[j]?=some u→QI w M c u)→Qi φ h w M (cs.map .p) l
 | [],l,G,_=>by simp at G; subst G; simp [Qi]
 | c :: cs,[],G,_=>by simp at G
 | c :: cs,u :: l,G,J=>by
  simp only [List.map_cons,Qi];refine ⟨u,l,rfl,?_,TS (by simpa using G) (fun j c' u' O Y=>J (j+1) c' u' (by simpa using O) (by simpa using Y))⟩;simp only [Qe];exact J 0 c u zq zq
def TT (P:Program) (T:Nat→Option AV) (h:QH) (dst:Option Tmp) (t:TypeId) (s x:Operand):Option Xq :=
  match P.underlying t,Zc T s,Zc T x with
  | some (.slice e),some sv,some xv =>
    match P.info? e with
    | some i =>
      match i.zero,NJ i.size xv with
      | some z,some es' =>
        if z.cells.size=i.size∧0 < i.size∧Mj z.cells.toList=true then
          match sv with
          | .vnil =>
            if es'=[] then some (.vnil,none,[]) else
            (match dst with
             | some d=>if h d=none∧es'.length * i.bytes≤140737488355328∧es'.length≤140737488355328 then some (.vsl i.size d es'.length,some (d, .vec e i.size es'),[d]) else none
             | none=>none)
          | .vsl S tk n =>
            (match h tk with
             | some (.vec ty G es) =>
               if ty=e∧G=S∧S=i.size∧n=es.length∧(es.length+es'.length) * i.bytes≤140737488355328∧es.length+es'.length≤140737488355328 then
                 if es'=[] then some (.vsl S tk n,some (tk, .vec e S es),[tk]) else
                 some (.vsl S tk (n+es'.length),some (tk, .vec e S (es++es')),[tk]) else none
             | _=>none)
          | _=>none
        else none
      | _,_=>none
    | none=>none
  | _,_,_=>none
theorem ny (r:Q8 φ M0 N D T h a w) {s:Operand} (ho:o.op=.call ⟨.builtin .append,#[s,x],#[t,t]⟩) (J:TT P T h o.dst t s x=some u):Yield P o φ M0 h a w u.1 (ap h u.2.1):=by
 unfold TT at J;split at J;rotate_left
 ·cases J
 rename_i e sv xv ht hs hx;split at J;rotate_left
 ·cases J
 rename_i i hi;split at J;rotate_left
 ·cases J
 rename_i z es' hz bn;split at J;rotate_left
 ·cases J
 rename_i a7;refine Yield.of_lift r 1 fun φ r E0 X0 hC=>?_
 have ah:=O8 bn (r.ev hx);have ai:=r.ev hs;have bf:∀ n,∀ v ∈ (Builtin.zeroCells z.cells n).toList,v.oneCell'=true:=fun n v Y=>TR a7.2.2 v (ku Y zo)
 split at J
 ·simp only [Qe] at ai;split at J
  ·rename_i bh;subst bh;simp only [QO] at J;subst J;simp only [ap];refine Qm r (v:=.slice none 0 0) ?_ (by simp [Qe]);simp only [QI] at ah;rcases ah with ⟨rr,oo,cap,h1,_⟩ | ⟨_,q,cap,h1⟩
   ·exact Z8 ho (by rw [ai,h1]; exact Yv ht hi _ _ _ _ _ zq)
   ·exact Z8 ho (by rw [ai,h1]; exact Yv ht hi _ _ _ _ _ zq)
  ·rename_i hne;split at J;rotate_left
   ·cases J
   rename_i d bw;split at J;rotate_left
   ·cases J
   rename_i hc;obtain ⟨hd,bi,bo⟩:=hc;simp only [QO] at J;subst J;simp only [ap];have a6:es' ≠ []:=fun e=>hne e
   obtain ⟨rr,oo,cap,l,h1,h2,h3,h4,h5,h6,h7,h8⟩:=Xu ah a6;have ar:0 < es'.length:=List.length_pos_iff.2 a6;have ac:=run_append_nil (P:=P) w t o.type e i z ht hi hz ⟨rr,oo,none⟩ es'.length cap l (by rw [h5]) (fun j v hj=>by rw [Addr.add_lit]; exact h6 j v hj) ar zo zo;have aq:=grownCap_ge w es'.length 0 e;have aj:grownCap w es'.length 0 e≤maxLen:=grownCap_le_maxLen w es'.length 0 e (by unfold maxLen; omega);generalize grownCap w es'.length 0 e=gc at *
   let C:Array Value:=l.toArray++Builtin.zeroCells z.cells (gc - es'.length)
   let w':World:=w.drew.alloc (.cells C e)
   obtain ⟨E,X⟩:=XY (w:=w) (w':=w') (o:=.cells C e) (b:=d) (k:=.vec e i.size es') (φ:=φ) (h:=h) (M0:=M0) rfl rfl rfl rfl hd r.hp hC
   have aa:C.size=gc * i.size:=by
    simp only [C,Array.size_append,List.size_toArray,size_zeroCells,a7.1,h5];rw [← Nat.add_mul]; congr 1; omega
   have G:w'.heap[w.heap.size]?=some (.cells C e (0,0)):=by show (w.heap.push _)[w.heap.size]?=_; simp
   have am:∀ v ∈ C.toList,v.oneCell'=true:=by
    intro v Y;simp only [C,Array.toList_append,List.mem_append] at Y;rcases Y with Y | Y
    ·exact h7 v Y
    ·exact bf _ v Y
   have au:C.toList.take (es'.length * i.size)=l:=by
    simp only [C,Array.toList_append];rw [← h5,List.take_left]
   have bd:Qi φ h w (MM φ h M0) (es'.flatten.map .p) l:=TS (by rw [h5,Zm h3]) h8;have hH:Zz (Qu φ d w.heap.size) (upd h d (.vec e i.size es')) w' M0:=XZ rfl hd r.hp hC E X ⟨C,gc,G,aa,aq,aj,h3,am,by rw [au]; exact (QJ (E.keeps M0) X).2 _ _ bd⟩;refine ⟨_, .slice (some ⟨w.heap.size,0,none⟩) es'.length gc,w',Qu φ d w.heap.size,Z8 ho (by rw [ai,h1]; exact ac), .inl rfl,?_,hH,E,X⟩;simp only [Qe];exact ⟨rfl,e,es',by simp [upd],Nat.le_refl _,fun _=>⟨gc,C,by simp [Qu],by simpa [Qu] using G,aa,aq,aj⟩⟩
 ·rename_i S tk n;split at J;rotate_left
  ·cases J
  rename_i ty S' es ab;simp only [Qe] at ai;obtain ⟨bp,Vz,bx,az,bb,ad⟩:=ai;rw [ab] at az;cases az;split at J;rotate_left
  ·cases J
  rename_i hc;obtain ⟨rfl,_,rfl,rfl,bi,bo⟩:=hc;obtain ⟨O,c0,a8,aw,ae,ao,ax⟩:=ad rfl;obtain ⟨c1,bu,bg,bt,bj,bk,bq,av,an⟩:=r.hp.blk tk _ ab;rw [aw] at bg;cases bg;split at J
  ·rename_i ay;simp only [QO] at J;subst J;simp only [ap]
   have bc:upd h tk (.vec ty i.size es)=h:=by
    funext b;simp only [upd];split
    ·rename_i e; rw [← e,ab]
    ·rfl
   rw [bc];refine Qm r (v:=a.eval s) ?_ (by simp only [Qe]; exact ⟨bp,ty,es,ab,bb,ad⟩)
   have br:∃ q c,a.eval x=.slice q 0 c:=by
    subst ay;simp only [QI] at ah;rcases ah with ⟨rr,oo,cap,h1,_⟩ | ⟨_,q,cap,h1⟩
    ·exact ⟨_,_,by simpa using h1⟩
    ·exact ⟨q,cap,h1⟩
   obtain ⟨q,c,hq⟩:=br;exact Z8 ho (by rw [hq,a8]; exact Yv ht hi _ _ _ _ _ ao)
  ·rename_i ay;simp only [QO] at J;subst J;simp only [ap];obtain ⟨rr,oo,cap,l,h1,h2,h3,h4,h5,h6,h7,h8⟩:=Xu ah ay;have ar:0 < es'.length:=List.length_pos_iff.2 ay;have ak:Qi φ h w (MM φ h M0) (es'.flatten.map .p) l:=TS (by rw [h5,Zm h3]) h8;have al:∀ e ∈ es++es',e.length=i.size:=fun e J=>(List.mem_append.1 J).elim (bq e) (h3 e)
   have bv:es.length * i.size≤c0.size:=by rw [ae]; exact Nat.mul_le_mul_right _ ao
   by_cases Z:es.length+es'.length≤O
   ·have be:es.length * i.size+l.length≤c0.size:=by rw [h5,ae,← Nat.add_mul]; exact Nat.mul_le_mul_right _ Z
    have ac:=run_append_room (P:=P) w t o.type ty i ht hi (φ tk) es.length O c0 aw ⟨rr,oo,none⟩ es'.length cap l (by rw [h5]) (fun j v hj=>by rw [Addr.add_lit]; exact h6 j v hj) h7 Z be
    let C:Array Value:=(c0.toList.take (es.length * i.size)++l++c0.toList.drop (es.length * i.size+l.length)).toArray
    have bm:(c0.toList.take (es.length * i.size)).length=es.length * i.size:=by simp; omega
    have aa:C.size=c0.size:=by simp [C]; omega
    obtain ⟨E,X⟩:=AU (φ:=φ) (h:=h) (w:=w) (M0:=M0) (es':=es++es') (c':=C) ab aw zq aa r.hp;have G:(w.setRow (φ tk) C).heap[φ tk]?=some (.cells C ty (0,0)):=setRow_heap w _ c0 C ty _ aw
    have am:∀ v ∈ C.toList,v.oneCell'=true:=by
     intro v Y;simp only [C,List.mem_append] at Y;rcases Y with (Y | Y) | Y
     ·exact av v (List.mem_of_mem_take Y)
     ·exact h7 v Y
     ·exact av v (List.mem_of_mem_drop Y)
    have au:C.toList.take ((es++es').length * i.size)=c0.toList.take (es.length * i.size)++l:=by
     simp only [C];have:(es++es').length * i.size=(c0.toList.take (es.length * i.size)++l).length:=by rw [Y0,Y0,bm,h5,Nat.add_mul]
     rw [this,List.take_left]
    have hH:Zz φ (upd h tk (.vec ty i.size (es++es'))) (w.setRow (φ tk) C) M0 :=
     qa ab r.hp E X (fun _ _=>rfl) (.inl rfl) (fun d hd bl=>setRow_other w _ _ C (fun e=>bl (r.hp.inj d tk hd (by rw [ab]; simp) e))) G (by rw [aa,ae]) (by simpa using Z) ax al am
      (by rw [au,List.flatten_append,List.map_append]; exact Zl an ak)
    refine ⟨_, .slice (some ⟨φ tk,0,none⟩) (es.length+es'.length) O,_,φ,Z8 ho (by rw [a8,h1]; exact ac), .inl rfl,?_,hH,E,X⟩;simp only [Qe];exact ⟨rfl,ty,es++es',by simp [upd],by simp,fun _=>⟨O,C,rfl,G,by rw [aa,ae],Z,ax⟩⟩
   ·have ba:(c0.toList.take (es.length * i.size)).length=es.length * i.size:=by simp; omega
    have ac:=run_append_grow (P:=P) w t o.type ty i z ht hi hz ⟨φ tk,0,none⟩ es.length O (c0.toList.take (es.length * i.size)) ba (fun j v hj=>by
      rw [Addr.add_lit,Nat.zero_add,ZU aw];rw [List.getElem?_take] at hj;split at hj
      ·simpa using hj
      ·cases hj) ⟨rr,oo,none⟩ es'.length cap l (by rw [h5])
     (fun j v hj=>by rw [Addr.add_lit]; exact h6 j v hj) zo zo (growslice_fits zo bi)
    have aq:=grownCap_ge w (es.length+es'.length) O ty;have aj:grownCap w (es.length+es'.length) O ty≤maxLen:=grownCap_le_maxLen w _ O ty (by unfold maxLen; omega);generalize grownCap w (es.length+es'.length) O ty=gc at *
    let C:Array Value:=(c0.toList.take (es.length * i.size)).toArray++l.toArray++Builtin.zeroCells z.cells (gc - (es.length+es'.length))
    let w':World:=w.drew.alloc (.cells C ty)
    obtain ⟨E,X⟩:=wz (w:=w) (w':=w') (ob:=.cells C ty) (φ:=φ) (h:=h) (M0:=M0) (es':=es++es') ab (by simp; exact ar) rfl rfl rfl rfl r.hp hC
    have aa:C.size=gc * i.size:=by
     simp only [C,Array.size_append,List.size_toArray,size_zeroCells,a7.1,h5,ba];rw [← Nat.add_mul,← Nat.add_mul]; congr 1; omega
    have G:w'.heap[w.heap.size]?=some (.cells C ty (0,0)):=by show (w.heap.push _)[w.heap.size]?=_; simp
    have af:Qu φ tk w.heap.size tk=w.heap.size:=by simp [Qu]
    have am:∀ v ∈ C.toList,v.oneCell'=true:=by
     intro v Y;simp only [C,Array.toList_append,List.mem_append] at Y;rcases Y with (Y | Y) | Y
     ·exact av v (List.mem_of_mem_take Y)
     ·exact h7 v Y
     ·exact bf _ v Y
    have au:C.toList.take ((es++es').length * i.size)=c0.toList.take (es.length * i.size)++l:=by
     simp only [C,Array.toList_append];have:(es++es').length * i.size=(c0.toList.take (es.length * i.size)++l).length:=by rw [Y0,Y0,ba,h5,Nat.add_mul]
     rw [this,List.take_left]
    have hH:Zz (Qu φ tk w.heap.size) (upd h tk (.vec ty i.size (es++es'))) w' M0 :=
     qa ab r.hp E X (fun b hb=>by simp [Qu,Ne.symm hb]) (.inr ⟨af,hC⟩) (fun d hd _=>hC.lt r.hp (w':=w') (by show (w.heap.push _).size≤_; simp) (fun x hx=>by show (w.heap.push _)[x]?=_; rw [Array.getElem?_push,if_neg zo]) hd) (by rw [af]; exact G) aa (by simpa using aq) aj al am
      (by rw [au,List.flatten_append,List.map_append]; exact Zl an ak)
    refine ⟨_, .slice (some ⟨w.heap.size,0,none⟩) (es.length+es'.length) gc,w',Qu φ tk w.heap.size,Z8 ho (by rw [a8,h1]; exact ac), .inl rfl,?_,hH,E,X⟩;simp only [Qe];exact ⟨rfl,ty,es++es',by simp [upd],by simp,fun _=>⟨gc,C,by rw [af],by rw [af]; exact G,aa,aq,aj⟩⟩
 ·cases J
def qc (P:Program) (T:Nat→Option AV) (h:QH) (dst:Option Tmp) (t:TypeId) (x y:Operand):Option Xq :=
 match P.underlying t,Zc T x,Zc T y,dst with
 | some (.slice e),some (.p (.val (.int J l))),some (.p (.val (.int G c))),some d =>
  match P.info? e with
  | some i =>
   match i.zero,h d with
   | some z,none =>
    match DC (z.cells.toList.map zR) with
    | some ps =>
     if z.cells.size=i.size∧0 < i.size∧Mj z.cells.toList=true∧ps.length=i.size∧0≤l∧l≤c∧(i.bytes:Int) * c≤281474976710656∧c≤140737488355328 then
      some (.vsl i.size d l.toNat,some (d, .vec e i.size (List.replicate l.toNat ps)),[d])
     else none
    | none=>none
   | _,_=>none
  | none=>none
 | _,_,_,_=>none
theorem kw:∀ {l:List Value} {ps:List PV},DC (l.map zR)=some ps→Qi φ h w M (ps.map .p) l
 | l,ps,G=>CV G (repAs_ofV l)
where repAs_ofV:∀ l:List Value,Qi φ h w M (l.map zR) l
 | []=>by simp [Qi]
 | x :: l=>by simp only [List.map_cons,Qi]; exact ⟨x,l,rfl,Wp x,repAs_ofV l⟩
theorem DV (f:α→β) (l:List α) (n:Nat):(List.replicate n l).flatten.map f=(List.replicate n (l.map f)).flatten:=by
 induction n with
 | zero=>rfl
 | succ n G=>simp [List.replicate_succ,G]
theorem QaE (r:Q8 φ M0 N D T h a w) (ho:o.op=.makeSlice t x y) (G:qc P T h o.dst t x y=some u):Yield P o φ M0 h a w u.1 (ap h u.2.1):=by
 unfold qc at G;split at G;rotate_left
 ·cases G
 rename_i e kl l kc c d ht hx hy ak;split at G;rotate_left
 ·cases G
 rename_i i hi;split at G;rotate_left
 ·cases G
 rename_i z hz hd;split at G;rotate_left
 ·cases G
 rename_i ps aj;split at G;rotate_left
 ·cases G
 rename_i hc;obtain ⟨h1,h2,h3,h4,h5,h6,h7,h8⟩:=hc;simp only [QO] at G;subst G;simp only [ap];refine Yield.of_lift r 1 fun φ r E0 X0 hC=>?_
 have O:=r.ev hx;have ab:=r.ev hy;simp only [Qe,QI] at O ab;have ad:=run_make (P:=P) w t e i z ht hi hz kl kc l c h5 h6 h7 zo
 let C:Array Value:=madeCells z.cells (c.toNat * i.size)
 let w':World:=w.alloc (.cells C e)
 have Y:C.toList=(List.replicate c.toNat z.cells.toList).flatten:=by
  have:=Mh z.cells.toList i.size (by simpa using h1) h2 c.toNat;simp only [Array.toArray_toList] at this;rw [← this];simp [C,madeCells,Array.toList_range]
 obtain ⟨E,X⟩:=XY (w:=w) (w':=w') (o:=.cells C e) (b:=d) (k:=.vec e i.size (List.replicate l.toNat ps)) (φ:=φ) (h:=h) (M0:=M0) rfl rfl rfl rfl hd r.hp hC;have J:w'.heap[w.heap.size]?=some (.cells C e (0,0)):=by show (w.heap.push _)[w.heap.size]?=_; simp
 have ac:C.size=c.toNat * i.size:=by simp [C,madeCells]
 have af:l.toNat≤c.toNat:=by omega
 have aa:c.toNat≤maxLen:=by unfold maxLen; omega
 have ah:∀ v ∈ C.toList,v.oneCell'=true:=by
  intro v hv;rw [Y] at hv;obtain ⟨q,hq,hv⟩:=List.mem_flatten.1 hv;rw [List.eq_of_mem_replicate hq] at hv;exact TR h3 v hv
 have ae:C.toList.take ((List.replicate l.toNat ps).length * i.size)=(List.replicate l.toNat z.cells.toList).flatten:=by
  rw [Y,List.length_replicate,show c.toNat=l.toNat+(c.toNat - l.toNat) from by omega,← List.replicate_append_replicate,List.flatten_append];have:l.toNat * i.size=((List.replicate l.toNat z.cells.toList).flatten).length:=by simp [h1]
  rw [this,List.take_left]
 have Z:Qi φ h w (MM φ h M0) ((List.replicate l.toNat ps).flatten.map .p) ((List.replicate l.toNat z.cells.toList).flatten):=by
  rw [DV];exact Xh (kw aj) _
 have hH:Zz (Qu φ d w.heap.size) (upd h d (.vec e i.size (List.replicate l.toNat ps))) w' M0 :=
  XZ rfl hd r.hp hC E X ⟨C,c.toNat,J,ac,by simp; omega,aa,fun e' ai=>by rw [List.eq_of_mem_replicate ai]; exact h4,ah,by rw [ae]; exact (QJ (E.keeps M0) X).2 _ _ Z⟩
 refine ⟨_, .slice (some ⟨w.heap.size,0,none⟩) l.toNat c.toNat,w',Qu φ d w.heap.size,?_, .inl rfl,?_,hH,E,X⟩
 ·simp [execOp,ho,O,ab,ad,w',C]
 ·simp only [Qe];exact ⟨rfl,e,List.replicate l.toNat ps,by simp [upd],by simp,fun _=>⟨c.toNat,C,by simp [Qu],by simpa [Qu] using J,ac,af,aa⟩⟩
def nA (P:Program) (h:QH) (dst:Option Tmp) (t:TypeId) (parts:Array (Nat × Operand)):Option Xq :=
 match P.underlying t,dst,parts.toList with
 | some (.slice e),some d,[] =>
  match P.info? e,h d with
  | some i,none=>some (.vsl i.size d 0,some (d, .vec e i.size []),[d])
  | _,_=>none
 | _,_,_=>none
theorem Qdf (r:Q8 φ M0 N D T h a w) (ho:o.op=.buildSlice t 0 parts) (J:nA P h o.dst t parts=some u):Yield P o φ M0 h a w u.1 (ap h u.2.1):=by
 unfold nA at J;split at J;rotate_left
 ·cases J
 rename_i e d ht aa Y;split at J;rotate_left
 ·cases J
 rename_i i hi hd;simp only [QO] at J;subst J;simp only [ap];refine Yield.of_lift r 1 fun φ r E0 X0 Z=>?_
 have O:parts=#[]:=by apply Array.ext'; simpa using Y
 let w':World:=w.alloc (.cells #[] e)
 obtain ⟨E,X⟩:=XY (w:=w) (w':=w') (o:=.cells #[] e) (b:=d) (k:=.vec e i.size []) (φ:=φ) (h:=h) (M0:=M0) rfl rfl rfl rfl hd r.hp Z;have G:w'.heap[w.heap.size]?=some (.cells #[] e (0,0)):=by show (w.heap.push _)[w.heap.size]?=_; simp
 have hH:Zz (Qu φ d w.heap.size) (upd h d (.vec e i.size [])) w' M0 :=
  XZ rfl hd r.hp Z E X ⟨#[],0,G,by simp,by simp,by unfold maxLen; omega,by simp,by simp,by simp [Qi]⟩
 refine ⟨_, .slice (some ⟨w.heap.size,0,none⟩) 0 0,w',Qu φ d w.heap.size,?_, .inl rfl,?_,hH,E,X⟩
 ·have e2:(Array.range 0).map (fun _=>(default:Value))=#[]:=by apply Array.ext'; simp
  subst O;simp only [execOp,ho,Instr.buildSlice,Sem.run_bind,run_underlying ht,QX hi,Result.andThen_ok,Nat.zero_mul,if_true,Sem.run_pure];simp [newRow,newObj,Sem.run,w',e2,Instr.fill]
 ·simp only [Qe];exact ⟨rfl,e,[],by simp [upd],by simp,fun _=>⟨0,#[],by simp [Qu],by simpa [Qu] using G,by simp,by simp,by unfold maxLen; omega⟩⟩
def dA:Option AV→Bool
 | some (.vptr _ _ _ _)=>true
 | some (.vsl _ _ _)=>true
 | some .vnil=>true
 | _=>false
variable {T':Nat→Option AV} {h':QH}
theorem SQ (G:Xv P T h t x ix=some u) (Y:Zc T' x=Zc T x) (hi:Zc T' ix=Zc T ix) (O:∀ b ∈ u.2.2,h' b=h b):Xv P T' h' t x ix=some u:=by
 unfold Xv at G ⊢;rw [Y,hi];split at G
 ·split at G
  ·rename_i hb J;split at G
   ·rename_i hc;simp only [QO] at G;subst G;simp only [O _ (List.mem_singleton.2 rfl),hb,J];rw [if_pos hc]
   ·cases G
  ·cases G
 ·split at G
  ·rename_i hb J;split at G
   ·rename_i hc;simp only [QO] at G;subst G;simp only [O _ (List.mem_singleton.2 rfl),hb,J];rw [if_pos hc]
   ·cases G
  ·cases G
 ·cases G
theorem SS {f:Nat} (G:Xw P T h t x f=some u) (Y:Zc T' x=Zc T x) (O:∀ b ∈ u.2.2,h' b=h b):Xw P T' h' t x f=some u:=by
 unfold Xw at G ⊢;rw [Y];split at G
 ·split at G
  ·rename_i hf hb;split at G
   ·rename_i hi;split at G
    ·cases G
    ·rename_i J;split at G
     ·rename_i hc;simp only [QO] at G;subst G;simp only [O _ (List.mem_singleton.2 rfl),hb,hf,hi];rw [if_neg J,if_pos hc]
     ·cases G
   ·cases G
  ·cases G
 ·cases G
theorem xU (G:qb P T h t x=some u) (Y:Zc T' x=Zc T x) (O:∀ b ∈ u.2.2,h' b=h b):qb P T' h' t x=some u:=by
 unfold qb at G ⊢;rw [Y];split at G
 ·rename_i d i tk n k f _ _ _;split at G
  ·rename_i ty S es hb
   have J:h' tk=some (.vec ty S es):=by
    rw [← hb];refine O tk ?_;split at G
    ·split at G
     ·split at G
      ·split at G
       ·simp only [QO] at G; subst G; simp
       ·cases G
      ·split at G
       ·simp only [QO] at G; subst G; simp
       ·cases G
     ·cases G
    ·cases G
   simp only [J];exact G
  ·cases G
 ·cases G
theorem wB (G:NK P T h t x y=some u) (Z:Zc T' x=Zc T x) (J:Zc T' y=Zc T y) (O:∀ b ∈ u.2.2,h' b=h b):NK P T' h' t x y=some u:=by
 unfold NK at G ⊢;rw [Z,J];split at G
 ·split at G
  ·rename_i hb Y;split at G
   ·rename_i hp hk;split at G
    ·rename_i hc;simp only [QO] at G;subst G;simp only [O _ (List.mem_singleton.2 rfl),hb,Y,hp,hk];rw [if_pos hc]
    ·cases G
   ·cases G
  ·cases G
 ·cases G
def tK (T:Nat→Option AV) (h:QH) (x:Operand):Option Xq :=
 match Zc T x with
 | some (.vptr tk n k f)=>match h tk with
  | some (.vec _ _ es)=>if n=es.length then some (.vptr tk n k f,none,[tk]) else none
  | _=>none
 | _=>none
theorem nC (G:tK T h x=some u) (Y:Zc T' x=Zc T x) (O:∀ b ∈ u.2.2,h' b=h b):tK T' h' x=some u:=by
 unfold tK at G ⊢;rw [Y];split at G
 ·rename_i tk n k f _;split at G
  ·rename_i ty S es hb
   have J:h' tk=some (.vec ty S es):=by
    rw [← hb];refine O tk ?_;split at G
    ·simp only [QO] at G; subst G; simp
    ·cases G
   simp only [J];exact G
  ·cases G
 ·cases G
theorem nD (G:nu P T h t x=some u) (O:Zc T' x=Zc T x) (J:∀ b ∈ u.2.2,h' b=h b):nu P T' h' t x=some u:=by
 unfold nu at G ⊢;rw [O];split at G
 ·split at G
  ·rename_i hb;split at G
   ·rename_i hc;simp only [QO] at G;subst G;simp only [J _ (List.mem_singleton.2 rfl),hb];rw [if_pos hc]
   ·cases G
  ·cases G
 ·exact G
 ·cases G
theorem kz {s:Operand} (G:TT P T h dst t s x=some u) (hs:Zc T' s=Zc T s) (hx:Zc T' x=Zc T x) (hh:∀ b ∈ u.2.2,h' b=h b):TT P T' h' dst t s x=some u:=by
 unfold TT at G ⊢;rw [hs,hx];split at G
 ·split at G
  ·split at G
   ·split at G
    ·rename_i Y;rw [if_pos Y];split at G
     ·split at G
      ·rename_i J; rw [if_pos J]; exact G
      ·rename_i J;rw [if_neg J];split at G
       ·rename_i d;split at G
        ·rename_i hc;simp only [QO] at G;subst G;have:h' d=none:=by rw [hh d zq]; exact hc.1
         simp only [this];rw [if_pos ⟨trivial,hc.2⟩]
        ·cases G
       ·cases G
     ·rename_i S tk n _;split at G
      ·rename_i ty S' es Z
       have O:h' tk=some (.vec ty S' es):=by
        rw [← Z];refine hh tk ?_;split at G
        ·split at G
         ·simp only [QO] at G; subst G; simp
         ·simp only [QO] at G; subst G; simp
        ·cases G
       simp only [O];exact G
      ·cases G
     ·cases G
    ·cases G
   ·cases G
  ·cases G
 ·cases G
theorem xV (G:qc P T h dst t x y=some u) (hx:Zc T' x=Zc T x) (O:Zc T' y=Zc T y) (Y:∀ b ∈ u.2.2,h' b=h b):qc P T' h' dst t x y=some u:=by
 unfold qc at G ⊢;rw [hx,O];split at G
 ·rename_i d _ _ _;split at G
  ·split at G
   ·rename_i J Z;split at G
    ·rename_i hp;split at G
     ·rename_i hc;simp only [QO] at G;subst G;simp only [Y d zq,Z,J,hp];rw [if_pos hc]
     ·cases G
    ·cases G
   ·cases G
  ·cases G
 ·cases G
theorem nE {ps:Array (Nat × Operand)} (G:nA P h dst t ps=some u) (J:∀ b ∈ u.2.2,h' b=h b):nA P h' dst t ps=some u:=by
 unfold nA at G ⊢;split at G
 ·rename_i d _ _;split at G
  ·rename_i hi O;simp only [QO] at G;subst G;simp only [J d zq,O,hi]
  ·cases G
 ·cases G
end
theorem Qdg (r:Q8 φ M0 N D T h a w) (ho:o.op=.nilCheck x) (G:tK T h x=some u):u.2.1=none∧Yield P o φ M0 h a w u.1 h:=by
 unfold tK at G;split at G
 ·rename_i tk n k f hx;split at G
  ·rename_i ty S es hb;split at G
   ·rename_i Y;simp only [QO] at G;subst G;have O:=r.ev hx;refine ⟨rfl,Qm r (v:=a.eval x) ?_ O⟩;simp only [Qe] at O;obtain ⟨_,Vz,S2,Z,J,aa,hv⟩:=O;rw [hb] at J;cases J;have h3:=hv Y;simp [execOp,ho,h3]
   ·cases G
  ·cases G
 ·cases G
section
variable {P:Program} {o:Oper} {φ:Nat→Nat} {M0:Zr} {N:Nat} {D:DB} {T:Nat→Option AV} {h:QH} {a:Act} {w:World}
def Mo (P:Program) (T:Nat→Option AV) (t:TypeId) (x ix:Operand):Option Xq :=
 match P.underlying t,Zc T x,Zc T ix with
 | some .string,some (.p (.val (.string s))),some (.p (.val (.int _ n))) =>
  if 0≤n then (match (J4 s)[n.toNat]? with | some b=>some (.p (.val (.int .u8 b.toNat)),none,[]) | none=>none) else none
 | _,_,_=>none
theorem tL (r:Q8 φ M0 N D T h a w) (ho:o.op=.index t x ix) (G:Mo P T t x ix=some u):u.2.1=none∧Yield P o φ M0 h a w u.1 h:=by
 unfold Mo at G;split at G
 ·rename_i s k n Z hx hi;split at G
  ·rename_i hn;split at G
   ·rename_i b hb;simp only [QO] at G;subst G;have O:=r.ev hx;have Y:=r.ev hi;simp only [Qe,QI] at O Y;refine ⟨rfl,Qm r (v:=.int .u8 b.toNat) ?_ (by simp [Qe,QI])⟩
    have J:s[n.toNat]?=some b:=by
     simp only [J4] at hb;rw [← hb];rw [Array.getElem?_toList];rfl
    simp [execOp,ho,Instr.index,O,Y,asIntOf,run_underlying Z,hn,J]
   ·cases G
  ·cases G
 ·cases G
def xW (P:Program) (T:Nat→Option AV) (t:TypeId) (x:Operand):Option Xq :=
 match P.underlying t,Zc T x with
 | some .string,some (.p (.val (.string s)))=>some (.p (.val (.int .i64 (J4 s).length)),none,[])
 | _,_=>none
theorem Qdh (r:Q8 φ M0 N D T h a w) (Z:o.op=.call ⟨.builtin .len,#[x],#[t]⟩) (G:xW P T t x=some u):u.2.1=none∧Yield P o φ M0 h a w u.1 h:=by
 unfold xW at G;split at G
 ·rename_i s O Y;simp only [QO] at G;subst G;have J:=r.ev Y;simp only [Qe,QI] at J;refine ⟨rfl,Qm r (v:=.int .i64 s.size) ?_ ?_⟩
  ·simp only [execOp,Z,resolve,invoke,builtin,Builtin.len_,Sem.run_bind,Sem.run_pure,Result.andThen_ok];simp [run_underlying O,J,goInt]
  ·simp only [Qe,QI]; rfl
 ·cases G
def CW (P:Program) (ty:TypeId) (l:List Value) (off:Nat):Option Value :=
 match P.underlying ty,P.info? ty with
 | some d,some i=>if Gt d then (if off+i.size≤l.length then some (.agg ((l.drop off).take i.size).toArray) else none) else l[off]?
 | _,_=>none
def eqV (P:Program):Nat→TypeId→Value→Value→Option Bool
 | 0,_,_,_=>none
 | d+1,t,x,y =>
  match P.underlying t with
  | some .bool=>match x,y with | .bool a, .bool b=>some (a == b) | _,_=>none
  | some (.int _)=>match x,y with | .int k a, .int k' b=>if k=k' then some (Qp a b) else none | _,_=>none
  | some .string=>match x,y with | .string a, .string b=>some (Qr (J4 a) (J4 b)) | _,_=>none
  | some (.struct fields)=>match x,y with | .agg xs, .agg ys=>if P.stoodInHeld t then none else eqFs P d xs.toList ys.toList fields.toList | _,_=>none
  | _=>none
where eqFs (P:Program) (d:Nat) (xs ys:List Value):List Field→Option Bool
 | []=>some true
 | f :: G =>
  if f.name="_" then eqFs P d xs ys G else
  match CW P f.type xs f.offset,CW P f.type ys f.offset with
  | some a,some b=>match eqV P d f.type a b,eqFs P d xs ys G with | some p,some q=>some (p&&q) | _,_=>none
  | _,_=>none
theorem xX {l:List Value} (G:CW P ty l off=some v):(part ty l.toArray off).run P w=.ok v w:=by
 unfold CW at G;split at G
 ·rename_i d i Y hi;split at G
  ·rename_i J;split at G
   ·rename_i Z;simp only [QO] at G;subst G;simp [part,UC Y,J,QX hi]
   ·cases G
  ·rename_i J;have O:Gt d=false:=by simpa using J
   simp [part,UC Y,O,G]
 ·cases G
theorem wC:∀ (d:Nat),(∀ (t:TypeId) (x y:Value) (b:Bool),eqV P d t x y=some b→∀ D,d≤D→(Op.equalIn D t x y).run P w=.ok b w) ∧
  (∀ (xs ys:List Value) (J:List Field) (b:Bool),eqV.eqFs P d xs ys J=some b→∀ D,d≤D→(Op.eqFields D xs.toArray ys.toArray J).run P w=.ok b w)
 | 0=>by
  refine ⟨fun t x y b G=>by simp [eqV] at G,?_⟩;intro xs ys J
  induction J with
  | nil=>intro b G D _; simp only [eqV.eqFs,QO] at G; subst G; simp [Op.eqFields]
  | cons f J ih =>
   intro b G D Y;simp only [eqV.eqFs] at G;split at G
   ·rename_i Z;simp only [Op.eqFields,Z,ne_eq,not_true_eq_false,if_false];exact ih b G D Y
   ·split at G
    ·simp [eqV] at G
    ·cases G
 | d+1=>by
  obtain ⟨i1,i2⟩:=wC d
  have j1:∀ (t:TypeId) (x y:Value) (b:Bool),eqV P (d+1) t x y=some b→∀ D,d+1≤D→(Op.equalIn D t x y).run P w=.ok b w:=by
   intro t x y b G D Y;obtain ⟨D',rfl⟩:∃ D',D=D'+1:=⟨D - 1,by omega⟩;unfold eqV at G;split at G
   ·rename_i O;split at G
    ·simp only [QO] at G; subst G; simp [Op.equalIn,run_underlying O]
    ·cases G
   ·rename_i k0 O;split at G
    ·rename_i k p k' q;split at G
     ·rename_i hk;simp only [QO] at G; subst G; subst hk; simp [Op.equalIn,run_underlying O,Qp]
     ·cases G
    ·cases G
   ·rename_i O;split at G
    ·rename_i p q;simp only [QO] at G; subst G
     have:(p == q)=Qr (J4 p) (J4 q):=by
      rw [beq_toListBytes,ByteArray.toList_eq,ByteArray.toList_eq]; rfl
     simp [Op.equalIn,run_underlying O,this]
    ·cases G
   ·rename_i fields O;split at G
    ·rename_i xs ys;split at G
     ·cases G
     ·rename_i hp;have aa:P.stoodInHeld t=false:=by simpa using hp
      have hf:P.fieldsOf t=fields:=by simp [Program.fieldsOf,O]
      rw [run_equalIn_struct w D' t xs ys (by rw [hf]; exact O) aa,hf];have:=i2 xs.toList ys.toList fields.toList b G D' zo;simpa using this
    ·cases G
   ·cases G
  refine ⟨j1,?_⟩;intro xs ys J
  induction J with
  | nil=>intro b G D _; simp only [eqV.eqFs,QO] at G; subst G; simp [Op.eqFields]
  | cons f J ih =>
   intro b G D Y;simp only [eqV.eqFs] at G;split at G
   ·rename_i Z;simp only [Op.eqFields,Z,ne_eq,not_true_eq_false,if_false];exact ih b G D Y
   ·rename_i Z;split at G
    ·rename_i p q hp hq;split at G
     ·rename_i b1 b2 h1 h2;simp only [QO] at G;subst G;simp only [Op.eqFields,ne_eq,Z,not_false_eq_true,if_true,Sem.run_bind,xX (w:=w) hp,xX (w:=w) hq,Result.andThen_ok,j1 _ _ _ _ h1 D Y];cases b1
      ·simp
      ·simpa using ih b2 h2 D Y
     ·cases G
    ·cases G
theorem Mq {x y:Value} {b:Bool} (h:∀ D,4≤D→(Op.equalIn D t x y).run P w=.ok b w):(Op.equal t x y).run P w=.ok b w:=h 10000 zo
theorem P8 {x y:Value} {b:Bool} (h:∀ D,(Op.equalIn (D+1) t x y).run P w=.ok b w):(Op.equal t x y).run P w=.ok b w:=h 9999
def isConst:Operand→Bool
 | .const _=>true
 | _=>false
def nG (P:Program) (T:Nat→Option AV) (op:BinOp) (tx:TypeId) (x y:Operand):Option Bool :=
 match Zc T x,Zc T y with
 | some (.ifc _ _),some (.p (.val .nilIface))=>match P.underlying tx with | some (.interface _)=>some false | _=>none
 | some (.p (.val .nilIface)),some (.ifc _ _)=>match P.underlying tx with | some (.interface _)=>some false | _=>none
 | some (.p (.val .nilIface)),some (.p (.val .nilIface))=>match P.underlying tx with | some (.interface _)=>if isConst x||isConst y then some true else none | _=>none
 | some (.p (.val (.bool a))),some (.p (.val (.bool b)))=>match P.underlying tx with | some .bool=>some (a == b) | _=>none
 | some (.agg xs),some (.agg ys) =>
  if P.eqGuardType P.depth tx then none else
  match NG xs,NG ys with
  | some vx,some vy=>eqV P 4 tx (.agg vx.toArray) (.agg vy.toArray)
  | _,_=>none
 | _,_=>none
def aEq (P:Program) (T:Nat→Option AV) (op:BinOp) (tx:TypeId) (x y:Operand):Option Xq :=
 match op with
 | .eql=>match nG P T op tx x y with | some b=>some (.p (.val (.bool (opq b))),none,[]) | none=>none
 | .neq=>match nG P T op tx x y with | some b=>some (.p (.val (.bool (!opq b))),none,[]) | none=>none
 | _=>none
theorem dB (r:Q8 φ M0 N D T h a w) {b:Bool} (G:nG P T op tx x y=some b) :
  (eqGuard op tx x y (a.eval x) (a.eval y)).run P w=.ok () w∧(Op.equal tx (a.eval x) (a.eval y)).run P w=.ok b w ∧
   (binOp .eql tx (a.eval x) (a.eval y)=(do pure (.bool (← Op.equal tx (a.eval x) (a.eval y))))∧binOp .neq tx (a.eval x) (a.eval y)=(do pure (.bool (!(← Op.equal tx (a.eval x) (a.eval y)))))):=by
 unfold nG at G;split at G
 ·rename_i t v Z Y;have J:=r.ev Z;have O:=r.ev Y;simp only [Qe,QI] at J O;obtain ⟨z,J,_⟩:=J;split at G
  ·rename_i ms ht;simp only [QO] at G;subst G;rw [J,O];refine ⟨by cases op <;> simp [eqGuard],P8 fun D=>by simp [Op.equalIn,run_underlying ht],rfl,rfl⟩
  ·cases G
 ·rename_i t v Z Y;have J:=r.ev Z;have O:=r.ev Y;simp only [Qe,QI] at J O;obtain ⟨z,O,_⟩:=O;split at G
  ·rename_i ms ht;simp only [QO] at G;subst G;rw [J,O];refine ⟨by cases op <;> simp [eqGuard],P8 fun D=>by simp [Op.equalIn,run_underlying ht],rfl,rfl⟩
  ·cases G
 ·rename_i Z Y;have J:=r.ev Z;have O:=r.ev Y;simp only [Qe,QI] at J O;split at G
  ·rename_i ms ht;split at G
   ·rename_i hc;simp only [QO] at G;subst G;rw [J,O];refine ⟨?_,P8 fun D=>by simp [Op.equalIn,run_underlying ht],rfl,rfl⟩;cases x <;> cases y <;> simp [isConst] at hc <;> cases op <;> simp [eqGuard]
   ·cases G
  ·cases G
 ·rename_i p q Z Y;have J:=r.ev Z;have O:=r.ev Y;simp only [Qe,QI] at J O;split at G
  ·rename_i ht;simp only [QO] at G;subst G;rw [J,O];refine ⟨by cases op <;> simp [eqGuard],P8 fun D=>by simp [Op.equalIn,run_underlying ht],rfl,rfl⟩
  ·cases G
 ·rename_i xs ys Z Y;have J:=r.ev Z;have O:=r.ev Y;simp only [Qe] at J O;obtain ⟨lx,J,h3⟩:=J;obtain ⟨ly,O,h4⟩:=O;split at G
  ·cases G
  ·rename_i hg;have ac:P.eqGuardType P.depth tx=false:=by simpa using hg
   split at G
   ·rename_i vx vy aa ab;have e1:=Md.2 _ _ _ h3 aa;have e2:=Md.2 _ _ _ h4 ab;subst e1 e2;rw [J,O];exact ⟨run_eqGuard_agg w op tx x y _ _ ac,Mq fun D hD=>(wC 4).1 _ _ _ _ G D hD,rfl,rfl⟩
   ·cases G
 ·cases G
theorem Qh7 (r:Q8 φ M0 N D T h a w) (J:o.op=.binOp op tx x y ty) (G:aEq P T op tx x y=some u):u.2.1=none∧Yield P o φ M0 h a w u.1 h:=by
 unfold aEq at G;split at G
 ·split at G
  ·rename_i b hb;simp only [QO] at G;subst G;obtain ⟨g1,g2,g3,_⟩:=dB r hb;refine ⟨rfl,Qm r (v:=.bool b) ?_ (by simp [Qe,QI,opq])⟩;simp only [execOp,J,Sem.run_bind,g1,g2,g3,Result.andThen_ok,Sem.run_pure]
  ·cases G
 ·split at G
  ·rename_i b hb;simp only [QO] at G;subst G;obtain ⟨g1,g2,_,g3⟩:=dB r hb;refine ⟨rfl,Qm r (v:=.bool (!b)) ?_ (by simp [Qe,QI,opq])⟩;simp only [execOp,J,Sem.run_bind,g1,g2,g3,Result.andThen_ok,Sem.run_pure]
  ·cases G
 ·cases G
end
def Jo (P:Program) (t:TypeId) (v:Value):Bool:=match P.underlying t,v with
 | some .bool, .bool _=>true
 | some (.int _), .int _ _=>true
 | some .string, .string _=>true
 | _,_=>false
def Vj (P:Program):Nat→List Field→List Value→Bool
 | _,[],[]=>true
 | i,f :: G,v :: J=>decide (f.offset=i)&&(f.name != "_")&&Jo P f.type v&&Vj P (i+1) G J
 | _,_,_=>false
def CX (P:Program) (t:TypeId) (v:Value):Bool:=Jo P t v||match P.underlying t,v with
 | some (.struct fields), .agg cs=>Vj P 0 fields.toList cs.toList
 | _,_=>false
section
variable {P:Program} {w:World}
theorem P9 (h:Jo P t v=true) (e:Bool) (n:Nat):(Instr.checkKey e (n+1) t v).run P w=.ok () w:=by
 unfold Jo at h;unfold Instr.checkKey;cases hd:P.underlying t with
 | none=>simp [hd] at h
 | some d =>
  simp only [Sem.run_bind,run_underlying hd,Result.andThen];rw [hd] at h;cases d <;> cases v <;> simp_all
theorem TU (h:Jo P t v=true) {k:TypeDesc} (G:P.underlying t=some k):Gt k=false:=by
 unfold Jo at h;rw [G] at h;cases k <;> first | rfl | (cases v <;> simp at h)
theorem FK (h:CX P t v=true):Jo P t v=true∨∃ fields cs,P.underlying t=some (.struct fields)∧v=.agg cs∧Vj P 0 fields.toList cs.toList=true:=by
 unfold CX at h;rw [Bool.or_eq_true] at h;rcases h with h | h
 ·exact .inl h
 ·split at h
  ·rename_i fields cs G;exact .inr ⟨fields,cs,G,rfl,h⟩
  ·cases h
theorem xY (h:Jo P t v=true) {l:List Value} (hi:l[i]?=some v):(part t l.toArray i).run P w=.ok v w:=by
 cases hd:P.underlying t with
 | none=>simp [Jo,hd] at h
 | some d=>simp [part,UC hd,TU h hd,hi]
theorem Nj:∀ (J:List Field) (G:List Value) (i:Nat) (l:List Value) (e:Bool) (n:Nat),Vj P i J G=true→l.drop i=G →
  (forIn J PUnit.unit fun f _=>(do
   if f.name ≠ "_" then Instr.checkKey e (n+1) f.type (← part f.type l.toArray f.offset)
   pure (ForInStep.yield PUnit.unit):Sem (ForInStep PUnit))).run P w=.ok PUnit.unit w
 | [],G,i,l,e,n,_,_=>by simp
 | f :: J,[],i,l,e,n,h,_=>by simp [Vj] at h
 | f :: J,v :: G,i,l,e,n,h,Z=>by
  simp only [Vj,Zf,decide_eq_true_eq,bne_iff_ne] at h;obtain ⟨⟨⟨h1,h2⟩,Y⟩,h4⟩:=h
  have hi:l[i]?=some v:=by
   have:=congrArg (·[0]?) Z;simpa using this
  have O:l.drop (i+1)=G:=by
   rw [← List.drop_drop,Z];rfl
  simp only [List.forIn_cons,Sem.run_bind,h2,ne_eq,not_false_eq_true,if_true,h1,xY Y hi,Result.andThen_ok,P9 Y,Sem.run_pure];exact Nj J G (i+1) l e n h4 O
theorem FL (h:CX P t v=true) (e:Bool):(Instr.checkKey e 10000 t v).run P w=.ok () w:=by
 rcases FK h with hp | ⟨fields,cs,G,rfl,hp⟩
 ·exact P9 hp e 9999
 ·rw [show (10000:Nat)=9999+1 from rfl,Instr.checkKey];simp only [Sem.run_bind,run_underlying G,Result.andThen_ok];rw [← Array.forIn_toList];have:=Nj (w:=w) fields.toList cs.toList 0 cs.toList e 9998 hp zq;simp only [Array.toArray_toList] at this;rw [this];rfl
theorem yD {a b:Value} (G:Jo P t a=true) (hb:Jo P t b=true) (h:eqV P (d+1) t a b=some true):a=b:=by
 unfold Jo at G hb;unfold eqV at h;cases hd:P.underlying t with
 | none=>simp [hd] at G
 | some k =>
  rw [hd] at G hb h;cases k <;> cases a <;> simp only [Bool.false_eq_true] at G <;> cases b <;> simp only [Bool.false_eq_true] at hb <;> simp only at h
  ·simpa using h
  ·split at h
   ·rename_i e;simp only [QO,Qp] at h;rw [e,eq_of_beq h]
   ·cases h
  ·simp only [QO,Qr] at h;have J:=eq_of_beq h;have:=congrArg JW J;rw [wo,wo] at this;rw [this]
theorem qf {d:Nat}:∀ (Z:List Field) (xs ys:List Value) (i:Nat) (J O:List Value),Vj P i Z xs=true→Vj P i Z ys=true→J.drop i=xs→O.drop i=ys→eqV.eqFs P (d+1) J O Z=some true→xs=ys
 | [],[],[],_,_,_,_,_,_,_,_=>rfl
 | [],x :: xs,ys,i,J,O,hx,_,_,_,_=>by simp [Vj] at hx
 | [],[],y :: ys,i,J,O,_,hy,_,_,_=>by simp [Vj] at hy
 | f :: Z,[],ys,i,J,O,hx,_,_,_,_=>by simp [Vj] at hx
 | f :: Z,x :: xs,[],i,J,O,_,hy,_,_,_=>by simp [Vj] at hy
 | f :: Z,x :: xs,y :: ys,i,J,O,hx,hy,ab,ac,h=>by
  simp only [Vj,Zf,decide_eq_true_eq,bne_iff_ne] at hx hy;obtain ⟨⟨⟨h1,h2⟩,h3⟩,h4⟩:=hx;obtain ⟨⟨⟨_,_⟩,aa⟩,ae⟩:=hy
  have ad:J[i]?=some x:=by
   have:=congrArg (·[0]?) ab;simpa using this
  have ah:O[i]?=some y:=by
   have:=congrArg (·[0]?) ac;simpa using this
  have G:∀ (l:List Value) (v:Value),Jo P f.type v=true→l[i]?=some v→∀ q,CW P f.type l i=some q→q=v:=by
   intro l v hv hl q Y;unfold CW at Y;cases hd:P.underlying f.type with
   | none=>simp [Jo,hd] at hv
   | some k =>
    have af:=TU hv hd;rw [hd] at Y;split at Y
    ·rename_i dd ii e1 e2;cases e1;rw [af] at Y;simp only [Bool.false_eq_true,if_false] at Y;rw [hl] at Y;exact (Option.some.inj Y).symm
    ·cases Y
  simp only [eqV.eqFs,h2,if_false] at h;rw [h1] at h;split at h
  ·rename_i a b e1 e2;obtain rfl:=G J x h3 ad a e1;obtain rfl:=G O y aa ah b e2;split at h
   ·rename_i p q e3 e4;simp only [QO,Zf] at h;rw [h.1] at e3;rw [h.2] at e4;rw [yD h3 aa e3,qf Z xs ys (i+1) J O h4 ae (by rw [← List.drop_drop,ab]; rfl) (by rw [← List.drop_drop,ac]; rfl) e4]
   ·cases h
  ·cases h
theorem Qdj {a b:Value} (ha:CX P t a=true) (hb:CX P t b=true) (h:eqV P 4 t a b=some true):a=b:=by
 rcases FK ha with Z | ⟨fields,xs,Y,rfl,Z⟩
 ·rcases FK hb with G | ⟨fields,ys,Y,rfl,G⟩
  ·exact yD Z G h
  ·have:=TU Z Y;cases this
 ·rcases FK hb with G | ⟨J,ys,O,rfl,G⟩
  ·have:=TU G Y;cases this
  ·rw [Y] at O;cases O;unfold eqV at h;rw [Y] at h;simp only at h;split at h
   ·cases h
   ·have:=qf fields.toList xs.toList ys.toList 0 xs.toList ys.toList Z G zq zq h;rw [Array.ext' this]
theorem CY (h:Jo P t v=true) (n:Nat):Instr.sameBits n v v=true:=by
 unfold Jo at h;split at h
 ·cases n <;> simp [Instr.sameBits]
 ·cases n <;> simp [Instr.sameBits]
 ·rename_i s _;obtain ⟨x⟩:=s;cases n <;> (show (x == x)=true; simp)
 ·cases h
theorem AY (n:Nat):∀ (J:List Field) (G:List Value) (i:Nat),Vj P i J G=true→(G.zip G).all (fun (x,y)=>Instr.sameBits n x y)=true
 | [],[],_,_=>rfl
 | [],v :: G,i,h=>by simp [Vj] at h
 | f :: J,[],i,h=>by simp [Vj] at h
 | f :: J,v :: G,i,h=>by
  simp only [Vj,Zf] at h;simp only [List.zip_cons_cons,List.all_cons,Zf];exact ⟨CY h.1.2 n,AY n J G (i+1) h.2⟩
theorem tN (h:CX P t v=true):Instr.sameBits 10000 v v=true:=by
 rcases FK h with hp | ⟨fields,cs,G,rfl,hp⟩
 ·exact CY hp _
 ·rw [show (10000:Nat)=9999+1 from rfl,Instr.sameBits];simp only [beq_self_eq_true,Bool.true_and];exact AY 9999 _ _ 0 hp
end
def Ut (P:Program) (kt:TypeId) (k:Value):Nat→List (Value × PV)→Option (Option (Nat × PV))
 | _,[]=>some none
 | i,(k',v) :: r=>match (if CX P kt k' then eqV P 4 kt k k' else none) with
  | some true=>some (some (i,v))
  | some false=>Ut P kt k (i+1) r
  | none=>none
section
variable {P:Program} {w:World}
theorem AZ {d:TypeDesc} (hd:P.underlying t=some d) {a b:Value} {x y:Bool} (J:Instr.sameNow d a b=some x) (G:eqV P 4 t a b=some y):x=y:=by
 unfold eqV at G;rw [hd] at G;unfold Instr.sameNow at J;split at J
 ·simp only at G;rename_i k k1 n1 k2 n2;split at J
  ·rename_i e;rw [if_pos e] at G;rw [← Option.some.inj J,← Option.some.inj G];rfl
  ·cases J
 ·simp only at G;rename_i s1 Z;rw [← Option.some.inj J,← Option.some.inj G];obtain ⟨Y⟩:=s1;obtain ⟨O⟩:=Z;show (Y == O)=Qr (J4 ⟨Y⟩) (J4 ⟨O⟩);unfold Qr J4;rw [Bool.eq_iff_iff];simp
 ·simp only at G;rw [← Option.some.inj J,← Option.some.inj G]
 ·cases J
def Eb (es:List (Value × PV)) (G:List MapEntry) (i:Nat) (r:Option (Nat × PV)) (q:Option (Nat × Value)):Prop :=
 match r with
 | none=>q=none
 | some (j,x)=>∃ m e,j=i+m∧q=some (i+m,e.val)∧G[m]?=some e∧es[m]?=some (e.key,x)
theorem qg {kt:TypeId} {k:Value}:∀ (es:List (Value × PV)) (O:List MapEntry) (i:Nat) (r:Option (Nat × PV)),O.map (·.key)=es.map (·.1)→Ut P kt k i es=some r→∃ q,(Instr.findAsking kt k O i).run P w=.ok q w∧Eb es O i r q
 | [],O,i,r,Z,h=>by
  simp only [Ut,QO] at h;subst h;have:O=[]:=by simpa using Z
  subst this;exact ⟨none,by simp [Instr.findAsking],rfl⟩
 | (k',v) :: es,[],i,r,Z,h=>by simp at Z
 | (k',v) :: es,e :: O,i,r,Z,h=>by
  simp only [List.map_cons,List.cons.injEq] at Z;obtain ⟨Y,aa⟩:=Z;simp only [Ut] at h;split at h
  ·rename_i J;simp only [QO] at h;subst h;split at J
   ·have G:(Op.equal kt k k').run P w=.ok true w:=Mq fun D hD=>(wC 4).1 _ _ _ _ J D hD
    exact ⟨some (i,e.val),by simp [Instr.findAsking,Y,G],0,e,by simp,by simp,by simp,by simp [Y]⟩
   ·cases J
  ·rename_i J;split at J
   ·have G:(Op.equal kt k k').run P w=.ok false w:=Mq fun D hD=>(wC 4).1 _ _ _ _ J D hD
    obtain ⟨q,h1,h2⟩:=qg es O (i+1) r aa h;refine ⟨q,by simp [Instr.findAsking,Y,G,h1],?_⟩;unfold Eb at h2 ⊢;split
    ·exact h2
    ·rename_i j x;obtain ⟨m,e',g1,g2,g3,g4⟩:=h2;exact ⟨m+1,e',by omega,by rw [g2]; congr 2; omega,by simpa using g3,by simpa using g4⟩
   ·cases J
  ·cases h
theorem qi {kt:TypeId} {d:TypeDesc} {k:Value} (hd:P.underlying kt=some d):∀ (es:List (Value × PV)) (O:List MapEntry) (i:Nat) (r:Option (Nat × PV)) (q:Option (Nat × Value)),O.map (·.key)=es.map (·.1)→Ut P kt k i es=some r→Instr.findNow d k O i=some q→Eb es O i r q
 | [],O,i,r,q,Y,h,G=>by
  simp only [Ut,QO] at h;subst h;have:O=[]:=by simpa using Y
  subst this;simp only [Instr.findNow,QO] at G;exact G.symm
 | (k',v) :: es,[],i,r,q,Y,h,G=>by simp at Y
 | (k',v) :: es,e :: O,i,r,q,Y,h,G=>by
  simp only [List.map_cons,List.cons.injEq] at Y;obtain ⟨Z,aa⟩:=Y;simp only [Ut] at h;simp only [Instr.findNow,Z] at G;cases hs:Instr.sameNow d k k' with
  | none=>rw [hs] at G; cases G
  | some b =>
   rw [hs] at G;split at h
   ·rename_i J;simp only [QO] at h;subst h;split at J
    ·obtain rfl:=AZ hd hs J;simp only [QO] at G;exact ⟨0,e,by simp,by simpa using G.symm,by simp,by simp [Z]⟩
    ·cases J
   ·rename_i J;split at J
    ·obtain rfl:=AZ hd hs J;simp only at G;have h2:=qi hd es O (i+1) r q aa h G;unfold Eb at h2 ⊢;split
     ·exact h2
     ·rename_i j x;obtain ⟨m,e',g1,g2,g3,g4⟩:=h2;exact ⟨m+1,e',by omega,by rw [g2]; congr 2; omega,by simpa using g3,by simpa using g4⟩
    ·cases J
   ·cases h
theorem Xx {k:Value} {d:TypeDesc} (J:P.underlying kt=some d) {es:List (Value × PV)} {G:List MapEntry} {r:Option (Nat × PV)} (O:G.map (·.key)=es.map (·.1)) (h:Ut P kt k 0 es=some r) :
  ∃ q,(Instr.findKey kt k G).run P w=.ok q w∧Eb es G 0 r q:=by
 cases hn:Instr.findNow d k G 0 with
 | some q=>exact ⟨q,by simp [Instr.findKey,run_underlying J,Result.andThen,hn],qi J es G 0 r q O h hn⟩
 | none =>
  obtain ⟨q,Y,Z⟩:=qg (w:=w) es G 0 r O h;exact ⟨q,by simp [Instr.findKey,run_underlying J,Result.andThen,hn,Y],Z⟩
theorem yE {kt:TypeId} {k:Value}:∀ (es:List (Value × PV)) (i j:Nat) (x:PV),Ut P kt k i es=some (some (j,x))→CX P kt k=true→∃ m,j=i+m∧es[m]?=some (k,x)
 | [],i,j,x,h,_=>by simp [Ut] at h
 | (k',v) :: es,i,j,x,h,O=>by
  simp only [Ut] at h;split at h
  ·rename_i G;simp only [QO,Prod.mk.injEq] at h;obtain ⟨rfl,rfl⟩:=h;split at G
   ·rename_i J;exact ⟨0,by simp,by simp [Qdj O J G]⟩
   ·cases G
  ·obtain ⟨m,Z,Y⟩:=yE es (i+1) j x h O;exact ⟨m+1,by omega,by simpa using Y⟩
  ·cases h
end
def CZ (h:QH) (dst:Option Tmp) (rsv:Option Operand):Option Xq:=match dst,rsv with
 | some d,none=>if h d=none then some (.mv d,some (d, .mp []),[d]) else none
 | _,_=>none
def C8 (ok:Bool) (v:AV) (b:Bool):AV:=if ok then .tup [v, .p (.val (.bool b))] else v
def avP:PV→AV
 | .val v=>zR v
 | .sl S es=>.p (.sl S es)
def pvO:AV→Option PV
 | .p x=>some x
 | .agg cs=>(NG cs).map fun l=>.val (.agg l.toArray)
 | _=>none
theorem Qdk {x:PV} (G:Qe φ h w M (.p x) v):Qe φ h w M (avP x) v:=by
 cases x with
 | val u=>simp only [Qe,QI] at G; rw [G]; exact Wp u
 | sl S es=>exact G
theorem Qdl {y:AV} {x:PV} (G:pvO y=some x) (J:Qe φ h w M y v):Qe φ h w M (.p x) v:=by
 cases y with
 | p z=>simp only [pvO,QO] at G; subst G; exact J
 | agg cs =>
  simp only [pvO,Fe] at G;obtain ⟨m,O,rfl⟩:=G;simp only [Qe] at J;obtain ⟨l,rfl,Y⟩:=J;simp only [Qe,QI];rw [Md.2 cs l m Y O]
 | _=>cases G
def Xi (P:Program) (T:Nat→Option AV) (h:QH) (t:TypeId) (x ix:Operand) (ok:Bool):Option Xq :=
 match P.underlying t,Zc T x,Zc T ix with
 | some (.map kt e),some (.mv b),some kv =>
  match h b,SH kv,P.underlying kt with
  | some (.mp es),some k,some _ =>
   if CX P kt k then
    match Ut P kt k 0 es with
    | some (some (_,v))=>some (C8 ok (avP v) true,none,[b])
    | some none=>match (P.info? e).bind (·.zero) with | some z=>some (C8 ok (zR z) false,none,[b]) | none=>none
    | none=>none
   else none
  | _,_,_=>none
 | _,_,_=>none
def YT (P:Program) (T:Nat→Option AV) (h:QH) (t:TypeId) (x ix y:Operand):Option Xq :=
 match P.underlying t,Zc T x,Zc T ix,Zc T y with
 | some (.map kt e),some (.mv b),some kv,some y =>
  match h b,SH kv,P.underlying kt,pvO y with
  | some (.mp es),some k,some _,some v =>
   if CX P kt k then
    match Ut P kt k 0 es with
    | some (some (i,_))=>some (.p (.val undef),some (b, .mp (es.set i (k,v))),[b])
    | some none=>some (.p (.val undef),some (b, .mp (es++[(k,v)])),[b])
    | none=>none
   else none
  | _,_,_,_=>none
 | _,_,_,_=>none
section
variable {P:Program} {o:Oper} {φ:Nat→Nat} {M0:Zr} {N:Nat} {D:DB} {T:Nat→Option AV} {h:QH} {a:Act} {w:World}
theorem nH (r:Q8 φ M0 N D T h a w) {rsv:Option Operand} (Z:o.op=.makeMap t rsv) (G:CZ h o.dst rsv=some u):Yield P o φ M0 h a w u.1 (ap h u.2.1):=by
 unfold CZ at G;split at G
 ·rename_i d hd;split at G
  ·rename_i O;simp only [QO] at G;subst G;refine Yield.of_lift r 1 fun φ r E0 X0 Y=>?_
   obtain ⟨E,X⟩:=XY (w':=w.alloc (.map #[] 0)) (o:=.map #[] 0) (b:=d) (k:=.mp []) (M0:=M0) rfl rfl rfl rfl O r.hp Y
   have J:RelB (Qu φ d w.heap.size) (upd h d (.mp [])) (w.alloc (.map #[] 0)) (MM (Qu φ d w.heap.size) (upd h d (.mp [])) M0) w.heap.size (.mp []):=by
    refine ⟨#[],0,by show (w.heap.push _)[w.heap.size]?=_; simp,rfl,rfl⟩
   refine ⟨_, .map (some w.heap.size),_,Qu φ d w.heap.size,?_, .inl rfl,?_,XZ rfl O r.hp Y E X J,E,X⟩
   ·simp [execOp,Z,Instr.makeMap,newObj,Sem.run]
   ·simp only [Qe,ap];exact ⟨by simp [Qu], .mp [],by simp [upd],rfl⟩
  ·cases G
 ·cases G
theorem qj {M:Zr}:∀ {xs:List AV} {J:List Value} {i:Nat} {x:AV} {v:Value},Qi φ h w M xs J→xs[i]?=some x→J[i]?=some v→Qe φ h w M x v
 | [],J,i,x,v,_,G,_=>by simp at G
 | y :: xs,J,i,x,v,Y,G,O=>by
  simp only [Qi] at Y;obtain ⟨z,zs,rfl,Z,h2⟩:=Y;cases i with
  | zero =>
   simp only [List.getElem?_cons_zero,QO] at G O;subst G O;exact Z
  | succ i=>exact qj h2 (by simpa using G) (by simpa using O)
theorem tO (r:Q8 φ M0 N D T h a w) (ho:o.op=.lookup t x ix ok) (G:Xi P T h t x ix ok=some u):u.2.1=none∧Yield P o φ M0 h a w u.1 h:=by
 unfold Xi at G;split at G;rotate_left
 ·cases G
 rename_i kt e b kv ht hx af;split at G;rotate_left
 ·cases G
 rename_i es k kd hb hk ad;split at G;rotate_left
 ·cases G
 rename_i ae;have ab:=r.ev hx;simp only [Qe] at ab;have Z:=(Md.1 _ _ _ (r.ev af) hk);obtain ⟨en,clock,hw,J,ac⟩:=r.hp.blk b _ hb;have Y:(getObj (φ b)).run P w=.ok (.map en clock) w:=by simp [getObj,Sem.run,hw]
 have aa:=FL (w:=w) ae en.isEmpty;split at G
 ·rename_i i v hf;simp only [QO] at G;subst G;refine ⟨rfl,?_⟩;obtain ⟨q,Pg,m,e',g1,g2,g3,g4⟩:=Xx (w:=w) ad J hf;have O:Qe φ h w (MM φ h M0) (avP v) e'.val:=Qdk <| qj ac (i:=m) (by simp [g4]) (by simp [g3]);subst g2;refine Qm r (v:=if ok then .tuple #[e'.val, .bool true] else e'.val) ?_ ?_
  ·simp [execOp,ho,Instr.lookup,run_underlying ht,ab.1,Y,Z,aa,Pg,Result.andThen]
  ·unfold C8;cases ok
   ·exact O
   ·simp only [if_true,Qe];exact ⟨[e'.val, .bool true],by simp,_,_,rfl,O,_,_,rfl,by simp [Qe,QI],rfl⟩
 ·rename_i hf;split at G
  ·rename_i z hz;simp only [QO] at G;subst G;refine ⟨rfl,?_⟩;obtain ⟨inf,hi,hz⟩:=Option.bind_eq_some_iff.1 hz;obtain ⟨q,Pg,DD⟩:=Xx (w:=w) ad J hf;have DD:q=none:=DD;subst DD;refine Qm r (v:=if ok then .tuple #[z, .bool false] else z) ?_ ?_
   ·simp [execOp,ho,Instr.lookup,run_underlying ht,ab.1,Y,Z,aa,Pg,Result.andThen,zeroValue,typeInfo,program,Sem.run,hi,hz]
   ·unfold C8;cases ok
    ·exact Wp z
    ·simp only [if_true,Qe];exact ⟨[z, .bool false],by simp,_,_,rfl,Wp z,_,_,rfl,by simp [Qe,QI],rfl⟩
  ·cases G
 ·cases G
theorem wD {es es':List (Value × PV)} {ob:Obj} (hb:h b=some (.mp es)) (r:Zz φ h w M0) :
  QW φ h w φ (upd h b (.mp es')) (w.putObj (φ b) ob)∧VR φ h w φ (upd h b (.mp es')) (w.putObj (φ b) ob):=by
 have hlt:=BZ r hb (fun _ _ e=>by cases e);have G:∀ x,x ≠ φ b→(w.putObj (φ b) ob).heap[x]?=w.heap[x]?:=fun x hx=>World.putObj_heap_other hx
 have hne:∀ c k,h c=some k→k.ob=none→¬ b=c:=fun c k hc hk e=>by rw [← e,hb] at hc; cases hc; cases hk
 have ac:∀ c k,h c=some k→¬ b=c→φ c ≠ φ b:=fun c k hc e h2=>e (r.inj c b (by rw [hc]; simp) (by rw [hb]; simp) h2).symm
 have Z:∀ c ty cs,h c=some (.box ty cs)→upd h b (.mp es') c=some (.box ty cs):=fun c ty cs hc=>by simp [upd,hne c _ hc rfl,hc]
 have ab:∀ t ty S n,h t=some (.arr ty S n)→∃ n',upd h b (.mp es') t=some (.arr ty S n')∧n≤n'∧(n'=n→AKept w (w.putObj (φ b) ob) (φ t) (φ t) ty):=by
  intro t ty S n O;have e:=hne t _ O rfl;exact ⟨n,by simp [upd,e,O],Nat.le_refl _,fun _=>Yp (rfl) (by rw [G _ (ac t _ O e)])⟩
 have Y:∀ t ty S es,h t=some (.vec ty S es)→∃ J,upd h b (.mp es') t=some (.vec ty S J)∧es.length≤J.length∧(J.length=es.length→φ t=φ t∧∀ c,w.heap[φ t]?=some (.cells c ty (0,0))→∃ c',(w.putObj (φ b) ob).heap[φ t]?=some (.cells c' ty (0,0))∧c'.size=c.size):=by
  intro t ty S n O;have e:=hne t _ O rfl;exact ⟨n,by simp [upd,e,O],Nat.le_refl _,fun _=>⟨rfl,fun c hc=>⟨c,by rw [G _ (ac t _ O e)]; exact hc,rfl⟩⟩⟩
 have aa:∀ c k x,h c=some k→k.ob=some x→(∃ k',upd h b (.mp es') c=some k'∧k'.ob=some x)∧φ c=φ c:=by
  intro c k x hc ho;by_cases e:b=c
  ·subst e;rw [hb] at hc;cases hc;exact ⟨⟨.mp es',by simp [upd],ho⟩,rfl⟩
  ·exact ⟨⟨k,by simp [upd,e,hc],ho⟩,rfl⟩
 refine ⟨⟨rfl,rfl,rfl,by simp [World.putObj],?_,?_,?_,fun c ty cs _ hc=>⟨⟨cs,Z c ty cs hc⟩,rfl⟩,fun t ty S n _=>ab t ty S n,fun t ty S es _=>Y t ty S es,fun c k x _=>aa c k x⟩,fun c ty cs hc=>⟨⟨ty,cs,Z c ty cs hc⟩,rfl⟩,ab,Y,aa⟩
 ·intro x _ ad;exact G x (fun e=>ad b (by rw [hb]; simp) e.symm)
 ·intro x y _ hm;have:x ≠ φ b:=fun e=>hm ⟨b,_,hb,e.symm,trivial⟩
  simp [World.cell?,G x this]
 ·rintro x y _ ⟨d,q,h1,h2,h3⟩;by_cases e:b=d
  ·exact ⟨b,_,hb,by rw [e]; exact h2,trivial⟩
  ·exact ⟨d,q,by simpa [upd,e] using h1,h2,h3⟩
theorem dC {es es':List (Value × PV)} {J:Array MapEntry} {G:Nat} (hb:h b=some (.mp es)) (r:Zz φ h w M0) (Y:J.toList.map (·.key)=es'.map (·.1)) (hv:Qi φ h w (MM φ h M0) (es'.map fun p=>.p p.2) (J.toList.map (·.val))) :
  Zz φ (upd h b (.mp es')) (w.putObj (φ b) (.map J G)) M0:=by
 obtain ⟨E,X⟩:=wD (es':=es') (ob:=.map J G) hb r;have hlt:=BZ r hb (fun _ _ e=>by cases e)
 have g:∀ d,upd h b (.mp es') d ≠ none→h d ≠ none:=fun d O=>by
  by_cases e:b=d
  ·rw [← e,hb]; simp
  ·simpa [upd,e] using O
 refine ⟨fun c d hc O Z=>r.inj c d (g c hc) (g d O) Z,fun c k hc=>?_,fun c hc=>r.fr c (g c hc),fun x o hx=>by simpa [World.putObj] using r.lt x o hx,r.gm.evol E⟩;by_cases e:b=c
 ·subst e;have:k=.mp es':=by simpa [upd] using hc.symm
  subst this;exact ⟨J,G,World.putObj_heap_same hlt,Y,(QJ (E.keeps M0) X).2 _ _ hv⟩
 ·have hc':h c=some k:=by simpa [upd,e] using hc
  exact ZI (E.keeps M0) X (World.putObj_heap_other fun h2=>e (r.inj c b (by rw [hc']; simp) (by rw [hb]; simp) h2).symm) (r.blk c k hc')
theorem yF {M:Zr}:∀ {xs:List AV} {J:List Value} {i:Nat} {x:AV} {v:Value},Qi φ h w M xs J→Qe φ h w M x v→Qi φ h w M (xs.set i x) (J.set i v)
 | [],J,i,x,v,G,_=>by
  simp only [Qi] at G;subst G;simp [Qi]
 | y :: xs,J,i,x,v,G,Y=>by
  simp only [Qi] at G;obtain ⟨z,zs,rfl,Z,O⟩:=G;cases i with
  | zero=>simp only [List.set_cons_zero,Qi]; exact ⟨_,_,rfl,Y,O⟩
  | succ i=>simp only [List.set_cons_succ,Qi]; exact ⟨_,_,rfl,Z,yF O Y⟩
theorem NL {M:Zr}:∀ {xs:List AV} {J:List Value} {x:AV} {v:Value},Qi φ h w M xs J→Qe φ h w M x v→Qi φ h w M (xs++[x]) (J++[v])
 | [],J,x,v,G,O=>by
  simp only [Qi] at G;subst G;exact ⟨v,[],rfl,O,rfl⟩
 | y :: xs,J,x,v,G,O=>by
  simp only [Qi] at G;obtain ⟨z,Z,rfl,Y,h2⟩:=G;exact ⟨z,Z++[v],rfl,Y,NL h2 O⟩
theorem ql {J:Array MapEntry} {e:MapEntry} (k v:Value) (Y:J.toList[i]?=some e):(J.modify i fun e=>{ e with key:=k,val:=v }).toList=J.toList.set i { e with key:=k,val:=v }:=by
 apply List.ext_getElem?;intro j;simp only [Array.getElem?_toList,Array.getElem?_modify,List.getElem?_set];by_cases G:i=j
 ·subst G;have O:J[i]?=some e:=by simpa using Y
  have hlt:i < J.toList.length:=(List.getElem?_eq_some_iff.1 Y).1;simp [O];simpa using hlt
 ·simp [G]
theorem wE (r:Q8 φ M0 N D T h a w) (ho:o.op=.mapUpdate t x ix y) (J:YT P T h t x ix y=some u):Yield P o φ M0 h a w u.1 (ap h u.2.1):=by
 unfold YT at J;split at J;rotate_left
 ·cases J
 rename_i kt e b kv y0 ht hx ai hy;split at J;rotate_left
 ·cases J
 rename_i es k kd v hb hk af am;split at J;rotate_left
 ·cases J
 rename_i Y;have ad:=r.ev hx;simp only [Qe] at ad;have aa:=(Md.1 _ _ _ (r.ev ai) hk);have ae:=Qdl am (r.ev hy);obtain ⟨en,clock,hw,G,O⟩:=r.hp.blk b _ hb;have Z:(getObj (φ b)).run P w=.ok (.map en clock) w:=by simp [getObj,Sem.run,hw]
 have ac:∀ ob,(setObj (φ b) ob).run P w=.ok () (w.putObj (φ b) ob):=fun ob=>by simp [setObj,Sem.run,hw,World.putObj]
 have ab:=FL (w:=w) Y false;split at J
 ·rename_i i v0 hf;simp only [QO] at J;subst J;simp only [ap];obtain ⟨q,Pg,m,e',g1,g2,g3,g4⟩:=Xx (w:=w) af G hf;obtain ⟨m',an,ah⟩:=yE es 0 i v0 hf Y;have ak:m'=m:=by omega
  subst ak;have aj:e'.key=k:=by rw [ah] at g4; exact ((Prod.mk.inj (Option.some.inj g4)).1).symm
  have hi:i=m':=by omega
  subst hi;have al:en[i]?=some e':=by simpa using g3
  obtain ⟨E,X⟩:=wD (es':=es.set i (k,v)) (ob:=.map (en.modify i fun e=>{ e with key:=k,val:=a.eval y }) clock) hb r.hp;refine ⟨.skip,undef,w.putObj (φ b) (.map (en.modify i fun e=>{ e with key:=k,val:=a.eval y }) clock),φ,?_, .inr ⟨rfl,rfl⟩,by simp [Qe,QI],dC hb r.hp ?_ ?_,E,X⟩
  ·simp [execOp,ho,Instr.mapUpdate,run_underlying ht,ad.1,Z,aa,ab,Pg,g2,Result.andThen,al,aj,Instr.keyThatStays,tN Y,ac]
  ·rw [ql k (a.eval y) g3,List.map_set,List.map_set,G]
  ·rw [ql k (a.eval y) g3,List.map_set,List.map_set];exact yF O ae
 ·rename_i hf;simp only [QO] at J;subst J;simp only [ap];obtain ⟨q,Pg,DD⟩:=Xx (w:=w) af G hf;have DD:q=none:=DD;subst DD;obtain ⟨E,X⟩:=wD (es':=es++[(k,v)]) (ob:=.map (en.push { key:=k,val:=a.eval y,born:=clock }) (clock+1)) hb r.hp;refine ⟨.skip,undef,w.putObj (φ b) (.map (en.push { key:=k,val:=a.eval y,born:=clock }) (clock+1)),φ,?_, .inr ⟨rfl,rfl⟩,by simp [Qe,QI],dC hb r.hp ?_ ?_,E,X⟩
  ·simp [execOp,ho,Instr.mapUpdate,run_underlying ht,ad.1,Z,aa,ab,Pg,Result.andThen,ac]
  ·simp [G]
  ·simp only [Array.toList_push,List.map_append,List.map_cons,List.map_nil];exact NL O ae
 ·cases J
theorem tQ {q:Addr} {c m k:Nat} (J:o.op=.binOp op tx x y ty) (Z:P.underlying tx=some (.slice e)) (Y:a.eval x=.slice (some q) n c) (G:a.eval y=.slice none m k) :
  (op=.eql→(execOp a.eval o).run P w=.ok (.value (.bool false)) w)∧(op=.neq→(execOp a.eval o).run P w=.ok (.value (.bool true)) w):=by
 have O:(Op.equal tx (.slice (some q) n c) (.slice none m k)).run P w=.ok false w:=by
  refine Mq fun D hD=>?_
  obtain ⟨D,rfl⟩:∃ d,D=d+1:=⟨D - 1,by omega⟩;unfold Op.equalIn;simp [run_underlying Z]
 constructor
 ·rintro rfl;simp [execOp,J,Y,G,eqGuard,binOp,O]
 ·rintro rfl;simp [execOp,J,Y,G,eqGuard,binOp,O]
end
def SV (P:Program) (T:Nat→Option AV) (h:QH) (op:BinOp) (tx:TypeId) (x y:Operand):Option Xq :=
 match P.underlying tx,Zc T x,Zc T y with
 | some (.slice _),some (.tsl _ es t),some (.p (.val (.slice none _ _))) =>
  match h t with
  | some (.arr _ _ n)=>if es.length=n∧es.isEmpty=false then (match op with | .eql=>some (.p (.val (.bool false)),none,[t]) | .neq=>some (.p (.val (.bool true)),none,[t]) | _=>none) else none
  | _=>none
 | _,_,_=>none
section
variable {P:Program} {o:Oper} {φ:Nat→Nat} {M0:Zr} {N:Nat} {D:DB} {T:Nat→Option AV} {h:QH} {a:Act} {w:World}
theorem QaF (r:Q8 φ M0 N D T h a w) (ho:o.op=.binOp op tx x y ty) (G:SV P T h op tx x y=some u):u.2.1=none∧Yield P o φ M0 h a w u.1 h:=by
 unfold SV at G;split at G;rotate_left
 ·cases G
 rename_i e S es t m k ht hx hy;split at G;rotate_left
 ·cases G
 rename_i ta Sa n hb;split at G;rotate_left
 ·cases G
 rename_i J;have aa:=r.ev hx;have Z:=r.ev hy;simp only [Qe,QI] at Z;simp only [Qe] at aa;obtain ⟨_,Vz,n2,Y,_,O⟩:=aa;rw [hb] at Y;cases Y
 obtain ⟨cap,c,hv,_⟩:∃ cap c,a.eval x=.slice (some ⟨φ t,0,none⟩) n cap∧w.heap[φ t]?=some (.cells c ta (0,0))∧c.size=cap * S∧n≤cap∧cap≤maxLen:=by
  rcases O J.1 with ⟨h0,_⟩ | h0
  ·have h1:=J.1;have h2:=J.2;rw [h0] at h1;rw [List.length_eq_zero_iff.1 h1] at h2;cases h2
  ·exact h0
 obtain ⟨g1,g2⟩:=tQ (P:=P) (w:=w) ho ht hv Z;split at G
 ·simp only [QO] at G;subst G;exact ⟨rfl,Qm r (g1 rfl) (by simp [Qe,QI])⟩
 ·simp only [QO] at G;subst G;exact ⟨rfl,Qm r (g2 rfl) (by simp [Qe,QI])⟩
 ·cases G
end
section
variable {P:Program} {o:Oper} {φ:Nat→Nat} {M0:Zr} {N:Nat} {D:DB} {T:Nat→Option AV} {h:QH} {a:Act} {w:World}
theorem Oc {k0 k1:Blk} {ob:Obj} (hb:h b=some k0) (h0:k0.ob=some .mp) (h1:k1.ob=some .mp) (r:Zz φ h w M0) :
  QW φ h w φ (upd h b k1) (w.putObj (φ b) ob)∧VR φ h w φ (upd h b k1) (w.putObj (φ b) ob):=by
 have hm:∀ x o,Cb φ (upd h b k1) x o→Cb φ h x o:=by
  rintro x y ⟨d,q,g1,g2,g3⟩;by_cases e:b=d
  ·refine ⟨b,_,hb,by rw [e]; exact g2,?_⟩;cases k0 <;> first | trivial | cases h0
  ·exact ⟨d,q,by simpa [upd,e] using g1,g2,g3⟩
 have G:∀ x,x ≠ φ b→(w.putObj (φ b) ob).heap[x]?=w.heap[x]?:=fun x hx=>World.putObj_heap_other hx
 have hne:∀ c k,h c=some k→k.ob=none→¬ b=c:=fun c k hc hk e=>by rw [← e,hb] at hc; cases hc; rw [hk] at h0; cases h0
 have ac:∀ c k,h c=some k→¬ b=c→φ c ≠ φ b:=fun c k hc e h2=>e (r.inj c b (by rw [hc]; simp) (by rw [hb]; simp) h2).symm
 have Z:∀ c ty cs,h c=some (.box ty cs)→upd h b k1 c=some (.box ty cs):=fun c ty cs hc=>by simp [upd,hne c _ hc rfl,hc]
 have ab:∀ t ty S n,h t=some (.arr ty S n)→∃ n',upd h b k1 t=some (.arr ty S n')∧n≤n'∧(n'=n→AKept w (w.putObj (φ b) ob) (φ t) (φ t) ty):=by
  intro t ty S n O;have e:=hne t _ O rfl;exact ⟨n,by simp [upd,e,O],Nat.le_refl _,fun _=>Yp rfl (G _ (ac t _ O e))⟩
 have Y:∀ t ty S es,h t=some (.vec ty S es)→∃ J,upd h b k1 t=some (.vec ty S J)∧es.length≤J.length∧(J.length=es.length→φ t=φ t∧∀ c,w.heap[φ t]?=some (.cells c ty (0,0))→∃ c',(w.putObj (φ b) ob).heap[φ t]?=some (.cells c' ty (0,0))∧c'.size=c.size):=by
  intro t ty S n O;have e:=hne t _ O rfl;exact ⟨n,by simp [upd,e,O],Nat.le_refl _,fun _=>⟨rfl,fun c hc=>⟨c,by rw [G _ (ac t _ O e)]; exact hc,rfl⟩⟩⟩
 have aa:∀ c k x,h c=some k→k.ob=some x→(∃ k',upd h b k1 c=some k'∧k'.ob=some x)∧φ c=φ c:=by
  intro c k x hc ho;by_cases e:b=c
  ·subst e;rw [hb] at hc;cases hc;rw [h0] at ho;cases ho;exact ⟨⟨k1,by simp [upd],h1⟩,rfl⟩
  ·exact ⟨⟨k,by simp [upd,e,hc],ho⟩,rfl⟩
 refine ⟨⟨rfl,rfl,rfl,by simp [World.putObj],?_,?_,fun x o _ hx=>hm x o hx,fun c ty cs _ hc=>⟨⟨cs,Z c ty cs hc⟩,rfl⟩,fun t ty S n _=>ab t ty S n,fun t ty S es _=>Y t ty S es,fun c k x _=>aa c k x⟩,fun c ty cs hc=>⟨⟨ty,cs,Z c ty cs hc⟩,rfl⟩,ab,Y,aa⟩
 ·intro x _ ad;exact G x (fun e=>ad b (by rw [hb]; simp) e.symm)
 ·intro x y _ hm;have:x ≠ φ b:=fun e=>hm ⟨b,_,hb,e.symm,by cases k0 <;> first | trivial | cases h0⟩
  simp [World.cell?,G x this]
theorem wF {O k1:Blk} {ob:Obj} (hb:h b=some O) (h0:O.ob=some .mp) (Y:k1.ob=some .mp) (r:Zz φ h w M0)
  (G:RelB φ (upd h b k1) (w.putObj (φ b) ob) (MM φ (upd h b k1) M0) (φ b) k1):Zz φ (upd h b k1) (w.putObj (φ b) ob) M0:=by
 obtain ⟨E,X⟩:=Oc (k1:=k1) (ob:=ob) hb h0 Y r
 have g:∀ d,upd h b k1 d ≠ none→h d ≠ none:=fun d J=>by
  by_cases e:b=d
  ·rw [← e,hb]; simp
  ·simpa [upd,e] using J
 refine ⟨fun c d hc J Z=>r.inj c d (g c hc) (g d J) Z,fun c k hc=>?_,fun c hc=>r.fr c (g c hc),fun x o hx=>by simpa [World.putObj] using r.lt x o hx,r.gm.evol E⟩;by_cases e:b=c
 ·subst e;have:k=k1:=by simpa [upd] using hc.symm
  subst this;exact G
 ·have hc':h c=some k:=by simpa [upd,e] using hc
  exact ZI (E.keeps M0) X (World.putObj_heap_other fun h2=>e (r.inj c b (by rw [hc']; simp) (by rw [hb]; simp) h2).symm) (r.blk c k hc')
def LF (w:List UInt8):List (Bool × List UInt8 × AV)→Option AV
 | []=>none
 | (f,k,x) :: l=>if Qr w k&&f then some x else LF w l
def tT (w:List UInt8) (es:List (Bool × List UInt8 × AV)):List (Bool × List UInt8 × AV):=es.map fun e=>(!Qr w e.2.1&&e.1,e.2.1,e.2.2)
def Od (w:List UInt8):Nat→List (Bool × List UInt8 × AV)→Option Nat
 | _,[]=>none
 | i,e :: l=>if Qr w e.2.1 then some i else Od w (i+1) l
def tV (l:List (Bool × List UInt8 × AV)):List (Value × PV):=l.map fun e=>(Iz e.2.1,PV.val undef)
theorem dD (G:P.underlying kt=some .string) (x:ByteArray) (y:List UInt8):eqV P 4 kt (.string x) (Iz y)=some (Qr (J4 x) y):=by
 simp [eqV,G,Iz,J4]
theorem Ec (G:P.underlying kt=some .string) (x:ByteArray):CX P kt (.string x)=true:=by simp [CX,Jo,G]
theorem Mv {kt:TypeId} (G:P.underlying kt=some .string) (x:ByteArray):∀ (l:List (Bool × List UInt8 × AV)) (i:Nat),Ut P kt (.string x) i (tV l)=some ((Od (J4 x) i l).map fun j=>(j,PV.val undef))
 | [],i=>rfl
 | e :: l,i=>by
  have J:CX P kt (Iz e.2.1)=true:=Ec G _;simp only [tV,List.map_cons,Ut,J,if_true,dD G,Od];cases hq:Qr (J4 x) e.2.1 with
  | true=>simp
  | false=>exact Mv G x l (i+1)
theorem Ed (f:Bool) (k:List UInt8) (x:AV) (es:List (Bool × List UInt8 × AV)):TE ((f,k,x) :: es)=if f then (f,k,x) :: TE es else TE es:=by cases f <;> rfl
theorem SX (w:List UInt8):∀ (l:List (Bool × List UInt8 × AV)) (i:Nat),Od w (i+1) l=(Od w i l).map (·+1)
 | [],i=>rfl
 | e :: l,i=>by
  simp only [Od];cases Qr w e.2.1
  ·exact SX w l (i+1)
  ·rfl
theorem MC (w:List UInt8):∀ (es:List (Bool × List UInt8 × AV)),LF w es=(Od w 0 (TE es)).bind fun j=>((TE es)[j]?).map (·.2.2)
 | []=>rfl
 | (f,k,x) :: es=>by
  rw [Ed];cases f with
  | false=>simp only [LF,Bool.and_false,Bool.false_eq_true,if_false]; exact MC w es
  | true =>
   simp only [LF,Bool.and_true,if_true,Od];cases hq:Qr w k with
   | true=>simp
   | false =>
    simp only [Bool.false_eq_true,if_false];rw [SX,MC w es];cases Od w 0 (TE es) <;> simp
def C9:List (Bool × List UInt8 × AV)→Bool
 | []=>true
 | e :: l=>l.all (fun G=>!Qr e.2.1 G.2.1)&&C9 l
theorem A7 {w:List UInt8}:∀ {l:List (Bool × List UInt8 × AV)} {i:Nat},Od w i l=none→∀ e ∈ l,Qr w e.2.1=false
 | [],_,_,e,G=>by cases G
 | J :: l,i,h,e,G=>by
  simp only [Od] at h;cases hq:Qr w J.2.1 with
  | true=>rw [hq] at h; cases h
  | false =>
   rw [hq] at h;rcases List.mem_cons.1 G with rfl | G
   ·exact hq
   ·exact A7 h e G
theorem Qgt {a b:List UInt8} (h:Qr a b=true):a=b:=by simpa [Qr] using h
theorem QaG (w:List UInt8):∀ (es:List (Bool × List UInt8 × AV)),TE (tT w es)=((TE es).filter fun e=>!Qr w e.2.1)
 | []=>rfl
 | (f,k,x) :: es=>by
  have G:=QaG w es;simp only [tT,List.map_cons] at G ⊢;rw [Ed,Ed,G];cases f <;> cases hq:Qr w k <;> simp [hq]
theorem qm:∀ {es:List (Bool × List UInt8 × AV)},C9 es=true→C9 (TE es)=true
 | [],_=>rfl
 | (f,k,x) :: es,h=>by
  simp only [C9,Zf] at h;rw [Ed];cases f with
  | false=>exact qm h.2
  | true =>
   simp only [if_true,C9,Zf];refine ⟨?_,qm h.2⟩;rw [List.all_eq_true] at h ⊢;intro e G;exact h.1 e (List.mem_filter.1 G).1
theorem Ee {w:List UInt8}:∀ {l:List (Bool × List UInt8 × AV)} {j:Nat},C9 l=true→Od w 0 l=some j→(l.filter fun e=>!Qr w e.2.1)=l.eraseIdx j
 | [],j,_,h=>by cases h
 | e :: l,j,G,h=>by
  simp only [C9,Zf] at G;simp only [Od] at h;cases hq:Qr w e.2.1 with
  | true =>
   rw [hq] at h;simp only [if_true,QO] at h;subst h;have Y:=Qgt hq
   have:(l.filter fun e=>!Qr w e.2.1)=l:=by
    rw [List.filter_eq_self];intro O J;rw [Y];exact List.all_eq_true.1 G.1 O J
   simp [hq,this]
  | false =>
   rw [hq] at h;simp only [Bool.false_eq_true,if_false] at h;rw [SX] at h;cases hj:Od w 0 l with
   | none=>rw [hj] at h; cases h
   | some Z =>
    rw [hj] at h;simp only [Option.map_some,QO] at h;subst h;simp [hq,Ee G.2 hj]
theorem RI {α β:Type} (f:α→β):∀ (l:List α) (j:Nat),(l.eraseIdx j).map f=(l.map f).eraseIdx j
 | [],j=>by simp
 | x :: l,0=>rfl
 | x :: l,j+1=>by simp only [List.eraseIdx_cons_succ,List.map_cons,RI f l j]
theorem A8 {M:Zr}:∀ {xs:List AV} {J:List Value} (j:Nat),Qi φ h w M xs J→Qi φ h w M (xs.eraseIdx j) (J.eraseIdx j)
 | [],J,j,G=>by
  simp only [Qi] at G;subst G;simp [Qi]
 | x :: xs,J,j,G=>by
  simp only [Qi] at G;obtain ⟨y,ys,rfl,Y,O⟩:=G;cases j with
  | zero=>exact O
  | succ j=>simp only [List.eraseIdx_cons_succ,Qi]; exact ⟨_,_,rfl,Y,A8 j O⟩
theorem tX {O:Array MapEntry} {clock:Nat} {k:Value} (h:CO O clock):CO (O.push { key:=k,val:=v,born:=clock }) (clock+1):=by
 obtain ⟨Y,J⟩:=h;refine ⟨?_,fun e G=>?_⟩
 ·simp only [Array.toList_push,List.map_append,List.map_cons,List.map_nil];rw [List.pairwise_append];refine ⟨Y,List.pairwise_singleton _ _,fun x Z y hy=>?_⟩;obtain ⟨e,G,rfl⟩:=List.mem_map.1 Z;rw [List.mem_singleton.1 hy];exact J e G
 ·simp only [Array.toList_push,List.mem_append,List.mem_singleton] at G;rcases G with G | rfl
  ·have:=J e G; omega
  ·exact Nat.lt_succ_self _
theorem nI {J:Array MapEntry} {clock:Nat} (h:CO J clock):CO (J.eraseIdxIfInBounds j) clock:=by
 obtain ⟨Z,Y⟩:=h;have G:(J.eraseIdxIfInBounds j).toList=J.toList.eraseIdx j:=by simp
 refine ⟨?_,fun e O=>Y e ?_⟩
 ·rw [G];exact Z.sublist ((List.eraseIdx_sublist _ _).map _)
 ·rw [G] at O;exact (List.eraseIdx_sublist _ _).mem O
def Qdm:Option Blk→Option (List (Bool × List UInt8 × AV))
 | some (.mp [])=>some []
 | some (.mf es)=>some es
 | _=>none
def JI (P:Program) (T:Nat→Option AV) (h:QH) (t:TypeId) (x ix:Operand) (ok:Bool):Option Xq :=
 match P.underlying t,Zc T x,Zc T ix with
 | some (.map kt e),some (.mv b),some (.p (.val (.string s))) =>
  match h b,P.underlying kt with
  | some (.mf es),some .string =>
   match LF (J4 s) es with
   | some v=>some (C8 ok v true,none,[b])
   | none=>match (P.info? e).bind (·.zero) with | some z=>some (C8 ok (zR z) false,none,[b]) | none=>none
  | _,_=>none
 | _,_,_=>none
def UE (P:Program) (T:Nat→Option AV) (h:QH) (t:TypeId) (x ix y:Operand):Option Xq :=
 match P.underlying t,Zc T x,Zc T ix,Zc T y with
 | some (.map kt e),some (.mv b),some (.p (.val (.string s))),some v =>
  match Qdm (h b),P.underlying kt with
  | some es,some .string=>match LF (J4 s) es with
   | none=>some (.p (.val undef),some (b, .mf (es++[(true,J4 s,v)])),[b])
   | some _=>none
  | _,_=>none
 | _,_,_,_=>none
def UF (P:Program) (T:Nat→Option AV) (h:QH) (t:TypeId) (x ix:Operand):Option Xq :=
 match P.underlying t,Zc T x,Zc T ix with
 | some (.map kt e),some (.mv b),some (.p (.val (.string s))) =>
  match h b,P.underlying kt with
  | some (.mf es),some .string=>if C9 es=true then some (.tup [],some (b, .mf (tT (J4 s) es)),[b]) else none
  | _,_=>none
 | _,_,_=>none
theorem QaH {es:List (Bool × List UInt8 × AV)} (hb:Qdm (h b)=some es) (r:Zz φ h w M0):∃ O,h b=some O∧O.ob=some .mp ∧
  ∃ (G:Array MapEntry) (clock:Nat),w.heap[φ b]?=some (.map G clock)∧G.toList.map (·.key)=(TE es).map (fun e=>Iz e.2.1)∧Qi φ h w (MM φ h M0) ((TE es).map (·.2.2)) (G.toList.map (·.val))∧CO G clock:=by
 unfold Qdm at hb;split at hb
 ·rename_i J;cases hb;obtain ⟨G,clock,Z,Y,h3⟩:=r.blk b _ J;have h4:G.toList=[]:=by simpa using Y
  exact ⟨_,J,rfl,G,clock,Z,Y,h3,by simp [CO,h4]⟩
 ·rename_i es' J;cases hb;exact ⟨_,J,rfl,r.blk b _ J⟩
 ·cases hb
theorem qo {l:List (Bool × List UInt8 × AV)} {G:List MapEntry} (J:G.map (·.key)=l.map (fun e=>Iz e.2.1)):G.map (·.key)=(tV l).map (·.1):=by
 rw [J]; simp [tV]
theorem xZ (r:Q8 φ M0 N D T h a w) (ho:o.op=.lookup t x ix ok) (J:JI P T h t x ix ok=some u):u.2.1=none∧Yield P o φ M0 h a w u.1 h:=by
 unfold JI at J;split at J;rotate_left
 ·cases J
 rename_i kt e b s ht hx ah;split at J;rotate_left
 ·cases J
 rename_i es hb ae;have ab:=r.ev hx;simp only [Qe] at ab;have O:=r.ev ah;simp only [Qe,QI] at O;obtain ⟨en,clock,hw,ad,ac,_⟩:=r.hp.blk b _ hb;have Z:(getObj (φ b)).run P w=.ok (.map en clock) w:=by simp [getObj,Sem.run,hw]
 have aa:=FL (w:=w) (Ec ae s) en.isEmpty;have ai:=Mv ae s (TE es) 0;obtain ⟨q,Pg,DD⟩:=Xx (w:=w) ae (qo ad) ai;have G:=MC (J4 s) es;cases hi:Od (J4 s) 0 (TE es) with
 | none =>
  rw [hi] at DD G;simp only [Option.map_none,Eb,Option.bind_none] at DD G;subst DD;rw [G] at J;simp only at J;split at J
  ·rename_i z hz;simp only [QO] at J;subst J;refine ⟨rfl,?_⟩;obtain ⟨inf,hi,hz⟩:=Option.bind_eq_some_iff.1 hz;refine Qm r (v:=if ok then .tuple #[z, .bool false] else z) ?_ ?_
   ·simp [execOp,ho,Instr.lookup,run_underlying ht,ab.1,Z,O,aa,Pg,Result.andThen,zeroValue,typeInfo,program,Sem.run,hi,hz]
   ·unfold C8;cases ok
    ·exact Wp z
    ·simp only [if_true,Qe];exact ⟨[z, .bool false],by simp,_,_,rfl,Wp z,_,_,rfl,by simp [Qe,QI],rfl⟩
  ·cases J
 | some j =>
  rw [hi] at DD G;simp only [Option.map_some,Eb,QE] at DD G;obtain ⟨m,e',g1,g2,g3,g4⟩:=DD;have af:j=m:=by omega
  subst af
  have hlt:j < (TE es).length:=by
   have:=(List.getElem?_eq_some_iff.1 g4).1;simpa [tV] using this
  rw [List.getElem?_eq_getElem hlt] at G;simp only [Option.map_some] at G;rw [G] at J;simp only [QO] at J;subst J;refine ⟨rfl,?_⟩;have Y:Qe φ h w (MM φ h M0) ((TE es)[j]).2.2 e'.val:=qj ac (i:=j) (by simp [hlt]) (by simp [g3]);subst g2;refine Qm r (v:=if ok then .tuple #[e'.val, .bool true] else e'.val) ?_ ?_
  ·simp [execOp,ho,Instr.lookup,run_underlying ht,ab.1,Z,O,aa,Pg,Result.andThen]
  ·unfold C8;cases ok
   ·exact Y
   ·simp only [if_true,Qe];exact ⟨[e'.val, .bool true],by simp,_,_,rfl,Y,_,_,rfl,by simp [Qe,QI],rfl⟩
theorem uf (r:Q8 φ M0 N D T h a w) (ho:o.op=.mapUpdate t x ix y) (O:UE P T h t x ix y=some u):Yield P o φ M0 h a w u.1 (ap h u.2.1):=by
 unfold UE at O;split at O;rotate_left
 ·cases O
 rename_i kt e b s v ht hx am hy;split at O;rotate_left
 ·cases O
 rename_i es hb ac;have af:=r.ev hx;simp only [Qe] at af;have Y:=r.ev am;simp only [Qe,QI] at Y;have ao:=r.ev hy;obtain ⟨k0,ad,ah,en,clock,hw,G,ab,aa⟩:=QaH hb r.hp;have ae:(getObj (φ b)).run P w=.ok (.map en clock) w:=by simp [getObj,Sem.run,hw]
 have ak:∀ ob,(setObj (φ b) ob).run P w=.ok () (w.putObj (φ b) ob):=fun ob=>by simp [setObj,Sem.run,hw,World.putObj]
 have ai:=FL (w:=w) (Ec ac s) false;have an:=Mv ac s (TE es) 0;obtain ⟨q,Pg,DD⟩:=Xx (w:=w) ac (qo G) an;have J:=MC (J4 s) es;split at O;rotate_left
 ·cases O
 rename_i Z;simp only [QO] at O;subst O;simp only [ap]
 have hi:Od (J4 s) 0 (TE es)=none:=by
  cases hi:Od (J4 s) 0 (TE es) with
  | none=>rfl
  | some j =>
   rw [hi] at DD J;simp only [Option.map_some,Eb,QE] at DD J;obtain ⟨m,e',g1,g2,g3,g4⟩:=DD;have al:j=m:=by omega
   subst al
   have hlt:j < (TE es).length:=by
    have:=(List.getElem?_eq_some_iff.1 g4).1;simpa [tV] using this
   rw [List.getElem?_eq_getElem hlt,Z] at J;cases J
 rw [hi] at DD;have DD:q=none:=DD;subst DD;obtain ⟨E,X⟩:=Oc (k1:=.mf (es++[(true,J4 s,v)])) (ob:=.map (en.push { key:=.string s,val:=a.eval y,born:=clock }) (clock+1)) ad ah rfl r.hp;have aq:Iz (J4 s)=.string s:=by simp [Iz,J4]
 have aj:TE (es++[(true,J4 s,v)])=TE es++[(true,J4 s,v)]:=by simp [TE]
 refine ⟨.skip,undef,w.putObj (φ b) (.map (en.push { key:=.string s,val:=a.eval y,born:=clock }) (clock+1)),φ,?_, .inr ⟨rfl,rfl⟩,by simp [Qe,QI],wF ad ah rfl r.hp ⟨_,_,World.putObj_heap_same (Ll.1 hw).1,?_,?_,tX aa⟩,E,X⟩
 ·simp [execOp,ho,Instr.mapUpdate,run_underlying ht,af.1,ae,Y,ai,Pg,Result.andThen,ak]
 ·simp [G,aj,aq]
 ·rw [aj];simp only [Array.toList_push,List.map_append,List.map_cons,List.map_nil];exact NL ((QJ (E.keeps M0) X).2 _ _ ab) ((QJ (E.keeps M0) X).1 _ _ ao)
theorem A9 {k:TypeId} {s:Operand} (G:o.op=.call ⟨.builtin .delete,#[s,x],#[t,k]⟩)
  (J:(Builtin.delete_ #[t,k] o.type #[a.eval s,a.eval x]).run P w=.ok v w'):(execOp a.eval o).run P w=.ok (.value v) w':=by
 simp [execOp,G,resolve,invoke,builtin,J]
theorem ug (r:Q8 φ M0 N D T h a w) {k:TypeId} (ho:o.op=.call ⟨.builtin .delete,#[x,ix],#[t,k]⟩) (he:UF P T h t x ix=some u):Yield P o φ M0 h a w u.1 (ap h u.2.1):=by
 unfold UF at he;split at he;rotate_left
 ·cases he
 rename_i kt e b s ht hx ak;split at he;rotate_left
 ·cases he
 rename_i es hb af;split at he;rotate_left
 ·cases he
 rename_i aj;simp only [QO] at he;subst he;simp only [ap];have ae:=r.ev hx;simp only [Qe] at ae;have Y:=r.ev ak;simp only [Qe,QI] at Y;obtain ⟨en,clock,hw,G,aa,Z⟩:=r.hp.blk b _ hb;have ab:(getObj (φ b)).run P w=.ok (.map en clock) w:=by simp [getObj,Sem.run,hw]
 have ad:∀ ob,(setObj (φ b) ob).run P w=.ok () (w.putObj (φ b) ob):=fun ob=>by simp [setObj,Sem.run,hw,World.putObj]
 have ac:=FL (w:=w) (Ec af s) en.isEmpty;have al:=Mv af s (TE es) 0;obtain ⟨q,Pg,DD⟩:=Xx (w:=w) af (qo G) al;have J:=QaG (J4 s) es;cases hi:Od (J4 s) 0 (TE es) with
 | none =>
  rw [hi] at DD;have DD:q=none:=DD;subst DD
  have O:TE (tT (J4 s) es)=TE es:=by
   rw [J,List.filter_eq_self];intro e he;simp [A7 hi e he]
  obtain ⟨E,X⟩:=Oc (k1:=.mf (tT (J4 s) es)) (ob:=.map en clock) hb rfl rfl r.hp;refine ⟨_, .tuple #[],w.putObj (φ b) (.map en clock),φ,A9 ho ?_, .inl rfl,?_,wF hb rfl rfl r.hp ⟨en,clock,World.putObj_heap_same (Ll.1 hw).1,?_,?_,Z⟩,E,X⟩
  ·simp [Builtin.delete_,run_underlying ht,ae.1,ab,Y,ac,Pg,Result.andThen,ad]
  ·simp only [Qe]; exact ⟨[],rfl,rfl⟩
  ·rw [O]; exact G
  ·rw [O]; exact (QJ (E.keeps M0) X).2 _ _ aa
 | some j =>
  rw [hi] at DD;simp only [Option.map_some,Eb] at DD;obtain ⟨m,e',g1,g2,g3,g4⟩:=DD;have ai:j=m:=by omega
  subst ai;subst g2;rw [Ee (qm aj) hi] at J;have ah:(en.eraseIdxIfInBounds j).toList=en.toList.eraseIdx j:=by simp
  obtain ⟨E,X⟩:=Oc (k1:=.mf (tT (J4 s) es)) (ob:=.map (en.eraseIdxIfInBounds j) clock) hb rfl rfl r.hp;refine ⟨_, .tuple #[],w.putObj (φ b) (.map (en.eraseIdxIfInBounds j) clock),φ,A9 ho ?_, .inl rfl,?_,wF hb rfl rfl r.hp ⟨_,clock,World.putObj_heap_same (Ll.1 hw).1,?_,?_,nI Z⟩,E,X⟩
  ·simp [Builtin.delete_,run_underlying ht,ae.1,ab,Y,ac,Pg,Result.andThen,ad]
  ·simp only [Qe]; exact ⟨[],rfl,rfl⟩
  ·rw [J,ah,RI,RI,G]
  ·rw [J,ah,RI,RI];exact A8 j ((QJ (E.keeps M0) X).2 _ _ aa)
end
def QaI (P:Program) (T:Nat→Option AV) (t:TypeId) (x:Operand):Option Xq:=match P.underlying t,Zc T x with
 | some (.slice _),some (.bsl _ n)=>some (.p (.val (.int .i64 n)),none,[])
 | _,_=>none
def isB (T:Nat→Option AV):List (Nat × Operand)→Bool
 | (_,x) :: _=>match Zc T x with | some (.fn _ _ _)=>true | _=>false
 | []=>false
def FM (P:Program) (T:Nat→Option AV) (t:TypeId) (x ix:Operand):Option Xq :=
 match Zc T ix,P.underlying t,Zc T x with
 | some (.p (.val (.int _ n))),some (.slice e),some (.bsl b m) =>
  match P.info? e with
  | some i=>if i.size=1∧0≤n∧n < m then some (.ptr b n.toNat,none,[]) else none
  | none=>none
 | _,_,_=>none
def Hu (P:Program) (T:Nat→Option AV) (h:QH) (dst:Option Tmp) (t:TypeId) (len:Nat) (parts:Array (Nat × Operand)):Option Xq :=
 match P.underlying t,dst,O4 T parts.toList with
 | some (.slice e),some d,some ps =>
  match P.info? e with
  | some i =>
   match i.zero,h d with
   | some z,none =>
    match cellsOf (zR z) with
    | some J =>
     if J.length=1∧i.size=1∧len≤16777216∧0 < len then
      match PX (fun k=>some (k * i.size,i.size)) (List.replicate len J).flatten ps with
      | some G=>if G.length=len∧UB G then some (.bsl d len,some (d, .box e G),[d]) else none
      | none=>none
     else none
    | none=>none
   | _,_=>none
  | none=>none
 | _,_,_=>none
section
variable {P:Program} {o:Oper} {φ:Nat→Nat} {M0:Zr} {N:Nat} {D:DB} {T:Nat→Option AV} {h:QH} {a:Act} {w:World}
theorem Qdn (r:Q8 φ M0 N D T h a w) (Y:o.op=.call ⟨.builtin .len,#[x],#[t]⟩) (G:QaI P T t x=some u):u.2.1=none∧Yield P o φ M0 h a w u.1 h:=by
 unfold QaI at G;split at G
 ·rename_i e b n O Z;simp only [QO] at G;subst G;have J:=r.ev Z;simp only [Qe] at J;refine ⟨rfl,Qm r (v:=.int .i64 n) ?_ (by simp [Qe,QI])⟩;simp [execOp,Y,resolve,invoke,builtin,Builtin.len_,run_underlying O,J.1,goInt]
 ·cases G
theorem kC (r:Q8 φ M0 N D T h a w) (ho:o.op=.indexAddr t x ix) (G:FM P T t x ix=some u):u.2.1=none∧Yield P o φ M0 h a w u.1 h:=by
 unfold FM at G;split at G
 ·rename_i k n e b m Y ht hx;split at G
  ·rename_i i hi;split at G
   ·rename_i hc;simp only [QO] at G;subst G;have J:=r.ev Y;simp only [Qe,QI] at J;have Z:=r.ev hx;simp only [Qe] at Z;refine ⟨rfl,Qm r (v:=.pointer (some ⟨φ b,0+n.toNat * i.size,none⟩)) ?_ ?_⟩
    ·have O:0≤n∧n < (m:Int):=hc.2;simp [execOp,ho,Instr.indexAt,J,asIntOf,run_underlying ht,Z.1,O,QX hi,Addr.add_lit]
    ·simp only [Qe];exact ⟨by rw [hc.1,Nat.mul_one,Nat.zero_add],Z.2⟩
   ·cases G
  ·cases G
 ·cases G
theorem qp (r:Q8 φ M0 N D T h a w) (ho:o.op=.buildSlice t len parts) (G:Hu P T h o.dst t len parts=some u):Yield P o φ M0 h a w u.1 (ap h u.2.1):=by
 unfold Hu at G;split at G;rotate_left
 ·cases G
 rename_i e d ps ht ah ae;split at G;rotate_left
 ·cases G
 rename_i i hi;split at G;rotate_left
 ·cases G
 rename_i z hz hd;split at G;rotate_left
 ·cases G
 rename_i zs ab;split at G;rotate_left
 ·cases G
 rename_i aa;split at G;rotate_left
 ·cases G
 rename_i Y ac;split at G;rotate_left
 ·cases G
 rename_i af;simp only [QO] at G;subst G;simp only [ap];refine Yield.of_lift r 1 fun φ r E0 X0 hC=>?_
 obtain ⟨h1,h2⟩:=CR r ae;obtain ⟨h3,_,_⟩:=Vi ab (Wp (φ:=φ) (h:=h) (w:=w) (M:=MM φ h M0) z);have aj:=Zt h3;have ad:z.cells.toList.length=i.size:=by omega
 have O:Qi φ h w (MM φ h M0) (List.replicate len zs).flatten (((Array.range (len * i.size)).map (z.cells[· % z.cells.size]!)).toList):=by
  have e1:((Array.range (len * i.size)).map (z.cells[· % z.cells.size]!)).toList=(List.replicate len z.cells.toList).flatten:=by
   have:=Mh z.cells.toList i.size ad zo len;simp only [Array.toArray_toList] at this;rw [← this];simp [Array.toList_range]
  rw [e1];exact Xh h3 len
 obtain ⟨c',h4,h5⟩:=PZ (placeC:=fun k=>some (k * i.size,i.size)) (fun k x hx=>hx) ps _ _ _ Y h1 h2 O ac;obtain ⟨E,X⟩:=XY (w:=w) (w':=w.alloc (.cells c' e)) (o:=.cells c' e) (b:=d) (k:=.box e Y) (φ:=φ) (h:=h) (M0:=M0) rfl rfl rfl rfl hd r.hp hC
 have J:RelB (Qu φ d w.heap.size) (upd h d (.box e Y)) (w.alloc (.cells c' e)) (MM (Qu φ d w.heap.size) (upd h d (.box e Y)) M0) w.heap.size (.box e Y) :=
  ⟨c',by show (w.heap.push _)[w.heap.size]?=_; simp,(QJ (E.keeps M0) X).2 _ _ h5⟩
 refine ⟨_, .slice (some ⟨w.heap.size,0,none⟩) len len,w.alloc (.cells c' e),Qu φ d w.heap.size,?_, .inl rfl,?_,XZ rfl hd r.hp hC E X J,E,X⟩
 ·have hq:(parts.map fun (x:Nat × Operand)=>(x.1,a.eval x.2)).toList=parts.toList.map fun (x:Nat × Operand)=>(x.1,a.eval x.2):=by simp
  have ai:len * i.size=len:=by rw [aa.2.1,Nat.mul_one]
  have Z:¬ (len * i.size > 2 ^ 24):=by omega
  have h0:¬ len * i.size=0:=by omega
  simp only [execOp,ho,Instr.buildSlice,Sem.run_bind,run_underlying ht,QX hi,Result.andThen_ok,Z,if_false,h0,hq,zeroValue,typeInfo,program,Sem.run,hi,hz,Sem.run_pure,h4];simp [newRow,newObj,Sem.run]
 ·simp only [Qe];exact ⟨by simp [Qu],e,Y,by simp [upd]⟩
theorem tY {l:List (Nat × Operand)} (G:∀ x ∈ l.map (·.2),Zc T' x=Zc T x):isB T' l=isB T l:=by
 cases l with
 | nil=>rfl
 | cons p l=>obtain ⟨i,x⟩:=p; simp only [isB,G x zq]
end
def TF (a b:Option Xq):Option Xq:=match a with | some x=>some x | none=>b
def Jk (P:Program) (o:Oper) (T:Nat→Option AV) (h:QH):Option Xq :=
 match o.op with
 | .move x=>VT T x
 | .assign x=>VT T x
 | .pick c x y=>Nh T c x y
 | .alloc ty=>match P.info? ty with
  | some i=>match i.zero with | some z=>zX o h ty (zR z) | none=>none
  | none=>none
 | .box ty x=>match Zc T x with | some v=>zX o h ty v | none=>none
 | .build t ps=>O5 P T t ps
 | .buildSlice t n ps=>if n=0 then nA P h o.dst t ps else if isB T ps.toList=true then Hu P T h o.dst t n ps else Ht P T h o.dst t n ps
 | .load ty x=>if dA (Zc T x) then qb P T h ty x else PW P T h ty x
 | .store ty x y=>if dA (Zc T x) then NK P T h ty x y else O1 P T h ty x y
 | .makeSlice t x y=>qc P T h o.dst t x y
 | .makeMap _ rsv=>CZ h o.dst rsv
 | .lookup t x i ok=>TF (Xi P T h t x i ok) (JI P T h t x i ok)
 | .mapUpdate t x i y=>TF (YT P T h t x i y) (UE P T h t x i y)
 | .nilCheck x=>if dA (Zc T x) then tK T h x else TF (UD T x) (GA P T o)
 | .fieldAddr t x f=>if dA (Zc T x) then Xw P T h t x f else Xr P T t x f
 | .field t x f=>O3 P T t x f
 | .indexAddr t x i=>if dA (Zc T x) then Xv P T h t x i else TF (Xt P T t x i) (FM P T t x i)
 | .index t x i=>TF (SI P T t x i) (TF (Mo P T t x i) (GA P T o))
 | .slice t x lo hi G=>TF (TP P T t x lo hi G) (GA P T o)
 | .extract x i=>FH T x i
 | .makeFunc f a b=>RF T f a b
 | .makeInterface t x=>Jn P T t x
 | .typeAssert x _ t ok=>Hr P T x t ok
 | .binOp op tx x y _=>TF (SN T op x y) (TF (aEq P T op tx x y) (TF (GA P T o) (SV P T h op tx x y)))
 | .unOp op _ x=>TF (aUn T op x) (GA P T o)
 | .convert src dst x=>TF (xP P T dst src x) (GA P T o)
 | .call ⟨.builtin .len,args,types⟩=>match args,types with | ⟨[x]⟩,⟨[t]⟩=>if dA (Zc T x) then nu P T h t x else TF (Qaz P T t x) (TF (xW P T t x) (TF (GA P T o) (QaI P T t x))) | _,_=>none
 | .call ⟨.builtin .append,args,types⟩=>match args,types with | ⟨[s,x]⟩,⟨[t,J]⟩=>if t=J then (if dA (Zc T s) then TT P T h o.dst t s x else LC P T h o.dst t s x) else none | _,_=>none
 | .call ⟨.builtin .delete,args,types⟩=>match args,types with | ⟨[x,i]⟩,⟨[t,k]⟩=>UF P T h t x i | _,_=>none
 | .call ⟨.builtin .max,_,_⟩=>GA P T o
 | .call ⟨.builtin .min,_,_⟩=>GA P T o
 | _=>none
section
variable {P:Program} {o:Oper} {φ:Nat→Nat} {M0:Zr} {N:Nat} {D:DB} {T:Nat→Option AV} {h:QH} {a:Act} {w:World}
theorem QY (hu:u.2.1=none∧Yield P o φ M0 h a w u.1 h):Yield P o φ M0 h a w u.1 (ap h u.2.1):=by rw [hu.1]; exact hu.2
theorem YU {x y:Option Xq} (G:TF x y=some u):x=some u∨y=some u:=by
 unfold TF at G;split at G
 ·exact .inl G
 ·exact .inr G
theorem QaJ (r:Q8 φ M0 N D T h a w) (G:Jk P o T h=some u):Yield P o φ M0 h a w u.1 (ap h u.2.1):=by
 unfold Jk at G;split at G
 case h_1 x ho =>
  unfold VT at G;split at G
  ·rename_i v J; simp only [QO] at G; subst G; exact bX r (.inl ho) J
  ·cases G
 case h_2 x ho =>
  unfold VT at G;split at G
  ·rename_i v J; simp only [QO] at G; subst G; exact bX r (.inr ho) J
  ·cases G
 case h_3 c x y ho=>have:=bY (P:=P) r ho G; exact QY ⟨this.1,this.2.2⟩
 case h_4 ty ho =>
  split at G
  ·rename_i i hi;split at G
   ·rename_i z O; exact Qaw r ho hi O G
   ·cases G
  ·cases G
 case h_5 ty x ho =>
  split at G
  ·rename_i v J; exact Qgp r ho J G
  ·cases G
 case h_6 t ps ho=>exact QY (QaA r ho G)
 case h_7 t n ps ho =>
  split at G
  ·rename_i Z; subst Z; exact Qdf r ho G
  ·split at G
   ·exact qp r ho G
   ·exact zZ r ho G
 case h_8 ty x ho=>split at G; exact QY (QaD r ho G); exact QY (Qda r ho G)
 case h_9 ty x y ho=>split at G; exact tJ r ho G; exact Qau r ho G
 case h_10 t x y ho=>exact QaE r ho G
 case h_11 t rsv ho=>exact nH r ho G
 case h_12 t x i ok ho=>exact (YU G).elim (fun G=>QY (tO r ho G)) (fun G=>QY (xZ r ho G))
 case h_13 t x i y ho=>exact (YU G).elim (fun G=>wE r ho G) (fun G=>uf r ho G)
 case h_14 x ho=>split at G; exact QY (Qdg r ho G); exact (YU G).elim (fun G=>QY (xK r ho G)) (fun G=>QY (pure_ok r G))
 case h_15 t x f ho=>split at G; exact QY (kg r ho G); exact QY (vX r ho G)
 case h_16 t x f ho=>exact QY (Qax r ho G)
 case h_17 t x i ho=>split at G; exact QY (z8 r ho G); exact (YU G).elim (fun G=>QY (vY r ho G)) (fun G=>QY (kC r ho G))
 case h_18 t x i ho=>exact (YU G).elim (fun G=>QY (Qay r ho G)) (fun G=>(YU G).elim (fun G=>QY (tL r ho G)) (fun G=>QY (pure_ok r G)))
 case h_19 t x lo hi mx ho=>exact (YU G).elim (fun G=>QY (QaC r ho G)) (fun G=>QY (pure_ok r G))
 case h_20 x i ho=>exact QY (ng r ho G)
 case h_21 f l m ho=>exact QY (xJ r ho G)
 case h_22 t x ho=>exact QY (SL r ho G)
 case h_23 x xt t ok ho=>exact QY (zY r ho G)
 case h_24 op tx x y ty ho=>exact (YU G).elim (fun G=>QY (Qgs r ho G)) (fun G=>(YU G).elim (fun G=>QY (Qh7 r ho G)) (fun G=>(YU G).elim (fun G=>QY (pure_ok r G)) (fun G=>QY (QaF r ho G))))
 case h_25 op tx x ho=>exact (YU G).elim (fun G=>QY (Qh5 r ho G)) (fun G=>QY (pure_ok r G))
 case h_26 src dst x ho=>exact (YU G).elim (fun G=>QY (Qdd r ho G)) (fun G=>QY (pure_ok r G))
 case h_27 args types ho =>
  split at G
  ·rename_i x t; split at G; exact QY (Qde r ho G); exact (YU G).elim (fun G=>QY (Qgq r ho G)) (fun G=>(YU G).elim (fun G=>QY (Qdh r ho G)) (fun G=>(YU G).elim (fun G=>QY (pure_ok r G)) (fun G=>QY (Qdn r ho G))))
  ·cases G
 case h_28 args types ho =>
  split at G
  ·rename_i s x t t';split at G
   ·rename_i Y; subst Y; split at G; exact ny r ho G; exact tF r ho G
   ·cases G
  ·cases G
 case h_29 args types ho =>
  split at G
  ·exact ug r ho G
  ·cases G
 case h_30=>exact QY (pure_ok r G)
 case h_31=>exact QY (pure_ok r G)
 case h_32=>cases G
end
inductive ZB where
 | ret (x:AV)
 | panic (x:AV)
def QaK (φ:Nat→Nat) (h:QH) (w:World) (M:Zr):ZB→Ending→Prop
 | .ret x,e=>∃ v,e=.returned v∧Qe φ h w M x v
 | .panic x,e=>∃ v,e=.panicked [{ v:=v,recovered:=false }]∧Qe φ h w M x v
def KD (P:Program) (f:FuncId) (args:List AV) (h:QH) (R:ZB→QH→Prop):Prop :=
 ∀ φ M0 w G,Zz φ h w M0→Qi φ h w (MM φ h M0) args G→Calls P f G.toArray w fun e w' =>
  ∃ φ' r h',R r h'∧Zz φ' h' w' M0∧QW φ h w φ' h' w'∧QaK φ' h' w' (MM φ' h' M0) r e
def Ff:QH:=fun _=>none
def QC (P:Program) (f:FuncId) (args:List AV) (x:ZB):Prop:=KD P f args Ff fun r h'=>r=x∧h'=Ff
mutual
def KZ:AV→Bool
 | .p _=>true
 | .eptr _=>true
 | .tsl _ _ _=>false
 | .ptr _ _=>false
 | .vnil=>true
 | .vsl _ _ _=>false
 | .vptr _ _ _ _=>false
 | .yv _=>false
 | .mv _=>false
 | .bsl _ _=>false
 | .sfp _=>false
 | .iv _=>false
 | .agg cs=>YV cs
 | .tup cs=>YV cs
 | .fn _ a b=>YV a&&YV b
 | .ifc _ x=>KZ x
def YV:List AV→Bool
 | []=>true
 | x :: xs=>KZ x&&YV xs
end
theorem WR
  (hk:∀ r o v,w.cell? ⟨r,o,none⟩=some v→¬ M r o→w'.cell? ⟨r,o,none⟩=some v∧¬ M' r o) :
  (∀ (x:AV) (v:Value),KZ x=true→Qe φ h w M x v→Qe φ' h' w' M' x v)∧(∀ (xs:List AV) (l:List Value),YV xs=true→Qi φ h w M xs l→Qi φ' h' w' M' xs l):=by
 obtain ⟨kp,ke,kc⟩:=ZP hk
 have key:∀ n:Nat,(∀ (x:AV),SizeOf.sizeOf x≤n→∀ v,KZ x=true→Qe φ h w M x v→Qe φ' h' w' M' x v)∧(∀ (xs:List AV),SizeOf.sizeOf xs≤n→∀ l,YV xs=true→Qi φ h w M xs l→Qi φ' h' w' M' xs l):=by
  intro n
  induction n with
  | zero =>
   refine ⟨fun x Z=>?_,fun es Z=>?_⟩
   ·cases x <;> simp at Z
   ·cases es <;> simp at Z
  | succ n ih =>
   obtain ⟨i1,i2⟩:=ih;refine ⟨fun x Z v G J=>?_,fun xs Z l G J=>?_⟩
   ·cases x with
    | p x=>simp only [Qe] at J ⊢; exact kp x v J
    | tsl S es t=>simp [KZ] at G
    | ptr b off=>simp [KZ] at G
    | vnil=>simp only [Qe] at J ⊢; exact J
    | vsl S t n=>simp [KZ] at G
    | vptr t n k f=>simp [KZ] at G
    | yv b=>simp [KZ] at G
    | mv b=>simp [KZ] at G
    | iv b=>simp [KZ] at G
    | bsl b n=>simp [KZ] at G
    | sfp b=>simp [KZ] at G
    | eptr cs =>
     simp only [Qe] at J ⊢;obtain ⟨r,o,O,Y⟩:=J;exact ⟨r,o,O,kc cs r o Y⟩
    | agg cs =>
     simp only [Qe,KZ] at J G ⊢;obtain ⟨l,O,Y⟩:=J;exact ⟨l,O,i2 cs (by simp at Z; omega) l G Y⟩
    | tup cs =>
     simp only [Qe,KZ] at J G ⊢;obtain ⟨l,O,Y⟩:=J;exact ⟨l,O,i2 cs (by simp at Z; omega) l G Y⟩
    | fn f a b =>
     simp only [Qe,KZ,Zf] at J G ⊢;obtain ⟨l,m,O,Y,h3⟩:=J;simp at Z;exact ⟨l,m,O,i2 a zo l G.1 Y,i2 b zo m G.2 h3⟩
    | ifc t x =>
     simp only [Qe,KZ] at J G ⊢;obtain ⟨y,O,Y⟩:=J;exact ⟨y,O,i1 x (by simp at Z; omega) y G Y⟩
   ·cases xs with
    | nil=>simpa [Qi] using J
    | cons x xs =>
     simp only [Qi,YV,Zf] at J G ⊢;simp at Z;obtain ⟨y,ys,O,Y,h3⟩:=J;exact ⟨y,ys,O,i1 x zo y G.1 Y,i2 xs zo ys G.2 h3⟩
 exact ⟨fun x v=>(key (SizeOf.sizeOf x)).1 x (Nat.le_refl _) v,fun xs l=>(key (SizeOf.sizeOf xs)).2 xs (Nat.le_refl _) l⟩
mutual
def le:AV→AV→Prop
 | .tsl S es t,y=>y=.tsl S es t∨y=.p (.sl S es)
 | .p (.val v),y=>y=.p (.val v)∨(v=.slice none 0 0∧((∃ S,y=.p (.sl S []))∨y=.vnil))
 | .agg xs,y=>∃ ys,y=.agg ys∧Ef xs ys
 | .tup xs,y=>∃ ys,y=.tup ys∧Ef xs ys
 | .vnil,y=>y=.vnil∨∃ S,y=.p (.sl S [])
 | x,y=>y=x
def Ef:List AV→List AV→Prop
 | [],ys=>ys=[]
 | x :: xs,ys=>∃ z G,ys=z :: G∧le x z∧Ef xs G
end
theorem JX :
  (∀ (x y:AV) (v:Value),le x y→Qe φ h w M x v→Qe φ h w M y v)∧(∀ (xs ys:List AV) (l:List Value),Ef xs ys→Qi φ h w M xs l→Qi φ h w M ys l):=by
 have key:∀ n:Nat,(∀ (x:AV),SizeOf.sizeOf x≤n→∀ y v,le x y→Qe φ h w M x v→Qe φ h w M y v)∧(∀ (xs:List AV),SizeOf.sizeOf xs≤n→∀ ys l,Ef xs ys→Qi φ h w M xs l→Qi φ h w M ys l):=by
  intro n
  induction n with
  | zero =>
   refine ⟨fun x O=>?_,fun es O=>?_⟩
   ·cases x <;> simp at O
   ·cases es <;> simp at O
  | succ n ih =>
   obtain ⟨i1,i2⟩:=ih;refine ⟨fun x O y v G J=>?_,fun xs O ys l G J=>?_⟩
   ·cases x with
    | p x=>cases x with
     | val u =>
      simp only [le] at G;rcases G with rfl | ⟨rfl,⟨S,rfl⟩ | rfl⟩
      ·exact J
      ·simp only [Qe,QI] at J ⊢; exact .inr ⟨trivial,none,0,J⟩
      ·simp only [Qe,QI] at J ⊢; exact J
     | sl S es=>simp only [le] at G; subst G; exact J
    | tsl S es t =>
     simp only [le] at G;rcases G with rfl | rfl
     ·exact J
     ·simp only [Qe] at J ⊢; exact J.1
    | ptr b off=>simp only [le] at G; subst G; exact J
    | eptr cs=>simp only [le] at G; subst G; exact J
    | vnil =>
     simp only [le] at G;rcases G with rfl | ⟨S,rfl⟩
     ·exact J
     ·simp only [Qe,QI] at J ⊢; exact .inr ⟨trivial,none,0,J⟩
    | vsl S t n=>simp only [le] at G; subst G; exact J
    | vptr t n k f=>simp only [le] at G; subst G; exact J
    | yv b=>simp only [le] at G; subst G; exact J
    | mv b=>simp only [le] at G; subst G; exact J
    | iv b=>simp only [le] at G; subst G; exact J
    | bsl b n=>simp only [le] at G; subst G; exact J
    | sfp b=>simp only [le] at G; subst G; exact J
    | agg cs =>
     simp only [le] at G;obtain ⟨ys,rfl,h2⟩:=G;simp only [Qe] at J ⊢;obtain ⟨l,Y,Z⟩:=J;exact ⟨l,Y,i2 cs (by simp at O; omega) ys l h2 Z⟩
    | tup cs =>
     simp only [le] at G;obtain ⟨ys,rfl,h2⟩:=G;simp only [Qe] at J ⊢;obtain ⟨l,Y,Z⟩:=J;exact ⟨l,Y,i2 cs (by simp at O; omega) ys l h2 Z⟩
    | fn f a b=>simp only [le] at G; subst G; exact J
    | ifc t x=>simp only [le] at G; subst G; exact J
   ·cases xs with
    | nil=>simp only [Ef] at G; subst G; exact J
    | cons x xs =>
     simp only [Ef] at G;obtain ⟨z,zs,rfl,Y,h2⟩:=G;simp only [Qi] at J ⊢;simp at O;obtain ⟨y,ys,Z,h4,h5⟩:=J;exact ⟨y,ys,Z,i1 x zo z y Y h4,i2 xs zo zs ys h2 h5⟩
 exact ⟨fun x y v=>(key (SizeOf.sizeOf x)).1 x (Nat.le_refl _) y v,fun xs ys l=>(key (SizeOf.sizeOf xs)).2 xs (Nat.le_refl _) ys l⟩
def Xy (P:Program) (N:Nat) (f:FuncId) (args:List AV) (dst:Option Tmp) (s:St) (K:St→Prop) (Q:AX→St→Prop):Prop :=
 ∀ φ M0 D a w G,Q8 φ M0 N D (look s.T) (look s.H) a w→Qi φ (look s.H) w (MM φ (look s.H) M0) args G→Calls P f G.toArray w fun e w' =>
  match e with
  | .returned v=>∃ φ' s',K s'∧Q8 φ' M0 N D (look s'.T) (look s'.H) (a.put dst v) w'∧QW φ (look s.H) w φ' (look s'.H) w'
  | .panicked chain=>Post N D Q φ M0 (look s.H) w (.panic chain) a w'
  | .outgrown=>False
theorem UG (ho:w'.os=w.os) (ht:w'.tape=w.tape) (hu:w'.output=w.output) (hs:w.heap.size≤w'.heap.size)
  (G:∀ x,x < w.heap.size→w'.heap[x]?=w.heap[x]?) (r:Zz φ h w M0) (hC:Clear φ h w (w'.heap.size - w.heap.size)):QW φ h w φ h w'∧VR φ h w φ h w'∧Zz φ h w' M0:=by
 have J:∀ b k,h b=some k→w'.heap[φ b]?=w.heap[φ b]?:=fun b k hb=>hC.lt r zo G (by rw [hb]; simp)
 have E:QW φ h w φ h w':=⟨ho,ht,hu,hs,fun x O _=>G x O,fun x o O _=>by simp [World.cell?,G x O],fun _ _ _ x=>x,fun _ _ _ _ x=>⟨⟨_,x⟩,rfl⟩,
  fun t ty S n _ x=>⟨_,x,Nat.le_refl _,fun _=>Yp (rfl) (by rw [J _ _ x])⟩,
  fun t ty S n _ x=>⟨_,x,Nat.le_refl _,fun _=>⟨rfl,fun c hc=>⟨c,by rw [J _ _ x]; exact hc,rfl⟩⟩⟩,fun _ _ _ _ Y Z=>⟨⟨_,Y,Z⟩,rfl⟩⟩
 have X:VR φ h w φ h w':=⟨fun _ _ _ x=>⟨⟨_,_,x⟩,rfl⟩,fun t ty S n x=>⟨_,x,Nat.le_refl _,fun _=>Yp (rfl) (by rw [J _ _ x])⟩,
  fun t ty S n x=>⟨_,x,Nat.le_refl _,fun _=>⟨rfl,fun c hc=>⟨c,by rw [J _ _ x]; exact hc,rfl⟩⟩⟩,fun _ _ _ Y Z=>⟨⟨_,Y,Z⟩,rfl⟩⟩
 exact ⟨E,X,r.inj,fun b k hb=>ZI (E.keeps M0) X (J b k hb) (r.blk b k hb),r.fr,fun x o O=>Nat.lt_of_lt_of_le (r.lt x o O) hs,r.gm.evol E⟩
def MB (φ:Nat→Nat) (h:QH) (w:World) (M0:Zr):Zr:=fun x o=>MM φ h M0 x o∧x < w.heap.size
theorem uh {x o:Nat} (G:MB φ h w M0 x o):x < w.heap.size:=G.2
theorem Oe (O:Zz φ h w M0) (hs:w.heap.size≤w'.heap.size) {o:Nat} (J:w'.cell? ⟨r,o,none⟩=some v) (G:¬ MB φ h w M0 r o) :
  ¬ MM (KC φ w.heap.size (w'.heap.size - w.heap.size)) h M0 r o:=by
 have hlt:=BV J;rintro (⟨b,k,g1,g2,g3⟩ | g1)
 ·unfold KC at g2;by_cases e:φ b < w.heap.size
  ·simp only [e,if_true] at g2;exact G ⟨.inl ⟨b,k,g1,g2,g3⟩,by omega⟩
  ·simp only [e,if_false] at g2;omega
 ·exact G ⟨.inr g1,O.lt _ _ g1⟩
theorem Hw (O:∀ x o,M x o→x < w.heap.size) (G:mX w) (Y:∀ g ∈ gfix,∀ o,¬ M g o):Zz φ Ff w M :=
 ⟨fun b c hb=>absurd rfl hb,(fun b k hb=>by cases hb),fun b hb=>absurd rfl hb,O,G,fun g G o h=>h.elim (fun ⟨b,k,J,_⟩=>by cases J) (Y g G o)⟩
theorem GM.mb (G:GM φ h w M0):∀ g ∈ gfix,∀ o,¬ MB φ h w M0 g o:=fun g J o O=>G.m g J o O.1
theorem We {x o:Nat}:¬ Cb φ Ff x o:=by rintro ⟨b,k,G,_⟩; cases G
theorem yG {x:AV}
  (hc:QC P f args' (.ret x)) (Y:Ef args args') (hn:YV args'=true) (O:KZ x=true) (hd:∀ t,dst=some t→t < N) (hk:K (s.put dst x)):Xy P N f args dst s K Q:=by
 intro φ M0 D a w vs r ha;have hH:Zz φ Ff w (MB φ (look s.H) w M0):=Hw (fun x o hm=>uh hm) r.hp.gm.w r.hp.gm.mb;have hM:∀ r o v,w.cell? ⟨r,o,none⟩=some v→¬ MM φ (look s.H) M0 r o→w.cell? ⟨r,o,none⟩=some v∧¬ MM φ Ff (MB φ (look s.H) w M0) r o:=fun r o v G h2=>⟨G,fun Z=>Z.elim We (fun h4=>h2 h4.1)⟩
 refine (hc φ (MB φ (look s.H) w M0) w vs hH ((WR hM).2 _ _ hn (JX.2 _ _ _ Y ha))).mono ?_;rintro e w' ⟨φ',r',h',⟨rfl,rfl⟩,aa,E,v,rfl,hv⟩;have J:∀ ro o v,w'.cell? ⟨ro,o,none⟩=some v→¬ MM φ' Ff (MB φ (look s.H) w M0) ro o→w'.cell? ⟨ro,o,none⟩=some v∧¬ MM (KC φ w.heap.size (w'.heap.size - w.heap.size)) (look s.H) M0 ro o:=fun ro o v G h2=>⟨G,Oe r.hp E.size G (fun Z=>h2 (.inr Z))⟩
 obtain ⟨r,E1,X1,hC⟩:=r.lift (w'.heap.size - w.heap.size);obtain ⟨E2,X2,H2⟩:=UG E.os E.tape E.output E.size (fun x O=>E.same x O (fun b hb=>absurd rfl hb)) r.hp hC;have r2:Q8 _ M0 N D (look s.T) (look s.H) a w':=r.keep E2 X2 H2;exact ⟨_,s.put dst x,hk,r2.put hd ((WR J).1 _ _ O hv),by cases dst <;> exact E1.trans E2⟩
end Go.Abs
