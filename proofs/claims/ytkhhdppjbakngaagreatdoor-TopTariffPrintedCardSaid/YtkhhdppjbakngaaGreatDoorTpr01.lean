/-
  A part of the proof of a statement of the seat YtkhhdppjbakngaaGreatDoor.
-/
import Derived.Below
import Derived.Orders
import Derived.Lib.ItoaNum
import Derived.Sort.LoopGhostIn
import Derived.OrdersIn
import Derived.Scope
import Derived.Laws.AppendOwn
import Derived.Laws.StructEq
import Derived.Laws.MakeOwn
import Derived.RangeFuncRecord
import Derived.RangeFuncLeaves
import Derived.RangeFuncSeq
import Derived.Recover
import Derived.KernelRfl
import Derived.LoopNIn
import Derived.ProofKit
import Derived.OpenShut
import Derived.WideKeyArgs
import Derived.RowKit3
import Derived.JoinedCond
import Derived.ChangeSame
import Derived.Maps.RangeRun
import Derived.Laws.BytesString
import Derived.Lib.AppendStr
import Derived.ChangeKeysEq
import Derived.Test.YtkhhdppjbakngaaGreatDoorProg
import Derived.WalkKit
import Derived.Lib.Builder
import Derived.Laws.Externs
import Derived.Laws.IdiomCopy
import Derived.Laws.BitsLemmas
import Derived.Shelf.RegionOpenPlain
import Derived.Lib.UnsafeStr
import Derived.Lib.Strings
import Derived.Lib.Slices
import Derived.Lib.Walk
import Derived.Shelf.Strconv.Itoa3
import Derived.Shelf.Strconv.Itoa0
import Derived.Shelf.Strconv.Itoa1
import Derived.Shelf.LaysM
import Derived.Shelf.Strconv.Itoa2
import Derived.Lib.LaidTab
import Derived.Lib.Bytealg
import Derived.Lib.IndexMore
import Derived.Test.YtkhhdppjbakngaaGreatDoorRows
import Derived.Test.YtkhhdppjbakngaaGreatDoorTie
import Derived.Test.YtkhhdppjbakngaaGreatDoorCards
import Derived.LaidMore
import Derived.Lay
import Derived.MakeChecks
import Derived.SevenTiedAt
import Derived.LaidLaws
set_option linter.unusedVariables false
namespace Go
theorem QP {p:Prop} [i:Decidable p] (h:¬p):decide p=false:=decide_eq_false h
theorem QZ {p:Prop} [i:Decidable p] (h:p):decide p=true:=decide_eq_true h
theorem QJ {α β:Type} (a:α) (f:α→Option β):(some a).bind f=f a:=Option.bind_some a f
theorem QN {α:Type} {a b:α}:(some a=some b)=(a=b):=Option.some.injEq a b
theorem Ze {a b:Bool}:((a&&b)=true)=(a=true∧b=true):=Bool.and_eq_true a b
theorem zo {p:Prop} (h:p:=by omega):p:=h
theorem zq {p:Prop} (h:p:=by simp):p:=h
theorem YY {α:Type} {xs ys:List α}:(xs++ys).length=xs.length+ys.length:=List.length_append
theorem Y9 {α:Type} {a:α} {xs:List α}:(a :: xs).length=xs.length+1:=List.length_cons
theorem FY {α:Type} {xs:Array α} {i:Nat} {b:α}:xs[i]?=some b↔∃ h:i < xs.size,xs[i]=b:=Array.getElem?_eq_some_iff
theorem Td {α:Type} {x:Option α}:x.isSome=true↔∃ a,x=some a:=Option.isSome_iff_exists
theorem GK {α β:Type} {x:Option α} {f:α→β} {b:β}:x.map f=some b↔∃ a,x=some a∧f a=b:=Option.map_eq_some_iff
theorem Ah {α:Type} {o:Option α}:o ≠ none↔∃ x,o=some x:=Option.ne_none_iff_exists'
end Go
namespace Go.Abs
open Go
variable {N:Nat}{P:Program}{a:Act}{b:Nat}{c:Code}{c':Array Value}{d:Nat}{dst:Option Tmp}{e:TypeId}{f:FuncId}{i id:Nat}{ix:Operand}{j:Nat}{kt:TypeId}{len:Nat}{lo:Option Operand}{n:Nat}{o:Oper}{off:Nat}{ok:Bool}{op:BinOp}{parts:Array (Nat × Operand)}{r r':Nat}{ro:Option Nat}{t tx ty:TypeId}{v:Value}{w w' w'':World}{x y:Operand}{z:Value}{α β:Type}{φ φ':Nat→Nat}
def kindsTab:List (List UInt8):=[[],[102,101,101,100,101,114],[99,97,98,108,101],[111,119,110,101,114],[99,111,110,116,114,97,99,116],[99,104,97,114,103,101,114],[98,97,121],[116,97,114,105,102,102]]
def gfix:List Nat:=[0,1]
def fI (w:World):Prop:=(∃ ty G,w.heap[0]?=some (.cells (kindsTab.map fun k=>Value.string ⟨k.toArray⟩).toArray ty G))∧∃ ty G,w.heap[1]?=some (.cells (Lib.pow10Tab.map fun z=>Value.int .u64 z).toArray ty G)
theorem jL (h:∀ g ∈ gfix,w'.heap[g]?=w.heap[g]?) (O:fI w):fI w':=by
 obtain ⟨⟨ty,J,h0⟩,SL,G,U⟩:=O;exact ⟨⟨ty,J,by rw [h 0 (by simp [gfix])]; exact h0⟩,SL,G,by rw [h 1 (by simp [gfix])]; exact U⟩
theorem yZ (J:fI w):∀ g ∈ gfix,g < w.heap.size:=fun g G=>by
 obtain ⟨⟨ty,Y,h0⟩,SL,O,U⟩:=J;simp only [gfix,List.mem_cons,List.not_mem_nil,or_false] at G;rcases G with rfl | rfl
 ·exact (FY.1 h0).1
 ·exact (FY.1 U).1
theorem Qfx (J:fI w):∀ g ∈ gfix,∀ l,w.heap[g]? ≠ some (.deferred l):=fun g G l h=>by
 obtain ⟨⟨ty,Y,h0⟩,SL,O,U⟩:=J;simp only [gfix,List.mem_cons,List.not_mem_nil,or_false] at G;rcases G with rfl | rfl
 ·rw [h0] at h; cases h
 ·rw [U] at h; cases h
inductive PV where
 | val (x:Value)
 | sl (S:Nat) (es:List (List PV))
variable {es es':List (List PV)}
inductive AV where
 | p (x:PV)
 | tsl (S:Nat) (es:List (List PV)) (t:Nat)
 | ptr (b off:Nat)
 | eptr (cs:List PV)
 | agg (cs:List AV)
 | tup (vs:List AV)
 | fn (f:Fn) (first captured:List AV)
 | ifc (t:TypeId) (x:AV)
 | vnil
 | vsl (S t n:Nat)
 | vptr (t n k f:Nat)
 | yv (b:Nat)
 | mv (b:Nat)
 | bsl (b n:Nat)
 | sfp (b:Nat)
 | iv (b:Nat)
variable {T T':Nat→Option AV}{args args':List AV}
structure Di where
 N:Nat
 fn:FuncId
 ps:Array Tmp
 assign:Code
 body:Code
inductive Blk where
 | box (ty:TypeId) (cs:List AV)
 | arr (ty:TypeId) (S n:Nat)
 | vec (ty:TypeId) (S:Nat) (es:List (List PV))
 | lp (T:List (Nat × AV)) (nf:Di) (st:LoopState) (pd:Option Code)
 | mp (es:List (Value × PV))
 | mf (es:List (Bool × List UInt8 × AV))
 | mg (en:Array MapEntry) (clock:Nat) (es:List (Bool × List UInt8 × AV))
 | it (m clock:Nat) (seen:Array Nat)
inductive OB where
 | lp (T:List (Nat × AV)) (nf:Di)
 | mp
def Blk.ob:Blk→Option OB
 | .lp T nf _ _=>some (.lp T nf)
 | .mp _=>some .mp
 | .mf _=>some .mp
 | .mg _ _ _=>some .mp
 | .it _ _ _=>some .mp
 | _=>none
def look {α:Type}:List (Nat × α)→Nat→Option α
 | [],_=>none
 | (k,v) :: l,t=>if k=t then some v else look l t
abbrev QG:=Nat→Option Blk
variable {h h':QG}
abbrev Zn:=Nat→Nat→Prop
variable {M M' M0:Zn}
mutual
def QH (w:World) (M:Zn):PV→Value→Prop
 | .val x,v=>v=x
 | .sl S es,v=>(∃ r o cap,v=.slice (some ⟨r,o,none⟩) es.length cap∧es.length≤cap∧VF w M S r o es)∨(es=[]∧∃ a cap,v=.slice a 0 cap)
def VE (w:World) (M:Zn) (r:Nat):Nat→List PV→Prop
 | _,[]=>True
 | o,c :: cs=>(∃ v,w.cell? ⟨r,o,none⟩=some v∧¬ M r o∧v.oneCell'=true∧QH w M c v)∧VE w M r (o+1) cs
def VF (w:World) (M:Zn) (S r:Nat):Nat→List (List PV)→Prop
 | _,[]=>True
 | o,e :: es=>(e.length=S∧VE w M r o e)∧VF w M S r (o+S) es
end
mutual
def Qe (φ:Nat→Nat) (h:QG) (w:World) (M:Zn):AV→Value→Prop
 | .p x,v=>QH w M x v
 | .tsl S es t,v=>QH w M (.sl S es) v∧∃ ty n,h t=some (.arr ty S n)∧es.length≤n ∧
   (es.length=n→(n=0∧v=.slice none 0 0∧w.heap[φ t]?=none)∨∃ cap c,v=.slice (some ⟨φ t,0,none⟩) n cap∧w.heap[φ t]?=some (.cells c ty (0,0))∧c.size=cap * S∧n≤cap∧cap≤maxLen)
 | .ptr b off,v=>v=.pointer (some ⟨φ b,off,none⟩)∧∃ ty cs,h b=some (.box ty cs)
 | .eptr cs,v=>∃ r o,v=.pointer (some ⟨r,o,none⟩)∧VE w M r o cs
 | .agg cs,v=>∃ l:List Value,v=.agg l.toArray∧Qi φ h w M cs l
 | .tup G,v=>∃ l:List Value,v=.tuple l.toArray∧Qi φ h w M G l
 | .fn f a b,v=>∃ l m:List Value,v=.func f l.toArray m.toArray∧Qi φ h w M a l∧Qi φ h w M b m
 | .ifc t x,v=>∃ y,v=.iface t y∧Qe φ h w M x y
 | .vnil,v=>v=.slice none 0 0
 | .vsl S t n,v=>v.oneCell'=true∧∃ ty es,h t=some (.vec ty S es)∧n≤es.length ∧
   (n=es.length→∃ cap c,v=.slice (some ⟨φ t,0,none⟩) n cap∧w.heap[φ t]?=some (.cells c ty (0,0))∧c.size=cap * S∧n≤cap∧cap≤maxLen)
 | .vptr t n k f,v=>v.oneCell'=true∧∃ ty S es,h t=some (.vec ty S es)∧n≤es.length∧(n=es.length→v=.pointer (some ⟨φ t,k * S+f,none⟩))
 | .yv b,v=>v=.func (.yield (φ b)) #[] #[]∧∃ k T nf,h b=some k∧k.ob=some (.lp T nf)
 | .mv b,v=>v=.map (some (φ b))∧∃ k,h b=some k∧k.ob=some .mp
 | .bsl b n,v=>v=.slice (some ⟨φ b,0,none⟩) n n∧∃ ty cs,h b=some (.box ty cs)
 | .sfp b,v=>(v=.pointer none∨v=.pointer (some ⟨φ b,0,none⟩))∧∃ ty cs,h b=some (.box ty cs)
 | .iv b,v=>v=.pointer (some ⟨φ b,0,none⟩)∧∃ k,h b=some k∧k.ob=some .mp
def Qi (φ:Nat→Nat) (h:QG) (w:World) (M:Zn):List AV→List Value→Prop
 | [],l=>l=[]
 | x :: xs,l=>∃ y ys,l=y :: ys∧Qe φ h w M x y∧Qi φ h w M xs ys
end
def DJ (φ:Nat→Nat) (h:QG):Zn:=fun r o=>∃ b k,h b=some k∧φ b=r∧(match k with | .arr _ S n=>n * S≤o | _=>True)
def MM (φ:Nat→Nat) (h:QG) (M0:Zn):Zn:=fun r o=>DJ φ h r o∨M0 r o
def Tf (es:List (Bool × List UInt8 × AV)):List (Bool × List UInt8 × AV):=es.filter (·.1)
def A7 (k:List UInt8):Value:=.string ⟨k.toArray⟩
def D8 (G:Array MapEntry) (clock:Nat):Prop:=(G.toList.map (·.born)).Pairwise (· < ·)∧∀ e ∈ G.toList,e.born < clock
def RelB (φ:Nat→Nat) (h:QG) (w:World) (M:Zn) (r:Nat):Blk→Prop
 | .box ty cs=>∃ c:Array Value,w.heap[r]?=some (.cells c ty (0,0))∧Qi φ h w M cs c.toList
 | .arr ty S n=>(n=0∧w.heap[r]?=none)∨∃ (c:Array Value) (cap:Nat),w.heap[r]?=some (.cells c ty (0,0))∧c.size=cap * S∧n≤cap∧cap≤maxLen
 | .vec ty S es=>∃ (c:Array Value) (cap:Nat),w.heap[r]?=some (.cells c ty (0,0))∧c.size=cap * S∧es.length≤cap∧cap≤maxLen∧(∀ e ∈ es,e.length=S) ∧
   (∀ v ∈ c.toList,v.oneCell'=true)∧Qi φ h w M (es.flatten.map .p) (c.toList.take (es.length * S))
 | .lp T nf st pd=>∃ (tmps:Array Value) (d:Nat),w.heap[r]?=some (.loop { state:=st,pending:=pd,fn:=nf.fn,tmps:=tmps,params:=nf.ps,assign:=nf.assign,body:=nf.body,defers:=d })∧tmps.size=nf.N ∧
   ∀ t x,look T t=some x→t < nf.N∧Qe φ h w M x (tmps.getD t undef)
 | .mp es=>∃ (G:Array MapEntry) (clock:Nat),w.heap[r]?=some (.map G clock)∧G.toList.map (·.key)=es.map (·.1)∧Qi φ h w M (es.map fun p=>.p p.2) (G.toList.map (·.val))
 | .mf es=>∃ (G:Array MapEntry) (clock:Nat),w.heap[r]?=some (.map G clock)∧G.toList.map (·.key)=(Tf es).map (fun e=>A7 e.2.1)∧Qi φ h w M ((Tf es).map (·.2.2)) (G.toList.map (·.val))∧D8 G clock
 | .mg G clock es=>w.heap[r]?=some (.map G clock)∧G.toList.map (·.key)=(Tf es).map (fun e=>A7 e.2.1)∧Qi φ h w M ((Tf es).map (·.2.2)) (G.toList.map (·.val))∧D8 G clock
 | .it m clock seen=>w.heap[r]?=some (.mapIter (some (φ m)) clock seen clock)∧∃ k,h m=some k∧k.ob=some .mp
structure GM (φ:Nat→Nat) (h:QG) (w:World) (M0:Zn):Prop where
 w:fI w
 m:∀ g ∈ gfix,∀ o,¬ MM φ h M0 g o
structure Zw (φ:Nat→Nat) (h:QG) (w:World) (M0:Zn):Prop where
 inj:∀ b c,h b ≠ none→h c ≠ none→φ b=φ c→b=c
 blk:∀ b k,h b=some k→RelB φ h w (MM φ h M0) (φ b) k
 fr:∀ b,h b ≠ none→∀ o,¬ M0 (φ b) o
 lt:∀ r o,M0 r o→r < w.heap.size
 gm:GM φ h w M0
def AKept (w w':World) (r r':Nat) (ty:TypeId):Prop :=
 (w.heap[r]?=none→w'.heap[r']?=none)∧(w.heap[r]?=none∨r'=r∧∀ c,w.heap[r]?=some (.cells c ty (0,0))→∃ c',w'.heap[r]?=some (.cells c' ty (0,0))∧c'.size=c.size)
theorem Yi (e:r'=r) (h:w'.heap[r]?=w.heap[r]?):AKept w w' r r' ty:=by
 subst e;exact ⟨fun G=>h.trans G, .inr ⟨rfl,fun c hc=>⟨c,h.trans hc,rfl⟩⟩⟩
theorem Nl (h:w.heap[r]?=none) (h':w'.heap[r']?=none):AKept w w' r r' ty:=⟨fun _=>h', .inl h⟩
theorem Oy {l:Array α} (h:l[r]?=none):l.size≤r:=Array.getElem?_eq_none_iff.1 h
theorem ZE {l:Array α} (h:l.size≤r):l[r]?=none:=Array.getElem?_eq_none_iff.2 h
theorem AKept.trans {G:Nat} (hs:w.heap.size≤w'.heap.size) (a:AKept w w' r r' ty) (b:AKept w' w'' r' G ty):AKept w w'' r G ty:=by
 refine ⟨fun h=>b.1 (a.1 h),?_⟩;rcases a.2 with Y | ⟨Y,h8⟩
 ·exact .inl Y
 rcases b.2 with Z | ⟨Z,J⟩
 ·rw [Y] at Z;exact .inl (ZE (Nat.le_trans hs (Oy Z)))
 refine .inr ⟨Z.trans Y,fun c hc=>?_⟩;obtain ⟨c',hc',aa⟩:=h8 c hc;rw [Y] at J;obtain ⟨ab,O,U⟩:=J c' hc';exact ⟨ab,O,U.trans aa⟩
structure QT (φ:Nat→Nat) (h:QG) (w:World) (φ':Nat→Nat) (h':QG) (w':World):Prop where
 os:w'.os=w.os
 tape:w'.tape=w.tape
 output:w'.output=w.output
 size:w.heap.size≤w'.heap.size
 same:∀ r,r < w.heap.size→(∀ b,h b ≠ none→φ b ≠ r)→w'.heap[r]?=w.heap[r]?
 cell:∀ r o,r < w.heap.size→¬ DJ φ h r o→w'.cell? ⟨r,o,none⟩=w.cell? ⟨r,o,none⟩
 mu:∀ r o,r < w.heap.size→DJ φ' h' r o→DJ φ h r o
 kb:∀ b ty cs,1000≤b→h b=some (.box ty cs)→(∃ cs',h' b=some (.box ty cs'))∧φ' b=φ b
 kt:∀ t ty S n,1000≤t→h t=some (.arr ty S n)→∃ n',h' t=some (.arr ty S n')∧n≤n' ∧
  (n'=n→AKept w w' (φ t) (φ' t) ty)
 kv:∀ t ty S es,1000≤t→h t=some (.vec ty S es)→∃ es',h' t=some (.vec ty S es')∧es.length≤es'.length ∧
  (es'.length=es.length→φ' t=φ t∧∀ c,w.heap[φ t]?=some (.cells c ty (0,0))→∃ c',w'.heap[φ t]?=some (.cells c' ty (0,0))∧c'.size=c.size)
 ko:∀ b k x,1000≤b→h b=some k→k.ob=some x→(∃ k',h' b=some k'∧k'.ob=some x)∧φ' b=φ b
theorem QT.refl (φ:Nat→Nat) (h:QG) (w:World):QT φ h w φ h w :=
 ⟨rfl,rfl,rfl,Nat.le_refl _,fun _ _ _=>rfl,fun _ _ _ _=>rfl,fun _ _ _ x=>x,fun _ _ _ _ x=>⟨⟨_,x⟩,rfl⟩,fun _ _ _ _ _ x=>⟨_,x,Nat.le_refl _,fun _=>Yi (rfl) rfl⟩,fun _ _ _ _ _ x=>⟨_,x,Nat.le_refl _,fun _=>⟨rfl,fun c hc=>⟨c,hc,rfl⟩⟩⟩,fun _ _ _ _ J G=>⟨⟨_,J,G⟩,rfl⟩⟩
theorem BB {k:Blk} (hb:h b=some k):∃ o,DJ φ h (φ b) o:=by
 cases k with
 | box ty cs=>exact ⟨0,b,_,hb,rfl,trivial⟩
 | arr ty S n=>exact ⟨n * S,b,_,hb,rfl,Nat.le_refl _⟩
 | vec ty S es=>exact ⟨0,b,_,hb,rfl,trivial⟩
 | lp T nf st pd=>exact ⟨0,b,_,hb,rfl,trivial⟩
 | mp es=>exact ⟨0,b,_,hb,rfl,trivial⟩
 | mf es=>exact ⟨0,b,_,hb,rfl,trivial⟩
 | mg O G es=>exact ⟨0,b,_,hb,rfl,trivial⟩
 | it m G J=>exact ⟨0,b,_,hb,rfl,trivial⟩
theorem GM.evol (G:GM φ h w M0) (E:QT φ h w φ' h' w'):GM φ' h' w' M0:=by
 have U:∀ g ∈ gfix,∀ b,h b ≠ none→φ b ≠ g:=fun g J b hb e=>by
  obtain ⟨k,Z⟩:=Ah.1 hb;obtain ⟨o,Y⟩:=BB (φ:=φ) Z;rw [e] at Y;exact G.m g J o (.inl Y)
 refine ⟨jL (fun g J=>E.same g (yZ G.w g J) (U g J)) G.w,fun g J o O=>?_⟩;rcases O with O | O
 ·exact G.m g J o (.inl (E.mu g o (yZ G.w g J) O))
 ·exact G.m g J o (.inr O)
theorem GM.sub {J:Zn} (G:GM φ h w M0) (hs:∀ r o,MM φ' h' J r o→MM φ h M0 r o):GM φ' h' w J :=
 ⟨G.w,fun g O o U=>G.m g O o (hs g o U)⟩
theorem QT.trans {U:Nat→Nat} {ac:QG} (a:QT φ h w φ' h' w') (b:QT φ' h' w' U ac w''):QT φ h w U ac w'':=by
 have Y:∀ r,r < w.heap.size→r < w'.heap.size:=fun r G=>Nat.lt_of_lt_of_le G a.size
 refine ⟨b.os.trans a.os,b.tape.trans a.tape,b.output.trans a.output,Nat.le_trans a.size b.size,?_,?_,?_,?_,?_,?_,?_⟩
 ·intro r G af;have O:=a.same r G af;refine (b.same r (Y r G) ?_).trans O;intro c hc al;cases hk:h' c with
  | none=>exact hc hk
  | some k =>
   obtain ⟨o,ho⟩:=BB (φ:=φ') hk;rw [al] at ho;obtain ⟨b0,k0,ak,ah,_⟩:=a.mu r o G ho;exact af b0 (by rw [ak]; simp) ah
 ·intro r o G hm;exact (b.cell r o (Y r G) (fun J=>hm (a.mu r o G J))).trans (a.cell r o G hm)
 ·intro r o G hm;exact a.mu r o G (b.mu r o (Y r G) hm)
 ·intro c ty cs hc hb;obtain ⟨⟨cs',O⟩,J⟩:=a.kb c ty cs hc hb;obtain ⟨Z,h4⟩:=b.kb c ty cs' hc O;exact ⟨Z,h4.trans J⟩
 ·intro t ty S n ht hb;obtain ⟨n',O,J,Z⟩:=a.kt t ty S n ht hb;obtain ⟨aa,h4,h5,h6⟩:=b.kt t ty S n' ht O;exact ⟨aa,h4,Nat.le_trans J h5,fun e=>(Z zo).trans a.size (h6 zo)⟩
 ·intro t ty S n ht hb;obtain ⟨n',O,J,Z⟩:=a.kv t ty S n ht hb;obtain ⟨aa,h4,h5,h6⟩:=b.kv t ty S n' ht O;refine ⟨aa,h4,Nat.le_trans J h5,fun e=>?_⟩;obtain ⟨h7,h8⟩:=Z zo;obtain ⟨h9,ae⟩:=h6 zo;refine ⟨h9.trans h7,fun c hc=>?_⟩;obtain ⟨c',hc',ai⟩:=h8 c hc;rw [h7] at ae;obtain ⟨aj,ab,ad⟩:=ae c' hc';exact ⟨aj,ab,ad.trans ai⟩
 ·intro c k x hc hb ho;obtain ⟨⟨k',O,J⟩,Z⟩:=a.ko c k x hc hb ho;obtain ⟨h4,h5⟩:=b.ko c k' x hc O J;exact ⟨h4,h5.trans Z⟩
theorem BC {o:Nat} (h:w.cell? ⟨r,o,none⟩=some v):r < w.heap.size:=by
 unfold World.cell? at h;dsimp only at h;split at h
 ·rename_i hc;exact (FY.1 hc).1
 ·cases h
theorem ZP (hk:∀ r o v,w.cell? ⟨r,o,none⟩=some v→¬ M r o→w'.cell? ⟨r,o,none⟩=some v∧¬ M' r o) :
  (∀ (x:PV) (v:Value),QH w M x v→QH w' M' x v)∧(∀ (es:List (List PV)) (S r o:Nat),VF w M S r o es→VF w' M' S r o es)∧(∀ (cs:List PV) (r o:Nat),VE w M r o cs→VE w' M' r o cs):=by
 have key:∀ n:Nat,(∀ (x:PV),SizeOf.sizeOf x≤n→∀ v,QH w M x v→QH w' M' x v)∧(∀ (es:List (List PV)),SizeOf.sizeOf es≤n→∀ S r o,VF w M S r o es→VF w' M' S r o es)∧(∀ (cs:List PV),SizeOf.sizeOf cs≤n→∀ r o,VE w M r o cs→VE w' M' r o cs):=by
  intro n
  induction n with
  | zero =>
   refine ⟨fun x J=>?_,fun es J=>?_,fun cs J=>?_⟩
   ·cases x <;> simp at J
   ·cases es <;> simp at J
   ·cases cs <;> simp at J
  | succ n ih =>
   obtain ⟨i1,i2,i3⟩:=ih;refine ⟨fun x J=>?_,fun es J=>?_,fun cs J=>?_⟩
   ·intro v G;cases x with
    | val x=>simpa [QH] using G
    | sl S es =>
     simp only [QH] at G ⊢;rcases G with ⟨r,o,cap,U,O⟩ | O
     ·exact .inl ⟨r,o,cap,U,O.1,i2 es (by simp at J; omega) S r o O.2⟩
     ·exact .inr O
   ·intro S r o G;cases es with
    | nil=>simp [VF]
    | cons e es =>
     simp only [VF] at G ⊢;simp at J;exact ⟨⟨G.1.1,i3 e zo r o G.1.2⟩,i2 es zo S r _ G.2⟩
   ·intro r o G;cases cs with
    | nil=>simp [VE]
    | cons c cs =>
     simp only [VE] at G ⊢;simp at J;obtain ⟨⟨v,U,O,Z,h3⟩,h4⟩:=G;obtain ⟨h5,Y⟩:=hk r o v U O;exact ⟨⟨v,h5,Y,Z,i1 c zo v h3⟩,i3 cs zo r _ h4⟩
 exact ⟨fun x v=>(key (SizeOf.sizeOf x)).1 x (Nat.le_refl _) v,fun es=>(key (SizeOf.sizeOf es)).2.1 es (Nat.le_refl _),fun cs=>(key (SizeOf.sizeOf cs)).2.2 cs (Nat.le_refl _)⟩
theorem QT.keeps (E:QT φ h w φ' h' w') (M0:Zn) (r o:Nat) (v:Value) (hc:w.cell? ⟨r,o,none⟩=some v) (O:¬ MM φ h M0 r o) :
  w'.cell? ⟨r,o,none⟩=some v∧¬ MM φ' h' M0 r o:=by
 have G:=BC hc;have J:¬ DJ φ h r o:=fun x=>O (.inl x)
 refine ⟨(E.cell r o G J).trans hc,fun x=>?_⟩;rcases x with x | x
 ·exact J (E.mu r o G x)
 ·exact O (.inr x)
structure VL (φ:Nat→Nat) (h:QG) (w:World) (φ':Nat→Nat) (h':QG) (w':World):Prop where
 b:∀ b ty cs,h b=some (.box ty cs)→(∃ ty' cs',h' b=some (.box ty' cs'))∧φ' b=φ b
 t:∀ t ty S n,h t=some (.arr ty S n)→∃ n',h' t=some (.arr ty S n')∧n≤n' ∧
  (n'=n→AKept w w' (φ t) (φ' t) ty)
 v:∀ t ty S es,h t=some (.vec ty S es)→∃ es',h' t=some (.vec ty S es')∧es.length≤es'.length ∧
  (es'.length=es.length→φ' t=φ t∧∀ c,w.heap[φ t]?=some (.cells c ty (0,0))→∃ c',w'.heap[φ t]?=some (.cells c' ty (0,0))∧c'.size=c.size)
 o:∀ b k x,h b=some k→k.ob=some x→(∃ k',h' b=some k'∧k'.ob=some x)∧φ' b=φ b
theorem QI
  (hk:∀ r o v,w.cell? ⟨r,o,none⟩=some v→¬ M r o→w'.cell? ⟨r,o,none⟩=some v∧¬ M' r o) (X:VL φ h w φ' h' w') :
  (∀ (x:AV) (v:Value),Qe φ h w M x v→Qe φ' h' w' M' x v)∧(∀ (xs:List AV) (l:List Value),Qi φ h w M xs l→Qi φ' h' w' M' xs l):=by
 obtain ⟨kp,ke,kc⟩:=ZP hk
 have key:∀ n:Nat,(∀ (x:AV),SizeOf.sizeOf x≤n→∀ v,Qe φ h w M x v→Qe φ' h' w' M' x v)∧(∀ (xs:List AV),SizeOf.sizeOf xs≤n→∀ l,Qi φ h w M xs l→Qi φ' h' w' M' xs l):=by
  intro n
  induction n with
  | zero =>
   refine ⟨fun x hx=>?_,fun es hx=>?_⟩
   ·cases x <;> simp at hx
   ·cases es <;> simp at hx
  | succ n ih =>
   obtain ⟨i1,i2⟩:=ih;refine ⟨fun x hx v G=>?_,fun xs hx l G=>?_⟩
   ·cases x with
    | p x=>simp only [Qe] at G ⊢; exact kp x v G
    | tsl S es t =>
     simp only [Qe] at G ⊢;obtain ⟨O,ty,n,J,Z,h5⟩:=G;obtain ⟨n',U,Y,e3⟩:=X.t t ty S n J;refine ⟨kp _ _ O,ty,n',U,by omega,fun he=>?_⟩;have:n'=n:=by omega
     rcases h5 zo with ⟨g0,g1,g2⟩ | ⟨cap,c,g1,g2,g3,g6,g7⟩
     ·exact .inl ⟨by omega,g1,(e3 this).1 g2⟩
     rcases (e3 this).2 with e4 | ⟨e4,e5⟩
     ·rw [e4] at g2; cases g2
     obtain ⟨c',g4,g5⟩:=e5 c g2;exact .inr ⟨cap,c',by rw [e4,this]; exact g1,by rw [e4]; exact g4,by rw [g5,g3],by omega,g7⟩
    | ptr b off =>
     simp only [Qe] at G ⊢;obtain ⟨O,ty,cs,J⟩:=G;obtain ⟨U,Y⟩:=X.b b ty cs J;exact ⟨by rw [Y]; exact O,U⟩
    | bsl b n =>
     simp only [Qe] at G ⊢;obtain ⟨O,ty,cs,J⟩:=G;obtain ⟨U,Y⟩:=X.b b ty cs J;exact ⟨by rw [Y]; exact O,U⟩
    | sfp b =>
     simp only [Qe] at G ⊢;obtain ⟨O,ty,cs,J⟩:=G;obtain ⟨U,Y⟩:=X.b b ty cs J;exact ⟨by rw [Y]; exact O,U⟩
    | eptr cs =>
     simp only [Qe] at G ⊢;obtain ⟨r,o,O,J⟩:=G;exact ⟨r,o,O,kc cs r o J⟩
    | agg cs =>
     simp only [Qe] at G ⊢;obtain ⟨l,O,J⟩:=G;exact ⟨l,O,i2 cs (by simp at hx; omega) l J⟩
    | tup cs =>
     simp only [Qe] at G ⊢;obtain ⟨l,O,J⟩:=G;exact ⟨l,O,i2 cs (by simp at hx; omega) l J⟩
    | fn f a b =>
     simp only [Qe] at G ⊢;obtain ⟨l,m,O,J,Z⟩:=G;simp at hx;exact ⟨l,m,O,i2 a zo l J,i2 b zo m Z⟩
    | ifc t x =>
     simp only [Qe] at G ⊢;obtain ⟨y,O,J⟩:=G;exact ⟨y,O,i1 x (by simp at hx; omega) y J⟩
    | vnil=>simp only [Qe] at G ⊢; exact G
    | vsl S t n =>
     simp only [Qe] at G ⊢;obtain ⟨O,ty,es,J,Z,h5⟩:=G;obtain ⟨es',U,Y,e3⟩:=X.v t ty S es J;refine ⟨O,ty,es',U,by omega,fun he=>?_⟩;have:es'.length=es.length:=by omega
     obtain ⟨e4,e5⟩:=e3 this;obtain ⟨cap,c,g1,g2,g3,g6,g7⟩:=h5 zo;obtain ⟨c',g4,g5⟩:=e5 c g2;exact ⟨cap,c',by rw [e4]; exact g1,by rw [e4]; exact g4,by rw [g5,g3],g6,g7⟩
    | vptr t n k f =>
     simp only [Qe] at G ⊢;obtain ⟨O,ty,S,es,J,Z,h5⟩:=G;obtain ⟨es',U,Y,e3⟩:=X.v t ty S es J;refine ⟨O,ty,S,es',U,by omega,fun he=>?_⟩;obtain ⟨e4,e5⟩:=e3 zo;rw [e4]; exact h5 zo
    | yv b =>
     simp only [Qe] at G ⊢;obtain ⟨O,k,T,nf,J,Z⟩:=G;obtain ⟨⟨k',U,Y⟩,e3⟩:=X.o b k _ J Z;exact ⟨by rw [e3]; exact O,k',T,nf,U,Y⟩
    | mv b =>
     simp only [Qe] at G ⊢;obtain ⟨O,k,J,Z⟩:=G;obtain ⟨⟨k',U,Y⟩,e3⟩:=X.o b k _ J Z;exact ⟨by rw [e3]; exact O,k',U,Y⟩
    | iv b =>
     simp only [Qe] at G ⊢;obtain ⟨O,k,J,Z⟩:=G;obtain ⟨⟨k',U,Y⟩,e3⟩:=X.o b k _ J Z;exact ⟨by rw [e3]; exact O,k',U,Y⟩
   ·cases xs with
    | nil=>simpa [Qi] using G
    | cons x xs =>
     simp only [Qi] at G ⊢;simp at hx;obtain ⟨y,ys,O,J,Z⟩:=G;exact ⟨y,ys,O,i1 x zo y J,i2 xs zo ys Z⟩
 exact ⟨fun x v=>(key (SizeOf.sizeOf x)).1 x (Nat.le_refl _) v,fun xs l=>(key (SizeOf.sizeOf xs)).2 xs (Nat.le_refl _) l⟩
def upd (h:QG) (b:Nat) (k:Blk):QG:=fun x=>if b=x then some k else h x
structure St where
 T:List (Nat × AV)
 H:List (Nat × Blk)
variable {K:St→Prop}{s s':St}
def St.put (s:St) (d:Option Tmp) (x:AV):St:=match d with | some d=>⟨(d,x) :: s.T,s.H⟩ | none=>s
structure DB where
 l:List Deferred
 base:Nat
variable {D:DB}
def Marks (φ:Nat→Nat) (D:DB) (h:QG) (a:Act) (w:World):Prop :=
 D.base≤w.heap.size∧∃ G:List Nat,a.defers=(G.map fun r=>({ target:=.collected r,args:=#[] }:Deferred))++D.l∧G.Nodup∧∀ r ∈ G,D.base≤r∧w.heap[r]?=some (.deferred (some []))∧∀ b,h b ≠ none→φ b ≠ r
structure Q6 (φ:Nat→Nat) (M0:Zn) (N:Nat) (D:DB) (T:Nat→Option AV) (h:QG) (a:Act) (w:World):Prop where
 dfs:Marks φ D h a w
 siz:a.tmps.size=N
 hp:Zw φ h w M0
 tm:∀ t x,T t=some x→t < N∧Qe φ h w (MM φ h M0) x (a.tmps.getD t undef)
inductive AX where
 | normal
 | exit (id:Nat)
 | ret
 | panic (x:AV)
variable {Q:AX→St→Prop}
def JR (φ:Nat→Nat) (h:QG) (w:World) (M:Zn):AX→Exit→Prop
 | .normal,e=>e=.normal
 | .exit i,e=>e=.exit i
 | .ret,e=>e=.ret
 | .panic x,e=>∃ v,e=.panic [{ v:=v,recovered:=false }]∧Qe φ h w M x v
def Post (N:Nat) (D:DB) (Q:AX→St→Prop) (φ:Nat→Nat) (M0:Zn) (h:QG) (w:World):Exit→Act→World→Prop:=fun e G w' =>
 ∃ φ' x s',Q x s'∧Q6 φ' M0 N D (look s'.T) (look s'.H) G w'∧QT φ h w φ' (look s'.H) w'∧JR φ' (look s'.H) w' (MM φ' (look s'.H) M0) x e
abbrev wd (ro:Option Nat):Fence:={ Fence.wide with round:=ro }
def Ex (P:Program) (N:Nat) (ro:Option Nat) (c:Code) (s:St) (Q:AX→St→Prop):Prop :=
 ∀ φ M0 D a w,Q6 φ M0 N D (look s.T) (look s.H) a w→c.wpIn (wd ro) 0 P (Post N D Q φ M0 (look s.H) w) a w
theorem Post.trans {e:Exit}
  (E:QT φ h w φ' h' w') (p:Post N D Q φ' M0 h' w' e a w''):Post N D Q φ M0 h w e a w'':=by
 obtain ⟨G,x,s',Y,O,U,J⟩:=p;exact ⟨G,x,s',Y,O,E.trans U,J⟩
theorem y5 {Q':AX→St→Prop} (h:Ex P N ro c s Q) (Y:∀ x s',Q x s'→Q' x s'):Ex P N ro c s Q' :=
 fun φ M0 D a w r=>wpIn_mono (h φ M0 D a w r) fun _ _ _ ⟨φ',x,s',U,J,O,G⟩=>⟨φ',x,s',Y _ _ U,J,O,G⟩
def andThen (K:St→Prop) (Q:AX→St→Prop):AX→St→Prop
 | .normal,s=>K s
 | x,s=>Q x s
theorem y7 {x y:Code} (h:Ex P N ro x s (andThen (fun s'=>Ex P N ro y s' Q) Q)):Ex P N ro (.seq x y) s Q:=by
 intro φ M0 D a w r;refine wpIn_seq (wpIn_mono (h φ M0 D a w r) ?_);rintro e a' w' ⟨φ',k,s',U,O,J,G⟩;cases k with
 | normal =>
  simp only [JR] at G;subst G;exact wpIn_mono (U φ' M0 D a' w' O) fun _ _ _ p=>p.trans J
 | exit i=>simp only [JR] at G; subst G; exact ⟨φ', .exit i,s',U,O,J,rfl⟩
 | ret=>simp only [JR] at G; subst G; exact ⟨φ', .ret,s',U,O,J,rfl⟩
 | panic v=>obtain ⟨u,Z,Y⟩:=G; subst Z; exact ⟨φ', .panic v,s',U,O,J,u,rfl,Y⟩
theorem Qcj (h:Q .normal s):Ex P N ro .skip s Q :=
 fun φ _ _ _ w r=>wpIn_skip ⟨φ, .normal,s,h,r,QT.refl _ _ _,rfl⟩
theorem Qfy (h:Q .ret s):Ex P N ro .ret s Q :=
 fun φ _ _ _ w r=>wpIn_ret ⟨φ, .ret,s,h,r,QT.refl _ _ _,rfl⟩
theorem Qck (h:Q (.exit id) s):Ex P N ro (.exit id) s Q :=
 fun φ _ _ _ w r=>wpIn_exit ⟨φ, .exit id,s,h,r,QT.refl _ _ _,rfl⟩
theorem iA {l:Nat} (h:Q .normal s):Ex P N ro (.label l) s Q :=
 fun φ _ _ _ w r=>wpIn_label ⟨φ, .normal,s,h,r,QT.refl _ _ _,rfl⟩
def inBlock (id:Nat) (Q:AX→St→Prop):AX→St→Prop
 | .exit i,s=>if i=id then Q .normal s else Q (.exit i) s
 | x,s=>Q x s
theorem iB (h:Ex P N ro c s (inBlock id Q)):Ex P N ro (.block id c) s Q:=by
 intro φ M0 D a w r;refine wpIn_block (wpIn_mono (h φ M0 D a w r) ?_);rintro e a' w' ⟨φ',k,s',G,U,O,J⟩;cases k with
 | normal=>simp only [JR] at J; subst J; exact ⟨φ', .normal,s',G,U,O,rfl⟩
 | exit i =>
  simp only [JR] at J;subst J;simp only [inBlock] at G;by_cases hi:i=id
  ·simp only [hi,if_true] at G;show Exit.inBlock id _ _ _ _;simp only [Exit.inBlock,hi,if_true];exact ⟨φ', .normal,s',G,U,O,rfl⟩
  ·simp only [hi,if_false] at G;show Exit.inBlock id _ _ _ _;simp only [Exit.inBlock,hi,if_false];exact ⟨φ', .exit i,s',G,U,O,rfl⟩
 | ret=>simp only [JR] at J; subst J; exact ⟨φ', .ret,s',G,U,O,rfl⟩
 | panic v=>obtain ⟨u,Z,Y⟩:=J; subst Z; exact ⟨φ', .panic v,s',G,U,O,u,rfl,Y⟩
theorem Xv {b:Frame} {k:List Item} {cs:List Frame}:step P (lone (b.atR a (.code (.scope c) :: k)) cs w)=.next (lone (b.atR a (.code c :: .inScope c :: k)) cs w) :=
 step_lone_go (by simp [stepG,stepG.exec,Frame.atR])
theorem zx {b:Frame} {k:List Item} {cs:List Frame}:step P (lone (b.atR a (.inScope c :: k)) cs w)=.next (lone (b.atR a k) cs w) :=
 step_lone_go (by simp [stepG,stepG.exec,Frame.atR])
theorem fJ {F:Fence} {Q:Exit→Act→World→Prop} (h:c.wpIn F n P (Exit.noGoto Q) a w):(Code.scope c).wpIn F n P Q a w:=by
 intro b k cs Z hb hr;have h0:(lone (b.atR a (.code (.scope c) :: k)) cs w).fenced P F:=fenced_calm hb hr rfl;obtain ⟨e,O,J,U,G⟩:=h b (.inScope c :: k) cs Z hb hr;cases e with
 | normal=>exact ⟨.normal,O,J,U, .head h0 Xv (StepsIn.trans G (.one (fenced_calm hb hr rfl) zx))⟩
 | exit id =>
  refine ⟨.exit id,O,J,U,fun k' hk=>.head h0 Xv (G.1 k' (by simp [exitTo,hk])),fun h1 h2=>?_⟩;obtain ⟨Y,g1,g2⟩:=G.2 h1 (by simp [exitTo,h2]);exact ⟨Y,g1, .head h0 Xv g2⟩
 | goto l=>exact U.elim
 | ret=>exact ⟨_,O,J,U, .of_steps (.one h0 Xv) G⟩
 | panic ch=>exact ⟨_,O,J,U, .of_steps (.one h0 Xv) G⟩
 | outgrown=>exact ⟨_,O,J,U, .of_steps (.one h0 Xv) G⟩
theorem iC (h:Ex P N ro c s Q):Ex P N ro (.scope c) s Q:=by
 intro φ M0 D a w r;refine fJ (wpIn_mono (h φ M0 D a w r) ?_);rintro e a' w' ⟨φ',k,s',U,O,J,G⟩;cases k with
 | normal=>simp only [JR] at G; subst G; exact ⟨φ', .normal,s',U,O,J,rfl⟩
 | exit i=>simp only [JR] at G; subst G; exact ⟨φ', .exit i,s',U,O,J,rfl⟩
 | ret=>simp only [JR] at G; subst G; exact ⟨φ', .ret,s',U,O,J,rfl⟩
 | panic v=>obtain ⟨u,Z,Y⟩:=G; subst Z; exact ⟨φ', .panic v,s',U,O,J,u,rfl,Y⟩
def zu:Value→AV
 | .agg cs=>.agg (cs.toList.map fun c=>.p (.val c))
 | v=>.p (.val v)
def Za (T:Nat→Option AV):Operand→Option AV
 | .tmp t=>T t
 | .const v=>some (zu v)
 | .func f=>some (.p (.val (.func (.func f) #[] #[])))
 | .global _=>none
theorem Fe {φ:Nat→Nat} {h:QG} {w:World} {M:Zn}:∀ l:List Value,Qi φ h w M (l.map fun c=>.p (.val c)) l
 | []=>by simp [Qi]
 | x :: l=>by simp only [List.map_cons,Qi]; exact ⟨x,l,rfl,by simp [Qe,QH],Fe l⟩
theorem V9 (v:Value):Qe φ h w M (zu v) v:=by
 cases v with
 | agg cs=>simp only [zu,Qe]; exact ⟨cs.toList,by simp,Fe _⟩
 | _=>simp [zu,Qe,QH]
theorem Q6.ev (r:Q6 φ M0 N D T h a w) {v:AV} (G:Za T x=some v) :
  Qe φ h w (MM φ h M0) v (a.eval x):=by
 cases x with
 | tmp t=>exact (r.tm t v G).2
 | const c=>simp only [Za,QN] at G; subst G; exact V9 _
 | func f=>simp only [Za,QN] at G; subst G; simp [Qe,QH,Act.eval]
 | global g=>cases G
theorem y8 {c:Operand} {x y:Code} (b:Bool) (hc:Za (look s.T) c=some (.p (.val (.bool b))))
  (J:b=true→Ex P N ro x s Q) (hf:b=false→Ex P N ro y s Q):Ex P N ro (.cond c x y) s Q:=by
 intro φ M0 D a w r;have G:=r.ev hc;simp only [Qe,QH] at G;cases b
 ·exact wpIn_cond_false G (hf rfl φ M0 D a w r)
 ·exact wpIn_cond_true G (J rfl φ M0 D a w r)
def Weak (N:Nat) (s s':St):Prop:=∀ φ M0 D a w,Q6 φ M0 N D (look s.T) (look s.H) a w→∃ φ',Q6 φ' M0 N D (look s'.T) (look s'.H) a w∧QT φ (look s.H) w φ' (look s'.H) w
theorem Weak.refl (N:Nat) (s:St):Weak N s s:=fun φ _ _ _ _ r=>⟨φ,r,QT.refl _ _ _⟩
theorem Weak.trans {G:St} (a:Weak N s s') (b:Weak N s' G):Weak N s G:=fun φ M0 D U w r =>
 let ⟨J,r1,Z⟩:=a φ M0 D U w r; let ⟨O,r2,Y⟩:=b J M0 D U w r1; ⟨O,r2,Z.trans Y⟩
theorem Tq (O:Weak N s s') (h:Ex P N ro c s' Q):Ex P N ro c s Q:=by
 intro φ M0 D a w r;obtain ⟨G,r1,J⟩:=O φ M0 D a w r;exact wpIn_mono (h G M0 D a w r1) fun _ _ _ p=>p.trans J
theorem Qcl {ι:Type} (S:ι→St) (O:ι→Nat) (i0:ι)
  (round:∀ i,Ex P N ro c (S i) (andThen (fun s'=>∃ j,O j < O i∧Weak N s' (S j)) Q)):Ex P N ro (.loop c) (S i0) Q:=by
 intro φ M0 D a w r;refine wpIn_loop_ghost (fun n a' w'=>∃ i φ',O i=n∧Q6 φ' M0 N D (look (S i).T) (look (S i).H) a' w'∧QT φ (look (S i0).H) w φ' (look (S i).H) w') (O i0) ⟨i0,φ,rfl,r,QT.refl _ _ _⟩ ?_;rintro n a' w' ⟨i,φ',rfl,r',E⟩;refine wpIn_mono (round i φ' M0 D a' w' r') ?_;rintro e ac w'' ⟨G,k,s',Z,Y,U,J⟩;cases k with
 | normal =>
  simp only [JR] at J;subst J;obtain ⟨j,hj,ab⟩:=Z;obtain ⟨aa,r2,e2⟩:=ab G M0 D ac w'' Y;exact ⟨O j,hj,j,aa,rfl,r2,(E.trans U).trans e2⟩
 | exit i=>simp only [JR] at J; subst J; exact ⟨G, .exit i,s',Z,Y,E.trans U,rfl⟩
 | ret=>simp only [JR] at J; subst J; exact ⟨G, .ret,s',Z,Y,E.trans U,rfl⟩
 | panic v=>obtain ⟨u,h5,h6⟩:=J; subst h5; exact ⟨G, .panic v,s',Z,Y,E.trans U,u,rfl,h6⟩
theorem Marks.keep (m:Marks φ D h a w) (E:QT φ h w φ' h' w'):Marks φ' D h' a w':=by
 obtain ⟨h0,Z,h1,h2,Y⟩:=m;refine ⟨Nat.le_trans h0 E.size,Z,h1,h2,fun r hr=>?_⟩;obtain ⟨g0,g1,g2⟩:=Y r hr;have hlt:r < w.heap.size:=(FY.1 g1).1;refine ⟨g0,(E.same r hlt g2).trans g1,fun b hb e=>?_⟩;cases hk:h' b with
 | none=>exact hb hk
 | some k =>
  obtain ⟨o,O⟩:=BB (φ:=φ') hk;rw [e] at O;obtain ⟨U,k0,J,G,_⟩:=E.mu r o hlt O;exact g2 U (by rw [J]; simp) G
theorem Q6.keep (r:Q6 φ M0 N D T h a w)
  (E:QT φ h w φ' h' w') (X:VL φ h w φ' h' w') (hp:Zw φ' h' w' M0):Q6 φ' M0 N D T h' a w' :=
 ⟨r.dfs.keep E,r.siz,hp,fun t x G=>⟨(r.tm t x G).1,(QI (E.keeps M0) X).1 _ _ (r.tm t x G).2⟩⟩
theorem VL.trans {G:Nat→Nat} {ab:QG} (hs:w.heap.size≤w'.heap.size) (a:VL φ h w φ' h' w') (b:VL φ' h' w' G ab w''):VL φ h w G ab w'':=by
 refine ⟨?_,?_,?_,?_⟩
 ·intro c ty cs hc;obtain ⟨⟨ae,cs',Z⟩,Y⟩:=a.b c ty cs hc;obtain ⟨J,U⟩:=b.b c ae cs' Z;exact ⟨J,U.trans Y⟩
 ·intro t ty S n ht;obtain ⟨n',Z,Y,J⟩:=a.t t ty S n ht;obtain ⟨O,U,h5,h6⟩:=b.t t ty S n' Z;exact ⟨O,U,Nat.le_trans Y h5,fun e=>(J zo).trans hs (h6 zo)⟩
 ·intro t ty S n ht;obtain ⟨n',Z,Y,J⟩:=a.v t ty S n ht;obtain ⟨O,U,h5,h6⟩:=b.v t ty S n' Z;refine ⟨O,U,Nat.le_trans Y h5,fun e=>?_⟩;obtain ⟨h7,h8⟩:=J zo;obtain ⟨h9,ad⟩:=h6 zo;refine ⟨h9.trans h7,fun c hc=>?_⟩;obtain ⟨c',hc',af⟩:=h8 c hc;rw [h7] at ad;obtain ⟨ah,aa,ac⟩:=ad c' hc';exact ⟨ah,aa,ac.trans af⟩
 ·intro c k x hb ho;obtain ⟨⟨k',Z,Y⟩,J⟩:=a.o c k x hb ho;obtain ⟨U,h5⟩:=b.o c k' x Z Y;exact ⟨U,h5.trans J⟩
theorem VL.refl (φ:Nat→Nat) (h:QG) (w:World):VL φ h w φ h w :=
 ⟨fun _ _ _ x=>⟨⟨_,_,x⟩,rfl⟩,fun _ _ _ _ x=>⟨_,x,Nat.le_refl _,fun _=>Yi (rfl) rfl⟩,fun _ _ _ _ x=>⟨_,x,Nat.le_refl _,fun _=>⟨rfl,fun c hc=>⟨c,hc,rfl⟩⟩⟩,fun _ _ _ J G=>⟨⟨_,J,G⟩,rfl⟩⟩
theorem Q6.put (r:Q6 φ M0 N D (look s.T) (look s.H) a w) {d:Option Tmp} {x:AV}
  (J:∀ t,d=some t→t < N) (O:Qe φ (look s.H) w (MM φ (look s.H) M0) x v):Q6 φ M0 N D (look (s.put d x).T) (look (s.put d x).H) (a.put d v) w:=by
 cases d with
 | none=>exact r
 | some d =>
  have hlt:=J d rfl;refine ⟨r.dfs,by simp [Act.put,r.siz],r.hp,fun t y G=>?_⟩;simp only [St.put,look] at G;by_cases e:d=t
  ·simp only [e,if_true,QN] at G;subst G;refine ⟨e ▸ hlt,?_⟩;have:(a.put (some d) v).tmps.getD t undef=v:=by subst e; simp [Act.put,r.siz,hlt]
   rw [this]; exact O
  ·simp only [e,if_false] at G;refine ⟨(r.tm t y G).1,?_⟩;have:(a.put (some d) v).tmps.getD t undef=a.tmps.getD t undef:=by simp [Act.put,Array.getElem?_setIfInBounds_ne e]
   rw [this]; exact (r.tm t y G).2
theorem BD (G:w'.heap=w.heap) (J:w'.os=w.os) (U:w'.tape=w.tape) (hu:w'.output=w.output):QT φ h w φ h w' :=
 ⟨J,U,hu,by rw [G]; exact Nat.le_refl _,fun _ _ _=>by rw [G],fun _ _ _ _=>by simp [World.cell?,G],fun _ _ _ x=>x,fun _ _ _ _ x=>⟨⟨_,x⟩,rfl⟩,fun _ _ _ _ _ x=>⟨_,x,Nat.le_refl _,fun _=>Yi (rfl) (by rw [G])⟩,fun _ _ _ _ _ x=>⟨_,x,Nat.le_refl _,fun _=>⟨rfl,fun c hc=>⟨c,by rw [G]; exact hc,rfl⟩⟩⟩,fun _ _ _ _ Y O=>⟨⟨_,Y,O⟩,rfl⟩⟩
theorem Ri (G:w'.heap=w.heap):VL φ h w φ h w' :=
 ⟨fun _ _ _ x=>⟨⟨_,_,x⟩,rfl⟩,fun _ _ _ _ x=>⟨_,x,Nat.le_refl _,fun _=>Yi (rfl) (by rw [G])⟩,fun _ _ _ _ x=>⟨_,x,Nat.le_refl _,fun _=>⟨rfl,fun c hc=>⟨c,by rw [G]; exact hc,rfl⟩⟩⟩,fun _ _ _ J O=>⟨⟨_,J,O⟩,rfl⟩⟩
theorem ZI
  (Y:∀ r o v,w.cell? ⟨r,o,none⟩=some v→¬ M r o→w'.cell? ⟨r,o,none⟩=some v∧¬ M' r o) (X:VL φ h w φ' h' w')
  (U:w'.heap[r']?=w.heap[r]?) {k:Blk} (hb:RelB φ h w M r k):RelB φ' h' w' M' r' k:=by
 cases k with
 | box ty cs=>obtain ⟨c,G,J⟩:=hb; exact ⟨c,U.trans G,(QI Y X).2 _ _ J⟩
 | arr ty S n =>
  rcases hb with ⟨h0,G⟩ | ⟨c,cap,G,J⟩
  ·exact .inl ⟨h0,U.trans G⟩
  ·exact .inr ⟨c,cap,U.trans G,J⟩
 | vec ty S es=>obtain ⟨c,cap,G,J,O,h4,h5,h6,h7⟩:=hb; exact ⟨c,cap,U.trans G,J,O,h4,h5,h6,(QI Y X).2 _ _ h7⟩
 | lp T nf st pd=>obtain ⟨tmps,d,G,J,O⟩:=hb; exact ⟨tmps,d,U.trans G,J,fun t x ht=>⟨(O t x ht).1,(QI Y X).1 _ _ (O t x ht).2⟩⟩
 | mp es=>obtain ⟨en,Z,G,J,O⟩:=hb; exact ⟨en,Z,U.trans G,J,(QI Y X).2 _ _ O⟩
 | mf es=>obtain ⟨en,Z,G,J,O,h4⟩:=hb; exact ⟨en,Z,U.trans G,J,(QI Y X).2 _ _ O,h4⟩
 | mg en Z es=>obtain ⟨G,J,O,h4⟩:=hb; exact ⟨U.trans G,J,(QI Y X).2 _ _ O,h4⟩
 | it m Z sn =>
  obtain ⟨G,k,J,O⟩:=hb;obtain ⟨⟨k',e1,e2⟩,e3⟩:=X.o m k _ J O;exact ⟨U.trans (by rw [e3]; exact G),k',e1,e2⟩
theorem Sd (G:w'.heap=w.heap) (E:QT φ h w φ h w') (r:Zw φ h w M0):Zw φ h w' M0 :=
 ⟨r.inj,fun b k hb=>ZI (E.keeps M0) (Ri G) (by rw [G]) (r.blk b k hb),r.fr,fun x o J=>by rw [G]; exact r.lt x o J,r.gm.evol E⟩
def Qu (φ:Nat→Nat) (b r:Nat):Nat→Nat:=fun x=>if b=x then r else φ x
theorem BF (r:Zw φ h w M0) {k:Blk} (hb:h b=some k) (J:∀ ty S,k ≠ .arr ty S 0):φ b < w.heap.size:=by
 have:=r.blk b k hb;cases k with
 | box ty cs=>obtain ⟨c,G,_⟩:=this; exact (FY.1 G).1
 | arr ty S n =>
  rcases this with ⟨h0,_⟩ | ⟨c,cap,G,_⟩
  ·exact absurd (by rw [h0]) (J ty S)
  ·exact (FY.1 G).1
 | vec ty S es=>obtain ⟨c,cap,G,_⟩:=this; exact (FY.1 G).1
 | lp T nf st pd=>obtain ⟨c,cap,G,_⟩:=this; exact (FY.1 G).1
 | mp es=>obtain ⟨c,cap,G,_⟩:=this; exact (FY.1 G).1
 | mf es=>obtain ⟨c,cap,G,_⟩:=this; exact (FY.1 G).1
 | mg Y O es=>exact (FY.1 this.1).1
 | it m O U=>exact (FY.1 this.1).1
theorem jM (r:Zw φ h w M0) {S:Nat} (hb:h b=some (.vec ty S es)):φ b < w.heap.size :=
 BF r hb fun _ _ e=>by cases e
def Clear (φ:Nat→Nat) (h:QG) (w:World) (K:Nat):Prop:=∀ b,h b ≠ none→φ b < w.heap.size∨w.heap.size+K≤φ b
theorem Clear.lt {K:Nat} (O:Clear φ h w K) (r:Zw φ h w M0) (hs:w'.heap.size≤w.heap.size+K) (G:∀ x,x < w.heap.size→w'.heap[x]?=w.heap[x]?) (hb:h b ≠ none) :
  w'.heap[φ b]?=w.heap[φ b]?:=by
 rcases O b hb with J | J
 ·exact G _ J
 ·rw [ZE (by omega:w'.heap.size≤φ b),ZE (by omega:w.heap.size≤φ b)]
def Kv (φ:Nat→Nat) (n K:Nat):Nat→Nat:=fun b=>if φ b < n then φ b else φ b+K
theorem Ff (r:Zw φ h w M0) (K:Nat) {k:Blk} (hb:h b=some k) (G:∀ ty S,k ≠ .arr ty S 0):Kv φ w.heap.size K b=φ b:=by
 have:=BF r hb G;simp [Kv,this]
theorem jN {K:Nat}:w.heap[Kv φ w.heap.size K b]?=w.heap[φ b]?:=by
 unfold Kv;by_cases e:φ b < w.heap.size
 ·simp only [e,if_true]
 ·simp only [e,if_false];rw [ZE zo,ZE zo]
theorem jO (r:Zw φ h w M0) (K:Nat):QT φ h w (Kv φ w.heap.size K) h w∧VL φ h w (Kv φ w.heap.size K) h w:=by
 have O:∀ t ty S n,h t=some (.arr ty S n)→∃ n',h t=some (.arr ty S n')∧n≤n' ∧
  (n'=n→AKept w w (φ t) (Kv φ w.heap.size K t) ty):=by
  intro t ty S n O;refine ⟨n,O,Nat.le_refl _,fun _=>?_⟩;by_cases e:φ t < w.heap.size
  ·exact Yi (by simp [Kv,e]) rfl
  ·exact Nl (ZE zo) (by rw [jN]; exact ZE zo)
 have J:∀ b k x,h b=some k→k.ob=some x→Kv φ w.heap.size K b=φ b:=fun b k x hb J=>Ff r K hb (fun ty S e=>by subst e; cases J)
 refine ⟨⟨rfl,rfl,rfl,Nat.le_refl _,fun _ _ _=>rfl,fun _ _ _ _=>rfl,?_,?_,fun t ty S n _ Y=>O t ty S n Y,?_,?_⟩,?_,O,?_,?_⟩
 ·rintro x o G ⟨b,k,Y,U,Z⟩;refine ⟨b,k,Y,?_,Z⟩;unfold Kv at U;by_cases e:φ b < w.heap.size
  ·simpa only [e,if_true] using U
  ·simp only [e,if_false] at U; omega
 ·intro b ty cs _ hb; exact ⟨⟨cs,hb⟩,Ff r K hb (fun _ _ e=>by cases e)⟩
 ·intro t ty S es _ hb; exact ⟨es,hb,Nat.le_refl _,fun _=>⟨Ff r K hb (fun _ _ e=>by cases e),fun c hc=>⟨c,hc,rfl⟩⟩⟩
 ·intro b k x _ hb G; exact ⟨⟨k,hb,G⟩,J b k x hb G⟩
 ·intro b ty cs hb; exact ⟨⟨ty,cs,hb⟩,Ff r K hb (fun _ _ e=>by cases e)⟩
 ·intro t ty S es hb; exact ⟨es,hb,Nat.le_refl _,fun _=>⟨Ff r K hb (fun _ _ e=>by cases e),fun c hc=>⟨c,hc,rfl⟩⟩⟩
 ·intro b k x hb G; exact ⟨⟨k,hb,G⟩,J b k x hb G⟩
theorem rz (r:Zw φ h w M0) (K:Nat):Zw (Kv φ w.heap.size K) h w M0:=by
 obtain ⟨E,X⟩:=jO r K;refine ⟨?_,fun b k hb=>ZI (E.keeps M0) X jN (r.blk b k hb),?_,r.lt,r.gm.evol E⟩
 ·intro b c hb hc e;refine r.inj b c hb hc ?_;unfold Kv at e;by_cases O:φ b < w.heap.size <;> by_cases J:φ c < w.heap.size
  ·simpa only [O,J,if_true] using e
  ·simp only [O,J,if_true,if_false] at e; omega
  ·simp only [O,J,if_true,if_false] at e; omega
  ·simp only [O,J,if_false] at e; omega
 ·intro b hb o G;unfold Kv at G;by_cases e:φ b < w.heap.size
  ·simp only [e,if_true] at G; exact r.fr b hb o G
  ·simp only [e,if_false] at G; have:=r.lt _ _ G; omega
theorem fK (K:Nat):Clear (Kv φ w.heap.size K) h w K:=by
 intro b _;unfold Kv;by_cases e:φ b < w.heap.size
 ·simp only [e,if_true]; exact .inl trivial
 ·simp only [e,if_false]; right; omega
theorem Q6.lift (r:Q6 φ M0 N D T h a w) (K:Nat) :
  Q6 (Kv φ w.heap.size K) M0 N D T h a w∧QT φ h w (Kv φ w.heap.size K) h w∧VL φ h w (Kv φ w.heap.size K) h w∧Clear (Kv φ w.heap.size K) h w K:=by
 obtain ⟨E,X⟩:=jO r.hp K;exact ⟨r.keep E X (rz r.hp K),E,X,fK K⟩
theorem XN {k:Blk} {o:Obj} (O:w'.heap=w.heap.push o) (U:w'.os=w.os) (ht:w'.tape=w.tape) (hu:w'.output=w.output)
  (hb:h b=none) (r:Zw φ h w M0) (Z:Clear φ h w 1):QT φ h w (Qu φ b w.heap.size) (upd h b k) w'∧VL φ h w (Qu φ b w.heap.size) (upd h b k) w':=by
 have G:∀ x,x < w.heap.size→w'.heap[x]?=w.heap[x]?:=fun x Y=>by rw [O,Array.getElem?_push,if_neg zo]
 have hne:∀ c q,h c=some q→¬ b=c:=fun c q hc e=>by rw [e] at hb; rw [hb] at hc; cases hc
 refine ⟨⟨U,ht,hu,by rw [O]; simp,fun x Y _=>G x Y,fun x o Y _=>by simp [World.cell?,G x Y],?_,?_,?_,?_,?_⟩,?_,?_,?_,?_⟩
 ·rintro x y Y ⟨c,q,h1,h2,h3⟩;simp only [upd,Qu] at h1 h2;by_cases e:b=c
  ·simp only [e,if_true] at h2; omega
  ·simp only [e,if_false] at h1 h2; exact ⟨c,q,h1,h2,h3⟩
 ·intro c ty cs _ hc;have:=hne c _ hc;exact ⟨⟨cs,by simp [upd,this,hc]⟩,by simp [Qu,this]⟩
 ·intro t ty S n _ hc;have:=hne t _ hc;exact ⟨n,by simp [upd,this,hc],Nat.le_refl _,fun _=>Yi (by simp [Qu,this]) (Z.lt r (by rw [O]; simp) G (by rw [hc]; simp))⟩
 ·intro t ty S n _ hc;have:=hne t _ hc;refine ⟨n,by simp [upd,this,hc],Nat.le_refl _,fun _=>⟨by simp [Qu,this],fun c J=>⟨c,?_,rfl⟩⟩⟩;rw [Z.lt r (by rw [O]; simp) G (by rw [hc]; simp)]; exact J
 ·intro c k x _ hc U;have:=hne c _ hc;exact ⟨⟨k,by simp [upd,this,hc],U⟩,by simp [Qu,this]⟩
 ·intro c ty cs hc;have:=hne c _ hc;exact ⟨⟨ty,cs,by simp [upd,this,hc]⟩,by simp [Qu,this]⟩
 ·intro t ty S n hc;have:=hne t _ hc;exact ⟨n,by simp [upd,this,hc],Nat.le_refl _,fun _=>Yi (by simp [Qu,this]) (Z.lt r (by rw [O]; simp) G (by rw [hc]; simp))⟩
 ·intro t ty S n hc;have:=hne t _ hc;refine ⟨n,by simp [upd,this,hc],Nat.le_refl _,fun _=>⟨by simp [Qu,this],fun c J=>⟨c,?_,rfl⟩⟩⟩;rw [Z.lt r (by rw [O]; simp) G (by rw [hc]; simp)]; exact J
 ·intro c k x hc U;have:=hne c _ hc;exact ⟨⟨k,by simp [upd,this,hc],U⟩,by simp [Qu,this]⟩
theorem XO {k:Blk} {o:Obj} (hh:w'.heap=w.heap.push o) (hb:h b=none) (r:Zw φ h w M0) (hC:Clear φ h w 1)
  (E:QT φ h w (Qu φ b w.heap.size) (upd h b k) w') (X:VL φ h w (Qu φ b w.heap.size) (upd h b k) w')
  (Y:RelB (Qu φ b w.heap.size) (upd h b k) w' (MM (Qu φ b w.heap.size) (upd h b k) M0) w.heap.size k):Zw (Qu φ b w.heap.size) (upd h b k) w' M0:=by
 have U:∀ x,x < w.heap.size→w'.heap[x]?=w.heap[x]?:=fun x hx=>by rw [hh,Array.getElem?_push,if_neg zo]
 have hlt:∀ c,h c ≠ none→φ c ≠ w.heap.size:=fun c hc=>by rcases hC c hc with h1 | h1 <;> omega
 refine ⟨?_,?_,?_,fun x y hx=>Nat.lt_of_lt_of_le (r.lt x y hx) E.size,r.gm.evol E⟩
 ·intro c d hc O G;simp only [upd] at hc O;simp only [Qu] at G;by_cases e1:b=c <;> by_cases e2:b=d
  ·omega
  ·simp only [e1,if_true] at G;have ab:¬ c=d:=by omega
   simp only [ab,if_false] at G;rw [if_neg e2] at O;have:=hlt d O; omega
  ·simp only [e2,if_true] at G;have aa:¬ d=c:=by omega
   simp only [aa,if_false] at G;rw [if_neg e1] at hc;have:=hlt c hc; omega
  ·simp only [e1,e2,if_false] at G hc O; exact r.inj c d hc O G
 ·intro c q hc;by_cases e:b=c
  ·have h2:q=k:=by simp only [upd,e,if_true,QN] at hc; exact hc.symm
   have J:Qu φ b w.heap.size c=w.heap.size:=by simp [Qu,e]
   rw [h2,J]; exact Y
  ·have h1:h c=some q:=by simpa [upd,e] using hc
   have J:Qu φ b w.heap.size c=φ c:=by simp [Qu,e]
   rw [J];exact ZI (E.keeps M0) X (hC.lt r (by rw [hh]; simp) U (by rw [h1]; simp)) (r.blk c q h1)
 ·intro c hc o Z;by_cases e:b=c
  ·have J:Qu φ b w.heap.size c=w.heap.size:=by simp [Qu,e]
   rw [J] at Z;exact absurd (r.lt _ _ Z) zo
  ·have J:Qu φ b w.heap.size c=φ c:=by simp [Qu,e]
   rw [J] at Z;exact r.fr c (by simpa [upd,e] using hc) o Z
theorem Oz {cs cs':List AV} {c:Array Value} (hb:h b=some (.box ty cs)) (hw:w.heap[φ b]?=some (.cells c ty (0,0))) (r:Zw φ h w M0) :
  QT φ h w φ (upd h b (.box ty cs')) (w.setRow (φ b) c')∧VL φ h w φ (upd h b (.box ty cs')) (w.setRow (φ b) c'):=by
 have G:∀ x,x ≠ φ b→(w.setRow (φ b) c').heap[x]?=w.heap[x]?:=fun x hx=>setRow_other w _ x c' hx
 have aa:∀ t ty S n,h t=some (.arr ty S n)→t ≠ b:=fun t ty S n O e=>by rw [e,hb] at O; cases O
 have ac:∀ t ty S n,h t=some (.arr ty S n)→φ t ≠ φ b:=fun t ty S n O e=>aa t ty S n O (r.inj t b (by rw [O]; simp) (by rw [hb]; simp) e)
 have ab:∀ t ty S n,h t=some (.vec ty S n)→t ≠ b:=fun t ty S n O e=>by rw [e,hb] at O; cases O
 have Z:∀ t ty S n,h t=some (.vec ty S n)→φ t ≠ φ b:=fun t ty S n O e=>ab t ty S n O (r.inj t b (by rw [O]; simp) (by rw [hb]; simp) e)
 have Y:∀ d k x,h d=some k→k.ob=some x→¬ b=d:=fun d k x U ho e=>by rw [← e,hb] at U; cases U; cases ho
 refine ⟨⟨rfl,rfl,rfl,by simp,?_,?_,?_,?_,?_,?_,?_⟩,?_,?_,?_,?_⟩
 ·intro x _ Y;exact G x (fun e=>Y b (by rw [hb]; simp) e.symm)
 ·intro x o _ hm;have:x ≠ φ b:=fun e=>hm ⟨b,_,hb,e.symm,trivial⟩
  simp [World.cell?,G x this]
 ·rintro x y _ ⟨d,q,h1,h2,h3⟩;by_cases e:b=d
  ·exact ⟨b,_,hb,by rw [e]; exact h2,trivial⟩
  ·exact ⟨d,q,by simpa [upd,e] using h1,h2,h3⟩
 ·intro d J ds _ U;by_cases e:b=d
  ·subst e; rw [hb] at U; cases U; exact ⟨⟨cs',by simp [upd]⟩,rfl⟩
  ·exact ⟨⟨ds,by simp [upd,e,U]⟩,rfl⟩
 ·intro t J S n _ O;have e:=aa t J S n O;refine ⟨n,by simp [upd,Ne.symm e,O],Nat.le_refl _,fun _=>Yi (rfl) (by rw [G _ (ac t J S n O)])⟩
 ·intro t J S n _ O;have e:=ab t J S n O;refine ⟨n,by simp [upd,Ne.symm e,O],Nat.le_refl _,fun _=>⟨rfl,fun c hc=>⟨c,by rw [G _ (Z t J S n O)]; exact hc,rfl⟩⟩⟩
 ·intro d k x _ U ho;exact ⟨⟨k,by simp [upd,Y d k x U ho,U],ho⟩,rfl⟩
 ·intro d J ds U;by_cases e:b=d
  ·exact ⟨⟨ty,cs',by simp [upd,e]⟩,rfl⟩
  ·exact ⟨⟨J,ds,by simp [upd,e,U]⟩,rfl⟩
 ·intro t J S n O;have e:=aa t J S n O;refine ⟨n,by simp [upd,Ne.symm e,O],Nat.le_refl _,fun _=>Yi (rfl) (by rw [G _ (ac t J S n O)])⟩
 ·intro t J S n O;have e:=ab t J S n O;refine ⟨n,by simp [upd,Ne.symm e,O],Nat.le_refl _,fun _=>⟨rfl,fun c hc=>⟨c,by rw [G _ (Z t J S n O)]; exact hc,rfl⟩⟩⟩
 ·intro d k x U ho;exact ⟨⟨k,by simp [upd,Y d k x U ho,U],ho⟩,rfl⟩
theorem jP {cs cs':List AV} {c:Array Value} (hb:h b=some (.box ty cs)) (U:w.heap[φ b]?=some (.cells c ty (0,0))) (r:Zw φ h w M0)
  (J:Qi φ h w (MM φ h M0) cs' c'.toList):Zw φ (upd h b (.box ty cs')) (w.setRow (φ b) c') M0:=by
 obtain ⟨E,X⟩:=Oz (cs':=cs') (c':=c') hb U r;refine ⟨?_,?_,?_,fun x y hx=>Nat.lt_of_lt_of_le (r.lt x y hx) E.size,r.gm.evol E⟩
 ·intro d e G Z O
  have g:∀ d,upd h b (.box ty cs') d ≠ none→h d ≠ none:=fun d G=>by
   by_cases e:b=d
   ·rw [← e,hb]; simp
   ·simpa [upd,e] using G
  exact r.inj d e (g d G) (g e Z) O
 ·intro d q G;by_cases e:b=d
  ·subst e;have:q=.box ty cs':=by simpa [upd] using G.symm
   subst this;exact ⟨c',setRow_heap w _ c c' ty _ U,(QI (E.keeps M0) X).2 _ _ J⟩
  ·have Y:h d=some q:=by simpa [upd,e] using G
   have hne:φ d ≠ φ b:=fun h2=>e (r.inj d b (by rw [Y]; simp) (by rw [hb]; simp) h2).symm
   exact ZI (E.keeps M0) X (setRow_other w _ _ c' hne) (r.blk d q Y)
 ·intro d G o hm;refine r.fr d ?_ o hm;by_cases e:b=d
  ·rw [← e,hb]; simp
  ·simpa [upd,e] using G
section lists
variable {φ:Nat→Nat} {h:QG} {w:World} {M:Zn}
theorem Rj {r:Nat}:∀ (cs:List PV) (o:Nat),VE w M r o cs↔∀ j c,cs[j]?=some c→∃ v,w.cell? ⟨r,o+j,none⟩=some v∧¬ M r (o+j)∧v.oneCell'=true∧QH w M c v
 | [],o=>by simp [VE]
 | c :: cs,o=>by
  simp only [VE,Rj cs (o+1)];constructor
  ·rintro ⟨h0,O⟩ j x G;cases j with
   | zero=>simp at G; subst G; exact h0
   | succ j =>
    have:=O j x (by simpa using G)
    rwa [show o+1+j=o+(j+1) from by omega] at this
  ·intro J;refine ⟨J 0 c zq,fun j x G=>?_⟩;have:=J (j+1) x (by simpa using G)
   rwa [show o+(j+1)=o+1+j from by omega] at this
theorem Tt {r:Nat}:∀ (a b:List PV) (o:Nat),VE w M r o (a++b)↔VE w M r o a∧VE w M r (o+a.length) b
 | [],b,o=>by simp [VE]
 | c :: a,b,o=>by
  simp only [List.cons_append,VE,Tt a b (o+1),Y9];rw [show o+1+a.length=o+(a.length+1) from by omega];constructor
  ·rintro ⟨x,y,z⟩; exact ⟨⟨x,y⟩,z⟩
  ·rintro ⟨⟨x,y⟩,z⟩; exact ⟨x,y,z⟩
theorem Kk {S r:Nat}:∀ (es:List (List PV)) (o:Nat),VF w M S r o es↔(∀ e ∈ es,e.length=S)∧VE w M r o es.flatten
 | [],o=>by simp [VF,VE]
 | e :: es,o=>by
  simp only [VF,Kk es (o+S),List.flatten_cons,Tt,List.mem_cons];constructor
  ·rintro ⟨⟨G,U⟩,O,Z⟩;refine ⟨fun x J=>?_,U,by rw [G]; exact Z⟩;rcases J with rfl | J
   ·exact G
   ·exact O x J
  ·rintro ⟨G,U,O⟩;have Y:=G e (.inl rfl);exact ⟨⟨Y,U⟩,fun x J=>G x (.inr J),by rw [← Y]; exact O⟩
theorem Va {S r:Nat}:∀ (a b:List (List PV)) (o:Nat),VF w M S r o (a++b)↔VF w M S r o a∧VF w M S r (o+a.length * S) b
 | [],b,o=>by simp [VF]
 | e :: a,b,o=>by
  simp only [List.cons_append,VF,Va a b (o+S),Y9];rw [show o+S+a.length * S=o+(a.length+1) * S from by rw [Nat.add_mul]; omega];constructor
  ·rintro ⟨x,y,z⟩; exact ⟨⟨x,y⟩,z⟩
  ·rintro ⟨⟨x,y⟩,z⟩; exact ⟨x,y,z⟩
theorem rA {S o:Nat} (G:VF w M S r o es) {e:List PV} (hi:es[i]?=some e):e.length=S∧VE w M r (o+i * S) e:=by
 have hlt:i < es.length:=(List.getElem?_eq_some_iff.1 hi).1
 have hs:es=es.take i++(e :: es.drop (i+1)):=by
  have J:es[i]=e:=(List.getElem?_eq_some_iff.1 hi).2
  conv=>lhs; rw [← List.take_append_drop i es]
  rw [← J,List.drop_eq_getElem_cons hlt]
 rw [hs,Va] at G;have O:(es.take i).length=i:=by simp; omega
 rw [O] at G;simp only [VF] at G;exact G.2.1
theorem Zp:∀ {xs:List AV} {l:List Value},Qi φ h w M xs l→xs.length=l.length
 | [],l,G=>by simp only [Qi] at G; simp [G]
 | x :: xs,l,G=>by
  simp only [Qi] at G;obtain ⟨y,ys,rfl,_,J⟩:=G;simp [Zp J]
theorem Un:∀ {xs:List AV} {l:List Value},Qi φ h w M xs l→∀ {i:Nat} {x:AV},xs[i]?=some x→∃ v,l[i]?=some v∧Qe φ h w M x v
 | [],l,G,i,x,hi=>by simp at hi
 | y :: xs,l,G,i,x,hi=>by
  simp only [Qi] at G;obtain ⟨v,Z,rfl,Y,U⟩:=G;cases i with
  | zero=>simp at hi; subst hi; exact ⟨v,by simp,Y⟩
  | succ i =>
   obtain ⟨u,J,O⟩:=Un U (i:=i) (by simpa using hi);exact ⟨u,by simpa using J,O⟩
theorem Zi:∀ {a b:List AV} {l m:List Value},Qi φ h w M a l→Qi φ h w M b m→Qi φ h w M (a++b) (l++m)
 | [],b,l,m,G,J=>by simp only [Qi] at G; subst G; simpa using J
 | x :: a,b,l,m,G,J=>by
  simp only [Qi] at G;obtain ⟨v,U,rfl,Y,O⟩:=G;simp only [List.cons_append,Qi];exact ⟨v,U++m,rfl,Y,Zi O J⟩
theorem Uo:∀ {a:List AV} {l:List Value} (n:Nat),Qi φ h w M a l→Qi φ h w M (a.take n) (l.take n)
 | a,l,0,_=>by simp [Qi]
 | [],l,n+1,G=>by simp only [Qi] at G; subst G; simp [Qi]
 | x :: a,l,n+1,G=>by
  simp only [Qi] at G;obtain ⟨v,O,rfl,U,J⟩:=G;simp only [List.take_succ_cons,Qi];exact ⟨v,O.take n,rfl,U,Uo n J⟩
theorem Ur:∀ {a:List AV} {l:List Value} (n:Nat),Qi φ h w M a l→Qi φ h w M (a.drop n) (l.drop n)
 | a,l,0,J=>by simpa using J
 | [],l,n+1,G=>by simp only [Qi] at G; subst G; simp [Qi]
 | x :: a,l,n+1,G=>by
  simp only [Qi] at G;obtain ⟨v,U,rfl,Y,O⟩:=G;simpa using Ur n O
end lists
def Yj {α:Type} (P:Program):Sem α→Option α
 | .pure a=>some a
 | .program k=>Yj P (k P)
 | .mark _ k=>Yj P k
 | _=>none
theorem zy {s:Sem α} {a:α} (h:Yj P s=some a) (w:World):s.run P w=.ok a w:=by
 induction s with
 | pure b=>simp only [Yj,QN] at h; subst h; rfl
 | program k G=>simp only [Yj] at h; exact G P h
 | mark m k G=>simp only [Yj] at h; exact G h
 | _=>simp [Yj] at h
mutual
def Sg:AV→Option Value
 | .p (.val x)=>some x
 | .p (.sl _ _)=>none
 | .tsl _ _ _=>none
 | .ptr _ _=>none
 | .eptr _=>none
 | .vnil=>none
 | .vsl _ _ _=>none
 | .vptr _ _ _ _=>none
 | .yv _=>none
 | .mv _=>none
 | .bsl _ _=>none
 | .sfp _=>none
 | .iv _=>none
 | .agg cs=>(Nn cs).map fun l=>.agg l.toArray
 | .tup cs=>(Nn cs).map fun l=>.tuple l.toArray
 | .ifc t x=>(Sg x).map (.iface t)
 | .fn f a b=>match Nn a,Nn b with | some l,some m=>some (.func f l.toArray m.toArray) | _,_=>none
def Nn:List AV→Option (List Value)
 | []=>some []
 | x :: xs=>match Sg x,Nn xs with | some y,some ys=>some (y :: ys) | _,_=>none
end
theorem BG :
  (∀ (x:AV) (v y:Value),Qe φ h w M x v→Sg x=some y→v=y)∧(∀ (xs:List AV) (l m:List Value),Qi φ h w M xs l→Nn xs=some m→l=m):=by
 have key:∀ n:Nat,(∀ (x:AV),SizeOf.sizeOf x≤n→∀ v y,Qe φ h w M x v→Sg x=some y→v=y)∧(∀ (xs:List AV),SizeOf.sizeOf xs≤n→∀ l m,Qi φ h w M xs l→Nn xs=some m→l=m):=by
  intro n
  induction n with
  | zero =>
   refine ⟨fun x O=>?_,fun es O=>?_⟩
   ·cases x <;> simp at O
   ·cases es <;> simp at O
  | succ n ih =>
   obtain ⟨i1,i2⟩:=ih;refine ⟨fun x O v y J G=>?_,fun xs O l m J G=>?_⟩
   ·cases x with
    | p x=>cases x with
     | val x=>simp only [Sg,QN] at G; simp only [Qe,QH] at J; rw [J,G]
     | sl S es=>simp [Sg] at G
    | tsl S es t=>simp [Sg] at G
    | ptr b off=>simp [Sg] at G
    | eptr cs=>simp [Sg] at G
    | vnil=>simp [Sg] at G
    | vsl S t n=>simp [Sg] at G
    | vptr t n k f=>simp [Sg] at G
    | yv b=>simp [Sg] at G
    | mv b=>simp [Sg] at G
    | iv b=>simp [Sg] at G
    | bsl b n=>simp [Sg] at G
    | sfp b=>simp [Sg] at G
    | agg cs =>
     simp only [Sg,GK] at G;obtain ⟨m,Y,rfl⟩:=G;simp only [Qe] at J;obtain ⟨l,rfl,U⟩:=J;rw [i2 cs (by simp at O; omega) l m U Y]
    | tup cs =>
     simp only [Sg,GK] at G;obtain ⟨m,Y,rfl⟩:=G;simp only [Qe] at J;obtain ⟨l,rfl,U⟩:=J;rw [i2 cs (by simp at O; omega) l m U Y]
    | fn f a b =>
     simp only [Sg] at G;split at G
     ·rename_i l m hl hm;simp only [QN] at G;subst G;simp only [Qe] at J;obtain ⟨l',m',rfl,U,Z⟩:=J;simp at O;rw [i2 a zo l' l U hl,i2 b zo m' m Z hm]
     ·cases G
    | ifc t x =>
     simp only [Sg,GK] at G;obtain ⟨m,Y,rfl⟩:=G;simp only [Qe] at J;obtain ⟨l,rfl,U⟩:=J;rw [i1 x (by simp at O; omega) l m U Y]
   ·cases xs with
    | nil=>simp only [Nn,QN] at G; simp only [Qi] at J; rw [J,G]
    | cons x xs =>
     simp only [Nn] at G;split at G
     ·rename_i y ys Y U;simp only [QN] at G;subst G;simp only [Qi] at J;obtain ⟨u,us,rfl,Z,h4⟩:=J;simp at O;rw [i1 x zo u y Z Y,i2 xs zo us ys h4 U]
     ·cases G
 exact ⟨fun x v=>(key (SizeOf.sizeOf x)).1 x (Nat.le_refl _) v,fun xs l=>(key (SizeOf.sizeOf xs)).2 xs (Nat.le_refl _) l⟩
def AV.one:AV→Bool
 | .p (.val x)=>x.oneCell'
 | .agg _ | .tup _=>false
 | _=>true
theorem pK {x:AV} (J:x.one=true) (G:Qe φ h w M x v):v.oneCell'=true∧v.cells=#[v]:=by
 have key:v.oneCell'=true:=by
  cases x with
  | p x=>cases x with
   | val y=>simp only [Qe,QH] at G; subst G; exact J
   | sl S es =>
    simp only [Qe,QH] at G;rcases G with ⟨r,o,cap,rfl,_⟩ | ⟨_,a,cap,rfl⟩ <;> rfl
  | tsl S es t =>
   simp only [Qe,QH] at G;rcases G.1 with ⟨r,o,cap,rfl,_⟩ | ⟨_,a,cap,rfl⟩ <;> rfl
  | ptr b off=>simp only [Qe] at G; rw [G.1]; rfl
  | eptr cs=>simp only [Qe] at G; obtain ⟨r,o,rfl,_⟩:=G; rfl
  | vnil=>simp only [Qe] at G; rw [G]; rfl
  | vsl S t n=>simp only [Qe] at G; exact G.1
  | vptr t n k f=>simp only [Qe] at G; exact G.1
  | yv b=>simp only [Qe] at G; rw [G.1]; rfl
  | mv b=>simp only [Qe] at G; rw [G.1]; rfl
  | iv b=>simp only [Qe] at G; rw [G.1]; rfl
  | bsl b n=>simp only [Qe] at G; rw [G.1]; rfl
  | sfp b=>simp only [Qe] at G; rcases G.1 with e | e <;> rw [e] <;> rfl
  | agg cs=>simp [AV.one] at J
  | tup cs=>simp [AV.one] at J
  | fn f a b=>simp only [Qe] at G; obtain ⟨l,m,rfl,_⟩:=G; rfl
  | ifc t x=>simp only [Qe] at G; obtain ⟨y,rfl,_⟩:=G; rfl
 refine ⟨key,?_⟩;cases v <;> first | rfl | (simp [Value.oneCell'] at key)
def Us:List AV→Bool
 | []=>true
 | x :: xs=>x.one&&Us xs
def cellsOf:AV→Option (List AV)
 | .agg cs=>if Us cs then some cs else none
 | x=>if x.one then some [x] else none
theorem Tu {φ:Nat→Nat} {h:QG} {w:World} {M:Zn}:∀ {xs:List AV} {l:List Value},Us xs=true→Qi φ h w M xs l→∀ u ∈ l,u.oneCell'=true
 | [],l,_,G=>by simp only [Qi] at G; subst G; simp
 | x :: xs,l,J,G=>by
  simp only [Us,Ze] at J;simp only [Qi] at G;obtain ⟨y,ys,rfl,U,O⟩:=G;intro u hu;rcases List.mem_cons.1 hu with rfl | hu
  ·exact (pK J.1 U).1
  ·exact Tu J.2 O u hu
theorem Vb {x:AV} {cs:List AV} (hc:cellsOf x=some cs) (J:Qe φ h w M x v) :
  Qi φ h w M cs v.cells.toList∧(∀ u ∈ v.cells.toList,u.oneCell'=true)∧Us cs=true:=by
 have other:(if x.one then some [x] else none)=some cs→Qi φ h w M cs v.cells.toList∧(∀ u ∈ v.cells.toList,u.oneCell'=true)∧Us cs=true:=by
  intro U;split at U
  ·rename_i G;simp only [QN] at U;subst U;obtain ⟨O,Y⟩:=pK G J;rw [Y];exact ⟨by simp only [Qi]; exact ⟨v,[],rfl,J,rfl⟩,by simpa using O,by simp [Us,G]⟩
  ·cases U
 cases x with
 | agg xs =>
  simp only [cellsOf] at hc;split at hc
  ·rename_i G;simp only [QN] at hc;subst hc;simp only [Qe] at J;obtain ⟨l,rfl,O⟩:=J;simp only [Value.cells];exact ⟨O,Tu G O,G⟩
  ·cases hc
 | _=>exact other hc
abbrev Xe:=AV × Option (Nat × Blk) × List Nat
variable {u:Xe}
def ap (h:QG):Option (Nat × Blk)→QG
 | none=>h
 | some (b,k)=>upd h b k
def Yield (P:Program) (o:Oper) (φ:Nat→Nat) (M0:Zn) (h:QG) (a:Act) (w:World) (x:AV) (h':QG):Prop :=
 ∃ G v w' φ',(execOp a.eval o).run P w=.ok G w'∧(G=.value v∨G=.skip∧v=undef)∧Qe φ' h' w' (MM φ' h' M0) x v∧Zw φ' h' w' M0∧QT φ h w φ' h' w'∧VL φ h w φ' h' w'
section
variable {P:Program} {o:Oper} {φ:Nat→Nat} {M0:Zn} {N:Nat} {D:DB} {T:Nat→Option AV} {h:QG} {a:Act} {w:World}
theorem Yield.of_lift (r:Q6 φ M0 N D T h a w) (K:Nat) {x:AV}
  (Z:∀ G,Q6 G M0 N D T h a w→QT φ h w G h w→VL φ h w G h w→Clear G h w K→Yield P o G M0 h a w x h'):Yield P o φ M0 h a w x h':=by
 obtain ⟨r1,O,J,hC⟩:=r.lift K;obtain ⟨nx,v,w',φ',h1,h2,h3,h4,Y,U⟩:=Z _ r1 O J hC;exact ⟨nx,v,w',φ',h1,h2,h3,h4,O.trans Y,VL.trans (Nat.le_refl _) J U⟩
theorem Ql (r:Q6 φ M0 N D T h a w) {x:AV} (G:(execOp a.eval o).run P w=.ok (.value v) w) (J:Qe φ h w (MM φ h M0) x v):Yield P o φ M0 h a w x h :=
 ⟨_,v,w,φ,G, .inl rfl,J,r.hp,QT.refl _ _ _,VL.refl _ _ _⟩
def VM (T:Nat→Option AV) (x:Operand):Option Xe:=match Za T x with | some v=>some (v,none,[]) | none=>none
def MR (T:Nat→Option AV) (c x y:Operand):Option Xe :=
 match Za T c with
 | some (.p (.val (.bool true)))=>VM T x
 | some (.p (.val (.bool false)))=>VM T y
 | _=>none
theorem pM (r:Q6 φ M0 N D T h a w) {v:AV} (G:o.op=.move x∨o.op=.assign x) (J:Za T x=some v):Yield P o φ M0 h a w v h:=by
 refine Ql r (v:=a.eval x) ?_ (r.ev J);rcases G with G | G <;> simp [execOp,G]
theorem pO (r:Q6 φ M0 N D T h a w) {c:Operand} (Y:o.op=.pick c x y) (G:MR T c x y=some u):u.2.1=none∧u.2.2=[]∧Yield P o φ M0 h a w u.1 h:=by
 unfold MR at G;split at G
 ·rename_i U;unfold VM at G;split at G
  ·rename_i v O;simp only [QN] at G;subst G;have J:=r.ev U;simp only [Qe,QH] at J;exact ⟨rfl,rfl,Ql r (v:=a.eval x) (by simp [execOp,Y,J,asBool]) (r.ev O)⟩
  ·cases G
 ·rename_i U;unfold VM at G;split at G
  ·rename_i v O;simp only [QN] at G;subst G;have J:=r.ev U;simp only [Qe,QH] at J;exact ⟨rfl,rfl,Ql r (v:=a.eval y) (by simp [execOp,Y,J,asBool]) (r.ev O)⟩
  ·cases G
 ·cases G
def H9:TypeDesc→Bool
 | .struct _ | .array _ _=>true
 | _=>false
theorem Ut {d:TypeDesc} (G:P.underlying t=some d) (w:World):(isAgg t).run P w=.ok (H9 d) w:=by
 simp only [isAgg,Sem.run_bind,run_underlying G,Result.andThen_ok];cases d <;> rfl
theorem QU {i:TypeInfo} (hi:P.info? t=some i) (w:World):(sizeOf t).run P w=.ok i.size w:=by
 simp [sizeOf,typeInfo,hi]
def Pz (P:Program) (T:Nat→Option AV) (h:QG) (ty:TypeId) (x:Operand):Option Xe :=
 match P.underlying ty,P.info? ty with
 | some d,some i =>
  match Za T x with
  | some (.ptr b off) =>
   match h b with
   | some (.box _ cs) =>
    if H9 d then (if off+i.size≤cs.length then some (.agg ((cs.drop off).take i.size),none,[b]) else none)
    else match cs[off]? with | some c=>some (c,none,[b]) | none=>none
   | _=>none
  | some (.eptr cs) =>
   if H9 d then (if i.size≤cs.length then some (.agg ((cs.take i.size).map .p),none,[]) else none)
   else match cs[0]? with | some c=>some (.p c,none,[]) | none=>none
  | _=>none
 | _,_=>none
theorem D9 {d:TypeDesc} {i:TypeInfo} (U:P.underlying ty=some d) (hi:P.info? ty=some i) (G:H9 d=true) (l:List Value) (O:l.length=i.size)
  (hc:∀ j v,l[j]?=some v→w.cell? ⟨r,off+j,none⟩=some v):(loadVar ty ⟨r,off,none⟩).run P w=.ok (.agg l.toArray) w:=by
 have J:=run_loadCells_list (P:=P) w ⟨r,off,none⟩ l (fun j v Y=>by rw [Addr.add_lit]; exact hc j v Y);rw [O] at J;simp [loadVar,Ut U,G,QU hi,J]
theorem Cb {d:TypeDesc} (J:P.underlying ty=some d) (G:H9 d=false) (hc:w.cell? ⟨r,off,none⟩=some v) :
  (loadVar ty ⟨r,off,none⟩).run P w=.ok v w:=by
 simp [loadVar,Ut J,G,hc]
theorem ZU {c:Array Value} (G:w.heap[r]?=some (.cells c ty (0,0))):w.cell? ⟨r,off,none⟩=c[off]?:=by simp [World.cell?,G]
theorem OA (r:Q6 φ M0 N D T h a w) (G:Pz P T h ty x=some u):u.2.1=none∧∃ v,(Instr.loadAt ty (a.eval x)).run P w=.ok v w∧Qe φ h w (MM φ h M0) u.1 v:=by
 unfold Pz at G;split at G
 ·rename_i d i hd hi;split at G
  ·rename_i b off hx;have Z:=r.ev hx;simp only [Qe] at Z;split at G
   ·rename_i ah cs hb;obtain ⟨c,hw,ad⟩:=r.hp.blk b _ hb;split at G
    ·rename_i O;split at G
     ·rename_i Y;simp only [QN] at G;subst G;have af:=Zp ad;have h3:Qi φ h w (MM φ h M0) ((cs.drop off).take i.size) ((c.toList.drop off).take i.size):=Uo _ (Ur _ ad);refine ⟨rfl, .agg ((c.toList.drop off).take i.size).toArray,?_,?_⟩
      ·have:=D9 (w:=w) (r:=φ b) (off:=off) hd hi O ((c.toList.drop off).take i.size) (by simp at af ⊢; omega) (fun j v U=>by
        rw [ZU hw];rw [List.getElem?_take] at U;split at U
        ·simpa using U
        ·cases U)
       simp [Instr.loadAt,Z.1,Instr.sureAddr,this]
      ·simp only [Qe]; exact ⟨_,rfl,h3⟩
     ·cases G
    ·rename_i O;split at G
     ·rename_i c0 ab;simp only [QN] at G;subst G;obtain ⟨v,hv,ac⟩:=Un ad ab;refine ⟨rfl,v,?_,ac⟩;have:=Cb (P:=P) (w:=w) (r:=φ b) (off:=off) hd (by simpa using O) (v:=v) (by rw [ZU hw]; simpa using hv);simp [Instr.loadAt,Z.1,Instr.sureAddr,this]
     ·cases G
   ·cases G
  ·rename_i cs hx;have Z:=r.ev hx;simp only [Qe] at Z;obtain ⟨rr,J,h3,h4⟩:=Z;rw [Rj] at h4;split at G
   ·rename_i O;split at G
    ·rename_i Y;simp only [QN] at G;subst G
     have hex:∃ l:List Value,l.length=i.size∧(∀ j v,l[j]?=some v→w.cell? ⟨rr,J+j,none⟩=some v)∧Qi φ h w (MM φ h M0) ((cs.take i.size).map .p) l:=by
      have ae:∀ (k:Nat) (cs:List PV) (J:Nat),k≤cs.length→(∀ j c,cs[j]?=some c→∃ v,w.cell? ⟨rr,J+j,none⟩=some v∧¬ MM φ h M0 rr (J+j)∧v.oneCell'=true∧QH w (MM φ h M0) c v) →
        ∃ l:List Value,l.length=k∧(∀ j v,l[j]?=some v→w.cell? ⟨rr,J+j,none⟩=some v)∧Qi φ h w (MM φ h M0) ((cs.take k).map .p) l:=by
       intro k
       induction k with
       | zero=>intro cs J _ _; exact ⟨[],rfl,by simp,by simp [Qi]⟩
       | succ k ih =>
        intro cs J hk aa;cases cs with
        | nil=>simp at hk
        | cons c cs =>
         obtain ⟨v,hv,hm,_,hr⟩:=aa 0 c zq
         obtain ⟨l,h1,Z,h3⟩:=ih cs (J+1) (by simp at hk; omega) (fun j c' U=>by
          have:=aa (j+1) c' (by simpa using U)
          rwa [show J+(j+1)=J+1+j from by omega] at this)
         refine ⟨v :: l,by simp [h1],fun j u U=>?_,?_⟩
         ·cases j with
          | zero=>simp at U; subst U; simpa using hv
          | succ j=>have:=Z j u (by simpa using U); rwa [show J+1+j=J+(j+1) from by omega] at this
         ·simp only [List.take_succ_cons,List.map_cons,Qi]; exact ⟨v,l,rfl,by simpa [Qe] using hr,h3⟩
      exact ae i.size cs J Y h4
     obtain ⟨l,h5,h6,h7⟩:=hex;refine ⟨rfl, .agg l.toArray,?_,?_⟩
     ·have:=D9 (w:=w) (r:=rr) (off:=J) hd hi O l h5 h6;simp [Instr.loadAt,h3,Instr.sureAddr,this]
     ·simp only [Qe]; exact ⟨l,rfl,h7⟩
    ·cases G
   ·rename_i O;split at G
    ·rename_i c0 ab;simp only [QN] at G;subst G;obtain ⟨v,hv,_,_,ac⟩:=h4 0 c0 ab;refine ⟨rfl,v,?_,by simpa [Qe] using ac⟩;have:=Cb (P:=P) (w:=w) (r:=rr) (off:=J) hd (by simpa using O) (v:=v) (by simpa using hv);simp [Instr.loadAt,h3,Instr.sureAddr,this]
    ·cases G
  ·cases G
 ·cases G
theorem Qcm (r:Q6 φ M0 N D T h a w) (J:o.op=.load ty x) (O:Pz P T h ty x=some u):u.2.1=none∧Yield P o φ M0 h a w u.1 h:=by
 obtain ⟨U,v,Y,G⟩:=OA (P:=P) r O;exact ⟨U,Ql r (v:=v) (by simp [execOp,J,Y]) G⟩
def OC (P:Program) (T:Nat→Option AV) (h:QG) (ty:TypeId) (x y:Operand):Option Xe :=
 match P.info? ty,Za T x,Za T y with
 | some i,some (.ptr b off),some v =>
  match h b,cellsOf v with
  | some (.box tb cs),some G =>
   if G.length=i.size∧off+G.length≤cs.length then some (.p (.val undef),some (b, .box tb (cs.take off++G++cs.drop (off+G.length))),[b]) else none
  | _,_=>none
 | _,_,_=>none
theorem iD (r:Q6 φ M0 N D T h a w) (ho:o.op=.store ty x y) (G:OC P T h ty x y=some u):Yield P o φ M0 h a w u.1 (ap h u.2.1):=by
 unfold OC at G;split at G
 ·rename_i i b off v hi hx hy;have h2:=r.ev hx;have h3:=r.ev hy;simp only [Qe] at h2;split at G
  ·rename_i tb cs Z hb aa;split at G
   ·rename_i ad;simp only [QN] at G;subst G;obtain ⟨c,hw,O⟩:=r.hp.blk b _ hb;obtain ⟨h4,h5,h6⟩:=Vb aa h3;have J:=Zp h4;have ac:=Zp O;have U:=run_storeCells_at P (φ b) off tb (a.eval y).cells.toList 0 c w hw (by simp at J ac ⊢; omega) h5;simp only [Nat.add_zero] at U
    have Y:Qi φ h w (MM φ h M0) (cs.take off++Z++cs.drop (off+Z.length)) (c.toList.take off++(a.eval y).cells.toList++c.toList.drop (off+(a.eval y).cells.toList.length)):=by
     rw [← J];exact Zi (Zi (Uo _ O) h4) (Ur _ O)
    obtain ⟨E,X⟩:=Oz (cs':=cs.take off++Z++cs.drop (off+Z.length)) (c':=(c.toList.take off++(a.eval y).cells.toList++c.toList.drop (off+(a.eval y).cells.toList.length)).toArray) hb hw r.hp;refine ⟨.skip,undef,_,φ,?_, .inr ⟨rfl,rfl⟩,by simp [Qe,QH],jP hb hw r.hp (by simpa using Y),E,X⟩;have ab:(a.eval y).cells.size=i.size:=by simp at J; omega
    simp [execOp,ho,Instr.storeAt,h2.1,Instr.sureAddr,storeVar,QU hi,ab,U]
   ·cases G
  ·cases G
 ·cases G
def zz (o:Oper) (h:QG) (ty:TypeId) (v:AV):Option Xe :=
 match o.dst,cellsOf v with
 | some d,some cs=>match h d with | none=>some (.ptr d 0,some (d, .box ty cs),[d]) | some _=>none
 | _,_=>none
theorem iE (r:Q6 φ M0 N D T h a w) {v:AV} {y:Value} (O:(execOp a.eval o).run P w=.ok (.value (.pointer (some ⟨w.heap.size,0,none⟩))) (w.alloc (.cells y.cells ty)))
  (U:Qe φ h w (MM φ h M0) v y) (J:zz o h ty v=some u):Yield P o φ M0 h a w u.1 (ap h u.2.1):=by
 unfold zz at J;split at J
 ·rename_i d cs _ Y;split at J
  ·rename_i hd;simp only [QN] at J;subst J;refine Yield.of_lift r 1 fun φ r E0 X0 Z=>?_
   have U:=(QI (E0.keeps M0) X0).1 _ _ U;obtain ⟨E,X⟩:=XN (w':=w.alloc (.cells y.cells ty)) (o:=.cells y.cells ty) (b:=d) (k:=.box ty cs) (M0:=M0) rfl rfl rfl rfl hd r.hp Z
   have G:RelB (Qu φ d w.heap.size) (upd h d (.box ty cs)) (w.alloc (.cells y.cells ty)) (MM (Qu φ d w.heap.size) (upd h d (.box ty cs)) M0) w.heap.size (.box ty cs):=by
    refine ⟨y.cells,by show (w.heap.push _)[w.heap.size]?=_; simp,(QI (E.keeps M0) X).2 _ _ (Vb Y U).1⟩
   refine ⟨_,_,_,Qu φ d w.heap.size,O, .inl rfl,?_,XO rfl hd r.hp Z E X G,E,X⟩;simp only [Qe,ap];exact ⟨by simp [Qu],ty,cs,by simp [upd]⟩
  ·cases J
 ·cases J
theorem iF (r:Q6 φ M0 N D T h a w) {i:TypeInfo} (G:o.op=.alloc ty) (hi:P.info? ty=some i) (O:i.zero=some z) (J:zz o h ty (zu z)=some u) :
  Yield P o φ M0 h a w u.1 (ap h u.2.1) :=
 iE r (y:=z) (by simp [execOp,G,Instr.alloc,zeroValue,typeInfo,hi,O,newVar,newRow,newObj,Sem.run]) (V9 z) J
theorem Qfz (r:Q6 φ M0 N D T h a w) {v:AV} (G:o.op=.box ty x) (O:Za T x=some v) (J:zz o h ty v=some u) :
  Yield P o φ M0 h a w u.1 (ap h u.2.1) :=
 iE r (y:=a.eval x) (by simp [execOp,G,Instr.box,newVar,newRow,newObj,Sem.run]) (r.ev O) J
end
section
variable {P:Program} {o:Oper} {φ:Nat→Nat} {M0:Zn} {N:Nat} {D:DB} {T:Nat→Option AV} {h:QG} {a:Act} {w:World}
theorem Np {o:Nat} {cs:List PV} (k:Nat) (O:k≤cs.length) (G:VE w M r o cs):VE w M r (o+k) (cs.drop k):=by
 have:VE w M r o (cs.take k++cs.drop k):=by rw [List.take_append_drop]; exact G
 rw [Tt] at this;have J:(cs.take k).length=k:=by simp; omega
 rw [J] at this;exact this.2
def Xf (P:Program) (T:Nat→Option AV) (s:TypeId) (x:Operand) (f:Nat):Option Xe :=
 match P.underlying s with
 | some (.struct fields) =>
  match fields[f]? with
  | some G =>
   match P.info? G.type with
   | some i =>
    if i.size=0 then none else
    match Za T x with
    | some (.ptr b off)=>some (.ptr b (off+G.offset),none,[])
    | some (.eptr cs)=>if G.offset≤cs.length then some (.eptr (cs.drop G.offset),none,[]) else none
    | _=>none
   | none=>none
  | none=>none
 | _=>none
theorem y9 (r:Q6 φ M0 N D T h a w) {s:TypeId} {f:Nat} (ho:o.op=.fieldAddr s x f) (G:Xf P T s x f=some u):u.2.1=none∧Yield P o φ M0 h a w u.1 h:=by
 unfold Xf at G;split at G
 ·rename_i fields hs;split at G
  ·rename_i Y hf;split at G
   ·rename_i i hi;split at G
    ·cases G
    ·rename_i O;split at G
     ·rename_i b off Z;simp only [QN] at G;subst G;have J:=r.ev Z;simp only [Qe] at J;refine ⟨rfl,Ql r (v:=.pointer (some ⟨φ b,off+Y.offset,none⟩)) ?_ ?_⟩
      ·simp [execOp,ho,Instr.fieldAt,run_underlying hs,hf,J.1,Instr.sureAddr,fieldPlace,QU hi,O,Addr.add_lit]
      ·simp only [Qe]; exact ⟨trivial,J.2⟩
     ·rename_i cs Z;split at G
      ·rename_i U;simp only [QN] at G;subst G;have J:=r.ev Z;simp only [Qe] at J;obtain ⟨rr,oo,h3,h4⟩:=J;refine ⟨rfl,Ql r (v:=.pointer (some ⟨rr,oo+Y.offset,none⟩)) ?_ ?_⟩
       ·simp [execOp,ho,Instr.fieldAt,run_underlying hs,hf,h3,Instr.sureAddr,fieldPlace,QU hi,O,Addr.add_lit]
       ·simp only [Qe]; exact ⟨rr,oo+Y.offset,rfl,Np _ U h4⟩
      ·cases G
     ·cases G
   ·cases G
  ·cases G
 ·cases G
def elems:AV→Option (Nat × List (List PV))
 | .p (.sl S es)=>some (S,es)
 | .tsl S es _=>some (S,es)
 | _=>none
theorem BH {x:AV} {S:Nat} (G:elems x=some (S,es)) (J:Qe φ h w M x v):QH w M (.sl S es) v:=by
 cases x with
 | p x=>cases x with
  | val y=>simp [elems] at G
  | sl O es'=>simp only [elems,QN,Prod.mk.injEq] at G; obtain ⟨rfl,rfl⟩:=G; simpa only [Qe] using J
 | tsl O es' t=>simp only [elems,QN,Prod.mk.injEq] at G; obtain ⟨rfl,rfl⟩:=G; simp only [Qe] at J; exact J.1
 | _=>simp [elems] at G
def Xg (P:Program) (T:Nat→Option AV) (t:TypeId) (x ix:Operand):Option Xe :=
 match Za T ix with
 | some (.p (.val (.int _ n))) =>
  match P.underlying t,Za T x with
  | some (.slice e),some v =>
   match elems v,P.info? e with
   | some (S,es),some i=>if i.size=S∧0≤n then (match es[n.toNat]? with | some c=>some (.eptr c,none,[]) | none=>none) else none
   | _,_=>none
  | some (.array len e),some (.ptr b off) =>
   match P.info? e with
   | some i=>if 0≤n∧n < len then some (.ptr b (off+n.toNat * i.size),none,[]) else none
   | none=>none
  | some (.array len e),some (.eptr cs) =>
   match P.info? e with
   | some i=>if 0≤n∧n < len∧n.toNat * i.size≤cs.length then some (.eptr (cs.drop (n.toNat * i.size)),none,[]) else none
   | none=>none
  | _,_=>none
 | _=>none
theorem vg (r:Q6 φ M0 N D T h a w) (ho:o.op=.indexAddr t x ix) (G:Xg P T t x ix=some u):u.2.1=none∧Yield P o φ M0 h a w u.1 h:=by
 unfold Xg at G;split at G
 ·rename_i k n ae;have J:=r.ev ae;simp only [Qe,QH] at J;split at G
  ·rename_i e v Z hx;split at G
   ·rename_i S es i aa hi;split at G
    ·rename_i hc;split at G
     ·rename_i c U;simp only [QN] at G;subst G;have O:=BH aa (r.ev hx);simp only [QH] at O;have hlt:n.toNat < es.length:=(List.getElem?_eq_some_iff.1 U).1;rcases O with ⟨Y,oo,cap,hv,ab⟩ | ⟨rfl,_⟩
      ·obtain ⟨_,ad⟩:=rA ab.2 U;refine ⟨rfl,Ql r (v:=.pointer (some ⟨Y,oo+n.toNat * i.size,none⟩)) ?_ ?_⟩
       ·have ac:0≤n∧n < (es.length:Int):=⟨hc.2,by omega⟩;simp [execOp,ho,Instr.indexAt,J,asIntOf,run_underlying Z,hv,ac,QU hi,Addr.add_lit]
       ·simp only [Qe]; exact ⟨Y,_,rfl,by rw [hc.1]; exact ad⟩
      ·simp at hlt
     ·cases G
    ·cases G
   ·cases G
  ·rename_i len e b off Z hx;split at G
   ·rename_i i hi;split at G
    ·rename_i hc;simp only [QN] at G;subst G;have O:=r.ev hx;simp only [Qe] at O;refine ⟨rfl,Ql r (v:=.pointer (some ⟨φ b,off+n.toNat * i.size,none⟩)) ?_ ?_⟩
     ·simp [execOp,ho,Instr.indexAt,J,asIntOf,run_underlying Z,O.1,Instr.sureAddr,hc,QU hi,Addr.add_lit]
     ·simp only [Qe]; exact ⟨trivial,O.2⟩
    ·cases G
   ·cases G
  ·rename_i len e cs Z hx;split at G
   ·rename_i i hi;split at G
    ·rename_i hc;simp only [QN] at G;subst G;have O:=r.ev hx;simp only [Qe] at O;obtain ⟨Y,oo,h3,h4⟩:=O;refine ⟨rfl,Ql r (v:=.pointer (some ⟨Y,oo+n.toNat * i.size,none⟩)) ?_ ?_⟩
     ·simp [execOp,ho,Instr.indexAt,J,asIntOf,run_underlying Z,h3,Instr.sureAddr,hc.1,hc.2.1,QU hi,Addr.add_lit]
     ·simp only [Qe]; exact ⟨Y,_,rfl,Np _ hc.2.2 h4⟩
    ·cases G
   ·cases G
  ·cases G
 ·cases G
def jQ (P:Program) (ty:TypeId) (cs:List AV) (off:Nat):Option AV :=
 match P.underlying ty,P.info? ty with
 | some d,some i=>if H9 d then (if off+i.size≤cs.length then some (.agg ((cs.drop off).take i.size)) else none) else cs[off]?
 | _,_=>none
theorem pQ {cs:List AV} {x:AV} {l:List Value} (G:jQ P ty cs off=some x) (U:Qi φ h w M cs l) :
  ∃ v,(part ty l.toArray off).run P w=.ok v w∧Qe φ h w M x v:=by
 unfold jQ at G;split at G
 ·rename_i d i Z hi;split at G
  ·rename_i J;split at G
   ·rename_i Y;simp only [QN] at G;subst G;refine ⟨.agg ((l.drop off).take i.size).toArray,?_,?_⟩
    ·simp [part,Ut Z,J,QU hi]
    ·simp only [Qe]; exact ⟨_,rfl,Uo _ (Ur _ U)⟩
   ·cases G
  ·rename_i J;obtain ⟨v,hv,O⟩:=Un U G;refine ⟨v,?_,O⟩;simp [part,Ut Z,J,hv]
 ·cases G
def OD (P:Program) (T:Nat→Option AV) (t:TypeId) (x:Operand) (f:Nat):Option Xe :=
 match P.underlying t,Za T x with
 | some (.struct fields),some (.agg cs) =>
  match fields[f]? with
  | some G=>match jQ P G.type cs G.offset with | some v=>some (v,none,[]) | none=>none
  | none=>none
 | _,_=>none
theorem iG (r:Q6 φ M0 N D T h a w) {f:Nat} (O:o.op=.field t x f) (G:OD P T t x f=some u):u.2.1=none∧Yield P o φ M0 h a w u.1 h:=by
 unfold OD at G;split at G
 ·rename_i fields cs ht hx;split at G
  ·rename_i fl hf;split at G
   ·rename_i v Z;simp only [QN] at G;subst G;have J:=r.ev hx;simp only [Qe] at J;obtain ⟨l,U,h4⟩:=J;obtain ⟨y,h5,Y⟩:=pQ Z h4;refine ⟨rfl,Ql r (v:=y) ?_ Y⟩;simp [execOp,O,Instr.field,run_underlying ht,hf,U,asAgg,h5]
   ·cases G
  ·cases G
 ·cases G
def Si (P:Program) (T:Nat→Option AV) (t:TypeId) (x ix:Operand):Option Xe :=
 match P.underlying t,Za T x,Za T ix with
 | some (.array len e),some (.agg cs),some (.p (.val (.int _ n))) =>
  match P.info? e with
  | some i=>if 0≤n∧n < len then (match jQ P e cs (n.toNat * i.size) with | some v=>some (v,none,[]) | none=>none) else none
  | none=>none
 | _,_,_=>none
theorem iH (r:Q6 φ M0 N D T h a w) (Y:o.op=.index t x ix) (G:Si P T t x ix=some u):u.2.1=none∧Yield P o φ M0 h a w u.1 h:=by
 unfold Si at G;split at G
 ·rename_i len e cs k n ht hx O;split at G
  ·rename_i i hi;split at G
   ·rename_i hc;split at G
    ·rename_i v hv;simp only [QN] at G;subst G;have U:=r.ev hx;simp only [Qe] at U;obtain ⟨l,Z,h4⟩:=U;have J:=r.ev O;simp only [Qe,QH] at J;obtain ⟨y,h5,h6⟩:=pQ hv h4;refine ⟨rfl,Ql r (v:=y) ?_ h6⟩;simp [execOp,Y,Instr.index,J,asIntOf,run_underlying ht,Z,hc,QU hi,h5]
    ·cases G
   ·cases G
  ·cases G
 ·cases G
def Fg (T:Nat→Option AV) (x:Operand) (i:Nat):Option Xe :=
 match Za T x with
 | some (.tup G)=>match G[i]? with | some v=>some (v,none,[]) | none=>none
 | _=>none
theorem fM (r:Q6 φ M0 N D T h a w) (O:o.op=.extract x i) (G:Fg T x i=some u):u.2.1=none∧Yield P o φ M0 h a w u.1 h:=by
 unfold Fg at G;split at G
 ·rename_i vs hx;split at G
  ·rename_i v U;simp only [QN] at G;subst G;have J:=r.ev hx;simp only [Qe] at J;obtain ⟨l,h3,Y⟩:=J;obtain ⟨y,Z,h6⟩:=Un Y U;refine ⟨rfl,Ql r (v:=y) ?_ h6⟩;simp [execOp,O,Instr.extract,h3,Z]
  ·cases G
 ·cases G
def Sj (T:Nat→Option AV):List Operand→Option (List AV)
 | []=>some []
 | x :: xs=>match Za T x,Sj T xs with | some v,some G=>some (v :: G) | _,_=>none
theorem Fh (r:Q6 φ M0 N D T h a w):∀ {xs:List Operand} {J:List AV},Sj T xs=some J→Qi φ h w (MM φ h M0) J (xs.map a.eval)
 | [],J,G=>by simp only [Sj,QN] at G; subst G; simp [Qi]
 | x :: xs,J,G=>by
  simp only [Sj] at G;split at G
  ·rename_i v Y U O;simp only [QN] at G;subst G;simp only [List.map_cons,Qi];exact ⟨_,_,rfl,r.ev U,Fh r O⟩
  ·cases G
def Rk (T:Nat→Option AV) (f:Fn) (first captured:Array Operand):Option Xe :=
 match Sj T first.toList,Sj T captured.toList with
 | some l,some m=>some (.fn f l m,none,[])
 | _,_=>none
theorem jR (r:Q6 φ M0 N D T h a w) {f:Fn} {first captured:Array Operand} (O:o.op=.makeFunc f first captured) (G:Rk T f first captured=some u):u.2.1=none∧Yield P o φ M0 h a w u.1 h:=by
 unfold Rk at G;split at G
 ·rename_i l m U Y;simp only [QN] at G;subst G;refine ⟨rfl,Ql r (v:=.func f (first.map a.eval) (captured.map a.eval)) ?_ ?_⟩
  ·simp [execOp,O,Instr.makeFunc]
  ·simp only [Qe];refine ⟨first.toList.map a.eval,captured.toList.map a.eval,?_,Fh r U,Fh r Y⟩;have J:∀ z:Array Operand,z.map a.eval=(z.toList.map a.eval).toArray:=fun z=>by apply Array.ext'; simp
   rw [J first,J captured]
 ·cases G
def WZ (P:Program) (T:Nat→Option AV) (t:TypeId) (x:Operand):Option Xe :=
 match P.underlying t,Za T x with
 | some (.interface _),_=>none
 | some _,some v=>some (.ifc t v,none,[])
 | _,_=>none
theorem Sl (r:Q6 φ M0 N D T h a w) (O:o.op=.makeInterface t x) (G:WZ P T t x=some u):u.2.1=none∧Yield P o φ M0 h a w u.1 h:=by
 unfold WZ at G;split at G
 ·cases G
 ·rename_i d v hne U Z;simp only [QN] at G;subst G;refine ⟨rfl,Ql r (v:=.iface t (a.eval x)) ?_ ?_⟩
  ·have Y:∀ J,d ≠ .interface J:=fun J e=>hne J e
   cases d <;> first | (exact absurd rfl (Y _)) | simp [execOp,O,Instr.makeInterface,run_underlying U]
  ·simp only [Qe]; exact ⟨_,rfl,r.ev Z⟩
 ·cases G
def U7 (P:Program) (T:Nat→Option AV) (x:Operand) (asserted:TypeId) (ok:Bool):Option Xe :=
 match P.underlying asserted,Za T x with
 | some (.interface _),_=>none
 | some _,some (.ifc t v) =>
  if t=asserted then some (if ok then .tup [v, .p (.val (.bool true))] else v,none,[])
  else if ok then (match (P.info? asserted).bind (·.zero) with | some z=>some (.tup [zu z, .p (.val (.bool false))],none,[]) | none=>none)
  else none
 | _,_=>none
theorem zA (r:Q6 φ M0 N D T h a w) {xt asserted:TypeId} (Y:o.op=.typeAssert x xt asserted ok) (G:U7 P T x asserted ok=some u):u.2.1=none∧Yield P o φ M0 h a w u.1 h:=by
 unfold U7 at G;split at G
 ·cases G
 ·rename_i d t v hne ht hx;have hd:∀ ms,d ≠ .interface ms:=fun ms e=>hne ms e
  have h2:=r.ev hx;simp only [Qe] at h2;obtain ⟨y,Z,h4⟩:=h2;split at G
  ·rename_i O;simp only [QN] at G;subst G;cases ok
   ·refine ⟨rfl,Ql r (v:=y) ?_ h4⟩;cases d <;> first | (exact absurd rfl (hd _)) | simp [execOp,Y,Instr.typeAssert,run_underlying ht,Z,O]
   ·refine ⟨rfl,Ql r (v:=.tuple #[y, .bool true]) ?_ ?_⟩
    ·cases d <;> first | (exact absurd rfl (hd _)) | simp [execOp,Y,Instr.typeAssert,run_underlying ht,Z,O]
    ·simp only [Qe,if_true];exact ⟨[y, .bool true],rfl,by simp [Qi,h4,Qe,QH]⟩
  ·rename_i J;split at G
   ·rename_i hok;split at G
    ·rename_i z U;simp only [QN] at G;subst G;simp only [Option.bind_eq_some_iff] at U;obtain ⟨i,hi,U⟩:=U;refine ⟨rfl,Ql r (v:=.tuple #[z, .bool false]) ?_ ?_⟩
     ·cases d <;> first | (exact absurd rfl (hd _)) | simp [execOp,Y,Instr.typeAssert,run_underlying ht,Z,J,hok,zeroValue,typeInfo,hi,U]
     ·simp only [Qe];exact ⟨[z, .bool false],rfl,by simp [Qi,V9,Qe,QH]⟩
    ·cases G
   ·cases G
 ·cases G
def Uu (T:Nat→Option AV) (x:Operand):Option Xe :=
 match Za T x with
 | some (.ptr b off)=>some (.ptr b off,none,[])
 | some (.eptr cs)=>some (.eptr cs,none,[])
 | some (.fn (.func f) l m)=>some (.fn (.func f) l m,none,[])
 | _=>none
theorem jS (r:Q6 φ M0 N D T h a w) (U:o.op=.nilCheck x) (J:Uu T x=some u):u.2.1=none∧Yield P o φ M0 h a w u.1 h:=by
 unfold Uu at J;split at J
 ·rename_i b off O;simp only [QN] at J;subst J;have G:=r.ev O;refine ⟨rfl,Ql r (v:=a.eval x) ?_ G⟩;simp only [Qe] at G;simp [execOp,U,G.1]
 ·rename_i cs O;simp only [QN] at J;subst J;have G:=r.ev O;refine ⟨rfl,Ql r (v:=a.eval x) ?_ G⟩;simp only [Qe] at G;obtain ⟨rr,Z,Y,_⟩:=G;simp [execOp,U,Y]
 ·rename_i f l m O;simp only [QN] at J;subst J;have G:=r.ev O;refine ⟨rfl,Ql r (v:=a.eval x) ?_ G⟩;simp only [Qe] at G;obtain ⟨l',m',Y,_⟩:=G;simp [execOp,U,Y]
 ·cases J
def iI (P:Program) (T:Nat→Option AV) (t:TypeId) (x:Operand):Option Xe :=
 match P.underlying t,Za T x with
 | some (.slice _),some v=>match elems v with | some (_,es)=>some (.p (.val (.int .i64 es.length)),none,[]) | none=>none
 | _,_=>none
theorem QfA (r:Q6 φ M0 N D T h a w) (U:o.op=.call ⟨.builtin .len,#[x],#[t]⟩) (G:iI P T t x=some u):u.2.1=none∧Yield P o φ M0 h a w u.1 h:=by
 unfold iI at G;split at G
 ·rename_i e v Z hx;split at G
  ·rename_i S es O;simp only [QN] at G;subst G;have Y:=BH O (r.ev hx);simp only [QH] at Y;refine ⟨rfl,Ql r (v:=.int .i64 es.length) ?_ (by simp [Qe,QH])⟩;rcases Y with ⟨rr,oo,cap,J,aa⟩ | ⟨rfl,q,cap,J⟩
   ·simp [execOp,U,resolve,invoke,builtin,Builtin.len_,run_underlying Z,J,goInt]
   ·simp [execOp,U,resolve,invoke,builtin,Builtin.len_,run_underlying Z,J,goInt]
  ·cases G
 ·cases G
end
section
variable {P:Program} {o:Oper} {φ:Nat→Nat} {M0:Zn} {N:Nat} {D:DB} {T:Nat→Option AV} {h:QG} {a:Act} {w:World}
def PD (place:Nat→Option (Nat × Nat)) (cells:List AV):List (Nat × AV)→Option (List AV)
 | []=>some cells
 | (i,v) :: rest =>
  match place i,cellsOf v with
  | some (off,size),some G=>if G.length=size∧off+size≤cells.length then PD place (cells.take off++G++cells.drop (off+size)) rest else none
  | _,_=>none
theorem PE:∀ (G:List Value) (k off:Nat) (cs:Array Value),off+k+G.length≤cs.size →
  ((G.zipIdx k).foldl (fun (cs:Array Value) (p:Value × Nat)=>cs.setIfInBounds (off+p.2) p.1) cs).toList=cs.toList.take (off+k)++G++cs.toList.drop (off+k+G.length)
 | [],k,off,cs,_=>by simp
 | v :: G,k,off,cs,J=>by
  simp only [List.zipIdx_cons,List.foldl_cons];rw [PE G (k+1) off _ (by simp at J ⊢; omega)];have e:=list_seg_step cs.toList (off+k) v G (by simp at J ⊢; omega);simp only [Array.toList_setIfInBounds,Y9];rw [show off+(k+1)=off+k+1 from by omega];simpa using e
theorem PG {M:Zn} {placeC G:Nat→Option (Nat × Nat)} (hp:∀ i x,G i=some x→placeC i=some x) :
  ∀ (ps:List (Nat × AV)) (U:List (Nat × Value)) (cs:List AV) (c:Array Value) (rs:List AV),(ps.map (·.1)=U.map (·.1))→Qi φ h w M (ps.map (·.2)) (U.map (·.2)) →
   Qi φ h w M cs c.toList→PD G cs ps=some rs→∃ c',Instr.fill placeC c U=some c'∧Qi φ h w M rs c'.toList
 | [],U,cs,c,rs,O,_,h3,J=>by
  have:U=[]:=by simpa using O.symm
  subst this;simp only [PD,QN] at J;subst J;exact ⟨c,rfl,h3⟩
 | (i,v) :: ps,[],cs,c,rs,O,_,_,_=>by simp at O
 | (i,v) :: ps,(j,y) :: U,cs,c,rs,O,h2,h3,J=>by
  simp only [List.map_cons,List.cons.injEq] at O;obtain ⟨rfl,O⟩:=O;simp only [List.map_cons,Qi] at h2;obtain ⟨y',ae,h4,h5,h6⟩:=h2;simp only [List.cons.injEq] at h4;obtain ⟨rfl,rfl⟩:=h4;simp only [PD] at J;split at J
  ·rename_i off size vs ac ab;split at J
   ·rename_i hc;obtain ⟨h7,_,_⟩:=Vb ab h5;have aa:=Zp h7;have ad:=Zp h3;simp only [Array.length_toList] at aa ad;have Y:=PE y.cells.toList 0 off c (by simp; omega);simp only [Nat.add_zero] at Y
    have Z:Qi φ h w M (cs.take off++vs++cs.drop (off+size)) ((y.cells.toList.zipIdx 0).foldl (fun (cs:Array Value) (p:Value × Nat)=>cs.setIfInBounds (off+p.2) p.1) c).toList:=by
     rw [Y];have hs:size=y.cells.toList.length:=by simp; omega
     rw [hs];exact Zi (Zi (Uo _ h3) h7) (Ur _ h3)
    obtain ⟨c',h8,h9⟩:=PG hp ps U _ _ rs O h6 Z J;refine ⟨c',?_,h9⟩
    have e1:(y.cells.zipIdx.foldl (fun (cs:Array Value) (p:Value × Nat)=>cs.setIfInBounds (off+p.2) p.1) c)=((y.cells.toList.zipIdx 0).foldl (fun (cs:Array Value) (p:Value × Nat)=>cs.setIfInBounds (off+p.2) p.1) c):=by
     rw [← Array.foldl_toList];simp
    simp only [Instr.fill,hp _ _ ac];have c1:¬ (y.cells.size ≠ size):=by omega
    have c2:¬ (off+y.cells.size > c.size):=by omega
    simp only [c1,c2,decide_false,Bool.or_self,Bool.false_eq_true,if_false];rw [← h8,← e1]
   ·cases J
  ·cases J
def OE (T:Nat→Option AV):List (Nat × Operand)→Option (List (Nat × AV))
 | []=>some []
 | (i,x) :: xs=>match Za T x,OE T xs with | some v,some G=>some ((i,v) :: G) | _,_=>none
theorem Cc (r:Q6 φ M0 N D T h a w):∀ {xs:List (Nat × Operand)} {J:List (Nat × AV)},OE T xs=some J →
  J.map (·.1)=(xs.map fun (i,x)=>(i,a.eval x)).map (·.1)∧Qi φ h w (MM φ h M0) (J.map (·.2)) ((xs.map fun (i,x)=>(i,a.eval x)).map (·.2))
 | [],J,G=>by simp only [OE,QN] at G; subst G; simp [Qi]
 | (i,x) :: xs,J,G=>by
  simp only [OE] at G;split at G
  ·rename_i v U h1 Z;simp only [QN] at G;subst G;obtain ⟨O,Y⟩:=Cc r Z;refine ⟨by simp only [List.map_cons,O],?_⟩;simp only [List.map_cons,Qi];exact ⟨_,_,rfl,r.ev h1,Y⟩
  ·cases G
def vk (P:Program) (fields:Array Field) (i:Nat):Option (Nat × Nat) :=
 match fields[i]? with
 | some f=>match P.info? f.type with | some t=>some (f.offset,t.size) | none=>none
 | none=>none
theorem jT {α β:Type} (f:α→Sem β) (g:α→β):∀ (l:List α),(∀ x ∈ l,(f x).run P w=.ok (g x) w)→(l.mapM f).run P w=.ok (l.map g) w
 | [],_=>by simp
 | x :: l,G=>by
  simp only [List.mapM_cons,Sem.run_bind,G x zq,Result.andThen_ok,jT f g l (fun y J=>G y (by simp [J])),Sem.run_pure,List.map_cons]
def OG (P:Program) (T:Nat→Option AV) (t:TypeId) (parts:Array (Nat × Operand)):Option Xe :=
 match P.info? t with
 | some i =>
  match i.zero,P.underlying t,OE T parts.toList with
  | some z,some (.struct fields),some ps =>
   if fields.toList.all (fun f=>(P.info? f.type).isSome) then
    match cellsOf (zu z) with
    | some cs=>match PD (vk P fields) cs ps with | some rs=>some (.agg rs,none,[]) | none=>none
    | none=>none
   else none
  | some z,some (.array _ e),some ps =>
   match P.info? e,cellsOf (zu z) with
   | some j,some cs=>match PD (fun i=>some (i * j.size,j.size)) cs ps with | some rs=>some (.agg rs,none,[]) | none=>none
   | _,_=>none
  | _,_,_=>none
 | none=>none
theorem iJ (r:Q6 φ M0 N D T h a w) (ho:o.op=.build t parts) (G:OG P T t parts=some u):u.2.1=none∧Yield P o φ M0 h a w u.1 h:=by
 unfold OG at G;split at G
 ·rename_i i hi;split at G
  ·rename_i z fields ps hz ht O;split at G
   ·rename_i aa;split at G
    ·rename_i cs Z;split at G
     ·rename_i rs U;simp only [QN] at G;subst G;obtain ⟨h1,h2⟩:=Cc r O;obtain ⟨h3,_,_⟩:=Vb Z (V9 (φ:=φ) (h:=h) (w:=w) (M:=MM φ h M0) z)
      let g:Field→Nat × Nat:=fun f=>(f.offset,((P.info? f.type).map (·.size)).getD 0)
      have ab:∀ i x,vk P fields i=some x→(fun k=>((fields.toList.map g).toArray)[k]?) i=some x:=by
       intro k x Y;unfold vk at Y;split at Y
       ·rename_i f hf;split at Y
        ·rename_i ti J;simp only [QN] at Y;subst Y;have:fields.toList[k]?=some f:=by simpa using hf
         simp [g,this,J]
        ·cases Y
       ·cases Y
      obtain ⟨c',h4,h5⟩:=PG ab ps _ cs z.cells rs h1 h2 h3 U;refine ⟨rfl,Ql r (v:=.agg c') ?_ ?_⟩
      ·have hm:(fields.mapM fun (f:Field)=>(do pure (f.offset,← sizeOf f.type):Sem (Nat × Nat))).run P w=.ok (fields.toList.map g).toArray w:=by
        rw [Array.mapM_eq_mapM_toList];simp only [Sem.run_map]
        rw [jT _ g fields.toList (fun f hf=>by
         have hs:=List.all_eq_true.1 aa f hf;obtain ⟨ti,J⟩:=Td.1 hs;simp [QU J,g,J])]
        rfl
       have hq:(parts.map fun (x:Nat × Operand)=>(x.1,a.eval x.2)).toList=parts.toList.map fun (x:Nat × Operand)=>(x.1,a.eval x.2):=by simp
       simp only [execOp,ho,Instr.build,Sem.run_bind,zeroValue,typeInfo,program,Sem.run,hi,hz,Result.andThen_ok,Sem.run_pure,run_underlying ht,hm];simp only [hq,h4,Sem.run_pure,Result.andThen_ok]
      ·simp only [Qe]; exact ⟨c'.toList,by simp,h5⟩
     ·cases G
    ·cases G
   ·cases G
  ·rename_i z n e ps hz ht O;split at G
   ·rename_i j cs hj Z;split at G
    ·rename_i rs U;simp only [QN] at G;subst G;obtain ⟨h1,h2⟩:=Cc r O;obtain ⟨h3,_,_⟩:=Vb Z (V9 (φ:=φ) (h:=h) (w:=w) (M:=MM φ h M0) z);obtain ⟨c',h4,h5⟩:=PG (fun i x hx=>hx) ps _ cs z.cells rs h1 h2 h3 U;refine ⟨rfl,Ql r (v:=.agg c') ?_ ?_⟩
     ·have hq:(parts.map fun (x:Nat × Operand)=>(x.1,a.eval x.2)).toList=parts.toList.map fun (x:Nat × Operand)=>(x.1,a.eval x.2):=by simp
      simp only [execOp,ho,Instr.build,Sem.run_bind,zeroValue,typeInfo,program,Sem.run,hi,hz,Result.andThen_ok,Sem.run_pure,run_underlying ht,QU hj];simp only [hq,h4,Sem.run_pure,Result.andThen_ok]
     ·simp only [Qe]; exact ⟨c'.toList,by simp,h5⟩
    ·cases G
   ·cases G
  ·cases G
 ·cases G
def known (T:Nat→Option AV) (x:Operand):Option Value:=match Za T x with | some v=>Sg v | none=>none
def allKnown (T:Nat→Option AV):List Operand→Bool
 | []=>true
 | x :: xs=>(known T x).isSome&&allKnown T xs
theorem rC (r:Q6 φ M0 N D T h a w) (G:known T x=some v):a.eval x=v:=by
 unfold known at G;split at G
 ·rename_i y J; exact BG.1 _ _ _ (r.ev J) G
 ·cases G
theorem PH:∀ {l:List Operand} {x:Operand},allKnown T l=true→x ∈ l→(known T x).isSome=true
 | y :: l,x,G,J=>by
  simp only [allKnown,Ze] at G;rcases List.mem_cons.1 J with rfl | J
  ·exact G.1
  ·exact PH G.2 J
def Xw:Op→Bool | .select ..=>false | _=>true
def Gm (P:Program) (T:Nat→Option AV) (o:Oper):Option Xe :=
 if allKnown T o.op.operands.toList&&Xw o.op then
  match Yj P (execOp (fun x=>(known T x).getD undef) o) with
  | some (.value v)=>some (zu v,none,[])
  | _=>none
 else none
theorem pure_ok (r:Q6 φ M0 N D T h a w) (J:Gm P T o=some u):u.2.1=none∧Yield P o φ M0 h a w u.1 h:=by
 unfold Gm at J;split at J
 ·rename_i O;simp only [Ze] at O;split at J
  ·rename_i v Y;simp only [QN] at J;subst J;refine ⟨rfl,Ql r (v:=v) ?_ (V9 v)⟩
   have G:execOp a.eval o=execOp (fun x=>(known T x).getD undef) o:=by
    refine execOp_congr o (fun cs b e=>by rw [e] at O; simp [Xw] at O) fun x Z=>?_
    have hs:=PH O.1 (x:=x) (by simpa using Z);obtain ⟨y,U⟩:=Td.1 hs;rw [U,rC r U];rfl
   rw [G];exact zy Y w
  ·cases J
 ·cases J
def PI (k:IntKind) (x y:Int):Int:=k.wrap (BitVec.ofInt k.bits x &&& BitVec.ofInt k.bits y).toNat
def bOr (k:IntKind) (x y:Int):Int:=k.wrap (BitVec.ofInt k.bits x ||| BitVec.ofInt k.bits y).toNat
def Qcn (k:IntKind) (x y:Int):Int:=k.wrap (BitVec.ofInt k.bits x ^^^ BitVec.ofInt k.bits y).toNat
def vo (k:IntKind) (x y:Int):Int:=k.wrap (BitVec.ofInt k.bits x &&& ~~~ BitVec.ofInt k.bits y).toNat
def vv (k:IntKind) (x y:Int):Int:=k.wrap (x * 2 ^ (min y.toNat k.bits))
def QfB (k:IntKind) (x y:Int):Int:=x.fdiv (2 ^ (min y.toNat k.bits))
def Qp (x y:Int):Bool:=decide (x < y)
def leI (x y:Int):Bool:=decide (x≤y)
def Qr (x y:Int):Bool:=x == y
def Qt (x y:List UInt8):Bool:=x == y
def opq (b:Bool):Bool:=b
theorem OH {x y:Int} (h:x < y):Qp x y=true:=by simp [Qp,h]
theorem jU {x y:Int} (h:¬ x < y):Qp x y=false:=by simp only [Qp,decide_eq_false_iff_not]; exact h
theorem jV {x y:Int} (h:x=y):Qr x y=true:=by simp [Qr,h]
def Nq (op:BinOp) (k:IntKind) (x y:Int):Option Value :=
 match op with
 | .add=>some (.int k (k.wrap (x+y)))
 | .sub=>some (.int k (k.wrap (x - y)))
 | .mul=>some (.int k (k.wrap (x * y)))
 | .quo=>if y=0 then none else some (.int k (k.wrap (x.tdiv y)))
 | .rem=>if y=0 then none else some (.int k (x.tmod y))
 | .and=>some (.int k (PI k x y))
 | .or=>some (.int k (bOr k x y))
 | .xor=>some (.int k (Qcn k x y))
 | .andNot=>some (.int k (vo k x y))
 | .eql=>some (.bool (Qr x y))
 | .neq=>some (.bool (!Qr x y))
 | .lss=>some (.bool (Qp x y))
 | .leq=>some (.bool (leI x y))
 | .gtr=>some (.bool (Qp y x))
 | .geq=>some (.bool (leI y x))
 | _=>none
def PK (op:BinOp) (k:IntKind) (x y:Int):Option Value :=
 if y < 0 then none else
 match op with
 | .shl=>some (.int k (vv k x y))
 | .shr=>some (.int k (QfB k x y))
 | _=>none
def JO (s:ByteArray):List UInt8:=s.data.toList
def JI (l:List UInt8):ByteArray:=⟨l.toArray⟩
theorem Tv (l:List UInt8):JO (JI l)=l:=by simp [JO,JI]
theorem vw (s:ByteArray):JI (JO s)=s:=by simp [JO,JI]
theorem fO (s:ByteArray):s.toList=JO s:=by rw [ByteArray.toList_eq]; rfl
theorem fP (x y:ByteArray):x++y=JI (JO x++JO y):=by
 apply ByteArray.ext;simp [JI,JO,ByteArray.data_append]
def vz (op:BinOp) (x y:ByteArray):Option Value :=
 match op with
 | .add=>if (JO x).length+(JO y).length≤9223372036854775807 then some (.string (JI (JO x++JO y))) else none
 | .eql=>some (.bool (Qt (JO x) (JO y)))
 | .neq=>some (.bool (!Qt (JO x) (JO y)))
 | .lss=>some (.bool (Op.bytesLess (JO x) (JO y)))
 | .leq=>some (.bool (Op.bytesLess (JO x) (JO y)||JO x == JO y))
 | .gtr=>some (.bool (!(Op.bytesLess (JO x) (JO y)||JO x == JO y)))
 | .geq=>some (.bool (!Op.bytesLess (JO x) (JO y)))
 | _=>none
def Gu:BinOp→Bool | .shl | .shr=>true | _=>false
def Sm (T:Nat→Option AV) (op:BinOp) (x y:Operand):Option Xe :=
 match Za T x,Za T y with
 | some (.p (.val (.int k a))),some (.p (.val (.int k' b))) =>
  if Gu op then (match PK op k a b with | some v=>some (.p (.val v),none,[]) | none=>none)
  else if k=k' then (match Nq op k a b with | some v=>some (.p (.val v),none,[]) | none=>none) else none
 | some (.p (.val (.string a))),some (.p (.val (.string b)))=>match vz op a b with | some v=>some (.p (.val v),none,[]) | none=>none
 | _,_=>none
theorem QfC (r:Q6 φ M0 N D T h a w) (Y:o.op=.binOp op tx x y ty) (J:Sm T op x y=some u):u.2.1=none∧Yield P o φ M0 h a w u.1 h:=by
 unfold Sm at J;split at J
 ·rename_i k n k' m hx hy;have U:=r.ev hx;have O:=r.ev hy;simp only [Qe,QH] at U O;split at J
  ·rename_i hs;split at J
   ·rename_i v G;simp only [QN] at J;subst J;refine ⟨rfl,Ql r (v:=v) ?_ (by simp [Qe,QH])⟩;unfold PK at G;split at G
    ·cases G
    ·rename_i Z;cases op <;> simp [Gu] at hs <;> simp only [QN] at G <;> subst G <;> simp [execOp,Y,U,O,eqGuard,binOp,Op.shift,Z,vv,QfB]
   ·cases J
  ·rename_i hs;split at J
   ·rename_i hk;subst hk;split at J
    ·rename_i v G;simp only [QN] at J;subst J;refine ⟨rfl,Ql r (v:=v) ?_ (by simp [Qe,QH])⟩;cases op <;> first | (simp [Gu] at hs; done) | (simp only [Nq] at G; first | (cases G; done) | (simp only [QN] at G; subst G; simp [execOp,Y,U,O,eqGuard,binOp,Op.intArith,Op.intBits,Op.intCmp,PI,bOr,Qcn,vo,Qp,leI,Qr,bne]; done) | (by_cases hz:m=0 <;> simp only [hz,if_true,if_false] at G <;> first | (cases G; done) | (simp only [QN] at G; subst G; simp [execOp,Y,U,O,eqGuard,binOp,Op.intDiv,hz])))
    ·cases J
   ·cases J
 ·rename_i n m hx hy;have U:=r.ev hx;have O:=r.ev hy;simp only [Qe,QH] at U O;split at J
  ·rename_i v G;simp only [QN] at J;subst J;refine ⟨rfl,Ql r (v:=v) ?_ (by simp [Qe,QH])⟩;cases op <;> simp only [vz] at G <;> first | (cases G; done) | (simp only [QN] at G; subst G; simp [execOp,Y,U,O,eqGuard,binOp,Op.stringOp,fO,Qt]; done) | skip
   split at G
   ·rename_i ab;simp only [QN] at G;subst G;have e1:n.size=(JO n).length:=rfl;have e2:m.size=(JO m).length:=rfl;have aa:¬ (((n.size+m.size:Nat):Int) > IntKind.i64.max):=by rw [e1,e2]; simp [IntKind.max,IntKind.signed,IntKind.bits]; omega
    simp only [execOp,Y,U,O,binOp,Op.stringOp,Sem.run_bind];rw [if_neg aa];simp [eqGuard,fP]
   ·cases G
  ·cases J
 ·cases J
def aUn (T:Nat→Option AV) (op:UnOp) (x:Operand):Option Xe :=
 match Za T x with
 | some (.p (.val (.bool b)))=>match op with | .not=>some (.p (.val (.bool (!b))),none,[]) | _=>none
 | some (.p (.val (.int k n)))=>match op with | .neg=>some (.p (.val (.int k (k.wrap (0 - n)))),none,[]) | _=>none
 | _=>none
theorem Qhj (r:Q6 φ M0 N D T h a w) {op:UnOp} (U:o.op=.unOp op tx x) (G:aUn T op x=some u):u.2.1=none∧Yield P o φ M0 h a w u.1 h:=by
 unfold aUn at G;split at G
 ·rename_i b O;have J:=r.ev O;simp only [Qe,QH] at J;split at G
  ·simp only [QN] at G;subst G;exact ⟨rfl,Ql r (v:=.bool (!b)) (by simp [execOp,U,J,Op.unary]) (by simp [Qe,QH])⟩
  ·cases G
 ·rename_i k n O;have J:=r.ev O;simp only [Qe,QH] at J;split at G
  ·simp only [QN] at G;subst G;exact ⟨rfl,Ql r (v:=.int k (k.wrap (0 - n))) (by simp [execOp,U,J,Op.unary,Op.intArith]) (by simp [Qe,QH])⟩
  ·cases G
 ·cases G
def jW (P:Program) (T:Nat→Option AV) (dst:TypeId) (src:TypeId) (x:Operand):Option Xe :=
 match P.underlying dst,P.underlying src,Za T x with
 | some (.int k),some _,some (.p (.val (.int _ n)))=>some (.p (.val (.int k (k.wrap n))),none,[])
 | _,_,_=>none
theorem Qcp (r:Q6 φ M0 N D T h a w) {src dst:TypeId} (O:o.op=.convert src dst x) (G:jW P T dst src x=some u):u.2.1=none∧Yield P o φ M0 h a w u.1 h:=by
 unfold jW at G;split at G
 ·rename_i k d k' n U hs Y;have J:=r.ev Y;simp only [Qe,QH] at J;simp only [QN] at G;subst G;refine ⟨rfl,Ql r (v:=.int k (k.wrap n)) ?_ (by simp [Qe,QH])⟩;simp [execOp,O,J,convert,run_underlying U,run_underlying hs,Conv.intToInt]
 ·cases G
end
section
variable {P:Program} {o:Oper} {φ:Nat→Nat} {M0:Zn} {N:Nat} {D:DB} {T:Nat→Option AV} {h:QG} {a:Act} {w:World}
theorem Fj {M:Zn} {r:Nat}:∀ (cs:List PV) (o:Nat),VE w M r o cs →
  ∃ l:List Value,l.length=cs.length∧(∀ j v,l[j]?=some v→w.cell? ⟨r,o+j,none⟩=some v)∧(∀ u ∈ l,u.oneCell'=true)∧(∀ (j:Nat) c v,cs[j]?=some c→l[j]?=some v→QH w M c v)
 | [],o,_=>⟨[],rfl,by simp,by simp,by simp⟩
 | c :: cs,o,J=>by
  simp only [VE] at J;obtain ⟨⟨v,Z,h2,O,U⟩,Y⟩:=J;obtain ⟨l,g1,g2,g3,g4⟩:=Fj cs (o+1) Y;refine ⟨v :: l,by simp [g1],?_,?_,?_⟩
  ·intro j u G;cases j with
   | zero=>simp at G; subst G; simpa using Z
   | succ j=>have:=g2 j u (by simpa using G); rwa [show o+1+j=o+(j+1) from by omega] at this
  ·intro u hu;rcases List.mem_cons.1 hu with rfl | hu
   ·exact O
   ·exact g3 u hu
  ·intro j c' u G hu;cases j with
   | zero=>simp at G hu; subst G hu; exact U
   | succ j=>exact g4 j c' u (by simpa using G) (by simpa using hu)
theorem Zj {S:Nat}:∀ {es:List (List PV)},(∀ e ∈ es,e.length=S)→es.flatten.length=es.length * S
 | [],_=>by simp
 | e :: es,G=>by
  simp only [List.flatten_cons,YY,Y9,Zj (es:=es) (fun x J=>G x (List.mem_cons_of_mem _ J)),G e zq,Nat.add_mul];omega
theorem JS {o:Nat} {cs:List PV} {l:List Value} (O:l.length=cs.length) (hc:∀ j v,l[j]?=some v→w'.cell? ⟨r,o+j,none⟩=some v)
  (U:∀ j,j < l.length→¬ M r (o+j)) (Z:∀ u ∈ l,u.oneCell'=true) (Y:∀ (j:Nat) c v,cs[j]?=some c→l[j]?=some v→QH w' M c v):VE w' M r o cs:=by
 rw [Rj];intro j c J;have hlt:j < l.length:=by rw [O]; exact (List.getElem?_eq_some_iff.1 J).1
 have G:l[j]?=some l[j]:=List.getElem?_eq_getElem hlt;exact ⟨l[j],hc j _ G,U j hlt,Z _ (List.getElem_mem hlt),Y j c _ J G⟩
theorem Ai {t:Nat} {S n':Nat} {c:Array Value} (ht:h t=some (.arr ty S n)) (hw:w.heap[φ t]?=some (.cells c ty (0,0))) (hn:n≤n') (ai:c'.size=c.size)
  (ae:∀ x,x < n * S→c'[x]?=c[x]?) (r:Zw φ h w M0) :
  QT φ h w φ (upd h t (.arr ty S n')) (w.setRow (φ t) c')∧VL φ h w φ (upd h t (.arr ty S n')) (w.setRow (φ t) c'):=by
 have G:∀ x,x ≠ φ t→(w.setRow (φ t) c').heap[x]?=w.heap[x]?:=fun x hx=>setRow_other w _ x c' hx
 have Y:(w.setRow (φ t) c').heap[φ t]?=some (.cells c' ty (0,0)):=setRow_heap w _ c c' ty _ hw;have hb:∀ b ty cs,h b=some (.box ty cs)→t ≠ b:=fun b ty cs hb e=>by rw [← e,ht] at hb; cases hb
 have ab:∀ t2 Vs U n2,h t2=some (.arr Vs U n2)→∃ n3,upd h t (.arr ty S n') t2=some (.arr Vs U n3)∧n2≤n3 ∧
   (n3=n2→AKept w (w.setRow (φ t) c') (φ t2) (φ t2) Vs):=by
  intro t2 Vs U n2 J;by_cases e:t=t2
  ·subst e;rw [ht] at J;cases J;refine ⟨n',by simp [upd],hn,fun _=>⟨fun h0=>(by rw [hw] at h0; cases h0), .inr ⟨rfl,fun c0 Z=>⟨c',Y,?_⟩⟩⟩⟩;rw [hw] at Z;cases Z;exact ai
  ·have hne:φ t2 ≠ φ t:=fun e2=>e (r.inj t2 t (by rw [J]; simp) (by rw [ht]; simp) e2).symm
   exact ⟨n2,by simp [upd,e,J],Nat.le_refl _,fun _=>Yi (rfl) (by rw [G _ hne])⟩
 have aa:∀ t2 Vs U O,h t2=some (.vec Vs U O)→∃ ac,upd h t (.arr ty S n') t2=some (.vec Vs U ac)∧O.length≤ac.length ∧
   (ac.length=O.length→φ t2=φ t2∧∀ c0,w.heap[φ t2]?=some (.cells c0 Vs (0,0))→∃ c1,(w.setRow (φ t) c').heap[φ t2]?=some (.cells c1 Vs (0,0))∧c1.size=c0.size):=by
  intro t2 Vs U n2 J;have e:¬ t=t2:=fun e=>by rw [← e,ht] at J; cases J
  have hne:φ t2 ≠ φ t:=fun e2=>e (r.inj t2 t (by rw [J]; simp) (by rw [ht]; simp) e2).symm
  exact ⟨n2,by simp [upd,e,J],Nat.le_refl _,fun _=>⟨rfl,fun c0 Z=>⟨c0,by rw [G _ hne]; exact Z,rfl⟩⟩⟩
 have af:∀ d k x,h d=some k→k.ob=some x→(∃ k',upd h t (.arr ty S n') d=some k'∧k'.ob=some x)∧φ d=φ d:=by
  intro d k x hd ho;have e:¬ t=d:=fun e=>by rw [← e,ht] at hd; cases hd; cases ho
  exact ⟨⟨k,by simp [upd,e,hd],ho⟩,rfl⟩
 refine ⟨⟨rfl,rfl,rfl,by simp,?_,?_,?_,?_,?_,fun t2 Vs U O _ J=>aa t2 Vs U O J,fun d k x _=>af d k x⟩,?_,ab,aa,af⟩
 ·intro x _ aj;exact G x (fun e=>aj t (by rw [ht]; simp) e.symm)
 ·intro x o _ hm;by_cases e:x=φ t
  ·subst e
   have:o < n * S:=by
    rcases Nat.lt_or_ge o (n * S) with hlt | ah
    ·exact hlt
    ·exact absurd ⟨t,_,ht,rfl,ah⟩ hm
   rw [ZU Y,ZU hw];exact ae o this
  ·simp [World.cell?,G x e]
 ·rintro x y _ ⟨d,q,h1,J,h3⟩;by_cases e:t=d
  ·subst e;have:q=.arr ty S n':=by simpa [upd] using h1.symm
   subst this;have h4:n * S≤n' * S:=Nat.mul_le_mul_right _ hn;exact ⟨t,_,ht,J,Nat.le_trans h4 h3⟩
  ·exact ⟨d,q,by simpa [upd,e] using h1,J,h3⟩
 ·intro d ad ds _ hd;exact ⟨⟨ds,by simp [upd,hb d _ _ hd,hd]⟩,rfl⟩
 ·intro t2 Vs U n2 _ J;exact ab t2 Vs U n2 J
 ·intro d ad ds hd;exact ⟨⟨ad,ds,by simp [upd,hb d _ _ hd,hd]⟩,rfl⟩
theorem Rl {t:Nat} {S n':Nat} {cap:Nat} (ht:h t=some (.arr ty S n)) (r:Zw φ h w M0)
  (E:QT φ h w φ' (upd h t (.arr ty S n')) w') (X:VL φ h w φ' (upd h t (.arr ty S n')) w')
  (J:∀ b,b ≠ t→φ' b=φ b) (U:φ' t=φ t∨φ' t=w.heap.size∧Clear φ h w 1) (ab:∀ d,h d ≠ none→d ≠ t→w'.heap[φ d]?=w.heap[φ d]?)
  (ae:w'.heap[φ' t]?=some (.cells c' ty (0,0))) (ad:c'.size=cap * S) (aa:n'≤cap) (ac:cap≤maxLen):Zw φ' (upd h t (.arr ty S n')) w' M0:=by
 have g:∀ d,upd h t (.arr ty S n') d ≠ none→h d ≠ none:=fun d O=>by
  by_cases e:t=d
  ·rw [← e,ht]; simp
  ·simpa [upd,e] using O
 refine ⟨?_,?_,?_,fun x y hx=>Nat.lt_of_lt_of_le (r.lt x y hx) E.size,r.gm.evol E⟩
 ·intro d e O he G;by_cases e1:d=t <;> by_cases Y:e=t
  ·rw [e1,Y]
  ·rw [e1,J e Y] at G;rcases U with Z | ⟨Z,hC⟩
   ·rw [Z] at G; rw [e1]; exact r.inj t e (by rw [ht]; simp) (g e he) G
   ·rcases hC e (g e he) with h4 | h4 <;> omega
  ·rw [Y,J d e1] at G;rcases U with Z | ⟨Z,hC⟩
   ·rw [Z] at G; rw [Y]; exact r.inj d t (g d O) (by rw [ht]; simp) G
   ·rcases hC d (g d O) with h4 | h4 <;> omega
  ·rw [J d e1,J e Y] at G; exact r.inj d e (g d O) (g e he) G
 ·intro d q O;by_cases e:t=d
  ·subst e;have:q=.arr ty S n':=by simpa [upd] using O.symm
   subst this;exact .inr ⟨c',cap,ae,ad,aa,ac⟩
  ·have h1:h d=some q:=by simpa [upd,e] using O
   rw [J d (fun Y=>e Y.symm)];exact ZI (E.keeps M0) X (ab d (by rw [h1]; simp) (fun Y=>e Y.symm)) (r.blk d q h1)
 ·intro d O o hm;by_cases e:d=t
  ·subst e;rcases U with Z | ⟨Z,_⟩
   ·rw [Z] at hm; exact r.fr d (g d O) o hm
   ·rw [Z] at hm; exact absurd (r.lt _ _ hm) zo
  ·rw [J d e] at hm; exact r.fr d (g d O) o hm
theorem Gv {ob:Obj} {t:Nat} {S n':Nat} (ht:h t=some (.arr ty S n)) (hn:n < n') (hh:w'.heap=w.heap.push ob) (ho:w'.os=w.os) (ah:w'.tape=w.tape) (hu:w'.output=w.output) (r:Zw φ h w M0) (hC:Clear φ h w 1) :
  QT φ h w (Qu φ t w.heap.size) (upd h t (.arr ty S n')) w'∧VL φ h w (Qu φ t w.heap.size) (upd h t (.arr ty S n')) w':=by
 have J:∀ x,x < w.heap.size→w'.heap[x]?=w.heap[x]?:=fun x hx=>by rw [hh,Array.getElem?_push,if_neg zo]
 have hb:∀ b ty cs,h b=some (.box ty cs)→¬ t=b:=fun b ty cs hb e=>by rw [← e,ht] at hb; cases hb
 have ab:∀ t2 Vs U Z,h t2=some (.arr Vs U Z)→∃ n3,upd h t (.arr ty S n') t2=some (.arr Vs U n3)∧Z≤n3 ∧
   (n3=Z→AKept w w' (φ t2) (Qu φ t w.heap.size t2) Vs):=by
  intro t2 Vs U Z G;by_cases e:t=t2
  ·subst e;rw [ht] at G;cases G;exact ⟨n',by simp [upd],by omega,fun e=>absurd e zo⟩
  ·exact ⟨Z,by simp [upd,e,G],Nat.le_refl _,fun _=>Yi (by simp [Qu,e]) (by rw [hC.lt r (by rw [hh]; simp) J (by rw [G]; simp)])⟩
 have aa:∀ t2 Vs U O,h t2=some (.vec Vs U O)→∃ ac,upd h t (.arr ty S n') t2=some (.vec Vs U ac)∧O.length≤ac.length ∧
   (ac.length=O.length→Qu φ t w.heap.size t2=φ t2∧∀ c0,w.heap[φ t2]?=some (.cells c0 Vs (0,0))→∃ c1,w'.heap[φ t2]?=some (.cells c1 Vs (0,0))∧c1.size=c0.size):=by
  intro t2 Vs U Z G;have e:¬ t=t2:=fun e=>by rw [← e,ht] at G; cases G
  exact ⟨Z,by simp [upd,e,G],Nat.le_refl _,fun _=>⟨by simp [Qu,e],fun c0 af=>⟨c0,by rw [hC.lt r (by rw [hh]; simp) J (by rw [G]; simp)]; exact af,rfl⟩⟩⟩
 have ae:∀ d k x,h d=some k→k.ob=some x→(∃ k',upd h t (.arr ty S n') d=some k'∧k'.ob=some x)∧Qu φ t w.heap.size d=φ d:=by
  intro d k x Y ho;have e:¬ t=d:=fun e=>by rw [← e,ht] at Y; cases Y; cases ho
  exact ⟨⟨k,by simp [upd,e,Y],ho⟩,by simp [Qu,e]⟩
 refine ⟨⟨ho,ah,hu,by rw [hh]; simp,fun x hx _=>J x hx,fun x o hx _=>by simp [World.cell?,J x hx],?_,?_,?_,fun t2 Vs U O _ G=>aa t2 Vs U O G,fun d k x _=>ae d k x⟩,?_,ab,aa,ae⟩
 ·rintro x y hx ⟨d,q,h1,G,h3⟩;by_cases e:t=d
  ·simp only [Qu,e,if_true] at G; omega
  ·exact ⟨d,q,by simpa [upd,e] using h1,by simpa [Qu,e] using G,h3⟩
 ·intro d ad ds _ Y;have:=hb d _ _ Y;exact ⟨⟨ds,by simp [upd,this,Y]⟩,by simp [Qu,this]⟩
 ·intro t2 Vs U Z _ G;exact ab t2 Vs U Z G
 ·intro d ad ds Y;have:=hb d _ _ Y;exact ⟨⟨ad,ds,by simp [upd,this,Y]⟩,by simp [Qu,this]⟩
def isNil:AV→Bool
 | .p (.val (.slice none 0 0))=>true
 | _=>false
def Nr (S:Nat) (x:AV):Option (List (List PV)) :=
 if isNil x then some [] else match elems x with | some (G,es)=>if G=S then some es else none | none=>none
theorem OI {x:AV} (G:isNil x=true):x=.p (.val (.slice none 0 0)):=by
 unfold isNil at G;split at G
 ·rfl
 ·cases G
theorem OJ {S:Nat} {x:AV} (G:Nr S x=some es) (J:Qe φ h w M x v):QH w M (.sl S es) v:=by
 unfold Nr at G;split at G
 ·rename_i U;simp only [QN] at G;subst G;rw [OI U] at J;simp only [Qe,QH] at J;simp only [QH];exact .inr ⟨trivial,none,0,J⟩
 ·split at G
  ·rename_i Y es' O;split at G
   ·rename_i hS;simp only [QN] at G;subst G hS;exact BH O J
   ·cases G
  ·cases G
def F8 (P:Program) (T:Nat→Option AV) (h:QG) (dst:Option Tmp) (t:TypeId) (s x:Operand):Option Xe :=
  match P.underlying t,Za T s,Za T x with
  | some (.slice e),some sv,some xv =>
    match P.info? e with
    | some i =>
      match i.zero,Nr i.size xv with
      | some z,some es' =>
        if z.cells.size=i.size∧0 < i.size then
          if isNil sv then
            if es'=[] then some (sv,none,[]) else
            (match dst with
             | some d=>if h d=none∧es'.length * i.bytes≤140737488355328∧es'.length≤140737488355328 then some (.tsl i.size es' d,some (d, .arr e i.size es'.length),[d]) else none
             | none=>none)
          else match sv with
            | .tsl S es tk =>
              (match h tk with
               | some (.arr ty G n) =>
                 if es'=[] then some (.tsl S es tk,some (tk, .arr ty G n),[tk]) else
                 if ty=e∧G=S∧S=i.size∧n=es.length∧(es.length+es'.length) * i.bytes≤140737488355328∧es.length+es'.length≤140737488355328 then
                   some (.tsl S (es++es') tk,some (tk, .arr e S (es.length+es'.length)),[tk]) else none
               | _=>none)
            | _=>none
        else none
      | _,_=>none
    | none=>none
  | _,_,_=>none
end
section
variable {P:Program} {o:Oper} {φ:Nat→Nat} {M0:Zn} {N:Nat} {D:DB} {T:Nat→Option AV} {h:QG} {a:Act} {w:World}
theorem Z5 {s:Operand} (J:o.op=.call ⟨.builtin .append,#[s,x],#[t,t]⟩)
  (G:(Builtin.append_ #[t,t] o.type #[a.eval s,a.eval x]).run P w=.ok v w'):(execOp a.eval o).run P w=.ok (.value v) w':=by
 simp [execOp,J,resolve,invoke,builtin,G]
theorem Yo {i:TypeInfo} (J:P.underlying t=some (.slice e)) (hi:P.info? e=some i) (b q:Option Addr) (len cap c:Nat) (G:len≤cap) :
  (Builtin.append_ #[t,t] ty #[.slice b len cap, .slice q 0 c]).run P w=.ok (.slice b len cap) w:=by
 cases q <;> cases b <;> simp [Builtin.append_,run_underlying J,sizeOf,typeInfo,hi,Builtin.lenOf,G,Builtin.firstCells,loadCells,loadCellsFrom,storeCells]
theorem Rm {S:Nat} (r:Zw φ h w M0) (Z:Clear φ h w 1) (hd:h' d=some (.arr ty S n)) (O:φ' d=w.heap.size)
  (G:∀ b k,b ≠ d→h' b=some k→h b=some k∧φ' b=φ b) {x:Nat} (hx:x < n * S):¬ MM φ' h' M0 w.heap.size x:=by
 rintro (⟨b,k,J,h2,U⟩ | J)
 ·by_cases e:b=d
  ·subst e;rw [hd] at J;cases J;simp only at U;omega
  ·obtain ⟨h4,h5⟩:=G b k e J;rcases Z b (by rw [h4]; simp) with Y | Y <;> omega
 ·exact absurd (r.lt _ _ J) zo
theorem Xh {S:Nat} (Z:QH w M (.sl S es) v) (hne:es ≠ []) :
  ∃ (J G cap:Nat) (l:List Value),v=.slice (some ⟨J,G,none⟩) es.length cap∧es.length≤cap∧(∀ e ∈ es,e.length=S)∧VF w M S J G es∧l.length=es.length * S ∧
   (∀ j u,l[j]?=some u→w.cell? ⟨J,G+j,none⟩=some u)∧(∀ u ∈ l,u.oneCell'=true)∧(∀ (j:Nat) c u,es.flatten[j]?=some c→l[j]?=some u→QH w M c u):=by
 simp only [QH] at Z;rcases Z with ⟨J,G,cap,U,h2,Y⟩ | ⟨U,_⟩
 ·have O:=(Kk es G).1 Y;obtain ⟨l,g1,g2,g3,g4⟩:=Fj _ _ O.2;exact ⟨J,G,cap,l,U,h2,O.1,Y,by rw [g1,Zj O.1],g2,g3,g4⟩
 ·exact absurd U hne
theorem rD (r:Q6 φ M0 N D T h a w) {s:Operand} (ho:o.op=.call ⟨.builtin .append,#[s,x],#[t,t]⟩) (Z:F8 P T h o.dst t s x=some u):Yield P o φ M0 h a w u.1 (ap h u.2.1):=by
 unfold F8 at Z;split at Z;rotate_left
 ·cases Z
 rename_i e sv xv ht hs hx;split at Z;rotate_left
 ·cases Z
 rename_i i hi;split at Z;rotate_left
 ·cases Z
 rename_i z es' hz bg;split at Z;rotate_left
 ·cases Z
 rename_i a7;refine Yield.of_lift r 1 fun φ r E0 X0 hC=>?_
 have aj:=OJ bg (r.ev hx);have ai:=r.ev hs;split at Z
 ·rename_i hn;rw [OI hn] at ai;simp only [Qe,QH] at ai;split at Z
  ·rename_i am;subst am;simp only [QN] at Z;subst Z;simp only [ap];refine Ql r (v:=.slice none 0 0) ?_ (by rw [OI hn]; simp [Qe,QH]);simp only [QH] at aj;rcases aj with ⟨rr,oo,cap,h1,_⟩ | ⟨_,q,cap,h1⟩
   ·exact Z5 ho (by rw [ai,h1]; exact Yo ht hi _ _ _ _ _ zq)
   ·exact Z5 ho (by rw [ai,h1]; exact Yo ht hi _ _ _ _ _ zq)
  ·rename_i hne;split at Z;rotate_left
   ·cases Z
   rename_i d bl;split at Z;rotate_left
   ·cases Z
   rename_i hc;obtain ⟨hd,a6,bc⟩:=hc;simp only [QN] at Z;subst Z;simp only [ap];have af:es' ≠ []:=fun e=>hne e
   obtain ⟨rr,oo,cap,l,h1,h2,h3,h4,h5,h6,h7,h8⟩:=Xh aj af;have al:0 < es'.length:=List.length_pos_iff.2 af;have ae:=run_append_nil (P:=P) w t o.type e i z ht hi hz ⟨rr,oo,none⟩ es'.length cap l (by rw [h5]) (fun j v J=>by rw [Addr.add_lit]; exact h6 j v J) al zo zo;have ac:=grownCap_ge w es'.length 0 e;have ah:grownCap w es'.length 0 e≤maxLen:=grownCap_le_maxLen w es'.length 0 e (by unfold maxLen; omega);generalize grownCap w es'.length 0 e=gc at *
   let C:Array Value:=l.toArray++Builtin.zeroCells z.cells (gc - es'.length)
   let w':World:=w.drew.alloc (.cells C e)
   obtain ⟨E,X⟩:=XN (w:=w) (w':=w') (o:=.cells C e) (b:=d) (k:=.arr e i.size es'.length) (φ:=φ) (h:=h) (M0:=M0) rfl rfl rfl rfl hd r.hp hC
   have ab:C.size=gc * i.size:=by
    simp only [C,Array.size_append,List.size_toArray,size_zeroCells,a7.1,h5];rw [← Nat.add_mul]; congr 1; omega
   have G:w'.heap[w.heap.size]?=some (.cells C e (0,0)):=by show (w.heap.push _)[w.heap.size]?=_; simp
   have hH:Zw (Qu φ d w.heap.size) (upd h d (.arr e i.size es'.length)) w' M0:=XO rfl hd r.hp hC E X (.inr ⟨C,gc,G,ab,ac,ah⟩);refine ⟨_, .slice (some ⟨w.heap.size,0,none⟩) es'.length gc,w',Qu φ d w.heap.size,Z5 ho (by rw [ai,h1]; exact ae), .inl rfl,?_,hH,E,X⟩
   have U:∀ x,x < es'.length * i.size→¬ MM (Qu φ d w.heap.size) (upd h d (.arr e i.size es'.length)) M0 w.heap.size x:=fun x hx =>
    Rm (φ:=φ) (h:=h) r.hp hC (d:=d) (ty:=e) (S:=i.size) (n:=es'.length) (by simp [upd]) (by simp [Qu]) (fun b k hb hk=>⟨by simpa [upd,Ne.symm hb] using hk,by simp [Qu,Ne.symm hb]⟩) hx
   simp only [Qe,QH];refine ⟨.inl ⟨w.heap.size,0,gc,rfl,ac,?_⟩,e,es'.length,by simp [upd],Nat.le_refl _,fun _=>.inr ⟨gc,C,by simp [Qu],by simpa [Qu] using G,ab,ac,ah⟩⟩;rw [Kk];refine ⟨h3,JS (l:=l) (by rw [h5,Zj h3]) ?_ ?_ h7 ?_⟩
   ·intro j v J;rw [ZU G];have hlt:j < l.length:=(List.getElem?_eq_some_iff.1 J).1;simp only [Nat.zero_add,C];rw [Array.getElem?_append_left (by simpa using hlt)];simpa using J
   ·intro j J;simp only [Nat.zero_add];exact U j (by rw [← h5]; exact J)
   ·intro j c v J hv;exact (ZP (E.keeps M0)).1 _ _ (h8 j c v J hv)
 ·rename_i hn;split at Z;rotate_left
  ·cases Z
  rename_i S es tk;split at Z;rotate_left
  ·cases Z
  rename_i ty S' n aa;simp only [Qe] at ai;obtain ⟨ax,Vs,n2,az,be,ak⟩:=ai;rw [aa] at az;cases az;split at Z
  ·rename_i an;simp only [QN] at Z;subst Z;simp only [ap]
   have bd:∀ {k:Blk},h tk=some k→upd h tk k=h:=by
    intro k hk;funext b;simp only [upd];split
    ·rename_i e; rw [← e,hk]
    ·rfl
   rw [bd aa];refine Ql r (v:=a.eval s) ?_ (by simp only [Qe]; exact ⟨ax,ty,n,aa,be,ak⟩)
   have bj:∃ q c,a.eval x=.slice q 0 c:=by
    subst an;simp only [QH] at aj;rcases aj with ⟨rr,oo,cap,h1,_⟩ | ⟨_,q,cap,h1⟩
    ·exact ⟨_,_,by simpa using h1⟩
    ·exact ⟨q,cap,h1⟩
   obtain ⟨q,c,hq⟩:=bj;simp only [QH] at ax;rcases ax with ⟨rr,oo,cap,h1,h2,_⟩ | ⟨_,q2,cap,h1⟩
   ·exact Z5 ho (by rw [hq,h1]; exact Yo ht hi _ _ _ _ _ h2)
   ·exact Z5 ho (by rw [hq,h1]; exact Yo ht hi _ _ _ _ _ (Nat.zero_le _))
  ·rename_i an;split at Z;rotate_left
   ·cases Z
   rename_i hc;obtain ⟨rfl,_,rfl,rfl,a6,bc⟩:=hc;simp only [QN] at Z;subst Z;simp only [ap];rcases ak rfl with ⟨bh,av,_⟩ | ⟨Y,c0,av,a8,aq,bf,ao⟩
   ·have am:es=[]:=List.length_eq_zero_iff.1 bh;subst am;simp only [List.length_nil,Nat.zero_add] at a6 bc aa ⊢;have af:es' ≠ []:=fun e=>an e
    obtain ⟨rr,oo,cap,l,h1,h2,h3,h4,h5,h6,h7,h8⟩:=Xh aj af;have al:0 < es'.length:=List.length_pos_iff.2 af;have ae:=run_append_nil (P:=P) w t o.type ty i z ht hi hz ⟨rr,oo,none⟩ es'.length cap l (by rw [h5]) (fun j v J=>by rw [Addr.add_lit]; exact h6 j v J) al zo zo;have ac:=grownCap_ge w es'.length 0 ty;have ah:grownCap w es'.length 0 ty≤maxLen:=grownCap_le_maxLen w es'.length 0 ty (by unfold maxLen; omega);generalize grownCap w es'.length 0 ty=gc at *
    let C:Array Value:=l.toArray++Builtin.zeroCells z.cells (gc - es'.length)
    let w':World:=w.drew.alloc (.cells C ty)
    obtain ⟨E,X⟩:=Gv (w:=w) (w':=w') (ob:=.cells C ty) (φ:=φ) (h:=h) (M0:=M0) (n':=es'.length) aa zo rfl rfl rfl rfl r.hp hC
    have ab:C.size=gc * i.size:=by
     simp only [C,Array.size_append,List.size_toArray,size_zeroCells,a7.1,h5];rw [← Nat.add_mul]; congr 1; omega
    have G:w'.heap[w.heap.size]?=some (.cells C ty (0,0)):=by show (w.heap.push _)[w.heap.size]?=_; simp
    have O:Qu φ tk w.heap.size tk=w.heap.size:=by simp [Qu]
    have hH:Zw (Qu φ tk w.heap.size) (upd h tk (.arr ty i.size es'.length)) w' M0 :=
     Rl aa r.hp E X (fun b hb=>by simp [Qu,Ne.symm hb]) (.inr ⟨O,hC⟩) (fun d hd _=>hC.lt r.hp (w':=w') (by show (w.heap.push _).size≤_; simp) (fun x hx=>by show (w.heap.push _)[x]?=_; rw [Array.getElem?_push,if_neg zo]) hd) (by rw [O]; exact G) ab ac ah
    refine ⟨_, .slice (some ⟨w.heap.size,0,none⟩) es'.length gc,w',Qu φ tk w.heap.size,Z5 ho (by rw [av,h1]; exact ae), .inl rfl,?_,hH,E,X⟩
    have U:∀ x,x < es'.length * i.size→¬ MM (Qu φ tk w.heap.size) (upd h tk (.arr ty i.size es'.length)) M0 w.heap.size x:=fun x hx =>
     Rm (φ:=φ) (h:=h) r.hp hC (d:=tk) (ty:=ty) (S:=i.size) (n:=es'.length) (by simp [upd]) O (fun b k hb hk=>⟨by simpa [upd,Ne.symm hb] using hk,by simp [Qu,Ne.symm hb]⟩) hx
    simp only [Qe,QH,List.nil_append];refine ⟨.inl ⟨w.heap.size,0,gc,rfl,ac,?_⟩,ty,es'.length,by simp [upd],Nat.le_refl _,fun _=>.inr ⟨gc,C,by rw [O],by rw [O]; exact G,ab,ac,ah⟩⟩;rw [Kk];refine ⟨h3,JS (l:=l) (by rw [h5,Zj h3]) ?_ ?_ h7 ?_⟩
    ·intro j v J;rw [ZU G];have hlt:j < l.length:=(List.getElem?_eq_some_iff.1 J).1;simp only [Nat.zero_add,C];rw [Array.getElem?_append_left (by simpa using hlt)];simpa using J
    ·intro j J;simp only [Nat.zero_add];exact U j (by rw [← h5]; exact J)
    ·intro j c v J hv;exact (ZP (E.keeps M0)).1 _ _ (h8 j c v J hv)
   obtain ⟨rr,oo,cap,l,h1,h2,h3,h4,h5,h6,h7,h8⟩:=Xh aj an;have al:0 < es'.length:=List.length_pos_iff.2 an
   have ar:VF w (MM φ h M0) i.size (φ tk) 0 es:=by
    by_cases ay:es=[]
    ·subst ay; simp [VF]
    ·obtain ⟨r2,o2,bk,l2,g1,_,_,g4,_⟩:=Xh ax ay;rw [av] at g1;simp only [Value.slice.injEq,QN,Addr.mk.injEq] at g1;obtain ⟨⟨rfl,rfl,_⟩,_⟩:=g1;exact g4
   have au:∀ e ∈ es,e.length=i.size:=((Kk es 0).1 ar).1;by_cases ad:es.length+es'.length≤Y
   ·have bb:es.length * i.size+l.length≤c0.size:=by rw [h5,aq,← Nat.add_mul]; exact Nat.mul_le_mul_right _ ad
    have ae:=run_append_room (P:=P) w t o.type ty i ht hi (φ tk) es.length Y c0 a8 ⟨rr,oo,none⟩ es'.length cap l (by rw [h5]) (fun j v J=>by rw [Addr.add_lit]; exact h6 j v J) h7 ad bb
    let C:Array Value:=(c0.toList.take (es.length * i.size)++l++c0.toList.drop (es.length * i.size+l.length)).toArray
    have ba:(c0.toList.take (es.length * i.size)).length=es.length * i.size:=by simp; omega
    have ab:C.size=c0.size:=by simp [C]; omega
    obtain ⟨E,X⟩:=Ai (φ:=φ) (h:=h) (w:=w) (M0:=M0) (n':=es.length+es'.length) (c':=C) aa a8 zo ab (fun x hx=>by
     simp only [C,List.getElem?_toArray];rw [List.append_assoc,List.getElem?_append_left (by rw [ba]; exact hx),List.getElem?_take,if_pos hx];simp) r.hp
    have G:(w.setRow (φ tk) C).heap[φ tk]?=some (.cells C ty (0,0)):=setRow_heap w _ c0 C ty _ a8
    have hH:Zw φ (upd h tk (.arr ty i.size (es.length+es'.length))) (w.setRow (φ tk) C) M0 :=
     Rl aa r.hp E X (fun _ _=>rfl) (.inl rfl) (fun d hd bi=>setRow_other w _ _ C (fun e=>bi (r.hp.inj d tk hd (by rw [aa]; simp) e))) G (by rw [ab,aq]) ad ao
    refine ⟨_, .slice (some ⟨φ tk,0,none⟩) (es.length+es'.length) Y,_,φ,Z5 ho (by rw [av,h1]; exact ae), .inl rfl,?_,hH,E,X⟩
    have U:∀ x,x < (es.length+es'.length) * i.size→¬ MM φ (upd h tk (.arr ty i.size (es.length+es'.length))) M0 (φ tk) x:=by
     rintro x hx (⟨b,k,q1,q2,q3⟩ | q1)
     ·by_cases e:tk=b
      ·subst e;have:k=.arr ty i.size (es.length+es'.length):=by simpa [upd] using q1.symm
       subst this;simp only at q3;omega
      ·have q4:h b=some k:=by simpa [upd,e] using q1
       exact e (r.hp.inj b tk (by rw [q4]; simp) (by rw [aa]; simp) q2).symm
     ·exact r.hp.fr tk (by rw [aa]; simp) x q1
    simp only [Qe,QH];refine ⟨.inl ⟨φ tk,0,Y,by simp,by simpa using ad,?_⟩,ty,es.length+es'.length,by simp [upd],by simp,fun _=>.inr ⟨Y,C,rfl,G,by rw [ab,aq],ad,ao⟩⟩;rw [Va];refine ⟨(ZP (E.keeps M0)).2.1 _ _ _ _ ar,?_⟩;rw [Kk];refine ⟨h3,JS (l:=l) (by rw [h5,Zj h3]) ?_ ?_ h7 ?_⟩
    ·intro j v J;rw [ZU G];have hlt:j < l.length:=(List.getElem?_eq_some_iff.1 J).1;simp only [Nat.zero_add,C,List.getElem?_toArray];rw [List.append_assoc,List.getElem?_append_right (by rw [ba]; omega),ba,List.getElem?_append_left zo];rw [show es.length * i.size+j - es.length * i.size=j from by omega];exact J
    ·intro j J;simp only [Nat.zero_add];refine U _ ?_;rw [h5] at J;rw [Nat.add_mul]; omega
    ·intro j c v J hv;exact (ZP (E.keeps M0)).1 _ _ (h8 j c v J hv)
   ·obtain ⟨ol,g1,g2,g3,g4⟩:=Fj _ _ ((Kk es 0).1 ar).2;have aw:ol.length=es.length * i.size:=by rw [g1,Zj au]
    have ae:=run_append_grow (P:=P) w t o.type ty i z ht hi hz ⟨φ tk,0,none⟩ es.length Y ol aw (fun j v J=>by rw [Addr.add_lit]; exact g2 j v J) ⟨rr,oo,none⟩ es'.length cap l (by rw [h5])
     (fun j v J=>by rw [Addr.add_lit]; exact h6 j v J) zo zo (growslice_fits zo a6)
    have ac:=grownCap_ge w (es.length+es'.length) Y ty;have ah:grownCap w (es.length+es'.length) Y ty≤maxLen:=grownCap_le_maxLen w _ Y ty (by unfold maxLen; omega);generalize grownCap w (es.length+es'.length) Y ty=gc at *
    let C:Array Value:=ol.toArray++l.toArray++Builtin.zeroCells z.cells (gc - (es.length+es'.length))
    let w':World:=w.drew.alloc (.cells C ty)
    obtain ⟨E,X⟩:=Gv (w:=w) (w':=w') (ob:=.cells C ty) (φ:=φ) (h:=h) (M0:=M0) (n':=es.length+es'.length) aa zo rfl rfl rfl rfl r.hp hC
    have ab:C.size=gc * i.size:=by
     simp only [C,Array.size_append,List.size_toArray,size_zeroCells,a7.1,h5,aw];rw [← Nat.add_mul,← Nat.add_mul]; congr 1; omega
    have G:w'.heap[w.heap.size]?=some (.cells C ty (0,0)):=by show (w.heap.push _)[w.heap.size]?=_; simp
    have O:Qu φ tk w.heap.size tk=w.heap.size:=by simp [Qu]
    have hH:Zw (Qu φ tk w.heap.size) (upd h tk (.arr ty i.size (es.length+es'.length))) w' M0 :=
     Rl aa r.hp E X (fun b hb=>by simp [Qu,Ne.symm hb]) (.inr ⟨O,hC⟩) (fun d hd _=>hC.lt r.hp (w':=w') (by show (w.heap.push _).size≤_; simp) (fun x hx=>by show (w.heap.push _)[x]?=_; rw [Array.getElem?_push,if_neg zo]) hd) (by rw [O]; exact G) ab ac ah
    refine ⟨_, .slice (some ⟨w.heap.size,0,none⟩) (es.length+es'.length) gc,w',Qu φ tk w.heap.size,Z5 ho (by rw [av,h1]; exact ae), .inl rfl,?_,hH,E,X⟩
    have U:∀ x,x < (es.length+es'.length) * i.size→¬ MM (Qu φ tk w.heap.size) (upd h tk (.arr ty i.size (es.length+es'.length))) M0 w.heap.size x:=fun x hx =>
     Rm (φ:=φ) (h:=h) r.hp hC (d:=tk) (ty:=ty) (S:=i.size) (n:=es.length+es'.length) (by simp [upd]) O (fun b k hb hk=>⟨by simpa [upd,Ne.symm hb] using hk,by simp [Qu,Ne.symm hb]⟩) hx
    simp only [Qe,QH];refine ⟨.inl ⟨w.heap.size,0,gc,by simp,by simpa using ac,?_⟩,ty,es.length+es'.length,by simp [upd],by simp,fun _=>.inr ⟨gc,C,by rw [O],by rw [O]; exact G,ab,ac,ah⟩⟩;rw [Va];constructor
    ·rw [Kk];refine ⟨au,JS (l:=ol) g1 ?_ ?_ g3 ?_⟩
     ·intro j v J;rw [ZU G];have hlt:j < ol.length:=(List.getElem?_eq_some_iff.1 J).1;simp only [Nat.zero_add,C];rw [Array.append_assoc,Array.getElem?_append_left (by simpa using hlt)];simpa using J
     ·intro j J;simp only [Nat.zero_add];refine U _ ?_;rw [aw] at J;rw [Nat.add_mul]; omega
     ·intro j c v J hv;exact (ZP (E.keeps M0)).1 _ _ (g4 j c v J hv)
    ·rw [Kk];refine ⟨h3,JS (l:=l) (by rw [h5,Zj h3]) ?_ ?_ h7 ?_⟩
     ·intro j v J;rw [ZU G];have hlt:j < l.length:=(List.getElem?_eq_some_iff.1 J).1;simp only [Nat.zero_add,C];rw [Array.append_assoc,Array.getElem?_append_right (by simp; omega),Array.getElem?_append_left (by simp; omega)];simp only [List.size_toArray,aw,List.getElem?_toArray];rw [show es.length * i.size+j - es.length * i.size=j from by omega];exact J
     ·intro j J;simp only [Nat.zero_add];refine U _ ?_;rw [h5] at J;rw [Nat.add_mul]; omega
     ·intro j c v J hv;exact (ZP (E.keeps M0)).1 _ _ (h8 j c v J hv)
end
def rE:AV→Option PV
 | .p x=>some x
 | .tsl S es _=>some (.sl S es)
 | _=>none
def Dj:List AV→Option (List PV)
 | []=>some []
 | x :: xs=>match rE x,Dj xs with | some y,some ys=>some (y :: ys) | _,_=>none
def iK (P:Program):Nat→TypeId→List (Option Nat)
 | 0,_=>[]
 | d+1,t=>match P.underlying t with
  | some (.slice e)=>[some (P.cellsOf e)]
  | some (.struct G)=>G.toList.flatMap fun f=>iK P d f.type
  | some (.array n e)=>(List.replicate n (iK P d e)).flatten
  | _=>[none]
def Ce:List (Option Nat)→List PV→List PV
 | _,[]=>[]
 | [],c :: cs=>c :: cs
 | some S :: ss, .val (.slice none 0 0) :: cs=>.sl S [] :: Ce ss cs
 | _ :: ss,c :: cs=>c :: Ce ss cs
def MS (S:Nat):Nat→List PV→List (List PV)
 | 0,_=>[]
 | n+1,l=>l.take S :: MS S n (l.drop S)
theorem OM {S:Nat}:∀ (n:Nat) (l:List PV),l.length=n * S→(MS S n l).flatten=l∧(MS S n l).length=n∧∀ e ∈ MS S n l,e.length=S
 | 0,l,J=>by
  have:l=[]:=List.eq_nil_of_length_eq_zero (by simpa using J);subst this;simp [MS]
 | n+1,l,J=>by
  have U:(n+1) * S=n * S+S:=by rw [Nat.add_mul]; omega
  obtain ⟨a1,a2,O⟩:=OM (S:=S) n (l.drop S) (by rw [List.length_drop]; omega);refine ⟨by simp only [MS,List.flatten_cons,a1,List.take_append_drop],by simp [MS,a2],?_⟩;intro e G;simp only [MS,List.mem_cons] at G;rcases G with rfl | G
  ·simp; omega
  ·exact O e G
section
variable {P:Program} {o:Oper} {φ:Nat→Nat} {M0:Zn} {N:Nat} {D:DB} {T:Nat→Option AV} {h:QG} {a:Act} {w:World}
theorem jX {x:AV} {y:PV} (G:rE x=some y) (J:Qe φ h w M x v):QH w M y v:=by
 cases x with
 | p x=>simp only [rE,QN] at G; subst G; simpa only [Qe] using J
 | tsl S es t=>simp only [rE,QN] at G; subst G; simp only [Qe] at J; exact J.1
 | _=>simp [rE] at G
theorem kP {M:Zn}:∀ {xs:List AV} {ys:List PV} {l:List Value},Dj xs=some ys→Qi φ h w M xs l→ys.length=l.length∧∀ (j:Nat) c u,ys[j]?=some c→l[j]?=some u→QH w M c u
 | [],ys,l,G,J=>by simp only [Dj,QN] at G; subst G; simp only [Qi] at J; subst J; simp
 | x :: xs,ys,l,G,J=>by
  simp only [Dj] at G;split at G
  ·rename_i y aa h1 h2;simp only [QN] at G;subst G;simp only [Qi] at J;obtain ⟨v,vs,rfl,U,Z⟩:=J;obtain ⟨h5,Y⟩:=kP h2 Z;refine ⟨by simp [h5],fun j c u O hu=>?_⟩;cases j with
   | zero=>simp at O hu; subst O hu; exact jX h1 U
   | succ j=>exact Y j c u (by simpa using O) (by simpa using hu)
  ·cases G
theorem kR {M:Zn}:∀ {ss:List (Option Nat)} {ys:List PV} {l:List Value},ys.length=l.length→(∀ (j:Nat) c u,ys[j]?=some c→l[j]?=some u→QH w M c u) →
  (Ce ss ys).length=l.length∧∀ (j:Nat) c u,(Ce ss ys)[j]?=some c→l[j]?=some u→QH w M c u
 | ss,[],l,O,h=>by unfold Ce; exact ⟨O,h⟩
 | [],c :: cs,l,O,h=>by unfold Ce; exact ⟨O,h⟩
 | s :: ss,c :: cs,[],O,h=>by simp at O
 | s :: ss,c :: cs,v :: l,O,h=>by
  have Y:=kR (ss:=ss) (ys:=cs) (l:=l) (by simpa using O) (fun j c u J G=>h (j+1) c u (by simpa using J) (by simpa using G));have h0:=h 0 c v zq zq
  have U:∀ c',QH w M c' v→(c' :: Ce ss cs).length=(v :: l).length∧∀ (j:Nat) c u,(c' :: Ce ss cs)[j]?=some c→(v :: l)[j]?=some u→QH w M c u:=by
   intro c' hc;refine ⟨by simp [Y.1],fun j c u J G=>?_⟩;cases j with
   | zero=>simp at J G; subst J G; exact hc
   | succ j=>exact Y.2 j c u (by simpa using J) (by simpa using G)
  unfold Ce;split
  ·rename_i h; cases h
  ·rename_i h _; cases h
  ·rename_i S Z cs' J G;cases J; cases G;refine U _ ?_;simp only [QH] at h0 ⊢;exact .inr ⟨trivial,none,0,h0⟩
  ·rename_i J G;cases J; cases G;exact U _ h0
theorem BI (l:List Value) (s:Nat) (hs:l.length=s) (hp:0 < s):∀ n:Nat,(List.range (n * s)).map (fun k=>l.toArray[k % l.toArray.size]!)=(List.replicate n l).flatten
 | 0=>by simp
 | n+1=>by
  rw [Nat.add_mul,Nat.one_mul,List.range_add,List.map_append,BI l s hs hp n,List.replicate_succ',List.flatten_append];congr 1;simp only [List.map_map,List.flatten_cons,List.flatten_nil,List.append_nil];apply List.ext_getElem?;intro j;by_cases G:j < s
  ·have:(n * s+j) % s=j:=by rw [Nat.add_comm,Nat.add_mul_mod_self_right]; exact Nat.mod_eq_of_lt G
   simp [G,hs,this]
  ·simp [G,hs]
def U8 (P:Program) (T:Nat→Option AV) (h:QG) (dst:Option Tmp) (t:TypeId) (len:Nat) (parts:Array (Nat × Operand)):Option Xe :=
 match P.underlying t,dst,OE T parts.toList with
 | some (.slice e),some d,some ps =>
  match P.info? e with
  | some i =>
   match i.zero,h d with
   | some z,none =>
    match cellsOf (zu z) with
    | some G =>
     if G.length=i.size∧0 < i.size∧len * i.size≤16777216 then
      match PD (fun k=>some (k * i.size,i.size)) (List.replicate len G).flatten ps with
      | some rs =>
       match (Dj rs).map (Ce (List.replicate len (iK P 5 e)).flatten) with
       | some pvs=>if pvs.length=len * i.size∧Us rs then some (.tsl i.size (MS i.size len pvs) d,some (d, .arr e i.size len),[d]) else none
       | none=>none
      | none=>none
     else none
    | none=>none
   | _,_=>none
  | none=>none
 | _,_,_=>none
theorem J3 {M:Zn} {xs:List AV} {l:List Value} (G:Qi φ h w M xs l):∀ n:Nat,Qi φ h w M (List.replicate n xs).flatten (List.replicate n l).flatten
 | 0=>by simp [Qi]
 | n+1=>by simp only [List.replicate_succ,List.flatten_cons]; exact Zi G (J3 G n)
theorem zB (r:Q6 φ M0 N D T h a w) (ho:o.op=.buildSlice t len parts) (G:U8 P T h o.dst t len parts=some u):Yield P o φ M0 h a w u.1 (ap h u.2.1):=by
 unfold U8 at G;split at G;rotate_left
 ·cases G
 rename_i e d ps ht ar ak;split at G;rotate_left
 ·cases G
 rename_i i hi;split at G;rotate_left
 ·cases G
 rename_i z hz hd;split at G;rotate_left
 ·cases G
 rename_i zs ao;split at G;rotate_left
 ·cases G
 rename_i af;split at G;rotate_left
 ·cases G
 rename_i rs an;split at G;rotate_left
 ·cases G
 rename_i pvs ah;split at G;rotate_left
 ·cases G
 rename_i U;simp only [QN] at G;subst G;simp only [ap];refine Yield.of_lift r 1 fun φ r E0 X0 hC=>?_
 obtain ⟨h1,h2⟩:=Cc r ak;obtain ⟨h3,_,_⟩:=Vb ao (V9 (φ:=φ) (h:=h) (w:=w) (M:=MM φ h M0) z);have av:=Zp h3;have am:z.cells.toList.length=i.size:=by omega
 have aa:Qi φ h w (MM φ h M0) (List.replicate len zs).flatten (((Array.range (len * i.size)).map (z.cells[· % z.cells.size]!)).toList):=by
  have e1:((Array.range (len * i.size)).map (z.cells[· % z.cells.size]!)).toList=(List.replicate len z.cells.toList).flatten:=by
   have:=BI z.cells.toList i.size am af.2.1 len;simp only [Array.toArray_toList] at this;rw [← this];simp [Array.toList_range]
  rw [e1];exact J3 h3 len
 obtain ⟨c',h4,h5⟩:=PG (placeC:=fun k=>some (k * i.size,i.size)) (fun k x hx=>hx) ps _ _ _ rs h1 h2 aa an;have au:=Zp h5;obtain ⟨aq,Z,ab⟩:=GK.1 ah;have O:=kP Z h5;have O:=kR (ss:=(List.replicate len (iK P 5 e)).flatten) O.1 O.2;rw [ab] at O;obtain ⟨h6,h7⟩:=O;have Y:c'.size=len * i.size:=by simp at h6; omega
 have ae:=Tu U.2 h5;obtain ⟨g1,g2,g3⟩:=OM len pvs U.1
 let w':World:=w.alloc (.cells c' e)
 obtain ⟨E,X⟩:=XN (w:=w) (w':=w') (o:=.cells c' e) (b:=d) (k:=.arr e i.size len) (φ:=φ) (h:=h) (M0:=M0) rfl rfl rfl rfl hd r.hp hC;have J:w'.heap[w.heap.size]?=some (.cells c' e (0,0)):=by show (w.heap.push _)[w.heap.size]?=_; simp
 have ai:len≤maxLen:=by
  have:len * 1≤len * i.size:=Nat.mul_le_mul_left _ af.2.1;unfold maxLen; omega
 have hH:Zw (Qu φ d w.heap.size) (upd h d (.arr e i.size len)) w' M0:=XO rfl hd r.hp hC E X (.inr ⟨c',len,J,Y,Nat.le_refl _,ai⟩);refine ⟨_, .slice (some ⟨w.heap.size,0,none⟩) len len,w',Qu φ d w.heap.size,?_, .inl rfl,?_,hH,E,X⟩
 ·have hq:(parts.map fun (x:Nat × Operand)=>(x.1,a.eval x.2)).toList=parts.toList.map fun (x:Nat × Operand)=>(x.1,a.eval x.2):=by simp
  have ad:¬ (len * i.size > 2 ^ 24):=by omega
  by_cases h0:len * i.size=0
  ·have aj:len=0:=by
    rcases Nat.mul_eq_zero.1 h0 with x | x
    ·exact x
    ·omega
   subst aj;have e0:(Array.range (0 * i.size)).map (z.cells[· % z.cells.size]!)=#[]:=by apply Array.ext'; simp
   have e2:(Array.range 0).map (fun _=>(default:Value))=#[]:=by apply Array.ext'; simp
   rw [e0] at h4;have al:Instr.fill (fun k=>some (k * i.size,i.size)) #[] (parts.toList.map fun (x:Nat × Operand)=>(x.1,a.eval x.2))=some c':=h4;simp only [execOp,ho,Instr.buildSlice,Sem.run_bind,run_underlying ht,QU hi,Result.andThen_ok,hq,h0,if_true,Sem.run_pure];simp [newRow,newObj,Sem.run,w',e2,al]
  ·simp only [execOp,ho,Instr.buildSlice,Sem.run_bind,run_underlying ht,QU hi,Result.andThen_ok,ad,if_false,h0,hq,zeroValue,typeInfo,program,Sem.run,hi,hz,Sem.run_pure,h4];simp [newRow,newObj,Sem.run,w']
 ·have ac:∀ x,x < len * i.size→¬ MM (Qu φ d w.heap.size) (upd h d (.arr e i.size len)) M0 w.heap.size x:=fun x hx =>
   Rm (φ:=φ) (h:=h) r.hp hC (d:=d) (ty:=e) (S:=i.size) (n:=len) (by simp [upd]) (by simp [Qu]) (fun b k hb hk=>⟨by simpa [upd,Ne.symm hb] using hk,by simp [Qu,Ne.symm hb]⟩) hx
  simp only [Qe,QH];refine ⟨.inl ⟨w.heap.size,0,len,by rw [g2],by omega,?_⟩,e,len,by simp [upd],by omega,fun _=>.inr ⟨len,c',by simp [Qu],by simpa [Qu] using J,Y,Nat.le_refl _,ai⟩⟩;rw [Kk,g1];refine ⟨g3,JS (l:=c'.toList) h6.symm ?_ ?_ ae ?_⟩
  ·intro j v hj;rw [ZU J];simpa using hj
  ·intro j hj;simp only [Nat.zero_add];exact ac j (by simp at hj; omega)
  ·intro j c v hj hv;exact (ZP (E.keeps M0)).1 _ _ (h7 j c v hj hv)
def Xx (T:Nat→Option AV) (G:Nat):Option Operand→Option Nat
 | none=>some G
 | some x=>match Za T x with | some (.p (.val (.int _ n)))=>if 0≤n then some n.toNat else none | _=>none
def Tz (P:Program) (T:Nat→Option AV) (t:TypeId) (x:Operand) (lo hi J:Option Operand):Option Xe :=
 match P.underlying t,Za T x with
 | some (.slice e),some v =>
  match elems v,P.info? e with
  | some (S,es),some i =>
   match Xx T 0 lo,Xx T es.length hi with
   | some l,some G =>
    if S=i.size∧l≤G∧G≤es.length then
     match J with
     | none=>some (.p (.sl S ((es.take G).drop l)),none,[])
     | some _=>match hi,Xx T es.length J with | some _,some m=>if G≤m∧m≤es.length then some (.p (.sl S ((es.take G).drop l)),none,[]) else none | _,_=>none
    else none
   | _,_=>none
  | _,_=>none
 | _,_=>none
theorem TA (r:Q6 φ M0 N D T h a w) {J:Nat} (G:Xx T J (some x)=some n):∃ k,a.eval x=.int k n:=by
 simp only [Xx] at G;split at G
 ·rename_i k m O;split at G
  ·rename_i U;simp only [QN] at G;have:=r.ev O;simp only [Qe,QH] at this;exact ⟨k,by rw [this]; congr 1; omega⟩
  ·cases G
 ·cases G
theorem run_sliceBound {x:Value} {k:IntKind} {y:Nat} {code:BoundsCode} (G:x=.int k n) (J:n≤y):(Instr.sliceBound x y code).run P w=.ok n w:=by
 subst G;have:(0:Int)≤(n:Int)∧(n:Int)≤(y:Int):=⟨by omega,by omega⟩;simp [Instr.sliceBound,asIntOf,this]
theorem vB {S Y U cap l G m:Nat} (O:VF w M S Y U es) (h1:l≤G) (h2:G≤es.length) (h3:G≤m) :
  QH w M (.sl S ((es.take G).drop l)) (.slice (if m=l then some ⟨Y,U,none⟩ else some ⟨Y,U+l * S,none⟩) (G - l) (m - l)):=by
 have J:((es.take G).drop l).length=G - l:=by simp; omega
 simp only [QH];by_cases he:G=l
 ·right;refine ⟨List.eq_nil_of_length_eq_zero (by rw [J]; omega),(if m=l then some ⟨Y,U,none⟩ else some ⟨Y,U+l * S,none⟩),m - l,?_⟩;have e0:G - l=0:=by omega
  rw [e0]
 ·left;have hne:¬ m=l:=by omega
  refine ⟨Y,U+l * S,m - l,by simp [hne,J],by omega,?_⟩
  have Z:es=(es.take G).take l++((es.take G).drop l++es.drop G):=by
   rw [← List.append_assoc,List.take_append_drop,List.take_append_drop]
  rw [Z,Va] at O;have hl:((es.take G).take l).length=l:=by simp; omega
  rw [hl] at O;have:=O.2;rw [Va] at this;exact this.1
theorem iL (r:Q6 φ M0 N D T h a w) {hi mx:Option Operand} (ho:o.op=.slice t x lo hi mx) (G:Tz P T t x lo hi mx=some u):u.2.1=none∧Yield P o φ M0 h a w u.1 h:=by
 unfold Tz at G;split at G;rotate_left
 ·cases G
 rename_i e v ht hx;split at G;rotate_left
 ·cases G
 rename_i S es i ah ad;split at G;rotate_left
 ·cases G
 rename_i l J hl Y;split at G;rotate_left
 ·cases G
 rename_i hc;obtain ⟨rfl,aa,ac⟩:=hc;have h2:=BH ah (r.ev hx)
 have U:∃ (q:Option Addr) (cap:Nat),a.eval x=.slice q es.length cap∧es.length≤cap∧(es=[]∨∃ rr Z,q=some ⟨rr,Z,none⟩∧VF w (MM φ h M0) i.size rr Z es):=by
  simp only [QH] at h2;rcases h2 with ⟨rr,Z,cap,g1,g2,g3⟩ | ⟨rfl,q,cap,g1⟩
  ·exact ⟨_,cap,g1,g2, .inr ⟨rr,Z,rfl,g3⟩⟩
  ·exact ⟨q,cap,g1,Nat.zero_le _, .inl rfl⟩
 obtain ⟨q,cap,hv,al,aj⟩:=U;have am:∀ y,J≤y→True:=fun _ _=>trivial
 have O:∀ (code:BoundsCode),(match lo.map a.eval with | some v=>Instr.sliceBound v J code | none=>pure 0).run P w=.ok l w:=by
  intro code;cases lo with
  | none=>simp only [Xx,QN] at hl; subst hl; rfl
  | some y=>obtain ⟨k,hk⟩:=TA r hl; exact run_sliceBound hk aa
 have fin:∀ m,J≤m→Qe φ h w (MM φ h M0) (.p (.sl i.size ((es.take J).drop l))) (.slice (if m=l then q else q.map (·.add (l * i.size))) (J - l) (m - l)):=by
  intro m hm;simp only [Qe];rcases aj with rfl | ⟨rr,Z,rfl,g3⟩
  ·have:J=0:=by simpa using ac
   subst this;have af:l=0:=by omega
   subst af;simp only [QH];exact .inr ⟨by simp,(if m=0 then q else q.map (·.add (0 * i.size))),m,by simp⟩
  ·have:=vB (m:=m) (cap:=cap) g3 aa ac hm;simpa [Addr.add_lit] using this
 split at G
 ·simp only [QN] at G;subst G;refine ⟨rfl,Ql r (v:=.slice (if cap=l then q else q.map (·.add (l * i.size))) (J - l) (cap - l)) ?_ (fin cap zo)⟩
  have hb:(Instr.sliceBounds true es.length cap (lo.map a.eval) (hi.map a.eval) none).run P w=.ok (l,J,cap) w:=by
   cases hi with
   | none =>
    simp only [Xx,QN] at Y;subst Y;have:=O .sliceB;cases lo with
    | none=>simp [Instr.sliceBounds] at this ⊢; exact this
    | some y=>simp [Instr.sliceBounds] at this ⊢; simp [this]
   | some y =>
    obtain ⟨k,hk⟩:=TA r Y;have ab:=run_sliceBound (P:=P) (w:=w) (code:=.sliceAcap) hk (show J≤cap by omega);have:=O .sliceB;cases lo with
    | none=>simp [Instr.sliceBounds,ab] at this ⊢; exact this
    | some y=>simp [Instr.sliceBounds,ab] at this ⊢; simp [this]
  simp [execOp,ho,Instr.sliceAt,Instr.slice,run_underlying ht,hv,hb,QU ad]
 ·rename_i y;split at G;rotate_left
  ·cases G
  rename_i yh m hm;split at G;rotate_left
  ·cases G
  rename_i ae;simp only [QN] at G;subst G;refine ⟨rfl,Ql r (v:=.slice (if m=l then q else q.map (·.add (l * i.size))) (J - l) (m - l)) ?_ (fin m ae.1)⟩;obtain ⟨k1,ai⟩:=TA r hm;obtain ⟨k2,ak⟩:=TA r Y
  have hb:(Instr.sliceBounds true es.length cap (lo.map a.eval) (some (a.eval yh)) (some (a.eval y))).run P w=.ok (l,J,m) w:=by
   have b1:=run_sliceBound (P:=P) (w:=w) (code:=.slice3Acap) ai (show m≤cap by omega);have b2:=run_sliceBound (P:=P) (w:=w) (code:=.slice3B) ak ae.1;have:=O .slice3C;cases lo with
   | none=>simp [Instr.sliceBounds,b1,b2] at this ⊢; exact this
   | some y=>simp [Instr.sliceBounds,b1,b2] at this ⊢; simp [this]
  simp [execOp,ho,Instr.sliceAt,Instr.slice,run_underlying ht,hv,hb,QU ad]
end
section
variable {P:Program} {o:Oper} {φ:Nat→Nat} {M0:Zn} {N:Nat} {D:DB} {T:Nat→Option AV} {h:QG} {a:Act} {w:World}
theorem Cf {S:Nat}:∀ {es:List (List PV)} {k:Nat} {e:List PV} {f:Nat},(∀ e ∈ es,e.length=S)→es[k]?=some e→f < S→es.flatten[k * S+f]?=e[f]?
 | [],_,_,_,_,G,_=>by simp at G
 | O :: es,0,e,f,J,G,hf=>by
  simp only [List.getElem?_cons_zero,QN] at G;subst G;have:=J O zq;simp only [Nat.zero_mul,Nat.zero_add,List.flatten_cons];rw [List.getElem?_append_left zo]
 | O :: es,k+1,e,f,J,G,hf=>by
  have h0:=J O zq;simp only [List.getElem?_cons_succ] at G;have:=Cf (f:=f) (fun e U=>J e (by simp [U])) G hf;rw [List.flatten_cons,List.getElem?_append_right (by rw [h0,Nat.add_mul]; omega),h0,Nat.add_mul,show k * S+1 * S+f - S=k * S+f from by omega];exact this
theorem Aj {S:Nat}:∀ {es:List (List PV)} {k:Nat} {e J:List PV},(∀ e ∈ es,e.length=S)→es[k]?=some e→J.length=S→(es.set k J).flatten=es.flatten.take (k * S)++J++es.flatten.drop (k * S+S)
 | [],_,_,_,_,G,_=>by simp at G
 | U :: es,0,e,J,O,G,hf=>by
  have h0:=O U zq;simp only [List.set_cons_zero,List.flatten_cons,Nat.zero_mul,Nat.zero_add,List.take_zero,List.nil_append];rw [← h0,List.drop_left]
 | U :: es,k+1,e,J,O,G,hf=>by
  have h0:=O U zq;simp only [List.getElem?_cons_succ] at G;have:=Aj (fun e Y=>O e (by simp [Y])) G hf;simp only [List.set_cons_succ,List.flatten_cons,this];have Z:(k+1) * S=U.length+k * S:=by rw [h0,Nat.add_mul]; omega
  rw [Z,List.take_length_add_append,Nat.add_assoc,List.drop_length_add_append];simp [List.append_assoc]
theorem Ak {t:Nat} {S:Nat} {c:Array Value} (ht:h t=some (.vec ty S es)) (hw:w.heap[φ t]?=some (.cells c ty (0,0))) (hn:es.length≤es'.length) (ah:c'.size=c.size)
  (r:Zw φ h w M0):QT φ h w φ (upd h t (.vec ty S es')) (w.setRow (φ t) c')∧VL φ h w φ (upd h t (.vec ty S es')) (w.setRow (φ t) c'):=by
 have G:∀ x,x ≠ φ t→(w.setRow (φ t) c').heap[x]?=w.heap[x]?:=fun x hx=>setRow_other w _ x c' hx
 have ad:(w.setRow (φ t) c').heap[φ t]?=some (.cells c' ty (0,0)):=setRow_heap w _ c c' ty _ hw;have hb:∀ b ty cs,h b=some (.box ty cs)→t ≠ b:=fun b ty cs hb e=>by rw [← e,ht] at hb; cases hb
 have ab:∀ t2 Vs U n2,h t2=some (.arr Vs U n2)→∃ n3,upd h t (.vec ty S es') t2=some (.arr Vs U n3)∧n2≤n3 ∧
   (n3=n2→AKept w (w.setRow (φ t) c') (φ t2) (φ t2) Vs):=by
  intro t2 Vs U n2 J;have e:¬ t=t2:=fun e=>by rw [← e,ht] at J; cases J
  have hne:φ t2 ≠ φ t:=fun e2=>e (r.inj t2 t (by rw [J]; simp) (by rw [ht]; simp) e2).symm
  exact ⟨n2,by simp [upd,e,J],Nat.le_refl _,fun _=>Yi (rfl) (by rw [G _ hne])⟩
 have aa:∀ t2 Vs U O,h t2=some (.vec Vs U O)→∃ ac,upd h t (.vec ty S es') t2=some (.vec Vs U ac)∧O.length≤ac.length ∧
   (ac.length=O.length→φ t2=φ t2∧∀ c0,w.heap[φ t2]?=some (.cells c0 Vs (0,0))→∃ c1,(w.setRow (φ t) c').heap[φ t2]?=some (.cells c1 Vs (0,0))∧c1.size=c0.size):=by
  intro t2 Vs U n2 J;by_cases e:t=t2
  ·subst e;rw [ht] at J;cases J;refine ⟨es',by simp [upd],hn,fun _=>⟨rfl,fun c0 Y=>⟨c',ad,?_⟩⟩⟩;rw [hw] at Y;cases Y;exact ah
  ·have hne:φ t2 ≠ φ t:=fun e2=>e (r.inj t2 t (by rw [J]; simp) (by rw [ht]; simp) e2).symm
   exact ⟨n2,by simp [upd,e,J],Nat.le_refl _,fun _=>⟨rfl,fun c0 Y=>⟨c0,by rw [G _ hne]; exact Y,rfl⟩⟩⟩
 have af:∀ d k x,h d=some k→k.ob=some x→(∃ k',upd h t (.vec ty S es') d=some k'∧k'.ob=some x)∧φ d=φ d:=by
  intro d k x Z ho;have e:¬ t=d:=fun e=>by rw [← e,ht] at Z; cases Z; cases ho
  exact ⟨⟨k,by simp [upd,e,Z],ho⟩,rfl⟩
 refine ⟨⟨rfl,rfl,rfl,by simp,?_,?_,?_,?_,fun t2 Vs U O _ J=>ab t2 Vs U O J,fun t2 Vs U O _ J=>aa t2 Vs U O J,fun d k x _=>af d k x⟩,?_,ab,aa,af⟩
 ·intro x _ ai;exact G x (fun e=>ai t (by rw [ht]; simp) e.symm)
 ·intro x o _ hm;have e:x ≠ φ t:=fun e=>hm ⟨t,_,ht,e.symm,trivial⟩
  simp [World.cell?,G x e]
 ·rintro x y _ ⟨d,q,h1,J,h3⟩;by_cases e:t=d
  ·subst e;exact ⟨t,_,ht,J,trivial⟩
  ·exact ⟨d,q,by simpa [upd,e] using h1,J,h3⟩
 ·intro d ae ds _ Z;exact ⟨⟨ds,by simp [upd,hb d _ _ Z,Z]⟩,rfl⟩
 ·intro d ae ds Z;exact ⟨⟨ae,ds,by simp [upd,hb d _ _ Z,Z]⟩,rfl⟩
theorem OO {t:Nat} {S:Nat} {cap:Nat} (ht:h t=some (.vec ty S es)) (r:Zw φ h w M0)
  (E:QT φ h w φ' (upd h t (.vec ty S es')) w') (X:VL φ h w φ' (upd h t (.vec ty S es')) w')
  (J:∀ b,b ≠ t→φ' b=φ b) (U:φ' t=φ t∨φ' t=w.heap.size∧Clear φ h w 1) (ab:∀ d,h d ≠ none→d ≠ t→w'.heap[φ d]?=w.heap[φ d]?)
  (ae:w'.heap[φ' t]?=some (.cells c' ty (0,0))) (ad:c'.size=cap * S) (aa:es'.length≤cap) (ac:cap≤maxLen) (hS:∀ e ∈ es',e.length=S) (ah:∀ v ∈ c'.toList,v.oneCell'=true)
  (af:Qi φ h w (MM φ h M0) (es'.flatten.map .p) (c'.toList.take (es'.length * S))):Zw φ' (upd h t (.vec ty S es')) w' M0:=by
 have g:∀ d,upd h t (.vec ty S es') d ≠ none→h d ≠ none:=fun d O=>by
  by_cases e:t=d
  ·rw [← e,ht]; simp
  ·simpa [upd,e] using O
 refine ⟨?_,?_,?_,fun x y hx=>Nat.lt_of_lt_of_le (r.lt x y hx) E.size,r.gm.evol E⟩
 ·intro d e O he G;by_cases e1:d=t <;> by_cases Y:e=t
  ·rw [e1,Y]
  ·rw [e1,J e Y] at G;rcases U with Z | ⟨Z,hC⟩
   ·rw [Z] at G; rw [e1]; exact r.inj t e (by rw [ht]; simp) (g e he) G
   ·rcases hC e (g e he) with h4 | h4 <;> omega
  ·rw [Y,J d e1] at G;rcases U with Z | ⟨Z,hC⟩
   ·rw [Z] at G; rw [Y]; exact r.inj d t (g d O) (by rw [ht]; simp) G
   ·rcases hC d (g d O) with h4 | h4 <;> omega
  ·rw [J d e1,J e Y] at G; exact r.inj d e (g d O) (g e he) G
 ·intro d q O;by_cases e:t=d
  ·subst e;have:q=.vec ty S es':=by simpa [upd] using O.symm
   subst this;exact ⟨c',cap,ae,ad,aa,ac,hS,ah,(QI (E.keeps M0) X).2 _ _ af⟩
  ·have h1:h d=some q:=by simpa [upd,e] using O
   rw [J d (fun Y=>e Y.symm)];exact ZI (E.keeps M0) X (ab d (by rw [h1]; simp) (fun Y=>e Y.symm)) (r.blk d q h1)
 ·intro d O o hm;by_cases e:d=t
  ·subst e;rcases U with Z | ⟨Z,_⟩
   ·rw [Z] at hm; exact r.fr d (g d O) o hm
   ·rw [Z] at hm; exact absurd (r.lt _ _ hm) zo
  ·rw [J d e] at hm; exact r.fr d (g d O) o hm
theorem vC {ob:Obj} {t:Nat} {S:Nat} (ht:h t=some (.vec ty S es)) (hn:es.length < es'.length) (hh:w'.heap=w.heap.push ob) (ho:w'.os=w.os) (af:w'.tape=w.tape) (hu:w'.output=w.output) (r:Zw φ h w M0) (hC:Clear φ h w 1) :
  QT φ h w (Qu φ t w.heap.size) (upd h t (.vec ty S es')) w'∧VL φ h w (Qu φ t w.heap.size) (upd h t (.vec ty S es')) w':=by
 have J:∀ x,x < w.heap.size→w'.heap[x]?=w.heap[x]?:=fun x hx=>by rw [hh,Array.getElem?_push,if_neg zo]
 have hb:∀ b ty cs,h b=some (.box ty cs)→¬ t=b:=fun b ty cs hb e=>by rw [← e,ht] at hb; cases hb
 have Z:∀ t2 Vs O U,h t2=some (.vec Vs O U)→∃ n3,upd h t (.vec ty S es') t2=some (.vec Vs O n3)∧U.length≤n3.length ∧
   (n3.length=U.length→Qu φ t w.heap.size t2=φ t2∧∀ c0,w.heap[φ t2]?=some (.cells c0 Vs (0,0))→∃ c1,w'.heap[φ t2]?=some (.cells c1 Vs (0,0))∧c1.size=c0.size):=by
  intro t2 Vs O U G;by_cases e:t=t2
  ·subst e;rw [ht] at G;cases G;exact ⟨es',by simp [upd],by omega,fun e=>absurd e zo⟩
  ·exact ⟨U,by simp [upd,e,G],Nat.le_refl _,fun _=>⟨by simp [Qu,e],fun c0 ae=>⟨c0,by rw [hC.lt r (by rw [hh]; simp) J (by rw [G]; simp)]; exact ae,rfl⟩⟩⟩
 have aa:∀ t2 Vs O U,h t2=some (.arr Vs O U)→∃ n3,upd h t (.vec ty S es') t2=some (.arr Vs O n3)∧U≤n3 ∧
   (n3=U→AKept w w' (φ t2) (Qu φ t w.heap.size t2) Vs):=by
  intro t2 Vs O U G;have e:¬ t=t2:=fun e=>by rw [← e,ht] at G; cases G
  exact ⟨U,by simp [upd,e,G],Nat.le_refl _,fun _=>Yi (by simp [Qu,e]) (by rw [hC.lt r (by rw [hh]; simp) J (by rw [G]; simp)])⟩
 have ad:∀ d k x,h d=some k→k.ob=some x→(∃ k',upd h t (.vec ty S es') d=some k'∧k'.ob=some x)∧Qu φ t w.heap.size d=φ d:=by
  intro d k x Y ho;have e:¬ t=d:=fun e=>by rw [← e,ht] at Y; cases Y; cases ho
  exact ⟨⟨k,by simp [upd,e,Y],ho⟩,by simp [Qu,e]⟩
 refine ⟨⟨ho,af,hu,by rw [hh]; simp,fun x hx _=>J x hx,fun x o hx _=>by simp [World.cell?,J x hx],?_,?_,fun t2 Vs O ab _ G=>aa t2 Vs O ab G,fun t2 Vs O ab _ G=>Z t2 Vs O ab G,fun d k x _=>ad d k x⟩,?_,aa,Z,ad⟩
 ·rintro x y hx ⟨d,q,h1,G,h3⟩;by_cases e:t=d
  ·simp only [Qu,e,if_true] at G; omega
  ·exact ⟨d,q,by simpa [upd,e] using h1,by simpa [Qu,e] using G,h3⟩
 ·intro d ac ds _ Y;have:=hb d _ _ Y;exact ⟨⟨ds,by simp [upd,this,Y]⟩,by simp [Qu,this]⟩
 ·intro d ac ds Y;have:=hb d _ _ Y;exact ⟨⟨ac,ds,by simp [upd,this,Y]⟩,by simp [Qu,this]⟩
end
section
variable {P:Program} {o:Oper} {φ:Nat→Nat} {M0:Zn} {N:Nat} {D:DB} {T:Nat→Option AV} {h:QG} {a:Act} {w:World}
def Xi (P:Program) (T:Nat→Option AV) (h:QG) (t:TypeId) (x ix:Operand):Option Xe :=
 match P.underlying t,Za T x,Za T ix with
 | some (.slice e),some (.vsl S tk n),some (.p (.val (.int _ k))) =>
  match h tk,P.info? e with
  | some (.vec _ _ es),some i=>if n=es.length∧S=i.size∧0≤k∧k.toNat < n then some (.vptr tk n k.toNat 0,none,[tk]) else none
  | _,_=>none
 | some (.array len e),some (.vptr tk n G f),some (.p (.val (.int _ k))) =>
  match h tk,P.info? e with
  | some (.vec _ _ es),some i=>if n=es.length∧0≤k∧k < len then some (.vptr tk n G (f+k.toNat * i.size),none,[tk]) else none
  | _,_=>none
 | _,_,_=>none
theorem zC (r:Q6 φ M0 N D T h a w) (ho:o.op=.indexAddr t x ix) (G:Xi P T h t x ix=some u):u.2.1=none∧Yield P o φ M0 h a w u.1 h:=by
 unfold Xi at G;split at G
 ·rename_i e S tk n kk k ht hx Y;split at G
  ·rename_i ty S' es i hb hi;split at G
   ·rename_i hc;simp only [QN] at G;subst G;have Z:=r.ev hx;have J:=r.ev Y;simp only [Qe,QH] at Z J;obtain ⟨_,Vs,aa,O,ac,U⟩:=Z;rw [hb] at O;cases O;obtain ⟨cap,c,U,_⟩:=U hc.1;refine ⟨rfl,Ql r (v:=.pointer (some ⟨φ tk,k.toNat * i.size,none⟩)) ?_ ?_⟩
    ·have ab:0≤k∧k < (n:Int):=⟨hc.2.2.1,by omega⟩;simp [execOp,ho,Instr.indexAt,J,asIntOf,run_underlying ht,U,ab,QU hi,Addr.add_lit]
    ·simp only [Qe];exact ⟨rfl,ty,S,es,hb,by omega,fun _=>by rw [hc.2.1]; rfl⟩
   ·cases G
  ·cases G
 ·rename_i len e tk n k0 f kk k ht hx Y;split at G
  ·rename_i ty S' es i hb hi;split at G
   ·rename_i hc;simp only [QN] at G;subst G;have Z:=r.ev hx;have J:=r.ev Y;simp only [Qe,QH] at Z J;obtain ⟨_,Vs,S2,aa,O,ac,U⟩:=Z;rw [hb] at O;cases O;have U:=U hc.1;refine ⟨rfl,Ql r (v:=.pointer (some ⟨φ tk,k0 * S'+(f+k.toNat * i.size),none⟩)) ?_ ?_⟩
    ·simp [execOp,ho,Instr.indexAt,J,asIntOf,run_underlying ht,U,Instr.sureAddr,hc.2.1,hc.2.2,QU hi,Addr.add_lit,Nat.add_assoc]
    ·simp only [Qe];exact ⟨rfl,ty,S',es,hb,by omega,fun _=>rfl⟩
   ·cases G
  ·cases G
 ·cases G
def Xj (P:Program) (T:Nat→Option AV) (h:QG) (s:TypeId) (x:Operand) (f:Nat):Option Xe :=
 match P.underlying s,Za T x with
 | some (.struct fields),some (.vptr tk n k g) =>
  match fields[f]?,h tk with
  | some G,some (.vec _ _ es) =>
   match P.info? G.type with
   | some i=>if i.size=0 then none else if n=es.length then some (.vptr tk n k (g+G.offset),none,[tk]) else none
   | none=>none
  | _,_=>none
 | _,_=>none
theorem zD (r:Q6 φ M0 N D T h a w) {s:TypeId} {f:Nat} (Z:o.op=.fieldAddr s x f) (G:Xj P T h s x f=some u):u.2.1=none∧Yield P o φ M0 h a w u.1 h:=by
 unfold Xj at G;split at G
 ·rename_i fields tk n k g hs hx;split at G
  ·rename_i fl ty S es hf hb;split at G
   ·rename_i i hi;split at G
    ·cases G
    ·rename_i U;split at G
     ·rename_i hn;simp only [QN] at G;subst G;have Y:=r.ev hx;simp only [Qe] at Y;obtain ⟨_,Vs,S2,aa,J,ab,O⟩:=Y;rw [hb] at J;cases J;have O:=O hn;refine ⟨rfl,Ql r (v:=.pointer (some ⟨φ tk,k * S+(g+fl.offset),none⟩)) ?_ ?_⟩
      ·simp [execOp,Z,Instr.fieldAt,run_underlying hs,hf,O,Instr.sureAddr,fieldPlace,QU hi,U,Addr.add_lit,Nat.add_assoc]
      ·simp only [Qe];exact ⟨rfl,ty,S,es,hb,by omega,fun _=>rfl⟩
     ·cases G
   ·cases G
  ·cases G
 ·cases G
def OP (P:Program) (T:Nat→Option AV) (h:QG) (ty:TypeId) (x:Operand):Option Xe :=
 match P.underlying ty,P.info? ty,Za T x with
 | some d,some i,some (.vptr tk n k f) =>
  match h tk with
  | some (.vec _ _ es) =>
   if n=es.length then
    match es[k]? with
    | some e =>
     if H9 d then (if f+i.size≤e.length then some (.agg (((e.drop f).take i.size).map .p),none,[tk]) else none)
     else match e[f]? with | some c=>some (.p c,none,[tk]) | none=>none
    | none=>none
   else none
  | _=>none
 | _,_,_=>none
theorem iM (r:Q6 φ M0 N D T h a w) (ho:o.op=.load ty x) (G:OP P T h ty x=some u):u.2.1=none∧Yield P o φ M0 h a w u.1 h:=by
 unfold OP at G;split at G
 ·rename_i d i tk n k f hd hi hx;split at G
  ·rename_i tb S es hb;split at G
   ·rename_i hn;split at G
    ·rename_i e hk;have h2:=r.ev hx;simp only [Qe] at h2;obtain ⟨_,Vs,S2,ai,ad,aj,hv⟩:=h2;rw [hb] at ad;cases ad;have hv:=hv hn;obtain ⟨c,cap,hw,ak,af,ah,hS,al,ab⟩:=r.hp.blk tk _ hb;have ae:e.length=S:=hS e (List.mem_of_getElem? hk)
     have J:∀ f Z,e[f]?=some Z→∃ v,w.cell? ⟨φ tk,k * S+f,none⟩=some v∧Qe φ h w (MM φ h M0) (.p Z) v:=by
      intro f Z O;have hf:f < S:=by rw [← ae]; exact (List.getElem?_eq_some_iff.1 O).1
      have h3:=Cf hS hk hf;rw [O] at h3;obtain ⟨v,U,h5⟩:=Un ab (i:=k * S+f) (x:=.p Z) (by rw [List.getElem?_map,h3]; rfl);refine ⟨v,?_,h5⟩;rw [ZU hw];rw [List.getElem?_take] at U;split at U
      ·simpa using U
      ·cases U
     split at G
     ·rename_i Y;split at G
      ·rename_i aa;simp only [QN] at G;subst G
       have ac:∀ (m:Nat) (g:Nat),g+m≤e.length→∃ l:List Value,l.length=m∧(∀ j v,l[j]?=some v→w.cell? ⟨φ tk,k * S+g+j,none⟩=some v)∧Qi φ h w (MM φ h M0) (((e.drop g).take m).map .p) l:=by
        intro m
        induction m with
        | zero=>intro g _; exact ⟨[],rfl,by simp,by simp [Qi]⟩
        | succ m ih =>
         intro g hg;have hlt:g < e.length:=by omega
         obtain ⟨v,h3,U⟩:=J g e[g] (List.getElem?_eq_getElem hlt);obtain ⟨l,q1,q2,q3⟩:=ih (g+1) zo;refine ⟨v :: l,by simp [q1],fun j u hj=>?_,?_⟩
         ·cases j with
          | zero=>simp at hj; subst hj; simpa using h3
          | succ j=>have:=q2 j u (by simpa using hj); rwa [show k * S+(g+1)+j=k * S+g+(j+1) from by omega] at this
         ·rw [List.drop_eq_getElem_cons hlt];simp only [List.take_succ_cons,List.map_cons,Qi];exact ⟨v,l,rfl,U,q3⟩
       obtain ⟨l,q1,q2,q3⟩:=ac i.size f aa;refine ⟨rfl,Ql r (v:=.agg l.toArray) ?_ (by simp only [Qe]; exact ⟨l,rfl,q3⟩)⟩;have:=D9 (w:=w) (r:=φ tk) (off:=k * S+f) hd hi Y l q1 q2;simp [execOp,ho,Instr.loadAt,hv,Instr.sureAddr,this]
      ·cases G
     ·rename_i Y;split at G
      ·rename_i Z O;simp only [QN] at G;subst G;obtain ⟨v,h3,U⟩:=J f Z O;refine ⟨rfl,Ql r (v:=v) ?_ U⟩;have:=Cb (P:=P) (w:=w) (r:=φ tk) (off:=k * S+f) hd (by simpa using Y) h3;simp [execOp,ho,Instr.loadAt,hv,Instr.sureAddr,this]
      ·cases G
    ·cases G
   ·cases G
  ·cases G
 ·cases G
def Ns (P:Program) (T:Nat→Option AV) (h:QG) (ty:TypeId) (x y:Operand):Option Xe :=
 match P.info? ty,Za T x,Za T y with
 | some i,some (.vptr tk n k f),some v =>
  match h tk,cellsOf v with
  | some (.vec tb S es),some G =>
   match Dj G,es[k]? with
   | some ps,some e=>if n=es.length∧G.length=i.size∧f+ps.length≤e.length then some (.p (.val undef),some (tk, .vec tb S (es.set k (e.take f++ps++e.drop (f+ps.length)))),[tk]) else none
   | _,_=>none
  | _,_=>none
 | _,_,_=>none
theorem Qhk (A B C:List α) (j:Nat):(A++B++C)[j]?=if j < A.length then A[j]? else if j - A.length < B.length then B[j - A.length]? else C[j - A.length - B.length]?:=by
 rw [List.append_assoc];by_cases G:j < A.length
 ·rw [if_pos G,List.getElem?_append_left G]
 ·rw [if_neg G,List.getElem?_append_right zo];by_cases J:j - A.length < B.length
  ·rw [if_pos J,List.getElem?_append_left J]
  ·rw [if_neg J,List.getElem?_append_right zo]
theorem Ci {M:Zn}:∀ {xs:List AV} {ys:List PV} {l:List Value},Dj xs=some ys→Qi φ h w M xs l→Qi φ h w M (ys.map .p) l
 | [],ys,l,G,J=>by simp only [Dj,QN] at G; subst G; simpa [Qi] using J
 | x :: xs,ys,l,G,J=>by
  simp only [Dj] at G;split at G
  ·rename_i y aa h1 Z;simp only [QN] at G;subst G;simp only [Qi] at J;obtain ⟨v,O,rfl,U,Y⟩:=J;simp only [List.map_cons,Qi];refine ⟨v,O,rfl,?_,Ci Z Y⟩;simp only [Qe];exact jX h1 U
  ·cases G
theorem rF (r:Q6 φ M0 N D T h a w) (ho:o.op=.store ty x y) (O:Ns P T h ty x y=some u):Yield P o φ M0 h a w u.1 (ap h u.2.1):=by
 unfold Ns at O;split at O
 ·rename_i i tk n k f v hi hx hy;have h2:=r.ev hx;have h3:=r.ev hy;simp only [Qe] at h2;split at O
  ·rename_i tb S es vs hb aq;split at O
   ·rename_i ps e aw hk;split at O
    ·rename_i hc;obtain ⟨hn,a7,a6⟩:=hc;simp only [QN] at O;subst O;obtain ⟨_,Vs,S2,be,ai,bc,J⟩:=h2;rw [hb] at ai;cases ai;have J:=J hn;obtain ⟨c,cap,hw,ak,Z,am,hS,ae,aa⟩:=r.hp.blk tk _ hb;have ba:e.length=S:=hS e (List.mem_of_getElem? hk);obtain ⟨h4,h5,h6⟩:=Vb aq h3;have an:=Zp h4;have h7:=Ci aw h4;have ad:=Zp h7;simp only [List.length_map] at ad;have ah:k < es.length:=(List.getElem?_eq_some_iff.1 hk).1;have bd:k * S+S≤es.length * S:=by have:(k+1) * S≤es.length * S:=Nat.mul_le_mul_right _ ah; rw [Nat.add_mul] at this; omega
     have bb:es.length * S≤c.size:=by rw [ak]; exact Nat.mul_le_mul_right _ Z
     have ab:k * S+f+(a.eval y).cells.toList.length≤c.size:=by omega
     have af:=run_storeCells_at P (φ tk) (k * S+f) tb (a.eval y).cells.toList 0 c w hw (by simpa using ab) h5;simp only [Nat.add_zero] at af;have hne:(e.take f++ps++e.drop (f+ps.length)).length=S:=by simp; omega
     have ay:=Aj hS hk hne
     let C:Array Value:=(c.toList.take (k * S+f)++(a.eval y).cells.toList++c.toList.drop (k * S+f+(a.eval y).cells.toList.length)).toArray
     have al:C.size=c.size:=by simp [C] at ab ⊢; omega
     have a8:=Zj hS
     have ar:e=(es.flatten.drop (k * S)).take S:=by
      apply List.ext_getElem?;intro j;by_cases hj:j < S
      ·rw [List.getElem?_take,if_pos hj,List.getElem?_drop,Cf hS hk hj]
      ·rw [List.getElem?_eq_none zo,List.getElem?_eq_none (by simp; omega)]
     have aj:Qi φ h w (MM φ h M0) ((es.set k (e.take f++ps++e.drop (f+ps.length))).flatten.map .p) (C.toList.take ((es.set k (e.take f++ps++e.drop (f+ps.length))).length * S)):=by
      have e1:(es.set k (e.take f++ps++e.drop (f+ps.length))).flatten=es.flatten.take (k * S+f)++ps++es.flatten.drop (k * S+f+ps.length):=by
       rw [ay,ar];rw [List.take_take,Nat.min_eq_left zo,List.drop_take,List.drop_drop];have e2:es.flatten.take (k * S)++(es.flatten.drop (k * S)).take f=es.flatten.take (k * S+f):=by rw [List.take_add]
       have e3:(es.flatten.drop (k * S+(f+ps.length))).take (S - (f+ps.length))++es.flatten.drop (k * S+S)=es.flatten.drop (k * S+f+ps.length):=by
        have:=List.take_append_drop (S - (f+ps.length)) (es.flatten.drop (k * S+(f+ps.length)));rw [List.drop_drop] at this;rw [show k * S+(f+ps.length)+(S - (f+ps.length))=k * S+S from by omega] at this;rw [this,Nat.add_assoc]
       rw [← e2,← e3];simp [List.append_assoc]
      rw [e1,List.length_set]
      have e4:C.toList.take (es.length * S)=(c.toList.take (es.length * S)).take (k * S+f)++(a.eval y).cells.toList++(c.toList.take (es.length * S)).drop (k * S+f+(a.eval y).cells.toList.length):=by
       apply List.ext_getElem?;intro j;have az:(c.toList.take (k * S+f)).length=k * S+f:=by simp; omega
       have Y:((c.toList.take (es.length * S)).take (k * S+f)).length=k * S+f:=by simp; omega
       rw [List.getElem?_take];have hB:(c.toList.take (es.length * S)).length=es.length * S:=by simp; omega
       by_cases hj:j < es.length * S
       ·rw [if_pos hj];simp only [C];rw [Qhk,Qhk,az,Y];by_cases G:j < k * S+f
        ·rw [if_pos G,if_pos G,List.getElem?_take,if_pos G,List.getElem?_take,if_pos G,List.getElem?_take,if_pos hj]
        ·rw [if_neg G,if_neg G];by_cases U:j - (k * S+f) < (a.eval y).cells.toList.length
         ·rw [if_pos U,if_pos U]
         ·rw [if_neg U,if_neg U,List.getElem?_drop,List.getElem?_drop,List.getElem?_take,if_pos zo]
       ·rw [if_neg hj,List.getElem?_eq_none];rw [YY,YY,Y,List.length_drop,hB];omega
      rw [e4];have av:ps.length=(a.eval y).cells.toList.length:=ad;simp only [List.map_append,List.map_take,List.map_drop];rw [← av];exact Zi (Zi (Uo _ aa) h7) (Ur _ aa)
     obtain ⟨E,X⟩:=Ak (φ:=φ) (h:=h) (w:=w) (M0:=M0) (es':=es.set k (e.take f++ps++e.drop (f+ps.length))) (c':=C) hb hw zq al r.hp;have ac:(w.setRow (φ tk) C).heap[φ tk]?=some (.cells C tb (0,0)):=setRow_heap w _ c C tb _ hw
     have hH:=OO (c':=C) (cap:=cap) hb r.hp E X (fun _ _=>rfl) (.inl rfl) (fun d hd au=>setRow_other w _ _ C (fun e=>au (r.hp.inj d tk hd (by rw [hb]; simp) e))) ac (by rw [al,ak]) (by simpa using Z) am
      (fun e' ao=>by rcases List.mem_or_eq_of_mem_set ao with h8 | h8; exact hS e' h8; rw [h8]; exact hne)
      (fun v J=>by
       simp only [C,List.mem_append] at J;rcases J with (J | J) | J
       ·exact ae v (List.mem_of_mem_take J)
       ·exact h5 v J
       ·exact ae v (List.mem_of_mem_drop J)) aj
     refine ⟨.skip,undef,_,φ,?_, .inr ⟨rfl,rfl⟩,by simp [Qe,QH],hH,E,X⟩;have ax:(a.eval y).cells.size=i.size:=by simp at an; omega
     simp [execOp,ho,Instr.storeAt,J,Instr.sureAddr,storeVar,QU hi,ax,af,C]
    ·cases O
   ·cases O
  ·cases O
 ·cases O
def fQ (P:Program) (T:Nat→Option AV) (h:QG) (t:TypeId) (x:Operand):Option Xe :=
 match P.underlying t,Za T x with
 | some (.slice _),some (.vsl _ tk n)=>match h tk with | some (.vec _ _ es)=>if n=es.length then some (.p (.val (.int .i64 n)),none,[tk]) else none | _=>none
 | some (.slice _),some .vnil=>some (.p (.val (.int .i64 0)),none,[])
 | _,_=>none
theorem Qcq (r:Q6 φ M0 N D T h a w) (ho:o.op=.call ⟨.builtin .len,#[x],#[t]⟩) (G:fQ P T h t x=some u):u.2.1=none∧Yield P o φ M0 h a w u.1 h:=by
 unfold fQ at G;split at G
 ·rename_i e S tk n Y Z;split at G
  ·rename_i ty S' es hb;split at G
   ·rename_i hn;simp only [QN] at G;subst G;have O:=r.ev Z;simp only [Qe] at O;obtain ⟨_,Vs,aa,J,ab,U⟩:=O;rw [hb] at J;cases J;obtain ⟨cap,c,U,_⟩:=U hn;refine ⟨rfl,Ql r (v:=.int .i64 n) ?_ (by simp [Qe,QH])⟩;simp [execOp,ho,resolve,invoke,builtin,Builtin.len_,run_underlying Y,U,goInt]
   ·cases G
  ·cases G
 ·rename_i e Y Z;simp only [QN] at G;subst G;have O:=r.ev Z;simp only [Qe] at O;refine ⟨rfl,Ql r (v:=.int .i64 0) ?_ (by simp [Qe,QH])⟩;simp [execOp,ho,resolve,invoke,builtin,Builtin.len_,run_underlying Y,O,goInt]
 ·cases G
end
section
variable {P:Program} {o:Oper} {φ:Nat→Nat} {M0:Zn} {N:Nat} {D:DB} {T:Nat→Option AV} {h:QG} {a:Act} {w:World}
def BJ:List Value→Bool
 | []=>true
 | v :: l=>v.oneCell'&&BJ l
theorem TB:∀ {l:List Value},BJ l=true→∀ v ∈ l,v.oneCell'=true
 | [],_,v,G=>by simp at G
 | x :: l,J,v,G=>by
  simp only [BJ,Ze] at J;rcases List.mem_cons.1 G with rfl | G
  ·exact J.1
  ·exact TB J.2 v G
theorem zF {z:Array Value} (G:v ∈ (Builtin.zeroCells z n).toList) (J:0 < z.size):v ∈ z.toList:=by
 simp only [Builtin.zeroCells,Array.toList_map,List.mem_map] at G;obtain ⟨k,_,rfl⟩:=G;have:k % z.size < z.size:=Nat.mod_lt _ J;rw [getElem!_pos z _ this];simp
theorem TC {M:Zn}:∀ {cs:List PV} {l:List Value},l.length=cs.length→(∀ (j:Nat) c u,cs[j]?=some c→l[j]?=some u→QH w M c u)→Qi φ h w M (cs.map .p) l
 | [],l,G,_=>by simp at G; subst G; simp [Qi]
 | c :: cs,[],G,_=>by simp at G
 | c :: cs,u :: l,G,J=>by
  simp only [List.map_cons,Qi];refine ⟨u,l,rfl,?_,TC (by simpa using G) (fun j c' u' U O=>J (j+1) c' u' (by simpa using U) (by simpa using O))⟩;simp only [Qe];exact J 0 c u zq zq
def TD (P:Program) (T:Nat→Option AV) (h:QG) (dst:Option Tmp) (t:TypeId) (s x:Operand):Option Xe :=
  match P.underlying t,Za T s,Za T x with
  | some (.slice e),some sv,some xv =>
    match P.info? e with
    | some i =>
      match i.zero,Nr i.size xv with
      | some z,some es' =>
        if z.cells.size=i.size∧0 < i.size∧BJ z.cells.toList=true then
          match sv with
          | .vnil =>
            if es'=[] then some (.vnil,none,[]) else
            (match dst with
             | some d=>if h d=none∧es'.length * i.bytes≤140737488355328∧es'.length≤140737488355328 then some (.vsl i.size d es'.length,some (d, .vec e i.size es'),[d]) else none
             | none=>none)
          | .vsl S tk n =>
            (match h tk with
             | some (.vec ty G es) =>
               if ty=e∧G=S∧S=i.size∧n=es.length∧(es.length+es'.length) * i.bytes≤140737488355328∧es.length+es'.length≤140737488355328 then
                 if es'=[] then some (.vsl S tk n,some (tk, .vec e S es),[tk]) else
                 some (.vsl S tk (n+es'.length),some (tk, .vec e S (es++es')),[tk]) else none
             | _=>none)
          | _=>none
        else none
      | _,_=>none
    | none=>none
  | _,_,_=>none
theorem fT (r:Q6 φ M0 N D T h a w) {s:Operand} (ho:o.op=.call ⟨.builtin .append,#[s,x],#[t,t]⟩) (J:TD P T h o.dst t s x=some u):Yield P o φ M0 h a w u.1 (ap h u.2.1):=by
 unfold TD at J;split at J;rotate_left
 ·cases J
 rename_i e sv xv ht hs hx;split at J;rotate_left
 ·cases J
 rename_i i hi;split at J;rotate_left
 ·cases J
 rename_i z es' hz bi;split at J;rotate_left
 ·cases J
 rename_i a6;refine Yield.of_lift r 1 fun φ r E0 X0 hC=>?_
 have ah:=OJ bi (r.ev hx);have af:=r.ev hs;have bh:∀ n,∀ v ∈ (Builtin.zeroCells z.cells n).toList,v.oneCell'=true:=fun n v U=>TB a6.2.2 v (zF U zo)
 split at J
 ·simp only [Qe] at af;split at J
  ·rename_i ba;subst ba;simp only [QN] at J;subst J;simp only [ap];refine Ql r (v:=.slice none 0 0) ?_ (by simp [Qe]);simp only [QH] at ah;rcases ah with ⟨rr,oo,cap,h1,_⟩ | ⟨_,q,cap,h1⟩
   ·exact Z5 ho (by rw [af,h1]; exact Yo ht hi _ _ _ _ _ zq)
   ·exact Z5 ho (by rw [af,h1]; exact Yo ht hi _ _ _ _ _ zq)
  ·rename_i hne;split at J;rotate_left
   ·cases J
   rename_i d bv;split at J;rotate_left
   ·cases J
   rename_i hc;obtain ⟨hd,bb,bj⟩:=hc;simp only [QN] at J;subst J;simp only [ap];have ay:es' ≠ []:=fun e=>hne e
   obtain ⟨rr,oo,cap,l,h1,h2,h3,h4,h5,h6,h7,h8⟩:=Xh ah ay;have aw:0 < es'.length:=List.length_pos_iff.2 ay;have ab:=run_append_nil (P:=P) w t o.type e i z ht hi hz ⟨rr,oo,none⟩ es'.length cap l (by rw [h5]) (fun j v hj=>by rw [Addr.add_lit]; exact h6 j v hj) aw zo zo;have aj:=grownCap_ge w es'.length 0 e;have aq:grownCap w es'.length 0 e≤maxLen:=grownCap_le_maxLen w es'.length 0 e (by unfold maxLen; omega);generalize grownCap w es'.length 0 e=gc at *
   let C:Array Value:=l.toArray++Builtin.zeroCells z.cells (gc - es'.length)
   let w':World:=w.drew.alloc (.cells C e)
   obtain ⟨E,X⟩:=XN (w:=w) (w':=w') (o:=.cells C e) (b:=d) (k:=.vec e i.size es') (φ:=φ) (h:=h) (M0:=M0) rfl rfl rfl rfl hd r.hp hC
   have aa:C.size=gc * i.size:=by
    simp only [C,Array.size_append,List.size_toArray,size_zeroCells,a6.1,h5];rw [← Nat.add_mul]; congr 1; omega
   have G:w'.heap[w.heap.size]?=some (.cells C e (0,0)):=by show (w.heap.push _)[w.heap.size]?=_; simp
   have am:∀ v ∈ C.toList,v.oneCell'=true:=by
    intro v U;simp only [C,Array.toList_append,List.mem_append] at U;rcases U with U | U
    ·exact h7 v U
    ·exact bh _ v U
   have al:C.toList.take (es'.length * i.size)=l:=by
    simp only [C,Array.toList_append];rw [← h5,List.take_left]
   have bf:Qi φ h w (MM φ h M0) (es'.flatten.map .p) l:=TC (by rw [h5,Zj h3]) h8;have hH:Zw (Qu φ d w.heap.size) (upd h d (.vec e i.size es')) w' M0:=XO rfl hd r.hp hC E X ⟨C,gc,G,aa,aj,aq,h3,am,by rw [al]; exact (QI (E.keeps M0) X).2 _ _ bf⟩;refine ⟨_, .slice (some ⟨w.heap.size,0,none⟩) es'.length gc,w',Qu φ d w.heap.size,Z5 ho (by rw [af,h1]; exact ab), .inl rfl,?_,hH,E,X⟩;simp only [Qe];exact ⟨rfl,e,es',by simp [upd],Nat.le_refl _,fun _=>⟨gc,C,by simp [Qu],by simpa [Qu] using G,aa,aj,aq⟩⟩
 ·rename_i S tk n;split at J;rotate_left
  ·cases J
  rename_i ty S' es Y;simp only [Qe] at af;obtain ⟨bn,Vs,bw,az,bg,ac⟩:=af;rw [Y] at az;cases az;split at J;rotate_left
  ·cases J
  rename_i hc;obtain ⟨rfl,_,rfl,rfl,bb,bj⟩:=hc;obtain ⟨O,c0,a8,ao,ae,ai,an⟩:=ac rfl;obtain ⟨c1,bu,be,bt,bk,bo,bm,ar,au⟩:=r.hp.blk tk _ Y;rw [ao] at be;cases be;split at J
  ·rename_i ax;simp only [QN] at J;subst J;simp only [ap]
   have bd:upd h tk (.vec ty i.size es)=h:=by
    funext b;simp only [upd];split
    ·rename_i e; rw [← e,Y]
    ·rfl
   rw [bd];refine Ql r (v:=a.eval s) ?_ (by simp only [Qe]; exact ⟨bn,ty,es,Y,bg,ac⟩)
   have bp:∃ q c,a.eval x=.slice q 0 c:=by
    subst ax;simp only [QH] at ah;rcases ah with ⟨rr,oo,cap,h1,_⟩ | ⟨_,q,cap,h1⟩
    ·exact ⟨_,_,by simpa using h1⟩
    ·exact ⟨q,cap,h1⟩
   obtain ⟨q,c,hq⟩:=bp;exact Z5 ho (by rw [hq,a8]; exact Yo ht hi _ _ _ _ _ ai)
  ·rename_i ax;simp only [QN] at J;subst J;simp only [ap];obtain ⟨rr,oo,cap,l,h1,h2,h3,h4,h5,h6,h7,h8⟩:=Xh ah ax;have aw:0 < es'.length:=List.length_pos_iff.2 ax;have av:Qi φ h w (MM φ h M0) (es'.flatten.map .p) l:=TC (by rw [h5,Zj h3]) h8;have ak:∀ e ∈ es++es',e.length=i.size:=fun e J=>(List.mem_append.1 J).elim (bm e) (h3 e)
   have br:es.length * i.size≤c0.size:=by rw [ae]; exact Nat.mul_le_mul_right _ ai
   by_cases Z:es.length+es'.length≤O
   ·have bc:es.length * i.size+l.length≤c0.size:=by rw [h5,ae,← Nat.add_mul]; exact Nat.mul_le_mul_right _ Z
    have ab:=run_append_room (P:=P) w t o.type ty i ht hi (φ tk) es.length O c0 ao ⟨rr,oo,none⟩ es'.length cap l (by rw [h5]) (fun j v hj=>by rw [Addr.add_lit]; exact h6 j v hj) h7 Z bc
    let C:Array Value:=(c0.toList.take (es.length * i.size)++l++c0.toList.drop (es.length * i.size+l.length)).toArray
    have bq:(c0.toList.take (es.length * i.size)).length=es.length * i.size:=by simp; omega
    have aa:C.size=c0.size:=by simp [C]; omega
    obtain ⟨E,X⟩:=Ak (φ:=φ) (h:=h) (w:=w) (M0:=M0) (es':=es++es') (c':=C) Y ao zq aa r.hp;have G:(w.setRow (φ tk) C).heap[φ tk]?=some (.cells C ty (0,0)):=setRow_heap w _ c0 C ty _ ao
    have am:∀ v ∈ C.toList,v.oneCell'=true:=by
     intro v U;simp only [C,List.mem_append] at U;rcases U with (U | U) | U
     ·exact ar v (List.mem_of_mem_take U)
     ·exact h7 v U
     ·exact ar v (List.mem_of_mem_drop U)
    have al:C.toList.take ((es++es').length * i.size)=c0.toList.take (es.length * i.size)++l:=by
     simp only [C];have:(es++es').length * i.size=(c0.toList.take (es.length * i.size)++l).length:=by rw [YY,YY,bq,h5,Nat.add_mul]
     rw [this,List.take_left]
    have hH:Zw φ (upd h tk (.vec ty i.size (es++es'))) (w.setRow (φ tk) C) M0 :=
     OO Y r.hp E X (fun _ _=>rfl) (.inl rfl) (fun d hd bl=>setRow_other w _ _ C (fun e=>bl (r.hp.inj d tk hd (by rw [Y]; simp) e))) G (by rw [aa,ae]) (by simpa using Z) an ak am
      (by rw [al,List.flatten_append,List.map_append]; exact Zi au av)
    refine ⟨_, .slice (some ⟨φ tk,0,none⟩) (es.length+es'.length) O,_,φ,Z5 ho (by rw [a8,h1]; exact ab), .inl rfl,?_,hH,E,X⟩;simp only [Qe];exact ⟨rfl,ty,es++es',by simp [upd],by simp,fun _=>⟨O,C,rfl,G,by rw [aa,ae],Z,an⟩⟩
   ·have a7:(c0.toList.take (es.length * i.size)).length=es.length * i.size:=by simp; omega
    have ab:=run_append_grow (P:=P) w t o.type ty i z ht hi hz ⟨φ tk,0,none⟩ es.length O (c0.toList.take (es.length * i.size)) a7 (fun j v hj=>by
      rw [Addr.add_lit,Nat.zero_add,ZU ao];rw [List.getElem?_take] at hj;split at hj
      ·simpa using hj
      ·cases hj) ⟨rr,oo,none⟩ es'.length cap l (by rw [h5])
     (fun j v hj=>by rw [Addr.add_lit]; exact h6 j v hj) zo zo (growslice_fits zo bb)
    have aj:=grownCap_ge w (es.length+es'.length) O ty;have aq:grownCap w (es.length+es'.length) O ty≤maxLen:=grownCap_le_maxLen w _ O ty (by unfold maxLen; omega);generalize grownCap w (es.length+es'.length) O ty=gc at *
    let C:Array Value:=(c0.toList.take (es.length * i.size)).toArray++l.toArray++Builtin.zeroCells z.cells (gc - (es.length+es'.length))
    let w':World:=w.drew.alloc (.cells C ty)
    obtain ⟨E,X⟩:=vC (w:=w) (w':=w') (ob:=.cells C ty) (φ:=φ) (h:=h) (M0:=M0) (es':=es++es') Y (by simp; exact aw) rfl rfl rfl rfl r.hp hC
    have aa:C.size=gc * i.size:=by
     simp only [C,Array.size_append,List.size_toArray,size_zeroCells,a6.1,h5,a7];rw [← Nat.add_mul,← Nat.add_mul]; congr 1; omega
    have G:w'.heap[w.heap.size]?=some (.cells C ty (0,0)):=by show (w.heap.push _)[w.heap.size]?=_; simp
    have ad:Qu φ tk w.heap.size tk=w.heap.size:=by simp [Qu]
    have am:∀ v ∈ C.toList,v.oneCell'=true:=by
     intro v U;simp only [C,Array.toList_append,List.mem_append] at U;rcases U with (U | U) | U
     ·exact ar v (List.mem_of_mem_take U)
     ·exact h7 v U
     ·exact bh _ v U
    have al:C.toList.take ((es++es').length * i.size)=c0.toList.take (es.length * i.size)++l:=by
     simp only [C,Array.toList_append];have:(es++es').length * i.size=(c0.toList.take (es.length * i.size)++l).length:=by rw [YY,YY,a7,h5,Nat.add_mul]
     rw [this,List.take_left]
    have hH:Zw (Qu φ tk w.heap.size) (upd h tk (.vec ty i.size (es++es'))) w' M0 :=
     OO Y r.hp E X (fun b hb=>by simp [Qu,Ne.symm hb]) (.inr ⟨ad,hC⟩) (fun d hd _=>hC.lt r.hp (w':=w') (by show (w.heap.push _).size≤_; simp) (fun x hx=>by show (w.heap.push _)[x]?=_; rw [Array.getElem?_push,if_neg zo]) hd) (by rw [ad]; exact G) aa (by simpa using aj) aq ak am
      (by rw [al,List.flatten_append,List.map_append]; exact Zi au av)
    refine ⟨_, .slice (some ⟨w.heap.size,0,none⟩) (es.length+es'.length) gc,w',Qu φ tk w.heap.size,Z5 ho (by rw [a8,h1]; exact ab), .inl rfl,?_,hH,E,X⟩;simp only [Qe];exact ⟨rfl,ty,es++es',by simp [upd],by simp,fun _=>⟨gc,C,by rw [ad],by rw [ad]; exact G,aa,aj,aq⟩⟩
 ·cases J
def OQ (P:Program) (T:Nat→Option AV) (h:QG) (dst:Option Tmp) (t:TypeId) (x y:Operand):Option Xe :=
 match P.underlying t,Za T x,Za T y,dst with
 | some (.slice e),some (.p (.val (.int J l))),some (.p (.val (.int G c))),some d =>
  match P.info? e with
  | some i =>
   match i.zero,h d with
   | some z,none =>
    match Dj (z.cells.toList.map zu) with
    | some ps =>
     if z.cells.size=i.size∧0 < i.size∧BJ z.cells.toList=true∧ps.length=i.size∧0≤l∧l≤c∧(i.bytes:Int) * c≤281474976710656∧c≤140737488355328 then
      some (.vsl i.size d l.toNat,some (d, .vec e i.size (List.replicate l.toNat ps)),[d])
     else none
    | none=>none
   | _,_=>none
  | none=>none
 | _,_,_,_=>none
theorem zG:∀ {l:List Value} {ps:List PV},Dj (l.map zu)=some ps→Qi φ h w M (ps.map .p) l
 | l,ps,G=>Ci G (repAs_ofV l)
where repAs_ofV:∀ l:List Value,Qi φ h w M (l.map zu) l
 | []=>by simp [Qi]
 | x :: l=>by simp only [List.map_cons,Qi]; exact ⟨x,l,rfl,V9 x,repAs_ofV l⟩
theorem Du (f:α→β) (l:List α) (n:Nat):(List.replicate n l).flatten.map f=(List.replicate n (l.map f)).flatten:=by
 induction n with
 | zero=>rfl
 | succ n G=>simp [List.replicate_succ,G]
theorem iN (r:Q6 φ M0 N D T h a w) (ho:o.op=.makeSlice t x y) (G:OQ P T h o.dst t x y=some u):Yield P o φ M0 h a w u.1 (ap h u.2.1):=by
 unfold OQ at G;split at G;rotate_left
 ·cases G
 rename_i e kl l kc c d ht hx hy ak;split at G;rotate_left
 ·cases G
 rename_i i hi;split at G;rotate_left
 ·cases G
 rename_i z hz hd;split at G;rotate_left
 ·cases G
 rename_i ps af;split at G;rotate_left
 ·cases G
 rename_i hc;obtain ⟨h1,h2,h3,h4,h5,h6,h7,h8⟩:=hc;simp only [QN] at G;subst G;simp only [ap];refine Yield.of_lift r 1 fun φ r E0 X0 hC=>?_
 have Z:=r.ev hx;have ab:=r.ev hy;simp only [Qe,QH] at Z ab;have ad:=run_make (P:=P) w t e i z ht hi hz kl kc l c h5 h6 h7 zo
 let C:Array Value:=madeCells z.cells (c.toNat * i.size)
 let w':World:=w.alloc (.cells C e)
 have O:C.toList=(List.replicate c.toNat z.cells.toList).flatten:=by
  have:=BI z.cells.toList i.size (by simpa using h1) h2 c.toNat;simp only [Array.toArray_toList] at this;rw [← this];simp [C,madeCells,Array.toList_range]
 obtain ⟨E,X⟩:=XN (w:=w) (w':=w') (o:=.cells C e) (b:=d) (k:=.vec e i.size (List.replicate l.toNat ps)) (φ:=φ) (h:=h) (M0:=M0) rfl rfl rfl rfl hd r.hp hC;have J:w'.heap[w.heap.size]?=some (.cells C e (0,0)):=by show (w.heap.push _)[w.heap.size]?=_; simp
 have ac:C.size=c.toNat * i.size:=by simp [C,madeCells]
 have aj:l.toNat≤c.toNat:=by omega
 have aa:c.toNat≤maxLen:=by unfold maxLen; omega
 have ai:∀ v ∈ C.toList,v.oneCell'=true:=by
  intro v Y;rw [O] at Y;obtain ⟨q,hq,Y⟩:=List.mem_flatten.1 Y;rw [List.eq_of_mem_replicate hq] at Y;exact TB h3 v Y
 have ah:C.toList.take ((List.replicate l.toNat ps).length * i.size)=(List.replicate l.toNat z.cells.toList).flatten:=by
  rw [O,List.length_replicate,show c.toNat=l.toNat+(c.toNat - l.toNat) from by omega,← List.replicate_append_replicate,List.flatten_append];have:l.toNat * i.size=((List.replicate l.toNat z.cells.toList).flatten).length:=by simp [h1]
  rw [this,List.take_left]
 have U:Qi φ h w (MM φ h M0) ((List.replicate l.toNat ps).flatten.map .p) ((List.replicate l.toNat z.cells.toList).flatten):=by
  rw [Du];exact J3 (zG af) _
 have hH:Zw (Qu φ d w.heap.size) (upd h d (.vec e i.size (List.replicate l.toNat ps))) w' M0 :=
  XO rfl hd r.hp hC E X ⟨C,c.toNat,J,ac,by simp; omega,aa,fun e' ae=>by rw [List.eq_of_mem_replicate ae]; exact h4,ai,by rw [ah]; exact (QI (E.keeps M0) X).2 _ _ U⟩
 refine ⟨_, .slice (some ⟨w.heap.size,0,none⟩) l.toNat c.toNat,w',Qu φ d w.heap.size,?_, .inl rfl,?_,hH,E,X⟩
 ·simp [execOp,ho,Z,ab,ad,w',C]
 ·simp only [Qe];exact ⟨rfl,e,List.replicate l.toNat ps,by simp [upd],by simp,fun _=>⟨c.toNat,C,by simp [Qu],by simpa [Qu] using J,ac,aj,aa⟩⟩
def fU (P:Program) (h:QG) (dst:Option Tmp) (t:TypeId) (parts:Array (Nat × Operand)):Option Xe :=
 match P.underlying t,dst,parts.toList with
 | some (.slice e),some d,[] =>
  match P.info? e,h d with
  | some i,none=>some (.vsl i.size d 0,some (d, .vec e i.size []),[d])
  | _,_=>none
 | _,_,_=>none
theorem Qcr (r:Q6 φ M0 N D T h a w) (ho:o.op=.buildSlice t 0 parts) (J:fU P h o.dst t parts=some u):Yield P o φ M0 h a w u.1 (ap h u.2.1):=by
 unfold fU at J;split at J;rotate_left
 ·cases J
 rename_i e d ht Y O;split at J;rotate_left
 ·cases J
 rename_i i hi hd;simp only [QN] at J;subst J;simp only [ap];refine Yield.of_lift r 1 fun φ r E0 X0 Z=>?_
 have U:parts=#[]:=by apply Array.ext'; simpa using O
 let w':World:=w.alloc (.cells #[] e)
 obtain ⟨E,X⟩:=XN (w:=w) (w':=w') (o:=.cells #[] e) (b:=d) (k:=.vec e i.size []) (φ:=φ) (h:=h) (M0:=M0) rfl rfl rfl rfl hd r.hp Z;have G:w'.heap[w.heap.size]?=some (.cells #[] e (0,0)):=by show (w.heap.push _)[w.heap.size]?=_; simp
 have hH:Zw (Qu φ d w.heap.size) (upd h d (.vec e i.size [])) w' M0 :=
  XO rfl hd r.hp Z E X ⟨#[],0,G,by simp,by simp,by unfold maxLen; omega,by simp,by simp,by simp [Qi]⟩
 refine ⟨_, .slice (some ⟨w.heap.size,0,none⟩) 0 0,w',Qu φ d w.heap.size,?_, .inl rfl,?_,hH,E,X⟩
 ·have e2:(Array.range 0).map (fun _=>(default:Value))=#[]:=by apply Array.ext'; simp
  subst U;simp only [execOp,ho,Instr.buildSlice,Sem.run_bind,run_underlying ht,QU hi,Result.andThen_ok,Nat.zero_mul,if_true,Sem.run_pure];simp [newRow,newObj,Sem.run,w',e2,Instr.fill]
 ·simp only [Qe];exact ⟨rfl,e,[],by simp [upd],by simp,fun _=>⟨0,#[],by simp [Qu],by simpa [Qu] using G,by simp,by simp,by unfold maxLen; omega⟩⟩
def pR:Option AV→Bool
 | some (.vptr _ _ _ _)=>true
 | some (.vsl _ _ _)=>true
 | some .vnil=>true
 | _=>false
variable {T':Nat→Option AV} {h':QG}
theorem Sn (G:Xi P T h t x ix=some u) (U:Za T' x=Za T x) (hi:Za T' ix=Za T ix) (O:∀ b ∈ u.2.2,h' b=h b):Xi P T' h' t x ix=some u:=by
 unfold Xi at G ⊢;rw [U,hi];split at G
 ·split at G
  ·rename_i hb J;split at G
   ·rename_i hc;simp only [QN] at G;subst G;simp only [O _ (List.mem_singleton.2 rfl),hb,J];rw [if_pos hc]
   ·cases G
  ·cases G
 ·split at G
  ·rename_i hb J;split at G
   ·rename_i hc;simp only [QN] at G;subst G;simp only [O _ (List.mem_singleton.2 rfl),hb,J];rw [if_pos hc]
   ·cases G
  ·cases G
 ·cases G
theorem Sq {f:Nat} (G:Xj P T h t x f=some u) (U:Za T' x=Za T x) (J:∀ b ∈ u.2.2,h' b=h b):Xj P T' h' t x f=some u:=by
 unfold Xj at G ⊢;rw [U];split at G
 ·split at G
  ·rename_i hf hb;split at G
   ·rename_i hi;split at G
    ·cases G
    ·rename_i O;split at G
     ·rename_i hc;simp only [QN] at G;subst G;simp only [J _ (List.mem_singleton.2 rfl),hb,hf,hi];rw [if_neg O,if_pos hc]
     ·cases G
   ·cases G
  ·cases G
 ·cases G
theorem jY (G:OP P T h t x=some u) (U:Za T' x=Za T x) (O:∀ b ∈ u.2.2,h' b=h b):OP P T' h' t x=some u:=by
 unfold OP at G ⊢;rw [U];split at G
 ·rename_i d i tk n k f _ _ _;split at G
  ·rename_i ty S es hb
   have J:h' tk=some (.vec ty S es):=by
    rw [← hb];refine O tk ?_;split at G
    ·split at G
     ·split at G
      ·split at G
       ·simp only [QN] at G; subst G; simp
       ·cases G
      ·split at G
       ·simp only [QN] at G; subst G; simp
       ·cases G
     ·cases G
    ·cases G
   simp only [J];exact G
  ·cases G
 ·cases G
theorem vD (G:Ns P T h t x y=some u) (Z:Za T' x=Za T x) (Y:Za T' y=Za T y) (O:∀ b ∈ u.2.2,h' b=h b):Ns P T' h' t x y=some u:=by
 unfold Ns at G ⊢;rw [Z,Y];split at G
 ·split at G
  ·rename_i hb U;split at G
   ·rename_i hp J;split at G
    ·rename_i hc;simp only [QN] at G;subst G;simp only [O _ (List.mem_singleton.2 rfl),hb,U,hp,J];rw [if_pos hc]
    ·cases G
   ·cases G
  ·cases G
 ·cases G
def rG (T:Nat→Option AV) (h:QG) (x:Operand):Option Xe :=
 match Za T x with
 | some (.vptr tk n k f)=>match h tk with
  | some (.vec _ _ es)=>if n=es.length then some (.vptr tk n k f,none,[tk]) else none
  | _=>none
 | _=>none
theorem fV (G:rG T h x=some u) (U:Za T' x=Za T x) (O:∀ b ∈ u.2.2,h' b=h b):rG T' h' x=some u:=by
 unfold rG at G ⊢;rw [U];split at G
 ·rename_i tk n k f _;split at G
  ·rename_i ty S es hb
   have J:h' tk=some (.vec ty S es):=by
    rw [← hb];refine O tk ?_;split at G
    ·simp only [QN] at G; subst G; simp
    ·cases G
   simp only [J];exact G
  ·cases G
 ·cases G
theorem fZ (G:fQ P T h t x=some u) (O:Za T' x=Za T x) (J:∀ b ∈ u.2.2,h' b=h b):fQ P T' h' t x=some u:=by
 unfold fQ at G ⊢;rw [O];split at G
 ·split at G
  ·rename_i hb;split at G
   ·rename_i hc;simp only [QN] at G;subst G;simp only [J _ (List.mem_singleton.2 rfl),hb];rw [if_pos hc]
   ·cases G
  ·cases G
 ·exact G
 ·cases G
theorem zH {s:Operand} (G:TD P T h dst t s x=some u) (hs:Za T' s=Za T s) (hx:Za T' x=Za T x) (Z:∀ b ∈ u.2.2,h' b=h b):TD P T' h' dst t s x=some u:=by
 unfold TD at G ⊢;rw [hs,hx];split at G
 ·split at G
  ·split at G
   ·split at G
    ·rename_i U;rw [if_pos U];split at G
     ·split at G
      ·rename_i J; rw [if_pos J]; exact G
      ·rename_i J;rw [if_neg J];split at G
       ·rename_i d;split at G
        ·rename_i hc;simp only [QN] at G;subst G;have:h' d=none:=by rw [Z d zq]; exact hc.1
         simp only [this];rw [if_pos ⟨trivial,hc.2⟩]
        ·cases G
       ·cases G
     ·rename_i S tk n _;split at G
      ·rename_i ty S' es Y
       have O:h' tk=some (.vec ty S' es):=by
        rw [← Y];refine Z tk ?_;split at G
        ·split at G
         ·simp only [QN] at G; subst G; simp
         ·simp only [QN] at G; subst G; simp
        ·cases G
       simp only [O];exact G
      ·cases G
     ·cases G
    ·cases G
   ·cases G
  ·cases G
 ·cases G
theorem jZ (G:OQ P T h dst t x y=some u) (Y:Za T' x=Za T x) (U:Za T' y=Za T y) (J:∀ b ∈ u.2.2,h' b=h b):OQ P T' h' dst t x y=some u:=by
 unfold OQ at G ⊢;rw [Y,U];split at G
 ·rename_i d _ _ _;split at G
  ·split at G
   ·rename_i O Z;split at G
    ·rename_i hp;split at G
     ·rename_i hc;simp only [QN] at G;subst G;simp only [J d zq,Z,O,hp];rw [if_pos hc]
     ·cases G
    ·cases G
   ·cases G
  ·cases G
 ·cases G
theorem mh {ps:Array (Nat × Operand)} (G:fU P h dst t ps=some u) (J:∀ b ∈ u.2.2,h' b=h b):fU P h' dst t ps=some u:=by
 unfold fU at G ⊢;split at G
 ·rename_i d _ _;split at G
  ·rename_i hi O;simp only [QN] at G;subst G;simp only [J d zq,O,hi]
  ·cases G
 ·cases G
end
theorem Qcs (r:Q6 φ M0 N D T h a w) (U:o.op=.nilCheck x) (G:rG T h x=some u):u.2.1=none∧Yield P o φ M0 h a w u.1 h:=by
 unfold rG at G;split at G
 ·rename_i tk n k f hx;split at G
  ·rename_i ty S es hb;split at G
   ·rename_i hn;simp only [QN] at G;subst G;have O:=r.ev hx;refine ⟨rfl,Ql r (v:=a.eval x) ?_ O⟩;simp only [Qe] at O;obtain ⟨_,Vs,S2,Z,J,aa,hv⟩:=O;rw [hb] at J;cases J;have Y:=hv hn;simp [execOp,U,Y]
   ·cases G
  ·cases G
 ·cases G
section
variable {P:Program} {o:Oper} {φ:Nat→Nat} {M0:Zn} {N:Nat} {D:DB} {T:Nat→Option AV} {h:QG} {a:Act} {w:World}
def BK (P:Program) (T:Nat→Option AV) (t:TypeId) (x ix:Operand):Option Xe :=
 match P.underlying t,Za T x,Za T ix with
 | some .string,some (.p (.val (.string s))),some (.p (.val (.int _ n))) =>
  if 0≤n then (match (JO s)[n.toNat]? with | some b=>some (.p (.val (.int .u8 b.toNat)),none,[]) | none=>none) else none
 | _,_,_=>none
theorem rH (r:Q6 φ M0 N D T h a w) (Y:o.op=.index t x ix) (G:BK P T t x ix=some u):u.2.1=none∧Yield P o φ M0 h a w u.1 h:=by
 unfold BK at G;split at G
 ·rename_i s k n ht hx hi;split at G
  ·rename_i Z;split at G
   ·rename_i b hb;simp only [QN] at G;subst G;have U:=r.ev hx;have O:=r.ev hi;simp only [Qe,QH] at U O;refine ⟨rfl,Ql r (v:=.int .u8 b.toNat) ?_ (by simp [Qe,QH])⟩
    have J:s[n.toNat]?=some b:=by
     simp only [JO] at hb;rw [← hb];rw [Array.getElem?_toList];rfl
    simp [execOp,Y,Instr.index,U,O,asIntOf,run_underlying ht,Z,J]
   ·cases G
  ·cases G
 ·cases G
def xc (P:Program) (T:Nat→Option AV) (t:TypeId) (x:Operand):Option Xe :=
 match P.underlying t,Za T x with
 | some .string,some (.p (.val (.string s)))=>some (.p (.val (.int .i64 (JO s).length)),none,[])
 | _,_=>none
theorem Qct (r:Q6 φ M0 N D T h a w) (O:o.op=.call ⟨.builtin .len,#[x],#[t]⟩) (G:xc P T t x=some u):u.2.1=none∧Yield P o φ M0 h a w u.1 h:=by
 unfold xc at G;split at G
 ·rename_i s U Y;simp only [QN] at G;subst G;have J:=r.ev Y;simp only [Qe,QH] at J;refine ⟨rfl,Ql r (v:=.int .i64 s.size) ?_ ?_⟩
  ·simp only [execOp,O,resolve,invoke,builtin,Builtin.len_,Sem.run_bind,Sem.run_pure,Result.andThen_ok];simp [run_underlying U,J,goInt]
  ·simp only [Qe,QH]; rfl
 ·cases G
def Cj (P:Program) (ty:TypeId) (l:List Value) (off:Nat):Option Value :=
 match P.underlying ty,P.info? ty with
 | some d,some i=>if H9 d then (if off+i.size≤l.length then some (.agg ((l.drop off).take i.size).toArray) else none) else l[off]?
 | _,_=>none
def eqV (P:Program):Nat→TypeId→Value→Value→Option Bool
 | 0,_,_,_=>none
 | d+1,t,x,y =>
  match P.underlying t with
  | some .bool=>match x,y with | .bool a, .bool b=>some (a == b) | _,_=>none
  | some (.int _)=>match x,y with | .int k a, .int k' b=>if k=k' then some (Qr a b) else none | _,_=>none
  | some .string=>match x,y with | .string a, .string b=>some (Qt (JO a) (JO b)) | _,_=>none
  | some (.struct fields)=>match x,y with | .agg xs, .agg ys=>if P.stoodInHeld t then none else eqFs P d xs.toList ys.toList fields.toList | _,_=>none
  | _=>none
where eqFs (P:Program) (d:Nat) (xs ys:List Value):List Field→Option Bool
 | []=>some true
 | f :: G =>
  if f.name="_" then eqFs P d xs ys G else
  match Cj P f.type xs f.offset,Cj P f.type ys f.offset with
  | some a,some b=>match eqV P d f.type a b,eqFs P d xs ys G with | some p,some q=>some (p&&q) | _,_=>none
  | _,_=>none
theorem xe {l:List Value} (G:Cj P ty l off=some v):(part ty l.toArray off).run P w=.ok v w:=by
 unfold Cj at G;split at G
 ·rename_i d i U hi;split at G
  ·rename_i J;split at G
   ·rename_i Y;simp only [QN] at G;subst G;simp [part,Ut U,J,QU hi]
   ·cases G
  ·rename_i J;have O:H9 d=false:=by simpa using J
   simp [part,Ut U,O,G]
 ·cases G
theorem vE:∀ (d:Nat),(∀ (t:TypeId) (x y:Value) (b:Bool),eqV P d t x y=some b→∀ D,d≤D→(Op.equalIn D t x y).run P w=.ok b w) ∧
  (∀ (xs ys:List Value) (O:List Field) (b:Bool),eqV.eqFs P d xs ys O=some b→∀ D,d≤D→(Op.eqFields D xs.toArray ys.toArray O).run P w=.ok b w)
 | 0=>by
  refine ⟨fun t x y b G=>by simp [eqV] at G,?_⟩;intro xs ys O
  induction O with
  | nil=>intro b G D _; simp only [eqV.eqFs,QN] at G; subst G; simp [Op.eqFields]
  | cons f O ih =>
   intro b G D U;simp only [eqV.eqFs] at G;split at G
   ·rename_i Y;simp only [Op.eqFields,Y,ne_eq,not_true_eq_false,if_false];exact ih b G D U
   ·split at G
    ·simp [eqV] at G
    ·cases G
 | d+1=>by
  obtain ⟨i1,i2⟩:=vE d
  have j1:∀ (t:TypeId) (x y:Value) (b:Bool),eqV P (d+1) t x y=some b→∀ D,d+1≤D→(Op.equalIn D t x y).run P w=.ok b w:=by
   intro t x y b G D U;obtain ⟨Z,rfl⟩:∃ Z,D=Z+1:=⟨D - 1,by omega⟩;unfold eqV at G;split at G
   ·rename_i J;split at G
    ·simp only [QN] at G; subst G; simp [Op.equalIn,run_underlying J]
    ·cases G
   ·rename_i k0 J;split at G
    ·rename_i k p k' q;split at G
     ·rename_i hk;simp only [QN] at G; subst G; subst hk; simp [Op.equalIn,run_underlying J,Qr]
     ·cases G
    ·cases G
   ·rename_i J;split at G
    ·rename_i p q;simp only [QN] at G; subst G
     have:(p == q)=Qt (JO p) (JO q):=by
      rw [beq_toListBytes,ByteArray.toList_eq,ByteArray.toList_eq]; rfl
     simp [Op.equalIn,run_underlying J,this]
    ·cases G
   ·rename_i fields J;split at G
    ·rename_i xs ys;split at G
     ·cases G
     ·rename_i hp;have aa:P.stoodInHeld t=false:=by simpa using hp
      have hf:P.fieldsOf t=fields:=by simp [Program.fieldsOf,J]
      rw [run_equalIn_struct w Z t xs ys (by rw [hf]; exact J) aa,hf];have:=i2 xs.toList ys.toList fields.toList b G Z zo;simpa using this
    ·cases G
   ·cases G
  refine ⟨j1,?_⟩;intro xs ys O
  induction O with
  | nil=>intro b G D _; simp only [eqV.eqFs,QN] at G; subst G; simp [Op.eqFields]
  | cons f O ih =>
   intro b G D U;simp only [eqV.eqFs] at G;split at G
   ·rename_i Y;simp only [Op.eqFields,Y,ne_eq,not_true_eq_false,if_false];exact ih b G D U
   ·rename_i Y;split at G
    ·rename_i p q hp hq;split at G
     ·rename_i b1 b2 h1 h2;simp only [QN] at G;subst G;simp only [Op.eqFields,ne_eq,Y,not_false_eq_true,if_true,Sem.run_bind,xe (w:=w) hp,xe (w:=w) hq,Result.andThen_ok,j1 _ _ _ _ h1 D U];cases b1
      ·simp
      ·simpa using ih b2 h2 D U
     ·cases G
    ·cases G
theorem BL {x y:Value} {b:Bool} (h:∀ D,4≤D→(Op.equalIn D t x y).run P w=.ok b w):(Op.equal t x y).run P w=.ok b w:=h 10000 zo
theorem PL {x y:Value} {b:Bool} (h:∀ D,(Op.equalIn (D+1) t x y).run P w=.ok b w):(Op.equal t x y).run P w=.ok b w:=h 9999
def isConst:Operand→Bool
 | .const _=>true
 | _=>false
def mi (P:Program) (T:Nat→Option AV) (op:BinOp) (tx:TypeId) (x y:Operand):Option Bool :=
 match Za T x,Za T y with
 | some (.ifc _ _),some (.p (.val .nilIface))=>match P.underlying tx with | some (.interface _)=>some false | _=>none
 | some (.p (.val .nilIface)),some (.ifc _ _)=>match P.underlying tx with | some (.interface _)=>some false | _=>none
 | some (.p (.val .nilIface)),some (.p (.val .nilIface))=>match P.underlying tx with | some (.interface _)=>if isConst x||isConst y then some true else none | _=>none
 | some (.p (.val (.bool a))),some (.p (.val (.bool b)))=>match P.underlying tx with | some .bool=>some (a == b) | _=>none
 | some (.agg xs),some (.agg ys) =>
  if P.eqGuardType P.depth tx then none else
  match Nn xs,Nn ys with
  | some vx,some vy=>eqV P 4 tx (.agg vx.toArray) (.agg vy.toArray)
  | _,_=>none
 | _,_=>none
def aEq (P:Program) (T:Nat→Option AV) (op:BinOp) (tx:TypeId) (x y:Operand):Option Xe :=
 match op with
 | .eql=>match mi P T op tx x y with | some b=>some (.p (.val (.bool (opq b))),none,[]) | none=>none
 | .neq=>match mi P T op tx x y with | some b=>some (.p (.val (.bool (!opq b))),none,[]) | none=>none
 | _=>none
theorem pU (r:Q6 φ M0 N D T h a w) {b:Bool} (G:mi P T op tx x y=some b) :
  (eqGuard op tx x y (a.eval x) (a.eval y)).run P w=.ok () w∧(Op.equal tx (a.eval x) (a.eval y)).run P w=.ok b w ∧
   (binOp .eql tx (a.eval x) (a.eval y)=(do pure (.bool (← Op.equal tx (a.eval x) (a.eval y))))∧binOp .neq tx (a.eval x) (a.eval y)=(do pure (.bool (!(← Op.equal tx (a.eval x) (a.eval y)))))):=by
 unfold mi at G;split at G
 ·rename_i t v Y U;have O:=r.ev Y;have J:=r.ev U;simp only [Qe,QH] at O J;obtain ⟨z,O,_⟩:=O;split at G
  ·rename_i ms Z;simp only [QN] at G;subst G;rw [O,J];refine ⟨by cases op <;> simp [eqGuard],PL fun D=>by simp [Op.equalIn,run_underlying Z],rfl,rfl⟩
  ·cases G
 ·rename_i t v Y U;have O:=r.ev Y;have J:=r.ev U;simp only [Qe,QH] at O J;obtain ⟨z,J,_⟩:=J;split at G
  ·rename_i ms Z;simp only [QN] at G;subst G;rw [O,J];refine ⟨by cases op <;> simp [eqGuard],PL fun D=>by simp [Op.equalIn,run_underlying Z],rfl,rfl⟩
  ·cases G
 ·rename_i Y U;have O:=r.ev Y;have J:=r.ev U;simp only [Qe,QH] at O J;split at G
  ·rename_i ms Z;split at G
   ·rename_i hc;simp only [QN] at G;subst G;rw [O,J];refine ⟨?_,PL fun D=>by simp [Op.equalIn,run_underlying Z],rfl,rfl⟩;cases x <;> cases y <;> simp [isConst] at hc <;> cases op <;> simp [eqGuard]
   ·cases G
  ·cases G
 ·rename_i p q Y U;have O:=r.ev Y;have J:=r.ev U;simp only [Qe,QH] at O J;split at G
  ·rename_i Z;simp only [QN] at G;subst G;rw [O,J];refine ⟨by cases op <;> simp [eqGuard],PL fun D=>by simp [Op.equalIn,run_underlying Z],rfl,rfl⟩
  ·cases G
 ·rename_i xs ys Y U;have O:=r.ev Y;have J:=r.ev U;simp only [Qe] at O J;obtain ⟨lx,O,h3⟩:=O;obtain ⟨ly,J,h4⟩:=J;split at G
  ·cases G
  ·rename_i hg;have ac:P.eqGuardType P.depth tx=false:=by simpa using hg
   split at G
   ·rename_i vx vy aa ab;have e1:=BG.2 _ _ _ h3 aa;have e2:=BG.2 _ _ _ h4 ab;subst e1 e2;rw [O,J];exact ⟨run_eqGuard_agg w op tx x y _ _ ac,BL fun D hD=>(vE 4).1 _ _ _ _ G D hD,rfl,rfl⟩
   ·cases G
 ·cases G
theorem Qhl (r:Q6 φ M0 N D T h a w) (J:o.op=.binOp op tx x y ty) (G:aEq P T op tx x y=some u):u.2.1=none∧Yield P o φ M0 h a w u.1 h:=by
 unfold aEq at G;split at G
 ·split at G
  ·rename_i b hb;simp only [QN] at G;subst G;obtain ⟨g1,g2,g3,_⟩:=pU r hb;refine ⟨rfl,Ql r (v:=.bool b) ?_ (by simp [Qe,QH,opq])⟩;simp only [execOp,J,Sem.run_bind,g1,g2,g3,Result.andThen_ok,Sem.run_pure]
  ·cases G
 ·split at G
  ·rename_i b hb;simp only [QN] at G;subst G;obtain ⟨g1,g2,_,g3⟩:=pU r hb;refine ⟨rfl,Ql r (v:=.bool (!b)) ?_ (by simp [Qe,QH,opq])⟩;simp only [execOp,J,Sem.run_bind,g1,g2,g3,Result.andThen_ok,Sem.run_pure]
  ·cases G
 ·cases G
end
def W9 (P:Program) (t:TypeId) (v:Value):Bool:=match P.underlying t,v with
 | some .bool, .bool _=>true
 | some (.int _), .int _ _=>true
 | some .string, .string _=>true
 | _,_=>false
def Vd (P:Program):Nat→List Field→List Value→Bool
 | _,[],[]=>true
 | i,f :: J,v :: G=>decide (f.offset=i)&&(f.name != "_")&&W9 P f.type v&&Vd P (i+1) J G
 | _,_,_=>false
def Cm (P:Program) (t:TypeId) (v:Value):Bool:=W9 P t v||match P.underlying t,v with
 | some (.struct fields), .agg cs=>Vd P 0 fields.toList cs.toList
 | _,_=>false
section
variable {P:Program} {w:World}
theorem PM (h:W9 P t v=true) (e:Bool) (n:Nat):(Instr.checkKey e (n+1) t v).run P w=.ok () w:=by
 unfold W9 at h;unfold Instr.checkKey;cases hd:P.underlying t with
 | none=>simp [hd] at h
 | some d =>
  simp only [Sem.run_bind,run_underlying hd,Result.andThen];rw [hd] at h;cases d <;> cases v <;> simp_all
theorem TE (h:W9 P t v=true) {k:TypeDesc} (G:P.underlying t=some k):H9 k=false:=by
 unfold W9 at h;rw [G] at h;cases k <;> first | rfl | (cases v <;> simp at h)
theorem Fp (h:Cm P t v=true):W9 P t v=true∨∃ fields cs,P.underlying t=some (.struct fields)∧v=.agg cs∧Vd P 0 fields.toList cs.toList=true:=by
 unfold Cm at h;rw [Bool.or_eq_true] at h;rcases h with h | h
 ·exact .inl h
 ·split at h
  ·rename_i fields cs G;exact .inr ⟨fields,cs,G,rfl,h⟩
  ·cases h
theorem xg (h:W9 P t v=true) {l:List Value} (hi:l[i]?=some v):(part t l.toArray i).run P w=.ok v w:=by
 cases hd:P.underlying t with
 | none=>simp [W9,hd] at h
 | some d=>simp [part,Ut hd,TE h hd,hi]
theorem MV:∀ (J:List Field) (G:List Value) (i:Nat) (l:List Value) (e:Bool) (n:Nat),Vd P i J G=true→l.drop i=G →
  (forIn J PUnit.unit fun f _=>(do
   if f.name ≠ "_" then Instr.checkKey e (n+1) f.type (← part f.type l.toArray f.offset)
   pure (ForInStep.yield PUnit.unit):Sem (ForInStep PUnit))).run P w=.ok PUnit.unit w
 | [],G,i,l,e,n,_,_=>by simp
 | f :: J,[],i,l,e,n,h,_=>by simp [Vd] at h
 | f :: J,v :: G,i,l,e,n,h,Y=>by
  simp only [Vd,Ze,decide_eq_true_eq,bne_iff_ne] at h;obtain ⟨⟨⟨h1,h2⟩,U⟩,Z⟩:=h
  have hi:l[i]?=some v:=by
   have:=congrArg (·[0]?) Y;simpa using this
  have O:l.drop (i+1)=G:=by
   rw [← List.drop_drop,Y];rfl
  simp only [List.forIn_cons,Sem.run_bind,h2,ne_eq,not_false_eq_true,if_true,h1,xg U hi,Result.andThen_ok,PM U,Sem.run_pure];exact MV J G (i+1) l e n Z O
theorem Fq (h:Cm P t v=true) (e:Bool):(Instr.checkKey e 10000 t v).run P w=.ok () w:=by
 rcases Fp h with hp | ⟨fields,cs,G,rfl,hp⟩
 ·exact PM hp e 9999
 ·rw [show (10000:Nat)=9999+1 from rfl,Instr.checkKey];simp only [Sem.run_bind,run_underlying G,Result.andThen_ok];rw [← Array.forIn_toList];have:=MV (w:=w) fields.toList cs.toList 0 cs.toList e 9998 hp zq;simp only [Array.toArray_toList] at this;rw [this];rfl
theorem kS {a b:Value} (G:W9 P t a=true) (hb:W9 P t b=true) (h:eqV P (d+1) t a b=some true):a=b:=by
 unfold W9 at G hb;unfold eqV at h;cases hd:P.underlying t with
 | none=>simp [hd] at G
 | some k =>
  rw [hd] at G hb h;cases k <;> cases a <;> simp only [Bool.false_eq_true] at G <;> cases b <;> simp only [Bool.false_eq_true] at hb <;> simp only at h
  ·simpa using h
  ·split at h
   ·rename_i e;simp only [QN,Qr] at h;rw [e,eq_of_beq h]
   ·cases h
  ·simp only [QN,Qt] at h;have J:=eq_of_beq h;have:=congrArg JI J;rw [vw,vw] at this;rw [this]
theorem OT {d:Nat}:∀ (Y:List Field) (xs ys:List Value) (i:Nat) (J O:List Value),Vd P i Y xs=true→Vd P i Y ys=true→J.drop i=xs→O.drop i=ys→eqV.eqFs P (d+1) J O Y=some true→xs=ys
 | [],[],[],_,_,_,_,_,_,_,_=>rfl
 | [],x :: xs,ys,i,J,O,hx,_,_,_,_=>by simp [Vd] at hx
 | [],[],y :: ys,i,J,O,_,Z,_,_,_=>by simp [Vd] at Z
 | f :: Y,[],ys,i,J,O,hx,_,_,_,_=>by simp [Vd] at hx
 | f :: Y,x :: xs,[],i,J,O,_,Z,_,_,_=>by simp [Vd] at Z
 | f :: Y,x :: xs,y :: ys,i,J,O,hx,Z,ac,ab,h=>by
  simp only [Vd,Ze,decide_eq_true_eq,bne_iff_ne] at hx Z;obtain ⟨⟨⟨h1,h2⟩,h3⟩,h4⟩:=hx;obtain ⟨⟨⟨_,_⟩,aa⟩,ae⟩:=Z
  have ah:J[i]?=some x:=by
   have:=congrArg (·[0]?) ac;simpa using this
  have ad:O[i]?=some y:=by
   have:=congrArg (·[0]?) ab;simpa using this
  have G:∀ (l:List Value) (v:Value),W9 P f.type v=true→l[i]?=some v→∀ q,Cj P f.type l i=some q→q=v:=by
   intro l v hv hl q U;unfold Cj at U;cases hd:P.underlying f.type with
   | none=>simp [W9,hd] at hv
   | some k =>
    have af:=TE hv hd;rw [hd] at U;split at U
    ·rename_i dd ii e1 e2;cases e1;rw [af] at U;simp only [Bool.false_eq_true,if_false] at U;rw [hl] at U;exact (Option.some.inj U).symm
    ·cases U
  simp only [eqV.eqFs,h2,if_false] at h;rw [h1] at h;split at h
  ·rename_i a b e1 e2;obtain rfl:=G J x h3 ah a e1;obtain rfl:=G O y aa ad b e2;split at h
   ·rename_i p q e3 e4;simp only [QN,Ze] at h;rw [h.1] at e3;rw [h.2] at e4;rw [kS h3 aa e3,OT Y xs ys (i+1) J O h4 ae (by rw [← List.drop_drop,ac]; rfl) (by rw [← List.drop_drop,ab]; rfl) e4]
   ·cases h
  ·cases h
theorem Qcv {a b:Value} (Z:Cm P t a=true) (hb:Cm P t b=true) (h:eqV P 4 t a b=some true):a=b:=by
 rcases Fp Z with Y | ⟨fields,xs,O,rfl,Y⟩
 ·rcases Fp hb with G | ⟨fields,ys,O,rfl,G⟩
  ·exact kS Y G h
  ·have:=TE Y O;cases this
 ·rcases Fp hb with G | ⟨J,ys,U,rfl,G⟩
  ·have:=TE G O;cases this
  ·rw [O] at U;cases U;unfold eqV at h;rw [O] at h;simp only at h;split at h
   ·cases h
   ·have:=OT fields.toList xs.toList ys.toList 0 xs.toList ys.toList Y G zq zq h;rw [Array.ext' this]
theorem Cn (h:W9 P t v=true) (n:Nat):Instr.sameBits n v v=true:=by
 unfold W9 at h;split at h
 ·cases n <;> simp [Instr.sameBits]
 ·cases n <;> simp [Instr.sameBits]
 ·rename_i s _;obtain ⟨x⟩:=s;cases n <;> (show (x == x)=true; simp)
 ·cases h
theorem Al (n:Nat):∀ (J:List Field) (G:List Value) (i:Nat),Vd P i J G=true→(G.zip G).all (fun (x,y)=>Instr.sameBits n x y)=true
 | [],[],_,_=>rfl
 | [],v :: G,i,h=>by simp [Vd] at h
 | f :: J,[],i,h=>by simp [Vd] at h
 | f :: J,v :: G,i,h=>by
  simp only [Vd,Ze] at h;simp only [List.zip_cons_cons,List.all_cons,Ze];exact ⟨Cn h.1.2 n,Al n J G (i+1) h.2⟩
theorem rJ (h:Cm P t v=true):Instr.sameBits 10000 v v=true:=by
 rcases Fp h with hp | ⟨fields,cs,G,rfl,hp⟩
 ·exact Cn hp _
 ·rw [show (10000:Nat)=9999+1 from rfl,Instr.sameBits];simp only [beq_self_eq_true,Bool.true_and];exact Al 9999 _ _ 0 hp
end
def Uh (P:Program) (kt:TypeId) (k:Value):Nat→List (Value × PV)→Option (Option (Nat × PV))
 | _,[]=>some none
 | i,(k',v) :: r=>match (if Cm P kt k' then eqV P 4 kt k k' else none) with
  | some true=>some (some (i,v))
  | some false=>Uh P kt k (i+1) r
  | none=>none
section
variable {P:Program} {w:World}
theorem Am {d:TypeDesc} (Z:P.underlying t=some d) {a b:Value} {x y:Bool} (J:Instr.sameNow d a b=some x) (G:eqV P 4 t a b=some y):x=y:=by
 unfold eqV at G;rw [Z] at G;unfold Instr.sameNow at J;split at J
 ·simp only at G;rename_i k k1 n1 k2 n2;split at J
  ·rename_i e;rw [if_pos e] at G;rw [← Option.some.inj J,← Option.some.inj G];rfl
  ·cases J
 ·simp only at G;rename_i s1 Y;rw [← Option.some.inj J,← Option.some.inj G];obtain ⟨O⟩:=s1;obtain ⟨U⟩:=Y;show (O == U)=Qt (JO ⟨O⟩) (JO ⟨U⟩);unfold Qt JO;rw [Bool.eq_iff_iff];simp
 ·simp only at G;rw [← Option.some.inj J,← Option.some.inj G]
 ·cases J
def PN (es:List (Value × PV)) (G:List MapEntry) (i:Nat) (r:Option (Nat × PV)) (q:Option (Nat × Value)):Prop :=
 match r with
 | none=>q=none
 | some (j,x)=>∃ m e,j=i+m∧q=some (i+m,e.val)∧G[m]?=some e∧es[m]?=some (e.key,x)
theorem OU {kt:TypeId} {k:Value}:∀ (es:List (Value × PV)) (J:List MapEntry) (i:Nat) (r:Option (Nat × PV)),J.map (·.key)=es.map (·.1)→Uh P kt k i es=some r→∃ q,(Instr.findAsking kt k J i).run P w=.ok q w∧PN es J i r q
 | [],J,i,r,Y,h=>by
  simp only [Uh,QN] at h;subst h;have:J=[]:=by simpa using Y
  subst this;exact ⟨none,by simp [Instr.findAsking],rfl⟩
 | (k',v) :: es,[],i,r,Y,h=>by simp at Y
 | (k',v) :: es,e :: J,i,r,Y,h=>by
  simp only [List.map_cons,List.cons.injEq] at Y;obtain ⟨O,Z⟩:=Y;simp only [Uh] at h;split at h
  ·rename_i U;simp only [QN] at h;subst h;split at U
   ·have G:(Op.equal kt k k').run P w=.ok true w:=BL fun D hD=>(vE 4).1 _ _ _ _ U D hD
    exact ⟨some (i,e.val),by simp [Instr.findAsking,O,G],0,e,by simp,by simp,by simp,by simp [O]⟩
   ·cases U
  ·rename_i U;split at U
   ·have G:(Op.equal kt k k').run P w=.ok false w:=BL fun D hD=>(vE 4).1 _ _ _ _ U D hD
    obtain ⟨q,h1,h2⟩:=OU es J (i+1) r Z h;refine ⟨q,by simp [Instr.findAsking,O,G,h1],?_⟩;unfold PN at h2 ⊢;split
    ·exact h2
    ·rename_i j x;obtain ⟨m,e',g1,g2,g3,g4⟩:=h2;exact ⟨m+1,e',by omega,by rw [g2]; congr 2; omega,by simpa using g3,by simpa using g4⟩
   ·cases U
  ·cases h
theorem OV {kt:TypeId} {d:TypeDesc} {k:Value} (Z:P.underlying kt=some d):∀ (es:List (Value × PV)) (J:List MapEntry) (i:Nat) (r:Option (Nat × PV)) (q:Option (Nat × Value)),J.map (·.key)=es.map (·.1)→Uh P kt k i es=some r→Instr.findNow d k J i=some q→PN es J i r q
 | [],J,i,r,q,U,h,G=>by
  simp only [Uh,QN] at h;subst h;have:J=[]:=by simpa using U
  subst this;simp only [Instr.findNow,QN] at G;exact G.symm
 | (k',v) :: es,[],i,r,q,U,h,G=>by simp at U
 | (k',v) :: es,e :: J,i,r,q,U,h,G=>by
  simp only [List.map_cons,List.cons.injEq] at U;obtain ⟨Y,aa⟩:=U;simp only [Uh] at h;simp only [Instr.findNow,Y] at G;cases hs:Instr.sameNow d k k' with
  | none=>rw [hs] at G; cases G
  | some b =>
   rw [hs] at G;split at h
   ·rename_i O;simp only [QN] at h;subst h;split at O
    ·obtain rfl:=Am Z hs O;simp only [QN] at G;exact ⟨0,e,by simp,by simpa using G.symm,by simp,by simp [Y]⟩
    ·cases O
   ·rename_i O;split at O
    ·obtain rfl:=Am Z hs O;simp only at G;have h2:=OV Z es J (i+1) r q aa h G;unfold PN at h2 ⊢;split
     ·exact h2
     ·rename_i j x;obtain ⟨m,e',g1,g2,g3,g4⟩:=h2;exact ⟨m+1,e',by omega,by rw [g2]; congr 2; omega,by simpa using g3,by simpa using g4⟩
    ·cases O
   ·cases h
theorem Xk {k:Value} {d:TypeDesc} (J:P.underlying kt=some d) {es:List (Value × PV)} {G:List MapEntry} {r:Option (Nat × PV)} (O:G.map (·.key)=es.map (·.1)) (h:Uh P kt k 0 es=some r) :
  ∃ q,(Instr.findKey kt k G).run P w=.ok q w∧PN es G 0 r q:=by
 cases hn:Instr.findNow d k G 0 with
 | some q=>exact ⟨q,by simp [Instr.findKey,run_underlying J,Result.andThen,hn],OV J es G 0 r q O h hn⟩
 | none =>
  obtain ⟨q,Y,U⟩:=OU (w:=w) es G 0 r O h;exact ⟨q,by simp [Instr.findKey,run_underlying J,Result.andThen,hn,Y],U⟩
theorem kT {kt:TypeId} {k:Value}:∀ (es:List (Value × PV)) (i j:Nat) (x:PV),Uh P kt k i es=some (some (j,x))→Cm P kt k=true→∃ m,j=i+m∧es[m]?=some (k,x)
 | [],i,j,x,h,_=>by simp [Uh] at h
 | (k',v) :: es,i,j,x,h,O=>by
  simp only [Uh] at h;split at h
  ·rename_i J;simp only [QN,Prod.mk.injEq] at h;obtain ⟨rfl,rfl⟩:=h;split at J
   ·rename_i G;exact ⟨0,by simp,by simp [Qcv O G J]⟩
   ·cases J
  ·obtain ⟨m,Y,U⟩:=kT es (i+1) j x h O;exact ⟨m+1,by omega,by simpa using U⟩
  ·cases h
end
def CB (h:QG) (dst:Option Tmp) (rsv:Option Operand):Option Xe:=match dst,rsv with
 | some d,none=>if h d=none then some (.mv d,some (d, .mp []),[d]) else none
 | _,_=>none
def CE (ok:Bool) (v:AV) (b:Bool):AV:=if ok then .tup [v, .p (.val (.bool b))] else v
def avP:PV→AV
 | .val v=>zu v
 | .sl S es=>.p (.sl S es)
def pvO:AV→Option PV
 | .p x=>some x
 | .agg cs=>(Nn cs).map fun l=>.val (.agg l.toArray)
 | _=>none
theorem Qcw {x:PV} (G:Qe φ h w M (.p x) v):Qe φ h w M (avP x) v:=by
 cases x with
 | val u=>simp only [Qe,QH] at G; rw [G]; exact V9 u
 | sl S es=>exact G
theorem Qcx {y:AV} {x:PV} (G:pvO y=some x) (J:Qe φ h w M y v):Qe φ h w M (.p x) v:=by
 cases y with
 | p z=>simp only [pvO,QN] at G; subst G; exact J
 | agg cs =>
  simp only [pvO,GK] at G;obtain ⟨m,U,rfl⟩:=G;simp only [Qe] at J;obtain ⟨l,rfl,O⟩:=J;simp only [Qe,QH];rw [BG.2 cs l m O U]
 | _=>cases G
def J4 (P:Program) (T:Nat→Option AV) (h:QG) (t:TypeId) (x ix:Operand) (ok:Bool):Option Xe :=
 match P.underlying t,Za T x,Za T ix with
 | some (.map kt e),some (.mv b),some kv =>
  match h b,Sg kv,P.underlying kt with
  | some (.mp es),some k,some _ =>
   if Cm P kt k then
    match Uh P kt k 0 es with
    | some (some (_,v))=>some (CE ok (avP v) true,none,[b])
    | some none=>match (P.info? e).bind (·.zero) with | some z=>some (CE ok (zu z) false,none,[b]) | none=>none
    | none=>none
   else none
  | _,_,_=>none
 | _,_,_=>none
def YO (P:Program) (T:Nat→Option AV) (h:QG) (t:TypeId) (x ix y:Operand):Option Xe :=
 match P.underlying t,Za T x,Za T ix,Za T y with
 | some (.map kt e),some (.mv b),some kv,some y =>
  match h b,Sg kv,P.underlying kt,pvO y with
  | some (.mp es),some k,some _,some v =>
   if Cm P kt k then
    match Uh P kt k 0 es with
    | some (some (i,_))=>some (.p (.val undef),some (b, .mp (es.set i (k,v))),[b])
    | some none=>some (.p (.val undef),some (b, .mp (es++[(k,v)])),[b])
    | none=>none
   else none
  | _,_,_,_=>none
 | _,_,_,_=>none
section
variable {P:Program} {o:Oper} {φ:Nat→Nat} {M0:Zn} {N:Nat} {D:DB} {T:Nat→Option AV} {h:QG} {a:Act} {w:World}
theorem mo (r:Q6 φ M0 N D T h a w) {rsv:Option Operand} (Y:o.op=.makeMap t rsv) (G:CB h o.dst rsv=some u):Yield P o φ M0 h a w u.1 (ap h u.2.1):=by
 unfold CB at G;split at G
 ·rename_i d hd;split at G
  ·rename_i O;simp only [QN] at G;subst G;refine Yield.of_lift r 1 fun φ r Z X0 U=>?_
   obtain ⟨E,X⟩:=XN (w':=w.alloc (.map #[] 0)) (o:=.map #[] 0) (b:=d) (k:=.mp []) (M0:=M0) rfl rfl rfl rfl O r.hp U
   have J:RelB (Qu φ d w.heap.size) (upd h d (.mp [])) (w.alloc (.map #[] 0)) (MM (Qu φ d w.heap.size) (upd h d (.mp [])) M0) w.heap.size (.mp []):=by
    refine ⟨#[],0,by show (w.heap.push _)[w.heap.size]?=_; simp,rfl,rfl⟩
   refine ⟨_, .map (some w.heap.size),_,Qu φ d w.heap.size,?_, .inl rfl,?_,XO rfl O r.hp U E X J,E,X⟩
   ·simp [execOp,Y,Instr.makeMap,newObj,Sem.run]
   ·simp only [Qe,ap];exact ⟨by simp [Qu], .mp [],by simp [upd],rfl⟩
  ·cases G
 ·cases G
theorem OW {M:Zn}:∀ {xs:List AV} {J:List Value} {i:Nat} {x:AV} {v:Value},Qi φ h w M xs J→xs[i]?=some x→J[i]?=some v→Qe φ h w M x v
 | [],J,i,x,v,_,G,_=>by simp at G
 | y :: xs,J,i,x,v,U,G,O=>by
  simp only [Qi] at U;obtain ⟨z,zs,rfl,Z,Y⟩:=U;cases i with
  | zero =>
   simp only [List.getElem?_cons_zero,QN] at G O;subst G O;exact Z
  | succ i=>exact OW Y (by simpa using G) (by simpa using O)
theorem rM (r:Q6 φ M0 N D T h a w) (ho:o.op=.lookup t x ix ok) (G:J4 P T h t x ix ok=some u):u.2.1=none∧Yield P o φ M0 h a w u.1 h:=by
 unfold J4 at G;split at G;rotate_left
 ·cases G
 rename_i kt e b kv ht hx ae;split at G;rotate_left
 ·cases G
 rename_i es k kd hb hk ad;split at G;rotate_left
 ·cases G
 rename_i ac;have ab:=r.ev hx;simp only [Qe] at ab;have U:=(BG.1 _ _ _ (r.ev ae) hk);obtain ⟨en,clock,hw,J,aa⟩:=r.hp.blk b _ hb;have Z:(getObj (φ b)).run P w=.ok (.map en clock) w:=by simp [getObj,Sem.run,hw]
 have Y:=Fq (w:=w) ac en.isEmpty;split at G
 ·rename_i i v hf;simp only [QN] at G;subst G;refine ⟨rfl,?_⟩;obtain ⟨q,NN,m,e',g1,g2,g3,g4⟩:=Xk (w:=w) ad J hf;have O:Qe φ h w (MM φ h M0) (avP v) e'.val:=Qcw <| OW aa (i:=m) (by simp [g4]) (by simp [g3]);subst g2;refine Ql r (v:=if ok then .tuple #[e'.val, .bool true] else e'.val) ?_ ?_
  ·simp [execOp,ho,Instr.lookup,run_underlying ht,ab.1,Z,U,Y,NN,Result.andThen]
  ·unfold CE;cases ok
   ·exact O
   ·simp only [if_true,Qe];exact ⟨[e'.val, .bool true],by simp,_,_,rfl,O,_,_,rfl,by simp [Qe,QH],rfl⟩
 ·rename_i hf;split at G
  ·rename_i z hz;simp only [QN] at G;subst G;refine ⟨rfl,?_⟩;obtain ⟨inf,hi,hz⟩:=Option.bind_eq_some_iff.1 hz;obtain ⟨q,NN,Dk⟩:=Xk (w:=w) ad J hf;have Dk:q=none:=Dk;subst Dk;refine Ql r (v:=if ok then .tuple #[z, .bool false] else z) ?_ ?_
   ·simp [execOp,ho,Instr.lookup,run_underlying ht,ab.1,Z,U,Y,NN,Result.andThen,zeroValue,typeInfo,program,Sem.run,hi,hz]
   ·unfold CE;cases ok
    ·exact V9 z
    ·simp only [if_true,Qe];exact ⟨[z, .bool false],by simp,_,_,rfl,V9 z,_,_,rfl,by simp [Qe,QH],rfl⟩
  ·cases G
 ·cases G
theorem vG {es es':List (Value × PV)} {ob:Obj} (hb:h b=some (.mp es)) (r:Zw φ h w M0) :
  QT φ h w φ (upd h b (.mp es')) (w.putObj (φ b) ob)∧VL φ h w φ (upd h b (.mp es')) (w.putObj (φ b) ob):=by
 have hlt:=BF r hb (fun _ _ e=>by cases e);have G:∀ x,x ≠ φ b→(w.putObj (φ b) ob).heap[x]?=w.heap[x]?:=fun x hx=>World.putObj_heap_other hx
 have hne:∀ c k,h c=some k→k.ob=none→¬ b=c:=fun c k hc hk e=>by rw [← e,hb] at hc; cases hc; cases hk
 have U:∀ c k,h c=some k→¬ b=c→φ c ≠ φ b:=fun c k hc e h2=>e (r.inj c b (by rw [hc]; simp) (by rw [hb]; simp) h2).symm
 have ab:∀ c ty cs,h c=some (.box ty cs)→upd h b (.mp es') c=some (.box ty cs):=fun c ty cs hc=>by simp [upd,hne c _ hc rfl,hc]
 have Z:∀ t ty S n,h t=some (.arr ty S n)→∃ n',upd h b (.mp es') t=some (.arr ty S n')∧n≤n'∧(n'=n→AKept w (w.putObj (φ b) ob) (φ t) (φ t) ty):=by
  intro t ty S n O;have e:=hne t _ O rfl;exact ⟨n,by simp [upd,e,O],Nat.le_refl _,fun _=>Yi (rfl) (by rw [G _ (U t _ O e)])⟩
 have Y:∀ t ty S es,h t=some (.vec ty S es)→∃ J,upd h b (.mp es') t=some (.vec ty S J)∧es.length≤J.length∧(J.length=es.length→φ t=φ t∧∀ c,w.heap[φ t]?=some (.cells c ty (0,0))→∃ c',(w.putObj (φ b) ob).heap[φ t]?=some (.cells c' ty (0,0))∧c'.size=c.size):=by
  intro t ty S n O;have e:=hne t _ O rfl;exact ⟨n,by simp [upd,e,O],Nat.le_refl _,fun _=>⟨rfl,fun c hc=>⟨c,by rw [G _ (U t _ O e)]; exact hc,rfl⟩⟩⟩
 have aa:∀ c k x,h c=some k→k.ob=some x→(∃ k',upd h b (.mp es') c=some k'∧k'.ob=some x)∧φ c=φ c:=by
  intro c k x hc ho;by_cases e:b=c
  ·subst e;rw [hb] at hc;cases hc;exact ⟨⟨.mp es',by simp [upd],ho⟩,rfl⟩
  ·exact ⟨⟨k,by simp [upd,e,hc],ho⟩,rfl⟩
 refine ⟨⟨rfl,rfl,rfl,by simp [World.putObj],?_,?_,?_,fun c ty cs _ hc=>⟨⟨cs,ab c ty cs hc⟩,rfl⟩,fun t ty S n _=>Z t ty S n,fun t ty S es _=>Y t ty S es,fun c k x _=>aa c k x⟩,fun c ty cs hc=>⟨⟨ty,cs,ab c ty cs hc⟩,rfl⟩,Z,Y,aa⟩
 ·intro x _ ac;exact G x (fun e=>ac b (by rw [hb]; simp) e.symm)
 ·intro x y _ hm;have:x ≠ φ b:=fun e=>hm ⟨b,_,hb,e.symm,trivial⟩
  simp [World.cell?,G x this]
 ·rintro x y _ ⟨d,q,h1,h2,h3⟩;by_cases e:b=d
  ·exact ⟨b,_,hb,by rw [e]; exact h2,trivial⟩
  ·exact ⟨d,q,by simpa [upd,e] using h1,h2,h3⟩
theorem pV {es es':List (Value × PV)} {J:Array MapEntry} {G:Nat} (hb:h b=some (.mp es)) (r:Zw φ h w M0) (U:J.toList.map (·.key)=es'.map (·.1)) (Z:Qi φ h w (MM φ h M0) (es'.map fun p=>.p p.2) (J.toList.map (·.val))) :
  Zw φ (upd h b (.mp es')) (w.putObj (φ b) (.map J G)) M0:=by
 obtain ⟨E,X⟩:=vG (es':=es') (ob:=.map J G) hb r;have hlt:=BF r hb (fun _ _ e=>by cases e)
 have g:∀ d,upd h b (.mp es') d ≠ none→h d ≠ none:=fun d O=>by
  by_cases e:b=d
  ·rw [← e,hb]; simp
  ·simpa [upd,e] using O
 refine ⟨fun c d hc O Y=>r.inj c d (g c hc) (g d O) Y,fun c k hc=>?_,fun c hc=>r.fr c (g c hc),fun x o hx=>by simpa [World.putObj] using r.lt x o hx,r.gm.evol E⟩;by_cases e:b=c
 ·subst e;have:k=.mp es':=by simpa [upd] using hc.symm
  subst this;exact ⟨J,G,World.putObj_heap_same hlt,U,(QI (E.keeps M0) X).2 _ _ Z⟩
 ·have hc':h c=some k:=by simpa [upd,e] using hc
  exact ZI (E.keeps M0) X (World.putObj_heap_other fun h2=>e (r.inj c b (by rw [hc']; simp) (by rw [hb]; simp) h2).symm) (r.blk c k hc')
theorem kU {M:Zn}:∀ {xs:List AV} {J:List Value} {i:Nat} {x:AV} {v:Value},Qi φ h w M xs J→Qe φ h w M x v→Qi φ h w M (xs.set i x) (J.set i v)
 | [],J,i,x,v,G,_=>by
  simp only [Qi] at G;subst G;simp [Qi]
 | y :: xs,J,i,x,v,G,U=>by
  simp only [Qi] at G;obtain ⟨z,Z,rfl,Y,O⟩:=G;cases i with
  | zero=>simp only [List.set_cons_zero,Qi]; exact ⟨_,_,rfl,U,O⟩
  | succ i=>simp only [List.set_cons_succ,Qi]; exact ⟨_,_,rfl,Y,kU O U⟩
theorem Nu {M:Zn}:∀ {xs:List AV} {J:List Value} {x:AV} {v:Value},Qi φ h w M xs J→Qe φ h w M x v→Qi φ h w M (xs++[x]) (J++[v])
 | [],J,x,v,G,O=>by
  simp only [Qi] at G;subst G;exact ⟨v,[],rfl,O,rfl⟩
 | y :: xs,J,x,v,G,O=>by
  simp only [Qi] at G;obtain ⟨z,U,rfl,Z,Y⟩:=G;exact ⟨z,U++[v],rfl,Z,Nu Y O⟩
theorem OX {J:Array MapEntry} {e:MapEntry} (k v:Value) (U:J.toList[i]?=some e):(J.modify i fun e=>{ e with key:=k,val:=v }).toList=J.toList.set i { e with key:=k,val:=v }:=by
 apply List.ext_getElem?;intro j;simp only [Array.getElem?_toList,Array.getElem?_modify,List.getElem?_set];by_cases G:i=j
 ·subst G;have O:J[i]?=some e:=by simpa using U
  have hlt:i < J.toList.length:=(List.getElem?_eq_some_iff.1 U).1;simp [O];simpa using hlt
 ·simp [G]
theorem vH (r:Q6 φ M0 N D T h a w) (ho:o.op=.mapUpdate t x ix y) (J:YO P T h t x ix y=some u):Yield P o φ M0 h a w u.1 (ap h u.2.1):=by
 unfold YO at J;split at J;rotate_left
 ·cases J
 rename_i kt e b kv y0 ht hx aj hy;split at J;rotate_left
 ·cases J
 rename_i es k kd v hb hk ae af;split at J;rotate_left
 ·cases J
 rename_i O;have ac:=r.ev hx;simp only [Qe] at ac;have Y:=(BG.1 _ _ _ (r.ev aj) hk);have ad:=Qcx af (r.ev hy);obtain ⟨en,clock,hw,G,U⟩:=r.hp.blk b _ hb;have ab:(getObj (φ b)).run P w=.ok (.map en clock) w:=by simp [getObj,Sem.run,hw]
 have Z:∀ ob,(setObj (φ b) ob).run P w=.ok () (w.putObj (φ b) ob):=fun ob=>by simp [setObj,Sem.run,hw,World.putObj]
 have aa:=Fq (w:=w) O false;split at J
 ·rename_i i v0 hf;simp only [QN] at J;subst J;simp only [ap];obtain ⟨q,NN,m,e',g1,g2,g3,g4⟩:=Xk (w:=w) ae G hf;obtain ⟨m',am,al⟩:=kT es 0 i v0 hf O;have ah:m'=m:=by omega
  subst ah;have ak:e'.key=k:=by rw [al] at g4; exact ((Prod.mk.inj (Option.some.inj g4)).1).symm
  have hi:i=m':=by omega
  subst hi;have ai:en[i]?=some e':=by simpa using g3
  obtain ⟨E,X⟩:=vG (es':=es.set i (k,v)) (ob:=.map (en.modify i fun e=>{ e with key:=k,val:=a.eval y }) clock) hb r.hp;refine ⟨.skip,undef,w.putObj (φ b) (.map (en.modify i fun e=>{ e with key:=k,val:=a.eval y }) clock),φ,?_, .inr ⟨rfl,rfl⟩,by simp [Qe,QH],pV hb r.hp ?_ ?_,E,X⟩
  ·simp [execOp,ho,Instr.mapUpdate,run_underlying ht,ac.1,ab,Y,aa,NN,g2,Result.andThen,ai,ak,Instr.keyThatStays,rJ O,Z]
  ·rw [OX k (a.eval y) g3,List.map_set,List.map_set,G]
  ·rw [OX k (a.eval y) g3,List.map_set,List.map_set];exact kU U ad
 ·rename_i hf;simp only [QN] at J;subst J;simp only [ap];obtain ⟨q,NN,Dk⟩:=Xk (w:=w) ae G hf;have Dk:q=none:=Dk;subst Dk;obtain ⟨E,X⟩:=vG (es':=es++[(k,v)]) (ob:=.map (en.push { key:=k,val:=a.eval y,born:=clock }) (clock+1)) hb r.hp;refine ⟨.skip,undef,w.putObj (φ b) (.map (en.push { key:=k,val:=a.eval y,born:=clock }) (clock+1)),φ,?_, .inr ⟨rfl,rfl⟩,by simp [Qe,QH],pV hb r.hp ?_ ?_,E,X⟩
  ·simp [execOp,ho,Instr.mapUpdate,run_underlying ht,ac.1,ab,Y,aa,NN,Result.andThen,Z]
  ·simp [G]
  ·simp only [Array.toList_push,List.map_append,List.map_cons,List.map_nil];exact Nu U ad
 ·cases J
theorem rO {q:Addr} {c m k:Nat} (G:o.op=.binOp op tx x y ty) (Y:P.underlying tx=some (.slice e)) (U:a.eval x=.slice (some q) n c) (O:a.eval y=.slice none m k) :
  (op=.eql→(execOp a.eval o).run P w=.ok (.value (.bool false)) w)∧(op=.neq→(execOp a.eval o).run P w=.ok (.value (.bool true)) w):=by
 have J:(Op.equal tx (.slice (some q) n c) (.slice none m k)).run P w=.ok false w:=by
  refine BL fun D Z=>?_
  obtain ⟨D,rfl⟩:∃ d,D=d+1:=⟨D - 1,by omega⟩;unfold Op.equalIn;simp [run_underlying Y]
 constructor
 ·rintro rfl;simp [execOp,G,U,O,eqGuard,binOp,J]
 ·rintro rfl;simp [execOp,G,U,O,eqGuard,binOp,J]
end
def Sr (P:Program) (T:Nat→Option AV) (h:QG) (op:BinOp) (tx:TypeId) (x y:Operand):Option Xe :=
 match P.underlying tx,Za T x,Za T y with
 | some (.slice _),some (.tsl _ es t),some (.p (.val (.slice none _ _))) =>
  match h t with
  | some (.arr _ _ n)=>if es.length=n∧es.isEmpty=false then (match op with | .eql=>some (.p (.val (.bool false)),none,[t]) | .neq=>some (.p (.val (.bool true)),none,[t]) | _=>none) else none
  | _=>none
 | _,_,_=>none
section
variable {P:Program} {o:Oper} {φ:Nat→Nat} {M0:Zn} {N:Nat} {D:DB} {T:Nat→Option AV} {h:QG} {a:Act} {w:World}
theorem iO (r:Q6 φ M0 N D T h a w) (ho:o.op=.binOp op tx x y ty) (G:Sr P T h op tx x y=some u):u.2.1=none∧Yield P o φ M0 h a w u.1 h:=by
 unfold Sr at G;split at G;rotate_left
 ·cases G
 rename_i e S es t m k ht hx hy;split at G;rotate_left
 ·cases G
 rename_i ta Sa n hb;split at G;rotate_left
 ·cases G
 rename_i J;have Y:=r.ev hx;have U:=r.ev hy;simp only [Qe,QH] at U;simp only [Qe] at Y;obtain ⟨_,Vs,n2,Z,_,O⟩:=Y;rw [hb] at Z;cases Z
 obtain ⟨cap,c,hv,_⟩:∃ cap c,a.eval x=.slice (some ⟨φ t,0,none⟩) n cap∧w.heap[φ t]?=some (.cells c ta (0,0))∧c.size=cap * S∧n≤cap∧cap≤maxLen:=by
  rcases O J.1 with ⟨h0,_⟩ | h0
  ·have h1:=J.1;have h2:=J.2;rw [h0] at h1;rw [List.length_eq_zero_iff.1 h1] at h2;cases h2
  ·exact h0
 obtain ⟨g1,g2⟩:=rO (P:=P) (w:=w) ho ht hv U;split at G
 ·simp only [QN] at G;subst G;exact ⟨rfl,Ql r (g1 rfl) (by simp [Qe,QH])⟩
 ·simp only [QN] at G;subst G;exact ⟨rfl,Ql r (g2 rfl) (by simp [Qe,QH])⟩
 ·cases G
end
section
variable {P:Program} {o:Oper} {φ:Nat→Nat} {M0:Zn} {N:Nat} {D:DB} {T:Nat→Option AV} {h:QG} {a:Act} {w:World}
theorem IM {k0 k1:Blk} {ob:Obj} (hb:h b=some k0) (h0:k0.ob=some .mp) (h1:k1.ob=some .mp) (r:Zw φ h w M0) :
  QT φ h w φ (upd h b k1) (w.putObj (φ b) ob)∧VL φ h w φ (upd h b k1) (w.putObj (φ b) ob):=by
 have hm:∀ x o,DJ φ (upd h b k1) x o→DJ φ h x o:=by
  rintro x y ⟨d,q,g1,g2,g3⟩;by_cases e:b=d
  ·refine ⟨b,_,hb,by rw [e]; exact g2,?_⟩;cases k0 <;> first | trivial | cases h0
  ·exact ⟨d,q,by simpa [upd,e] using g1,g2,g3⟩
 have G:∀ x,x ≠ φ b→(w.putObj (φ b) ob).heap[x]?=w.heap[x]?:=fun x hx=>World.putObj_heap_other hx
 have hne:∀ c k,h c=some k→k.ob=none→¬ b=c:=fun c k hc hk e=>by rw [← e,hb] at hc; cases hc; rw [hk] at h0; cases h0
 have U:∀ c k,h c=some k→¬ b=c→φ c ≠ φ b:=fun c k hc e h2=>e (r.inj c b (by rw [hc]; simp) (by rw [hb]; simp) h2).symm
 have ab:∀ c ty cs,h c=some (.box ty cs)→upd h b k1 c=some (.box ty cs):=fun c ty cs hc=>by simp [upd,hne c _ hc rfl,hc]
 have Z:∀ t ty S n,h t=some (.arr ty S n)→∃ n',upd h b k1 t=some (.arr ty S n')∧n≤n'∧(n'=n→AKept w (w.putObj (φ b) ob) (φ t) (φ t) ty):=by
  intro t ty S n O;have e:=hne t _ O rfl;exact ⟨n,by simp [upd,e,O],Nat.le_refl _,fun _=>Yi rfl (G _ (U t _ O e))⟩
 have Y:∀ t ty S es,h t=some (.vec ty S es)→∃ J,upd h b k1 t=some (.vec ty S J)∧es.length≤J.length∧(J.length=es.length→φ t=φ t∧∀ c,w.heap[φ t]?=some (.cells c ty (0,0))→∃ c',(w.putObj (φ b) ob).heap[φ t]?=some (.cells c' ty (0,0))∧c'.size=c.size):=by
  intro t ty S n O;have e:=hne t _ O rfl;exact ⟨n,by simp [upd,e,O],Nat.le_refl _,fun _=>⟨rfl,fun c hc=>⟨c,by rw [G _ (U t _ O e)]; exact hc,rfl⟩⟩⟩
 have aa:∀ c k x,h c=some k→k.ob=some x→(∃ k',upd h b k1 c=some k'∧k'.ob=some x)∧φ c=φ c:=by
  intro c k x hc ho;by_cases e:b=c
  ·subst e;rw [hb] at hc;cases hc;rw [h0] at ho;cases ho;exact ⟨⟨k1,by simp [upd],h1⟩,rfl⟩
  ·exact ⟨⟨k,by simp [upd,e,hc],ho⟩,rfl⟩
 refine ⟨⟨rfl,rfl,rfl,by simp [World.putObj],?_,?_,fun x o _ hx=>hm x o hx,fun c ty cs _ hc=>⟨⟨cs,ab c ty cs hc⟩,rfl⟩,fun t ty S n _=>Z t ty S n,fun t ty S es _=>Y t ty S es,fun c k x _=>aa c k x⟩,fun c ty cs hc=>⟨⟨ty,cs,ab c ty cs hc⟩,rfl⟩,Z,Y,aa⟩
 ·intro x _ ac;exact G x (fun e=>ac b (by rw [hb]; simp) e.symm)
 ·intro x y _ hm;have:x ≠ φ b:=fun e=>hm ⟨b,_,hb,e.symm,by cases k0 <;> first | trivial | cases h0⟩
  simp [World.cell?,G x this]
theorem vI {O k1:Blk} {ob:Obj} (hb:h b=some O) (h0:O.ob=some .mp) (Z:k1.ob=some .mp) (r:Zw φ h w M0)
  (G:RelB φ (upd h b k1) (w.putObj (φ b) ob) (MM φ (upd h b k1) M0) (φ b) k1):Zw φ (upd h b k1) (w.putObj (φ b) ob) M0:=by
 obtain ⟨E,X⟩:=IM (k1:=k1) (ob:=ob) hb h0 Z r
 have g:∀ d,upd h b k1 d ≠ none→h d ≠ none:=fun d J=>by
  by_cases e:b=d
  ·rw [← e,hb]; simp
  ·simpa [upd,e] using J
 refine ⟨fun c d hc J U=>r.inj c d (g c hc) (g d J) U,fun c k hc=>?_,fun c hc=>r.fr c (g c hc),fun x o hx=>by simpa [World.putObj] using r.lt x o hx,r.gm.evol E⟩;by_cases e:b=c
 ·subst e;have:k=k1:=by simpa [upd] using hc.symm
  subst this;exact G
 ·have hc':h c=some k:=by simpa [upd,e] using hc
  exact ZI (E.keeps M0) X (World.putObj_heap_other fun Y=>e (r.inj c b (by rw [hc']; simp) (by rw [hb]; simp) Y).symm) (r.blk c k hc')
def F9 (w:List UInt8):List (Bool × List UInt8 × AV)→Option AV
 | []=>none
 | (f,k,x) :: l=>if Qt w k&&f then some x else F9 w l
def rP (w:List UInt8) (es:List (Bool × List UInt8 × AV)):List (Bool × List UInt8 × AV):=es.map fun e=>(!Qt w e.2.1&&e.1,e.2.1,e.2.2)
def IP (w:List UInt8):Nat→List (Bool × List UInt8 × AV)→Option Nat
 | _,[]=>none
 | i,e :: l=>if Qt w e.2.1 then some i else IP w (i+1) l
def rQ (l:List (Bool × List UInt8 × AV)):List (Value × PV):=l.map fun e=>(A7 e.2.1,PV.val undef)
theorem pW (G:P.underlying kt=some .string) (x:ByteArray) (y:List UInt8):eqV P 4 kt (.string x) (A7 y)=some (Qt (JO x) y):=by
 simp [eqV,G,A7,JO]
theorem PO (G:P.underlying kt=some .string) (x:ByteArray):Cm P kt (.string x)=true:=by simp [Cm,W9,G]
theorem BM {kt:TypeId} (G:P.underlying kt=some .string) (x:ByteArray):∀ (l:List (Bool × List UInt8 × AV)) (i:Nat),Uh P kt (.string x) i (rQ l)=some ((IP (JO x) i l).map fun j=>(j,PV.val undef))
 | [],i=>rfl
 | e :: l,i=>by
  have J:Cm P kt (A7 e.2.1)=true:=PO G _;simp only [rQ,List.map_cons,Uh,J,if_true,pW G,IP];cases hq:Qt (JO x) e.2.1 with
  | true=>simp
  | false=>exact BM G x l (i+1)
theorem PP (f:Bool) (k:List UInt8) (x:AV) (es:List (Bool × List UInt8 × AV)):Tf ((f,k,x) :: es)=if f then (f,k,x) :: Tf es else Tf es:=by cases f <;> rfl
theorem Su (w:List UInt8):∀ (l:List (Bool × List UInt8 × AV)) (i:Nat),IP w (i+1) l=(IP w i l).map (·+1)
 | [],i=>rfl
 | e :: l,i=>by
  simp only [IP];cases Qt w e.2.1
  ·exact Su w l (i+1)
  ·rfl
theorem BN (w:List UInt8):∀ (es:List (Bool × List UInt8 × AV)),F9 w es=(IP w 0 (Tf es)).bind fun j=>((Tf es)[j]?).map (·.2.2)
 | []=>rfl
 | (f,k,x) :: es=>by
  rw [PP];cases f with
  | false=>simp only [F9,Bool.and_false,Bool.false_eq_true,if_false]; exact BN w es
  | true =>
   simp only [F9,Bool.and_true,if_true,IP];cases hq:Qt w k with
   | true=>simp
   | false =>
    simp only [Bool.false_eq_true,if_false];rw [Su,BN w es];cases IP w 0 (Tf es) <;> simp
def CF:List (Bool × List UInt8 × AV)→Bool
 | []=>true
 | e :: l=>l.all (fun G=>!Qt e.2.1 G.2.1)&&CF l
theorem Ao {w:List UInt8}:∀ {l:List (Bool × List UInt8 × AV)} {i:Nat},IP w i l=none→∀ e ∈ l,Qt w e.2.1=false
 | [],_,_,e,G=>by cases G
 | J :: l,i,h,e,G=>by
  simp only [IP] at h;cases hq:Qt w J.2.1 with
  | true=>rw [hq] at h; cases h
  | false =>
   rw [hq] at h;rcases List.mem_cons.1 G with rfl | G
   ·exact hq
   ·exact Ao h e G
theorem QfD {a b:List UInt8} (h:Qt a b=true):a=b:=by simpa [Qt] using h
theorem iP (w:List UInt8):∀ (es:List (Bool × List UInt8 × AV)),Tf (rP w es)=((Tf es).filter fun e=>!Qt w e.2.1)
 | []=>rfl
 | (f,k,x) :: es=>by
  have G:=iP w es;simp only [rP,List.map_cons] at G ⊢;rw [PP,PP,G];cases f <;> cases hq:Qt w k <;> simp [hq]
theorem OY:∀ {es:List (Bool × List UInt8 × AV)},CF es=true→CF (Tf es)=true
 | [],_=>rfl
 | (f,k,x) :: es,h=>by
  simp only [CF,Ze] at h;rw [PP];cases f with
  | false=>exact OY h.2
  | true =>
   simp only [if_true,CF,Ze];refine ⟨?_,OY h.2⟩;rw [List.all_eq_true] at h ⊢;intro e G;exact h.1 e (List.mem_filter.1 G).1
theorem PQ {w:List UInt8}:∀ {l:List (Bool × List UInt8 × AV)} {j:Nat},CF l=true→IP w 0 l=some j→(l.filter fun e=>!Qt w e.2.1)=l.eraseIdx j
 | [],j,_,h=>by cases h
 | e :: l,j,J,h=>by
  simp only [CF,Ze] at J;simp only [IP] at h;cases hq:Qt w e.2.1 with
  | true =>
   rw [hq] at h;simp only [if_true,QN] at h;subst h;have U:=QfD hq
   have:(l.filter fun e=>!Qt w e.2.1)=l:=by
    rw [List.filter_eq_self];intro O G;rw [U];exact List.all_eq_true.1 J.1 O G
   simp [hq,this]
  | false =>
   rw [hq] at h;simp only [Bool.false_eq_true,if_false] at h;rw [Su] at h;cases hj:IP w 0 l with
   | none=>rw [hj] at h; cases h
   | some Y =>
    rw [hj] at h;simp only [Option.map_some,QN] at h;subst h;simp [hq,PQ J.2 hj]
theorem Rn {α β:Type} (f:α→β):∀ (l:List α) (j:Nat),(l.eraseIdx j).map f=(l.map f).eraseIdx j
 | [],j=>by simp
 | x :: l,0=>rfl
 | x :: l,j+1=>by simp only [List.eraseIdx_cons_succ,List.map_cons,Rn f l j]
theorem Ap {M:Zn}:∀ {xs:List AV} {J:List Value} (j:Nat),Qi φ h w M xs J→Qi φ h w M (xs.eraseIdx j) (J.eraseIdx j)
 | [],J,j,G=>by
  simp only [Qi] at G;subst G;simp [Qi]
 | x :: xs,J,j,G=>by
  simp only [Qi] at G;obtain ⟨y,ys,rfl,U,O⟩:=G;cases j with
  | zero=>exact O
  | succ j=>simp only [List.eraseIdx_cons_succ,Qi]; exact ⟨_,_,rfl,U,Ap j O⟩
theorem rR {O:Array MapEntry} {clock:Nat} {k:Value} (h:D8 O clock):D8 (O.push { key:=k,val:=v,born:=clock }) (clock+1):=by
 obtain ⟨Y,J⟩:=h;refine ⟨?_,fun e G=>?_⟩
 ·simp only [Array.toList_push,List.map_append,List.map_cons,List.map_nil];rw [List.pairwise_append];refine ⟨Y,List.pairwise_singleton _ _,fun x Z y U=>?_⟩;obtain ⟨e,G,rfl⟩:=List.mem_map.1 Z;rw [List.mem_singleton.1 U];exact J e G
 ·simp only [Array.toList_push,List.mem_append,List.mem_singleton] at G;rcases G with G | rfl
  ·have:=J e G; omega
  ·exact Nat.lt_succ_self _
theorem mq {J:Array MapEntry} {clock:Nat} (h:D8 J clock):D8 (J.eraseIdxIfInBounds j) clock:=by
 obtain ⟨U,Y⟩:=h;have G:(J.eraseIdxIfInBounds j).toList=J.toList.eraseIdx j:=by simp
 refine ⟨?_,fun e O=>Y e ?_⟩
 ·rw [G];exact U.sublist ((List.eraseIdx_sublist _ _).map _)
 ·rw [G] at O;exact (List.eraseIdx_sublist _ _).mem O
def Qcy:Option Blk→Option (List (Bool × List UInt8 × AV))
 | some (.mp [])=>some []
 | some (.mf es)=>some es
 | _=>none
def Jq (P:Program) (T:Nat→Option AV) (h:QG) (t:TypeId) (x ix:Operand) (ok:Bool):Option Xe :=
 match P.underlying t,Za T x,Za T ix with
 | some (.map kt e),some (.mv b),some (.p (.val (.string s))) =>
  match h b,P.underlying kt with
  | some (.mf es),some .string =>
   match F9 (JO s) es with
   | some v=>some (CE ok v true,none,[b])
   | none=>match (P.info? e).bind (·.zero) with | some z=>some (CE ok (zu z) false,none,[b]) | none=>none
  | _,_=>none
 | _,_,_=>none
def Uw (P:Program) (T:Nat→Option AV) (h:QG) (t:TypeId) (x ix y:Operand):Option Xe :=
 match P.underlying t,Za T x,Za T ix,Za T y with
 | some (.map kt e),some (.mv b),some (.p (.val (.string s))),some v =>
  match Qcy (h b),P.underlying kt with
  | some es,some .string=>match F9 (JO s) es with
   | none=>some (.p (.val undef),some (b, .mf (es++[(true,JO s,v)])),[b])
   | some _=>none
  | _,_=>none
 | _,_,_,_=>none
def Ux (P:Program) (T:Nat→Option AV) (h:QG) (t:TypeId) (x ix:Operand):Option Xe :=
 match P.underlying t,Za T x,Za T ix with
 | some (.map kt e),some (.mv b),some (.p (.val (.string s))) =>
  match h b,P.underlying kt with
  | some (.mf es),some .string=>if CF es=true then some (.tup [],some (b, .mf (rP (JO s) es)),[b]) else none
  | _,_=>none
 | _,_,_=>none
theorem iQ {es:List (Bool × List UInt8 × AV)} (hb:Qcy (h b)=some es) (r:Zw φ h w M0):∃ U,h b=some U∧U.ob=some .mp ∧
  ∃ (G:Array MapEntry) (clock:Nat),w.heap[φ b]?=some (.map G clock)∧G.toList.map (·.key)=(Tf es).map (fun e=>A7 e.2.1)∧Qi φ h w (MM φ h M0) ((Tf es).map (·.2.2)) (G.toList.map (·.val))∧D8 G clock:=by
 unfold Qcy at hb;split at hb
 ·rename_i J;cases hb;obtain ⟨G,clock,Y,O,h3⟩:=r.blk b _ J;have Z:G.toList=[]:=by simpa using O
  exact ⟨_,J,rfl,G,clock,Y,O,h3,by simp [D8,Z]⟩
 ·rename_i es' J;cases hb;exact ⟨_,J,rfl,r.blk b _ J⟩
 ·cases hb
theorem OZ {l:List (Bool × List UInt8 × AV)} {G:List MapEntry} (J:G.map (·.key)=l.map (fun e=>A7 e.2.1)):G.map (·.key)=(rQ l).map (·.1):=by
 rw [J]; simp [rQ]
theorem xh (r:Q6 φ M0 N D T h a w) (ho:o.op=.lookup t x ix ok) (J:Jq P T h t x ix ok=some u):u.2.1=none∧Yield P o φ M0 h a w u.1 h:=by
 unfold Jq at J;split at J;rotate_left
 ·cases J
 rename_i kt e b s ht hx af;split at J;rotate_left
 ·cases J
 rename_i es hb ad;have ac:=r.ev hx;simp only [Qe] at ac;have O:=r.ev af;simp only [Qe,QH] at O;obtain ⟨en,clock,hw,aa,ab,_⟩:=r.hp.blk b _ hb;have Z:(getObj (φ b)).run P w=.ok (.map en clock) w:=by simp [getObj,Sem.run,hw]
 have Y:=Fq (w:=w) (PO ad s) en.isEmpty;have ah:=BM ad s (Tf es) 0;obtain ⟨q,NN,Dk⟩:=Xk (w:=w) ad (OZ aa) ah;have G:=BN (JO s) es;cases hi:IP (JO s) 0 (Tf es) with
 | none =>
  rw [hi] at Dk G;simp only [Option.map_none,PN,Option.bind_none] at Dk G;subst Dk;rw [G] at J;simp only at J;split at J
  ·rename_i z hz;simp only [QN] at J;subst J;refine ⟨rfl,?_⟩;obtain ⟨inf,hi,hz⟩:=Option.bind_eq_some_iff.1 hz;refine Ql r (v:=if ok then .tuple #[z, .bool false] else z) ?_ ?_
   ·simp [execOp,ho,Instr.lookup,run_underlying ht,ac.1,Z,O,Y,NN,Result.andThen,zeroValue,typeInfo,program,Sem.run,hi,hz]
   ·unfold CE;cases ok
    ·exact V9 z
    ·simp only [if_true,Qe];exact ⟨[z, .bool false],by simp,_,_,rfl,V9 z,_,_,rfl,by simp [Qe,QH],rfl⟩
  ·cases J
 | some j =>
  rw [hi] at Dk G;simp only [Option.map_some,PN,QJ] at Dk G;obtain ⟨m,e',g1,g2,g3,g4⟩:=Dk;have ae:j=m:=by omega
  subst ae
  have hlt:j < (Tf es).length:=by
   have:=(List.getElem?_eq_some_iff.1 g4).1;simpa [rQ] using this
  rw [List.getElem?_eq_getElem hlt] at G;simp only [Option.map_some] at G;rw [G] at J;simp only [QN] at J;subst J;refine ⟨rfl,?_⟩;have U:Qe φ h w (MM φ h M0) ((Tf es)[j]).2.2 e'.val:=OW ab (i:=j) (by simp [hlt]) (by simp [g3]);subst g2;refine Ql r (v:=if ok then .tuple #[e'.val, .bool true] else e'.val) ?_ ?_
  ·simp [execOp,ho,Instr.lookup,run_underlying ht,ac.1,Z,O,Y,NN,Result.andThen]
  ·unfold CE;cases ok
   ·exact U
   ·simp only [if_true,Qe];exact ⟨[e'.val, .bool true],by simp,_,_,rfl,U,_,_,rfl,by simp [Qe,QH],rfl⟩
theorem xk (r:Q6 φ M0 N D T h a w) (ho:o.op=.mapUpdate t x ix y) (O:Uw P T h t x ix y=some u):Yield P o φ M0 h a w u.1 (ap h u.2.1):=by
 unfold Uw at O;split at O;rotate_left
 ·cases O
 rename_i kt e b s v ht hx an hy;split at O;rotate_left
 ·cases O
 rename_i es hb aa;have ai:=r.ev hx;simp only [Qe] at ai;have U:=r.ev an;simp only [Qe,QH] at U;have am:=r.ev hy;obtain ⟨k0,af,ah,en,clock,hw,G,Z,Y⟩:=iQ hb r.hp;have aj:(getObj (φ b)).run P w=.ok (.map en clock) w:=by simp [getObj,Sem.run,hw]
 have ac:∀ ob,(setObj (φ b) ob).run P w=.ok () (w.putObj (φ b) ob):=fun ob=>by simp [setObj,Sem.run,hw,World.putObj]
 have ae:=Fq (w:=w) (PO aa s) false;have ao:=BM aa s (Tf es) 0;obtain ⟨q,NN,Dk⟩:=Xk (w:=w) aa (OZ G) ao;have J:=BN (JO s) es;split at O;rotate_left
 ·cases O
 rename_i ab;simp only [QN] at O;subst O;simp only [ap]
 have hi:IP (JO s) 0 (Tf es)=none:=by
  cases hi:IP (JO s) 0 (Tf es) with
  | none=>rfl
  | some j =>
   rw [hi] at Dk J;simp only [Option.map_some,PN,QJ] at Dk J;obtain ⟨m,e',g1,g2,g3,g4⟩:=Dk;have ak:j=m:=by omega
   subst ak
   have hlt:j < (Tf es).length:=by
    have:=(List.getElem?_eq_some_iff.1 g4).1;simpa [rQ] using this
   rw [List.getElem?_eq_getElem hlt,ab] at J;cases J
 rw [hi] at Dk;have Dk:q=none:=Dk;subst Dk;obtain ⟨E,X⟩:=IM (k1:=.mf (es++[(true,JO s,v)])) (ob:=.map (en.push { key:=.string s,val:=a.eval y,born:=clock }) (clock+1)) af ah rfl r.hp;have al:A7 (JO s)=.string s:=by simp [A7,JO]
 have ad:Tf (es++[(true,JO s,v)])=Tf es++[(true,JO s,v)]:=by simp [Tf]
 refine ⟨.skip,undef,w.putObj (φ b) (.map (en.push { key:=.string s,val:=a.eval y,born:=clock }) (clock+1)),φ,?_, .inr ⟨rfl,rfl⟩,by simp [Qe,QH],vI af ah rfl r.hp ⟨_,_,World.putObj_heap_same (FY.1 hw).1,?_,?_,rR Y⟩,E,X⟩
 ·simp [execOp,ho,Instr.mapUpdate,run_underlying ht,ai.1,aj,U,ae,NN,Result.andThen,ac]
 ·simp [G,ad,al]
 ·rw [ad];simp only [Array.toList_push,List.map_append,List.map_cons,List.map_nil];exact Nu ((QI (E.keeps M0) X).2 _ _ Z) ((QI (E.keeps M0) X).1 _ _ am)
theorem Aq {k:TypeId} {s:Operand} (G:o.op=.call ⟨.builtin .delete,#[s,x],#[t,k]⟩)
  (J:(Builtin.delete_ #[t,k] o.type #[a.eval s,a.eval x]).run P w=.ok v w'):(execOp a.eval o).run P w=.ok (.value v) w':=by
 simp [execOp,G,resolve,invoke,builtin,J]
theorem xm (r:Q6 φ M0 N D T h a w) {k:TypeId} (ho:o.op=.call ⟨.builtin .delete,#[x,ix],#[t,k]⟩) (Z:Ux P T h t x ix=some u):Yield P o φ M0 h a w u.1 (ap h u.2.1):=by
 unfold Ux at Z;split at Z;rotate_left
 ·cases Z
 rename_i kt e b s ht hx ak;split at Z;rotate_left
 ·cases Z
 rename_i es hb af;split at Z;rotate_left
 ·cases Z
 rename_i aj;simp only [QN] at Z;subst Z;simp only [ap];have ae:=r.ev hx;simp only [Qe] at ae;have O:=r.ev ak;simp only [Qe,QH] at O;obtain ⟨en,clock,hw,G,aa,U⟩:=r.hp.blk b _ hb;have ad:(getObj (φ b)).run P w=.ok (.map en clock) w:=by simp [getObj,Sem.run,hw]
 have ab:∀ ob,(setObj (φ b) ob).run P w=.ok () (w.putObj (φ b) ob):=fun ob=>by simp [setObj,Sem.run,hw,World.putObj]
 have ac:=Fq (w:=w) (PO af s) en.isEmpty;have al:=BM af s (Tf es) 0;obtain ⟨q,NN,Dk⟩:=Xk (w:=w) af (OZ G) al;have J:=iP (JO s) es;cases hi:IP (JO s) 0 (Tf es) with
 | none =>
  rw [hi] at Dk;have Dk:q=none:=Dk;subst Dk
  have Y:Tf (rP (JO s) es)=Tf es:=by
   rw [J,List.filter_eq_self];intro e Z;simp [Ao hi e Z]
  obtain ⟨E,X⟩:=IM (k1:=.mf (rP (JO s) es)) (ob:=.map en clock) hb rfl rfl r.hp;refine ⟨_, .tuple #[],w.putObj (φ b) (.map en clock),φ,Aq ho ?_, .inl rfl,?_,vI hb rfl rfl r.hp ⟨en,clock,World.putObj_heap_same (FY.1 hw).1,?_,?_,U⟩,E,X⟩
  ·simp [Builtin.delete_,run_underlying ht,ae.1,ad,O,ac,NN,Result.andThen,ab]
  ·simp only [Qe]; exact ⟨[],rfl,rfl⟩
  ·rw [Y]; exact G
  ·rw [Y]; exact (QI (E.keeps M0) X).2 _ _ aa
 | some j =>
  rw [hi] at Dk;simp only [Option.map_some,PN] at Dk;obtain ⟨m,e',g1,g2,g3,g4⟩:=Dk;have ai:j=m:=by omega
  subst ai;subst g2;rw [PQ (OY aj) hi] at J;have ah:(en.eraseIdxIfInBounds j).toList=en.toList.eraseIdx j:=by simp
  obtain ⟨E,X⟩:=IM (k1:=.mf (rP (JO s) es)) (ob:=.map (en.eraseIdxIfInBounds j) clock) hb rfl rfl r.hp;refine ⟨_, .tuple #[],w.putObj (φ b) (.map (en.eraseIdxIfInBounds j) clock),φ,Aq ho ?_, .inl rfl,?_,vI hb rfl rfl r.hp ⟨_,clock,World.putObj_heap_same (FY.1 hw).1,?_,?_,mq U⟩,E,X⟩
  ·simp [Builtin.delete_,run_underlying ht,ae.1,ad,O,ac,NN,Result.andThen,ab]
  ·simp only [Qe]; exact ⟨[],rfl,rfl⟩
  ·rw [J,ah,Rn,Rn,G]
  ·rw [J,ah,Rn,Rn];exact Ap j ((QI (E.keeps M0) X).2 _ _ aa)
end
def iU (P:Program) (T:Nat→Option AV) (t:TypeId) (x:Operand):Option Xe:=match P.underlying t,Za T x with
 | some (.slice _),some (.bsl _ n)=>some (.p (.val (.int .i64 n)),none,[])
 | _,_=>none
def isB (T:Nat→Option AV):List (Nat × Operand)→Bool
 | (_,x) :: _=>match Za T x with | some (.fn _ _ _)=>true | _=>false
 | []=>false
def Fu (P:Program) (T:Nat→Option AV) (t:TypeId) (x ix:Operand):Option Xe :=
 match Za T ix,P.underlying t,Za T x with
 | some (.p (.val (.int _ n))),some (.slice e),some (.bsl b m) =>
  match P.info? e with
  | some i=>if i.size=1∧0≤n∧n < m then some (.ptr b n.toNat,none,[]) else none
  | none=>none
 | _,_,_=>none
def U9 (P:Program) (T:Nat→Option AV) (h:QG) (dst:Option Tmp) (t:TypeId) (len:Nat) (parts:Array (Nat × Operand)):Option Xe :=
 match P.underlying t,dst,OE T parts.toList with
 | some (.slice e),some d,some ps =>
  match P.info? e with
  | some i =>
   match i.zero,h d with
   | some z,none =>
    match cellsOf (zu z) with
    | some G =>
     if G.length=1∧i.size=1∧len≤16777216∧0 < len then
      match PD (fun k=>some (k * i.size,i.size)) (List.replicate len G).flatten ps with
      | some rs=>if rs.length=len∧Us rs then some (.bsl d len,some (d, .box e rs),[d]) else none
      | none=>none
     else none
    | none=>none
   | _,_=>none
  | none=>none
 | _,_,_=>none
section
variable {P:Program} {o:Oper} {φ:Nat→Nat} {M0:Zn} {N:Nat} {D:DB} {T:Nat→Option AV} {h:QG} {a:Act} {w:World}
theorem Qcz (r:Q6 φ M0 N D T h a w) (O:o.op=.call ⟨.builtin .len,#[x],#[t]⟩) (G:iU P T t x=some u):u.2.1=none∧Yield P o φ M0 h a w u.1 h:=by
 unfold iU at G;split at G
 ·rename_i e b n U Y;simp only [QN] at G;subst G;have J:=r.ev Y;simp only [Qe] at J;refine ⟨rfl,Ql r (v:=.int .i64 n) ?_ (by simp [Qe,QH])⟩;simp [execOp,O,resolve,invoke,builtin,Builtin.len_,run_underlying U,J.1,goInt]
 ·cases G
theorem zI (r:Q6 φ M0 N D T h a w) (Z:o.op=.indexAddr t x ix) (G:Fu P T t x ix=some u):u.2.1=none∧Yield P o φ M0 h a w u.1 h:=by
 unfold Fu at G;split at G
 ·rename_i k n e b m O ht hx;split at G
  ·rename_i i hi;split at G
   ·rename_i hc;simp only [QN] at G;subst G;have J:=r.ev O;simp only [Qe,QH] at J;have U:=r.ev hx;simp only [Qe] at U;refine ⟨rfl,Ql r (v:=.pointer (some ⟨φ b,0+n.toNat * i.size,none⟩)) ?_ ?_⟩
    ·have Y:0≤n∧n < (m:Int):=hc.2;simp [execOp,Z,Instr.indexAt,J,asIntOf,run_underlying ht,U.1,Y,QU hi,Addr.add_lit]
    ·simp only [Qe];exact ⟨by rw [hc.1,Nat.mul_one,Nat.zero_add],U.2⟩
   ·cases G
  ·cases G
 ·cases G
theorem O0 (r:Q6 φ M0 N D T h a w) (ho:o.op=.buildSlice t len parts) (G:U9 P T h o.dst t len parts=some u):Yield P o φ M0 h a w u.1 (ap h u.2.1):=by
 unfold U9 at G;split at G;rotate_left
 ·cases G
 rename_i e d ps ht af Y;split at G;rotate_left
 ·cases G
 rename_i i hi;split at G;rotate_left
 ·cases G
 rename_i z hz hd;split at G;rotate_left
 ·cases G
 rename_i zs ac;split at G;rotate_left
 ·cases G
 rename_i Z;split at G;rotate_left
 ·cases G
 rename_i rs ab;split at G;rotate_left
 ·cases G
 rename_i ad;simp only [QN] at G;subst G;simp only [ap];refine Yield.of_lift r 1 fun φ r E0 X0 hC=>?_
 obtain ⟨h1,h2⟩:=Cc r Y;obtain ⟨h3,_,_⟩:=Vb ac (V9 (φ:=φ) (h:=h) (w:=w) (M:=MM φ h M0) z);have ah:=Zp h3;have aa:z.cells.toList.length=i.size:=by omega
 have O:Qi φ h w (MM φ h M0) (List.replicate len zs).flatten (((Array.range (len * i.size)).map (z.cells[· % z.cells.size]!)).toList):=by
  have e1:((Array.range (len * i.size)).map (z.cells[· % z.cells.size]!)).toList=(List.replicate len z.cells.toList).flatten:=by
   have:=BI z.cells.toList i.size aa zo len;simp only [Array.toArray_toList] at this;rw [← this];simp [Array.toList_range]
  rw [e1];exact J3 h3 len
 obtain ⟨c',h4,h5⟩:=PG (placeC:=fun k=>some (k * i.size,i.size)) (fun k x hx=>hx) ps _ _ _ rs h1 h2 O ab;obtain ⟨E,X⟩:=XN (w:=w) (w':=w.alloc (.cells c' e)) (o:=.cells c' e) (b:=d) (k:=.box e rs) (φ:=φ) (h:=h) (M0:=M0) rfl rfl rfl rfl hd r.hp hC
 have J:RelB (Qu φ d w.heap.size) (upd h d (.box e rs)) (w.alloc (.cells c' e)) (MM (Qu φ d w.heap.size) (upd h d (.box e rs)) M0) w.heap.size (.box e rs) :=
  ⟨c',by show (w.heap.push _)[w.heap.size]?=_; simp,(QI (E.keeps M0) X).2 _ _ h5⟩
 refine ⟨_, .slice (some ⟨w.heap.size,0,none⟩) len len,w.alloc (.cells c' e),Qu φ d w.heap.size,?_, .inl rfl,?_,XO rfl hd r.hp hC E X J,E,X⟩
 ·have hq:(parts.map fun (x:Nat × Operand)=>(x.1,a.eval x.2)).toList=parts.toList.map fun (x:Nat × Operand)=>(x.1,a.eval x.2):=by simp
  have ae:len * i.size=len:=by rw [Z.2.1,Nat.mul_one]
  have U:¬ (len * i.size > 2 ^ 24):=by omega
  have h0:¬ len * i.size=0:=by omega
  simp only [execOp,ho,Instr.buildSlice,Sem.run_bind,run_underlying ht,QU hi,Result.andThen_ok,U,if_false,h0,hq,zeroValue,typeInfo,program,Sem.run,hi,hz,Sem.run_pure,h4];simp [newRow,newObj,Sem.run]
 ·simp only [Qe];exact ⟨by simp [Qu],e,rs,by simp [upd]⟩
theorem rT {l:List (Nat × Operand)} (G:∀ x ∈ l.map (·.2),Za T' x=Za T x):isB T' l=isB T l:=by
 cases l with
 | nil=>rfl
 | cons p l=>obtain ⟨i,x⟩:=p; simp only [isB,G x zq]
end
def Ti (a b:Option Xe):Option Xe:=match a with | some x=>some x | none=>b
def WW (P:Program) (o:Oper) (T:Nat→Option AV) (h:QG):Option Xe :=
 match o.op with
 | .move x=>VM T x
 | .assign x=>VM T x
 | .pick c x y=>MR T c x y
 | .alloc ty=>match P.info? ty with
  | some i=>match i.zero with | some z=>zz o h ty (zu z) | none=>none
  | none=>none
 | .box ty x=>match Za T x with | some v=>zz o h ty v | none=>none
 | .build t ps=>OG P T t ps
 | .buildSlice t n ps=>if n=0 then fU P h o.dst t ps else if isB T ps.toList=true then U9 P T h o.dst t n ps else U8 P T h o.dst t n ps
 | .load ty x=>if pR (Za T x) then OP P T h ty x else Pz P T h ty x
 | .store ty x y=>if pR (Za T x) then Ns P T h ty x y else OC P T h ty x y
 | .makeSlice t x y=>OQ P T h o.dst t x y
 | .makeMap _ rsv=>CB h o.dst rsv
 | .lookup t x i ok=>Ti (J4 P T h t x i ok) (Jq P T h t x i ok)
 | .mapUpdate t x i y=>Ti (YO P T h t x i y) (Uw P T h t x i y)
 | .nilCheck x=>if pR (Za T x) then rG T h x else Ti (Uu T x) (Gm P T o)
 | .fieldAddr t x f=>if pR (Za T x) then Xj P T h t x f else Xf P T t x f
 | .field t x f=>OD P T t x f
 | .indexAddr t x i=>if pR (Za T x) then Xi P T h t x i else Ti (Xg P T t x i) (Fu P T t x i)
 | .index t x i=>Ti (Si P T t x i) (Ti (BK P T t x i) (Gm P T o))
 | .slice t x lo hi G=>Ti (Tz P T t x lo hi G) (Gm P T o)
 | .extract x i=>Fg T x i
 | .makeFunc f a b=>Rk T f a b
 | .makeInterface t x=>WZ P T t x
 | .typeAssert x _ t ok=>U7 P T x t ok
 | .binOp op tx x y _=>Ti (Sm T op x y) (Ti (aEq P T op tx x y) (Ti (Gm P T o) (Sr P T h op tx x y)))
 | .unOp op _ x=>Ti (aUn T op x) (Gm P T o)
 | .convert src dst x=>Ti (jW P T dst src x) (Gm P T o)
 | .call ⟨.builtin .len,args,types⟩=>match args,types with | ⟨[x]⟩,⟨[t]⟩=>if pR (Za T x) then fQ P T h t x else Ti (iI P T t x) (Ti (xc P T t x) (Ti (Gm P T o) (iU P T t x))) | _,_=>none
 | .call ⟨.builtin .append,args,types⟩=>match args,types with | ⟨[s,x]⟩,⟨[t,J]⟩=>if t=J then (if pR (Za T s) then TD P T h o.dst t s x else F8 P T h o.dst t s x) else none | _,_=>none
 | .call ⟨.builtin .delete,args,types⟩=>match args,types with | ⟨[x,i]⟩,⟨[t,k]⟩=>Ux P T h t x i | _,_=>none
 | .call ⟨.builtin .max,_,_⟩=>Gm P T o
 | .call ⟨.builtin .min,_,_⟩=>Gm P T o
 | _=>none
section
variable {P:Program} {o:Oper} {φ:Nat→Nat} {M0:Zn} {N:Nat} {D:DB} {T:Nat→Option AV} {h:QG} {a:Act} {w:World}
theorem QV (hu:u.2.1=none∧Yield P o φ M0 h a w u.1 h):Yield P o φ M0 h a w u.1 (ap h u.2.1):=by rw [hu.1]; exact hu.2
theorem YP {x y:Option Xe} (G:Ti x y=some u):x=some u∨y=some u:=by
 unfold Ti at G;split at G
 ·exact .inl G
 ·exact .inr G
theorem iV (r:Q6 φ M0 N D T h a w) (G:WW P o T h=some u):Yield P o φ M0 h a w u.1 (ap h u.2.1):=by
 unfold WW at G;split at G
 case h_1 x ho =>
  unfold VM at G;split at G
  ·rename_i v J; simp only [QN] at G; subst G; exact pM r (.inl ho) J
  ·cases G
 case h_2 x ho =>
  unfold VM at G;split at G
  ·rename_i v J; simp only [QN] at G; subst G; exact pM r (.inr ho) J
  ·cases G
 case h_3 c x y ho=>have:=pO (P:=P) r ho G; exact QV ⟨this.1,this.2.2⟩
 case h_4 ty ho =>
  split at G
  ·rename_i i hi;split at G
   ·rename_i z O; exact iF r ho hi O G
   ·cases G
  ·cases G
 case h_5 ty x ho =>
  split at G
  ·rename_i v J; exact Qfz r ho J G
  ·cases G
 case h_6 t ps ho=>exact QV (iJ r ho G)
 case h_7 t n ps ho =>
  split at G
  ·rename_i U; subst U; exact Qcr r ho G
  ·split at G
   ·exact O0 r ho G
   ·exact zB r ho G
 case h_8 ty x ho=>split at G; exact QV (iM r ho G); exact QV (Qcm r ho G)
 case h_9 ty x y ho=>split at G; exact rF r ho G; exact iD r ho G
 case h_10 t x y ho=>exact iN r ho G
 case h_11 t rsv ho=>exact mo r ho G
 case h_12 t x i ok ho=>exact (YP G).elim (fun G=>QV (rM r ho G)) (fun G=>QV (xh r ho G))
 case h_13 t x i y ho=>exact (YP G).elim (fun G=>vH r ho G) (fun G=>xk r ho G)
 case h_14 x ho=>split at G; exact QV (Qcs r ho G); exact (YP G).elim (fun G=>QV (jS r ho G)) (fun G=>QV (pure_ok r G))
 case h_15 t x f ho=>split at G; exact QV (zD r ho G); exact QV (y9 r ho G)
 case h_16 t x f ho=>exact QV (iG r ho G)
 case h_17 t x i ho=>split at G; exact QV (zC r ho G); exact (YP G).elim (fun G=>QV (vg r ho G)) (fun G=>QV (zI r ho G))
 case h_18 t x i ho=>exact (YP G).elim (fun G=>QV (iH r ho G)) (fun G=>(YP G).elim (fun G=>QV (rH r ho G)) (fun G=>QV (pure_ok r G)))
 case h_19 t x lo hi mx ho=>exact (YP G).elim (fun G=>QV (iL r ho G)) (fun G=>QV (pure_ok r G))
 case h_20 x i ho=>exact QV (fM r ho G)
 case h_21 f l m ho=>exact QV (jR r ho G)
 case h_22 t x ho=>exact QV (Sl r ho G)
 case h_23 x xt t ok ho=>exact QV (zA r ho G)
 case h_24 op tx x y ty ho=>exact (YP G).elim (fun G=>QV (QfC r ho G)) (fun G=>(YP G).elim (fun G=>QV (Qhl r ho G)) (fun G=>(YP G).elim (fun G=>QV (pure_ok r G)) (fun G=>QV (iO r ho G))))
 case h_25 op tx x ho=>exact (YP G).elim (fun G=>QV (Qhj r ho G)) (fun G=>QV (pure_ok r G))
 case h_26 src dst x ho=>exact (YP G).elim (fun G=>QV (Qcp r ho G)) (fun G=>QV (pure_ok r G))
 case h_27 args types ho =>
  split at G
  ·rename_i x t; split at G; exact QV (Qcq r ho G); exact (YP G).elim (fun G=>QV (QfA r ho G)) (fun G=>(YP G).elim (fun G=>QV (Qct r ho G)) (fun G=>(YP G).elim (fun G=>QV (pure_ok r G)) (fun G=>QV (Qcz r ho G))))
  ·cases G
 case h_28 args types ho =>
  split at G
  ·rename_i s x t Z;split at G
   ·rename_i Y; subst Y; split at G; exact fT r ho G; exact rD r ho G
   ·cases G
  ·cases G
 case h_29 args types ho =>
  split at G
  ·exact xm r ho G
  ·cases G
 case h_30=>exact QV (pure_ok r G)
 case h_31=>exact QV (pure_ok r G)
 case h_32=>cases G
end
inductive Zz where
 | ret (x:AV)
 | panic (x:AV)
def iW (φ:Nat→Nat) (h:QG) (w:World) (M:Zn):Zz→Ending→Prop
 | .ret x,e=>∃ v,e=.returned v∧Qe φ h w M x v
 | .panic x,e=>∃ v,e=.panicked [{ v:=v,recovered:=false }]∧Qe φ h w M x v
def Kw (P:Program) (f:FuncId) (args:List AV) (h:QG) (R:Zz→QG→Prop):Prop :=
 ∀ φ M0 w G,Zw φ h w M0→Qi φ h w (MM φ h M0) args G→Calls P f G.toArray w fun e w' =>
  ∃ φ' r h',R r h'∧Zw φ' h' w' M0∧QT φ h w φ' h' w'∧iW φ' h' w' (MM φ' h' M0) r e
def GL:QG:=fun _=>none
def QB (P:Program) (f:FuncId) (args:List AV) (x:Zz):Prop:=Kw P f args GL fun r h'=>r=x∧h'=GL
mutual
def KS:AV→Bool
 | .p _=>true
 | .eptr _=>true
 | .tsl _ _ _=>false
 | .ptr _ _=>false
 | .vnil=>true
 | .vsl _ _ _=>false
 | .vptr _ _ _ _=>false
 | .yv _=>false
 | .mv _=>false
 | .bsl _ _=>false
 | .sfp _=>false
 | .iv _=>false
 | .agg cs=>YQ cs
 | .tup cs=>YQ cs
 | .fn _ a b=>YQ a&&YQ b
 | .ifc _ x=>KS x
def YQ:List AV→Bool
 | []=>true
 | x :: xs=>KS x&&YQ xs
end
theorem WE
  (hk:∀ r o v,w.cell? ⟨r,o,none⟩=some v→¬ M r o→w'.cell? ⟨r,o,none⟩=some v∧¬ M' r o) :
  (∀ (x:AV) (v:Value),KS x=true→Qe φ h w M x v→Qe φ' h' w' M' x v)∧(∀ (xs:List AV) (l:List Value),YQ xs=true→Qi φ h w M xs l→Qi φ' h' w' M' xs l):=by
 obtain ⟨kp,ke,kc⟩:=ZP hk
 have key:∀ n:Nat,(∀ (x:AV),SizeOf.sizeOf x≤n→∀ v,KS x=true→Qe φ h w M x v→Qe φ' h' w' M' x v)∧(∀ (xs:List AV),SizeOf.sizeOf xs≤n→∀ l,YQ xs=true→Qi φ h w M xs l→Qi φ' h' w' M' xs l):=by
  intro n
  induction n with
  | zero =>
   refine ⟨fun x Y=>?_,fun es Y=>?_⟩
   ·cases x <;> simp at Y
   ·cases es <;> simp at Y
  | succ n ih =>
   obtain ⟨i1,i2⟩:=ih;refine ⟨fun x Y v G J=>?_,fun xs Y l G J=>?_⟩
   ·cases x with
    | p x=>simp only [Qe] at J ⊢; exact kp x v J
    | tsl S es t=>simp [KS] at G
    | ptr b off=>simp [KS] at G
    | vnil=>simp only [Qe] at J ⊢; exact J
    | vsl S t n=>simp [KS] at G
    | vptr t n k f=>simp [KS] at G
    | yv b=>simp [KS] at G
    | mv b=>simp [KS] at G
    | iv b=>simp [KS] at G
    | bsl b n=>simp [KS] at G
    | sfp b=>simp [KS] at G
    | eptr cs =>
     simp only [Qe] at J ⊢;obtain ⟨r,o,O,U⟩:=J;exact ⟨r,o,O,kc cs r o U⟩
    | agg cs =>
     simp only [Qe,KS] at J G ⊢;obtain ⟨l,O,U⟩:=J;exact ⟨l,O,i2 cs (by simp at Y; omega) l G U⟩
    | tup cs =>
     simp only [Qe,KS] at J G ⊢;obtain ⟨l,O,U⟩:=J;exact ⟨l,O,i2 cs (by simp at Y; omega) l G U⟩
    | fn f a b =>
     simp only [Qe,KS,Ze] at J G ⊢;obtain ⟨l,m,O,U,Z⟩:=J;simp at Y;exact ⟨l,m,O,i2 a zo l G.1 U,i2 b zo m G.2 Z⟩
    | ifc t x =>
     simp only [Qe,KS] at J G ⊢;obtain ⟨y,O,U⟩:=J;exact ⟨y,O,i1 x (by simp at Y; omega) y G U⟩
   ·cases xs with
    | nil=>simpa [Qi] using J
    | cons x xs =>
     simp only [Qi,YQ,Ze] at J G ⊢;simp at Y;obtain ⟨y,ys,O,U,Z⟩:=J;exact ⟨y,ys,O,i1 x zo y G.1 U,i2 xs zo ys G.2 Z⟩
 exact ⟨fun x v=>(key (SizeOf.sizeOf x)).1 x (Nat.le_refl _) v,fun xs l=>(key (SizeOf.sizeOf xs)).2 xs (Nat.le_refl _) l⟩
mutual
def le:AV→AV→Prop
 | .tsl S es t,y=>y=.tsl S es t∨y=.p (.sl S es)
 | .p (.val v),y=>y=.p (.val v)∨(v=.slice none 0 0∧((∃ S,y=.p (.sl S []))∨y=.vnil))
 | .agg xs,y=>∃ ys,y=.agg ys∧PR xs ys
 | .tup xs,y=>∃ ys,y=.tup ys∧PR xs ys
 | .vnil,y=>y=.vnil∨∃ S,y=.p (.sl S [])
 | x,y=>y=x
def PR:List AV→List AV→Prop
 | [],ys=>ys=[]
 | x :: xs,ys=>∃ z G,ys=z :: G∧le x z∧PR xs G
end
theorem JJ :
  (∀ (x y:AV) (v:Value),le x y→Qe φ h w M x v→Qe φ h w M y v)∧(∀ (xs ys:List AV) (l:List Value),PR xs ys→Qi φ h w M xs l→Qi φ h w M ys l):=by
 have key:∀ n:Nat,(∀ (x:AV),SizeOf.sizeOf x≤n→∀ y v,le x y→Qe φ h w M x v→Qe φ h w M y v)∧(∀ (xs:List AV),SizeOf.sizeOf xs≤n→∀ ys l,PR xs ys→Qi φ h w M xs l→Qi φ h w M ys l):=by
  intro n
  induction n with
  | zero =>
   refine ⟨fun x O=>?_,fun es O=>?_⟩
   ·cases x <;> simp at O
   ·cases es <;> simp at O
  | succ n ih =>
   obtain ⟨i1,i2⟩:=ih;refine ⟨fun x O y v G J=>?_,fun xs O ys l G J=>?_⟩
   ·cases x with
    | p x=>cases x with
     | val u =>
      simp only [le] at G;rcases G with rfl | ⟨rfl,⟨S,rfl⟩ | rfl⟩
      ·exact J
      ·simp only [Qe,QH] at J ⊢; exact .inr ⟨trivial,none,0,J⟩
      ·simp only [Qe,QH] at J ⊢; exact J
     | sl S es=>simp only [le] at G; subst G; exact J
    | tsl S es t =>
     simp only [le] at G;rcases G with rfl | rfl
     ·exact J
     ·simp only [Qe] at J ⊢; exact J.1
    | ptr b off=>simp only [le] at G; subst G; exact J
    | eptr cs=>simp only [le] at G; subst G; exact J
    | vnil =>
     simp only [le] at G;rcases G with rfl | ⟨S,rfl⟩
     ·exact J
     ·simp only [Qe,QH] at J ⊢; exact .inr ⟨trivial,none,0,J⟩
    | vsl S t n=>simp only [le] at G; subst G; exact J
    | vptr t n k f=>simp only [le] at G; subst G; exact J
    | yv b=>simp only [le] at G; subst G; exact J
    | mv b=>simp only [le] at G; subst G; exact J
    | iv b=>simp only [le] at G; subst G; exact J
    | bsl b n=>simp only [le] at G; subst G; exact J
    | sfp b=>simp only [le] at G; subst G; exact J
    | agg cs =>
     simp only [le] at G;obtain ⟨ys,rfl,Y⟩:=G;simp only [Qe] at J ⊢;obtain ⟨l,Z,U⟩:=J;exact ⟨l,Z,i2 cs (by simp at O; omega) ys l Y U⟩
    | tup cs =>
     simp only [le] at G;obtain ⟨ys,rfl,Y⟩:=G;simp only [Qe] at J ⊢;obtain ⟨l,Z,U⟩:=J;exact ⟨l,Z,i2 cs (by simp at O; omega) ys l Y U⟩
    | fn f a b=>simp only [le] at G; subst G; exact J
    | ifc t x=>simp only [le] at G; subst G; exact J
   ·cases xs with
    | nil=>simp only [PR] at G; subst G; exact J
    | cons x xs =>
     simp only [PR] at G;obtain ⟨z,zs,rfl,Z,Y⟩:=G;simp only [Qi] at J ⊢;simp at O;obtain ⟨y,ys,U,h4,h5⟩:=J;exact ⟨y,ys,U,i1 x zo z y Z h4,i2 xs zo zs ys Y h5⟩
 exact ⟨fun x y v=>(key (SizeOf.sizeOf x)).1 x (Nat.le_refl _) y v,fun xs ys l=>(key (SizeOf.sizeOf xs)).2 xs (Nat.le_refl _) ys l⟩
def Xl (P:Program) (N:Nat) (f:FuncId) (args:List AV) (dst:Option Tmp) (s:St) (K:St→Prop) (Q:AX→St→Prop):Prop :=
 ∀ φ M0 D a w G,Q6 φ M0 N D (look s.T) (look s.H) a w→Qi φ (look s.H) w (MM φ (look s.H) M0) args G→Calls P f G.toArray w fun e w' =>
  match e with
  | .returned v=>∃ φ' s',K s'∧Q6 φ' M0 N D (look s'.T) (look s'.H) (a.put dst v) w'∧QT φ (look s.H) w φ' (look s'.H) w'
  | .panicked chain=>Post N D Q φ M0 (look s.H) w (.panic chain) a w'
  | .outgrown=>False
theorem Uy (Z:w'.os=w.os) (ht:w'.tape=w.tape) (hu:w'.output=w.output) (hs:w.heap.size≤w'.heap.size)
  (G:∀ x,x < w.heap.size→w'.heap[x]?=w.heap[x]?) (r:Zw φ h w M0) (hC:Clear φ h w (w'.heap.size - w.heap.size)):QT φ h w φ h w'∧VL φ h w φ h w'∧Zw φ h w' M0:=by
 have J:∀ b k,h b=some k→w'.heap[φ b]?=w.heap[φ b]?:=fun b k hb=>hC.lt r zo G (by rw [hb]; simp)
 have E:QT φ h w φ h w':=⟨Z,ht,hu,hs,fun x O _=>G x O,fun x o O _=>by simp [World.cell?,G x O],fun _ _ _ x=>x,fun _ _ _ _ x=>⟨⟨_,x⟩,rfl⟩,
  fun t ty S n _ x=>⟨_,x,Nat.le_refl _,fun _=>Yi (rfl) (by rw [J _ _ x])⟩,
  fun t ty S n _ x=>⟨_,x,Nat.le_refl _,fun _=>⟨rfl,fun c hc=>⟨c,by rw [J _ _ x]; exact hc,rfl⟩⟩⟩,fun _ _ _ _ Y U=>⟨⟨_,Y,U⟩,rfl⟩⟩
 have X:VL φ h w φ h w':=⟨fun _ _ _ x=>⟨⟨_,_,x⟩,rfl⟩,fun t ty S n x=>⟨_,x,Nat.le_refl _,fun _=>Yi (rfl) (by rw [J _ _ x])⟩,
  fun t ty S n x=>⟨_,x,Nat.le_refl _,fun _=>⟨rfl,fun c hc=>⟨c,by rw [J _ _ x]; exact hc,rfl⟩⟩⟩,fun _ _ _ Y U=>⟨⟨_,Y,U⟩,rfl⟩⟩
 exact ⟨E,X,r.inj,fun b k hb=>ZI (E.keeps M0) X (J b k hb) (r.blk b k hb),r.fr,fun x o O=>Nat.lt_of_lt_of_le (r.lt x o O) hs,r.gm.evol E⟩
def MB (φ:Nat→Nat) (h:QG) (w:World) (M0:Zn):Zn:=fun x o=>MM φ h M0 x o∧x < w.heap.size
theorem xn {x o:Nat} (G:MB φ h w M0 x o):x < w.heap.size:=G.2
theorem IQ (J:Zw φ h w M0) (hs:w.heap.size≤w'.heap.size) {o:Nat} (O:w'.cell? ⟨r,o,none⟩=some v) (G:¬ MB φ h w M0 r o) :
  ¬ MM (Kv φ w.heap.size (w'.heap.size - w.heap.size)) h M0 r o:=by
 have hlt:=BC O;rintro (⟨b,k,g1,g2,g3⟩ | g1)
 ·unfold Kv at g2;by_cases e:φ b < w.heap.size
  ·simp only [e,if_true] at g2;exact G ⟨.inl ⟨b,k,g1,g2,g3⟩,by omega⟩
  ·simp only [e,if_false] at g2;omega
 ·exact G ⟨.inr g1,J.lt _ _ g1⟩
theorem He (J:∀ x o,M x o→x < w.heap.size) (G:fI w) (U:∀ g ∈ gfix,∀ o,¬ M g o):Zw φ GL w M :=
 ⟨fun b c hb=>absurd rfl hb,(fun b k hb=>by cases hb),fun b hb=>absurd rfl hb,J,G,fun g G o h=>h.elim (fun ⟨b,k,O,_⟩=>by cases O) (U g G o)⟩
theorem GM.mb (G:GM φ h w M0):∀ g ∈ gfix,∀ o,¬ MB φ h w M0 g o:=fun g J o O=>G.m g J o O.1
theorem VY {x o:Nat}:¬ DJ φ GL x o:=by rintro ⟨b,k,G,_⟩; cases G
theorem kV {x:AV}
  (hc:QB P f args' (.ret x)) (U:PR args args') (hn:YQ args'=true) (Z:KS x=true) (hd:∀ t,dst=some t→t < N) (hk:K (s.put dst x)):Xl P N f args dst s K Q:=by
 intro φ M0 D a w vs r ha;have hH:Zw φ GL w (MB φ (look s.H) w M0):=He (fun x o hm=>xn hm) r.hp.gm.w r.hp.gm.mb;have hM:∀ r o v,w.cell? ⟨r,o,none⟩=some v→¬ MM φ (look s.H) M0 r o→w.cell? ⟨r,o,none⟩=some v∧¬ MM φ GL (MB φ (look s.H) w M0) r o:=fun r o v G Y=>⟨G,fun O=>O.elim VY (fun h4=>Y h4.1)⟩
 refine (hc φ (MB φ (look s.H) w M0) w vs hH ((WE hM).2 _ _ hn (JJ.2 _ _ _ U ha))).mono ?_;rintro e w' ⟨φ',r',h',⟨rfl,rfl⟩,aa,E,v,rfl,hv⟩;have J:∀ ro o v,w'.cell? ⟨ro,o,none⟩=some v→¬ MM φ' GL (MB φ (look s.H) w M0) ro o→w'.cell? ⟨ro,o,none⟩=some v∧¬ MM (Kv φ w.heap.size (w'.heap.size - w.heap.size)) (look s.H) M0 ro o:=fun ro o v G Y=>⟨G,IQ r.hp E.size G (fun O=>Y (.inr O))⟩
 obtain ⟨r,E1,X1,hC⟩:=r.lift (w'.heap.size - w.heap.size);obtain ⟨E2,X2,H2⟩:=Uy E.os E.tape E.output E.size (fun x Z=>E.same x Z (fun b hb=>absurd rfl hb)) r.hp hC;have r2:Q6 _ M0 N D (look s.T) (look s.H) a w':=r.keep E2 X2 H2;exact ⟨_,s.put dst x,hk,r2.put hd ((WE J).1 _ _ Z hv),by cases dst <;> exact E1.trans E2⟩
end Go.Abs
