/-
  A part of the proof of a statement of the seat YtniaojaeacgpoaaDoor.
-/
import Derived.Below
import Derived.Orders
import Derived.Lib.ItoaNum
import Derived.Sort.LoopGhostIn
import Derived.OrdersIn
import Derived.Scope
import Derived.Laws.AppendOwn
import Derived.Laws.StructEq
import Derived.Laws.MakeOwn
import Derived.ChangeKeysEq
import Derived.Lib.SliceRun
import Derived.RangeFuncRecord
import Derived.RangeFuncLeaves
import Derived.RangeFuncSeq
import Derived.Recover
import Derived.KernelRfl
import Derived.LoopNIn
import Derived.ProofKit
import Derived.OpenShut
import Derived.WideKeyArgs
import Derived.RowKit3
import Derived.JoinedCond
import Derived.ChangeSame
import Derived.Maps.RangeRun
import Derived.Laws.BytesString
import Derived.Lib.AppendStr
import Derived.LaidEql
import Derived.Shelf.Strconv.Itoa3
import Derived.Shelf.Strconv.Itoa0
import Derived.Shelf.Strconv.Itoa1
import Derived.Shelf.LaysM
import Derived.Shelf.Strconv.Itoa2
import Derived.Test.YtniaojaeacgpoaaDoorProg
import Derived.Lib.Bytealg
import Derived.Lib.IndexMore
import Derived.Test.YtniaojaeacgpoaaDoorRows
import Derived.Test.YtniaojaeacgpoaaDoorTie
import Derived.Test.YtniaojaeacgpoaaDoorCards
import Derived.LaidMore
import Derived.Lay
import Derived.MakeChecks
import Derived.Lib.LaidTab
import Derived.SevenTiedAt
import Derived.LaidLaws
set_option linter.unusedVariables false
namespace Go
theorem dzF {p:Prop} [i:Decidable p] (h:¬p):decide p=false:=decide_eq_false h
theorem dzT {p:Prop} [i:Decidable p] (h:p):decide p=true:=decide_eq_true h
theorem obs {α β:Type} (a:α) (f:α→Option β):(some a).bind f=f a:=Option.bind_some a f
theorem sie {α:Type} {a b:α}:(some a=some b)=(a=b):=Option.some.injEq a b
theorem bae {a b:Bool}:((a&&b)=true)=(a=true∧b=true):=Bool.and_eq_true a b
theorem zo {p:Prop} (h:p:=by omega):p:=h
theorem zq {p:Prop} (h:p:=by simp):p:=h
theorem zLA {α:Type} {xs ys:List α}:(xs++ys).length=xs.length+ys.length:=List.length_append
theorem zLC {α:Type} {a:α} {xs:List α}:(a :: xs).length=xs.length+1:=List.length_cons
theorem zGS {α:Type} {xs:Array α} {i:Nat} {b:α}:xs[i]?=some b↔∃ h:i < xs.size,xs[i]=b:=Array.getElem?_eq_some_iff
theorem zIE {α:Type} {x:Option α}:x.isSome=true↔∃ a,x=some a:=Option.isSome_iff_exists
theorem zMS {α β:Type} {x:Option α} {f:α→β} {b:β}:x.map f=some b↔∃ a,x=some a∧f a=b:=Option.map_eq_some_iff
theorem zNE {α:Type} {o:Option α}:o ≠ none↔∃ x,o=some x:=Option.ne_none_iff_exists'
theorem zCT {α:Type} {a b:α}:cond true a b=a:=rfl
theorem zCF {α:Type} {a b:α}:cond false a b=b:=rfl
theorem zMC {α β:Type} {f:α→β} {a:α} {l:List α}:(a :: l).map f=f a :: l.map f:=rfl
theorem zLM {α β:Type} {xs:List α} (f:α→β):(xs.map f).length=xs.length:=List.length_map f
theorem zPJ {α β:Type} (a:α) (b:β) (c:α) (d:β):((a,b)=(c,d))=(a=c∧b=d):=Prod.mk.injEq a b c d
theorem zDT {p:Prop} [Decidable p]:(decide p=true)=p:=decide_eq_true_eq
theorem zNR (n:Nat):n≤n:=Nat.le_refl n
theorem zLD {α:Type} {i:Nat} {l:List α}:(l.drop i).length=l.length - i:=List.length_drop
theorem zAT {α:Type} {p:α→Bool} {l:List α}:l.all p=true↔∀ x,x ∈ l→p x=true:=List.all_eq_true
theorem zBS {α β:Type} {o:Option α} {f:α→Option β} {b:β}:o.bind f=some b↔∃ a,o=some a∧f a=some b:=Option.bind_eq_some_iff
theorem zLG {α:Type} {b:α} {xs:List α} {i:Nat}:xs[i]?=some b↔∃ h:i < xs.length,xs[i]=b:=List.getElem?_eq_some_iff
end Go
namespace Go.Abs
open Go
def clS (S:Nat):Bool:=S != 0&&S % 5 == 0
theorem clS_pos {S:Nat} (h:clS S=true):0 < S:=by
 rcases Nat.eq_zero_or_pos S with h0 | h0
 ·subst h0; cases h
 ·exact h0
def gfix:List Nat:=[0]
def gmW (w:World):Prop:=∃ ty fz,w.heap[0]?=some (.cells (Lib.pow10Tab.map fun z=>Value.int .u64 z).toArray ty fz)
theorem gmW_keep {w w':World} (h:∀ g ∈ gfix,w'.heap[g]?=w.heap[g]?) (hw:gmW w):gmW w':=by
 obtain ⟨ty,fz,hw⟩:=hw
 exact ⟨ty,fz,by rw [h 0 (by simp [gfix])]; exact hw⟩
theorem gmW_lt {w:World} (hw:gmW w):∀ g ∈ gfix,g < w.heap.size:=fun g hg=>by
 obtain ⟨ty,fz,hw⟩:=hw
 simp only [gfix,List.mem_singleton] at hg
 subst hg
 exact (zGS.1 hw).1
theorem gmW_nd {w:World} (hw:gmW w):∀ g ∈ gfix,∀ l,w.heap[g]? ≠ some (.deferred l):=fun g hg l h=>by
 obtain ⟨ty,fz,hw⟩:=hw
 simp only [gfix,List.mem_singleton] at hg
 subst hg
 rw [hw] at h
 cases h
inductive PV where
 | val (x:Value)
 | sl (S:Nat) (es:List (List PV))
 | ad (S:Nat) (es:List (List PV))
 | slu (S:Nat) (es:List (List PV))
inductive AV where
 | p (x:PV)
 | tsl (S:Nat) (es:List (List PV)) (t:Nat)
 | ptr (b off:Nat)
 | eptr (cs:List PV)
 | agg (cs:List AV)
 | tup (vs:List AV)
 | fn (f:Fn) (first captured:List AV)
 | ifc (t:TypeId) (x:AV)
 | vnil
 | vsl (S t n:Nat)
 | vptr (t n k f:Nat)
 | vtl (S t n k m:Nat)
 | yv (b:Nat)
 | mv (b:Nat)
 | bsl (b n:Nat)
 | sfp (b:Nat)
 | iv (b:Nat)
structure LInfo where
 N:Nat
 fn:FuncId
 ps:Array Tmp
 assign:Code
 body:Code
inductive Blk where
 | box (ty:TypeId) (cs:List AV)
 | arr (ty:TypeId) (S n:Nat)
 | vec (ty:TypeId) (S:Nat) (es:List (List PV))
 | lp (T:List (Nat × AV)) (nf:LInfo) (st:LoopState) (pd:Option Code)
 | mp (es:List (Value × PV))
 | mf (es:List (Bool × List UInt8 × AV))
 | mg (en:Array MapEntry) (clock:Nat) (es:List (Bool × List UInt8 × AV))
 | it (m clock:Nat) (seen:Array Nat)
 | mm (S:Nat) (G:List (List PV)→PV→Prop)
inductive OB where
 | lp (T:List (Nat × AV)) (nf:LInfo)
 | mp
def Blk.ob:Blk→Option OB
 | .lp T nf _ _=>some (.lp T nf)
 | .mp _=>some .mp
 | .mf _=>some .mp
 | .mg _ _ _=>some .mp
 | .it _ _ _=>some .mp
 | .mm _ _=>some .mp
 | _=>none
def look {α:Type}:List (Nat × α)→Nat→Option α
 | [],_=>none
 | (k,v) :: l,t=>if k=t then some v else look l t
abbrev Heap:=Nat→Option Blk
abbrev Mset:=Nat→Nat→Prop
def Unm (w:World) (r:Nat):Prop:=∀ c e fz,w.heap[r]?=some (.cells c e fz)→fz=(0,0)
theorem Unm.eq {w w':World} {r r':Nat} (h:w'.heap[r']?=w.heap[r]?) (hu:Unm w r):Unm w' r':=fun c e fz hc=>hu c e fz (h ▸ hc)
theorem unm_some {w:World} {r:Nat} {c:Array Value} {e:TypeId} (h:w.heap[r]?=some (.cells c e (0,0))):Unm w r:=fun c' e' fz hc=>by rw [h] at hc; cases hc; rfl
theorem unm_or {w:World} {x y:Nat} (h1:Unm w y) (h2:x ≠ y→Unm w x):Unm w x:=by
 by_cases e:x=y
 ·rw [e]; exact h1
 ·exact h2 e
theorem unm_ob {w:World} {r:Nat} {o:Obj} (h:w.heap[r]?=some o) (ho:∀ c e fz,o ≠ .cells c e fz):Unm w r:=fun c' e' fz hc=>by rw [h] at hc; cases hc; exact absurd rfl (ho _ _ _)
mutual
def RepW (w:World) (M:Mset):PV→Value→Prop
 | .val x,v=>v=x
 | .sl S es,v=>(∃ r o cap,v=.slice (some ⟨r,o,none⟩) es.length cap∧es.length≤cap∧RepWEs w M S r o es)∨(es=[]∧∃ a cap,v=.slice a 0 cap)
 | .ad _ _,_=>False
 | .slu _ _,_=>False
def RepWCs (w:World) (M:Mset) (r:Nat):Nat→List PV→Prop
 | _,[]=>True
 | o,c :: cs=>(∃ v,w.cell? ⟨r,o,none⟩=some v∧¬ M r o∧v.oneCell'=true∧RepW w M c v)∧RepWCs w M r (o+1) cs
def RepWEs (w:World) (M:Mset) (S r:Nat):Nat→List (List PV)→Prop
 | _,[]=>True
 | o,e :: es=>(e.length=S∧RepWCs w M r o e)∧RepWEs w M S r (o+S) es
end
theorem repW_keep {w w':World} {M M':Mset} (hk:∀ r o v,w.cell? ⟨r,o,none⟩=some v→¬ M r o→w'.cell? ⟨r,o,none⟩=some v∧¬ M' r o) :
  (∀ (x:PV) (v:Value),RepW w M x v→RepW w' M' x v)∧(∀ (es:List (List PV)) (S r o:Nat),RepWEs w M S r o es→RepWEs w' M' S r o es)∧(∀ (cs:List PV) (r o:Nat),RepWCs w M r o cs→RepWCs w' M' r o cs):=by
 have key:∀ n:Nat,(∀ (x:PV),SizeOf.sizeOf x≤n→∀ v,RepW w M x v→RepW w' M' x v)∧(∀ (es:List (List PV)),SizeOf.sizeOf es≤n→∀ S r o,RepWEs w M S r o es→RepWEs w' M' S r o es)∧(∀ (cs:List PV),SizeOf.sizeOf cs≤n→∀ r o,RepWCs w M r o cs→RepWCs w' M' r o cs):=by
  intro n
  induction n with
  | zero =>
   refine ⟨fun x hx=>?_,fun es hx=>?_,fun cs hx=>?_⟩
   ·cases x <;> simp at hx
   ·cases es <;> simp at hx
   ·cases cs <;> simp at hx
  | succ n ih =>
   obtain ⟨i1,i2,i3⟩:=ih
   refine ⟨fun x hx=>?_,fun es hx=>?_,fun cs hx=>?_⟩
   ·intro v hv
    cases x with
    | val x=>simpa [RepW] using hv
    | sl S es =>
     simp only [RepW] at hv ⊢
     rcases hv with ⟨r,o,cap,h1,h2⟩ | h2
     ·exact .inl ⟨r,o,cap,h1,h2.1,i2 _ (by simp at hx ⊢; omega) S r o h2.2⟩
     ·exact .inr h2
    | ad S es=>simp only [RepW] at hv
    | slu S es=>simp only [RepW] at hv
   ·intro S r o hv
    cases es with
    | nil=>simp [RepWEs]
    | cons e es =>
     simp only [RepWEs] at hv ⊢
     simp at hx
     exact ⟨⟨hv.1.1,i3 e zo r o hv.1.2⟩,i2 es zo S r _ hv.2⟩
   ·intro r o hv
    cases cs with
    | nil=>simp [RepWCs]
    | cons c cs =>
     simp only [RepWCs] at hv ⊢
     simp at hx
     obtain ⟨⟨v,h1,h2,h7,h3⟩,h4⟩:=hv
     obtain ⟨h5,h6⟩:=hk r o v h1 h2
     exact ⟨⟨v,h5,h6,h7,i1 c zo v h3⟩,i3 cs zo r _ h4⟩
 exact ⟨fun x v=>(key (SizeOf.sizeOf x)).1 x (zNR _) v,fun es=>(key (SizeOf.sizeOf es)).2.1 es (zNR _),fun cs=>(key (SizeOf.sizeOf cs)).2.2 cs (zNR _)⟩
mutual
def RepP (w:World) (M:Mset):PV→Value→Prop
 | .val x,v=>v=x
 | .sl S es,v=>(∃ r o cap,v=.slice (some ⟨r,o,none⟩) es.length cap∧es.length≤cap∧RepEs w M S r o es∧(clS S=true→Unm w r))∨(es=[]∧∃ a cap,v=.slice a 0 cap)
 | .ad S es,v=>es ≠ []∧∃ r o,v=.pointer (some ⟨r,o,none⟩)∧RepEs w M S r o es∧clS S=true∧Unm w r
 | .slu S es,v=>(∃ r o cap,v=.slice (some ⟨r,o,none⟩) es.length cap∧es.length≤cap∧RepWEs w M S r o es)∨(es=[]∧∃ a cap,v=.slice a 0 cap)
def RepCs (w:World) (M:Mset) (r:Nat):Nat→List PV→Prop
 | _,[]=>True
 | o,c :: cs=>(∃ v,w.cell? ⟨r,o,none⟩=some v∧¬ M r o∧v.oneCell'=true∧RepP w M c v)∧RepCs w M r (o+1) cs
def RepEs (w:World) (M:Mset) (S r:Nat):Nat→List (List PV)→Prop
 | _,[]=>True
 | o,e :: es=>(e.length=S∧RepCs w M r o e)∧RepEs w M S r (o+S) es
end
mutual
def RepA (φ:Nat→Nat) (h:Heap) (w:World) (M:Mset):AV→Value→Prop
 | .p x,v=>RepP w M x v
 | .tsl S es t,v=>RepP w M (.sl S es) v∧∃ ty n,h t=some (.arr ty S n)∧es.length≤n ∧
   (es.length=n→(n=0∧v=.slice none 0 0∧w.heap[φ t]?=none)∨∃ cap c,v=.slice (some ⟨φ t,0,none⟩) n cap∧w.heap[φ t]?=some (.cells c ty (0,0))∧c.size=cap * S∧n≤cap∧cap≤maxLen)
 | .ptr b off,v=>v=.pointer (some ⟨φ b,off,none⟩)∧∃ ty cs,h b=some (.box ty cs)
 | .eptr cs,v=>∃ r o,v=.pointer (some ⟨r,o,none⟩)∧RepCs w M r o cs
 | .agg cs,v=>∃ l:List Value,v=.agg l.toArray∧RepAs φ h w M cs l
 | .tup vs,v=>∃ l:List Value,v=.tuple l.toArray∧RepAs φ h w M vs l
 | .fn f a b,v=>∃ l m:List Value,v=.func f l.toArray m.toArray∧RepAs φ h w M a l∧RepAs φ h w M b m
 | .ifc t x,v=>∃ y,v=.iface t y∧RepA φ h w M x y
 | .vnil,v=>v=.slice none 0 0
 | .vsl S t n,v=>v.oneCell'=true∧∃ ty es,h t=some (.vec ty S es)∧n≤es.length ∧
   (n=es.length→∃ cap c,v=.slice (some ⟨φ t,0,none⟩) n cap∧w.heap[φ t]?=some (.cells c ty (0,0))∧c.size=cap * S∧n≤cap∧cap≤maxLen)
 | .vptr t n k f,v=>v.oneCell'=true∧∃ ty S es,h t=some (.vec ty S es)∧n≤es.length∧(n=es.length→v=.pointer (some ⟨φ t,k * S+f,none⟩))
 | .vtl S t n k m,v=>v.oneCell'=true∧∃ ty es,h t=some (.vec ty S es)∧n≤es.length ∧
   (n=es.length→k+m≤n∧∃ cap c,v=.slice (if cap=k then some ⟨φ t,0,none⟩ else some ⟨φ t,k * S,none⟩) m (cap - k)∧w.heap[φ t]?=some (.cells c ty (0,0))∧c.size=cap * S∧n≤cap∧cap≤maxLen)
 | .yv b,v=>v=.func (.yield (φ b)) #[] #[]∧∃ k T nf,h b=some k∧k.ob=some (.lp T nf)
 | .mv b,v=>v=.map (some (φ b))∧∃ k,h b=some k∧k.ob=some .mp
 | .bsl b n,v=>v=.slice (some ⟨φ b,0,none⟩) n n∧∃ ty cs,h b=some (.box ty cs)
 | .sfp b,v=>(v=.pointer none∨v=.pointer (some ⟨φ b,0,none⟩))∧∃ ty cs,h b=some (.box ty cs)
 | .iv b,v=>v=.pointer (some ⟨φ b,0,none⟩)∧∃ k,h b=some k∧k.ob=some .mp
def RepAs (φ:Nat→Nat) (h:Heap) (w:World) (M:Mset):List AV→List Value→Prop
 | [],l=>l=[]
 | x :: xs,l=>∃ y ys,l=y :: ys∧RepA φ h w M x y∧RepAs φ h w M xs ys
end
def Mut (φ:Nat→Nat) (h:Heap):Mset:=fun r o=>∃ b k,h b=some k∧φ b=r∧(match k with | .arr _ S n=>n * S≤o | _=>True)
def MM (φ:Nat→Nat) (h:Heap) (M0:Mset):Mset:=fun r o=>Mut φ h r o∨M0 r o
def onF (es:List (Bool × List UInt8 × AV)):List (Bool × List UInt8 × AV):=es.filter (·.1)
def keyS (k:List UInt8):Value:=.string ⟨k.toArray⟩
def bornOk (en:Array MapEntry) (clock:Nat):Prop:=(en.toList.map (·.born)).Pairwise (· < ·)∧∀ e ∈ en.toList,e.born < clock
def RelB (φ:Nat→Nat) (h:Heap) (w:World) (M:Mset) (r:Nat):Blk→Prop
 | .box ty cs=>∃ c:Array Value,w.heap[r]?=some (.cells c ty (0,0))∧RepAs φ h w M cs c.toList
 | .arr ty S n=>(n=0∧w.heap[r]?=none)∨∃ (c:Array Value) (cap:Nat),w.heap[r]?=some (.cells c ty (0,0))∧c.size=cap * S∧n≤cap∧cap≤maxLen
 | .vec ty S es=>∃ (c:Array Value) (cap:Nat),w.heap[r]?=some (.cells c ty (0,0))∧c.size=cap * S∧es.length≤cap∧cap≤maxLen∧(∀ e ∈ es,e.length=S) ∧
   (∀ v ∈ c.toList,v.oneCell'=true)∧RepAs φ h w M (es.flatten.map .p) (c.toList.take (es.length * S))
 | .lp T nf st pd=>∃ (tmps:Array Value) (d:Nat),w.heap[r]?=some (.loop { state:=st,pending:=pd,fn:=nf.fn,tmps:=tmps,params:=nf.ps,assign:=nf.assign,body:=nf.body,defers:=d })∧tmps.size=nf.N ∧
   ∀ t x,look T t=some x→t < nf.N∧RepA φ h w M x (tmps.getD t undef)
 | .mp es=>∃ (en:Array MapEntry) (clock:Nat),w.heap[r]?=some (.map en clock)∧en.toList.map (·.key)=es.map (·.1)∧RepAs φ h w M (es.map fun p=>.p p.2) (en.toList.map (·.val))
 | .mf es=>∃ (en:Array MapEntry) (clock:Nat),w.heap[r]?=some (.map en clock)∧en.toList.map (·.key)=(onF es).map (fun e=>keyS e.2.1)∧RepAs φ h w M ((onF es).map (·.2.2)) (en.toList.map (·.val))∧bornOk en clock
 | .mg en clock es=>w.heap[r]?=some (.map en clock)∧en.toList.map (·.key)=(onF es).map (fun e=>keyS e.2.1)∧RepAs φ h w M ((onF es).map (·.2.2)) (en.toList.map (·.val))∧bornOk en clock
 | .mm S G=>∃ (en:Array MapEntry) (clock:Nat) (L:List (List (List PV) × PV)) (ks:List Value),w.heap[r]?=some (.map en clock)∧en.toList.map (·.key)=List.zipWith (fun k p=>.agg #[k, .int .i64 p.1.length]) ks L ∧
   RepAs φ h w M (L.map fun p=>.p (.ad S p.1)) ks∧RepAs φ h w M (L.map fun p=>.p p.2) (en.toList.map (·.val))∧∀ p ∈ L,G p.1 p.2
 | .it m clock seen=>w.heap[r]?=some (.mapIter (some (φ m)) clock seen clock)∧∃ k,h m=some k∧k.ob=some .mp
structure GM (φ:Nat→Nat) (h:Heap) (w:World) (M0:Mset):Prop where
 w:gmW w
 m:∀ g ∈ gfix,∀ o,¬ MM φ h M0 g o
structure RelH (φ:Nat→Nat) (h:Heap) (w:World) (M0:Mset):Prop where
 inj:∀ b c,h b ≠ none→h c ≠ none→φ b=φ c→b=c
 blk:∀ b k,h b=some k→RelB φ h w (MM φ h M0) (φ b) k
 fr:∀ b,h b ≠ none→∀ o,¬ M0 (φ b) o
 lt:∀ r o,M0 r o→r < w.heap.size
 gm:GM φ h w M0
def AKept (w w':World) (r r':Nat) (ty:TypeId):Prop :=
 (w.heap[r]?=none→w'.heap[r']?=none)∧(w.heap[r]?=none∨r'=r∧∀ c,w.heap[r]?=some (.cells c ty (0,0))→∃ c',w'.heap[r]?=some (.cells c' ty (0,0))∧c'.size=c.size)
theorem akept {w w':World} {r r':Nat} {ty:TypeId} (e:r'=r) (h:w'.heap[r]?=w.heap[r]?):AKept w w' r r' ty:=by
 subst e
 exact ⟨fun h1=>h.trans h1, .inr ⟨rfl,fun c hc=>⟨c,h.trans hc,rfl⟩⟩⟩
theorem akept_none {w w':World} {r r':Nat} {ty:TypeId} (h:w.heap[r]?=none) (h':w'.heap[r']?=none):AKept w w' r r' ty:=⟨fun _=>h', .inl h⟩
theorem le_of_none {α:Type} {l:Array α} {r:Nat} (h:l[r]?=none):l.size≤r:=Array.getElem?_eq_none_iff.1 h
theorem none_of_le {α:Type} {l:Array α} {r:Nat} (h:l.size≤r):l[r]?=none:=Array.getElem?_eq_none_iff.2 h
theorem AKept.trans {w w' w'':World} {r r' r'':Nat} {ty:TypeId} (hs:w.heap.size≤w'.heap.size) (a:AKept w w' r r' ty) (b:AKept w' w'' r' r'' ty):AKept w w'' r r'' ty:=by
 refine ⟨fun h=>b.1 (a.1 h),?_⟩
 rcases a.2 with h7 | ⟨h7,h8⟩
 ·exact .inl h7
 rcases b.2 with h9 | ⟨h9,h10⟩
 ·rw [h7] at h9
  exact .inl (none_of_le (Nat.le_trans hs (le_of_none h9)))
 refine .inr ⟨h9.trans h7,fun c hc=>?_⟩
 obtain ⟨c',hc',hs'⟩:=h8 c hc
 rw [h7] at h10
 obtain ⟨c'',hc'',hs''⟩:=h10 c' hc'
 exact ⟨c'',hc'',hs''.trans hs'⟩
structure Evol (φ:Nat→Nat) (h:Heap) (w:World) (φ':Nat→Nat) (h':Heap) (w':World):Prop where
 os:w'.os=w.os
 tape:w'.tape=w.tape
 output:w'.output=w.output
 size:w.heap.size≤w'.heap.size
 um:∀ r,r < w.heap.size→Unm w r→Unm w' r
 same:∀ r,r < w.heap.size→(∀ b,h b ≠ none→φ b ≠ r)→w'.heap[r]?=w.heap[r]?
 cell:∀ r o,r < w.heap.size→¬ Mut φ h r o→w'.cell? ⟨r,o,none⟩=w.cell? ⟨r,o,none⟩
 mu:∀ r o,r < w.heap.size→Mut φ' h' r o→Mut φ h r o
 kb:∀ b ty cs,1000≤b→h b=some (.box ty cs)→(∃ cs',h' b=some (.box ty cs'))∧φ' b=φ b
 kt:∀ t ty S n,1000≤t→h t=some (.arr ty S n)→∃ n',h' t=some (.arr ty S n')∧n≤n' ∧
  (n'=n→AKept w w' (φ t) (φ' t) ty)
 kv:∀ t ty S es,1000≤t→h t=some (.vec ty S es)→∃ es',h' t=some (.vec ty S es')∧es.length≤es'.length ∧
  (es'.length=es.length→φ' t=φ t∧∀ c,w.heap[φ t]?=some (.cells c ty (0,0))→∃ c',w'.heap[φ t]?=some (.cells c' ty (0,0))∧c'.size=c.size)
 ko:∀ b k x,1000≤b→h b=some k→k.ob=some x→(∃ k',h' b=some k'∧k'.ob=some x)∧φ' b=φ b
theorem Evol.refl (φ:Nat→Nat) (h:Heap) (w:World):Evol φ h w φ h w :=
 ⟨rfl,rfl,rfl,zNR _,fun _ _ h=>h,fun _ _ _=>rfl,fun _ _ _ _=>rfl,fun _ _ _ x=>x,fun _ _ _ _ x=>⟨⟨_,x⟩,rfl⟩,fun _ _ _ _ _ x=>⟨_,x,zNR _,fun _=>akept (rfl) rfl⟩,fun _ _ _ _ _ x=>⟨_,x,zNR _,fun _=>⟨rfl,fun c hc=>⟨c,hc,rfl⟩⟩⟩,fun _ _ _ _ h1 h2=>⟨⟨_,h1,h2⟩,rfl⟩⟩
theorem mut_big {φ:Nat→Nat} {h:Heap} {b:Nat} {k:Blk} (hb:h b=some k):∃ o,Mut φ h (φ b) o:=by
 cases k with
 | box ty cs=>exact ⟨0,b,_,hb,rfl,trivial⟩
 | arr ty S n=>exact ⟨n * S,b,_,hb,rfl,zNR _⟩
 | vec ty S es=>exact ⟨0,b,_,hb,rfl,trivial⟩
 | lp T nf st pd=>exact ⟨0,b,_,hb,rfl,trivial⟩
 | mp es=>exact ⟨0,b,_,hb,rfl,trivial⟩
 | mf es=>exact ⟨0,b,_,hb,rfl,trivial⟩
 | mg en cl es=>exact ⟨0,b,_,hb,rfl,trivial⟩
 | it m cl sn=>exact ⟨0,b,_,hb,rfl,trivial⟩
 | mm S G=>exact ⟨0,b,_,hb,rfl,trivial⟩
theorem GM.evol {φ φ':Nat→Nat} {h h':Heap} {w w':World} {M0:Mset} (G:GM φ h w M0) (E:Evol φ h w φ' h' w'):GM φ' h' w' M0:=by
 have hno:∀ g ∈ gfix,∀ b,h b ≠ none→φ b ≠ g:=fun g hg b hb e=>by
  obtain ⟨k,hk⟩:=zNE.1 hb
  obtain ⟨o,ho⟩:=mut_big (φ:=φ) hk
  rw [e] at ho
  exact G.m g hg o (.inl ho)
 refine ⟨gmW_keep (fun g hg=>E.same g (gmW_lt G.w g hg) (hno g hg)) G.w,fun g hg o hm=>?_⟩
 rcases hm with hm | hm
 ·exact G.m g hg o (.inl (E.mu g o (gmW_lt G.w g hg) hm))
 ·exact G.m g hg o (.inr hm)
theorem GM.sub {φ φ':Nat→Nat} {h h':Heap} {w:World} {M0 M1:Mset} (G:GM φ h w M0) (hs:∀ r o,MM φ' h' M1 r o→MM φ h M0 r o):GM φ' h' w M1 :=
 ⟨G.w,fun g hg o hm=>G.m g hg o (hs g o hm)⟩
theorem Evol.trans {φ φ' φ'':Nat→Nat} {h h' h'':Heap} {w w' w'':World} (a:Evol φ h w φ' h' w') (b:Evol φ' h' w' φ'' h'' w''):Evol φ h w φ'' h'' w'':=by
 have hsz:∀ r,r < w.heap.size→r < w'.heap.size:=fun r hr=>Nat.lt_of_lt_of_le hr a.size
 refine ⟨b.os.trans a.os,b.tape.trans a.tape,b.output.trans a.output,Nat.le_trans a.size b.size,fun r hr hu=>b.um r (hsz r hr) (a.um r hr hu),?_,?_,?_,?_,?_,?_,?_⟩
 ·intro r hr hno
  have h1:=a.same r hr hno
  refine (b.same r (hsz r hr) ?_).trans h1
  intro c hc heq
  cases hk:h' c with
  | none=>exact hc hk
  | some k =>
   obtain ⟨o,ho⟩:=mut_big (φ:=φ') hk
   rw [heq] at ho
   obtain ⟨b0,k0,hb0,hφ,_⟩:=a.mu r o hr ho
   exact hno b0 (by rw [hb0]; simp) hφ
 ·intro r o hr hm
  exact (b.cell r o (hsz r hr) (fun h2=>hm (a.mu r o hr h2))).trans (a.cell r o hr hm)
 ·intro r o hr hm
  exact a.mu r o hr (b.mu r o (hsz r hr) hm)
 ·intro c ty cs hc hb
  obtain ⟨⟨cs',h1⟩,h2⟩:=a.kb c ty cs hc hb
  obtain ⟨h3,h4⟩:=b.kb c ty cs' hc h1
  exact ⟨h3,h4.trans h2⟩
 ·intro t ty S n ht hb
  obtain ⟨n',h1,h2,h3⟩:=a.kt t ty S n ht hb
  obtain ⟨n'',h4,h5,h6⟩:=b.kt t ty S n' ht h1
  exact ⟨n'',h4,Nat.le_trans h2 h5,fun e=>(h3 zo).trans a.size (h6 zo)⟩
 ·intro t ty S n ht hb
  obtain ⟨n',h1,h2,h3⟩:=a.kv t ty S n ht hb
  obtain ⟨n'',h4,h5,h6⟩:=b.kv t ty S n' ht h1
  refine ⟨n'',h4,Nat.le_trans h2 h5,fun e=>?_⟩
  obtain ⟨h7,h8⟩:=h3 zo
  obtain ⟨h9,h10⟩:=h6 zo
  refine ⟨h9.trans h7,fun c hc=>?_⟩
  obtain ⟨c',hc',hs'⟩:=h8 c hc
  rw [h7] at h10
  obtain ⟨c'',hc'',hs''⟩:=h10 c' hc'
  exact ⟨c'',hc'',hs''.trans hs'⟩
 ·intro c k x hc hb ho
  obtain ⟨⟨k',h1,h2⟩,h3⟩:=a.ko c k x hc hb ho
  obtain ⟨h4,h5⟩:=b.ko c k' x hc h1 h2
  exact ⟨h4,h5.trans h3⟩
theorem cell_lt {w:World} {r o:Nat} {v:Value} (h:w.cell? ⟨r,o,none⟩=some v):r < w.heap.size:=by
 unfold World.cell? at h
 dsimp only at h
 split at h
 ·rename_i hc
  exact (zGS.1 hc).1
 ·cases h
theorem repP_keep {w w':World} {M M':Mset} (hk:∀ r o v,w.cell? ⟨r,o,none⟩=some v→¬ M r o→w'.cell? ⟨r,o,none⟩=some v∧¬ M' r o∧(Unm w r→Unm w' r)) :
  (∀ (x:PV) (v:Value),RepP w M x v→RepP w' M' x v)∧(∀ (es:List (List PV)) (S r o:Nat),RepEs w M S r o es→RepEs w' M' S r o es)∧(∀ (cs:List PV) (r o:Nat),RepCs w M r o cs→RepCs w' M' r o cs):=by
 have key:∀ n:Nat,(∀ (x:PV),SizeOf.sizeOf x≤n→∀ v,RepP w M x v→RepP w' M' x v)∧(∀ (es:List (List PV)),SizeOf.sizeOf es≤n→∀ S r o,RepEs w M S r o es→RepEs w' M' S r o es)∧(∀ (cs:List PV),SizeOf.sizeOf cs≤n→∀ r o,RepCs w M r o cs→RepCs w' M' r o cs):=by
  have hun:∀ S r o e es,RepEs w M S r o (e :: es)→clS S=true→Unm w r→Unm w' r:=fun S r o e es h3 hS hu=>by
   simp only [RepEs] at h3
   cases e with
   | nil=>exact absurd h3.1.1 (Nat.ne_of_lt (clS_pos hS))
   | cons c cs =>
    have h4:=h3.1.2
    simp only [RepCs] at h4
    obtain ⟨⟨v,h5,h6,_⟩,_⟩:=h4
    exact (hk r o v h5 h6).2.2 hu
  intro n
  induction n with
  | zero =>
   refine ⟨fun x hx=>?_,fun es hx=>?_,fun cs hx=>?_⟩
   ·cases x <;> simp at hx
   ·cases es <;> simp at hx
   ·cases cs <;> simp at hx
  | succ n ih =>
   obtain ⟨i1,i2,i3⟩:=ih
   refine ⟨fun x hx=>?_,fun es hx=>?_,fun cs hx=>?_⟩
   ·intro v hv
    cases x with
    | val x=>simpa [RepP] using hv
    | sl S es =>
     simp only [RepP] at hv ⊢
     rcases hv with ⟨r,o,cap,h1,h2⟩ | h2
     ·cases es with
      | nil=>exact .inr ⟨rfl,_,cap,h1⟩
      | cons e es=>exact .inl ⟨r,o,cap,h1,h2.1,i2 _ (by simp at hx ⊢; omega) S r o h2.2.1,fun hS=>hun S r o e es h2.2.1 hS (h2.2.2 hS)⟩
     ·exact .inr h2
    | ad S es =>
     simp only [RepP] at hv ⊢
     obtain ⟨hne,r,o,h1,h2,h3,h4⟩:=hv
     cases es with
     | nil=>exact absurd rfl hne
     | cons e es=>exact ⟨hne,r,o,h1,i2 _ (by simp at hx ⊢; omega) S r o h2,h3,hun S r o e es h2 h3 h4⟩
    | slu S es =>
     simp only [RepP] at hv ⊢
     rcases hv with ⟨r,o,cap,h1,h2⟩ | h2
     ·exact .inl ⟨r,o,cap,h1,h2.1,(repW_keep (fun r o v a b=>⟨(hk r o v a b).1,(hk r o v a b).2.1⟩)).2.1 _ S r o h2.2⟩
     ·exact .inr h2
   ·intro S r o hv
    cases es with
    | nil=>simp [RepEs]
    | cons e es =>
     simp only [RepEs] at hv ⊢
     simp at hx
     exact ⟨⟨hv.1.1,i3 e zo r o hv.1.2⟩,i2 es zo S r _ hv.2⟩
   ·intro r o hv
    cases cs with
    | nil=>simp [RepCs]
    | cons c cs =>
     simp only [RepCs] at hv ⊢
     simp at hx
     obtain ⟨⟨v,h1,h2,h7,h3⟩,h4⟩:=hv
     obtain ⟨h5,h6,_⟩:=hk r o v h1 h2
     exact ⟨⟨v,h5,h6,h7,i1 c zo v h3⟩,i3 cs zo r _ h4⟩
 exact ⟨fun x v=>(key (SizeOf.sizeOf x)).1 x (zNR _) v,fun es=>(key (SizeOf.sizeOf es)).2.1 es (zNR _),fun cs=>(key (SizeOf.sizeOf cs)).2.2 cs (zNR _)⟩
theorem Evol.keeps {φ φ':Nat→Nat} {h h':Heap} {w w':World} (E:Evol φ h w φ' h' w') (M0:Mset) (r o:Nat) (v:Value) (hc:w.cell? ⟨r,o,none⟩=some v) (hm:¬ MM φ h M0 r o) :
  w'.cell? ⟨r,o,none⟩=some v∧¬ MM φ' h' M0 r o∧(Unm w r→Unm w' r):=by
 have hr:=cell_lt hc
 have h1:¬ Mut φ h r o:=fun x=>hm (.inl x)
 refine ⟨(E.cell r o hr h1).trans hc,fun x=>?_,E.um r hr⟩
 rcases x with x | x
 ·exact h1 (E.mu r o hr x)
 ·exact hm (.inr x)
structure HExt (φ:Nat→Nat) (h:Heap) (w:World) (φ':Nat→Nat) (h':Heap) (w':World):Prop where
 b:∀ b ty cs,h b=some (.box ty cs)→(∃ ty' cs',h' b=some (.box ty' cs'))∧φ' b=φ b
 t:∀ t ty S n,h t=some (.arr ty S n)→∃ n',h' t=some (.arr ty S n')∧n≤n' ∧
  (n'=n→AKept w w' (φ t) (φ' t) ty)
 v:∀ t ty S es,h t=some (.vec ty S es)→∃ es',h' t=some (.vec ty S es')∧es.length≤es'.length ∧
  (es'.length=es.length→φ' t=φ t∧∀ c,w.heap[φ t]?=some (.cells c ty (0,0))→∃ c',w'.heap[φ t]?=some (.cells c' ty (0,0))∧c'.size=c.size)
 o:∀ b k x,h b=some k→k.ob=some x→(∃ k',h' b=some k'∧k'.ob=some x)∧φ' b=φ b
theorem repA_keep {φ φ':Nat→Nat} {h h':Heap} {w w':World} {M M':Mset}
  (hk:∀ r o v,w.cell? ⟨r,o,none⟩=some v→¬ M r o→w'.cell? ⟨r,o,none⟩=some v∧¬ M' r o∧(Unm w r→Unm w' r)) (X:HExt φ h w φ' h' w') :
  (∀ (x:AV) (v:Value),RepA φ h w M x v→RepA φ' h' w' M' x v)∧(∀ (xs:List AV) (l:List Value),RepAs φ h w M xs l→RepAs φ' h' w' M' xs l):=by
 obtain ⟨kp,ke,kc⟩:=repP_keep hk
 have key:∀ n:Nat,(∀ (x:AV),SizeOf.sizeOf x≤n→∀ v,RepA φ h w M x v→RepA φ' h' w' M' x v)∧(∀ (xs:List AV),SizeOf.sizeOf xs≤n→∀ l,RepAs φ h w M xs l→RepAs φ' h' w' M' xs l):=by
  intro n
  induction n with
  | zero =>
   refine ⟨fun x hx=>?_,fun es hx=>?_⟩
   ·cases x <;> simp at hx
   ·cases es <;> simp at hx
  | succ n ih =>
   obtain ⟨i1,i2⟩:=ih
   refine ⟨fun x hx v hv=>?_,fun xs hx l hv=>?_⟩
   ·cases x with
    | p x=>simp only [RepA] at hv ⊢; exact kp x v hv
    | tsl S es t =>
     simp only [RepA] at hv ⊢
     obtain ⟨h1,ty,n,h2,h3,h5⟩:=hv
     obtain ⟨n',e1,e2,e3⟩:=X.t t ty S n h2
     refine ⟨kp _ _ h1,ty,n',e1,by omega,fun he=>?_⟩
     have:n'=n:=by omega
     rcases h5 zo with ⟨g0,g1,g2⟩ | ⟨cap,c,g1,g2,g3,g6,g7⟩
     ·exact .inl ⟨by omega,g1,(e3 this).1 g2⟩
     rcases (e3 this).2 with e4 | ⟨e4,e5⟩
     ·rw [e4] at g2; cases g2
     obtain ⟨c',g4,g5⟩:=e5 c g2
     exact .inr ⟨cap,c',by rw [e4,this]; exact g1,by rw [e4]; exact g4,by rw [g5,g3],by omega,g7⟩
    | ptr b off =>
     simp only [RepA] at hv ⊢
     obtain ⟨h1,ty,cs,h2⟩:=hv
     obtain ⟨e1,e2⟩:=X.b b ty cs h2
     exact ⟨by rw [e2]; exact h1,e1⟩
    | bsl b n =>
     simp only [RepA] at hv ⊢
     obtain ⟨h1,ty,cs,h2⟩:=hv
     obtain ⟨e1,e2⟩:=X.b b ty cs h2
     exact ⟨by rw [e2]; exact h1,e1⟩
    | sfp b =>
     simp only [RepA] at hv ⊢
     obtain ⟨h1,ty,cs,h2⟩:=hv
     obtain ⟨e1,e2⟩:=X.b b ty cs h2
     exact ⟨by rw [e2]; exact h1,e1⟩
    | eptr cs =>
     simp only [RepA] at hv ⊢
     obtain ⟨r,o,h1,h2⟩:=hv
     exact ⟨r,o,h1,kc cs r o h2⟩
    | agg cs =>
     simp only [RepA] at hv ⊢
     obtain ⟨l,h1,h2⟩:=hv
     exact ⟨l,h1,i2 cs (by simp at hx; omega) l h2⟩
    | tup cs =>
     simp only [RepA] at hv ⊢
     obtain ⟨l,h1,h2⟩:=hv
     exact ⟨l,h1,i2 cs (by simp at hx; omega) l h2⟩
    | fn f a b =>
     simp only [RepA] at hv ⊢
     obtain ⟨l,m,h1,h2,h3⟩:=hv
     simp at hx
     exact ⟨l,m,h1,i2 a zo l h2,i2 b zo m h3⟩
    | ifc t x =>
     simp only [RepA] at hv ⊢
     obtain ⟨y,h1,h2⟩:=hv
     exact ⟨y,h1,i1 x (by simp at hx; omega) y h2⟩
    | vnil=>simp only [RepA] at hv ⊢; exact hv
    | vsl S t n =>
     simp only [RepA] at hv ⊢
     obtain ⟨h1,ty,es,h2,h3,h5⟩:=hv
     obtain ⟨es',e1,e2,e3⟩:=X.v t ty S es h2
     refine ⟨h1,ty,es',e1,by omega,fun he=>?_⟩
     have:es'.length=es.length:=by omega
     obtain ⟨e4,e5⟩:=e3 this
     obtain ⟨cap,c,g1,g2,g3,g6,g7⟩:=h5 zo
     obtain ⟨c',g4,g5⟩:=e5 c g2
     exact ⟨cap,c',by rw [e4]; exact g1,by rw [e4]; exact g4,by rw [g5,g3],g6,g7⟩
    | vtl S t n k m =>
     simp only [RepA] at hv ⊢
     obtain ⟨h1,ty,es,h2,h3,h5⟩:=hv
     obtain ⟨es',e1,e2,e3⟩:=X.v t ty S es h2
     refine ⟨h1,ty,es',e1,by omega,fun he=>?_⟩
     have:es'.length=es.length:=by omega
     obtain ⟨e4,e5⟩:=e3 this
     obtain ⟨hkm,cap,c,g1,g2,g3,g6,g7⟩:=h5 zo
     obtain ⟨c',g4,g5⟩:=e5 c g2
     exact ⟨hkm,cap,c',by rw [e4]; exact g1,by rw [e4]; exact g4,by rw [g5,g3],g6,g7⟩
    | vptr t n k f =>
     simp only [RepA] at hv ⊢
     obtain ⟨h1,ty,S,es,h2,h3,h5⟩:=hv
     obtain ⟨es',e1,e2,e3⟩:=X.v t ty S es h2
     refine ⟨h1,ty,S,es',e1,by omega,fun he=>?_⟩
     obtain ⟨e4,e5⟩:=e3 zo
     rw [e4]; exact h5 zo
    | yv b =>
     simp only [RepA] at hv ⊢
     obtain ⟨h1,k,T,nf,h2,h3⟩:=hv
     obtain ⟨⟨k',e1,e2⟩,e3⟩:=X.o b k _ h2 h3
     exact ⟨by rw [e3]; exact h1,k',T,nf,e1,e2⟩
    | mv b =>
     simp only [RepA] at hv ⊢
     obtain ⟨h1,k,h2,h3⟩:=hv
     obtain ⟨⟨k',e1,e2⟩,e3⟩:=X.o b k _ h2 h3
     exact ⟨by rw [e3]; exact h1,k',e1,e2⟩
    | iv b =>
     simp only [RepA] at hv ⊢
     obtain ⟨h1,k,h2,h3⟩:=hv
     obtain ⟨⟨k',e1,e2⟩,e3⟩:=X.o b k _ h2 h3
     exact ⟨by rw [e3]; exact h1,k',e1,e2⟩
   ·cases xs with
    | nil=>simpa [RepAs] using hv
    | cons x xs =>
     simp only [RepAs] at hv ⊢
     simp at hx
     obtain ⟨y,ys,h1,h2,h3⟩:=hv
     exact ⟨y,ys,h1,i1 x zo y h2,i2 xs zo ys h3⟩
 exact ⟨fun x v=>(key (SizeOf.sizeOf x)).1 x (zNR _) v,fun xs l=>(key (SizeOf.sizeOf xs)).2 xs (zNR _) l⟩
def upd (h:Heap) (b:Nat) (k:Blk):Heap:=fun x=>if b=x then some k else h x
structure St where
 T:List (Nat × AV)
 H:List (Nat × Blk)
def St.put (s:St) (d:Option Tmp) (x:AV):St:=match d with | some d=>⟨(d,x) :: s.T,s.H⟩ | none=>s
structure DB where
 l:List Deferred
 base:Nat
def Marks (φ:Nat→Nat) (D:DB) (h:Heap) (a:Act) (w:World):Prop :=
 D.base≤w.heap.size∧∃ ms:List Nat,a.defers=(ms.map fun r=>({ target:=.collected r,args:=#[] }:Deferred))++D.l∧ms.Nodup∧∀ r ∈ ms,D.base≤r∧w.heap[r]?=some (.deferred (some []))∧∀ b,h b ≠ none→φ b ≠ r
structure Rel (φ:Nat→Nat) (M0:Mset) (N:Nat) (D:DB) (T:Nat→Option AV) (h:Heap) (a:Act) (w:World):Prop where
 dfs:Marks φ D h a w
 siz:a.tmps.size=N
 hp:RelH φ h w M0
 tm:∀ t x,T t=some x→t < N∧RepA φ h w (MM φ h M0) x (a.tmps.getD t undef)
inductive AX where
 | normal
 | exit (id:Nat)
 | ret
 | panic (x:AV)
def RepX (φ:Nat→Nat) (h:Heap) (w:World) (M:Mset):AX→Exit→Prop
 | .normal,e=>e=.normal
 | .exit i,e=>e=.exit i
 | .ret,e=>e=.ret
 | .panic x,e=>∃ v,e=.panic [{ v:=v,recovered:=false }]∧RepA φ h w M x v
def Post (N:Nat) (D:DB) (Q:AX→St→Prop) (φ:Nat→Nat) (M0:Mset) (h:Heap) (w:World):Exit→Act→World→Prop:=fun e a' w' =>
 ∃ φ' x s',Q x s'∧Rel φ' M0 N D (look s'.T) (look s'.H) a' w'∧Evol φ h w φ' (look s'.H) w'∧RepX φ' (look s'.H) w' (MM φ' (look s'.H) M0) x e
abbrev wd (ro:Option Nat):Fence:={ Fence.wide with round:=ro }
def Ex (P:Program) (N:Nat) (ro:Option Nat) (c:Code) (s:St) (Q:AX→St→Prop):Prop :=
 ∀ φ M0 D a w,Rel φ M0 N D (look s.T) (look s.H) a w→c.wpIn (wd ro) 0 P (Post N D Q φ M0 (look s.H) w) a w
theorem Post.trans {N:Nat} {D:DB} {Q:AX→St→Prop} {φ φ':Nat→Nat} {M0:Mset} {h h':Heap} {w w':World} {e:Exit} {a:Act} {w'':World}
  (E:Evol φ h w φ' h' w') (p:Post N D Q φ' M0 h' w' e a w''):Post N D Q φ M0 h w e a w'':=by
 obtain ⟨φ'',x,s',h1,h2,h3,h4⟩:=p
 exact ⟨φ'',x,s',h1,h2,E.trans h3,h4⟩
theorem ex_mono {P:Program} {N:Nat} {ro:Option Nat} {c:Code} {s:St} {Q Q':AX→St→Prop} (h:Ex P N ro c s Q) (hq:∀ x s',Q x s'→Q' x s'):Ex P N ro c s Q' :=
 fun φ M0 D a w r=>wpIn_mono (h φ M0 D a w r) fun _ _ _ ⟨φ',x,s',h1,h2,h3,h4⟩=>⟨φ',x,s',hq _ _ h1,h2,h3,h4⟩
def andThen (K:St→Prop) (Q:AX→St→Prop):AX→St→Prop
 | .normal,s=>K s
 | x,s=>Q x s
theorem ex_seq {P:Program} {N:Nat} {ro:Option Nat} {x y:Code} {s:St} {Q:AX→St→Prop} (h:Ex P N ro x s (andThen (fun s'=>Ex P N ro y s' Q) Q)):Ex P N ro (.seq x y) s Q:=by
 intro φ M0 D a w r
 refine wpIn_seq (wpIn_mono (h φ M0 D a w r) ?_)
 rintro e a' w' ⟨φ',k,s',h1,h2,h3,h4⟩
 cases k with
 | normal =>
  simp only [RepX] at h4
  subst h4
  exact wpIn_mono (h1 φ' M0 D a' w' h2) fun _ _ _ p=>p.trans h3
 | exit i=>simp only [RepX] at h4; subst h4; exact ⟨φ', .exit i,s',h1,h2,h3,rfl⟩
 | ret=>simp only [RepX] at h4; subst h4; exact ⟨φ', .ret,s',h1,h2,h3,rfl⟩
 | panic v=>obtain ⟨u,h5,h6⟩:=h4; subst h5; exact ⟨φ', .panic v,s',h1,h2,h3,u,rfl,h6⟩
theorem ex_skip {P:Program} {N:Nat} {ro:Option Nat} {s:St} {Q:AX→St→Prop} (h:Q .normal s):Ex P N ro .skip s Q :=
 fun φ _ _ _ w r=>wpIn_skip ⟨φ, .normal,s,h,r,Evol.refl _ _ _,rfl⟩
theorem ex_ret {P:Program} {N:Nat} {ro:Option Nat} {s:St} {Q:AX→St→Prop} (h:Q .ret s):Ex P N ro .ret s Q :=
 fun φ _ _ _ w r=>wpIn_ret ⟨φ, .ret,s,h,r,Evol.refl _ _ _,rfl⟩
theorem ex_exit {P:Program} {N:Nat} {ro:Option Nat} {s:St} {Q:AX→St→Prop} {id:Nat} (h:Q (.exit id) s):Ex P N ro (.exit id) s Q :=
 fun φ _ _ _ w r=>wpIn_exit ⟨φ, .exit id,s,h,r,Evol.refl _ _ _,rfl⟩
theorem ex_label {P:Program} {N:Nat} {ro:Option Nat} {s:St} {Q:AX→St→Prop} {l:Nat} (h:Q .normal s):Ex P N ro (.label l) s Q :=
 fun φ _ _ _ w r=>wpIn_label ⟨φ, .normal,s,h,r,Evol.refl _ _ _,rfl⟩
def inBlock (id:Nat) (Q:AX→St→Prop):AX→St→Prop
 | .exit i,s=>if i=id then Q .normal s else Q (.exit i) s
 | x,s=>Q x s
theorem ex_block {P:Program} {N:Nat} {ro:Option Nat} {c:Code} {s:St} {Q:AX→St→Prop} {id:Nat} (h:Ex P N ro c s (inBlock id Q)):Ex P N ro (.block id c) s Q:=by
 intro φ M0 D a w r
 refine wpIn_block (wpIn_mono (h φ M0 D a w r) ?_)
 rintro e a' w' ⟨φ',k,s',h1,h2,h3,h4⟩
 cases k with
 | normal=>simp only [RepX] at h4; subst h4; exact ⟨φ', .normal,s',h1,h2,h3,rfl⟩
 | exit i =>
  simp only [RepX] at h4
  subst h4
  simp only [inBlock] at h1
  by_cases hi:i=id
  ·simp only [hi,if_true] at h1
   show Exit.inBlock id _ _ _ _
   simp only [Exit.inBlock,hi,if_true]
   exact ⟨φ', .normal,s',h1,h2,h3,rfl⟩
  ·simp only [hi,if_false] at h1
   show Exit.inBlock id _ _ _ _
   simp only [Exit.inBlock,hi,if_false]
   exact ⟨φ', .exit i,s',h1,h2,h3,rfl⟩
 | ret=>simp only [RepX] at h4; subst h4; exact ⟨φ', .ret,s',h1,h2,h3,rfl⟩
 | panic v=>obtain ⟨u,h5,h6⟩:=h4; subst h5; exact ⟨φ', .panic v,s',h1,h2,h3,u,rfl,h6⟩
theorem stepR_scope {P:Program} {b:Frame} {a:Act} {k:List Item} {cs:List Frame} {w:World} {c:Code}:step P (lone (b.atR a (.code (.scope c) :: k)) cs w)=.next (lone (b.atR a (.code c :: .inScope c :: k)) cs w) :=
 step_lone_go (by simp [stepG,stepG.exec,Frame.atR])
theorem stepR_inScope {P:Program} {b:Frame} {a:Act} {k:List Item} {cs:List Frame} {w:World} {c:Code}:step P (lone (b.atR a (.inScope c :: k)) cs w)=.next (lone (b.atR a k) cs w) :=
 step_lone_go (by simp [stepG,stepG.exec,Frame.atR])
theorem wpIn_scope {F:Fence} {n:Nat} {P:Program} {Q:Exit→Act→World→Prop} {a:Act} {w:World} {c:Code} (h:c.wpIn F n P (Exit.noGoto Q) a w):(Code.scope c).wpIn F n P Q a w:=by
 intro b k cs hro hb hr
 have h0:(lone (b.atR a (.code (.scope c) :: k)) cs w).fenced P F:=fenced_calm hb hr rfl
 obtain ⟨e,a₁,w₁,hq,harr⟩:=h b (.inScope c :: k) cs hro hb hr
 cases e with
 | normal=>exact ⟨.normal,a₁,w₁,hq, .head h0 stepR_scope (StepsIn.trans harr (.one (fenced_calm hb hr rfl) stepR_inScope))⟩
 | exit id =>
  refine ⟨.exit id,a₁,w₁,hq,fun k' hk=>.head h0 stepR_scope (harr.1 k' (by simp [exitTo,hk])),fun h1 h2=>?_⟩
  obtain ⟨k₁,g1,g2⟩:=harr.2 h1 (by simp [exitTo,h2])
  exact ⟨k₁,g1, .head h0 stepR_scope g2⟩
 | goto l=>exact hq.elim
 | ret=>exact ⟨_,a₁,w₁,hq, .of_steps (.one h0 stepR_scope) harr⟩
 | panic ch=>exact ⟨_,a₁,w₁,hq, .of_steps (.one h0 stepR_scope) harr⟩
 | outgrown=>exact ⟨_,a₁,w₁,hq, .of_steps (.one h0 stepR_scope) harr⟩
theorem ex_scope {P:Program} {N:Nat} {ro:Option Nat} {c:Code} {s:St} {Q:AX→St→Prop} (h:Ex P N ro c s Q):Ex P N ro (.scope c) s Q:=by
 intro φ M0 D a w r
 refine wpIn_scope (wpIn_mono (h φ M0 D a w r) ?_)
 rintro e a' w' ⟨φ',k,s',h1,h2,h3,h4⟩
 cases k with
 | normal=>simp only [RepX] at h4; subst h4; exact ⟨φ', .normal,s',h1,h2,h3,rfl⟩
 | exit i=>simp only [RepX] at h4; subst h4; exact ⟨φ', .exit i,s',h1,h2,h3,rfl⟩
 | ret=>simp only [RepX] at h4; subst h4; exact ⟨φ', .ret,s',h1,h2,h3,rfl⟩
 | panic v=>obtain ⟨u,h5,h6⟩:=h4; subst h5; exact ⟨φ', .panic v,s',h1,h2,h3,u,rfl,h6⟩
def ofV:Value→AV
 | .agg cs=>.agg (cs.toList.map fun c=>.p (.val c))
 | v=>.p (.val v)
def evO (T:Nat→Option AV):Operand→Option AV
 | .tmp t=>T t
 | .const v=>some (ofV v)
 | .func f=>some (.p (.val (.func (.func f) #[] #[])))
 | .global _=>none
theorem repAs_vals {φ:Nat→Nat} {h:Heap} {w:World} {M:Mset}:∀ l:List Value,RepAs φ h w M (l.map fun c=>.p (.val c)) l
 | []=>by simp [RepAs]
 | x :: l=>by simp only [zMC,RepAs]; exact ⟨x,l,rfl,by simp [RepA,RepP],repAs_vals l⟩
theorem rep_ofV {φ:Nat→Nat} {h:Heap} {w:World} {M:Mset} (v:Value):RepA φ h w M (ofV v) v:=by
 cases v with
 | agg cs=>simp only [ofV,RepA]; exact ⟨cs.toList,by simp,repAs_vals _⟩
 | _=>simp [ofV,RepA,RepP]
theorem Rel.ev {φ:Nat→Nat} {M0:Mset} {N:Nat} {D:DB} {T:Nat→Option AV} {h:Heap} {a:Act} {w:World} (r:Rel φ M0 N D T h a w) {x:Operand} {v:AV} (he:evO T x=some v) :
  RepA φ h w (MM φ h M0) v (a.eval x):=by
 cases x with
 | tmp t=>exact (r.tm t v he).2
 | const c=>simp only [evO,sie] at he; subst he; exact rep_ofV _
 | func f=>simp only [evO,sie] at he; subst he; simp [RepA,RepP,Act.eval]
 | global g=>cases he
theorem ex_cond {P:Program} {N:Nat} {ro:Option Nat} {c:Operand} {x y:Code} {s:St} {Q:AX→St→Prop} (b:Bool) (hc:evO (look s.T) c=some (.p (.val (.bool b))))
  (ht:b=true→Ex P N ro x s Q) (hf:b=false→Ex P N ro y s Q):Ex P N ro (.cond c x y) s Q:=by
 intro φ M0 D a w r
 have h1:=r.ev hc
 simp only [RepA,RepP] at h1
 cases b
 ·exact wpIn_cond_false h1 (hf rfl φ M0 D a w r)
 ·exact wpIn_cond_true h1 (ht rfl φ M0 D a w r)
def Weak (N:Nat) (s s':St):Prop:=∀ φ M0 D a w,Rel φ M0 N D (look s.T) (look s.H) a w→∃ φ',Rel φ' M0 N D (look s'.T) (look s'.H) a w∧Evol φ (look s.H) w φ' (look s'.H) w
theorem Weak.refl (N:Nat) (s:St):Weak N s s:=fun φ _ _ _ _ r=>⟨φ,r,Evol.refl _ _ _⟩
theorem Weak.trans {N:Nat} {s s' s'':St} (a:Weak N s s') (b:Weak N s' s''):Weak N s s'':=fun φ M0 D ac w r =>
 let ⟨φ1,r1,e1⟩:=a φ M0 D ac w r; let ⟨φ2,r2,e2⟩:=b φ1 M0 D ac w r1; ⟨φ2,r2,e1.trans e2⟩
theorem ex_weak {P:Program} {N:Nat} {ro:Option Nat} {c:Code} {s s':St} {Q:AX→St→Prop} (hw:Weak N s s') (h:Ex P N ro c s' Q):Ex P N ro c s Q:=by
 intro φ M0 D a w r
 obtain ⟨φ1,r1,e1⟩:=hw φ M0 D a w r
 exact wpIn_mono (h φ1 M0 D a w r1) fun _ _ _ p=>p.trans e1
theorem ex_loop {P:Program} {N:Nat} {ro:Option Nat} {c:Code} {Q:AX→St→Prop} {ι:Type} (S:ι→St) (μ:ι→Nat) (i0:ι)
  (round:∀ i,Ex P N ro c (S i) (andThen (fun s'=>∃ j,μ j < μ i∧Weak N s' (S j)) Q)):Ex P N ro (.loop c) (S i0) Q:=by
 intro φ M0 D a w r
 refine wpIn_loop_ghost (fun n a' w'=>∃ i φ',μ i=n∧Rel φ' M0 N D (look (S i).T) (look (S i).H) a' w'∧Evol φ (look (S i0).H) w φ' (look (S i).H) w') (μ i0) ⟨i0,φ,rfl,r,Evol.refl _ _ _⟩ ?_
 rintro n a' w' ⟨i,φ',rfl,r',E⟩
 refine wpIn_mono (round i φ' M0 D a' w' r') ?_
 rintro e a'' w'' ⟨φ'',k,s',h1,h2,h3,h4⟩
 cases k with
 | normal =>
  simp only [RepX] at h4
  subst h4
  obtain ⟨j,hj,hwk⟩:=h1
  obtain ⟨φ3,r2,e2⟩:=hwk φ'' M0 D a'' w'' h2
  exact ⟨μ j,hj,j,φ3,rfl,r2,(E.trans h3).trans e2⟩
 | exit i=>simp only [RepX] at h4; subst h4; exact ⟨φ'', .exit i,s',h1,h2,E.trans h3,rfl⟩
 | ret=>simp only [RepX] at h4; subst h4; exact ⟨φ'', .ret,s',h1,h2,E.trans h3,rfl⟩
 | panic v=>obtain ⟨u,h5,h6⟩:=h4; subst h5; exact ⟨φ'', .panic v,s',h1,h2,E.trans h3,u,rfl,h6⟩
theorem Marks.keep {φ φ':Nat→Nat} {D:DB} {h h':Heap} {a:Act} {w w':World} (m:Marks φ D h a w) (E:Evol φ h w φ' h' w'):Marks φ' D h' a w':=by
 obtain ⟨h0,ms,h1,h2,h3⟩:=m
 refine ⟨Nat.le_trans h0 E.size,ms,h1,h2,fun r hr=>?_⟩
 obtain ⟨g0,g1,g2⟩:=h3 r hr
 have hlt:r < w.heap.size:=(zGS.1 g1).1
 refine ⟨g0,(E.same r hlt g2).trans g1,fun b hb e=>?_⟩
 cases hk:h' b with
 | none=>exact hb hk
 | some k =>
  obtain ⟨o,ho⟩:=mut_big (φ:=φ') hk
  rw [e] at ho
  obtain ⟨b0,k0,hb0,hφ,_⟩:=E.mu r o hlt ho
  exact g2 b0 (by rw [hb0]; simp) hφ
theorem Rel.keep {φ φ':Nat→Nat} {M0:Mset} {N:Nat} {D:DB} {T:Nat→Option AV} {h h':Heap} {a:Act} {w w':World} (r:Rel φ M0 N D T h a w)
  (E:Evol φ h w φ' h' w') (X:HExt φ h w φ' h' w') (hp:RelH φ' h' w' M0):Rel φ' M0 N D T h' a w' :=
 ⟨r.dfs.keep E,r.siz,hp,fun t x ht=>⟨(r.tm t x ht).1,(repA_keep (E.keeps M0) X).1 _ _ (r.tm t x ht).2⟩⟩
theorem HExt.trans {φ φ' φ'':Nat→Nat} {h h' h'':Heap} {w w' w'':World} (hs:w.heap.size≤w'.heap.size) (a:HExt φ h w φ' h' w') (b:HExt φ' h' w' φ'' h'' w''):HExt φ h w φ'' h'' w'':=by
 refine ⟨?_,?_,?_,?_⟩
 ·intro c ty cs hc
  obtain ⟨⟨ty',cs',h1⟩,h2⟩:=a.b c ty cs hc
  obtain ⟨h3,h4⟩:=b.b c ty' cs' h1
  exact ⟨h3,h4.trans h2⟩
 ·intro t ty S n ht
  obtain ⟨n',h1,h2,h3⟩:=a.t t ty S n ht
  obtain ⟨n'',h4,h5,h6⟩:=b.t t ty S n' h1
  exact ⟨n'',h4,Nat.le_trans h2 h5,fun e=>(h3 zo).trans hs (h6 zo)⟩
 ·intro t ty S n ht
  obtain ⟨n',h1,h2,h3⟩:=a.v t ty S n ht
  obtain ⟨n'',h4,h5,h6⟩:=b.v t ty S n' h1
  refine ⟨n'',h4,Nat.le_trans h2 h5,fun e=>?_⟩
  obtain ⟨h7,h8⟩:=h3 zo
  obtain ⟨h9,h10⟩:=h6 zo
  refine ⟨h9.trans h7,fun c hc=>?_⟩
  obtain ⟨c',hc',hs'⟩:=h8 c hc
  rw [h7] at h10
  obtain ⟨c'',hc'',hs''⟩:=h10 c' hc'
  exact ⟨c'',hc'',hs''.trans hs'⟩
 ·intro c k x hb ho
  obtain ⟨⟨k',h1,h2⟩,h3⟩:=a.o c k x hb ho
  obtain ⟨h4,h5⟩:=b.o c k' x h1 h2
  exact ⟨h4,h5.trans h3⟩
theorem HExt.refl (φ:Nat→Nat) (h:Heap) (w:World):HExt φ h w φ h w :=
 ⟨fun _ _ _ x=>⟨⟨_,_,x⟩,rfl⟩,fun _ _ _ _ x=>⟨_,x,zNR _,fun _=>akept (rfl) rfl⟩,fun _ _ _ _ x=>⟨_,x,zNR _,fun _=>⟨rfl,fun c hc=>⟨c,hc,rfl⟩⟩⟩,fun _ _ _ h1 h2=>⟨⟨_,h1,h2⟩,rfl⟩⟩
theorem Rel.put {φ:Nat→Nat} {M0:Mset} {N:Nat} {D:DB} {s:St} {a:Act} {w:World} (r:Rel φ M0 N D (look s.T) (look s.H) a w) {d:Option Tmp} {x:AV} {v:Value}
  (hd:∀ t,d=some t→t < N) (hx:RepA φ (look s.H) w (MM φ (look s.H) M0) x v):Rel φ M0 N D (look (s.put d x).T) (look (s.put d x).H) (a.put d v) w:=by
 cases d with
 | none=>exact r
 | some d =>
  have hlt:=hd d rfl
  refine ⟨r.dfs,by simp [Act.put,r.siz],r.hp,fun t y ht=>?_⟩
  simp only [St.put,look] at ht
  by_cases e:d=t
  ·simp only [e,if_true,sie] at ht
   subst ht
   refine ⟨e ▸ hlt,?_⟩
   have:(a.put (some d) v).tmps.getD t undef=v:=by subst e; simp [Act.put,r.siz,hlt]
   rw [this]; exact hx
  ·simp only [e,if_false] at ht
   refine ⟨(r.tm t y ht).1,?_⟩
   have:(a.put (some d) v).tmps.getD t undef=a.tmps.getD t undef:=by simp [Act.put,Array.getElem?_setIfInBounds_ne e]
   rw [this]; exact (r.tm t y ht).2
theorem evol_heap {φ:Nat→Nat} {h:Heap} {w w':World} (hh:w'.heap=w.heap) (ho:w'.os=w.os) (ht:w'.tape=w.tape) (hu:w'.output=w.output):Evol φ h w φ h w' :=
 ⟨ho,ht,hu,by rw [hh]; exact zNR _,fun _ _ hm=>hm.eq (by rw [hh]),fun _ _ _=>by rw [hh],fun _ _ _ _=>by simp [World.cell?,hh],fun _ _ _ x=>x,fun _ _ _ _ x=>⟨⟨_,x⟩,rfl⟩,fun _ _ _ _ _ x=>⟨_,x,zNR _,fun _=>akept (rfl) (by rw [hh])⟩,fun _ _ _ _ _ x=>⟨_,x,zNR _,fun _=>⟨rfl,fun c hc=>⟨c,by rw [hh]; exact hc,rfl⟩⟩⟩,fun _ _ _ _ h1 h2=>⟨⟨_,h1,h2⟩,rfl⟩⟩
theorem hext_heap {φ:Nat→Nat} {h:Heap} {w w':World} (hh:w'.heap=w.heap):HExt φ h w φ h w' :=
 ⟨fun _ _ _ x=>⟨⟨_,_,x⟩,rfl⟩,fun _ _ _ _ x=>⟨_,x,zNR _,fun _=>akept (rfl) (by rw [hh])⟩,fun _ _ _ _ x=>⟨_,x,zNR _,fun _=>⟨rfl,fun c hc=>⟨c,by rw [hh]; exact hc,rfl⟩⟩⟩,fun _ _ _ h1 h2=>⟨⟨_,h1,h2⟩,rfl⟩⟩
theorem relB_keep {φ φ':Nat→Nat} {h h':Heap} {w w':World} {M M':Mset} {r r':Nat}
  (hk:∀ r o v,w.cell? ⟨r,o,none⟩=some v→¬ M r o→w'.cell? ⟨r,o,none⟩=some v∧¬ M' r o∧(Unm w r→Unm w' r)) (X:HExt φ h w φ' h' w')
  (hr:w'.heap[r']?=w.heap[r]?) {k:Blk} (hb:RelB φ h w M r k):RelB φ' h' w' M' r' k:=by
 cases k with
 | box ty cs=>obtain ⟨c,h1,h2⟩:=hb; exact ⟨c,hr.trans h1,(repA_keep hk X).2 _ _ h2⟩
 | arr ty S n =>
  rcases hb with ⟨h0,h1⟩ | ⟨c,cap,h1,h2⟩
  ·exact .inl ⟨h0,hr.trans h1⟩
  ·exact .inr ⟨c,cap,hr.trans h1,h2⟩
 | vec ty S es=>obtain ⟨c,cap,h1,h2,h3,h4,h5,h6,h7⟩:=hb; exact ⟨c,cap,hr.trans h1,h2,h3,h4,h5,h6,(repA_keep hk X).2 _ _ h7⟩
 | lp T nf st pd=>obtain ⟨tmps,d,h1,h2,h3⟩:=hb; exact ⟨tmps,d,hr.trans h1,h2,fun t x ht=>⟨(h3 t x ht).1,(repA_keep hk X).1 _ _ (h3 t x ht).2⟩⟩
 | mp es=>obtain ⟨en,cl,h1,h2,h3⟩:=hb; exact ⟨en,cl,hr.trans h1,h2,(repA_keep hk X).2 _ _ h3⟩
 | mm S G=>obtain ⟨en,cl,L,ks,h1,h2,h3,h4,h5⟩:=hb; exact ⟨en,cl,L,ks,hr.trans h1,h2,(repA_keep hk X).2 _ _ h3,(repA_keep hk X).2 _ _ h4,h5⟩
 | mf es=>obtain ⟨en,cl,h1,h2,h3,h4⟩:=hb; exact ⟨en,cl,hr.trans h1,h2,(repA_keep hk X).2 _ _ h3,h4⟩
 | mg en cl es=>obtain ⟨h1,h2,h3,h4⟩:=hb; exact ⟨hr.trans h1,h2,(repA_keep hk X).2 _ _ h3,h4⟩
 | it m cl sn =>
  obtain ⟨h1,k,h2,h3⟩:=hb
  obtain ⟨⟨k',e1,e2⟩,e3⟩:=X.o m k _ h2 h3
  exact ⟨hr.trans (by rw [e3]; exact h1),k',e1,e2⟩
theorem relH_heap {φ:Nat→Nat} {h:Heap} {w w':World} {M0:Mset} (hh:w'.heap=w.heap) (E:Evol φ h w φ h w') (r:RelH φ h w M0):RelH φ h w' M0 :=
 ⟨r.inj,fun b k hb=>relB_keep (E.keeps M0) (hext_heap hh) (by rw [hh]) (r.blk b k hb),r.fr,fun x o hx=>by rw [hh]; exact r.lt x o hx,r.gm.evol E⟩
def updF (φ:Nat→Nat) (b r:Nat):Nat→Nat:=fun x=>if b=x then r else φ x
theorem relH_lt {φ:Nat→Nat} {h:Heap} {w:World} {M0:Mset} (r:RelH φ h w M0) {b:Nat} {k:Blk} (hb:h b=some k) (hk:∀ ty S,k ≠ .arr ty S 0):φ b < w.heap.size:=by
 have:=r.blk b k hb
 cases k with
 | box ty cs=>obtain ⟨c,h1,_⟩:=this; exact (zGS.1 h1).1
 | arr ty S n =>
  rcases this with ⟨h0,_⟩ | ⟨c,cap,h1,_⟩
  ·exact absurd (by rw [h0]) (hk ty S)
  ·exact (zGS.1 h1).1
 | vec ty S es=>obtain ⟨c,cap,h1,_⟩:=this; exact (zGS.1 h1).1
 | lp T nf st pd=>obtain ⟨c,cap,h1,_⟩:=this; exact (zGS.1 h1).1
 | mp es=>obtain ⟨c,cap,h1,_⟩:=this; exact (zGS.1 h1).1
 | mm S G=>obtain ⟨en,cl,L,ks,h1,_⟩:=this; exact (zGS.1 h1).1
 | mf es=>obtain ⟨c,cap,h1,_⟩:=this; exact (zGS.1 h1).1
 | mg en cl es=>exact (zGS.1 this.1).1
 | it m cl sn=>exact (zGS.1 this.1).1
theorem relH_ltv {φ:Nat→Nat} {h:Heap} {w:World} {M0:Mset} (r:RelH φ h w M0) {b:Nat} {ty:TypeId} {S:Nat} {es:List (List PV)} (hb:h b=some (.vec ty S es)):φ b < w.heap.size :=
 relH_lt r hb fun _ _ e=>by cases e
def Clear (φ:Nat→Nat) (h:Heap) (w:World) (K:Nat):Prop:=∀ b,h b ≠ none→φ b < w.heap.size∨w.heap.size+K≤φ b
theorem Clear.lt {φ:Nat→Nat} {h:Heap} {w w':World} {M0:Mset} {K:Nat} (hC:Clear φ h w K) (r:RelH φ h w M0) (hs:w'.heap.size≤w.heap.size+K) (hold:∀ x,x < w.heap.size→w'.heap[x]?=w.heap[x]?) {b:Nat} (hb:h b ≠ none) :
  w'.heap[φ b]?=w.heap[φ b]?:=by
 rcases hC b hb with h1 | h1
 ·exact hold _ h1
 ·rw [none_of_le (by omega:w'.heap.size≤φ b),none_of_le (by omega:w.heap.size≤φ b)]
def liftF (φ:Nat→Nat) (n K:Nat):Nat→Nat:=fun b=>if φ b < n then φ b else φ b+K
theorem lift_blk {φ:Nat→Nat} {h:Heap} {w:World} {M0:Mset} (r:RelH φ h w M0) (K:Nat) {b:Nat} {k:Blk} (hb:h b=some k) (hk:∀ ty S,k ≠ .arr ty S 0):liftF φ w.heap.size K b=φ b:=by
 have:=relH_lt r hb hk
 simp [liftF,this]
theorem lift_get {φ:Nat→Nat} {w:World} {K b:Nat}:w.heap[liftF φ w.heap.size K b]?=w.heap[φ b]?:=by
 unfold liftF
 by_cases e:φ b < w.heap.size
 ·simp only [e,if_true]
 ·simp only [e,if_false]
  rw [none_of_le zo,none_of_le zo]
theorem lift_ext {φ:Nat→Nat} {h:Heap} {w:World} {M0:Mset} (r:RelH φ h w M0) (K:Nat):Evol φ h w (liftF φ w.heap.size K) h w∧HExt φ h w (liftF φ w.heap.size K) h w:=by
 have ht:∀ t ty S n,h t=some (.arr ty S n)→∃ n',h t=some (.arr ty S n')∧n≤n' ∧
  (n'=n→AKept w w (φ t) (liftF φ w.heap.size K t) ty):=by
  intro t ty S n ht
  refine ⟨n,ht,zNR _,fun _=>?_⟩
  by_cases e:φ t < w.heap.size
  ·exact akept (by simp [liftF,e]) rfl
  ·exact akept_none (none_of_le zo) (by rw [lift_get]; exact none_of_le zo)
 have ho:∀ b k x,h b=some k→k.ob=some x→liftF φ w.heap.size K b=φ b:=fun b k x hb ho=>lift_blk r K hb (fun ty S e=>by subst e; cases ho)
 refine ⟨⟨rfl,rfl,rfl,zNR _,fun _ _ h=>h,fun _ _ _=>rfl,fun _ _ _ _=>rfl,?_,?_,fun t ty S n _ h1=>ht t ty S n h1,?_,?_⟩,?_,ht,?_,?_⟩
 ·rintro x o hx ⟨b,k,h1,h2,h3⟩
  refine ⟨b,k,h1,?_,h3⟩
  unfold liftF at h2
  by_cases e:φ b < w.heap.size
  ·simpa only [e,if_true] using h2
  ·simp only [e,if_false] at h2; omega
 ·intro b ty cs _ hb; exact ⟨⟨cs,hb⟩,lift_blk r K hb (fun _ _ e=>by cases e)⟩
 ·intro t ty S es _ hb; exact ⟨es,hb,zNR _,fun _=>⟨lift_blk r K hb (fun _ _ e=>by cases e),fun c hc=>⟨c,hc,rfl⟩⟩⟩
 ·intro b k x _ hb hx; exact ⟨⟨k,hb,hx⟩,ho b k x hb hx⟩
 ·intro b ty cs hb; exact ⟨⟨ty,cs,hb⟩,lift_blk r K hb (fun _ _ e=>by cases e)⟩
 ·intro t ty S es hb; exact ⟨es,hb,zNR _,fun _=>⟨lift_blk r K hb (fun _ _ e=>by cases e),fun c hc=>⟨c,hc,rfl⟩⟩⟩
 ·intro b k x hb hx; exact ⟨⟨k,hb,hx⟩,ho b k x hb hx⟩
theorem relH_lift {φ:Nat→Nat} {h:Heap} {w:World} {M0:Mset} (r:RelH φ h w M0) (K:Nat):RelH (liftF φ w.heap.size K) h w M0:=by
 obtain ⟨E,X⟩:=lift_ext r K
 refine ⟨?_,fun b k hb=>relB_keep (E.keeps M0) X lift_get (r.blk b k hb),?_,r.lt,r.gm.evol E⟩
 ·intro b c hb hc e
  refine r.inj b c hb hc ?_
  unfold liftF at e
  by_cases e1:φ b < w.heap.size <;> by_cases e2:φ c < w.heap.size
  ·simpa only [e1,e2,if_true] using e
  ·simp only [e1,e2,if_true,if_false] at e; omega
  ·simp only [e1,e2,if_true,if_false] at e; omega
  ·simp only [e1,e2,if_false] at e; omega
 ·intro b hb o hm
  unfold liftF at hm
  by_cases e:φ b < w.heap.size
  ·simp only [e,if_true] at hm; exact r.fr b hb o hm
  ·simp only [e,if_false] at hm; have:=r.lt _ _ hm; omega
theorem lift_clear {φ:Nat→Nat} {h:Heap} {w:World} (K:Nat):Clear (liftF φ w.heap.size K) h w K:=by
 intro b _
 unfold liftF
 by_cases e:φ b < w.heap.size
 ·simp only [e,if_true]; exact .inl trivial
 ·simp only [e,if_false]; right; omega
theorem Rel.lift {φ:Nat→Nat} {M0:Mset} {N:Nat} {D:DB} {T:Nat→Option AV} {h:Heap} {a:Act} {w:World} (r:Rel φ M0 N D T h a w) (K:Nat) :
  Rel (liftF φ w.heap.size K) M0 N D T h a w∧Evol φ h w (liftF φ w.heap.size K) h w∧HExt φ h w (liftF φ w.heap.size K) h w∧Clear (liftF φ w.heap.size K) h w K:=by
 obtain ⟨E,X⟩:=lift_ext r.hp K
 exact ⟨r.keep E X (relH_lift r.hp K),E,X,lift_clear K⟩
theorem evol_new {φ:Nat→Nat} {h:Heap} {w w':World} {M0:Mset} {b:Nat} {k:Blk} {o:Obj} (hh:w'.heap=w.heap.push o) (ho:w'.os=w.os) (ht:w'.tape=w.tape) (hu:w'.output=w.output)
  (hb:h b=none) (r:RelH φ h w M0) (hC:Clear φ h w 1):Evol φ h w (updF φ b w.heap.size) (upd h b k) w'∧HExt φ h w (updF φ b w.heap.size) (upd h b k) w':=by
 have hold:∀ x,x < w.heap.size→w'.heap[x]?=w.heap[x]?:=fun x hx=>by rw [hh,Array.getElem?_push,if_neg zo]
 have hne:∀ c q,h c=some q→¬ b=c:=fun c q hc e=>by rw [e] at hb; rw [hb] at hc; cases hc
 refine ⟨⟨ho,ht,hu,by rw [hh]; simp,fun x hx hm=>hm.eq (hold x hx),fun x hx _=>hold x hx,fun x o hx _=>by simp [World.cell?,hold x hx],?_,?_,?_,?_,?_⟩,?_,?_,?_,?_⟩
 ·rintro x y hx ⟨c,q,h1,h2,h3⟩
  simp only [upd,updF] at h1 h2
  by_cases e:b=c
  ·simp only [e,if_true] at h2; omega
  ·simp only [e,if_false] at h1 h2; exact ⟨c,q,h1,h2,h3⟩
 ·intro c ty cs _ hc
  have:=hne c _ hc
  exact ⟨⟨cs,by simp [upd,this,hc]⟩,by simp [updF,this]⟩
 ·intro t ty S n _ hc
  have:=hne t _ hc
  exact ⟨n,by simp [upd,this,hc],zNR _,fun _=>akept (by simp [updF,this]) (hC.lt r (by rw [hh]; simp) hold (by rw [hc]; simp))⟩
 ·intro t ty S n _ hc
  have:=hne t _ hc
  refine ⟨n,by simp [upd,this,hc],zNR _,fun _=>⟨by simp [updF,this],fun c hcc=>⟨c,?_,rfl⟩⟩⟩
  rw [hC.lt r (by rw [hh]; simp) hold (by rw [hc]; simp)]; exact hcc
 ·intro c k x _ hc ho
  have:=hne c _ hc
  exact ⟨⟨k,by simp [upd,this,hc],ho⟩,by simp [updF,this]⟩
 ·intro c ty cs hc
  have:=hne c _ hc
  exact ⟨⟨ty,cs,by simp [upd,this,hc]⟩,by simp [updF,this]⟩
 ·intro t ty S n hc
  have:=hne t _ hc
  exact ⟨n,by simp [upd,this,hc],zNR _,fun _=>akept (by simp [updF,this]) (hC.lt r (by rw [hh]; simp) hold (by rw [hc]; simp))⟩
 ·intro t ty S n hc
  have:=hne t _ hc
  refine ⟨n,by simp [upd,this,hc],zNR _,fun _=>⟨by simp [updF,this],fun c hcc=>⟨c,?_,rfl⟩⟩⟩
  rw [hC.lt r (by rw [hh]; simp) hold (by rw [hc]; simp)]; exact hcc
 ·intro c k x hc ho
  have:=hne c _ hc
  exact ⟨⟨k,by simp [upd,this,hc],ho⟩,by simp [updF,this]⟩
theorem relH_new {φ:Nat→Nat} {h:Heap} {w w':World} {M0:Mset} {b:Nat} {k:Blk} {o:Obj} (hh:w'.heap=w.heap.push o) (hb:h b=none) (r:RelH φ h w M0) (hC:Clear φ h w 1)
  (E:Evol φ h w (updF φ b w.heap.size) (upd h b k) w') (X:HExt φ h w (updF φ b w.heap.size) (upd h b k) w')
  (hnew:RelB (updF φ b w.heap.size) (upd h b k) w' (MM (updF φ b w.heap.size) (upd h b k) M0) w.heap.size k):RelH (updF φ b w.heap.size) (upd h b k) w' M0:=by
 have hold:∀ x,x < w.heap.size→w'.heap[x]?=w.heap[x]?:=fun x hx=>by rw [hh,Array.getElem?_push,if_neg zo]
 have hlt:∀ c,h c ≠ none→φ c ≠ w.heap.size:=fun c hc=>by rcases hC c hc with h1 | h1 <;> omega
 refine ⟨?_,?_,?_,fun x y hx=>Nat.lt_of_lt_of_le (r.lt x y hx) E.size,r.gm.evol E⟩
 ·intro c d hc hd he
  simp only [upd] at hc hd
  simp only [updF] at he
  by_cases e1:b=c <;> by_cases e2:b=d
  ·omega
  ·simp only [e1,if_true] at he
   have e2':¬ c=d:=by omega
   simp only [e2',if_false] at he
   rw [if_neg e2] at hd
   have:=hlt d hd; omega
  ·simp only [e2,if_true] at he
   have e1':¬ d=c:=by omega
   simp only [e1',if_false] at he
   rw [if_neg e1] at hc
   have:=hlt c hc; omega
  ·simp only [e1,e2,if_false] at he hc hd; exact r.inj c d hc hd he
 ·intro c q hc
  by_cases e:b=c
  ·have h2:q=k:=by simp only [upd,e,if_true,sie] at hc; exact hc.symm
   have h3:updF φ b w.heap.size c=w.heap.size:=by simp [updF,e]
   rw [h2,h3]; exact hnew
  ·have h1:h c=some q:=by simpa [upd,e] using hc
   have h3:updF φ b w.heap.size c=φ c:=by simp [updF,e]
   rw [h3]
   exact relB_keep (E.keeps M0) X (hC.lt r (by rw [hh]; simp) hold (by rw [h1]; simp)) (r.blk c q h1)
 ·intro c hc o hm
  by_cases e:b=c
  ·have h3:updF φ b w.heap.size c=w.heap.size:=by simp [updF,e]
   rw [h3] at hm
   exact absurd (r.lt _ _ hm) zo
  ·have h3:updF φ b w.heap.size c=φ c:=by simp [updF,e]
   rw [h3] at hm
   exact r.fr c (by simpa [upd,e] using hc) o hm
theorem evol_box {φ:Nat→Nat} {h:Heap} {w:World} {M0:Mset} {b:Nat} {ty:TypeId} {cs cs':List AV} {c c':Array Value} (hb:h b=some (.box ty cs)) (hw:w.heap[φ b]?=some (.cells c ty (0,0))) (r:RelH φ h w M0) :
  Evol φ h w φ (upd h b (.box ty cs')) (w.setRow (φ b) c')∧HExt φ h w φ (upd h b (.box ty cs')) (w.setRow (φ b) c'):=by
 have hother:∀ x,x ≠ φ b→(w.setRow (φ b) c').heap[x]?=w.heap[x]?:=fun x hx=>setRow_other w _ x c' hx
 have hnt:∀ t ty S n,h t=some (.arr ty S n)→t ≠ b:=fun t ty S n ht e=>by rw [e,hb] at ht; cases ht
 have hφ:∀ t ty S n,h t=some (.arr ty S n)→φ t ≠ φ b:=fun t ty S n ht e=>hnt t ty S n ht (r.inj t b (by rw [ht]; simp) (by rw [hb]; simp) e)
 have hnv:∀ t ty S n,h t=some (.vec ty S n)→t ≠ b:=fun t ty S n ht e=>by rw [e,hb] at ht; cases ht
 have hφv:∀ t ty S n,h t=some (.vec ty S n)→φ t ≠ φ b:=fun t ty S n ht e=>hnv t ty S n ht (r.inj t b (by rw [ht]; simp) (by rw [hb]; simp) e)
 have hno:∀ d k x,h d=some k→k.ob=some x→¬ b=d:=fun d k x hd ho e=>by rw [← e,hb] at hd; cases hd; cases ho
 refine ⟨⟨rfl,rfl,rfl,by simp,?_,?_,?_,?_,?_,?_,?_,?_⟩,?_,?_,?_,?_⟩
 ·intro x _ hu
  by_cases e:x=φ b
  ·subst e; exact unm_some (setRow_heap w _ c c' ty _ hw)
  ·exact hu.eq (hother x e)
 ·intro x _ hno
  exact hother x (fun e=>hno b (by rw [hb]; simp) e.symm)
 ·intro x o _ hm
  have:x ≠ φ b:=fun e=>hm ⟨b,_,hb,e.symm,trivial⟩
  simp [World.cell?,hother x this]
 ·rintro x y _ ⟨d,q,h1,h2,h3⟩
  by_cases e:b=d
  ·exact ⟨b,_,hb,by rw [e]; exact h2,trivial⟩
  ·exact ⟨d,q,by simpa [upd,e] using h1,h2,h3⟩
 ·intro d ty' ds _ hd
  by_cases e:b=d
  ·subst e; rw [hb] at hd; cases hd; exact ⟨⟨cs',by simp [upd]⟩,rfl⟩
  ·exact ⟨⟨ds,by simp [upd,e,hd]⟩,rfl⟩
 ·intro t ty' S n _ ht
  have e:=hnt t ty' S n ht
  refine ⟨n,by simp [upd,Ne.symm e,ht],zNR _,fun _=>akept (rfl) (by rw [hother _ (hφ t ty' S n ht)])⟩
 ·intro t ty' S n _ ht
  have e:=hnv t ty' S n ht
  refine ⟨n,by simp [upd,Ne.symm e,ht],zNR _,fun _=>⟨rfl,fun c hc=>⟨c,by rw [hother _ (hφv t ty' S n ht)]; exact hc,rfl⟩⟩⟩
 ·intro d k x _ hd ho
  exact ⟨⟨k,by simp [upd,hno d k x hd ho,hd],ho⟩,rfl⟩
 ·intro d ty' ds hd
  by_cases e:b=d
  ·exact ⟨⟨ty,cs',by simp [upd,e]⟩,rfl⟩
  ·exact ⟨⟨ty',ds,by simp [upd,e,hd]⟩,rfl⟩
 ·intro t ty' S n ht
  have e:=hnt t ty' S n ht
  refine ⟨n,by simp [upd,Ne.symm e,ht],zNR _,fun _=>akept (rfl) (by rw [hother _ (hφ t ty' S n ht)])⟩
 ·intro t ty' S n ht
  have e:=hnv t ty' S n ht
  refine ⟨n,by simp [upd,Ne.symm e,ht],zNR _,fun _=>⟨rfl,fun c hc=>⟨c,by rw [hother _ (hφv t ty' S n ht)]; exact hc,rfl⟩⟩⟩
 ·intro d k x hd ho
  exact ⟨⟨k,by simp [upd,hno d k x hd ho,hd],ho⟩,rfl⟩
theorem relH_box {φ:Nat→Nat} {h:Heap} {w:World} {M0:Mset} {b:Nat} {ty:TypeId} {cs cs':List AV} {c c':Array Value} (hb:h b=some (.box ty cs)) (hw:w.heap[φ b]?=some (.cells c ty (0,0))) (r:RelH φ h w M0)
  (hnew:RepAs φ h w (MM φ h M0) cs' c'.toList):RelH φ (upd h b (.box ty cs')) (w.setRow (φ b) c') M0:=by
 obtain ⟨E,X⟩:=evol_box (cs':=cs') (c':=c') hb hw r
 refine ⟨?_,?_,?_,fun x y hx=>Nat.lt_of_lt_of_le (r.lt x y hx) E.size,r.gm.evol E⟩
 ·intro d e hd he heq
  have g:∀ d,upd h b (.box ty cs') d ≠ none→h d ≠ none:=fun d hd=>by
   by_cases e:b=d
   ·rw [← e,hb]; simp
   ·simpa [upd,e] using hd
  exact r.inj d e (g d hd) (g e he) heq
 ·intro d q hd
  by_cases e:b=d
  ·subst e
   have:q=.box ty cs':=by simpa [upd] using hd.symm
   subst this
   exact ⟨c',setRow_heap w _ c c' ty _ hw,(repA_keep (E.keeps M0) X).2 _ _ hnew⟩
  ·have h1:h d=some q:=by simpa [upd,e] using hd
   have hne:φ d ≠ φ b:=fun h2=>e (r.inj d b (by rw [h1]; simp) (by rw [hb]; simp) h2).symm
   exact relB_keep (E.keeps M0) X (setRow_other w _ _ c' hne) (r.blk d q h1)
 ·intro d hd o hm
  refine r.fr d ?_ o hm
  by_cases e:b=d
  ·rw [← e,hb]; simp
  ·simpa [upd,e] using hd
section lists
variable {φ:Nat→Nat} {h:Heap} {w:World} {M:Mset}
theorem repCs_iff {r:Nat}:∀ (cs:List PV) (o:Nat),RepCs w M r o cs↔∀ j c,cs[j]?=some c→∃ v,w.cell? ⟨r,o+j,none⟩=some v∧¬ M r (o+j)∧v.oneCell'=true∧RepP w M c v
 | [],o=>by simp [RepCs]
 | c :: cs,o=>by
  simp only [RepCs,repCs_iff cs (o+1)]
  constructor
  ·rintro ⟨h0,h1⟩ j x hj
   cases j with
   | zero=>simp at hj; subst hj; exact h0
   | succ j =>
    have:=h1 j x (by simpa using hj)
    rwa [show o+1+j=o+(j+1) from by omega] at this
  ·intro hh
   refine ⟨hh 0 c zq,fun j x hj=>?_⟩
   have:=hh (j+1) x (by simpa using hj)
   rwa [show o+(j+1)=o+1+j from by omega] at this
theorem repCs_append {r:Nat}:∀ (a b:List PV) (o:Nat),RepCs w M r o (a++b)↔RepCs w M r o a∧RepCs w M r (o+a.length) b
 | [],b,o=>by simp [RepCs]
 | c :: a,b,o=>by
  simp only [List.cons_append,RepCs,repCs_append a b (o+1),zLC]
  rw [show o+1+a.length=o+(a.length+1) from by omega]
  constructor
  ·rintro ⟨x,y,z⟩; exact ⟨⟨x,y⟩,z⟩
  ·rintro ⟨⟨x,y⟩,z⟩; exact ⟨x,y,z⟩
theorem repEs_iff {S r:Nat}:∀ (es:List (List PV)) (o:Nat),RepEs w M S r o es↔(∀ e ∈ es,e.length=S)∧RepCs w M r o es.flatten
 | [],o=>by simp [RepEs,RepCs]
 | e :: es,o=>by
  simp only [RepEs,repEs_iff es (o+S),List.flatten_cons,repCs_append,List.mem_cons]
  constructor
  ·rintro ⟨⟨h1,h2⟩,h3,h4⟩
   refine ⟨fun x hx=>?_,h2,by rw [h1]; exact h4⟩
   rcases hx with rfl | hx
   ·exact h1
   ·exact h3 x hx
  ·rintro ⟨h1,h2,h3⟩
   have he:=h1 e (.inl rfl)
   exact ⟨⟨he,h2⟩,fun x hx=>h1 x (.inr hx),by rw [← he]; exact h3⟩
theorem repEs_append {S r:Nat}:∀ (a b:List (List PV)) (o:Nat),RepEs w M S r o (a++b)↔RepEs w M S r o a∧RepEs w M S r (o+a.length * S) b
 | [],b,o=>by simp [RepEs]
 | e :: a,b,o=>by
  simp only [List.cons_append,RepEs,repEs_append a b (o+S),zLC]
  rw [show o+S+a.length * S=o+(a.length+1) * S from by rw [Nat.add_mul]; omega]
  constructor
  ·rintro ⟨x,y,z⟩; exact ⟨⟨x,y⟩,z⟩
  ·rintro ⟨⟨x,y⟩,z⟩; exact ⟨x,y,z⟩
theorem repEs_get {S r o:Nat} {es:List (List PV)} (he:RepEs w M S r o es) {i:Nat} {e:List PV} (hi:es[i]?=some e):e.length=S∧RepCs w M r (o+i * S) e:=by
 have hlt:i < es.length:=(zLG.1 hi).1
 have hs:es=es.take i++(e :: es.drop (i+1)):=by
  have h2:es[i]=e:=(zLG.1 hi).2
  conv=>lhs; rw [← List.take_append_drop i es]
  rw [← h2,List.drop_eq_getElem_cons hlt]
 rw [hs,repEs_append] at he
 have hl:(es.take i).length=i:=by simp; omega
 rw [hl] at he
 simp only [RepEs] at he
 exact he.2.1
theorem repAs_length:∀ {xs:List AV} {l:List Value},RepAs φ h w M xs l→xs.length=l.length
 | [],l,hh=>by simp only [RepAs] at hh; simp [hh]
 | x :: xs,l,hh=>by
  simp only [RepAs] at hh
  obtain ⟨y,ys,rfl,_,h2⟩:=hh
  simp [repAs_length h2]
theorem repAs_get:∀ {xs:List AV} {l:List Value},RepAs φ h w M xs l→∀ {i:Nat} {x:AV},xs[i]?=some x→∃ v,l[i]?=some v∧RepA φ h w M x v
 | [],l,hh,i,x,hi=>by simp at hi
 | y :: xs,l,hh,i,x,hi=>by
  simp only [RepAs] at hh
  obtain ⟨v,vs,rfl,h1,h2⟩:=hh
  cases i with
  | zero=>simp at hi; subst hi; exact ⟨v,by simp,h1⟩
  | succ i =>
   obtain ⟨u,h3,h4⟩:=repAs_get h2 (i:=i) (by simpa using hi)
   exact ⟨u,by simpa using h3,h4⟩
theorem repAs_append:∀ {a b:List AV} {l m:List Value},RepAs φ h w M a l→RepAs φ h w M b m→RepAs φ h w M (a++b) (l++m)
 | [],b,l,m,h1,h2=>by simp only [RepAs] at h1; subst h1; simpa using h2
 | x :: a,b,l,m,h1,h2=>by
  simp only [RepAs] at h1
  obtain ⟨v,vs,rfl,h3,h4⟩:=h1
  simp only [List.cons_append,RepAs]
  exact ⟨v,vs++m,rfl,h3,repAs_append h4 h2⟩
theorem repAs_take:∀ {a:List AV} {l:List Value} (n:Nat),RepAs φ h w M a l→RepAs φ h w M (a.take n) (l.take n)
 | a,l,0,_=>by simp [RepAs]
 | [],l,n+1,h1=>by simp only [RepAs] at h1; subst h1; simp [RepAs]
 | x :: a,l,n+1,h1=>by
  simp only [RepAs] at h1
  obtain ⟨v,vs,rfl,h3,h4⟩:=h1
  simp only [List.take_succ_cons,RepAs]
  exact ⟨v,vs.take n,rfl,h3,repAs_take n h4⟩
theorem repAs_drop:∀ {a:List AV} {l:List Value} (n:Nat),RepAs φ h w M a l→RepAs φ h w M (a.drop n) (l.drop n)
 | a,l,0,hh=>by simpa using hh
 | [],l,n+1,h1=>by simp only [RepAs] at h1; subst h1; simp [RepAs]
 | x :: a,l,n+1,h1=>by
  simp only [RepAs] at h1
  obtain ⟨v,vs,rfl,h3,h4⟩:=h1
  simpa using repAs_drop n h4
end lists
def pureRun {α:Type} (P:Program):Sem α→Option α
 | .pure a=>some a
 | .program k=>pureRun P (k P)
 | .mark _ k=>pureRun P k
 | _=>none
theorem pureRun_sound {α:Type} {P:Program} {s:Sem α} {a:α} (h:pureRun P s=some a) (w:World):s.run P w=.ok a w:=by
 induction s with
 | pure b=>simp only [pureRun,sie] at h; subst h; rfl
 | program k ih=>simp only [pureRun] at h; exact ih P h
 | mark m k ih=>simp only [pureRun] at h; exact ih h
 | _=>simp [pureRun] at h
mutual
def toV:AV→Option Value
 | .p (.val x)=>some x
 | .p (.sl _ _)=>none
 | .p (.ad _ _)=>none
 | .p (.slu _ _)=>none
 | .tsl _ _ _=>none
 | .ptr _ _=>none
 | .eptr _=>none
 | .vnil=>none
 | .vsl _ _ _=>none
 | .vptr _ _ _ _=>none
 | .vtl _ _ _ _ _=>none
 | .yv _=>none
 | .mv _=>none
 | .bsl _ _=>none
 | .sfp _=>none
 | .iv _=>none
 | .agg cs=>(toVs cs).map fun l=>.agg l.toArray
 | .tup cs=>(toVs cs).map fun l=>.tuple l.toArray
 | .ifc t x=>(toV x).map (.iface t)
 | .fn f a b=>match toVs a,toVs b with | some l,some m=>some (.func f l.toArray m.toArray) | _,_=>none
def toVs:List AV→Option (List Value)
 | []=>some []
 | x :: xs=>match toV x,toVs xs with | some y,some ys=>some (y :: ys) | _,_=>none
end
theorem toV_rep {φ:Nat→Nat} {h:Heap} {w:World} {M:Mset} :
  (∀ (x:AV) (v y:Value),RepA φ h w M x v→toV x=some y→v=y)∧(∀ (xs:List AV) (l m:List Value),RepAs φ h w M xs l→toVs xs=some m→l=m):=by
 have key:∀ n:Nat,(∀ (x:AV),SizeOf.sizeOf x≤n→∀ v y,RepA φ h w M x v→toV x=some y→v=y)∧(∀ (xs:List AV),SizeOf.sizeOf xs≤n→∀ l m,RepAs φ h w M xs l→toVs xs=some m→l=m):=by
  intro n
  induction n with
  | zero =>
   refine ⟨fun x hx=>?_,fun es hx=>?_⟩
   ·cases x <;> simp at hx
   ·cases es <;> simp at hx
  | succ n ih =>
   obtain ⟨i1,i2⟩:=ih
   refine ⟨fun x hx v y hv he=>?_,fun xs hx l m hv he=>?_⟩
   ·cases x with
    | p x=>cases x with
     | val x=>simp only [toV,sie] at he; simp only [RepA,RepP] at hv; rw [hv,he]
     | sl S es=>simp [toV] at he
     | ad S es=>simp [toV] at he
     | slu S es=>simp [toV] at he
    | tsl S es t=>simp [toV] at he
    | ptr b off=>simp [toV] at he
    | eptr cs=>simp [toV] at he
    | vnil=>simp [toV] at he
    | vsl S t n=>simp [toV] at he
    | vptr t n k f=>simp [toV] at he
    | vtl S t n k m=>simp [toV] at he
    | yv b=>simp [toV] at he
    | mv b=>simp [toV] at he
    | iv b=>simp [toV] at he
    | bsl b n=>simp [toV] at he
    | sfp b=>simp [toV] at he
    | agg cs =>
     simp only [toV,zMS] at he
     obtain ⟨m,h1,rfl⟩:=he
     simp only [RepA] at hv
     obtain ⟨l,rfl,h2⟩:=hv
     rw [i2 cs (by simp at hx; omega) l m h2 h1]
    | tup cs =>
     simp only [toV,zMS] at he
     obtain ⟨m,h1,rfl⟩:=he
     simp only [RepA] at hv
     obtain ⟨l,rfl,h2⟩:=hv
     rw [i2 cs (by simp at hx; omega) l m h2 h1]
    | fn f a b =>
     simp only [toV] at he
     split at he
     ·rename_i l m hl hm
      simp only [sie] at he
      subst he
      simp only [RepA] at hv
      obtain ⟨l',m',rfl,h2,h3⟩:=hv
      simp at hx
      rw [i2 a zo l' l h2 hl,i2 b zo m' m h3 hm]
     ·cases he
    | ifc t x =>
     simp only [toV,zMS] at he
     obtain ⟨m,h1,rfl⟩:=he
     simp only [RepA] at hv
     obtain ⟨l,rfl,h2⟩:=hv
     rw [i1 x (by simp at hx; omega) l m h2 h1]
   ·cases xs with
    | nil=>simp only [toVs,sie] at he; simp only [RepAs] at hv; rw [hv,he]
    | cons x xs =>
     simp only [toVs] at he
     split at he
     ·rename_i y ys h1 h2
      simp only [sie] at he
      subst he
      simp only [RepAs] at hv
      obtain ⟨u,us,rfl,h3,h4⟩:=hv
      simp at hx
      rw [i1 x zo u y h3 h1,i2 xs zo us ys h4 h2]
     ·cases he
 exact ⟨fun x v=>(key (SizeOf.sizeOf x)).1 x (zNR _) v,fun xs l=>(key (SizeOf.sizeOf xs)).2 xs (zNR _) l⟩
def AV.one:AV→Bool
 | .p (.val x)=>x.oneCell'
 | .agg _ | .tup _=>false
 | _=>true
theorem one_rep {φ:Nat→Nat} {h:Heap} {w:World} {M:Mset} {x:AV} {v:Value} (h1:x.one=true) (hr:RepA φ h w M x v):v.oneCell'=true∧v.cells=#[v]:=by
 have key:v.oneCell'=true:=by
  cases x with
  | p x=>cases x with
   | val y=>simp only [RepA,RepP] at hr; subst hr; exact h1
   | sl S es =>
    simp only [RepA,RepP] at hr
    rcases hr with ⟨r,o,cap,rfl,_⟩ | ⟨_,a,cap,rfl⟩ <;> rfl
   | ad S es =>
    simp only [RepA,RepP] at hr
    obtain ⟨_,r,o,rfl,_⟩:=hr
    rfl
   | slu S es =>
    simp only [RepA,RepP] at hr
    rcases hr with ⟨r,o,cap,rfl,_⟩ | ⟨_,a,cap,rfl⟩ <;> rfl
  | tsl S es t =>
   simp only [RepA,RepP] at hr
   rcases hr.1 with ⟨r,o,cap,rfl,_⟩ | ⟨_,a,cap,rfl⟩ <;> rfl
  | ptr b off=>simp only [RepA] at hr; rw [hr.1]; rfl
  | eptr cs=>simp only [RepA] at hr; obtain ⟨r,o,rfl,_⟩:=hr; rfl
  | vnil=>simp only [RepA] at hr; rw [hr]; rfl
  | vsl S t n=>simp only [RepA] at hr; exact hr.1
  | vptr t n k f=>simp only [RepA] at hr; exact hr.1
  | vtl S t n k m=>simp only [RepA] at hr; exact hr.1
  | yv b=>simp only [RepA] at hr; rw [hr.1]; rfl
  | mv b=>simp only [RepA] at hr; rw [hr.1]; rfl
  | iv b=>simp only [RepA] at hr; rw [hr.1]; rfl
  | bsl b n=>simp only [RepA] at hr; rw [hr.1]; rfl
  | sfp b=>simp only [RepA] at hr; rcases hr.1 with e | e <;> rw [e] <;> rfl
  | agg cs=>simp [AV.one] at h1
  | tup cs=>simp [AV.one] at h1
  | fn f a b=>simp only [RepA] at hr; obtain ⟨l,m,rfl,_⟩:=hr; rfl
  | ifc t x=>simp only [RepA] at hr; obtain ⟨y,rfl,_⟩:=hr; rfl
 refine ⟨key,?_⟩
 cases v <;> first | rfl | (simp [Value.oneCell'] at key)
def allOne:List AV→Bool
 | []=>true
 | x :: xs=>x.one&&allOne xs
def cellsOf:AV→Option (List AV)
 | .agg cs=>if allOne cs then some cs else none
 | x=>if x.one then some [x] else none
theorem allOne_rep {φ:Nat→Nat} {h:Heap} {w:World} {M:Mset}:∀ {xs:List AV} {l:List Value},allOne xs=true→RepAs φ h w M xs l→∀ u ∈ l,u.oneCell'=true
 | [],l,_,hr=>by simp only [RepAs] at hr; subst hr; simp
 | x :: xs,l,h1,hr=>by
  simp only [allOne,bae] at h1
  simp only [RepAs] at hr
  obtain ⟨y,ys,rfl,h2,h3⟩:=hr
  intro u hu
  rcases List.mem_cons.1 hu with rfl | hu
  ·exact (one_rep h1.1 h2).1
  ·exact allOne_rep h1.2 h3 u hu
theorem cellsOf_rep {φ:Nat→Nat} {h:Heap} {w:World} {M:Mset} {x:AV} {v:Value} {cs:List AV} (hc:cellsOf x=some cs) (hr:RepA φ h w M x v) :
  RepAs φ h w M cs v.cells.toList∧(∀ u ∈ v.cells.toList,u.oneCell'=true)∧allOne cs=true:=by
 have other:(if x.one then some [x] else none)=some cs→RepAs φ h w M cs v.cells.toList∧(∀ u ∈ v.cells.toList,u.oneCell'=true)∧allOne cs=true:=by
  intro h1
  split at h1
  ·rename_i ho
   simp only [sie] at h1
   subst h1
   obtain ⟨h2,h3⟩:=one_rep ho hr
   rw [h3]
   exact ⟨by simp only [RepAs]; exact ⟨v,[],rfl,hr,rfl⟩,by simpa using h2,by simp [allOne,ho]⟩
  ·cases h1
 cases x with
 | agg xs =>
  simp only [cellsOf] at hc
  split at hc
  ·rename_i ho
   simp only [sie] at hc
   subst hc
   simp only [RepA] at hr
   obtain ⟨l,rfl,h2⟩:=hr
   simp only [Value.cells]
   exact ⟨h2,allOne_rep ho h2,ho⟩
  ·cases hc
 | _=>exact other hc
abbrev Res:=AV × Option (Nat × Blk) × List Nat
def ap (h:Heap):Option (Nat × Blk)→Heap
 | none=>h
 | some (b,k)=>upd h b k
def Yield (P:Program) (o:Oper) (φ:Nat→Nat) (M0:Mset) (h:Heap) (a:Act) (w:World) (x:AV) (h':Heap):Prop :=
 ∃ nx v w' φ',(execOp a.eval o).run P w=.ok nx w'∧(nx=.value v∨nx=.skip∧v=undef)∧RepA φ' h' w' (MM φ' h' M0) x v∧RelH φ' h' w' M0∧Evol φ h w φ' h' w'∧HExt φ h w φ' h' w'
section
variable {P:Program} {o:Oper} {φ:Nat→Nat} {M0:Mset} {N:Nat} {D:DB} {T:Nat→Option AV} {h:Heap} {a:Act} {w:World}
theorem Yield.of_lift (r:Rel φ M0 N D T h a w) (K:Nat) {x:AV} {h':Heap}
  (hy:∀ φ1,Rel φ1 M0 N D T h a w→Evol φ h w φ1 h w→HExt φ h w φ1 h w→Clear φ1 h w K→Yield P o φ1 M0 h a w x h'):Yield P o φ M0 h a w x h':=by
 obtain ⟨r1,E1,X1,hC⟩:=r.lift K
 obtain ⟨nx,v,w',φ',h1,h2,h3,h4,h5,h6⟩:=hy _ r1 E1 X1 hC
 exact ⟨nx,v,w',φ',h1,h2,h3,h4,E1.trans h5,HExt.trans (zNR _) X1 h6⟩
theorem yield_still (r:Rel φ M0 N D T h a w) {x:AV} {v:Value} (hr:(execOp a.eval o).run P w=.ok (.value v) w) (hx:RepA φ h w (MM φ h M0) x v):Yield P o φ M0 h a w x h :=
 ⟨_,v,w,φ,hr, .inl rfl,hx,r.hp,Evol.refl _ _ _,HExt.refl _ _ _⟩
def aMove (T:Nat→Option AV) (x:Operand):Option Res:=match evO T x with | some v=>some (v,none,[]) | none=>none
def aPick (T:Nat→Option AV) (c x y:Operand):Option Res :=
 match evO T c with
 | some (.p (.val (.bool true)))=>aMove T x
 | some (.p (.val (.bool false)))=>aMove T y
 | _=>none
theorem move_ok (r:Rel φ M0 N D T h a w) {x:Operand} {v:AV} (ho:o.op=.move x∨o.op=.assign x) (he:evO T x=some v):Yield P o φ M0 h a w v h:=by
 refine yield_still r (v:=a.eval x) ?_ (r.ev he)
 rcases ho with ho | ho <;> simp [execOp,ho]
theorem pick_ok (r:Rel φ M0 N D T h a w) {c x y:Operand} {u:Res} (ho:o.op=.pick c x y) (he:aPick T c x y=some u):u.2.1=none∧u.2.2=[]∧Yield P o φ M0 h a w u.1 h:=by
 unfold aPick at he
 split at he
 ·rename_i h1
  unfold aMove at he
  split at he
  ·rename_i v hv
   simp only [sie] at he
   subst he
   have h2:=r.ev h1
   simp only [RepA,RepP] at h2
   exact ⟨rfl,rfl,yield_still r (v:=a.eval x) (by simp [execOp,ho,h2,asBool]) (r.ev hv)⟩
  ·cases he
 ·rename_i h1
  unfold aMove at he
  split at he
  ·rename_i v hv
   simp only [sie] at he
   subst he
   have h2:=r.ev h1
   simp only [RepA,RepP] at h2
   exact ⟨rfl,rfl,yield_still r (v:=a.eval y) (by simp [execOp,ho,h2,asBool]) (r.ev hv)⟩
  ·cases he
 ·cases he
def isAggD:TypeDesc→Bool
 | .struct _ | .array _ _=>true
 | _=>false
theorem run_isAgg {t:TypeId} {d:TypeDesc} (hd:P.underlying t=some d) (w:World):(isAgg t).run P w=.ok (isAggD d) w:=by
 simp only [isAgg,Sem.run_bind,run_underlying hd,Result.andThen_ok]
 cases d <;> rfl
theorem run_sizeOf' {t:TypeId} {i:TypeInfo} (hi:P.info? t=some i) (w:World):(sizeOf t).run P w=.ok i.size w:=by
 simp [sizeOf,typeInfo,hi]
def aLoad (P:Program) (T:Nat→Option AV) (h:Heap) (ty:TypeId) (x:Operand):Option Res :=
 match P.underlying ty,P.info? ty with
 | some d,some i =>
  match evO T x with
  | some (.ptr b off) =>
   match h b with
   | some (.box _ cs) =>
    if isAggD d then (if off+i.size≤cs.length then some (.agg ((cs.drop off).take i.size),none,[b]) else none)
    else match cs[off]? with | some c=>some (c,none,[b]) | none=>none
   | _=>none
  | some (.eptr cs) =>
   if isAggD d then (if i.size≤cs.length then some (.agg ((cs.take i.size).map .p),none,[]) else none)
   else match cs[0]? with | some c=>some (.p c,none,[]) | none=>none
  | _=>none
 | _,_=>none
theorem run_loadAgg {r off:Nat} {ty:TypeId} {d:TypeDesc} {i:TypeInfo} (hd:P.underlying ty=some d) (hi:P.info? ty=some i) (hag:isAggD d=true) (l:List Value) (hl:l.length=i.size)
  (hc:∀ j v,l[j]?=some v→w.cell? ⟨r,off+j,none⟩=some v):(loadVar ty ⟨r,off,none⟩).run P w=.ok (.agg l.toArray) w:=by
 have h1:=run_loadCells_list (P:=P) w ⟨r,off,none⟩ l (fun j v hj=>by rw [Addr.add_lit]; exact hc j v hj)
 rw [hl] at h1
 simp [loadVar,run_isAgg hd,hag,run_sizeOf' hi,h1]
theorem run_loadOne {r off:Nat} {ty:TypeId} {d:TypeDesc} (hd:P.underlying ty=some d) (hag:isAggD d=false) {v:Value} (hc:w.cell? ⟨r,off,none⟩=some v) :
  (loadVar ty ⟨r,off,none⟩).run P w=.ok v w:=by
 simp [loadVar,run_isAgg hd,hag,hc]
theorem cell_block {r off:Nat} {c:Array Value} {ty:TypeId} (hw:w.heap[r]?=some (.cells c ty (0,0))):w.cell? ⟨r,off,none⟩=c[off]?:=by simp [World.cell?,hw]
theorem load_run (r:Rel φ M0 N D T h a w) {ty:TypeId} {x:Operand} {u:Res} (he:aLoad P T h ty x=some u):u.2.1=none∧∃ v,(Instr.loadAt ty (a.eval x)).run P w=.ok v w∧RepA φ h w (MM φ h M0) u.1 v:=by
 unfold aLoad at he
 split at he
 ·rename_i d i hd hi
  split at he
  ·rename_i b off hx
   have h2:=r.ev hx
   simp only [RepA] at h2
   split at he
   ·rename_i ty' cs hb
    obtain ⟨c,hw,hcs⟩:=r.hp.blk b _ hb
    split at he
    ·rename_i hag
     split at he
     ·rename_i hlen
      simp only [sie] at he
      subst he
      have hll:=repAs_length hcs
      have h3:RepAs φ h w (MM φ h M0) ((cs.drop off).take i.size) ((c.toList.drop off).take i.size):=repAs_take _ (repAs_drop _ hcs)
      refine ⟨rfl, .agg ((c.toList.drop off).take i.size).toArray,?_,?_⟩
      ·have:=run_loadAgg (w:=w) (r:=φ b) (off:=off) hd hi hag ((c.toList.drop off).take i.size) (by simp at hll ⊢; omega) (fun j v hj=>by
        rw [cell_block hw]
        rw [List.getElem?_take] at hj
        split at hj
        ·simpa using hj
        ·cases hj)
       simp [Instr.loadAt,h2.1,Instr.sureAddr,this]
      ·simp only [RepA]; exact ⟨_,rfl,h3⟩
     ·cases he
    ·rename_i hag
     split at he
     ·rename_i c0 hc0
      simp only [sie] at he
      subst he
      obtain ⟨v,hv,hrv⟩:=repAs_get hcs hc0
      refine ⟨rfl,v,?_,hrv⟩
      have:=run_loadOne (P:=P) (w:=w) (r:=φ b) (off:=off) hd (by simpa using hag) (v:=v) (by rw [cell_block hw]; simpa using hv)
      simp [Instr.loadAt,h2.1,Instr.sureAddr,this]
     ·cases he
   ·cases he
  ·rename_i cs hx
   have h2:=r.ev hx
   simp only [RepA] at h2
   obtain ⟨rr,oo,h3,h4⟩:=h2
   rw [repCs_iff] at h4
   split at he
   ·rename_i hag
    split at he
    ·rename_i hlen
     simp only [sie] at he
     subst he
     have hex:∃ l:List Value,l.length=i.size∧(∀ j v,l[j]?=some v→w.cell? ⟨rr,oo+j,none⟩=some v)∧RepAs φ h w (MM φ h M0) ((cs.take i.size).map .p) l:=by
      have hgen:∀ (k:Nat) (cs:List PV) (oo:Nat),k≤cs.length→(∀ j c,cs[j]?=some c→∃ v,w.cell? ⟨rr,oo+j,none⟩=some v∧¬ MM φ h M0 rr (oo+j)∧v.oneCell'=true∧RepP w (MM φ h M0) c v) →
        ∃ l:List Value,l.length=k∧(∀ j v,l[j]?=some v→w.cell? ⟨rr,oo+j,none⟩=some v)∧RepAs φ h w (MM φ h M0) ((cs.take k).map .p) l:=by
       intro k
       induction k with
       | zero=>intro cs oo _ _; exact ⟨[],rfl,by simp,by simp [RepAs]⟩
       | succ k ih =>
        intro cs oo hk hall
        cases cs with
        | nil=>simp at hk
        | cons c cs =>
         obtain ⟨v,hv,hm,_,hr⟩:=hall 0 c zq
         obtain ⟨l,h1,h2,h3⟩:=ih cs (oo+1) (by simp at hk; omega) (fun j c' hj=>by
          have:=hall (j+1) c' (by simpa using hj)
          rwa [show oo+(j+1)=oo+1+j from by omega] at this)
         refine ⟨v :: l,by simp [h1],fun j u hj=>?_,?_⟩
         ·cases j with
          | zero=>simp at hj; subst hj; simpa using hv
          | succ j=>have:=h2 j u (by simpa using hj); rwa [show oo+1+j=oo+(j+1) from by omega] at this
         ·simp only [List.take_succ_cons,zMC,RepAs]; exact ⟨v,l,rfl,by simpa [RepA] using hr,h3⟩
      exact hgen i.size cs oo hlen h4
     obtain ⟨l,h5,h6,h7⟩:=hex
     refine ⟨rfl, .agg l.toArray,?_,?_⟩
     ·have:=run_loadAgg (w:=w) (r:=rr) (off:=oo) hd hi hag l h5 h6
      simp [Instr.loadAt,h3,Instr.sureAddr,this]
     ·simp only [RepA]; exact ⟨l,rfl,h7⟩
    ·cases he
   ·rename_i hag
    split at he
    ·rename_i c0 hc0
     simp only [sie] at he
     subst he
     obtain ⟨v,hv,_,_,hrv⟩:=h4 0 c0 hc0
     refine ⟨rfl,v,?_,by simpa [RepA] using hrv⟩
     have:=run_loadOne (P:=P) (w:=w) (r:=rr) (off:=oo) hd (by simpa using hag) (v:=v) (by simpa using hv)
     simp [Instr.loadAt,h3,Instr.sureAddr,this]
    ·cases he
  ·cases he
 ·cases he
theorem load_ok (r:Rel φ M0 N D T h a w) {ty:TypeId} {x:Operand} {u:Res} (ho:o.op=.load ty x) (he:aLoad P T h ty x=some u):u.2.1=none∧Yield P o φ M0 h a w u.1 h:=by
 obtain ⟨h1,v,h2,h3⟩:=load_run (P:=P) r he
 exact ⟨h1,yield_still r (v:=v) (by simp [execOp,ho,h2]) h3⟩
def aStore (P:Program) (T:Nat→Option AV) (h:Heap) (ty:TypeId) (x y:Operand):Option Res :=
 match P.info? ty,evO T x,evO T y with
 | some i,some (.ptr b off),some v =>
  match h b,cellsOf v with
  | some (.box tb cs),some vs =>
   if vs.length=i.size∧off+vs.length≤cs.length then some (.p (.val undef),some (b, .box tb (cs.take off++vs++cs.drop (off+vs.length))),[b]) else none
  | _,_=>none
 | _,_,_=>none
theorem store_ok (r:Rel φ M0 N D T h a w) {ty:TypeId} {x y:Operand} {u:Res} (ho:o.op=.store ty x y) (he:aStore P T h ty x y=some u):Yield P o φ M0 h a w u.1 (ap h u.2.1):=by
 unfold aStore at he
 split at he
 ·rename_i i b off v hi hx hy
  have h2:=r.ev hx
  have h3:=r.ev hy
  simp only [RepA] at h2
  split at he
  ·rename_i tb cs vs hb hvs
   split at he
   ·rename_i hlen
    simp only [sie] at he
    subst he
    obtain ⟨c,hw,hcs⟩:=r.hp.blk b _ hb
    obtain ⟨h4,h5,h6⟩:=cellsOf_rep hvs h3
    have hl1:=repAs_length h4
    have hl2:=repAs_length hcs
    have hst:=run_storeCells_at P (φ b) off tb (a.eval y).cells.toList 0 c w hw (by simp at hl1 hl2 ⊢; omega) h5
    simp only [Nat.add_zero] at hst
    have hnew:RepAs φ h w (MM φ h M0) (cs.take off++vs++cs.drop (off+vs.length)) (c.toList.take off++(a.eval y).cells.toList++c.toList.drop (off+(a.eval y).cells.toList.length)):=by
     rw [← hl1]
     exact repAs_append (repAs_append (repAs_take _ hcs) h4) (repAs_drop _ hcs)
    obtain ⟨E,X⟩:=evol_box (cs':=cs.take off++vs++cs.drop (off+vs.length)) (c':=(c.toList.take off++(a.eval y).cells.toList++c.toList.drop (off+(a.eval y).cells.toList.length)).toArray) hb hw r.hp
    refine ⟨.skip,undef,_,φ,?_, .inr ⟨rfl,rfl⟩,by simp [RepA,RepP],relH_box hb hw r.hp (by simpa using hnew),E,X⟩
    have hsz:(a.eval y).cells.size=i.size:=by simp at hl1; omega
    simp [execOp,ho,Instr.storeAt,h2.1,Instr.sureAddr,storeVar,run_sizeOf' hi,hsz,hst]
   ·cases he
  ·cases he
 ·cases he
def aNew (o:Oper) (h:Heap) (ty:TypeId) (v:AV):Option Res :=
 match o.dst,cellsOf v with
 | some d,some cs=>match h d with | none=>some (.ptr d 0,some (d, .box ty cs),[d]) | some _=>none
 | _,_=>none
theorem new_ok (r:Rel φ M0 N D T h a w) {ty:TypeId} {v:AV} {y:Value} {u:Res} (hrun:(execOp a.eval o).run P w=.ok (.value (.pointer (some ⟨w.heap.size,0,none⟩))) (w.alloc (.cells y.cells ty)))
  (hv:RepA φ h w (MM φ h M0) v y) (he:aNew o h ty v=some u):Yield P o φ M0 h a w u.1 (ap h u.2.1):=by
 unfold aNew at he
 split at he
 ·rename_i d cs _ hcs
  split at he
  ·rename_i hd
   simp only [sie] at he
   subst he
   refine Yield.of_lift r 1 fun φ r E0 X0 hC=>?_
   have hv:=(repA_keep (E0.keeps M0) X0).1 _ _ hv
   obtain ⟨E,X⟩:=evol_new (w':=w.alloc (.cells y.cells ty)) (o:=.cells y.cells ty) (b:=d) (k:=.box ty cs) (M0:=M0) rfl rfl rfl rfl hd r.hp hC
   have hnewb:RelB (updF φ d w.heap.size) (upd h d (.box ty cs)) (w.alloc (.cells y.cells ty)) (MM (updF φ d w.heap.size) (upd h d (.box ty cs)) M0) w.heap.size (.box ty cs):=by
    refine ⟨y.cells,by show (w.heap.push _)[w.heap.size]?=_; simp,(repA_keep (E.keeps M0) X).2 _ _ (cellsOf_rep hcs hv).1⟩
   refine ⟨_,_,_,updF φ d w.heap.size,hrun, .inl rfl,?_,relH_new rfl hd r.hp hC E X hnewb,E,X⟩
   simp only [RepA,ap]
   exact ⟨by simp [updF],ty,cs,by simp [upd]⟩
  ·cases he
 ·cases he
theorem alloc_ok (r:Rel φ M0 N D T h a w) {ty:TypeId} {i:TypeInfo} {z:Value} {u:Res} (ho:o.op=.alloc ty) (hi:P.info? ty=some i) (hz:i.zero=some z) (he:aNew o h ty (ofV z)=some u) :
  Yield P o φ M0 h a w u.1 (ap h u.2.1) :=
 new_ok r (y:=z) (by simp [execOp,ho,Instr.alloc,zeroValue,typeInfo,hi,hz,newVar,newRow,newObj,Sem.run]) (rep_ofV z) he
theorem box_ok (r:Rel φ M0 N D T h a w) {ty:TypeId} {x:Operand} {v:AV} {u:Res} (ho:o.op=.box ty x) (hx:evO T x=some v) (he:aNew o h ty v=some u) :
  Yield P o φ M0 h a w u.1 (ap h u.2.1) :=
 new_ok r (y:=a.eval x) (by simp [execOp,ho,Instr.box,newVar,newRow,newObj,Sem.run]) (r.ev hx) he
end
section
variable {P:Program} {o:Oper} {φ:Nat→Nat} {M0:Mset} {N:Nat} {D:DB} {T:Nat→Option AV} {h:Heap} {a:Act} {w:World}
theorem repCs_drop {M:Mset} {r o:Nat} {cs:List PV} (k:Nat) (hk:k≤cs.length) (hr:RepCs w M r o cs):RepCs w M r (o+k) (cs.drop k):=by
 have:RepCs w M r o (cs.take k++cs.drop k):=by rw [List.take_append_drop]; exact hr
 rw [repCs_append] at this
 have hl:(cs.take k).length=k:=by simp; omega
 rw [hl] at this
 exact this.2
def aFieldAddr (P:Program) (T:Nat→Option AV) (s:TypeId) (x:Operand) (f:Nat):Option Res :=
 match P.underlying s with
 | some (.struct fields) =>
  match fields[f]? with
  | some fl =>
   match P.info? fl.type with
   | some i =>
    if i.size=0 then none else
    match evO T x with
    | some (.ptr b off)=>some (.ptr b (off+fl.offset),none,[])
    | some (.eptr cs)=>if fl.offset≤cs.length then some (.eptr (cs.drop fl.offset),none,[]) else none
    | _=>none
   | none=>none
  | none=>none
 | _=>none
theorem fieldAddr_ok (r:Rel φ M0 N D T h a w) {s:TypeId} {x:Operand} {f:Nat} {u:Res} (ho:o.op=.fieldAddr s x f) (he:aFieldAddr P T s x f=some u):u.2.1=none∧Yield P o φ M0 h a w u.1 h:=by
 unfold aFieldAddr at he
 split at he
 ·rename_i fields hs
  split at he
  ·rename_i fl hf
   split at he
   ·rename_i i hi
    split at he
    ·cases he
    ·rename_i hsz
     split at he
     ·rename_i b off hx
      simp only [sie] at he
      subst he
      have h2:=r.ev hx
      simp only [RepA] at h2
      refine ⟨rfl,yield_still r (v:=.pointer (some ⟨φ b,off+fl.offset,none⟩)) ?_ ?_⟩
      ·simp [execOp,ho,Instr.fieldAt,run_underlying hs,hf,h2.1,Instr.sureAddr,fieldPlace,run_sizeOf' hi,hsz,Addr.add_lit]
      ·simp only [RepA]; exact ⟨trivial,h2.2⟩
     ·rename_i cs hx
      split at he
      ·rename_i hle
       simp only [sie] at he
       subst he
       have h2:=r.ev hx
       simp only [RepA] at h2
       obtain ⟨rr,oo,h3,h4⟩:=h2
       refine ⟨rfl,yield_still r (v:=.pointer (some ⟨rr,oo+fl.offset,none⟩)) ?_ ?_⟩
       ·simp [execOp,ho,Instr.fieldAt,run_underlying hs,hf,h3,Instr.sureAddr,fieldPlace,run_sizeOf' hi,hsz,Addr.add_lit]
       ·simp only [RepA]; exact ⟨rr,oo+fl.offset,rfl,repCs_drop _ hle h4⟩
      ·cases he
     ·cases he
   ·cases he
  ·cases he
 ·cases he
def elemsS:AV→Option (Nat × List (List PV))
 | .p (.sl S es)=>some (S,es)
 | .tsl S es _=>some (S,es)
 | _=>none
def elems:AV→Option (Nat × List (List PV))
 | .p (.sl S es)=>some (S,es)
 | .p (.slu S es)=>some (S,es)
 | .tsl S es _=>some (S,es)
 | _=>none
def uP:PV→PV
 | .sl S es=>.slu S es
 | x=>x
def uC (cs:List PV):List PV:=cs.map uP
def uV:AV→List PV→List PV
 | .p (.slu _ _),c=>uC c
 | _,c=>c
theorem repWCs_u {w:World} {M:Mset} {r:Nat}:∀ {o:Nat} {cs:List PV},RepWCs w M r o cs→RepCs w M r o (uC cs)
 | o,[],_=>by simp [uC,RepCs]
 | o,c :: cs,h=>by
  simp only [RepWCs] at h
  obtain ⟨⟨v,h1,h2,h3,h4⟩,h5⟩:=h
  have h6:=repWCs_u h5
  have:uC (c :: cs)=uP c :: uC cs:=rfl
  rw [this]
  simp only [RepCs]
  refine ⟨⟨v,h1,h2,h3,?_⟩,h6⟩
  cases c with
  | val x=>simpa [RepW,RepP,uP] using h4
  | sl S es=>simp only [RepW] at h4; simp only [uP,RepP]; exact h4
  | ad S es=>simp only [RepW] at h4
  | slu S es=>simp only [RepW] at h4
theorem repWEs_get {w:World} {M:Mset} {S r:Nat}:∀ {o i:Nat} {es:List (List PV)} {e:List PV},RepWEs w M S r o es→es[i]?=some e→e.length=S∧RepWCs w M r (o+i * S) e
 | o,i,[],e,_,hi=>by simp at hi
 | o,0,x :: es,e,h,hi=>by
  simp only [RepWEs] at h
  simp only [List.getElem?_cons_zero,sie] at hi
  subst hi
  simpa using h.1
 | o,i+1,x :: es,e,h,hi=>by
  simp only [RepWEs] at h
  simp only [List.getElem?_cons_succ] at hi
  have:=repWEs_get h.2 hi
  rw [show o+(i+1) * S=o+S+i * S from by rw [Nat.add_mul]; omega]
  exact this
theorem elemsS_rep {M:Mset} {x:AV} {v:Value} {S:Nat} {es:List (List PV)} (he:elemsS x=some (S,es)) (hr:RepA φ h w M x v):RepP w M (.sl S es) v:=by
 cases x with
 | p x=>cases x with
  | val y=>simp [elemsS] at he
  | ad S' es'=>simp [elemsS] at he
  | slu S' es'=>simp [elemsS] at he
  | sl S' es'=>simp only [elemsS,sie,zPJ] at he; obtain ⟨rfl,rfl⟩:=he; simpa only [RepA] using hr
 | tsl S' es' t=>simp only [elemsS,sie,zPJ] at he; obtain ⟨rfl,rfl⟩:=he; simp only [RepA] at hr; exact hr.1
 | _=>simp [elemsS] at he
theorem elemsS_uV {x:AV} {z:Nat × List (List PV)} (he:elemsS x=some z):elems x=some z∧∀ c,uV x c=c:=by
 cases x with
 | p x=>cases x with
  | sl S' es'=>exact ⟨he,fun _=>rfl⟩
  | _=>simp [elemsS] at he
 | tsl S' es' t=>exact ⟨he,fun _=>rfl⟩
 | _=>simp [elemsS] at he
theorem elems_cases {x:AV} {S:Nat} {es:List (List PV)} (he:elems x=some (S,es)):elemsS x=some (S,es)∨x=.p (.slu S es):=by
 cases x with
 | p x=>cases x with
  | sl S' es'=>exact .inl he
  | slu S' es'=>simp only [elems,sie,zPJ] at he; obtain ⟨rfl,rfl⟩:=he; exact .inr rfl
  | _=>simp [elems] at he
 | tsl S' es' t=>exact .inl he
 | _=>simp [elems] at he
theorem elems_len {M:Mset} {x:AV} {v:Value} {S:Nat} {es:List (List PV)} (he:elems x=some (S,es)) (hr:RepA φ h w M x v):∃ q cap,v=.slice q es.length cap:=by
 rcases elems_cases he with h1 | rfl
 ·have h2:=elemsS_rep h1 hr
  simp only [RepP] at h2
  rcases h2 with ⟨rr,oo,cap,hv,_⟩ | ⟨rfl,q,cap,hv⟩
  ·exact ⟨_,cap,hv⟩
  ·exact ⟨q,cap,hv⟩
 ·simp only [RepA,RepP] at hr
  rcases hr with ⟨rr,oo,cap,hv,_⟩ | ⟨rfl,q,cap,hv⟩
  ·exact ⟨_,cap,hv⟩
  ·exact ⟨q,cap,hv⟩
theorem elems_ix {M:Mset} {x:AV} {v:Value} {S:Nat} {es:List (List PV)} {i:Nat} {c:List PV} (he:elems x=some (S,es)) (hr:RepA φ h w M x v) (hi:es[i]?=some c):∃ r o cap,v=.slice (some ⟨r,o,none⟩) es.length cap∧RepCs w M r (o+i * S) (uV x c):=by
 rcases elems_cases he with h1 | rfl
 ·have h2:=elemsS_rep h1 hr
  simp only [RepP] at h2
  rcases h2 with ⟨rr,oo,cap,hv,_,hes,_⟩ | ⟨rfl,_⟩
  ·obtain ⟨_,hcs⟩:=repEs_get hes hi
   rw [(elemsS_uV h1).2]
   exact ⟨rr,oo,cap,hv,hcs⟩
  ·simp at hi
 ·simp only [RepA,RepP] at hr
  rcases hr with ⟨rr,oo,cap,hv,_,hes⟩ | ⟨rfl,_⟩
  ·obtain ⟨_,hcs⟩:=repWEs_get hes hi
   exact ⟨rr,oo,cap,hv,repWCs_u hcs⟩
  ·simp at hi
def aIndexAddr (P:Program) (T:Nat→Option AV) (t:TypeId) (x ix:Operand):Option Res :=
 match evO T ix with
 | some (.p (.val (.int _ n))) =>
  match P.underlying t,evO T x with
  | some (.slice e),some v =>
   match elems v,P.info? e with
   | some (S,es),some i=>if i.size=S∧0≤n then (match es[n.toNat]? with | some c=>some (.eptr (uV v c),none,[]) | none=>none) else none
   | _,_=>none
  | some (.array len e),some (.ptr b off) =>
   match P.info? e with
   | some i=>if 0≤n∧n < len then some (.ptr b (off+n.toNat * i.size),none,[]) else none
   | none=>none
  | some (.array len e),some (.eptr cs) =>
   match P.info? e with
   | some i=>if 0≤n∧n < len∧n.toNat * i.size≤cs.length then some (.eptr (cs.drop (n.toNat * i.size)),none,[]) else none
   | none=>none
  | _,_=>none
 | _=>none
theorem indexAddr_ok (r:Rel φ M0 N D T h a w) {t:TypeId} {x ix:Operand} {u:Res} (ho:o.op=.indexAddr t x ix) (he:aIndexAddr P T t x ix=some u):u.2.1=none∧Yield P o φ M0 h a w u.1 h:=by
 unfold aIndexAddr at he
 split at he
 ·rename_i k n hix
  have hiv:=r.ev hix
  simp only [RepA,RepP] at hiv
  split at he
  ·rename_i e v ht hx
   split at he
   ·rename_i S es i hel hi
    split at he
    ·rename_i hc
     split at he
     ·rename_i c hc0
      simp only [sie] at he
      subst he
      have hlt:n.toNat < es.length:=(zLG.1 hc0).1
      obtain ⟨rr,oo,cap,hv,hcs⟩:=elems_ix hel (r.ev hx) hc0
      refine ⟨rfl,yield_still r (v:=.pointer (some ⟨rr,oo+n.toNat * i.size,none⟩)) ?_ ?_⟩
      ·have hin:0≤n∧n < (es.length:Int):=⟨hc.2,by omega⟩
       simp [execOp,ho,Instr.indexAt,hiv,asIntOf,run_underlying ht,hv,hin,run_sizeOf' hi,Addr.add_lit]
      ·simp only [RepA]; exact ⟨rr,_,rfl,by rw [hc.1]; exact hcs⟩
     ·cases he
    ·cases he
   ·cases he
  ·rename_i len e b off ht hx
   split at he
   ·rename_i i hi
    split at he
    ·rename_i hc
     simp only [sie] at he
     subst he
     have h2:=r.ev hx
     simp only [RepA] at h2
     refine ⟨rfl,yield_still r (v:=.pointer (some ⟨φ b,off+n.toNat * i.size,none⟩)) ?_ ?_⟩
     ·simp [execOp,ho,Instr.indexAt,hiv,asIntOf,run_underlying ht,h2.1,Instr.sureAddr,hc,run_sizeOf' hi,Addr.add_lit]
     ·simp only [RepA]; exact ⟨trivial,h2.2⟩
    ·cases he
   ·cases he
  ·rename_i len e cs ht hx
   split at he
   ·rename_i i hi
    split at he
    ·rename_i hc
     simp only [sie] at he
     subst he
     have h2:=r.ev hx
     simp only [RepA] at h2
     obtain ⟨rr,oo,h3,h4⟩:=h2
     refine ⟨rfl,yield_still r (v:=.pointer (some ⟨rr,oo+n.toNat * i.size,none⟩)) ?_ ?_⟩
     ·simp [execOp,ho,Instr.indexAt,hiv,asIntOf,run_underlying ht,h3,Instr.sureAddr,hc.1,hc.2.1,run_sizeOf' hi,Addr.add_lit]
     ·simp only [RepA]; exact ⟨rr,_,rfl,repCs_drop _ hc.2.2 h4⟩
    ·cases he
   ·cases he
  ·cases he
 ·cases he
def aPart (P:Program) (ty:TypeId) (cs:List AV) (off:Nat):Option AV :=
 match P.underlying ty,P.info? ty with
 | some d,some i=>if isAggD d then (if off+i.size≤cs.length then some (.agg ((cs.drop off).take i.size)) else none) else cs[off]?
 | _,_=>none
theorem part_ok {M:Mset} {ty:TypeId} {cs:List AV} {off:Nat} {x:AV} {l:List Value} (he:aPart P ty cs off=some x) (hr:RepAs φ h w M cs l) :
  ∃ v,(part ty l.toArray off).run P w=.ok v w∧RepA φ h w M x v:=by
 unfold aPart at he
 split at he
 ·rename_i d i hd hi
  split at he
  ·rename_i hag
   split at he
   ·rename_i hlen
    simp only [sie] at he
    subst he
    refine ⟨.agg ((l.drop off).take i.size).toArray,?_,?_⟩
    ·simp [part,run_isAgg hd,hag,run_sizeOf' hi]
    ·simp only [RepA]; exact ⟨_,rfl,repAs_take _ (repAs_drop _ hr)⟩
   ·cases he
  ·rename_i hag
   obtain ⟨v,hv,hrv⟩:=repAs_get hr he
   refine ⟨v,?_,hrv⟩
   simp [part,run_isAgg hd,hag,hv]
 ·cases he
def aField (P:Program) (T:Nat→Option AV) (t:TypeId) (x:Operand) (f:Nat):Option Res :=
 match P.underlying t,evO T x with
 | some (.struct fields),some (.agg cs) =>
  match fields[f]? with
  | some fl=>match aPart P fl.type cs fl.offset with | some v=>some (v,none,[]) | none=>none
  | none=>none
 | _,_=>none
theorem field_ok (r:Rel φ M0 N D T h a w) {t:TypeId} {x:Operand} {f:Nat} {u:Res} (ho:o.op=.field t x f) (he:aField P T t x f=some u):u.2.1=none∧Yield P o φ M0 h a w u.1 h:=by
 unfold aField at he
 split at he
 ·rename_i fields cs ht hx
  split at he
  ·rename_i fl hf
   split at he
   ·rename_i v hv
    simp only [sie] at he
    subst he
    have h2:=r.ev hx
    simp only [RepA] at h2
    obtain ⟨l,h3,h4⟩:=h2
    obtain ⟨y,h5,h6⟩:=part_ok hv h4
    refine ⟨rfl,yield_still r (v:=y) ?_ h6⟩
    simp [execOp,ho,Instr.field,run_underlying ht,hf,h3,asAgg,h5]
   ·cases he
  ·cases he
 ·cases he
def aIndex (P:Program) (T:Nat→Option AV) (t:TypeId) (x ix:Operand):Option Res :=
 match P.underlying t,evO T x,evO T ix with
 | some (.array len e),some (.agg cs),some (.p (.val (.int _ n))) =>
  match P.info? e with
  | some i=>if 0≤n∧n < len then (match aPart P e cs (n.toNat * i.size) with | some v=>some (v,none,[]) | none=>none) else none
  | none=>none
 | _,_,_=>none
theorem index_ok (r:Rel φ M0 N D T h a w) {t:TypeId} {x ix:Operand} {u:Res} (ho:o.op=.index t x ix) (he:aIndex P T t x ix=some u):u.2.1=none∧Yield P o φ M0 h a w u.1 h:=by
 unfold aIndex at he
 split at he
 ·rename_i len e cs k n ht hx hix
  split at he
  ·rename_i i hi
   split at he
   ·rename_i hc
    split at he
    ·rename_i v hv
     simp only [sie] at he
     subst he
     have h2:=r.ev hx
     simp only [RepA] at h2
     obtain ⟨l,h3,h4⟩:=h2
     have hiv:=r.ev hix
     simp only [RepA,RepP] at hiv
     obtain ⟨y,h5,h6⟩:=part_ok hv h4
     refine ⟨rfl,yield_still r (v:=y) ?_ h6⟩
     simp [execOp,ho,Instr.index,hiv,asIntOf,run_underlying ht,h3,hc,run_sizeOf' hi,h5]
    ·cases he
   ·cases he
  ·cases he
 ·cases he
def aExtract (T:Nat→Option AV) (x:Operand) (i:Nat):Option Res :=
 match evO T x with
 | some (.tup vs)=>match vs[i]? with | some v=>some (v,none,[]) | none=>none
 | _=>none
theorem extract_ok (r:Rel φ M0 N D T h a w) {x:Operand} {i:Nat} {u:Res} (ho:o.op=.extract x i) (he:aExtract T x i=some u):u.2.1=none∧Yield P o φ M0 h a w u.1 h:=by
 unfold aExtract at he
 split at he
 ·rename_i vs hx
  split at he
  ·rename_i v hv
   simp only [sie] at he
   subst he
   have h2:=r.ev hx
   simp only [RepA] at h2
   obtain ⟨l,h3,h4⟩:=h2
   obtain ⟨y,h5,h6⟩:=repAs_get h4 hv
   refine ⟨rfl,yield_still r (v:=y) ?_ h6⟩
   simp [execOp,ho,Instr.extract,h3,h5]
  ·cases he
 ·cases he
def evOs (T:Nat→Option AV):List Operand→Option (List AV)
 | []=>some []
 | x :: xs=>match evO T x,evOs T xs with | some v,some vs=>some (v :: vs) | _,_=>none
theorem evOs_rep (r:Rel φ M0 N D T h a w):∀ {xs:List Operand} {vs:List AV},evOs T xs=some vs→RepAs φ h w (MM φ h M0) vs (xs.map a.eval)
 | [],vs,he=>by simp only [evOs,sie] at he; subst he; simp [RepAs]
 | x :: xs,vs,he=>by
  simp only [evOs] at he
  split at he
  ·rename_i v vs' h1 h2
   simp only [sie] at he
   subst he
   simp only [zMC,RepAs]
   exact ⟨_,_,rfl,r.ev h1,evOs_rep r h2⟩
  ·cases he
def aMakeFunc (T:Nat→Option AV) (f:Fn) (first captured:Array Operand):Option Res :=
 match evOs T first.toList,evOs T captured.toList with
 | some l,some m=>some (.fn f l m,none,[])
 | _,_=>none
theorem makeFunc_ok (r:Rel φ M0 N D T h a w) {f:Fn} {first captured:Array Operand} {u:Res} (ho:o.op=.makeFunc f first captured) (he:aMakeFunc T f first captured=some u):u.2.1=none∧Yield P o φ M0 h a w u.1 h:=by
 unfold aMakeFunc at he
 split at he
 ·rename_i l m hl hm
  simp only [sie] at he
  subst he
  refine ⟨rfl,yield_still r (v:=.func f (first.map a.eval) (captured.map a.eval)) ?_ ?_⟩
  ·simp [execOp,ho,Instr.makeFunc]
  ·simp only [RepA]
   refine ⟨first.toList.map a.eval,captured.toList.map a.eval,?_,evOs_rep r hl,evOs_rep r hm⟩
   have e1:∀ z:Array Operand,z.map a.eval=(z.toList.map a.eval).toArray:=fun z=>by apply Array.ext'; simp
   rw [e1 first,e1 captured]
 ·cases he
def aMakeInterface (P:Program) (T:Nat→Option AV) (t:TypeId) (x:Operand):Option Res :=
 match P.underlying t,evO T x with
 | some (.interface _),_=>none
 | some _,some v=>some (.ifc t v,none,[])
 | _,_=>none
theorem makeInterface_ok (r:Rel φ M0 N D T h a w) {t:TypeId} {x:Operand} {u:Res} (ho:o.op=.makeInterface t x) (he:aMakeInterface P T t x=some u):u.2.1=none∧Yield P o φ M0 h a w u.1 h:=by
 unfold aMakeInterface at he
 split at he
 ·cases he
 ·rename_i d v hne ht hx
  simp only [sie] at he
  subst he
  refine ⟨rfl,yield_still r (v:=.iface t (a.eval x)) ?_ ?_⟩
  ·have hd:∀ ms,d ≠ .interface ms:=fun ms e=>hne ms e
   cases d <;> first | (exact absurd rfl (hd _)) | simp [execOp,ho,Instr.makeInterface,run_underlying ht]
  ·simp only [RepA]; exact ⟨_,rfl,r.ev hx⟩
 ·cases he
def aTypeAssert (P:Program) (T:Nat→Option AV) (x:Operand) (asserted:TypeId) (ok:Bool):Option Res :=
 match P.underlying asserted,evO T x with
 | some (.interface _),_=>none
 | some _,some (.ifc t v) =>
  if t=asserted then some (if ok then .tup [v, .p (.val (.bool true))] else v,none,[])
  else if ok then (match (P.info? asserted).bind (·.zero) with | some z=>some (.tup [ofV z, .p (.val (.bool false))],none,[]) | none=>none)
  else none
 | _,_=>none
theorem typeAssert_ok (r:Rel φ M0 N D T h a w) {x:Operand} {xt asserted:TypeId} {ok:Bool} {u:Res} (ho:o.op=.typeAssert x xt asserted ok) (he:aTypeAssert P T x asserted ok=some u):u.2.1=none∧Yield P o φ M0 h a w u.1 h:=by
 unfold aTypeAssert at he
 split at he
 ·cases he
 ·rename_i d t v hne ht hx
  have hd:∀ ms,d ≠ .interface ms:=fun ms e=>hne ms e
  have h2:=r.ev hx
  simp only [RepA] at h2
  obtain ⟨y,h3,h4⟩:=h2
  split at he
  ·rename_i heq
   simp only [sie] at he
   subst he
   cases ok
   ·refine ⟨rfl,yield_still r (v:=y) ?_ h4⟩
    cases d <;> first | (exact absurd rfl (hd _)) | simp [execOp,ho,Instr.typeAssert,run_underlying ht,h3,heq]
   ·refine ⟨rfl,yield_still r (v:=.tuple #[y, .bool true]) ?_ ?_⟩
    ·cases d <;> first | (exact absurd rfl (hd _)) | simp [execOp,ho,Instr.typeAssert,run_underlying ht,h3,heq]
    ·simp only [RepA,if_true]
     exact ⟨[y, .bool true],rfl,by simp [RepAs,h4,RepA,RepP]⟩
  ·rename_i hneq
   split at he
   ·rename_i hok
    split at he
    ·rename_i z hz
     simp only [sie] at he
     subst he
     simp only [zBS] at hz
     obtain ⟨i,hi,hz⟩:=hz
     refine ⟨rfl,yield_still r (v:=.tuple #[z, .bool false]) ?_ ?_⟩
     ·cases d <;> first | (exact absurd rfl (hd _)) | simp [execOp,ho,Instr.typeAssert,run_underlying ht,h3,hneq,hok,zeroValue,typeInfo,hi,hz]
     ·simp only [RepA]
      exact ⟨[z, .bool false],rfl,by simp [RepAs,rep_ofV,RepA,RepP]⟩
    ·cases he
   ·cases he
 ·cases he
def aNilCheck (T:Nat→Option AV) (x:Operand):Option Res :=
 match evO T x with
 | some (.ptr b off)=>some (.ptr b off,none,[])
 | some (.eptr cs)=>some (.eptr cs,none,[])
 | some (.fn (.func f) l m)=>some (.fn (.func f) l m,none,[])
 | _=>none
theorem nilCheck_ok (r:Rel φ M0 N D T h a w) {x:Operand} {u:Res} (ho:o.op=.nilCheck x) (he:aNilCheck T x=some u):u.2.1=none∧Yield P o φ M0 h a w u.1 h:=by
 unfold aNilCheck at he
 split at he
 ·rename_i b off hx
  simp only [sie] at he
  subst he
  have h2:=r.ev hx
  refine ⟨rfl,yield_still r (v:=a.eval x) ?_ h2⟩
  simp only [RepA] at h2
  simp [execOp,ho,h2.1]
 ·rename_i cs hx
  simp only [sie] at he
  subst he
  have h2:=r.ev hx
  refine ⟨rfl,yield_still r (v:=a.eval x) ?_ h2⟩
  simp only [RepA] at h2
  obtain ⟨rr,oo,h3,_⟩:=h2
  simp [execOp,ho,h3]
 ·rename_i f l m hx
  simp only [sie] at he
  subst he
  have h2:=r.ev hx
  refine ⟨rfl,yield_still r (v:=a.eval x) ?_ h2⟩
  simp only [RepA] at h2
  obtain ⟨l',m',h3,_⟩:=h2
  simp [execOp,ho,h3]
 ·cases he
def aLen (P:Program) (T:Nat→Option AV) (t:TypeId) (x:Operand):Option Res :=
 match P.underlying t,evO T x with
 | some (.slice _),some v=>match elems v with | some (_,es)=>some (.p (.val (.int .i64 es.length)),none,[]) | none=>none
 | _,_=>none
theorem len_ok (r:Rel φ M0 N D T h a w) {t:TypeId} {x:Operand} {u:Res} (ho:o.op=.call ⟨.builtin .len,#[x],#[t]⟩) (he:aLen P T t x=some u):u.2.1=none∧Yield P o φ M0 h a w u.1 h:=by
 unfold aLen at he
 split at he
 ·rename_i e v ht hx
  split at he
  ·rename_i S es hel
   simp only [sie] at he
   subst he
   obtain ⟨q,cap,hv⟩:=elems_len hel (r.ev hx)
   refine ⟨rfl,yield_still r (v:=.int .i64 es.length) ?_ (by simp [RepA,RepP])⟩
   simp [execOp,ho,resolve,invoke,builtin,Builtin.len_,run_underlying ht,hv,goInt]
  ·cases he
 ·cases he
end
section
variable {P:Program} {o:Oper} {φ:Nat→Nat} {M0:Mset} {N:Nat} {D:DB} {T:Nat→Option AV} {h:Heap} {a:Act} {w:World}
def fillA (place:Nat→Option (Nat × Nat)) (cells:List AV):List (Nat × AV)→Option (List AV)
 | []=>some cells
 | (i,v) :: rest =>
  match place i,cellsOf v with
  | some (off,size),some vs=>if vs.length=size∧off+size≤cells.length then fillA place (cells.take off++vs++cells.drop (off+size)) rest else none
  | _,_=>none
theorem foldl_splice:∀ (vs:List Value) (k off:Nat) (cs:Array Value),off+k+vs.length≤cs.size →
  ((vs.zipIdx k).foldl (fun (cs:Array Value) (p:Value × Nat)=>cs.setIfInBounds (off+p.2) p.1) cs).toList=cs.toList.take (off+k)++vs++cs.toList.drop (off+k+vs.length)
 | [],k,off,cs,_=>by simp
 | v :: vs,k,off,cs,hl=>by
  simp only [List.zipIdx_cons,List.foldl_cons]
  rw [foldl_splice vs (k+1) off _ (by simp at hl ⊢; omega)]
  have e:=list_seg_step cs.toList (off+k) v vs (by simp at hl ⊢; omega)
  simp only [Array.toList_setIfInBounds,zLC]
  rw [show off+(k+1)=off+k+1 from by omega]
  simpa using e
theorem fill_ok {M:Mset} {placeC placeA:Nat→Option (Nat × Nat)} (hp:∀ i x,placeA i=some x→placeC i=some x) :
  ∀ (ps:List (Nat × AV)) (qs:List (Nat × Value)) (cs:List AV) (c:Array Value) (rs:List AV),(ps.map (·.1)=qs.map (·.1))→RepAs φ h w M (ps.map (·.2)) (qs.map (·.2)) →
   RepAs φ h w M cs c.toList→fillA placeA cs ps=some rs→∃ c',Instr.fill placeC c qs=some c'∧RepAs φ h w M rs c'.toList
 | [],qs,cs,c,rs,h1,_,h3,he=>by
  have:qs=[]:=by simpa using h1.symm
  subst this
  simp only [fillA,sie] at he
  subst he
  exact ⟨c,rfl,h3⟩
 | (i,v) :: ps,[],cs,c,rs,h1,_,_,_=>by simp at h1
 | (i,v) :: ps,(j,y) :: qs,cs,c,rs,h1,h2,h3,he=>by
  simp only [zMC,List.cons.injEq] at h1
  obtain ⟨rfl,h1⟩:=h1
  simp only [zMC,RepAs] at h2
  obtain ⟨y',ys',h4,h5,h6⟩:=h2
  simp only [List.cons.injEq] at h4
  obtain ⟨rfl,rfl⟩:=h4
  simp only [fillA] at he
  split at he
  ·rename_i off size vs hpl hvs
   split at he
   ·rename_i hc
    obtain ⟨h7,_,_⟩:=cellsOf_rep hvs h5
    have hl1:=repAs_length h7
    have hl2:=repAs_length h3
    simp only [Array.length_toList] at hl1 hl2
    have hsp:=foldl_splice y.cells.toList 0 off c (by simp; omega)
    simp only [Nat.add_zero] at hsp
    have hrep:RepAs φ h w M (cs.take off++vs++cs.drop (off+size)) ((y.cells.toList.zipIdx 0).foldl (fun (cs:Array Value) (p:Value × Nat)=>cs.setIfInBounds (off+p.2) p.1) c).toList:=by
     rw [hsp]
     have hs:size=y.cells.toList.length:=by simp; omega
     rw [hs]
     exact repAs_append (repAs_append (repAs_take _ h3) h7) (repAs_drop _ h3)
    obtain ⟨c',h8,h9⟩:=fill_ok hp ps qs _ _ rs h1 h6 hrep he
    refine ⟨c',?_,h9⟩
    have e1:(y.cells.zipIdx.foldl (fun (cs:Array Value) (p:Value × Nat)=>cs.setIfInBounds (off+p.2) p.1) c)=((y.cells.toList.zipIdx 0).foldl (fun (cs:Array Value) (p:Value × Nat)=>cs.setIfInBounds (off+p.2) p.1) c):=by
     rw [← Array.foldl_toList]
     simp
    simp only [Instr.fill,hp _ _ hpl]
    have c1:¬ (y.cells.size ≠ size):=by omega
    have c2:¬ (off+y.cells.size > c.size):=by omega
    simp only [c1,c2,decide_false,Bool.or_self,Bool.false_eq_true,if_false]
    rw [← h8,← e1]
   ·cases he
  ·cases he
def evPs (T:Nat→Option AV):List (Nat × Operand)→Option (List (Nat × AV))
 | []=>some []
 | (i,x) :: xs=>match evO T x,evPs T xs with | some v,some vs=>some ((i,v) :: vs) | _,_=>none
theorem evPs_rep (r:Rel φ M0 N D T h a w):∀ {xs:List (Nat × Operand)} {vs:List (Nat × AV)},evPs T xs=some vs →
  vs.map (·.1)=(xs.map fun (i,x)=>(i,a.eval x)).map (·.1)∧RepAs φ h w (MM φ h M0) (vs.map (·.2)) ((xs.map fun (i,x)=>(i,a.eval x)).map (·.2))
 | [],vs,he=>by simp only [evPs,sie] at he; subst he; simp [RepAs]
 | (i,x) :: xs,vs,he=>by
  simp only [evPs] at he
  split at he
  ·rename_i v vs' h1 h2
   simp only [sie] at he
   subst he
   obtain ⟨h3,h4⟩:=evPs_rep r h2
   refine ⟨by simp only [zMC,h3],?_⟩
   simp only [zMC,RepAs]
   exact ⟨_,_,rfl,r.ev h1,h4⟩
  ·cases he
def placeS (P:Program) (fields:Array Field) (i:Nat):Option (Nat × Nat) :=
 match fields[i]? with
 | some f=>match P.info? f.type with | some t=>some (f.offset,t.size) | none=>none
 | none=>none
theorem run_mapM {α β:Type} (f:α→Sem β) (g:α→β):∀ (l:List α),(∀ x ∈ l,(f x).run P w=.ok (g x) w)→(l.mapM f).run P w=.ok (l.map g) w
 | [],_=>by simp
 | x :: l,hh=>by
  simp only [List.mapM_cons,Sem.run_bind,hh x zq,Result.andThen_ok,run_mapM f g l (fun y hy=>hh y (by simp [hy])),Sem.run_pure,zMC]
def aBuild (P:Program) (T:Nat→Option AV) (t:TypeId) (parts:Array (Nat × Operand)):Option Res :=
 match P.info? t with
 | some i =>
  match i.zero,P.underlying t,evPs T parts.toList with
  | some z,some (.struct fields),some ps =>
   if fields.toList.all (fun f=>(P.info? f.type).isSome) then
    match cellsOf (ofV z) with
    | some cs=>match fillA (placeS P fields) cs ps with | some rs=>some (.agg rs,none,[]) | none=>none
    | none=>none
   else none
  | some z,some (.array _ e),some ps =>
   match P.info? e,cellsOf (ofV z) with
   | some j,some cs=>match fillA (fun i=>some (i * j.size,j.size)) cs ps with | some rs=>some (.agg rs,none,[]) | none=>none
   | _,_=>none
  | _,_,_=>none
 | none=>none
theorem build_ok (r:Rel φ M0 N D T h a w) {t:TypeId} {parts:Array (Nat × Operand)} {u:Res} (ho:o.op=.build t parts) (he:aBuild P T t parts=some u):u.2.1=none∧Yield P o φ M0 h a w u.1 h:=by
 unfold aBuild at he
 split at he
 ·rename_i i hi
  split at he
  ·rename_i z fields ps hz ht hps
   split at he
   ·rename_i hall
    split at he
    ·rename_i cs hcs
     split at he
     ·rename_i rs hrs
      simp only [sie] at he
      subst he
      obtain ⟨h1,h2⟩:=evPs_rep r hps
      obtain ⟨h3,_,_⟩:=cellsOf_rep hcs (rep_ofV (φ:=φ) (h:=h) (w:=w) (M:=MM φ h M0) z)
      let g:Field→Nat × Nat:=fun f=>(f.offset,((P.info? f.type).map (·.size)).getD 0)
      have hpl:∀ i x,placeS P fields i=some x→(fun k=>((fields.toList.map g).toArray)[k]?) i=some x:=by
       intro k x hk
       unfold placeS at hk
       split at hk
       ·rename_i f hf
        split at hk
        ·rename_i ti hti
         simp only [sie] at hk
         subst hk
         have:fields.toList[k]?=some f:=by simpa using hf
         simp [g,this,hti]
        ·cases hk
       ·cases hk
      obtain ⟨c',h4,h5⟩:=fill_ok hpl ps _ cs z.cells rs h1 h2 h3 hrs
      refine ⟨rfl,yield_still r (v:=.agg c') ?_ ?_⟩
      ·have hm:(fields.mapM fun (f:Field)=>(do pure (f.offset,← sizeOf f.type):Sem (Nat × Nat))).run P w=.ok (fields.toList.map g).toArray w:=by
        rw [Array.mapM_eq_mapM_toList]
        simp only [Sem.run_map]
        rw [run_mapM _ g fields.toList (fun f hf=>by
         have hs:=zAT.1 hall f hf
         obtain ⟨ti,hti⟩:=zIE.1 hs
         simp [run_sizeOf' hti,g,hti])]
        rfl
       have hq:(parts.map fun (x:Nat × Operand)=>(x.1,a.eval x.2)).toList=parts.toList.map fun (x:Nat × Operand)=>(x.1,a.eval x.2):=by simp
       simp only [execOp,ho,Instr.build,Sem.run_bind,zeroValue,typeInfo,program,Sem.run,hi,hz,Result.andThen_ok,Sem.run_pure,run_underlying ht,hm]
       simp only [hq,h4,Sem.run_pure,Result.andThen_ok]
      ·simp only [RepA]; exact ⟨c'.toList,by simp,h5⟩
     ·cases he
    ·cases he
   ·cases he
  ·rename_i z n e ps hz ht hps
   split at he
   ·rename_i j cs hj hcs
    split at he
    ·rename_i rs hrs
     simp only [sie] at he
     subst he
     obtain ⟨h1,h2⟩:=evPs_rep r hps
     obtain ⟨h3,_,_⟩:=cellsOf_rep hcs (rep_ofV (φ:=φ) (h:=h) (w:=w) (M:=MM φ h M0) z)
     obtain ⟨c',h4,h5⟩:=fill_ok (fun i x hx=>hx) ps _ cs z.cells rs h1 h2 h3 hrs
     refine ⟨rfl,yield_still r (v:=.agg c') ?_ ?_⟩
     ·have hq:(parts.map fun (x:Nat × Operand)=>(x.1,a.eval x.2)).toList=parts.toList.map fun (x:Nat × Operand)=>(x.1,a.eval x.2):=by simp
      simp only [execOp,ho,Instr.build,Sem.run_bind,zeroValue,typeInfo,program,Sem.run,hi,hz,Result.andThen_ok,Sem.run_pure,run_underlying ht,run_sizeOf' hj]
      simp only [hq,h4,Sem.run_pure,Result.andThen_ok]
     ·simp only [RepA]; exact ⟨c'.toList,by simp,h5⟩
    ·cases he
   ·cases he
  ·cases he
 ·cases he
def known (T:Nat→Option AV) (x:Operand):Option Value:=match evO T x with | some v=>toV v | none=>none
def allKnown (T:Nat→Option AV):List Operand→Bool
 | []=>true
 | x :: xs=>(known T x).isSome&&allKnown T xs
theorem known_rep (r:Rel φ M0 N D T h a w) {x:Operand} {v:Value} (hk:known T x=some v):a.eval x=v:=by
 unfold known at hk
 split at hk
 ·rename_i y hy; exact toV_rep.1 _ _ _ (r.ev hy) hk
 ·cases hk
theorem allKnown_mem:∀ {l:List Operand} {x:Operand},allKnown T l=true→x ∈ l→(known T x).isSome=true
 | y :: l,x,hk,hx=>by
  simp only [allKnown,bae] at hk
  rcases List.mem_cons.1 hx with rfl | hx
  ·exact hk.1
  ·exact allKnown_mem hk.2 hx
def notSelect:Op→Bool | .select ..=>false | _=>true
def aPure (P:Program) (T:Nat→Option AV) (o:Oper):Option Res :=
 if allKnown T o.op.operands.toList&&notSelect o.op then
  match pureRun P (execOp (fun x=>(known T x).getD undef) o) with
  | some (.value v)=>some (ofV v,none,[])
  | _=>none
 else none
theorem pure_ok (r:Rel φ M0 N D T h a w) {u:Res} (he:aPure P T o=some u):u.2.1=none∧Yield P o φ M0 h a w u.1 h:=by
 unfold aPure at he
 split at he
 ·rename_i hk
  simp only [bae] at hk
  split at he
  ·rename_i v hv
   simp only [sie] at he
   subst he
   refine ⟨rfl,yield_still r (v:=v) ?_ (rep_ofV v)⟩
   have hcongr:execOp a.eval o=execOp (fun x=>(known T x).getD undef) o:=by
    refine execOp_congr o (fun cs b e=>by rw [e] at hk; simp [notSelect] at hk) fun x hx=>?_
    have hs:=allKnown_mem hk.1 (x:=x) (by simpa using hx)
    obtain ⟨y,hy⟩:=zIE.1 hs
    rw [hy,known_rep r hy]
    rfl
   rw [hcongr]
   exact pureRun_sound hv w
  ·cases he
 ·cases he
def bAnd (k:IntKind) (x y:Int):Int:=k.wrap (BitVec.ofInt k.bits x &&& BitVec.ofInt k.bits y).toNat
def bOr (k:IntKind) (x y:Int):Int:=k.wrap (BitVec.ofInt k.bits x ||| BitVec.ofInt k.bits y).toNat
def bXor (k:IntKind) (x y:Int):Int:=k.wrap (BitVec.ofInt k.bits x ^^^ BitVec.ofInt k.bits y).toNat
def bAndNot (k:IntKind) (x y:Int):Int:=k.wrap (BitVec.ofInt k.bits x &&& ~~~ BitVec.ofInt k.bits y).toNat
def shlI (k:IntKind) (x y:Int):Int:=k.wrap (x * 2 ^ (min y.toNat k.bits))
def shrI (k:IntKind) (x y:Int):Int:=x.fdiv (2 ^ (min y.toNat k.bits))
def ltI (x y:Int):Bool:=decide (x < y)
def leI (x y:Int):Bool:=decide (x≤y)
def eqI (x y:Int):Bool:=x == y
def eqS (x y:List UInt8):Bool:=x == y
def opq (b:Bool):Bool:=b
theorem ltI_f {x y:Int} (h:¬ x < y):ltI x y=false:=by simp only [ltI,decide_eq_false_iff_not]; exact h
def intRes (op:BinOp) (k:IntKind) (x y:Int):Option Value :=
 match op with
 | .add=>some (.int k (k.wrap (x+y)))
 | .sub=>some (.int k (k.wrap (x - y)))
 | .mul=>some (.int k (k.wrap (x * y)))
 | .quo=>if y=0 then none else some (.int k (k.wrap (x.tdiv y)))
 | .rem=>if y=0 then none else some (.int k (x.tmod y))
 | .and=>some (.int k (bAnd k x y))
 | .or=>some (.int k (bOr k x y))
 | .xor=>some (.int k (bXor k x y))
 | .andNot=>some (.int k (bAndNot k x y))
 | .eql=>some (.bool (eqI x y))
 | .neq=>some (.bool (!eqI x y))
 | .lss=>some (.bool (ltI x y))
 | .leq=>some (.bool (leI x y))
 | .gtr=>some (.bool (ltI y x))
 | .geq=>some (.bool (leI y x))
 | _=>none
def shiftRes (op:BinOp) (k:IntKind) (x y:Int):Option Value :=
 if y < 0 then none else
 match op with
 | .shl=>some (.int k (shlI k x y))
 | .shr=>some (.int k (shrI k x y))
 | _=>none
def byt (s:ByteArray):List UInt8:=s.data.toList
def mkS (l:List UInt8):ByteArray:=⟨l.toArray⟩
theorem byt_mkS (l:List UInt8):byt (mkS l)=l:=by simp [byt,mkS]
theorem mkS_byt (s:ByteArray):mkS (byt s)=s:=by simp [byt,mkS]
theorem toList_byt (s:ByteArray):s.toList=byt s:=by rw [ByteArray.toList_eq]; rfl
theorem append_mkS (x y:ByteArray):x++y=mkS (byt x++byt y):=by
 apply ByteArray.ext
 simp [mkS,byt,ByteArray.data_append]
def strRes (op:BinOp) (x y:ByteArray):Option Value :=
 match op with
 | .add=>if (byt x).length+(byt y).length≤9223372036854775807 then some (.string (mkS (byt x++byt y))) else none
 | .eql=>some (.bool (eqS (byt x) (byt y)))
 | .neq=>some (.bool (!eqS (byt x) (byt y)))
 | .lss=>some (.bool (Op.bytesLess (byt x) (byt y)))
 | .leq=>some (.bool (Op.bytesLess (byt x) (byt y)||byt x == byt y))
 | .gtr=>some (.bool (!(Op.bytesLess (byt x) (byt y)||byt x == byt y)))
 | .geq=>some (.bool (!Op.bytesLess (byt x) (byt y)))
 | _=>none
def isShift:BinOp→Bool | .shl | .shr=>true | _=>false
def aBin (T:Nat→Option AV) (op:BinOp) (x y:Operand):Option Res :=
 match evO T x,evO T y with
 | some (.p (.val (.int k a))),some (.p (.val (.int k' b))) =>
  if isShift op then (match shiftRes op k a b with | some v=>some (.p (.val v),none,[]) | none=>none)
  else if k=k' then (match intRes op k a b with | some v=>some (.p (.val v),none,[]) | none=>none) else none
 | some (.p (.val (.string a))),some (.p (.val (.string b)))=>match strRes op a b with | some v=>some (.p (.val v),none,[]) | none=>none
 | _,_=>none
theorem bin_ok (r:Rel φ M0 N D T h a w) {op:BinOp} {tx ty:TypeId} {x y:Operand} {u:Res} (ho:o.op=.binOp op tx x y ty) (he:aBin T op x y=some u):u.2.1=none∧Yield P o φ M0 h a w u.1 h:=by
 unfold aBin at he
 split at he
 ·rename_i k n k' m hx hy
  have h1:=r.ev hx
  have h2:=r.ev hy
  simp only [RepA,RepP] at h1 h2
  split at he
  ·rename_i hs
   split at he
   ·rename_i v hv
    simp only [sie] at he
    subst he
    refine ⟨rfl,yield_still r (v:=v) ?_ (by simp [RepA,RepP])⟩
    unfold shiftRes at hv
    split at hv
    ·cases hv
    ·rename_i hneg
     cases op <;> simp [isShift] at hs <;> simp only [sie] at hv <;> subst hv <;> simp [execOp,ho,h1,h2,eqGuard,binOp,Op.shift,hneg,shlI,shrI]
   ·cases he
  ·rename_i hs
   split at he
   ·rename_i hk
    subst hk
    split at he
    ·rename_i v hv
     simp only [sie] at he
     subst he
     refine ⟨rfl,yield_still r (v:=v) ?_ (by simp [RepA,RepP])⟩
     cases op <;> first | (simp [isShift] at hs; done) | (simp only [intRes] at hv; first | (cases hv; done) | (simp only [sie] at hv; subst hv; simp [execOp,ho,h1,h2,eqGuard,binOp,Op.intArith,Op.intBits,Op.intCmp,bAnd,bOr,bXor,bAndNot,ltI,leI,eqI,bne]; done) | (by_cases hz:m=0 <;> simp only [hz,if_true,if_false] at hv <;> first | (cases hv; done) | (simp only [sie] at hv; subst hv; simp [execOp,ho,h1,h2,eqGuard,binOp,Op.intDiv,hz])))
    ·cases he
   ·cases he
 ·rename_i n m hx hy
  have h1:=r.ev hx
  have h2:=r.ev hy
  simp only [RepA,RepP] at h1 h2
  split at he
  ·rename_i v hv
   simp only [sie] at he
   subst he
   refine ⟨rfl,yield_still r (v:=v) ?_ (by simp [RepA,RepP])⟩
   cases op <;> simp only [strRes] at hv <;> first | (cases hv; done) | (simp only [sie] at hv; subst hv; simp [execOp,ho,h1,h2,eqGuard,binOp,Op.stringOp,toList_byt,eqS]; done) | skip
   split at hv
   ·rename_i hle
    simp only [sie] at hv
    subst hv
    have e1:n.size=(byt n).length:=rfl
    have e2:m.size=(byt m).length:=rfl
    have hng:¬ (((n.size+m.size:Nat):Int) > IntKind.i64.max):=by rw [e1,e2]; simp [IntKind.max,IntKind.signed,IntKind.bits]; omega
    simp only [execOp,ho,h1,h2,binOp,Op.stringOp,Sem.run_bind]
    rw [if_neg hng]
    simp [eqGuard,append_mkS]
   ·cases hv
  ·cases he
 ·cases he
def aUn (T:Nat→Option AV) (op:UnOp) (x:Operand):Option Res :=
 match evO T x with
 | some (.p (.val (.bool b)))=>match op with | .not=>some (.p (.val (.bool (!b))),none,[]) | _=>none
 | some (.p (.val (.int k n)))=>match op with | .neg=>some (.p (.val (.int k (k.wrap (0 - n)))),none,[]) | _=>none
 | _=>none
theorem un_ok (r:Rel φ M0 N D T h a w) {op:UnOp} {tx:TypeId} {x:Operand} {u:Res} (ho:o.op=.unOp op tx x) (he:aUn T op x=some u):u.2.1=none∧Yield P o φ M0 h a w u.1 h:=by
 unfold aUn at he
 split at he
 ·rename_i b hx
  have h1:=r.ev hx
  simp only [RepA,RepP] at h1
  split at he
  ·simp only [sie] at he
   subst he
   exact ⟨rfl,yield_still r (v:=.bool (!b)) (by simp [execOp,ho,h1,Op.unary]) (by simp [RepA,RepP])⟩
  ·cases he
 ·rename_i k n hx
  have h1:=r.ev hx
  simp only [RepA,RepP] at h1
  split at he
  ·simp only [sie] at he
   subst he
   exact ⟨rfl,yield_still r (v:=.int k (k.wrap (0 - n))) (by simp [execOp,ho,h1,Op.unary,Op.intArith]) (by simp [RepA,RepP])⟩
  ·cases he
 ·cases he
def aConv (P:Program) (T:Nat→Option AV) (dst:TypeId) (src:TypeId) (x:Operand):Option Res :=
 match P.underlying dst,P.underlying src,evO T x with
 | some (.int k),some _,some (.p (.val (.int _ n)))=>some (.p (.val (.int k (k.wrap n))),none,[])
 | _,_,_=>none
theorem conv_ok (r:Rel φ M0 N D T h a w) {src dst:TypeId} {x:Operand} {u:Res} (ho:o.op=.convert src dst x) (he:aConv P T dst src x=some u):u.2.1=none∧Yield P o φ M0 h a w u.1 h:=by
 unfold aConv at he
 split at he
 ·rename_i k d k' n hd hs hx
  have h1:=r.ev hx
  simp only [RepA,RepP] at h1
  simp only [sie] at he
  subst he
  refine ⟨rfl,yield_still r (v:=.int k (k.wrap n)) ?_ (by simp [RepA,RepP])⟩
  simp [execOp,ho,h1,convert,run_underlying hd,run_underlying hs,Conv.intToInt]
 ·cases he
end
section
variable {P:Program} {o:Oper} {φ:Nat→Nat} {M0:Mset} {N:Nat} {D:DB} {T:Nat→Option AV} {h:Heap} {a:Act} {w:World}
theorem repCs_vals {M:Mset} {r:Nat}:∀ (cs:List PV) (o:Nat),RepCs w M r o cs →
  ∃ l:List Value,l.length=cs.length∧(∀ j v,l[j]?=some v→w.cell? ⟨r,o+j,none⟩=some v)∧(∀ u ∈ l,u.oneCell'=true)∧(∀ (j:Nat) c v,cs[j]?=some c→l[j]?=some v→RepP w M c v)
 | [],o,_=>⟨[],rfl,by simp,by simp,by simp⟩
 | c :: cs,o,hr=>by
  simp only [RepCs] at hr
  obtain ⟨⟨v,h1,h2,h3,h4⟩,h5⟩:=hr
  obtain ⟨l,g1,g2,g3,g4⟩:=repCs_vals cs (o+1) h5
  refine ⟨v :: l,by simp [g1],?_,?_,?_⟩
  ·intro j u hj
   cases j with
   | zero=>simp at hj; subst hj; simpa using h1
   | succ j=>have:=g2 j u (by simpa using hj); rwa [show o+1+j=o+(j+1) from by omega] at this
  ·intro u hu
   rcases List.mem_cons.1 hu with rfl | hu
   ·exact h3
   ·exact g3 u hu
  ·intro j c' u hj hu
   cases j with
   | zero=>simp at hj hu; subst hj hu; exact h4
   | succ j=>exact g4 j c' u (by simpa using hj) (by simpa using hu)
theorem flatten_length {S:Nat}:∀ {es:List (List PV)},(∀ e ∈ es,e.length=S)→es.flatten.length=es.length * S
 | [],_=>by simp
 | e :: es,hh=>by
  simp only [List.flatten_cons,zLA,zLC,flatten_length (es:=es) (fun x hx=>hh x (List.mem_cons_of_mem _ hx)),hh e zq,Nat.add_mul]
  omega
theorem mk_repCs {M:Mset} {w':World} {r o:Nat} {cs:List PV} {l:List Value} (hl:l.length=cs.length) (hc:∀ j v,l[j]?=some v→w'.cell? ⟨r,o+j,none⟩=some v)
  (hm:∀ j,j < l.length→¬ M r (o+j)) (h1:∀ u ∈ l,u.oneCell'=true) (hr:∀ (j:Nat) c v,cs[j]?=some c→l[j]?=some v→RepP w' M c v):RepCs w' M r o cs:=by
 rw [repCs_iff]
 intro j c hj
 have hlt:j < l.length:=by rw [hl]; exact (zLG.1 hj).1
 have hv:l[j]?=some l[j]:=List.getElem?_eq_getElem hlt
 exact ⟨l[j],hc j _ hv,hm j hlt,h1 _ (List.getElem_mem hlt),hr j c _ hj hv⟩
theorem evol_arr_in {t:Nat} {ty:TypeId} {S n n':Nat} {c c':Array Value} (ht:h t=some (.arr ty S n)) (hw:w.heap[φ t]?=some (.cells c ty (0,0))) (hn:n≤n') (hsz:c'.size=c.size)
  (hpre:∀ x,x < n * S→c'[x]?=c[x]?) (r:RelH φ h w M0) :
  Evol φ h w φ (upd h t (.arr ty S n')) (w.setRow (φ t) c')∧HExt φ h w φ (upd h t (.arr ty S n')) (w.setRow (φ t) c'):=by
 have hother:∀ x,x ≠ φ t→(w.setRow (φ t) c').heap[x]?=w.heap[x]?:=fun x hx=>setRow_other w _ x c' hx
 have hself:(w.setRow (φ t) c').heap[φ t]?=some (.cells c' ty (0,0)):=setRow_heap w _ c c' ty _ hw
 have hb:∀ b ty cs,h b=some (.box ty cs)→t ≠ b:=fun b ty cs hb e=>by rw [← e,ht] at hb; cases hb
 have harr:∀ t2 ty2 S2 n2,h t2=some (.arr ty2 S2 n2)→∃ n3,upd h t (.arr ty S n') t2=some (.arr ty2 S2 n3)∧n2≤n3 ∧
   (n3=n2→AKept w (w.setRow (φ t) c') (φ t2) (φ t2) ty2):=by
  intro t2 ty2 S2 n2 h2
  by_cases e:t=t2
  ·subst e
   rw [ht] at h2
   cases h2
   refine ⟨n',by simp [upd],hn,fun _=>⟨fun h0=>(by rw [hw] at h0; cases h0), .inr ⟨rfl,fun c0 hc0=>⟨c',hself,?_⟩⟩⟩⟩
   rw [hw] at hc0
   cases hc0
   exact hsz
  ·have hne:φ t2 ≠ φ t:=fun e2=>e (r.inj t2 t (by rw [h2]; simp) (by rw [ht]; simp) e2).symm
   exact ⟨n2,by simp [upd,e,h2],zNR _,fun _=>akept (rfl) (by rw [hother _ hne])⟩
 have hvec:∀ t2 ty2 S2 es2,h t2=some (.vec ty2 S2 es2)→∃ es3,upd h t (.arr ty S n') t2=some (.vec ty2 S2 es3)∧es2.length≤es3.length ∧
   (es3.length=es2.length→φ t2=φ t2∧∀ c0,w.heap[φ t2]?=some (.cells c0 ty2 (0,0))→∃ c1,(w.setRow (φ t) c').heap[φ t2]?=some (.cells c1 ty2 (0,0))∧c1.size=c0.size):=by
  intro t2 ty2 S2 n2 h2
  have e:¬ t=t2:=fun e=>by rw [← e,ht] at h2; cases h2
  have hne:φ t2 ≠ φ t:=fun e2=>e (r.inj t2 t (by rw [h2]; simp) (by rw [ht]; simp) e2).symm
  exact ⟨n2,by simp [upd,e,h2],zNR _,fun _=>⟨rfl,fun c0 hc0=>⟨c0,by rw [hother _ hne]; exact hc0,rfl⟩⟩⟩
 have hob:∀ d k x,h d=some k→k.ob=some x→(∃ k',upd h t (.arr ty S n') d=some k'∧k'.ob=some x)∧φ d=φ d:=by
  intro d k x hd ho
  have e:¬ t=d:=fun e=>by rw [← e,ht] at hd; cases hd; cases ho
  exact ⟨⟨k,by simp [upd,e,hd],ho⟩,rfl⟩
 refine ⟨⟨rfl,rfl,rfl,by simp,fun x _ hu=>unm_or (unm_some hself) (fun e=>hu.eq (hother x e)),?_,?_,?_,?_,?_,fun t2 ty2 S2 es2 _ h2=>hvec t2 ty2 S2 es2 h2,fun d k x _=>hob d k x⟩,?_,harr,hvec,hob⟩
 ·intro x _ hno
  exact hother x (fun e=>hno t (by rw [ht]; simp) e.symm)
 ·intro x o _ hm
  by_cases e:x=φ t
  ·subst e
   have:o < n * S:=by
    rcases Nat.lt_or_ge o (n * S) with hlt | hge
    ·exact hlt
    ·exact absurd ⟨t,_,ht,rfl,hge⟩ hm
   rw [cell_block hself,cell_block hw]
   exact hpre o this
  ·simp [World.cell?,hother x e]
 ·rintro x y _ ⟨d,q,h1,h2,h3⟩
  by_cases e:t=d
  ·subst e
   have:q=.arr ty S n':=by simpa [upd] using h1.symm
   subst this
   have h4:n * S≤n' * S:=Nat.mul_le_mul_right _ hn
   exact ⟨t,_,ht,h2,Nat.le_trans h4 h3⟩
  ·exact ⟨d,q,by simpa [upd,e] using h1,h2,h3⟩
 ·intro d ty' ds _ hd
  exact ⟨⟨ds,by simp [upd,hb d _ _ hd,hd]⟩,rfl⟩
 ·intro t2 ty2 S2 n2 _ h2
  exact harr t2 ty2 S2 n2 h2
 ·intro d ty' ds hd
  exact ⟨⟨ty',ds,by simp [upd,hb d _ _ hd,hd]⟩,rfl⟩
theorem relH_arr {w':World} {φ':Nat→Nat} {t:Nat} {ty:TypeId} {S n n':Nat} {c':Array Value} {cap:Nat} (ht:h t=some (.arr ty S n)) (r:RelH φ h w M0)
  (E:Evol φ h w φ' (upd h t (.arr ty S n')) w') (X:HExt φ h w φ' (upd h t (.arr ty S n')) w')
  (hφ:∀ b,b ≠ t→φ' b=φ b) (hφt:φ' t=φ t∨φ' t=w.heap.size∧Clear φ h w 1) (hold:∀ d,h d ≠ none→d ≠ t→w'.heap[φ d]?=w.heap[φ d]?)
  (hw':w'.heap[φ' t]?=some (.cells c' ty (0,0))) (hsz:c'.size=cap * S) (hcap:n'≤cap) (hmax:cap≤maxLen):RelH φ' (upd h t (.arr ty S n')) w' M0:=by
 have g:∀ d,upd h t (.arr ty S n') d ≠ none→h d ≠ none:=fun d hd=>by
  by_cases e:t=d
  ·rw [← e,ht]; simp
  ·simpa [upd,e] using hd
 refine ⟨?_,?_,?_,fun x y hx=>Nat.lt_of_lt_of_le (r.lt x y hx) E.size,r.gm.evol E⟩
 ·intro d e hd he heq
  by_cases e1:d=t <;> by_cases e2:e=t
  ·rw [e1,e2]
  ·rw [e1,hφ e e2] at heq
   rcases hφt with h3 | ⟨h3,hC⟩
   ·rw [h3] at heq; rw [e1]; exact r.inj t e (by rw [ht]; simp) (g e he) heq
   ·rcases hC e (g e he) with h4 | h4 <;> omega
  ·rw [e2,hφ d e1] at heq
   rcases hφt with h3 | ⟨h3,hC⟩
   ·rw [h3] at heq; rw [e2]; exact r.inj d t (g d hd) (by rw [ht]; simp) heq
   ·rcases hC d (g d hd) with h4 | h4 <;> omega
  ·rw [hφ d e1,hφ e e2] at heq; exact r.inj d e (g d hd) (g e he) heq
 ·intro d q hd
  by_cases e:t=d
  ·subst e
   have:q=.arr ty S n':=by simpa [upd] using hd.symm
   subst this
   exact .inr ⟨c',cap,hw',hsz,hcap,hmax⟩
  ·have h1:h d=some q:=by simpa [upd,e] using hd
   rw [hφ d (fun e2=>e e2.symm)]
   exact relB_keep (E.keeps M0) X (hold d (by rw [h1]; simp) (fun e2=>e e2.symm)) (r.blk d q h1)
 ·intro d hd o hm
  by_cases e:d=t
  ·subst e
   rcases hφt with h3 | ⟨h3,_⟩
   ·rw [h3] at hm; exact r.fr d (g d hd) o hm
   ·rw [h3] at hm; exact absurd (r.lt _ _ hm) zo
  ·rw [hφ d e] at hm; exact r.fr d (g d hd) o hm
theorem evol_arr_new {w':World} {ob:Obj} {t:Nat} {ty:TypeId} {S n n':Nat} (ht:h t=some (.arr ty S n)) (hn:n < n') (hh:w'.heap=w.heap.push ob) (ho:w'.os=w.os) (hta:w'.tape=w.tape) (hu:w'.output=w.output) (r:RelH φ h w M0) (hC:Clear φ h w 1) :
  Evol φ h w (updF φ t w.heap.size) (upd h t (.arr ty S n')) w'∧HExt φ h w (updF φ t w.heap.size) (upd h t (.arr ty S n')) w':=by
 have hold:∀ x,x < w.heap.size→w'.heap[x]?=w.heap[x]?:=fun x hx=>by rw [hh,Array.getElem?_push,if_neg zo]
 have hb:∀ b ty cs,h b=some (.box ty cs)→¬ t=b:=fun b ty cs hb e=>by rw [← e,ht] at hb; cases hb
 have harr:∀ t2 ty2 S2 n2,h t2=some (.arr ty2 S2 n2)→∃ n3,upd h t (.arr ty S n') t2=some (.arr ty2 S2 n3)∧n2≤n3 ∧
   (n3=n2→AKept w w' (φ t2) (updF φ t w.heap.size t2) ty2):=by
  intro t2 ty2 S2 n2 h2
  by_cases e:t=t2
  ·subst e
   rw [ht] at h2
   cases h2
   exact ⟨n',by simp [upd],by omega,fun e=>absurd e zo⟩
  ·exact ⟨n2,by simp [upd,e,h2],zNR _,fun _=>akept (by simp [updF,e]) (by rw [hC.lt r (by rw [hh]; simp) hold (by rw [h2]; simp)])⟩
 have hvec:∀ t2 ty2 S2 es2,h t2=some (.vec ty2 S2 es2)→∃ es3,upd h t (.arr ty S n') t2=some (.vec ty2 S2 es3)∧es2.length≤es3.length ∧
   (es3.length=es2.length→updF φ t w.heap.size t2=φ t2∧∀ c0,w.heap[φ t2]?=some (.cells c0 ty2 (0,0))→∃ c1,w'.heap[φ t2]?=some (.cells c1 ty2 (0,0))∧c1.size=c0.size):=by
  intro t2 ty2 S2 n2 h2
  have e:¬ t=t2:=fun e=>by rw [← e,ht] at h2; cases h2
  exact ⟨n2,by simp [upd,e,h2],zNR _,fun _=>⟨by simp [updF,e],fun c0 hc0=>⟨c0,by rw [hC.lt r (by rw [hh]; simp) hold (by rw [h2]; simp)]; exact hc0,rfl⟩⟩⟩
 have hob:∀ d k x,h d=some k→k.ob=some x→(∃ k',upd h t (.arr ty S n') d=some k'∧k'.ob=some x)∧updF φ t w.heap.size d=φ d:=by
  intro d k x hd ho
  have e:¬ t=d:=fun e=>by rw [← e,ht] at hd; cases hd; cases ho
  exact ⟨⟨k,by simp [upd,e,hd],ho⟩,by simp [updF,e]⟩
 refine ⟨⟨ho,hta,hu,by rw [hh]; simp,fun x hx hm=>hm.eq (hold x hx),fun x hx _=>hold x hx,fun x o hx _=>by simp [World.cell?,hold x hx],?_,?_,?_,fun t2 ty2 S2 es2 _ h2=>hvec t2 ty2 S2 es2 h2,fun d k x _=>hob d k x⟩,?_,harr,hvec,hob⟩
 ·rintro x y hx ⟨d,q,h1,h2,h3⟩
  by_cases e:t=d
  ·simp only [updF,e,if_true] at h2; omega
  ·exact ⟨d,q,by simpa [upd,e] using h1,by simpa [updF,e] using h2,h3⟩
 ·intro d ty' ds _ hd
  have:=hb d _ _ hd
  exact ⟨⟨ds,by simp [upd,this,hd]⟩,by simp [updF,this]⟩
 ·intro t2 ty2 S2 n2 _ h2
  exact harr t2 ty2 S2 n2 h2
 ·intro d ty' ds hd
  have:=hb d _ _ hd
  exact ⟨⟨ty',ds,by simp [upd,this,hd]⟩,by simp [updF,this]⟩
def isNil:AV→Bool
 | .p (.val (.slice none 0 0))=>true
 | _=>false
def elemsN (S:Nat) (x:AV):Option (List (List PV)) :=
 if isNil x then some [] else match elemsS x with | some (S',es)=>if S'=S then some es else none | none=>none
theorem isNil_eq {x:AV} (hx:isNil x=true):x=.p (.val (.slice none 0 0)):=by
 unfold isNil at hx
 split at hx
 ·rfl
 ·cases hx
theorem elemsN_rep {M:Mset} {S:Nat} {x:AV} {v:Value} {es:List (List PV)} (he:elemsN S x=some es) (hr:RepA φ h w M x v):RepP w M (.sl S es) v:=by
 unfold elemsN at he
 split at he
 ·rename_i hn
  simp only [sie] at he
  subst he
  rw [isNil_eq hn] at hr
  simp only [RepA,RepP] at hr
  simp only [RepP]
  exact .inr ⟨trivial,none,0,hr⟩
 ·split at he
  ·rename_i S' es' hel
   split at he
   ·rename_i hS
    simp only [sie] at he
    subst he hS
    exact elemsS_rep hel hr
   ·cases he
  ·cases he
def aAppend (P:Program) (T:Nat→Option AV) (h:Heap) (dst:Option Tmp) (t:TypeId) (s x:Operand):Option Res :=
  match P.underlying t,evO T s,evO T x with
  | some (.slice e),some sv,some xv =>
    match P.info? e with
    | some i =>
      match i.zero,elemsN i.size xv with
      | some z,some es' =>
        if z.cells.size=i.size∧0 < i.size then
          if isNil sv then
            if es'=[] then some (sv,none,[]) else
            (match dst with
             | some d=>if h d=none∧es'.length * i.bytes≤140737488355328∧es'.length≤140737488355328 then some (.tsl i.size es' d,some (d, .arr e i.size es'.length),[d]) else none
             | none=>none)
          else match sv with
            | .tsl S es tk =>
              (match h tk with
               | some (.arr ty S' n) =>
                 if es'=[] then some (.tsl S es tk,some (tk, .arr ty S' n),[tk]) else
                 if ty=e∧S'=S∧S=i.size∧n=es.length∧(es.length+es'.length) * i.bytes≤140737488355328∧es.length+es'.length≤140737488355328 then
                   some (.tsl S (es++es') tk,some (tk, .arr e S (es.length+es'.length)),[tk]) else none
               | _=>none)
            | _=>none
        else none
      | _,_=>none
    | none=>none
  | _,_,_=>none
end
section
variable {P:Program} {o:Oper} {φ:Nat→Nat} {M0:Mset} {N:Nat} {D:DB} {T:Nat→Option AV} {h:Heap} {a:Act} {w:World}
theorem exec_append {t:TypeId} {s x:Operand} {v:Value} {w':World} (ho:o.op=.call ⟨.builtin .append,#[s,x],#[t,t]⟩)
  (hr:(Builtin.append_ #[t,t] o.type #[a.eval s,a.eval x]).run P w=.ok v w'):(execOp a.eval o).run P w=.ok (.value v) w':=by
 simp [execOp,ho,resolve,invoke,builtin,hr]
theorem run_append_zero {t ty e:TypeId} {i:TypeInfo} (ht:P.underlying t=some (.slice e)) (hi:P.info? e=some i) (b q:Option Addr) (len cap c:Nat) (hle:len≤cap) :
  (Builtin.append_ #[t,t] ty #[.slice b len cap, .slice q 0 c]).run P w=.ok (.slice b len cap) w:=by
 cases q <;> cases b <;> simp [Builtin.append_,run_underlying ht,sizeOf,typeInfo,hi,Builtin.lenOf,hle,Builtin.firstCells,loadCells,loadCellsFrom,storeCells]
theorem notM_new {φ':Nat→Nat} {h':Heap} {d:Nat} {ty:TypeId} {S n:Nat} (r:RelH φ h w M0) (hC:Clear φ h w 1) (hd:h' d=some (.arr ty S n)) (hφd:φ' d=w.heap.size)
  (hoth:∀ b k,b ≠ d→h' b=some k→h b=some k∧φ' b=φ b) {x:Nat} (hx:x < n * S):¬ MM φ' h' M0 w.heap.size x:=by
 rintro (⟨b,k,h1,h2,h3⟩ | h1)
 ·by_cases e:b=d
  ·subst e
   rw [hd] at h1
   cases h1
   simp only at h3
   omega
  ·obtain ⟨h4,h5⟩:=hoth b k e h1
   rcases hC b (by rw [h4]; simp) with h6 | h6 <;> omega
 ·exact absurd (r.lt _ _ h1) zo
theorem slice_vals {M:Mset} {S:Nat} {es:List (List PV)} {v:Value} (hr:RepP w M (.sl S es) v) (hne:es ≠ []) :
  ∃ (rr oo cap:Nat) (l:List Value),v=.slice (some ⟨rr,oo,none⟩) es.length cap∧es.length≤cap∧(∀ e ∈ es,e.length=S)∧RepEs w M S rr oo es∧l.length=es.length * S ∧
   (∀ j u,l[j]?=some u→w.cell? ⟨rr,oo+j,none⟩=some u)∧(∀ u ∈ l,u.oneCell'=true)∧(∀ (j:Nat) c u,es.flatten[j]?=some c→l[j]?=some u→RepP w M c u):=by
 simp only [RepP] at hr
 rcases hr with ⟨rr,oo,cap,h1,h2,h3,_⟩ | ⟨h1,_⟩
 ·have h4:=(repEs_iff es oo).1 h3
  obtain ⟨l,g1,g2,g3,g4⟩:=repCs_vals _ _ h4.2
  exact ⟨rr,oo,cap,l,h1,h2,h4.1,h3,by rw [g1,flatten_length h4.1],g2,g3,g4⟩
 ·exact absurd h1 hne
theorem append_ok (r:Rel φ M0 N D T h a w) {t:TypeId} {s x:Operand} {u:Res} (ho:o.op=.call ⟨.builtin .append,#[s,x],#[t,t]⟩) (he:aAppend P T h o.dst t s x=some u):Yield P o φ M0 h a w u.1 (ap h u.2.1):=by
 unfold aAppend at he
 split at he
 rotate_left
 ·cases he
 rename_i e sv xv ht hs hx
 split at he
 rotate_left
 ·cases he
 rename_i i hi
 split at he
 rotate_left
 ·cases he
 rename_i z es' hz hel
 split at he
 rotate_left
 ·cases he
 rename_i hzs
 refine Yield.of_lift r 1 fun φ r E0 X0 hC=>?_
 have hxr:=elemsN_rep hel (r.ev hx)
 have hsr:=r.ev hs
 split at he
 ·rename_i hn
  rw [isNil_eq hn] at hsr
  simp only [RepA,RepP] at hsr
  split at he
  ·rename_i hes0
   subst hes0
   simp only [sie] at he
   subst he
   simp only [ap]
   refine yield_still r (v:=.slice none 0 0) ?_ (by rw [isNil_eq hn]; simp [RepA,RepP])
   simp only [RepP] at hxr
   rcases hxr with ⟨rr,oo,cap,h1,_⟩ | ⟨_,q,cap,h1⟩
   ·exact exec_append ho (by rw [hsr,h1]; exact run_append_zero ht hi _ _ _ _ _ zq)
   ·exact exec_append ho (by rw [hsr,h1]; exact run_append_zero ht hi _ _ _ _ _ zq)
  ·rename_i hne
   split at he
   rotate_left
   ·cases he
   rename_i d hdst
   split at he
   rotate_left
   ·cases he
   rename_i hc
   obtain ⟨hd,hby,hmx⟩:=hc
   simp only [sie] at he
   subst he
   simp only [ap]
   have hne':es' ≠ []:=fun e=>hne e
   obtain ⟨rr,oo,cap,l,h1,h2,h3,h4,h5,h6,h7,h8⟩:=slice_vals hxr hne'
   have hpos:0 < es'.length:=List.length_pos_iff.2 hne'
   have hrun:=run_append_nil (P:=P) w t o.type e i z ht hi hz ⟨rr,oo,none⟩ es'.length cap l (by rw [h5]) (fun j v hj=>by rw [Addr.add_lit]; exact h6 j v hj) hpos zo zo
   have hge:=grownCap_ge w es'.length 0 e
   have hgm:grownCap w es'.length 0 e≤maxLen:=grownCap_le_maxLen w es'.length 0 e (by unfold maxLen; omega)
   generalize grownCap w es'.length 0 e=gc at *
   let C:Array Value:=l.toArray++Builtin.zeroCells z.cells (gc - es'.length)
   let w':World:=w.drew.alloc (.cells C e)
   obtain ⟨E,X⟩:=evol_new (w:=w) (w':=w') (o:=.cells C e) (b:=d) (k:=.arr e i.size es'.length) (φ:=φ) (h:=h) (M0:=M0) rfl rfl rfl rfl hd r.hp hC
   have hCs:C.size=gc * i.size:=by
    simp only [C,Array.size_append,List.size_toArray,size_zeroCells,hzs.1,h5]
    rw [← Nat.add_mul]; congr 1; omega
   have hself:w'.heap[w.heap.size]?=some (.cells C e (0,0)):=by show (w.heap.push _)[w.heap.size]?=_; simp
   have hH:RelH (updF φ d w.heap.size) (upd h d (.arr e i.size es'.length)) w' M0:=relH_new rfl hd r.hp hC E X (.inr ⟨C,gc,hself,hCs,hge,hgm⟩)
   refine ⟨_, .slice (some ⟨w.heap.size,0,none⟩) es'.length gc,w',updF φ d w.heap.size,exec_append ho (by rw [hsr,h1]; exact hrun), .inl rfl,?_,hH,E,X⟩
   have hnotM:∀ x,x < es'.length * i.size→¬ MM (updF φ d w.heap.size) (upd h d (.arr e i.size es'.length)) M0 w.heap.size x:=fun x hx =>
    notM_new (φ:=φ) (h:=h) r.hp hC (d:=d) (ty:=e) (S:=i.size) (n:=es'.length) (by simp [upd]) (by simp [updF]) (fun b k hb hk=>⟨by simpa [upd,Ne.symm hb] using hk,by simp [updF,Ne.symm hb]⟩) hx
   simp only [RepA,RepP]
   refine ⟨.inl ⟨w.heap.size,0,gc,rfl,hge,?_,fun _=>unm_some hself⟩,e,es'.length,by simp [upd],zNR _,fun _=>.inr ⟨gc,C,by simp [updF],by simpa [updF] using hself,hCs,hge,hgm⟩⟩
   rw [repEs_iff]
   refine ⟨h3,mk_repCs (l:=l) (by rw [h5,flatten_length h3]) ?_ ?_ h7 ?_⟩
   ·intro j v hj
    rw [cell_block hself]
    have hlt:j < l.length:=(zLG.1 hj).1
    simp only [Nat.zero_add,C]
    rw [Array.getElem?_append_left (by simpa using hlt)]
    simpa using hj
   ·intro j hj
    simp only [Nat.zero_add]
    exact hnotM j (by rw [← h5]; exact hj)
   ·intro j c v hj hv
    exact (repP_keep (E.keeps M0)).1 _ _ (h8 j c v hj hv)
 ·rename_i hn
  split at he
  rotate_left
  ·cases he
  rename_i S es tk
  split at he
  rotate_left
  ·cases he
  rename_i ty S' n htk
  simp only [RepA] at hsr
  obtain ⟨hsl,ty2,n2,htk2,hle2,hfront⟩:=hsr
  rw [htk] at htk2
  cases htk2
  split at he
  ·rename_i hes
   simp only [sie] at he
   subst he
   simp only [ap]
   have hupd:∀ {k:Blk},h tk=some k→upd h tk k=h:=by
    intro k hk
    funext b
    simp only [upd]
    split
    ·rename_i e; rw [← e,hk]
    ·rfl
   rw [hupd htk]
   refine yield_still r (v:=a.eval s) ?_ (by simp only [RepA]; exact ⟨hsl,ty,n,htk,hle2,hfront⟩)
   have hxq:∃ q c,a.eval x=.slice q 0 c:=by
    subst hes
    simp only [RepP] at hxr
    rcases hxr with ⟨rr,oo,cap,h1,_⟩ | ⟨_,q,cap,h1⟩
    ·exact ⟨_,_,by simpa using h1⟩
    ·exact ⟨q,cap,h1⟩
   obtain ⟨q,c,hq⟩:=hxq
   simp only [RepP] at hsl
   rcases hsl with ⟨rr,oo,cap,h1,h2,_⟩ | ⟨_,q2,cap,h1⟩
   ·exact exec_append ho (by rw [hq,h1]; exact run_append_zero ht hi _ _ _ _ _ h2)
   ·exact exec_append ho (by rw [hq,h1]; exact run_append_zero ht hi _ _ _ _ _ (Nat.zero_le _))
  ·rename_i hes
   split at he
   rotate_left
   ·cases he
   rename_i hc
   obtain ⟨rfl,_,rfl,rfl,hby,hmx⟩:=hc
   simp only [sie] at he
   subst he
   simp only [ap]
   rcases hfront rfl with ⟨hn0,hsv,_⟩ | ⟨cap0,c0,hsv,hw0,hsz0,hcap0,hmax0⟩
   ·have hes0:es=[]:=List.length_eq_zero_iff.1 hn0
    subst hes0
    simp only [List.length_nil,Nat.zero_add] at hby hmx htk ⊢
    have hne':es' ≠ []:=fun e=>hes e
    obtain ⟨rr,oo,cap,l,h1,h2,h3,h4,h5,h6,h7,h8⟩:=slice_vals hxr hne'
    have hpos:0 < es'.length:=List.length_pos_iff.2 hne'
    have hrun:=run_append_nil (P:=P) w t o.type ty i z ht hi hz ⟨rr,oo,none⟩ es'.length cap l (by rw [h5]) (fun j v hj=>by rw [Addr.add_lit]; exact h6 j v hj) hpos zo zo
    have hge:=grownCap_ge w es'.length 0 ty
    have hgm:grownCap w es'.length 0 ty≤maxLen:=grownCap_le_maxLen w es'.length 0 ty (by unfold maxLen; omega)
    generalize grownCap w es'.length 0 ty=gc at *
    let C:Array Value:=l.toArray++Builtin.zeroCells z.cells (gc - es'.length)
    let w':World:=w.drew.alloc (.cells C ty)
    obtain ⟨E,X⟩:=evol_arr_new (w:=w) (w':=w') (ob:=.cells C ty) (φ:=φ) (h:=h) (M0:=M0) (n':=es'.length) htk zo rfl rfl rfl rfl r.hp hC
    have hCs:C.size=gc * i.size:=by
     simp only [C,Array.size_append,List.size_toArray,size_zeroCells,hzs.1,h5]
     rw [← Nat.add_mul]; congr 1; omega
    have hself:w'.heap[w.heap.size]?=some (.cells C ty (0,0)):=by show (w.heap.push _)[w.heap.size]?=_; simp
    have hφt:updF φ tk w.heap.size tk=w.heap.size:=by simp [updF]
    have hH:RelH (updF φ tk w.heap.size) (upd h tk (.arr ty i.size es'.length)) w' M0 :=
     relH_arr htk r.hp E X (fun b hb=>by simp [updF,Ne.symm hb]) (.inr ⟨hφt,hC⟩) (fun d hd _=>hC.lt r.hp (w':=w') (by show (w.heap.push _).size≤_; simp) (fun x hx=>by show (w.heap.push _)[x]?=_; rw [Array.getElem?_push,if_neg zo]) hd) (by rw [hφt]; exact hself) hCs hge hgm
    refine ⟨_, .slice (some ⟨w.heap.size,0,none⟩) es'.length gc,w',updF φ tk w.heap.size,exec_append ho (by rw [hsv,h1]; exact hrun), .inl rfl,?_,hH,E,X⟩
    have hnotM:∀ x,x < es'.length * i.size→¬ MM (updF φ tk w.heap.size) (upd h tk (.arr ty i.size es'.length)) M0 w.heap.size x:=fun x hx =>
     notM_new (φ:=φ) (h:=h) r.hp hC (d:=tk) (ty:=ty) (S:=i.size) (n:=es'.length) (by simp [upd]) hφt (fun b k hb hk=>⟨by simpa [upd,Ne.symm hb] using hk,by simp [updF,Ne.symm hb]⟩) hx
    simp only [RepA,RepP,List.nil_append]
    refine ⟨.inl ⟨w.heap.size,0,gc,rfl,hge,?_,fun _=>unm_some hself⟩,ty,es'.length,by simp [upd],zNR _,fun _=>.inr ⟨gc,C,by rw [hφt],by rw [hφt]; exact hself,hCs,hge,hgm⟩⟩
    rw [repEs_iff]
    refine ⟨h3,mk_repCs (l:=l) (by rw [h5,flatten_length h3]) ?_ ?_ h7 ?_⟩
    ·intro j v hj
     rw [cell_block hself]
     have hlt:j < l.length:=(zLG.1 hj).1
     simp only [Nat.zero_add,C]
     rw [Array.getElem?_append_left (by simpa using hlt)]
     simpa using hj
    ·intro j hj
     simp only [Nat.zero_add]
     exact hnotM j (by rw [← h5]; exact hj)
    ·intro j c v hj hv
     exact (repP_keep (E.keeps M0)).1 _ _ (h8 j c v hj hv)
   obtain ⟨rr,oo,cap,l,h1,h2,h3,h4,h5,h6,h7,h8⟩:=slice_vals hxr hes
   have hpos:0 < es'.length:=List.length_pos_iff.2 hes
   have hold:RepEs w (MM φ h M0) i.size (φ tk) 0 es:=by
    by_cases hnil:es=[]
    ·subst hnil; simp [RepEs]
    ·obtain ⟨r2,o2,cap2,l2,g1,_,_,g4,_⟩:=slice_vals hsl hnil
     rw [hsv] at g1
     simp only [Value.slice.injEq,sie,Addr.mk.injEq] at g1
     obtain ⟨⟨rfl,rfl,_⟩,_⟩:=g1
     exact g4
   have hallS:∀ e ∈ es,e.length=i.size:=((repEs_iff es 0).1 hold).1
   by_cases hroom:es.length+es'.length≤cap0
   ·have hfit:es.length * i.size+l.length≤c0.size:=by rw [h5,hsz0,← Nat.add_mul]; exact Nat.mul_le_mul_right _ hroom
    have hrun:=run_append_room (P:=P) w t o.type ty i ht hi (φ tk) es.length cap0 c0 hw0 ⟨rr,oo,none⟩ es'.length cap l (by rw [h5]) (fun j v hj=>by rw [Addr.add_lit]; exact h6 j v hj) h7 hroom hfit
    let C:Array Value:=(c0.toList.take (es.length * i.size)++l++c0.toList.drop (es.length * i.size+l.length)).toArray
    have htl:(c0.toList.take (es.length * i.size)).length=es.length * i.size:=by simp; omega
    have hCs:C.size=c0.size:=by simp [C]; omega
    obtain ⟨E,X⟩:=evol_arr_in (φ:=φ) (h:=h) (w:=w) (M0:=M0) (n':=es.length+es'.length) (c':=C) htk hw0 zo hCs (fun x hx=>by
     simp only [C,List.getElem?_toArray]
     rw [List.append_assoc,List.getElem?_append_left (by rw [htl]; exact hx),List.getElem?_take,if_pos hx]
     simp) r.hp
    have hself:(w.setRow (φ tk) C).heap[φ tk]?=some (.cells C ty (0,0)):=setRow_heap w _ c0 C ty _ hw0
    have hH:RelH φ (upd h tk (.arr ty i.size (es.length+es'.length))) (w.setRow (φ tk) C) M0 :=
     relH_arr htk r.hp E X (fun _ _=>rfl) (.inl rfl) (fun d hd hdt=>setRow_other w _ _ C (fun e=>hdt (r.hp.inj d tk hd (by rw [htk]; simp) e))) hself (by rw [hCs,hsz0]) hroom hmax0
    refine ⟨_, .slice (some ⟨φ tk,0,none⟩) (es.length+es'.length) cap0,_,φ,exec_append ho (by rw [hsv,h1]; exact hrun), .inl rfl,?_,hH,E,X⟩
    have hnotM:∀ x,x < (es.length+es'.length) * i.size→¬ MM φ (upd h tk (.arr ty i.size (es.length+es'.length))) M0 (φ tk) x:=by
     rintro x hx (⟨b,k,q1,q2,q3⟩ | q1)
     ·by_cases e:tk=b
      ·subst e
       have:k=.arr ty i.size (es.length+es'.length):=by simpa [upd] using q1.symm
       subst this
       simp only at q3
       omega
      ·have q4:h b=some k:=by simpa [upd,e] using q1
       exact e (r.hp.inj b tk (by rw [q4]; simp) (by rw [htk]; simp) q2).symm
     ·exact r.hp.fr tk (by rw [htk]; simp) x q1
    simp only [RepA,RepP]
    refine ⟨.inl ⟨φ tk,0,cap0,by simp,by simpa using hroom,?_,fun _=>unm_some hself⟩,ty,es.length+es'.length,by simp [upd],by simp,fun _=>.inr ⟨cap0,C,rfl,hself,by rw [hCs,hsz0],hroom,hmax0⟩⟩
    rw [repEs_append]
    refine ⟨(repP_keep (E.keeps M0)).2.1 _ _ _ _ hold,?_⟩
    rw [repEs_iff]
    refine ⟨h3,mk_repCs (l:=l) (by rw [h5,flatten_length h3]) ?_ ?_ h7 ?_⟩
    ·intro j v hj
     rw [cell_block hself]
     have hlt:j < l.length:=(zLG.1 hj).1
     simp only [Nat.zero_add,C,List.getElem?_toArray]
     rw [List.append_assoc,List.getElem?_append_right (by rw [htl]; omega),htl,List.getElem?_append_left zo]
     rw [show es.length * i.size+j - es.length * i.size=j from by omega]
     exact hj
    ·intro j hj
     simp only [Nat.zero_add]
     refine hnotM _ ?_
     rw [h5] at hj
     rw [Nat.add_mul]; omega
    ·intro j c v hj hv
     exact (repP_keep (E.keeps M0)).1 _ _ (h8 j c v hj hv)
   ·obtain ⟨ol,g1,g2,g3,g4⟩:=repCs_vals _ _ ((repEs_iff es 0).1 hold).2
    have g1':ol.length=es.length * i.size:=by rw [g1,flatten_length hallS]
    have hrun:=run_append_grow (P:=P) w t o.type ty i z ht hi hz ⟨φ tk,0,none⟩ es.length cap0 ol g1' (fun j v hj=>by rw [Addr.add_lit]; exact g2 j v hj) ⟨rr,oo,none⟩ es'.length cap l (by rw [h5])
     (fun j v hj=>by rw [Addr.add_lit]; exact h6 j v hj) zo zo (growslice_fits zo hby)
    have hge:=grownCap_ge w (es.length+es'.length) cap0 ty
    have hgm:grownCap w (es.length+es'.length) cap0 ty≤maxLen:=grownCap_le_maxLen w _ cap0 ty (by unfold maxLen; omega)
    generalize grownCap w (es.length+es'.length) cap0 ty=gc at *
    let C:Array Value:=ol.toArray++l.toArray++Builtin.zeroCells z.cells (gc - (es.length+es'.length))
    let w':World:=w.drew.alloc (.cells C ty)
    obtain ⟨E,X⟩:=evol_arr_new (w:=w) (w':=w') (ob:=.cells C ty) (φ:=φ) (h:=h) (M0:=M0) (n':=es.length+es'.length) htk zo rfl rfl rfl rfl r.hp hC
    have hCs:C.size=gc * i.size:=by
     simp only [C,Array.size_append,List.size_toArray,size_zeroCells,hzs.1,h5,g1']
     rw [← Nat.add_mul,← Nat.add_mul]; congr 1; omega
    have hself:w'.heap[w.heap.size]?=some (.cells C ty (0,0)):=by show (w.heap.push _)[w.heap.size]?=_; simp
    have hφt:updF φ tk w.heap.size tk=w.heap.size:=by simp [updF]
    have hH:RelH (updF φ tk w.heap.size) (upd h tk (.arr ty i.size (es.length+es'.length))) w' M0 :=
     relH_arr htk r.hp E X (fun b hb=>by simp [updF,Ne.symm hb]) (.inr ⟨hφt,hC⟩) (fun d hd _=>hC.lt r.hp (w':=w') (by show (w.heap.push _).size≤_; simp) (fun x hx=>by show (w.heap.push _)[x]?=_; rw [Array.getElem?_push,if_neg zo]) hd) (by rw [hφt]; exact hself) hCs hge hgm
    refine ⟨_, .slice (some ⟨w.heap.size,0,none⟩) (es.length+es'.length) gc,w',updF φ tk w.heap.size,exec_append ho (by rw [hsv,h1]; exact hrun), .inl rfl,?_,hH,E,X⟩
    have hnotM:∀ x,x < (es.length+es'.length) * i.size→¬ MM (updF φ tk w.heap.size) (upd h tk (.arr ty i.size (es.length+es'.length))) M0 w.heap.size x:=fun x hx =>
     notM_new (φ:=φ) (h:=h) r.hp hC (d:=tk) (ty:=ty) (S:=i.size) (n:=es.length+es'.length) (by simp [upd]) hφt (fun b k hb hk=>⟨by simpa [upd,Ne.symm hb] using hk,by simp [updF,Ne.symm hb]⟩) hx
    simp only [RepA,RepP]
    refine ⟨.inl ⟨w.heap.size,0,gc,by simp,by simpa using hge,?_,fun _=>unm_some hself⟩,ty,es.length+es'.length,by simp [upd],by simp,fun _=>.inr ⟨gc,C,by rw [hφt],by rw [hφt]; exact hself,hCs,hge,hgm⟩⟩
    rw [repEs_append]
    constructor
    ·rw [repEs_iff]
     refine ⟨hallS,mk_repCs (l:=ol) g1 ?_ ?_ g3 ?_⟩
     ·intro j v hj
      rw [cell_block hself]
      have hlt:j < ol.length:=(zLG.1 hj).1
      simp only [Nat.zero_add,C]
      rw [Array.append_assoc,Array.getElem?_append_left (by simpa using hlt)]
      simpa using hj
     ·intro j hj
      simp only [Nat.zero_add]
      refine hnotM _ ?_
      rw [g1'] at hj
      rw [Nat.add_mul]; omega
     ·intro j c v hj hv
      exact (repP_keep (E.keeps M0)).1 _ _ (g4 j c v hj hv)
    ·rw [repEs_iff]
     refine ⟨h3,mk_repCs (l:=l) (by rw [h5,flatten_length h3]) ?_ ?_ h7 ?_⟩
     ·intro j v hj
      rw [cell_block hself]
      have hlt:j < l.length:=(zLG.1 hj).1
      simp only [Nat.zero_add,C]
      rw [Array.append_assoc,Array.getElem?_append_right (by simp; omega),Array.getElem?_append_left (by simp; omega)]
      simp only [List.size_toArray,g1',List.getElem?_toArray]
      rw [show es.length * i.size+j - es.length * i.size=j from by omega]
      exact hj
     ·intro j hj
      simp only [Nat.zero_add]
      refine hnotM _ ?_
      rw [h5] at hj
      rw [Nat.add_mul]; omega
     ·intro j c v hj hv
      exact (repP_keep (E.keeps M0)).1 _ _ (h8 j c v hj hv)
end
def toPV:AV→Option PV
 | .p x=>some x
 | .tsl S es _=>some (.sl S es)
 | _=>none
def toPVs:List AV→Option (List PV)
 | []=>some []
 | x :: xs=>match toPV x,toPVs xs with | some y,some ys=>some (y :: ys) | _,_=>none
def slSz (P:Program):Nat→TypeId→List (Option Nat)
 | 0,_=>[]
 | d+1,t=>match P.underlying t with
  | some (.slice e)=>[some (P.cellsOf e)]
  | some (.struct fs)=>fs.toList.flatMap fun f=>slSz P d f.type
  | some (.array n e)=>(List.replicate n (slSz P d e)).flatten
  | _=>[none]
def nilTo:List (Option Nat)→List PV→List PV
 | _,[]=>[]
 | [],c :: cs=>c :: cs
 | some S :: ss, .val (.slice none 0 0) :: cs=>.sl S [] :: nilTo ss cs
 | _ :: ss,c :: cs=>c :: nilTo ss cs
def chunk (S:Nat):Nat→List PV→List (List PV)
 | 0,_=>[]
 | n+1,l=>l.take S :: chunk S n (l.drop S)
theorem chunk_spec {S:Nat}:∀ (n:Nat) (l:List PV),l.length=n * S→(chunk S n l).flatten=l∧(chunk S n l).length=n∧∀ e ∈ chunk S n l,e.length=S
 | 0,l,hl=>by
  have:l=[]:=List.eq_nil_of_length_eq_zero (by simpa using hl)
  subst this
  simp [chunk]
 | n+1,l,hl=>by
  have h1:(n+1) * S=n * S+S:=by rw [Nat.add_mul]; omega
  obtain ⟨a1,a2,a3⟩:=chunk_spec (S:=S) n (l.drop S) (by rw [zLD]; omega)
  refine ⟨by simp only [chunk,List.flatten_cons,a1,List.take_append_drop],by simp [chunk,a2],?_⟩
  intro e he
  simp only [chunk,List.mem_cons] at he
  rcases he with rfl | he
  ·simp; omega
  ·exact a3 e he
section
variable {P:Program} {o:Oper} {φ:Nat→Nat} {M0:Mset} {N:Nat} {D:DB} {T:Nat→Option AV} {h:Heap} {a:Act} {w:World}
theorem toPV_rep {M:Mset} {x:AV} {y:PV} {v:Value} (he:toPV x=some y) (hr:RepA φ h w M x v):RepP w M y v:=by
 cases x with
 | p x=>simp only [toPV,sie] at he; subst he; simpa only [RepA] using hr
 | tsl S es t=>simp only [toPV,sie] at he; subst he; simp only [RepA] at hr; exact hr.1
 | _=>simp [toPV] at he
theorem toPVs_rep {M:Mset}:∀ {xs:List AV} {ys:List PV} {l:List Value},toPVs xs=some ys→RepAs φ h w M xs l→ys.length=l.length∧∀ (j:Nat) c u,ys[j]?=some c→l[j]?=some u→RepP w M c u
 | [],ys,l,he,hr=>by simp only [toPVs,sie] at he; subst he; simp only [RepAs] at hr; subst hr; simp
 | x :: xs,ys,l,he,hr=>by
  simp only [toPVs] at he
  split at he
  ·rename_i y ys' h1 h2
   simp only [sie] at he
   subst he
   simp only [RepAs] at hr
   obtain ⟨v,vs,rfl,h3,h4⟩:=hr
   obtain ⟨h5,h6⟩:=toPVs_rep h2 h4
   refine ⟨by simp [h5],fun j c u hj hu=>?_⟩
   cases j with
   | zero=>simp at hj hu; subst hj hu; exact toPV_rep h1 h3
   | succ j=>exact h6 j c u (by simpa using hj) (by simpa using hu)
  ·cases he
theorem nilTo_rep {M:Mset}:∀ {ss:List (Option Nat)} {ys:List PV} {l:List Value},ys.length=l.length→(∀ (j:Nat) c u,ys[j]?=some c→l[j]?=some u→RepP w M c u) →
  (nilTo ss ys).length=l.length∧∀ (j:Nat) c u,(nilTo ss ys)[j]?=some c→l[j]?=some u→RepP w M c u
 | ss,[],l,hl,h=>by unfold nilTo; exact ⟨hl,h⟩
 | [],c :: cs,l,hl,h=>by unfold nilTo; exact ⟨hl,h⟩
 | s :: ss,c :: cs,[],hl,h=>by simp at hl
 | s :: ss,c :: cs,v :: l,hl,h=>by
  have ih:=nilTo_rep (ss:=ss) (ys:=cs) (l:=l) (by simpa using hl) (fun j c u h1 h2=>h (j+1) c u (by simpa using h1) (by simpa using h2))
  have h0:=h 0 c v zq zq
  have gen:∀ c',RepP w M c' v→(c' :: nilTo ss cs).length=(v :: l).length∧∀ (j:Nat) c u,(c' :: nilTo ss cs)[j]?=some c→(v :: l)[j]?=some u→RepP w M c u:=by
   intro c' hc
   refine ⟨by simp [ih.1],fun j c u h1 h2=>?_⟩
   cases j with
   | zero=>simp at h1 h2; subst h1 h2; exact hc
   | succ j=>exact ih.2 j c u (by simpa using h1) (by simpa using h2)
  unfold nilTo
  split
  ·rename_i h; cases h
  ·rename_i h _; cases h
  ·rename_i S ss' cs' h1 h2
   cases h1; cases h2
   refine gen _ ?_
   simp only [RepP] at h0 ⊢
   exact .inr ⟨trivial,none,0,h0⟩
  ·rename_i h1 h2
   cases h1; cases h2
   exact gen _ h0
theorem range_rep (l:List Value) (s:Nat) (hs:l.length=s) (hp:0 < s):∀ n:Nat,(List.range (n * s)).map (fun k=>l.toArray[k % l.toArray.size]!)=(List.replicate n l).flatten
 | 0=>by simp
 | n+1=>by
  rw [Nat.add_mul,Nat.one_mul,List.range_add,List.map_append,range_rep l s hs hp n,List.replicate_succ',List.flatten_append]
  congr 1
  simp only [List.map_map,List.flatten_cons,List.flatten_nil,List.append_nil]
  apply List.ext_getElem?
  intro j
  by_cases hj:j < s
  ·have:(n * s+j) % s=j:=by rw [Nat.add_comm,Nat.add_mul_mod_self_right]; exact Nat.mod_eq_of_lt hj
   simp [hj,hs,this]
  ·simp [hj,hs]
def aBuildSlice (P:Program) (T:Nat→Option AV) (h:Heap) (dst:Option Tmp) (t:TypeId) (len:Nat) (parts:Array (Nat × Operand)):Option Res :=
 match P.underlying t,dst,evPs T parts.toList with
 | some (.slice e),some d,some ps =>
  match P.info? e with
  | some i =>
   match i.zero,h d with
   | some z,none =>
    match cellsOf (ofV z) with
    | some zs =>
     if zs.length=i.size∧0 < i.size∧len * i.size≤16777216 then
      match fillA (fun k=>some (k * i.size,i.size)) (List.replicate len zs).flatten ps with
      | some rs =>
       match (toPVs rs).map (nilTo (List.replicate len (slSz P 5 e)).flatten) with
       | some pvs=>if pvs.length=len * i.size∧allOne rs then some (.tsl i.size (chunk i.size len pvs) d,some (d, .arr e i.size len),[d]) else none
       | none=>none
      | none=>none
     else none
    | none=>none
   | _,_=>none
  | none=>none
 | _,_,_=>none
theorem repAs_replicate {M:Mset} {xs:List AV} {l:List Value} (hr:RepAs φ h w M xs l):∀ n:Nat,RepAs φ h w M (List.replicate n xs).flatten (List.replicate n l).flatten
 | 0=>by simp [RepAs]
 | n+1=>by simp only [List.replicate_succ,List.flatten_cons]; exact repAs_append hr (repAs_replicate hr n)
theorem buildSlice_ok (r:Rel φ M0 N D T h a w) {t:TypeId} {len:Nat} {parts:Array (Nat × Operand)} {u:Res} (ho:o.op=.buildSlice t len parts) (he:aBuildSlice P T h o.dst t len parts=some u):Yield P o φ M0 h a w u.1 (ap h u.2.1):=by
 unfold aBuildSlice at he
 split at he
 rotate_left
 ·cases he
 rename_i e d ps ht hdst hps
 split at he
 rotate_left
 ·cases he
 rename_i i hi
 split at he
 rotate_left
 ·cases he
 rename_i z hz hd
 split at he
 rotate_left
 ·cases he
 rename_i zs hzs
 split at he
 rotate_left
 ·cases he
 rename_i hsz
 split at he
 rotate_left
 ·cases he
 rename_i rs hrs
 split at he
 rotate_left
 ·cases he
 rename_i pvs hpvs
 split at he
 rotate_left
 ·cases he
 rename_i hlen
 simp only [sie] at he
 subst he
 simp only [ap]
 refine Yield.of_lift r 1 fun φ r E0 X0 hC=>?_
 obtain ⟨h1,h2⟩:=evPs_rep r hps
 obtain ⟨h3,_,_⟩:=cellsOf_rep hzs (rep_ofV (φ:=φ) (h:=h) (w:=w) (M:=MM φ h M0) z)
 have hl3:=repAs_length h3
 have hzl:z.cells.toList.length=i.size:=by omega
 have hinit:RepAs φ h w (MM φ h M0) (List.replicate len zs).flatten (((Array.range (len * i.size)).map (z.cells[· % z.cells.size]!)).toList):=by
  have e1:((Array.range (len * i.size)).map (z.cells[· % z.cells.size]!)).toList=(List.replicate len z.cells.toList).flatten:=by
   have:=range_rep z.cells.toList i.size hzl hsz.2.1 len
   simp only [Array.toArray_toList] at this
   rw [← this]
   simp [Array.toList_range]
  rw [e1]
  exact repAs_replicate h3 len
 obtain ⟨c',h4,h5⟩:=fill_ok (placeC:=fun k=>some (k * i.size,i.size)) (fun k x hx=>hx) ps _ _ _ rs h1 h2 hinit hrs
 have hl5:=repAs_length h5
 obtain ⟨pvs0,hpvs0,hpvs1⟩:=zMS.1 hpvs
 have h67:=toPVs_rep hpvs0 h5
 have h67:=nilTo_rep (ss:=(List.replicate len (slSz P 5 e)).flatten) h67.1 h67.2
 rw [hpvs1] at h67
 obtain ⟨h6,h7⟩:=h67
 have hc's:c'.size=len * i.size:=by simp at h6; omega
 have hone:=allOne_rep hlen.2 h5
 obtain ⟨g1,g2,g3⟩:=chunk_spec len pvs hlen.1
 let w':World:=w.alloc (.cells c' e)
 obtain ⟨E,X⟩:=evol_new (w:=w) (w':=w') (o:=.cells c' e) (b:=d) (k:=.arr e i.size len) (φ:=φ) (h:=h) (M0:=M0) rfl rfl rfl rfl hd r.hp hC
 have hself:w'.heap[w.heap.size]?=some (.cells c' e (0,0)):=by show (w.heap.push _)[w.heap.size]?=_; simp
 have hlm:len≤maxLen:=by
  have:len * 1≤len * i.size:=Nat.mul_le_mul_left _ hsz.2.1
  unfold maxLen; omega
 have hH:RelH (updF φ d w.heap.size) (upd h d (.arr e i.size len)) w' M0:=relH_new rfl hd r.hp hC E X (.inr ⟨c',len,hself,hc's,zNR _,hlm⟩)
 refine ⟨_, .slice (some ⟨w.heap.size,0,none⟩) len len,w',updF φ d w.heap.size,?_, .inl rfl,?_,hH,E,X⟩
 ·have hq:(parts.map fun (x:Nat × Operand)=>(x.1,a.eval x.2)).toList=parts.toList.map fun (x:Nat × Operand)=>(x.1,a.eval x.2):=by simp
  have hbig:¬ (len * i.size > 2 ^ 24):=by omega
  by_cases h0:len * i.size=0
  ·have hl0:len=0:=by
    rcases Nat.mul_eq_zero.1 h0 with x | x
    ·exact x
    ·omega
   subst hl0
   have e0:(Array.range (0 * i.size)).map (z.cells[· % z.cells.size]!)=#[]:=by apply Array.ext'; simp
   have e2:(Array.range 0).map (fun _=>(default:Value))=#[]:=by apply Array.ext'; simp
   rw [e0] at h4
   have h4':Instr.fill (fun k=>some (k * i.size,i.size)) #[] (parts.toList.map fun (x:Nat × Operand)=>(x.1,a.eval x.2))=some c':=h4
   simp only [execOp,ho,Instr.buildSlice,Sem.run_bind,run_underlying ht,run_sizeOf' hi,Result.andThen_ok,hq,h0,if_true,Sem.run_pure]
   simp [newRow,newObj,Sem.run,w',e2,h4']
  ·simp only [execOp,ho,Instr.buildSlice,Sem.run_bind,run_underlying ht,run_sizeOf' hi,Result.andThen_ok,hbig,if_false,h0,hq,zeroValue,typeInfo,program,Sem.run,hi,hz,Sem.run_pure,h4]
   simp [newRow,newObj,Sem.run,w']
 ·have hnotM:∀ x,x < len * i.size→¬ MM (updF φ d w.heap.size) (upd h d (.arr e i.size len)) M0 w.heap.size x:=fun x hx =>
   notM_new (φ:=φ) (h:=h) r.hp hC (d:=d) (ty:=e) (S:=i.size) (n:=len) (by simp [upd]) (by simp [updF]) (fun b k hb hk=>⟨by simpa [upd,Ne.symm hb] using hk,by simp [updF,Ne.symm hb]⟩) hx
  simp only [RepA,RepP]
  refine ⟨.inl ⟨w.heap.size,0,len,by rw [g2],by omega,?_,fun _=>unm_some hself⟩,e,len,by simp [upd],by omega,fun _=>.inr ⟨len,c',by simp [updF],by simpa [updF] using hself,hc's,zNR _,hlm⟩⟩
  rw [repEs_iff,g1]
  refine ⟨g3,mk_repCs (l:=c'.toList) h6.symm ?_ ?_ hone ?_⟩
  ·intro j v hj
   rw [cell_block hself]
   simpa using hj
  ·intro j hj
   simp only [Nat.zero_add]
   exact hnotM j (by simp at hj; omega)
  ·intro j c v hj hv
   exact (repP_keep (E.keeps M0)).1 _ _ (h7 j c v hj hv)
def natOf (T:Nat→Option AV) (dflt:Nat):Option Operand→Option Nat
 | none=>some dflt
 | some x=>match evO T x with | some (.p (.val (.int _ n)))=>if 0≤n then some n.toNat else none | _=>none
def aSlice (P:Program) (T:Nat→Option AV) (t:TypeId) (x:Operand) (lo hi mx:Option Operand):Option Res :=
 match P.underlying t,evO T x with
 | some (.slice e),some v =>
  match elemsS v,P.info? e with
  | some (S,es),some i =>
   match natOf T 0 lo,natOf T es.length hi with
   | some l,some hh =>
    if S=i.size∧l≤hh∧hh≤es.length then
     match mx with
     | none=>some (.p (.sl S ((es.take hh).drop l)),none,[])
     | some _=>match hi,natOf T es.length mx with | some _,some m=>if hh≤m∧m≤es.length then some (.p (.sl S ((es.take hh).drop l)),none,[]) else none | _,_=>none
    else none
   | _,_=>none
  | _,_=>none
 | _,_=>none
theorem natOf_some (r:Rel φ M0 N D T h a w) {dflt n:Nat} {x:Operand} (hn:natOf T dflt (some x)=some n):∃ k,a.eval x=.int k n:=by
 simp only [natOf] at hn
 split at hn
 ·rename_i k m hx
  split at hn
  ·rename_i hm
   simp only [sie] at hn
   have:=r.ev hx
   simp only [RepA,RepP] at this
   exact ⟨k,by rw [this]; congr 1; omega⟩
  ·cases hn
 ·cases hn
theorem run_sliceBound {x:Value} {k:IntKind} {n y:Nat} {code:BoundsCode} (hx:x=.int k n) (hn:n≤y):(Instr.sliceBound x y code).run P w=.ok n w:=by
 subst hx
 have:(0:Int)≤(n:Int)∧(n:Int)≤(y:Int):=⟨by omega,by omega⟩
 simp [Instr.sliceBound,asIntOf,this]
theorem slice_result {M:Mset} {S rr oo cap l hh m:Nat} {es:List (List PV)} (hes:RepEs w M S rr oo es) (hum:clS S=true→Unm w rr) (h1:l≤hh) (h2:hh≤es.length) (h3:hh≤m) :
  RepP w M (.sl S ((es.take hh).drop l)) (.slice (if m=l then some ⟨rr,oo,none⟩ else some ⟨rr,oo+l * S,none⟩) (hh - l) (m - l)):=by
 have hlen:((es.take hh).drop l).length=hh - l:=by simp; omega
 simp only [RepP]
 by_cases he:hh=l
 ·right
  refine ⟨List.eq_nil_of_length_eq_zero (by rw [hlen]; omega),(if m=l then some ⟨rr,oo,none⟩ else some ⟨rr,oo+l * S,none⟩),m - l,?_⟩
  have e0:hh - l=0:=by omega
  rw [e0]
 ·left
  have hne:¬ m=l:=by omega
  refine ⟨rr,oo+l * S,m - l,by simp [hne,hlen],by omega,?_,hum⟩
  have e1:es=(es.take hh).take l++((es.take hh).drop l++es.drop hh):=by
   rw [← List.append_assoc,List.take_append_drop,List.take_append_drop]
  rw [e1,repEs_append] at hes
  have hl:((es.take hh).take l).length=l:=by simp; omega
  rw [hl] at hes
  have:=hes.2
  rw [repEs_append] at this
  exact this.1
theorem slice_ok (r:Rel φ M0 N D T h a w) {t:TypeId} {x:Operand} {lo hi mx:Option Operand} {u:Res} (ho:o.op=.slice t x lo hi mx) (he:aSlice P T t x lo hi mx=some u):u.2.1=none∧Yield P o φ M0 h a w u.1 h:=by
 unfold aSlice at he
 split at he
 rotate_left
 ·cases he
 rename_i e v ht hx
 split at he
 rotate_left
 ·cases he
 rename_i S es i hel hi'
 split at he
 rotate_left
 ·cases he
 rename_i l hh hl hhh
 split at he
 rotate_left
 ·cases he
 rename_i hc
 obtain ⟨rfl,hc1,hc2⟩:=hc
 have h2:=elemsS_rep hel (r.ev hx)
 have hshape:∃ (q:Option Addr) (cap:Nat),a.eval x=.slice q es.length cap∧es.length≤cap∧(es=[]∨∃ rr oo,q=some ⟨rr,oo,none⟩∧RepEs w (MM φ h M0) i.size rr oo es∧(clS i.size=true→Unm w rr)):=by
  simp only [RepP] at h2
  rcases h2 with ⟨rr,oo,cap,g1,g2,g3⟩ | ⟨rfl,q,cap,g1⟩
  ·exact ⟨_,cap,g1,g2, .inr ⟨rr,oo,rfl,g3⟩⟩
  ·exact ⟨q,cap,g1,Nat.zero_le _, .inl rfl⟩
 obtain ⟨q,cap,hv,hcap,hor⟩:=hshape
 have hlo:∀ y,hh≤y→True:=fun _ _=>trivial
 have runL:∀ (code:BoundsCode),(match lo.map a.eval with | some v=>Instr.sliceBound v hh code | none=>pure 0).run P w=.ok l w:=by
  intro code
  cases lo with
  | none=>simp only [natOf,sie] at hl; subst hl; rfl
  | some y=>obtain ⟨k,hk⟩:=natOf_some r hl; exact run_sliceBound hk hc1
 have fin:∀ m,hh≤m→RepA φ h w (MM φ h M0) (.p (.sl i.size ((es.take hh).drop l))) (.slice (if m=l then q else q.map (·.add (l * i.size))) (hh - l) (m - l)):=by
  intro m hm
  simp only [RepA]
  rcases hor with rfl | ⟨rr,oo,rfl,g3⟩
  ·have:hh=0:=by simpa using hc2
   subst this
   have hl0:l=0:=by omega
   subst hl0
   simp only [RepP]
   exact .inr ⟨by simp,(if m=0 then q else q.map (·.add (0 * i.size))),m,by simp⟩
  ·have:=slice_result (m:=m) (cap:=cap) g3.1 g3.2 hc1 hc2 hm
   simpa [Addr.add_lit] using this
 split at he
 ·simp only [sie] at he
  subst he
  refine ⟨rfl,yield_still r (v:=.slice (if cap=l then q else q.map (·.add (l * i.size))) (hh - l) (cap - l)) ?_ (fin cap zo)⟩
  have hb:(Instr.sliceBounds true es.length cap (lo.map a.eval) (hi.map a.eval) none).run P w=.ok (l,hh,cap) w:=by
   cases hi with
   | none =>
    simp only [natOf,sie] at hhh
    subst hhh
    have:=runL .sliceB
    cases lo with
    | none=>simp [Instr.sliceBounds] at this ⊢; exact this
    | some y=>simp [Instr.sliceBounds] at this ⊢; simp [this]
   | some y =>
    obtain ⟨k,hk⟩:=natOf_some r hhh
    have hbd:=run_sliceBound (P:=P) (w:=w) (code:=.sliceAcap) hk (show hh≤cap by omega)
    have:=runL .sliceB
    cases lo with
    | none=>simp [Instr.sliceBounds,hbd] at this ⊢; exact this
    | some y=>simp [Instr.sliceBounds,hbd] at this ⊢; simp [this]
  simp [execOp,ho,Instr.sliceAt,Instr.slice,run_underlying ht,hv,hb,run_sizeOf' hi']
 ·rename_i y
  split at he
  rotate_left
  ·cases he
  rename_i yh m hm
  split at he
  rotate_left
  ·cases he
  rename_i hmc
  simp only [sie] at he
  subst he
  refine ⟨rfl,yield_still r (v:=.slice (if m=l then q else q.map (·.add (l * i.size))) (hh - l) (m - l)) ?_ (fin m hmc.1)⟩
  obtain ⟨k1,hk1⟩:=natOf_some r hm
  obtain ⟨k2,hk2⟩:=natOf_some r hhh
  have hb:(Instr.sliceBounds true es.length cap (lo.map a.eval) (some (a.eval yh)) (some (a.eval y))).run P w=.ok (l,hh,m) w:=by
   have b1:=run_sliceBound (P:=P) (w:=w) (code:=.slice3Acap) hk1 (show m≤cap by omega)
   have b2:=run_sliceBound (P:=P) (w:=w) (code:=.slice3B) hk2 hmc.1
   have:=runL .slice3C
   cases lo with
   | none=>simp [Instr.sliceBounds,b1,b2] at this ⊢; exact this
   | some y=>simp [Instr.sliceBounds,b1,b2] at this ⊢; simp [this]
  simp [execOp,ho,Instr.sliceAt,Instr.slice,run_underlying ht,hv,hb,run_sizeOf' hi']
end
section
variable {P:Program} {o:Oper} {φ:Nat→Nat} {M0:Mset} {N:Nat} {D:DB} {T:Nat→Option AV} {h:Heap} {a:Act} {w:World}
theorem flatten_get {S:Nat}:∀ {es:List (List PV)} {k:Nat} {e:List PV} {f:Nat},(∀ e ∈ es,e.length=S)→es[k]?=some e→f < S→es.flatten[k * S+f]?=e[f]?
 | [],_,_,_,_,hk,_=>by simp at hk
 | e0 :: es,0,e,f,hl,hk,hf=>by
  simp only [List.getElem?_cons_zero,sie] at hk
  subst hk
  have:=hl e0 zq
  simp only [Nat.zero_mul,Nat.zero_add,List.flatten_cons]
  rw [List.getElem?_append_left zo]
 | e0 :: es,k+1,e,f,hl,hk,hf=>by
  have h0:=hl e0 zq
  simp only [List.getElem?_cons_succ] at hk
  have:=flatten_get (f:=f) (fun e he=>hl e (by simp [he])) hk hf
  rw [List.flatten_cons,List.getElem?_append_right (by rw [h0,Nat.add_mul]; omega),h0,Nat.add_mul,show k * S+1 * S+f - S=k * S+f from by omega]
  exact this
theorem flatten_set {S:Nat}:∀ {es:List (List PV)} {k:Nat} {e e':List PV},(∀ e ∈ es,e.length=S)→es[k]?=some e→e'.length=S→(es.set k e').flatten=es.flatten.take (k * S)++e'++es.flatten.drop (k * S+S)
 | [],_,_,_,_,hk,_=>by simp at hk
 | e0 :: es,0,e,e',hl,hk,hf=>by
  have h0:=hl e0 zq
  simp only [List.set_cons_zero,List.flatten_cons,Nat.zero_mul,Nat.zero_add,List.take_zero,List.nil_append]
  rw [← h0,List.drop_left]
 | e0 :: es,k+1,e,e',hl,hk,hf=>by
  have h0:=hl e0 zq
  simp only [List.getElem?_cons_succ] at hk
  have:=flatten_set (fun e he=>hl e (by simp [he])) hk hf
  simp only [List.set_cons_succ,List.flatten_cons,this]
  have e1:(k+1) * S=e0.length+k * S:=by rw [h0,Nat.add_mul]; omega
  rw [e1,List.take_length_add_append,Nat.add_assoc,List.drop_length_add_append]
  simp [List.append_assoc]
theorem evol_vec_in {t:Nat} {ty:TypeId} {S:Nat} {es es':List (List PV)} {c c':Array Value} (ht:h t=some (.vec ty S es)) (hw:w.heap[φ t]?=some (.cells c ty (0,0))) (hn:es.length≤es'.length) (hsz:c'.size=c.size)
  (r:RelH φ h w M0):Evol φ h w φ (upd h t (.vec ty S es')) (w.setRow (φ t) c')∧HExt φ h w φ (upd h t (.vec ty S es')) (w.setRow (φ t) c'):=by
 have hother:∀ x,x ≠ φ t→(w.setRow (φ t) c').heap[x]?=w.heap[x]?:=fun x hx=>setRow_other w _ x c' hx
 have hself:(w.setRow (φ t) c').heap[φ t]?=some (.cells c' ty (0,0)):=setRow_heap w _ c c' ty _ hw
 have hb:∀ b ty cs,h b=some (.box ty cs)→t ≠ b:=fun b ty cs hb e=>by rw [← e,ht] at hb; cases hb
 have harr:∀ t2 ty2 S2 n2,h t2=some (.arr ty2 S2 n2)→∃ n3,upd h t (.vec ty S es') t2=some (.arr ty2 S2 n3)∧n2≤n3 ∧
   (n3=n2→AKept w (w.setRow (φ t) c') (φ t2) (φ t2) ty2):=by
  intro t2 ty2 S2 n2 h2
  have e:¬ t=t2:=fun e=>by rw [← e,ht] at h2; cases h2
  have hne:φ t2 ≠ φ t:=fun e2=>e (r.inj t2 t (by rw [h2]; simp) (by rw [ht]; simp) e2).symm
  exact ⟨n2,by simp [upd,e,h2],zNR _,fun _=>akept (rfl) (by rw [hother _ hne])⟩
 have hvec:∀ t2 ty2 S2 es2,h t2=some (.vec ty2 S2 es2)→∃ es3,upd h t (.vec ty S es') t2=some (.vec ty2 S2 es3)∧es2.length≤es3.length ∧
   (es3.length=es2.length→φ t2=φ t2∧∀ c0,w.heap[φ t2]?=some (.cells c0 ty2 (0,0))→∃ c1,(w.setRow (φ t) c').heap[φ t2]?=some (.cells c1 ty2 (0,0))∧c1.size=c0.size):=by
  intro t2 ty2 S2 n2 h2
  by_cases e:t=t2
  ·subst e
   rw [ht] at h2
   cases h2
   refine ⟨es',by simp [upd],hn,fun _=>⟨rfl,fun c0 hc0=>⟨c',hself,?_⟩⟩⟩
   rw [hw] at hc0
   cases hc0
   exact hsz
  ·have hne:φ t2 ≠ φ t:=fun e2=>e (r.inj t2 t (by rw [h2]; simp) (by rw [ht]; simp) e2).symm
   exact ⟨n2,by simp [upd,e,h2],zNR _,fun _=>⟨rfl,fun c0 hc0=>⟨c0,by rw [hother _ hne]; exact hc0,rfl⟩⟩⟩
 have hob:∀ d k x,h d=some k→k.ob=some x→(∃ k',upd h t (.vec ty S es') d=some k'∧k'.ob=some x)∧φ d=φ d:=by
  intro d k x hd ho
  have e:¬ t=d:=fun e=>by rw [← e,ht] at hd; cases hd; cases ho
  exact ⟨⟨k,by simp [upd,e,hd],ho⟩,rfl⟩
 refine ⟨⟨rfl,rfl,rfl,by simp,fun x _ hu=>unm_or (unm_some hself) (fun e=>hu.eq (hother x e)),?_,?_,?_,?_,fun t2 ty2 S2 es2 _ h2=>harr t2 ty2 S2 es2 h2,fun t2 ty2 S2 es2 _ h2=>hvec t2 ty2 S2 es2 h2,fun d k x _=>hob d k x⟩,?_,harr,hvec,hob⟩
 ·intro x _ hno
  exact hother x (fun e=>hno t (by rw [ht]; simp) e.symm)
 ·intro x o _ hm
  have e:x ≠ φ t:=fun e=>hm ⟨t,_,ht,e.symm,trivial⟩
  simp [World.cell?,hother x e]
 ·rintro x y _ ⟨d,q,h1,h2,h3⟩
  by_cases e:t=d
  ·subst e
   exact ⟨t,_,ht,h2,trivial⟩
  ·exact ⟨d,q,by simpa [upd,e] using h1,h2,h3⟩
 ·intro d ty' ds _ hd
  exact ⟨⟨ds,by simp [upd,hb d _ _ hd,hd]⟩,rfl⟩
 ·intro d ty' ds hd
  exact ⟨⟨ty',ds,by simp [upd,hb d _ _ hd,hd]⟩,rfl⟩
theorem relH_vec {w':World} {φ':Nat→Nat} {t:Nat} {ty:TypeId} {S:Nat} {es es':List (List PV)} {c':Array Value} {cap:Nat} (ht:h t=some (.vec ty S es)) (r:RelH φ h w M0)
  (E:Evol φ h w φ' (upd h t (.vec ty S es')) w') (X:HExt φ h w φ' (upd h t (.vec ty S es')) w')
  (hφ:∀ b,b ≠ t→φ' b=φ b) (hφt:φ' t=φ t∨φ' t=w.heap.size∧Clear φ h w 1) (hold:∀ d,h d ≠ none→d ≠ t→w'.heap[φ d]?=w.heap[φ d]?)
  (hw':w'.heap[φ' t]?=some (.cells c' ty (0,0))) (hsz:c'.size=cap * S) (hcap:es'.length≤cap) (hmax:cap≤maxLen) (hS:∀ e ∈ es',e.length=S) (h1c:∀ v ∈ c'.toList,v.oneCell'=true)
  (hcs:RepAs φ h w (MM φ h M0) (es'.flatten.map .p) (c'.toList.take (es'.length * S))):RelH φ' (upd h t (.vec ty S es')) w' M0:=by
 have g:∀ d,upd h t (.vec ty S es') d ≠ none→h d ≠ none:=fun d hd=>by
  by_cases e:t=d
  ·rw [← e,ht]; simp
  ·simpa [upd,e] using hd
 refine ⟨?_,?_,?_,fun x y hx=>Nat.lt_of_lt_of_le (r.lt x y hx) E.size,r.gm.evol E⟩
 ·intro d e hd he heq
  by_cases e1:d=t <;> by_cases e2:e=t
  ·rw [e1,e2]
  ·rw [e1,hφ e e2] at heq
   rcases hφt with h3 | ⟨h3,hC⟩
   ·rw [h3] at heq; rw [e1]; exact r.inj t e (by rw [ht]; simp) (g e he) heq
   ·rcases hC e (g e he) with h4 | h4 <;> omega
  ·rw [e2,hφ d e1] at heq
   rcases hφt with h3 | ⟨h3,hC⟩
   ·rw [h3] at heq; rw [e2]; exact r.inj d t (g d hd) (by rw [ht]; simp) heq
   ·rcases hC d (g d hd) with h4 | h4 <;> omega
  ·rw [hφ d e1,hφ e e2] at heq; exact r.inj d e (g d hd) (g e he) heq
 ·intro d q hd
  by_cases e:t=d
  ·subst e
   have:q=.vec ty S es':=by simpa [upd] using hd.symm
   subst this
   exact ⟨c',cap,hw',hsz,hcap,hmax,hS,h1c,(repA_keep (E.keeps M0) X).2 _ _ hcs⟩
  ·have h1:h d=some q:=by simpa [upd,e] using hd
   rw [hφ d (fun e2=>e e2.symm)]
   exact relB_keep (E.keeps M0) X (hold d (by rw [h1]; simp) (fun e2=>e e2.symm)) (r.blk d q h1)
 ·intro d hd o hm
  by_cases e:d=t
  ·subst e
   rcases hφt with h3 | ⟨h3,_⟩
   ·rw [h3] at hm; exact r.fr d (g d hd) o hm
   ·rw [h3] at hm; exact absurd (r.lt _ _ hm) zo
  ·rw [hφ d e] at hm; exact r.fr d (g d hd) o hm
theorem evol_vec_new {w':World} {ob:Obj} {t:Nat} {ty:TypeId} {S:Nat} {es es':List (List PV)} (ht:h t=some (.vec ty S es)) (hn:es.length < es'.length) (hh:w'.heap=w.heap.push ob) (ho:w'.os=w.os) (hta:w'.tape=w.tape) (hu:w'.output=w.output) (r:RelH φ h w M0) (hC:Clear φ h w 1) :
  Evol φ h w (updF φ t w.heap.size) (upd h t (.vec ty S es')) w'∧HExt φ h w (updF φ t w.heap.size) (upd h t (.vec ty S es')) w':=by
 have hold:∀ x,x < w.heap.size→w'.heap[x]?=w.heap[x]?:=fun x hx=>by rw [hh,Array.getElem?_push,if_neg zo]
 have hb:∀ b ty cs,h b=some (.box ty cs)→¬ t=b:=fun b ty cs hb e=>by rw [← e,ht] at hb; cases hb
 have hvec:∀ t2 ty2 S2 n2,h t2=some (.vec ty2 S2 n2)→∃ n3,upd h t (.vec ty S es') t2=some (.vec ty2 S2 n3)∧n2.length≤n3.length ∧
   (n3.length=n2.length→updF φ t w.heap.size t2=φ t2∧∀ c0,w.heap[φ t2]?=some (.cells c0 ty2 (0,0))→∃ c1,w'.heap[φ t2]?=some (.cells c1 ty2 (0,0))∧c1.size=c0.size):=by
  intro t2 ty2 S2 n2 h2
  by_cases e:t=t2
  ·subst e
   rw [ht] at h2
   cases h2
   exact ⟨es',by simp [upd],by omega,fun e=>absurd e zo⟩
  ·exact ⟨n2,by simp [upd,e,h2],zNR _,fun _=>⟨by simp [updF,e],fun c0 hc0=>⟨c0,by rw [hC.lt r (by rw [hh]; simp) hold (by rw [h2]; simp)]; exact hc0,rfl⟩⟩⟩
 have harr:∀ t2 ty2 S2 n2,h t2=some (.arr ty2 S2 n2)→∃ n3,upd h t (.vec ty S es') t2=some (.arr ty2 S2 n3)∧n2≤n3 ∧
   (n3=n2→AKept w w' (φ t2) (updF φ t w.heap.size t2) ty2):=by
  intro t2 ty2 S2 n2 h2
  have e:¬ t=t2:=fun e=>by rw [← e,ht] at h2; cases h2
  exact ⟨n2,by simp [upd,e,h2],zNR _,fun _=>akept (by simp [updF,e]) (by rw [hC.lt r (by rw [hh]; simp) hold (by rw [h2]; simp)])⟩
 have hob:∀ d k x,h d=some k→k.ob=some x→(∃ k',upd h t (.vec ty S es') d=some k'∧k'.ob=some x)∧updF φ t w.heap.size d=φ d:=by
  intro d k x hd ho
  have e:¬ t=d:=fun e=>by rw [← e,ht] at hd; cases hd; cases ho
  exact ⟨⟨k,by simp [upd,e,hd],ho⟩,by simp [updF,e]⟩
 refine ⟨⟨ho,hta,hu,by rw [hh]; simp,fun x hx hm=>hm.eq (hold x hx),fun x hx _=>hold x hx,fun x o hx _=>by simp [World.cell?,hold x hx],?_,?_,fun t2 ty2 S2 es2 _ h2=>harr t2 ty2 S2 es2 h2,fun t2 ty2 S2 es2 _ h2=>hvec t2 ty2 S2 es2 h2,fun d k x _=>hob d k x⟩,?_,harr,hvec,hob⟩
 ·rintro x y hx ⟨d,q,h1,h2,h3⟩
  by_cases e:t=d
  ·simp only [updF,e,if_true] at h2; omega
  ·exact ⟨d,q,by simpa [upd,e] using h1,by simpa [updF,e] using h2,h3⟩
 ·intro d ty' ds _ hd
  have:=hb d _ _ hd
  exact ⟨⟨ds,by simp [upd,this,hd]⟩,by simp [updF,this]⟩
 ·intro d ty' ds hd
  have:=hb d _ _ hd
  exact ⟨⟨ty',ds,by simp [upd,this,hd]⟩,by simp [updF,this]⟩
end
section
variable {P:Program} {o:Oper} {φ:Nat→Nat} {M0:Mset} {N:Nat} {D:DB} {T:Nat→Option AV} {h:Heap} {a:Act} {w:World}
def vIndexAddr (P:Program) (T:Nat→Option AV) (h:Heap) (t:TypeId) (x ix:Operand):Option Res :=
 match P.underlying t,evO T x,evO T ix with
 | some (.slice e),some (.vsl S tk n),some (.p (.val (.int _ k))) =>
  match h tk,P.info? e with
  | some (.vec _ _ es),some i=>if n=es.length∧S=i.size∧0≤k∧k.toNat < n then some (.vptr tk n k.toNat 0,none,[tk]) else none
  | _,_=>none
 | some (.array len e),some (.vptr tk n k0 f),some (.p (.val (.int _ k))) =>
  match h tk,P.info? e with
  | some (.vec _ _ es),some i=>if n=es.length∧0≤k∧k < len then some (.vptr tk n k0 (f+k.toNat * i.size),none,[tk]) else none
  | _,_=>none
 | _,_,_=>none
theorem vIndexAddr_ok (r:Rel φ M0 N D T h a w) {t:TypeId} {x ix:Operand} {u:Res} (ho:o.op=.indexAddr t x ix) (he:vIndexAddr P T h t x ix=some u):u.2.1=none∧Yield P o φ M0 h a w u.1 h:=by
 unfold vIndexAddr at he
 split at he
 ·rename_i e S tk n kk k ht hx hix
  split at he
  ·rename_i ty S' es i hb hi
   split at he
   ·rename_i hc
    simp only [sie] at he
    subst he
    have h2:=r.ev hx
    have hiv:=r.ev hix
    simp only [RepA,RepP] at h2 hiv
    obtain ⟨_,ty2,es2,hb2,hle,hv⟩:=h2
    rw [hb] at hb2
    cases hb2
    obtain ⟨cap,c,hv,_⟩:=hv hc.1
    refine ⟨rfl,yield_still r (v:=.pointer (some ⟨φ tk,k.toNat * i.size,none⟩)) ?_ ?_⟩
    ·have hin:0≤k∧k < (n:Int):=⟨hc.2.2.1,by omega⟩
     simp [execOp,ho,Instr.indexAt,hiv,asIntOf,run_underlying ht,hv,hin,run_sizeOf' hi,Addr.add_lit]
    ·simp only [RepA]
     exact ⟨rfl,ty,S,es,hb,by omega,fun _=>by rw [hc.2.1]; rfl⟩
   ·cases he
  ·cases he
 ·rename_i len e tk n k0 f kk k ht hx hix
  split at he
  ·rename_i ty S' es i hb hi
   split at he
   ·rename_i hc
    simp only [sie] at he
    subst he
    have h2:=r.ev hx
    have hiv:=r.ev hix
    simp only [RepA,RepP] at h2 hiv
    obtain ⟨_,ty2,S2,es2,hb2,hle,hv⟩:=h2
    rw [hb] at hb2
    cases hb2
    have hv:=hv hc.1
    refine ⟨rfl,yield_still r (v:=.pointer (some ⟨φ tk,k0 * S'+(f+k.toNat * i.size),none⟩)) ?_ ?_⟩
    ·simp [execOp,ho,Instr.indexAt,hiv,asIntOf,run_underlying ht,hv,Instr.sureAddr,hc.2.1,hc.2.2,run_sizeOf' hi,Addr.add_lit,Nat.add_assoc]
    ·simp only [RepA]
     exact ⟨rfl,ty,S',es,hb,by omega,fun _=>rfl⟩
   ·cases he
  ·cases he
 ·cases he
def vFieldAddr (P:Program) (T:Nat→Option AV) (h:Heap) (s:TypeId) (x:Operand) (f:Nat):Option Res :=
 match P.underlying s,evO T x with
 | some (.struct fields),some (.vptr tk n k g) =>
  match fields[f]?,h tk with
  | some fl,some (.vec _ _ es) =>
   match P.info? fl.type with
   | some i=>if i.size=0 then none else if n=es.length then some (.vptr tk n k (g+fl.offset),none,[tk]) else none
   | none=>none
  | _,_=>none
 | _,_=>none
theorem vFieldAddr_ok (r:Rel φ M0 N D T h a w) {s:TypeId} {x:Operand} {f:Nat} {u:Res} (ho:o.op=.fieldAddr s x f) (he:vFieldAddr P T h s x f=some u):u.2.1=none∧Yield P o φ M0 h a w u.1 h:=by
 unfold vFieldAddr at he
 split at he
 ·rename_i fields tk n k g hs hx
  split at he
  ·rename_i fl ty S es hf hb
   split at he
   ·rename_i i hi
    split at he
    ·cases he
    ·rename_i hsz
     split at he
     ·rename_i hn
      simp only [sie] at he
      subst he
      have h2:=r.ev hx
      simp only [RepA] at h2
      obtain ⟨_,ty2,S2,es2,hb2,hle,hv⟩:=h2
      rw [hb] at hb2
      cases hb2
      have hv:=hv hn
      refine ⟨rfl,yield_still r (v:=.pointer (some ⟨φ tk,k * S+(g+fl.offset),none⟩)) ?_ ?_⟩
      ·simp [execOp,ho,Instr.fieldAt,run_underlying hs,hf,hv,Instr.sureAddr,fieldPlace,run_sizeOf' hi,hsz,Addr.add_lit,Nat.add_assoc]
      ·simp only [RepA]
       exact ⟨rfl,ty,S,es,hb,by omega,fun _=>rfl⟩
     ·cases he
   ·cases he
  ·cases he
 ·cases he
def vLoad (P:Program) (T:Nat→Option AV) (h:Heap) (ty:TypeId) (x:Operand):Option Res :=
 match P.underlying ty,P.info? ty,evO T x with
 | some d,some i,some (.vptr tk n k f) =>
  match h tk with
  | some (.vec _ _ es) =>
   if n=es.length then
    match es[k]? with
    | some e =>
     if isAggD d then (if f+i.size≤e.length then some (.agg (((e.drop f).take i.size).map .p),none,[tk]) else none)
     else match e[f]? with | some c=>some (.p c,none,[tk]) | none=>none
    | none=>none
   else none
  | _=>none
 | _,_,_=>none
theorem vLoad_ok (r:Rel φ M0 N D T h a w) {ty:TypeId} {x:Operand} {u:Res} (ho:o.op=.load ty x) (he:vLoad P T h ty x=some u):u.2.1=none∧Yield P o φ M0 h a w u.1 h:=by
 unfold vLoad at he
 split at he
 ·rename_i d i tk n k f hd hi hx
  split at he
  ·rename_i tb S es hb
   split at he
   ·rename_i hn
    split at he
    ·rename_i e hk
     have h2:=r.ev hx
     simp only [RepA] at h2
     obtain ⟨_,ty2,S2,es2,hb2,hle,hv⟩:=h2
     rw [hb] at hb2
     cases hb2
     have hv:=hv hn
     obtain ⟨c,cap,hw,hcs,hcap,hmax,hS,h1c,hrep⟩:=r.hp.blk tk _ hb
     have hel:e.length=S:=hS e (List.mem_of_getElem? hk)
     have hcell:∀ f c0,e[f]?=some c0→∃ v,w.cell? ⟨φ tk,k * S+f,none⟩=some v∧RepA φ h w (MM φ h M0) (.p c0) v:=by
      intro f c0 hc0
      have hf:f < S:=by rw [← hel]; exact (zLG.1 hc0).1
      have h3:=flatten_get hS hk hf
      rw [hc0] at h3
      obtain ⟨v,h4,h5⟩:=repAs_get hrep (i:=k * S+f) (x:=.p c0) (by rw [List.getElem?_map,h3]; rfl)
      refine ⟨v,?_,h5⟩
      rw [cell_block hw]
      rw [List.getElem?_take] at h4
      split at h4
      ·simpa using h4
      ·cases h4
     split at he
     ·rename_i hag
      split at he
      ·rename_i hlen
       simp only [sie] at he
       subst he
       have hgen:∀ (m:Nat) (g:Nat),g+m≤e.length→∃ l:List Value,l.length=m∧(∀ j v,l[j]?=some v→w.cell? ⟨φ tk,k * S+g+j,none⟩=some v)∧RepAs φ h w (MM φ h M0) (((e.drop g).take m).map .p) l:=by
        intro m
        induction m with
        | zero=>intro g _; exact ⟨[],rfl,by simp,by simp [RepAs]⟩
        | succ m ih =>
         intro g hg
         have hlt:g < e.length:=by omega
         obtain ⟨v,h3,h4⟩:=hcell g e[g] (List.getElem?_eq_getElem hlt)
         obtain ⟨l,q1,q2,q3⟩:=ih (g+1) zo
         refine ⟨v :: l,by simp [q1],fun j u hj=>?_,?_⟩
         ·cases j with
          | zero=>simp at hj; subst hj; simpa using h3
          | succ j=>have:=q2 j u (by simpa using hj); rwa [show k * S+(g+1)+j=k * S+g+(j+1) from by omega] at this
         ·rw [List.drop_eq_getElem_cons hlt]
          simp only [List.take_succ_cons,zMC,RepAs]
          exact ⟨v,l,rfl,h4,q3⟩
       obtain ⟨l,q1,q2,q3⟩:=hgen i.size f hlen
       refine ⟨rfl,yield_still r (v:=.agg l.toArray) ?_ (by simp only [RepA]; exact ⟨l,rfl,q3⟩)⟩
       have:=run_loadAgg (w:=w) (r:=φ tk) (off:=k * S+f) hd hi hag l q1 q2
       simp [execOp,ho,Instr.loadAt,hv,Instr.sureAddr,this]
      ·cases he
     ·rename_i hag
      split at he
      ·rename_i c0 hc0
       simp only [sie] at he
       subst he
       obtain ⟨v,h3,h4⟩:=hcell f c0 hc0
       refine ⟨rfl,yield_still r (v:=v) ?_ h4⟩
       have:=run_loadOne (P:=P) (w:=w) (r:=φ tk) (off:=k * S+f) hd (by simpa using hag) h3
       simp [execOp,ho,Instr.loadAt,hv,Instr.sureAddr,this]
      ·cases he
    ·cases he
   ·cases he
  ·cases he
 ·cases he
def vStore (P:Program) (T:Nat→Option AV) (h:Heap) (ty:TypeId) (x y:Operand):Option Res :=
 match P.info? ty,evO T x,evO T y with
 | some i,some (.vptr tk n k f),some v =>
  match h tk,cellsOf v with
  | some (.vec tb S es),some vs =>
   match toPVs vs,es[k]? with
   | some ps,some e=>if n=es.length∧vs.length=i.size∧f+ps.length≤e.length then some (.p (.val undef),some (tk, .vec tb S (es.set k (e.take f++ps++e.drop (f+ps.length)))),[tk]) else none
   | _,_=>none
  | _,_=>none
 | _,_,_=>none
theorem app3 {α:Type} (A B C:List α) (j:Nat):(A++B++C)[j]?=if j < A.length then A[j]? else if j - A.length < B.length then B[j - A.length]? else C[j - A.length - B.length]?:=by
 rw [List.append_assoc]
 by_cases h1:j < A.length
 ·rw [if_pos h1,List.getElem?_append_left h1]
 ·rw [if_neg h1,List.getElem?_append_right zo]
  by_cases h2:j - A.length < B.length
  ·rw [if_pos h2,List.getElem?_append_left h2]
  ·rw [if_neg h2,List.getElem?_append_right zo]
theorem toPVs_repAs {M:Mset}:∀ {xs:List AV} {ys:List PV} {l:List Value},toPVs xs=some ys→RepAs φ h w M xs l→RepAs φ h w M (ys.map .p) l
 | [],ys,l,he,hr=>by simp only [toPVs,sie] at he; subst he; simpa [RepAs] using hr
 | x :: xs,ys,l,he,hr=>by
  simp only [toPVs] at he
  split at he
  ·rename_i y ys' h1 h2
   simp only [sie] at he
   subst he
   simp only [RepAs] at hr
   obtain ⟨v,vs,rfl,h3,h4⟩:=hr
   simp only [zMC,RepAs]
   refine ⟨v,vs,rfl,?_,toPVs_repAs h2 h4⟩
   simp only [RepA]
   exact toPV_rep h1 h3
  ·cases he
theorem vStore_ok (r:Rel φ M0 N D T h a w) {ty:TypeId} {x y:Operand} {u:Res} (ho:o.op=.store ty x y) (he:vStore P T h ty x y=some u):Yield P o φ M0 h a w u.1 (ap h u.2.1):=by
 unfold vStore at he
 split at he
 ·rename_i i tk n k f v hi hx hy
  have h2:=r.ev hx
  have h3:=r.ev hy
  simp only [RepA] at h2
  split at he
  ·rename_i tb S es vs hb hvs
   split at he
   ·rename_i ps e hps hk
    split at he
    ·rename_i hc
     obtain ⟨hn,hlen,hfit⟩:=hc
     simp only [sie] at he
     subst he
     obtain ⟨_,ty2,S2,es2,hb2,hle,hv⟩:=h2
     rw [hb] at hb2
     cases hb2
     have hv:=hv hn
     obtain ⟨c,cap,hw,hcs,hcap,hmax,hS,h1c,hrep⟩:=r.hp.blk tk _ hb
     have hel:e.length=S:=hS e (List.mem_of_getElem? hk)
     obtain ⟨h4,h5,h6⟩:=cellsOf_rep hvs h3
     have hl1:=repAs_length h4
     have h7:=toPVs_repAs hps h4
     have hl7:=repAs_length h7
     simp only [zLM] at hl7
     have hklt:k < es.length:=(zLG.1 hk).1
     have hks:k * S+S≤es.length * S:=by have:(k+1) * S≤es.length * S:=Nat.mul_le_mul_right _ hklt; rw [Nat.add_mul] at this; omega
     have hes:es.length * S≤c.size:=by rw [hcs]; exact Nat.mul_le_mul_right _ hcap
     have hoff:k * S+f+(a.eval y).cells.toList.length≤c.size:=by omega
     have hst:=run_storeCells_at P (φ tk) (k * S+f) tb (a.eval y).cells.toList 0 c w hw (by simpa using hoff) h5
     simp only [Nat.add_zero] at hst
     have hne:(e.take f++ps++e.drop (f+ps.length)).length=S:=by simp; omega
     have hfl:=flatten_set hS hk hne
     let C:Array Value:=(c.toList.take (k * S+f)++(a.eval y).cells.toList++c.toList.drop (k * S+f+(a.eval y).cells.toList.length)).toArray
     have hCs:C.size=c.size:=by simp [C] at hoff ⊢; omega
     have hfl0:=flatten_length hS
     have he0:e=(es.flatten.drop (k * S)).take S:=by
      apply List.ext_getElem?
      intro j
      by_cases hj:j < S
      ·rw [List.getElem?_take,if_pos hj,List.getElem?_drop,flatten_get hS hk hj]
      ·rw [List.getElem?_eq_none zo,List.getElem?_eq_none (by simp; omega)]
     have hnew:RepAs φ h w (MM φ h M0) ((es.set k (e.take f++ps++e.drop (f+ps.length))).flatten.map .p) (C.toList.take ((es.set k (e.take f++ps++e.drop (f+ps.length))).length * S)):=by
      have e1:(es.set k (e.take f++ps++e.drop (f+ps.length))).flatten=es.flatten.take (k * S+f)++ps++es.flatten.drop (k * S+f+ps.length):=by
       rw [hfl,he0]
       rw [List.take_take,Nat.min_eq_left zo,List.drop_take,List.drop_drop]
       have e2:es.flatten.take (k * S)++(es.flatten.drop (k * S)).take f=es.flatten.take (k * S+f):=by rw [List.take_add]
       have e3:(es.flatten.drop (k * S+(f+ps.length))).take (S - (f+ps.length))++es.flatten.drop (k * S+S)=es.flatten.drop (k * S+f+ps.length):=by
        have:=List.take_append_drop (S - (f+ps.length)) (es.flatten.drop (k * S+(f+ps.length)))
        rw [List.drop_drop] at this
        rw [show k * S+(f+ps.length)+(S - (f+ps.length))=k * S+S from by omega] at this
        rw [this,Nat.add_assoc]
       rw [← e2,← e3]
       simp [List.append_assoc]
      rw [e1,List.length_set]
      have e4:C.toList.take (es.length * S)=(c.toList.take (es.length * S)).take (k * S+f)++(a.eval y).cells.toList++(c.toList.take (es.length * S)).drop (k * S+f+(a.eval y).cells.toList.length):=by
       apply List.ext_getElem?
       intro j
       have hll:(c.toList.take (k * S+f)).length=k * S+f:=by simp; omega
       have hll2:((c.toList.take (es.length * S)).take (k * S+f)).length=k * S+f:=by simp; omega
       rw [List.getElem?_take]
       have hB:(c.toList.take (es.length * S)).length=es.length * S:=by simp; omega
       by_cases hj:j < es.length * S
       ·rw [if_pos hj]
        simp only [C]
        rw [app3,app3,hll,hll2]
        by_cases hj1:j < k * S+f
        ·rw [if_pos hj1,if_pos hj1,List.getElem?_take,if_pos hj1,List.getElem?_take,if_pos hj1,List.getElem?_take,if_pos hj]
        ·rw [if_neg hj1,if_neg hj1]
         by_cases hj2:j - (k * S+f) < (a.eval y).cells.toList.length
         ·rw [if_pos hj2,if_pos hj2]
         ·rw [if_neg hj2,if_neg hj2,List.getElem?_drop,List.getElem?_drop,List.getElem?_take,if_pos zo]
       ·rw [if_neg hj,List.getElem?_eq_none]
        rw [zLA,zLA,hll2,zLD,hB]
        omega
      rw [e4]
      have hpl:ps.length=(a.eval y).cells.toList.length:=hl7
      simp only [List.map_append,List.map_take,List.map_drop]
      rw [← hpl]
      exact repAs_append (repAs_append (repAs_take _ hrep) h7) (repAs_drop _ hrep)
     obtain ⟨E,X⟩:=evol_vec_in (φ:=φ) (h:=h) (w:=w) (M0:=M0) (es':=es.set k (e.take f++ps++e.drop (f+ps.length))) (c':=C) hb hw zq hCs r.hp
     have hself:(w.setRow (φ tk) C).heap[φ tk]?=some (.cells C tb (0,0)):=setRow_heap w _ c C tb _ hw
     have hH:=relH_vec (c':=C) (cap:=cap) hb r.hp E X (fun _ _=>rfl) (.inl rfl) (fun d hd hdt=>setRow_other w _ _ C (fun e=>hdt (r.hp.inj d tk hd (by rw [hb]; simp) e))) hself (by rw [hCs,hcs]) (by simpa using hcap) hmax
      (fun e' he'=>by rcases List.mem_or_eq_of_mem_set he' with h8 | h8; exact hS e' h8; rw [h8]; exact hne)
      (fun v hv=>by
       simp only [C,List.mem_append] at hv
       rcases hv with (hv | hv) | hv
       ·exact h1c v (List.mem_of_mem_take hv)
       ·exact h5 v hv
       ·exact h1c v (List.mem_of_mem_drop hv)) hnew
     refine ⟨.skip,undef,_,φ,?_, .inr ⟨rfl,rfl⟩,by simp [RepA,RepP],hH,E,X⟩
     have hsz:(a.eval y).cells.size=i.size:=by simp at hl1; omega
     simp [execOp,ho,Instr.storeAt,hv,Instr.sureAddr,storeVar,run_sizeOf' hi,hsz,hst,C]
    ·cases he
   ·cases he
  ·cases he
 ·cases he
def vLen (P:Program) (T:Nat→Option AV) (h:Heap) (t:TypeId) (x:Operand):Option Res :=
 match P.underlying t,evO T x with
 | some (.slice _),some (.vsl _ tk n)=>match h tk with | some (.vec _ _ es)=>if n=es.length then some (.p (.val (.int .i64 n)),none,[tk]) else none | _=>none
 | some (.slice _),some .vnil=>some (.p (.val (.int .i64 0)),none,[])
 | _,_=>none
theorem vLen_ok (r:Rel φ M0 N D T h a w) {t:TypeId} {x:Operand} {u:Res} (ho:o.op=.call ⟨.builtin .len,#[x],#[t]⟩) (he:vLen P T h t x=some u):u.2.1=none∧Yield P o φ M0 h a w u.1 h:=by
 unfold vLen at he
 split at he
 ·rename_i e S tk n ht hx
  split at he
  ·rename_i ty S' es hb
   split at he
   ·rename_i hn
    simp only [sie] at he
    subst he
    have h2:=r.ev hx
    simp only [RepA] at h2
    obtain ⟨_,ty2,es2,hb2,hle,hv⟩:=h2
    rw [hb] at hb2
    cases hb2
    obtain ⟨cap,c,hv,_⟩:=hv hn
    refine ⟨rfl,yield_still r (v:=.int .i64 n) ?_ (by simp [RepA,RepP])⟩
    simp [execOp,ho,resolve,invoke,builtin,Builtin.len_,run_underlying ht,hv,goInt]
   ·cases he
  ·cases he
 ·rename_i e ht hx
  simp only [sie] at he
  subst he
  have h2:=r.ev hx
  simp only [RepA] at h2
  refine ⟨rfl,yield_still r (v:=.int .i64 0) ?_ (by simp [RepA,RepP])⟩
  simp [execOp,ho,resolve,invoke,builtin,Builtin.len_,run_underlying ht,h2,goInt]
 ·cases he
end
section
variable {P:Program} {o:Oper} {φ:Nat→Nat} {M0:Mset} {N:Nat} {D:DB} {T:Nat→Option AV} {h:Heap} {a:Act} {w:World}
def allOneV:List Value→Bool
 | []=>true
 | v :: l=>v.oneCell'&&allOneV l
theorem allOneV_spec:∀ {l:List Value},allOneV l=true→∀ v ∈ l,v.oneCell'=true
 | [],_,v,hv=>by simp at hv
 | x :: l,hl,v,hv=>by
  simp only [allOneV,bae] at hl
  rcases List.mem_cons.1 hv with rfl | hv
  ·exact hl.1
  ·exact allOneV_spec hl.2 v hv
theorem mem_zeroCells {z:Array Value} {n:Nat} {v:Value} (hv:v ∈ (Builtin.zeroCells z n).toList) (hz:0 < z.size):v ∈ z.toList:=by
 simp only [Builtin.zeroCells,Array.toList_map,List.mem_map] at hv
 obtain ⟨k,_,rfl⟩:=hv
 have:k % z.size < z.size:=Nat.mod_lt _ hz
 rw [getElem!_pos z _ this]
 simp
theorem repAs_of_get {M:Mset}:∀ {cs:List PV} {l:List Value},l.length=cs.length→(∀ (j:Nat) c u,cs[j]?=some c→l[j]?=some u→RepP w M c u)→RepAs φ h w M (cs.map .p) l
 | [],l,hl,_=>by simp at hl; subst hl; simp [RepAs]
 | c :: cs,[],hl,_=>by simp at hl
 | c :: cs,u :: l,hl,hr=>by
  simp only [zMC,RepAs]
  refine ⟨u,l,rfl,?_,repAs_of_get (by simpa using hl) (fun j c' u' h1 h2=>hr (j+1) c' u' (by simpa using h1) (by simpa using h2))⟩
  simp only [RepA]
  exact hr 0 c u zq zq
def vAppend (P:Program) (T:Nat→Option AV) (h:Heap) (dst:Option Tmp) (t:TypeId) (s x:Operand):Option Res :=
  match P.underlying t,evO T s,evO T x with
  | some (.slice e),some sv,some xv =>
    match P.info? e with
    | some i =>
      match i.zero,elemsN i.size xv with
      | some z,some es' =>
        if z.cells.size=i.size∧0 < i.size∧allOneV z.cells.toList=true then
          match sv with
          | .vnil =>
            if es'=[] then some (.vnil,none,[]) else
            (match dst with
             | some d=>if h d=none∧es'.length * i.bytes≤140737488355328∧es'.length≤140737488355328 then some (.vsl i.size d es'.length,some (d, .vec e i.size es'),[d]) else none
             | none=>none)
          | .vsl S tk n =>
            (match h tk with
             | some (.vec ty S' es) =>
               if ty=e∧S'=S∧S=i.size∧n=es.length∧(es.length+es'.length) * i.bytes≤140737488355328∧es.length+es'.length≤140737488355328 then
                 if es'=[] then some (.vsl S tk n,some (tk, .vec e S es),[tk]) else
                 some (.vsl S tk (n+es'.length),some (tk, .vec e S (es++es')),[tk]) else none
             | _=>none)
          | _=>none
        else none
      | _,_=>none
    | none=>none
  | _,_,_=>none
theorem vAppend_ok (r:Rel φ M0 N D T h a w) {t:TypeId} {s x:Operand} {u:Res} (ho:o.op=.call ⟨.builtin .append,#[s,x],#[t,t]⟩) (he:vAppend P T h o.dst t s x=some u):Yield P o φ M0 h a w u.1 (ap h u.2.1):=by
 unfold vAppend at he
 split at he
 rotate_left
 ·cases he
 rename_i e sv xv ht hs hx
 split at he
 rotate_left
 ·cases he
 rename_i i hi
 split at he
 rotate_left
 ·cases he
 rename_i z es' hz hel
 split at he
 rotate_left
 ·cases he
 rename_i hzs
 refine Yield.of_lift r 1 fun φ r E0 X0 hC=>?_
 have hxr:=elemsN_rep hel (r.ev hx)
 have hsr:=r.ev hs
 have hz1:∀ n,∀ v ∈ (Builtin.zeroCells z.cells n).toList,v.oneCell'=true:=fun n v hv=>allOneV_spec hzs.2.2 v (mem_zeroCells hv zo)
 split at he
 ·simp only [RepA] at hsr
  split at he
  ·rename_i hes0
   subst hes0
   simp only [sie] at he
   subst he
   simp only [ap]
   refine yield_still r (v:=.slice none 0 0) ?_ (by simp [RepA])
   simp only [RepP] at hxr
   rcases hxr with ⟨rr,oo,cap,h1,_⟩ | ⟨_,q,cap,h1⟩
   ·exact exec_append ho (by rw [hsr,h1]; exact run_append_zero ht hi _ _ _ _ _ zq)
   ·exact exec_append ho (by rw [hsr,h1]; exact run_append_zero ht hi _ _ _ _ _ zq)
  ·rename_i hne
   split at he
   rotate_left
   ·cases he
   rename_i d hdst
   split at he
   rotate_left
   ·cases he
   rename_i hc
   obtain ⟨hd,hby,hmx⟩:=hc
   simp only [sie] at he
   subst he
   simp only [ap]
   have hne':es' ≠ []:=fun e=>hne e
   obtain ⟨rr,oo,cap,l,h1,h2,h3,h4,h5,h6,h7,h8⟩:=slice_vals hxr hne'
   have hpos:0 < es'.length:=List.length_pos_iff.2 hne'
   have hrun:=run_append_nil (P:=P) w t o.type e i z ht hi hz ⟨rr,oo,none⟩ es'.length cap l (by rw [h5]) (fun j v hj=>by rw [Addr.add_lit]; exact h6 j v hj) hpos zo zo
   have hge:=grownCap_ge w es'.length 0 e
   have hgm:grownCap w es'.length 0 e≤maxLen:=grownCap_le_maxLen w es'.length 0 e (by unfold maxLen; omega)
   generalize grownCap w es'.length 0 e=gc at *
   let C:Array Value:=l.toArray++Builtin.zeroCells z.cells (gc - es'.length)
   let w':World:=w.drew.alloc (.cells C e)
   obtain ⟨E,X⟩:=evol_new (w:=w) (w':=w') (o:=.cells C e) (b:=d) (k:=.vec e i.size es') (φ:=φ) (h:=h) (M0:=M0) rfl rfl rfl rfl hd r.hp hC
   have hCs:C.size=gc * i.size:=by
    simp only [C,Array.size_append,List.size_toArray,size_zeroCells,hzs.1,h5]
    rw [← Nat.add_mul]; congr 1; omega
   have hself:w'.heap[w.heap.size]?=some (.cells C e (0,0)):=by show (w.heap.push _)[w.heap.size]?=_; simp
   have hC1:∀ v ∈ C.toList,v.oneCell'=true:=by
    intro v hv
    simp only [C,Array.toList_append,List.mem_append] at hv
    rcases hv with hv | hv
    ·exact h7 v hv
    ·exact hz1 _ v hv
   have hCt:C.toList.take (es'.length * i.size)=l:=by
    simp only [C,Array.toList_append]
    rw [← h5,List.take_left]
   have hrep:RepAs φ h w (MM φ h M0) (es'.flatten.map .p) l:=repAs_of_get (by rw [h5,flatten_length h3]) h8
   have hH:RelH (updF φ d w.heap.size) (upd h d (.vec e i.size es')) w' M0:=relH_new rfl hd r.hp hC E X ⟨C,gc,hself,hCs,hge,hgm,h3,hC1,by rw [hCt]; exact (repA_keep (E.keeps M0) X).2 _ _ hrep⟩
   refine ⟨_, .slice (some ⟨w.heap.size,0,none⟩) es'.length gc,w',updF φ d w.heap.size,exec_append ho (by rw [hsr,h1]; exact hrun), .inl rfl,?_,hH,E,X⟩
   simp only [RepA]
   exact ⟨rfl,e,es',by simp [upd],zNR _,fun _=>⟨gc,C,by simp [updF],by simpa [updF] using hself,hCs,hge,hgm⟩⟩
 ·rename_i S tk n
  split at he
  rotate_left
  ·cases he
  rename_i ty S' es htk
  simp only [RepA] at hsr
  obtain ⟨ho1,ty2,es2,htk2,hle2,hfront⟩:=hsr
  rw [htk] at htk2
  cases htk2
  split at he
  rotate_left
  ·cases he
  rename_i hc
  obtain ⟨rfl,_,rfl,rfl,hby,hmx⟩:=hc
  obtain ⟨cap0,c0,hsv,hw0,hsz0,hcap0,hmax0⟩:=hfront rfl
  obtain ⟨c1,cap1,hw1,hcs1,hcap1,hmax1,hS1,h1c1,hrep1⟩:=r.hp.blk tk _ htk
  rw [hw0] at hw1
  cases hw1
  split at he
  ·rename_i hes
   simp only [sie] at he
   subst he
   simp only [ap]
   have hupd:upd h tk (.vec ty i.size es)=h:=by
    funext b
    simp only [upd]
    split
    ·rename_i e; rw [← e,htk]
    ·rfl
   rw [hupd]
   refine yield_still r (v:=a.eval s) ?_ (by simp only [RepA]; exact ⟨ho1,ty,es,htk,hle2,hfront⟩)
   have hxq:∃ q c,a.eval x=.slice q 0 c:=by
    subst hes
    simp only [RepP] at hxr
    rcases hxr with ⟨rr,oo,cap,h1,_⟩ | ⟨_,q,cap,h1⟩
    ·exact ⟨_,_,by simpa using h1⟩
    ·exact ⟨q,cap,h1⟩
   obtain ⟨q,c,hq⟩:=hxq
   exact exec_append ho (by rw [hq,hsv]; exact run_append_zero ht hi _ _ _ _ _ hcap0)
  ·rename_i hes
   simp only [sie] at he
   subst he
   simp only [ap]
   obtain ⟨rr,oo,cap,l,h1,h2,h3,h4,h5,h6,h7,h8⟩:=slice_vals hxr hes
   have hpos:0 < es'.length:=List.length_pos_iff.2 hes
   have hrepl:RepAs φ h w (MM φ h M0) (es'.flatten.map .p) l:=repAs_of_get (by rw [h5,flatten_length h3]) h8
   have hSall:∀ e ∈ es++es',e.length=i.size:=fun e he=>(List.mem_append.1 he).elim (hS1 e) (h3 e)
   have hle0:es.length * i.size≤c0.size:=by rw [hsz0]; exact Nat.mul_le_mul_right _ hcap0
   by_cases hroom:es.length+es'.length≤cap0
   ·have hfit:es.length * i.size+l.length≤c0.size:=by rw [h5,hsz0,← Nat.add_mul]; exact Nat.mul_le_mul_right _ hroom
    have hrun:=run_append_room (P:=P) w t o.type ty i ht hi (φ tk) es.length cap0 c0 hw0 ⟨rr,oo,none⟩ es'.length cap l (by rw [h5]) (fun j v hj=>by rw [Addr.add_lit]; exact h6 j v hj) h7 hroom hfit
    let C:Array Value:=(c0.toList.take (es.length * i.size)++l++c0.toList.drop (es.length * i.size+l.length)).toArray
    have htl:(c0.toList.take (es.length * i.size)).length=es.length * i.size:=by simp; omega
    have hCs:C.size=c0.size:=by simp [C]; omega
    obtain ⟨E,X⟩:=evol_vec_in (φ:=φ) (h:=h) (w:=w) (M0:=M0) (es':=es++es') (c':=C) htk hw0 zq hCs r.hp
    have hself:(w.setRow (φ tk) C).heap[φ tk]?=some (.cells C ty (0,0)):=setRow_heap w _ c0 C ty _ hw0
    have hC1:∀ v ∈ C.toList,v.oneCell'=true:=by
     intro v hv
     simp only [C,List.mem_append] at hv
     rcases hv with (hv | hv) | hv
     ·exact h1c1 v (List.mem_of_mem_take hv)
     ·exact h7 v hv
     ·exact h1c1 v (List.mem_of_mem_drop hv)
    have hCt:C.toList.take ((es++es').length * i.size)=c0.toList.take (es.length * i.size)++l:=by
     simp only [C]
     have:(es++es').length * i.size=(c0.toList.take (es.length * i.size)++l).length:=by rw [zLA,zLA,htl,h5,Nat.add_mul]
     rw [this,List.take_left]
    have hH:RelH φ (upd h tk (.vec ty i.size (es++es'))) (w.setRow (φ tk) C) M0 :=
     relH_vec htk r.hp E X (fun _ _=>rfl) (.inl rfl) (fun d hd hdt=>setRow_other w _ _ C (fun e=>hdt (r.hp.inj d tk hd (by rw [htk]; simp) e))) hself (by rw [hCs,hsz0]) (by simpa using hroom) hmax0 hSall hC1
      (by rw [hCt,List.flatten_append,List.map_append]; exact repAs_append hrep1 hrepl)
    refine ⟨_, .slice (some ⟨φ tk,0,none⟩) (es.length+es'.length) cap0,_,φ,exec_append ho (by rw [hsv,h1]; exact hrun), .inl rfl,?_,hH,E,X⟩
    simp only [RepA]
    exact ⟨rfl,ty,es++es',by simp [upd],by simp,fun _=>⟨cap0,C,rfl,hself,by rw [hCs,hsz0],hroom,hmax0⟩⟩
   ·have g1':(c0.toList.take (es.length * i.size)).length=es.length * i.size:=by simp; omega
    have hrun:=run_append_grow (P:=P) w t o.type ty i z ht hi hz ⟨φ tk,0,none⟩ es.length cap0 (c0.toList.take (es.length * i.size)) g1' (fun j v hj=>by
      rw [Addr.add_lit,Nat.zero_add,cell_block hw0]
      rw [List.getElem?_take] at hj
      split at hj
      ·simpa using hj
      ·cases hj) ⟨rr,oo,none⟩ es'.length cap l (by rw [h5])
     (fun j v hj=>by rw [Addr.add_lit]; exact h6 j v hj) zo zo (growslice_fits zo hby)
    have hge:=grownCap_ge w (es.length+es'.length) cap0 ty
    have hgm:grownCap w (es.length+es'.length) cap0 ty≤maxLen:=grownCap_le_maxLen w _ cap0 ty (by unfold maxLen; omega)
    generalize grownCap w (es.length+es'.length) cap0 ty=gc at *
    let C:Array Value:=(c0.toList.take (es.length * i.size)).toArray++l.toArray++Builtin.zeroCells z.cells (gc - (es.length+es'.length))
    let w':World:=w.drew.alloc (.cells C ty)
    obtain ⟨E,X⟩:=evol_vec_new (w:=w) (w':=w') (ob:=.cells C ty) (φ:=φ) (h:=h) (M0:=M0) (es':=es++es') htk (by simp; exact hpos) rfl rfl rfl rfl r.hp hC
    have hCs:C.size=gc * i.size:=by
     simp only [C,Array.size_append,List.size_toArray,size_zeroCells,hzs.1,h5,g1']
     rw [← Nat.add_mul,← Nat.add_mul]; congr 1; omega
    have hself:w'.heap[w.heap.size]?=some (.cells C ty (0,0)):=by show (w.heap.push _)[w.heap.size]?=_; simp
    have hφt:updF φ tk w.heap.size tk=w.heap.size:=by simp [updF]
    have hC1:∀ v ∈ C.toList,v.oneCell'=true:=by
     intro v hv
     simp only [C,Array.toList_append,List.mem_append] at hv
     rcases hv with (hv | hv) | hv
     ·exact h1c1 v (List.mem_of_mem_take hv)
     ·exact h7 v hv
     ·exact hz1 _ v hv
    have hCt:C.toList.take ((es++es').length * i.size)=c0.toList.take (es.length * i.size)++l:=by
     simp only [C,Array.toList_append]
     have:(es++es').length * i.size=(c0.toList.take (es.length * i.size)++l).length:=by rw [zLA,zLA,g1',h5,Nat.add_mul]
     rw [this,List.take_left]
    have hH:RelH (updF φ tk w.heap.size) (upd h tk (.vec ty i.size (es++es'))) w' M0 :=
     relH_vec htk r.hp E X (fun b hb=>by simp [updF,Ne.symm hb]) (.inr ⟨hφt,hC⟩) (fun d hd _=>hC.lt r.hp (w':=w') (by show (w.heap.push _).size≤_; simp) (fun x hx=>by show (w.heap.push _)[x]?=_; rw [Array.getElem?_push,if_neg zo]) hd) (by rw [hφt]; exact hself) hCs (by simpa using hge) hgm hSall hC1
      (by rw [hCt,List.flatten_append,List.map_append]; exact repAs_append hrep1 hrepl)
    refine ⟨_, .slice (some ⟨w.heap.size,0,none⟩) (es.length+es'.length) gc,w',updF φ tk w.heap.size,exec_append ho (by rw [hsv,h1]; exact hrun), .inl rfl,?_,hH,E,X⟩
    simp only [RepA]
    exact ⟨rfl,ty,es++es',by simp [upd],by simp,fun _=>⟨gc,C,by rw [hφt],by rw [hφt]; exact hself,hCs,hge,hgm⟩⟩
 ·cases he
def vMake (P:Program) (T:Nat→Option AV) (h:Heap) (dst:Option Tmp) (t:TypeId) (x y:Operand):Option Res :=
 match P.underlying t,evO T x,evO T y,dst with
 | some (.slice e),some (.p (.val (.int kl l))),some (.p (.val (.int kc c))),some d =>
  match P.info? e with
  | some i =>
   match i.zero,h d with
   | some z,none =>
    match toPVs (z.cells.toList.map ofV) with
    | some ps =>
     if z.cells.size=i.size∧0 < i.size∧allOneV z.cells.toList=true∧ps.length=i.size∧0≤l∧l≤c∧(i.bytes:Int) * c≤281474976710656∧c≤140737488355328 then
      some (.vsl i.size d l.toNat,some (d, .vec e i.size (List.replicate l.toNat ps)),[d])
     else none
    | none=>none
   | _,_=>none
  | none=>none
 | _,_,_,_=>none
theorem toPVs_map_ofV {M:Mset}:∀ {l:List Value} {ps:List PV},toPVs (l.map ofV)=some ps→RepAs φ h w M (ps.map .p) l
 | l,ps,he=>toPVs_repAs he (repAs_ofV l)
where repAs_ofV:∀ l:List Value,RepAs φ h w M (l.map ofV) l
 | []=>by simp [RepAs]
 | x :: l=>by simp only [zMC,RepAs]; exact ⟨x,l,rfl,rep_ofV x,repAs_ofV l⟩
theorem flatten_map_replicate {α β:Type} (f:α→β) (l:List α) (n:Nat):(List.replicate n l).flatten.map f=(List.replicate n (l.map f)).flatten:=by
 induction n with
 | zero=>rfl
 | succ n ih=>simp [List.replicate_succ,ih]
theorem vMake_ok (r:Rel φ M0 N D T h a w) {t:TypeId} {x y:Operand} {u:Res} (ho:o.op=.makeSlice t x y) (he:vMake P T h o.dst t x y=some u):Yield P o φ M0 h a w u.1 (ap h u.2.1):=by
 unfold vMake at he
 split at he
 rotate_left
 ·cases he
 rename_i e kl l kc c d ht hx hy hdst
 split at he
 rotate_left
 ·cases he
 rename_i i hi
 split at he
 rotate_left
 ·cases he
 rename_i z hz hd
 split at he
 rotate_left
 ·cases he
 rename_i ps hps
 split at he
 rotate_left
 ·cases he
 rename_i hc
 obtain ⟨h1,h2,h3,h4,h5,h6,h7,h8⟩:=hc
 simp only [sie] at he
 subst he
 simp only [ap]
 refine Yield.of_lift r 1 fun φ r E0 X0 hC=>?_
 have hxv:=r.ev hx
 have hyv:=r.ev hy
 simp only [RepA,RepP] at hxv hyv
 have hrun:=run_make (P:=P) w t e i z ht hi hz kl kc l c h5 h6 h7 zo
 let C:Array Value:=madeCells z.cells (c.toNat * i.size)
 let w':World:=w.alloc (.cells C e)
 have hCl:C.toList=(List.replicate c.toNat z.cells.toList).flatten:=by
  have:=range_rep z.cells.toList i.size (by simpa using h1) h2 c.toNat
  simp only [Array.toArray_toList] at this
  rw [← this]
  simp [C,madeCells,Array.toList_range]
 obtain ⟨E,X⟩:=evol_new (w:=w) (w':=w') (o:=.cells C e) (b:=d) (k:=.vec e i.size (List.replicate l.toNat ps)) (φ:=φ) (h:=h) (M0:=M0) rfl rfl rfl rfl hd r.hp hC
 have hself:w'.heap[w.heap.size]?=some (.cells C e (0,0)):=by show (w.heap.push _)[w.heap.size]?=_; simp
 have hCs:C.size=c.toNat * i.size:=by simp [C,madeCells]
 have hle:l.toNat≤c.toNat:=by omega
 have hmx:c.toNat≤maxLen:=by unfold maxLen; omega
 have hC1:∀ v ∈ C.toList,v.oneCell'=true:=by
  intro v hv
  rw [hCl] at hv
  obtain ⟨q,hq,hv⟩:=List.mem_flatten.1 hv
  rw [List.eq_of_mem_replicate hq] at hv
  exact allOneV_spec h3 v hv
 have hCt:C.toList.take ((List.replicate l.toNat ps).length * i.size)=(List.replicate l.toNat z.cells.toList).flatten:=by
  rw [hCl,List.length_replicate,show c.toNat=l.toNat+(c.toNat - l.toNat) from by omega,← List.replicate_append_replicate,List.flatten_append]
  have:l.toNat * i.size=((List.replicate l.toNat z.cells.toList).flatten).length:=by simp [h1]
  rw [this,List.take_left]
 have hrep:RepAs φ h w (MM φ h M0) ((List.replicate l.toNat ps).flatten.map .p) ((List.replicate l.toNat z.cells.toList).flatten):=by
  rw [flatten_map_replicate]
  exact repAs_replicate (toPVs_map_ofV hps) _
 have hH:RelH (updF φ d w.heap.size) (upd h d (.vec e i.size (List.replicate l.toNat ps))) w' M0 :=
  relH_new rfl hd r.hp hC E X ⟨C,c.toNat,hself,hCs,by simp; omega,hmx,fun e' he'=>by rw [List.eq_of_mem_replicate he']; exact h4,hC1,by rw [hCt]; exact (repA_keep (E.keeps M0) X).2 _ _ hrep⟩
 refine ⟨_, .slice (some ⟨w.heap.size,0,none⟩) l.toNat c.toNat,w',updF φ d w.heap.size,?_, .inl rfl,?_,hH,E,X⟩
 ·simp [execOp,ho,hxv,hyv,hrun,w',C]
 ·simp only [RepA]
  exact ⟨rfl,e,List.replicate l.toNat ps,by simp [upd],by simp,fun _=>⟨c.toNat,C,by simp [updF],by simpa [updF] using hself,hCs,hle,hmx⟩⟩
def vLit (P:Program) (h:Heap) (dst:Option Tmp) (t:TypeId) (parts:Array (Nat × Operand)):Option Res :=
 match P.underlying t,dst,parts.toList with
 | some (.slice e),some d,[] =>
  match P.info? e,h d with
  | some i,none=>some (.vsl i.size d 0,some (d, .vec e i.size []),[d])
  | _,_=>none
 | _,_,_=>none
theorem vLit_ok (r:Rel φ M0 N D T h a w) {t:TypeId} {parts:Array (Nat × Operand)} {u:Res} (ho:o.op=.buildSlice t 0 parts) (he:vLit P h o.dst t parts=some u):Yield P o φ M0 h a w u.1 (ap h u.2.1):=by
 unfold vLit at he
 split at he
 rotate_left
 ·cases he
 rename_i e d ht hdst hps
 split at he
 rotate_left
 ·cases he
 rename_i i hi hd
 simp only [sie] at he
 subst he
 simp only [ap]
 refine Yield.of_lift r 1 fun φ r E0 X0 hC=>?_
 have hp0:parts=#[]:=by apply Array.ext'; simpa using hps
 let w':World:=w.alloc (.cells #[] e)
 obtain ⟨E,X⟩:=evol_new (w:=w) (w':=w') (o:=.cells #[] e) (b:=d) (k:=.vec e i.size []) (φ:=φ) (h:=h) (M0:=M0) rfl rfl rfl rfl hd r.hp hC
 have hself:w'.heap[w.heap.size]?=some (.cells #[] e (0,0)):=by show (w.heap.push _)[w.heap.size]?=_; simp
 have hH:RelH (updF φ d w.heap.size) (upd h d (.vec e i.size [])) w' M0 :=
  relH_new rfl hd r.hp hC E X ⟨#[],0,hself,by simp,by simp,by unfold maxLen; omega,by simp,by simp,by simp [RepAs]⟩
 refine ⟨_, .slice (some ⟨w.heap.size,0,none⟩) 0 0,w',updF φ d w.heap.size,?_, .inl rfl,?_,hH,E,X⟩
 ·have e2:(Array.range 0).map (fun _=>(default:Value))=#[]:=by apply Array.ext'; simp
  subst hp0
  simp only [execOp,ho,Instr.buildSlice,Sem.run_bind,run_underlying ht,run_sizeOf' hi,Result.andThen_ok,Nat.zero_mul,if_true,Sem.run_pure]
  simp [newRow,newObj,Sem.run,w',e2,Instr.fill]
 ·simp only [RepA]
  exact ⟨rfl,e,[],by simp [upd],by simp,fun _=>⟨0,#[],by simp [updF],by simpa [updF] using hself,by simp,by simp,by unfold maxLen; omega⟩⟩
def isV:Option AV→Bool
 | some (.vptr _ _ _ _)=>true
 | some (.vsl _ _ _)=>true
 | some .vnil=>true
 | _=>false
variable {T':Nat→Option AV} {h':Heap}
theorem vIndexAddr_local {t:TypeId} {x ix:Operand} {u:Res} (he:vIndexAddr P T h t x ix=some u) (hx:evO T' x=evO T x) (hi:evO T' ix=evO T ix) (hh:∀ b ∈ u.2.2,h' b=h b):vIndexAddr P T' h' t x ix=some u:=by
 unfold vIndexAddr at he ⊢
 rw [hx,hi]
 split at he
 ·split at he
  ·rename_i hb hi2
   split at he
   ·rename_i hc
    simp only [sie] at he
    subst he
    simp only [hh _ (List.mem_singleton.2 rfl),hb,hi2]
    rw [if_pos hc]
   ·cases he
  ·cases he
 ·split at he
  ·rename_i hb hi2
   split at he
   ·rename_i hc
    simp only [sie] at he
    subst he
    simp only [hh _ (List.mem_singleton.2 rfl),hb,hi2]
    rw [if_pos hc]
   ·cases he
  ·cases he
 ·cases he
theorem vFieldAddr_local {t:TypeId} {x:Operand} {f:Nat} {u:Res} (he:vFieldAddr P T h t x f=some u) (hx:evO T' x=evO T x) (hh:∀ b ∈ u.2.2,h' b=h b):vFieldAddr P T' h' t x f=some u:=by
 unfold vFieldAddr at he ⊢
 rw [hx]
 split at he
 ·split at he
  ·rename_i hf hb
   split at he
   ·rename_i hi
    split at he
    ·cases he
    ·rename_i hz
     split at he
     ·rename_i hc
      simp only [sie] at he
      subst he
      simp only [hh _ (List.mem_singleton.2 rfl),hb,hf,hi]
      rw [if_neg hz,if_pos hc]
     ·cases he
   ·cases he
  ·cases he
 ·cases he
theorem vLoad_local {t:TypeId} {x:Operand} {u:Res} (he:vLoad P T h t x=some u) (hx:evO T' x=evO T x) (hh:∀ b ∈ u.2.2,h' b=h b):vLoad P T' h' t x=some u:=by
 unfold vLoad at he ⊢
 rw [hx]
 split at he
 ·rename_i d i tk n k f _ _ _
  split at he
  ·rename_i ty S es hb
   have hb':h' tk=some (.vec ty S es):=by
    rw [← hb]
    refine hh tk ?_
    split at he
    ·split at he
     ·split at he
      ·split at he
       ·simp only [sie] at he; subst he; simp
       ·cases he
      ·split at he
       ·simp only [sie] at he; subst he; simp
       ·cases he
     ·cases he
    ·cases he
   simp only [hb']
   exact he
  ·cases he
 ·cases he
theorem vStore_local {t:TypeId} {x y:Operand} {u:Res} (he:vStore P T h t x y=some u) (hx:evO T' x=evO T x) (hy:evO T' y=evO T y) (hh:∀ b ∈ u.2.2,h' b=h b):vStore P T' h' t x y=some u:=by
 unfold vStore at he ⊢
 rw [hx,hy]
 split at he
 ·split at he
  ·rename_i hb hv
   split at he
   ·rename_i hp hk
    split at he
    ·rename_i hc
     simp only [sie] at he
     subst he
     simp only [hh _ (List.mem_singleton.2 rfl),hb,hv,hp,hk]
     rw [if_pos hc]
    ·cases he
   ·cases he
  ·cases he
 ·cases he
def vNil (T:Nat→Option AV) (h:Heap) (x:Operand):Option Res :=
 match evO T x with
 | some (.vptr tk n k f)=>match h tk with
  | some (.vec _ _ es)=>if n=es.length then some (.vptr tk n k f,none,[tk]) else none
  | _=>none
 | _=>none
theorem vNil_local {x:Operand} {u:Res} (he:vNil T h x=some u) (hx:evO T' x=evO T x) (hh:∀ b ∈ u.2.2,h' b=h b):vNil T' h' x=some u:=by
 unfold vNil at he ⊢
 rw [hx]
 split at he
 ·rename_i tk n k f _
  split at he
  ·rename_i ty S es hb
   have hb':h' tk=some (.vec ty S es):=by
    rw [← hb]
    refine hh tk ?_
    split at he
    ·simp only [sie] at he; subst he; simp
    ·cases he
   simp only [hb']
   exact he
  ·cases he
 ·cases he
theorem vLen_local {t:TypeId} {x:Operand} {u:Res} (he:vLen P T h t x=some u) (hx:evO T' x=evO T x) (hh:∀ b ∈ u.2.2,h' b=h b):vLen P T' h' t x=some u:=by
 unfold vLen at he ⊢
 rw [hx]
 split at he
 ·split at he
  ·rename_i hb
   split at he
   ·rename_i hc
    simp only [sie] at he
    subst he
    simp only [hh _ (List.mem_singleton.2 rfl),hb]
    rw [if_pos hc]
   ·cases he
  ·cases he
 ·exact he
 ·cases he
theorem vAppend_local {dst:Option Tmp} {t:TypeId} {s x:Operand} {u:Res} (he:vAppend P T h dst t s x=some u) (hs:evO T' s=evO T s) (hx:evO T' x=evO T x) (hh:∀ b ∈ u.2.2,h' b=h b):vAppend P T' h' dst t s x=some u:=by
 unfold vAppend at he ⊢
 rw [hs,hx]
 split at he
 ·split at he
  ·split at he
   ·split at he
    ·rename_i hc0
     rw [if_pos hc0]
     split at he
     ·split at he
      ·rename_i hes; rw [if_pos hes]; exact he
      ·rename_i hes
       rw [if_neg hes]
       split at he
       ·rename_i d
        split at he
        ·rename_i hc
         simp only [sie] at he
         subst he
         have:h' d=none:=by rw [hh d zq]; exact hc.1
         simp only [this]
         rw [if_pos ⟨trivial,hc.2⟩]
        ·cases he
       ·cases he
     ·rename_i S tk n _
      split at he
      ·rename_i ty S' es htk
       have htk':h' tk=some (.vec ty S' es):=by
        rw [← htk]
        refine hh tk ?_
        split at he
        ·split at he
         ·simp only [sie] at he; subst he; simp
         ·simp only [sie] at he; subst he; simp
        ·cases he
       simp only [htk']
       exact he
      ·cases he
     ·cases he
    ·cases he
   ·cases he
  ·cases he
 ·cases he
theorem vMake_local {dst:Option Tmp} {t:TypeId} {x y:Operand} {u:Res} (he:vMake P T h dst t x y=some u) (hx:evO T' x=evO T x) (hy:evO T' y=evO T y) (hh:∀ b ∈ u.2.2,h' b=h b):vMake P T' h' dst t x y=some u:=by
 unfold vMake at he ⊢
 rw [hx,hy]
 split at he
 ·rename_i d _ _ _
  split at he
  ·split at he
   ·rename_i hz hd
    split at he
    ·rename_i hp
     split at he
     ·rename_i hc
      simp only [sie] at he
      subst he
      simp only [hh d zq,hd,hz,hp]
      rw [if_pos hc]
     ·cases he
    ·cases he
   ·cases he
  ·cases he
 ·cases he
theorem vLit_local {dst:Option Tmp} {t:TypeId} {ps:Array (Nat × Operand)} {u:Res} (he:vLit P h dst t ps=some u) (hh:∀ b ∈ u.2.2,h' b=h b):vLit P h' dst t ps=some u:=by
 unfold vLit at he ⊢
 split at he
 ·rename_i d _ _
  split at he
  ·rename_i hi hd
   simp only [sie] at he
   subst he
   simp only [hh d zq,hd,hi]
  ·cases he
 ·cases he
end
theorem vNil_ok {P:Program} {o:Oper} {φ:Nat→Nat} {M0:Mset} {N:Nat} {D:DB} {T:Nat→Option AV} {h:Heap} {a:Act} {w:World} (r:Rel φ M0 N D T h a w) {x:Operand} {u:Res} (ho:o.op=.nilCheck x) (he:vNil T h x=some u):u.2.1=none∧Yield P o φ M0 h a w u.1 h:=by
 unfold vNil at he
 split at he
 ·rename_i tk n k f hx
  split at he
  ·rename_i ty S es hb
   split at he
   ·rename_i hn
    simp only [sie] at he
    subst he
    have h2:=r.ev hx
    refine ⟨rfl,yield_still r (v:=a.eval x) ?_ h2⟩
    simp only [RepA] at h2
    obtain ⟨_,ty2,S2,es2,hb2,hle,hv⟩:=h2
    rw [hb] at hb2
    cases hb2
    have h3:=hv hn
    simp [execOp,ho,h3]
   ·cases he
  ·cases he
 ·cases he
section
variable {P:Program} {o:Oper} {φ:Nat→Nat} {M0:Mset} {N:Nat} {D:DB} {T:Nat→Option AV} {h:Heap} {a:Act} {w:World}
def aIndexS (P:Program) (T:Nat→Option AV) (t:TypeId) (x ix:Operand):Option Res :=
 match P.underlying t,evO T x,evO T ix with
 | some .string,some (.p (.val (.string s))),some (.p (.val (.int _ n))) =>
  if 0≤n then (match (byt s)[n.toNat]? with | some b=>some (.p (.val (.int .u8 b.toNat)),none,[]) | none=>none) else none
 | _,_,_=>none
theorem indexS_ok (r:Rel φ M0 N D T h a w) {t:TypeId} {x ix:Operand} {u:Res} (ho:o.op=.index t x ix) (he:aIndexS P T t x ix=some u):u.2.1=none∧Yield P o φ M0 h a w u.1 h:=by
 unfold aIndexS at he
 split at he
 ·rename_i s k n ht hx hi
  split at he
  ·rename_i hn
   split at he
   ·rename_i b hb
    simp only [sie] at he
    subst he
    have h1:=r.ev hx
    have h2:=r.ev hi
    simp only [RepA,RepP] at h1 h2
    refine ⟨rfl,yield_still r (v:=.int .u8 b.toNat) ?_ (by simp [RepA,RepP])⟩
    have hb':s[n.toNat]?=some b:=by
     simp only [byt] at hb
     rw [← hb]
     rw [Array.getElem?_toList]
     rfl
    simp [execOp,ho,Instr.index,h1,h2,asIntOf,run_underlying ht,hn,hb']
   ·cases he
  ·cases he
 ·cases he
def aLenS (P:Program) (T:Nat→Option AV) (t:TypeId) (x:Operand):Option Res :=
 match P.underlying t,evO T x with
 | some .string,some (.p (.val (.string s)))=>some (.p (.val (.int .i64 (byt s).length)),none,[])
 | _,_=>none
theorem lenS_ok (r:Rel φ M0 N D T h a w) {t:TypeId} {x:Operand} {u:Res} (ho:o.op=.call ⟨.builtin .len,#[x],#[t]⟩) (he:aLenS P T t x=some u):u.2.1=none∧Yield P o φ M0 h a w u.1 h:=by
 unfold aLenS at he
 split at he
 ·rename_i s ht hx
  simp only [sie] at he
  subst he
  have h1:=r.ev hx
  simp only [RepA,RepP] at h1
  refine ⟨rfl,yield_still r (v:=.int .i64 s.size) ?_ ?_⟩
  ·simp only [execOp,ho,resolve,invoke,builtin,Builtin.len_,Sem.run_bind,Sem.run_pure,Result.andThen_ok]
   simp [run_underlying ht,h1,goInt]
  ·simp only [RepA,RepP]; rfl
 ·cases he
def partV (P:Program) (ty:TypeId) (l:List Value) (off:Nat):Option Value :=
 match P.underlying ty,P.info? ty with
 | some d,some i=>if isAggD d then (if off+i.size≤l.length then some (.agg ((l.drop off).take i.size).toArray) else none) else l[off]?
 | _,_=>none
def eqV (P:Program):Nat→TypeId→Value→Value→Option Bool
 | 0,_,_,_=>none
 | d+1,t,x,y =>
  match P.underlying t with
  | some .bool=>match x,y with | .bool a, .bool b=>some (a == b) | _,_=>none
  | some (.int _)=>match x,y with | .int k a, .int k' b=>if k=k' then some (eqI a b) else none | _,_=>none
  | some .string=>match x,y with | .string a, .string b=>some (eqS (byt a) (byt b)) | _,_=>none
  | some (.struct fields)=>match x,y with | .agg xs, .agg ys=>if P.stoodInHeld t then none else eqFs P d xs.toList ys.toList fields.toList | _,_=>none
  | some (.array len e)=>match x,y with | .agg xs, .agg ys=>if (P.info? e).isNone then none else eqAs P d e (P.cellsOf e) xs.toList ys.toList (List.range len) | _,_=>none
  | _=>none
where
 eqFs (P:Program) (d:Nat) (xs ys:List Value):List Field→Option Bool
 | []=>some true
 | f :: fs =>
  if f.name="_" then eqFs P d xs ys fs else
  match partV P f.type xs f.offset,partV P f.type ys f.offset with
  | some a,some b=>match eqV P d f.type a b,eqFs P d xs ys fs with | some p,some q=>some (p&&q) | _,_=>none
  | _,_=>none
 eqAs (P:Program) (d:Nat) (e:TypeId) (c:Nat) (xs ys:List Value):List Nat→Option Bool
 | []=>some true
 | i :: is =>
  match partV P e xs (i * c),partV P e ys (i * c) with
  | some a,some b=>match eqV P d e a b,eqAs P d e c xs ys is with | some p,some q=>some (p&&q) | _,_=>none
  | _,_=>none
theorem partV_ok {ty:TypeId} {l:List Value} {off:Nat} {v:Value} (he:partV P ty l off=some v):(part ty l.toArray off).run P w=.ok v w:=by
 unfold partV at he
 split at he
 ·rename_i d i hd hi
  split at he
  ·rename_i hag
   split at he
   ·rename_i hl
    simp only [sie] at he
    subst he
    simp [part,run_isAgg hd,hag,run_sizeOf' hi]
   ·cases he
  ·rename_i hag
   have hag':isAggD d=false:=by simpa using hag
   simp [part,run_isAgg hd,hag',he]
 ·cases he
theorem eqV_ok:∀ (d:Nat),(∀ (t:TypeId) (x y:Value) (b:Bool),eqV P d t x y=some b→∀ D,d≤D→(Op.equalIn D t x y).run P w=.ok b w) ∧
  (∀ (xs ys:List Value) (fs:List Field) (b:Bool),eqV.eqFs P d xs ys fs=some b→∀ D,d≤D→(Op.eqFields D xs.toArray ys.toArray fs).run P w=.ok b w)
 | 0=>by
  refine ⟨fun t x y b he=>by simp [eqV] at he,?_⟩
  intro xs ys fs
  induction fs with
  | nil=>intro b he D _; simp only [eqV.eqFs,sie] at he; subst he; simp [Op.eqFields]
  | cons f fs ih =>
   intro b he D hD
   simp only [eqV.eqFs] at he
   split at he
   ·rename_i hn
    simp only [Op.eqFields,hn,ne_eq,not_true_eq_false,if_false]
    exact ih b he D hD
   ·split at he
    ·simp [eqV] at he
    ·cases he
 | d+1=>by
  obtain ⟨i1,i2⟩:=eqV_ok d
  have j1:∀ (t:TypeId) (x y:Value) (b:Bool),eqV P (d+1) t x y=some b→∀ D,d+1≤D→(Op.equalIn D t x y).run P w=.ok b w:=by
   intro t x y b he D hD
   obtain ⟨D',rfl⟩:∃ D',D=D'+1:=⟨D - 1,by omega⟩
   unfold eqV at he
   split at he
   ·rename_i ht
    split at he
    ·simp only [sie] at he; subst he; simp [Op.equalIn,run_underlying ht]
    ·cases he
   ·rename_i k0 ht
    split at he
    ·rename_i k p k' q
     split at he
     ·rename_i hk
      simp only [sie] at he; subst he; subst hk; simp [Op.equalIn,run_underlying ht,eqI]
     ·cases he
    ·cases he
   ·rename_i ht
    split at he
    ·rename_i p q
     simp only [sie] at he; subst he
     have:(p == q)=eqS (byt p) (byt q):=by
      rw [beq_toListBytes,ByteArray.toList_eq,ByteArray.toList_eq]; rfl
     simp [Op.equalIn,run_underlying ht,this]
    ·cases he
   ·rename_i fields ht
    split at he
    ·rename_i xs ys
     split at he
     ·cases he
     ·rename_i hp
      have hp':P.stoodInHeld t=false:=by simpa using hp
      have hf:P.fieldsOf t=fields:=by simp [Program.fieldsOf,ht]
      rw [run_equalIn_struct w D' t xs ys (by rw [hf]; exact ht) hp',hf]
      have:=i2 xs.toList ys.toList fields.toList b he D' zo
      simpa using this
    ·cases he
   ·rename_i len e ht
    split at he
    ·rename_i xs ys
     split at he
     ·cases he
     ·rename_i hi
      obtain ⟨i,hi⟩:∃ i,P.info? e=some i:=by
       cases h:P.info? e with
       | none=>simp [h] at hi
       | some i=>exact ⟨i,rfl⟩
      rw [run_equalIn_array w D' xs ys ht hi]
      have key:∀ (is:List Nat) (b:Bool),eqV.eqAs P d e (P.cellsOf e) xs.toList ys.toList is=some b→(Op.eqItems D' e (P.cellsOf e) xs ys is).run P w=.ok b w:=by
       intro is
       induction is with
       | nil=>intro b he; simp only [eqV.eqAs,sie] at he; subst he; simp [Op.eqItems]
       | cons j is ih =>
        intro b he
        simp only [eqV.eqAs] at he
        split at he
        ·rename_i p q hp hq
         split at he
         ·rename_i b1 b2 h1 h2
          simp only [sie] at he
          subst he
          have p1:=partV_ok (P:=P) (w:=w) hp
          have p2:=partV_ok (P:=P) (w:=w) hq
          simp only [Array.toArray_toList] at p1 p2
          have p3:=i1 _ _ _ _ h1 D' zo
          have p4:=ih _ h2
          cases b1 <;> simp [Op.eqItems,p1,p2,p3,p4]
         ·cases he
        ·cases he
      exact key _ _ he
    ·cases he
   ·cases he
  refine ⟨j1,?_⟩
  intro xs ys fs
  induction fs with
  | nil=>intro b he D _; simp only [eqV.eqFs,sie] at he; subst he; simp [Op.eqFields]
  | cons f fs ih =>
   intro b he D hD
   simp only [eqV.eqFs] at he
   split at he
   ·rename_i hn
    simp only [Op.eqFields,hn,ne_eq,not_true_eq_false,if_false]
    exact ih b he D hD
   ·rename_i hn
    split at he
    ·rename_i p q hp hq
     split at he
     ·rename_i b1 b2 h1 h2
      simp only [sie] at he
      subst he
      simp only [Op.eqFields,ne_eq,hn,not_false_eq_true,if_true,Sem.run_bind,partV_ok (w:=w) hp,partV_ok (w:=w) hq,Result.andThen_ok,j1 _ _ _ _ h1 D hD]
      cases b1
      ·simp
      ·simpa using ih b2 h2 D hD
     ·cases he
    ·cases he
theorem equal_of' {t:TypeId} {x y:Value} {b:Bool} (h:∀ D,4≤D→(Op.equalIn D t x y).run P w=.ok b w):(Op.equal t x y).run P w=.ok b w:=h 10000 zo
theorem equal_of {t:TypeId} {x y:Value} {b:Bool} (h:∀ D,(Op.equalIn (D+1) t x y).run P w=.ok b w):(Op.equal t x y).run P w=.ok b w:=h 9999
def isConst:Operand→Bool
 | .const _=>true
 | _=>false
def aEqT (P:Program) (T:Nat→Option AV) (op:BinOp) (tx:TypeId) (x y:Operand):Option Bool :=
 match evO T x,evO T y with
 | some (.ifc _ _),some (.p (.val .nilIface))=>match P.underlying tx with | some (.interface _)=>some false | _=>none
 | some (.p (.val .nilIface)),some (.ifc _ _)=>match P.underlying tx with | some (.interface _)=>some false | _=>none
 | some (.p (.val .nilIface)),some (.p (.val .nilIface))=>match P.underlying tx with | some (.interface _)=>if isConst x||isConst y then some true else none | _=>none
 | some (.p (.val (.bool a))),some (.p (.val (.bool b)))=>match P.underlying tx with | some .bool=>some (a == b) | _=>none
 | some (.agg xs),some (.agg ys) =>
  if P.eqGuardType P.depth tx then none else
  match toVs xs,toVs ys with
  | some vx,some vy=>eqV P 4 tx (.agg vx.toArray) (.agg vy.toArray)
  | _,_=>none
 | _,_=>none
def aEq (P:Program) (T:Nat→Option AV) (op:BinOp) (tx:TypeId) (x y:Operand):Option Res :=
 match op with
 | .eql=>match aEqT P T op tx x y with | some b=>some (.p (.val (.bool (opq b))),none,[]) | none=>none
 | .neq=>match aEqT P T op tx x y with | some b=>some (.p (.val (.bool (!opq b))),none,[]) | none=>none
 | _=>none
theorem eqT_run (r:Rel φ M0 N D T h a w) {op:BinOp} {tx:TypeId} {x y:Operand} {b:Bool} (he:aEqT P T op tx x y=some b) :
  (eqGuard op tx x y (a.eval x) (a.eval y)).run P w=.ok () w∧(Op.equal tx (a.eval x) (a.eval y)).run P w=.ok b w ∧
   (binOp .eql tx (a.eval x) (a.eval y)=(do pure (.bool (← Op.equal tx (a.eval x) (a.eval y))))∧binOp .neq tx (a.eval x) (a.eval y)=(do pure (.bool (!(← Op.equal tx (a.eval x) (a.eval y)))))):=by
 unfold aEqT at he
 split at he
 ·rename_i t v hx hy
  have h1:=r.ev hx
  have h2:=r.ev hy
  simp only [RepA,RepP] at h1 h2
  obtain ⟨z,h1,_⟩:=h1
  split at he
  ·rename_i ms ht
   simp only [sie] at he
   subst he
   rw [h1,h2]
   refine ⟨by cases op <;> simp [eqGuard],equal_of fun D=>by simp [Op.equalIn,run_underlying ht],rfl,rfl⟩
  ·cases he
 ·rename_i t v hx hy
  have h1:=r.ev hx
  have h2:=r.ev hy
  simp only [RepA,RepP] at h1 h2
  obtain ⟨z,h2,_⟩:=h2
  split at he
  ·rename_i ms ht
   simp only [sie] at he
   subst he
   rw [h1,h2]
   refine ⟨by cases op <;> simp [eqGuard],equal_of fun D=>by simp [Op.equalIn,run_underlying ht],rfl,rfl⟩
  ·cases he
 ·rename_i hx hy
  have h1:=r.ev hx
  have h2:=r.ev hy
  simp only [RepA,RepP] at h1 h2
  split at he
  ·rename_i ms ht
   split at he
   ·rename_i hc
    simp only [sie] at he
    subst he
    rw [h1,h2]
    refine ⟨?_,equal_of fun D=>by simp [Op.equalIn,run_underlying ht],rfl,rfl⟩
    cases x <;> cases y <;> simp [isConst] at hc <;> cases op <;> simp [eqGuard]
   ·cases he
  ·cases he
 ·rename_i p q hx hy
  have h1:=r.ev hx
  have h2:=r.ev hy
  simp only [RepA,RepP] at h1 h2
  split at he
  ·rename_i ht
   simp only [sie] at he
   subst he
   rw [h1,h2]
   refine ⟨by cases op <;> simp [eqGuard],equal_of fun D=>by simp [Op.equalIn,run_underlying ht],rfl,rfl⟩
  ·cases he
 ·rename_i xs ys hx hy
  have h1:=r.ev hx
  have h2:=r.ev hy
  simp only [RepA] at h1 h2
  obtain ⟨lx,h1,h3⟩:=h1
  obtain ⟨ly,h2,h4⟩:=h2
  split at he
  ·cases he
  ·rename_i hg
   have hg':P.eqGuardType P.depth tx=false:=by simpa using hg
   split at he
   ·rename_i vx vy hvx hvy
    have e1:=toV_rep.2 _ _ _ h3 hvx
    have e2:=toV_rep.2 _ _ _ h4 hvy
    subst e1 e2
    rw [h1,h2]
    exact ⟨run_eqGuard_agg w op tx x y _ _ hg',equal_of' fun D hD=>(eqV_ok 4).1 _ _ _ _ he D hD,rfl,rfl⟩
   ·cases he
 ·cases he
theorem eq_ok (r:Rel φ M0 N D T h a w) {op:BinOp} {tx ty:TypeId} {x y:Operand} {u:Res} (ho:o.op=.binOp op tx x y ty) (he:aEq P T op tx x y=some u):u.2.1=none∧Yield P o φ M0 h a w u.1 h:=by
 unfold aEq at he
 split at he
 ·split at he
  ·rename_i b hb
   simp only [sie] at he
   subst he
   obtain ⟨g1,g2,g3,_⟩:=eqT_run r hb
   refine ⟨rfl,yield_still r (v:=.bool b) ?_ (by simp [RepA,RepP,opq])⟩
   simp only [execOp,ho,Sem.run_bind,g1,g2,g3,Result.andThen_ok,Sem.run_pure]
  ·cases he
 ·split at he
  ·rename_i b hb
   simp only [sie] at he
   subst he
   obtain ⟨g1,g2,_,g3⟩:=eqT_run r hb
   refine ⟨rfl,yield_still r (v:=.bool (!b)) ?_ (by simp [RepA,RepP,opq])⟩
   simp only [execOp,ho,Sem.run_bind,g1,g2,g3,Result.andThen_ok,Sem.run_pure]
  ·cases he
 ·cases he
end
section
variable {P:Program} {o:Oper} {φ:Nat→Nat} {M0:Mset} {N:Nat} {D:DB} {T T':Nat→Option AV} {h h':Heap} {a:Act} {w:World}
def tIndexAddr (P:Program) (T:Nat→Option AV) (h:Heap) (t:TypeId) (x ix:Operand):Option Res :=
 match P.underlying t,evO T x,evO T ix with
 | some (.slice e),some (.vtl S tk n k0 m),some (.p (.val (.int _ k))) =>
  match h tk,P.info? e with
  | some (.vec _ _ es),some i=>if n=es.length∧S=i.size∧0≤k∧k.toNat < m then some (.vptr tk n (k0+k.toNat) 0,none,[tk]) else none
  | _,_=>none
 | _,_,_=>none
theorem tIndexAddr_ok (r:Rel φ M0 N D T h a w) {t:TypeId} {x ix:Operand} {u:Res} (ho:o.op=.indexAddr t x ix) (he:tIndexAddr P T h t x ix=some u):u.2.1=none∧Yield P o φ M0 h a w u.1 h:=by
 unfold tIndexAddr at he
 split at he
 rotate_left
 ·cases he
 rename_i e S tk n k0 m kk k ht hx hix
 split at he
 rotate_left
 ·cases he
 rename_i ty S' es i hb hi
 split at he
 rotate_left
 ·cases he
 rename_i hc
 simp only [sie] at he
 subst he
 have h2:=r.ev hx
 have hiv:=r.ev hix
 simp only [RepA,RepP] at h2 hiv
 obtain ⟨_,ty2,es2,hb2,hle,hv⟩:=h2
 rw [hb] at hb2
 cases hb2
 obtain ⟨hkm,cap,c,hv,_,_,hcap,_⟩:=hv hc.1
 have hne:¬ cap=k0:=by omega
 rw [if_neg hne] at hv
 refine ⟨rfl,yield_still r (v:=.pointer (some ⟨φ tk,k0 * S+k.toNat * i.size,none⟩)) ?_ ?_⟩
 ·have hin:0≤k∧k < (m:Int):=⟨hc.2.2.1,by omega⟩
  simp [execOp,ho,Instr.indexAt,hiv,asIntOf,run_underlying ht,hv,hin,run_sizeOf' hi,Addr.add_lit]
 ·simp only [RepA]
  exact ⟨rfl,ty,S,es,hb,by omega,fun _=>by rw [hc.2.1,Nat.add_mul]; rfl⟩
theorem tIndexAddr_local {t:TypeId} {x ix:Operand} {u:Res} (he:tIndexAddr P T h t x ix=some u) (hx:evO T' x=evO T x) (hi:evO T' ix=evO T ix) (hh:∀ b ∈ u.2.2,h' b=h b):tIndexAddr P T' h' t x ix=some u:=by
 unfold tIndexAddr at he ⊢
 rw [hx,hi]
 split at he
 ·split at he
  ·rename_i hb hi2
   split at he
   ·rename_i hc
    simp only [sie] at he
    subst he
    simp only [hh _ (List.mem_singleton.2 rfl),hb,hi2]
    rw [if_pos hc]
   ·cases he
  ·cases he
 ·cases he
def tLen (P:Program) (T:Nat→Option AV) (h:Heap) (t:TypeId) (x:Operand):Option Res :=
 match P.underlying t,evO T x with
 | some (.slice _),some (.vtl _ tk n _ m)=>match h tk with | some (.vec _ _ es)=>if n=es.length then some (.p (.val (.int .i64 m)),none,[tk]) else none | _=>none
 | _,_=>none
theorem tLen_ok (r:Rel φ M0 N D T h a w) {t:TypeId} {x:Operand} {u:Res} (ho:o.op=.call ⟨.builtin .len,#[x],#[t]⟩) (he:tLen P T h t x=some u):u.2.1=none∧Yield P o φ M0 h a w u.1 h:=by
 unfold tLen at he
 split at he
 rotate_left
 ·cases he
 rename_i e S tk n k0 m ht hx
 split at he
 rotate_left
 ·cases he
 rename_i ty S' es hb
 split at he
 rotate_left
 ·cases he
 rename_i hn
 simp only [sie] at he
 subst he
 have h2:=r.ev hx
 simp only [RepA] at h2
 obtain ⟨_,ty2,es2,hb2,hle,hv⟩:=h2
 rw [hb] at hb2
 cases hb2
 obtain ⟨_,cap,c,hv,_⟩:=hv hn
 refine ⟨rfl,yield_still r (v:=.int .i64 m) ?_ (by simp [RepA,RepP])⟩
 simp [execOp,ho,resolve,invoke,builtin,Builtin.len_,run_underlying ht,hv,goInt]
theorem tLen_local {t:TypeId} {x:Operand} {u:Res} (he:tLen P T h t x=some u) (hx:evO T' x=evO T x) (hh:∀ b ∈ u.2.2,h' b=h b):tLen P T' h' t x=some u:=by
 unfold tLen at he ⊢
 rw [hx]
 split at he
 ·split at he
  ·rename_i hb
   split at he
   ·rename_i hc
    simp only [sie] at he
    subst he
    simp only [hh _ (List.mem_singleton.2 rfl),hb]
    rw [if_pos hc]
   ·cases he
  ·cases he
 ·cases he
def tSlice (P:Program) (T:Nat→Option AV) (h:Heap) (t:TypeId) (x:Operand) (lo hi mx:Option Operand):Option Res :=
 match P.underlying t,evO T x,mx with
 | some (.slice e),some (.vsl S tk n),none =>
  match h tk,P.info? e,natOf T 0 lo,natOf T n hi with
  | some (.vec _ _ es),some i,some l,some hh=>if n=es.length∧S=i.size∧l≤hh∧hh≤n then some (.vtl S tk n l (hh - l),none,[tk]) else none
  | _,_,_,_=>none
 | _,_,_=>none
theorem tSlice_ok (r:Rel φ M0 N D T h a w) {t:TypeId} {x:Operand} {lo hi mx:Option Operand} {u:Res} (ho:o.op=.slice t x lo hi mx) (he:tSlice P T h t x lo hi mx=some u):u.2.1=none∧Yield P o φ M0 h a w u.1 h:=by
 unfold tSlice at he
 split at he
 rotate_left
 ·cases he
 rename_i e S tk n ht hx
 split at he
 rotate_left
 ·cases he
 rename_i ty S' es i l hh hb hi' hl hhh
 split at he
 rotate_left
 ·cases he
 rename_i hc
 obtain ⟨hn,hS,hc1,hc2⟩:=hc
 simp only [sie] at he
 subst he
 have h2:=r.ev hx
 simp only [RepA] at h2
 obtain ⟨_,ty2,es2,hb2,hle,hv⟩:=h2
 rw [hb] at hb2
 cases hb2
 obtain ⟨cap,c,hv,hw,hcs,hcap,hmax⟩:=hv hn
 have runL:∀ code,(match lo.map a.eval with | some x=>Instr.sliceBound x hh code | none=>pure 0).run P w=.ok l w:=by
  intro code
  cases lo with
  | none=>simp only [natOf,sie] at hl; subst hl; rfl
  | some y=>obtain ⟨k,hk⟩:=natOf_some r hl; exact run_sliceBound hk hc1
 refine ⟨rfl,yield_still r (v:=.slice (if cap=l then some ⟨φ tk,0,none⟩ else some ⟨φ tk,l * S,none⟩) (hh - l) (cap - l)) ?_ ?_⟩
 ·have hb2:(Instr.sliceBounds true n cap (lo.map a.eval) (hi.map a.eval) none).run P w=.ok (l,hh,cap) w:=by
   cases hi with
   | none =>
    simp only [natOf,sie] at hhh
    subst hhh
    have:=runL .sliceB
    cases lo with
    | none=>simp [Instr.sliceBounds] at this ⊢; exact this
    | some y=>simp [Instr.sliceBounds] at this ⊢; simp [this]
   | some z =>
    obtain ⟨k,hk⟩:=natOf_some r hhh
    have hbd:=run_sliceBound (P:=P) (w:=w) (code:=.sliceAcap) hk (show hh≤cap by omega)
    have:=runL .sliceB
    cases lo with
    | none=>simp [Instr.sliceBounds,hbd] at this ⊢; exact this
    | some y=>simp [Instr.sliceBounds,hbd] at this ⊢; simp [this]
  simp [execOp,ho,Instr.sliceAt,Instr.slice,run_underlying ht,hv,hb2,run_sizeOf' hi',Addr.add_lit,hS]
 ·simp only [RepA]
  refine ⟨by split <;> rfl,ty,es,hb,by omega,fun _=>⟨by omega,cap,c,rfl,hw,hcs,hcap,hmax⟩⟩
theorem tSlice_local {t:TypeId} {x:Operand} {lo hi mx:Option Operand} {u:Res} (he:tSlice P T h t x lo hi mx=some u) (hx:evO T' x=evO T x) (e1:∀ d,natOf T' d lo=natOf T d lo) (e2:∀ d,natOf T' d hi=natOf T d hi) (hh:∀ b ∈ u.2.2,h' b=h b):tSlice P T' h' t x lo hi mx=some u:=by
 unfold tSlice at he ⊢
 rw [hx]
 split at he
 ·split at he
  ·rename_i hb hi2 hl hhh
   split at he
   ·rename_i hc
    simp only [sie] at he
    subst he
    simp only [hh _ (List.mem_singleton.2 rfl),hb,hi2,e1,e2,hl,hhh]
    rw [if_pos hc]
   ·cases he
  ·cases he
 ·cases he
def tClear (P:Program) (T:Nat→Option AV) (h:Heap) (t:TypeId) (x:Operand):Option Res :=
 match P.underlying t,evO T x with
 | some (.slice e),some (.vtl S tk n k m) =>
  match h tk,P.info? e with
  | some (.vec tb S' es),some i =>
   match i.zero with
   | some (.int kk z)=>if n=es.length∧S=1∧i.size=1∧k+m≤n then some (.tup [],some (tk, .vec tb S' (es.take k++List.replicate m [PV.val (.int kk z)]++es.drop (k+m))),[tk]) else none
   | _=>none
  | _,_=>none
 | _,_=>none
theorem tClear_local {t:TypeId} {x:Operand} {u:Res} (he:tClear P T h t x=some u) (hx:evO T' x=evO T x) (hh:∀ b ∈ u.2.2,h' b=h b):tClear P T' h' t x=some u:=by
 unfold tClear at he ⊢
 rw [hx]
 split at he
 ·split at he
  ·rename_i hb hi
   split at he
   ·rename_i hz
    split at he
    ·rename_i hc
     simp only [sie] at he
     subst he
     simp only [hh _ (List.mem_singleton.2 rfl),hb,hi,hz]
     rw [if_pos hc]
    ·cases he
   ·cases he
  ·cases he
 ·cases he
theorem flat_len1 {es:List (List PV)} (hS:∀ e ∈ es,e.length=1):es.flatten.length=es.length:=by
 have:=flatten_length hS
 omega
theorem flat_take1:∀ {es:List (List PV)} (hS:∀ e ∈ es,e.length=1) (k:Nat),(es.take k).flatten=es.flatten.take k
 | [],_,k=>by simp
 | e :: es,hS,0=>by simp
 | e :: es,hS,k+1=>by
  obtain ⟨x,rfl⟩:=List.length_eq_one_iff.1 (hS e zq)
  simp [flat_take1 (es:=es) (fun e he=>hS e (by simp [he])) k]
theorem flat_drop1:∀ {es:List (List PV)} (hS:∀ e ∈ es,e.length=1) (k:Nat),(es.drop k).flatten=es.flatten.drop k
 | [],_,k=>by simp
 | e :: es,hS,0=>by simp
 | e :: es,hS,k+1=>by
  obtain ⟨x,rfl⟩:=List.length_eq_one_iff.1 (hS e zq)
  simp [flat_drop1 (es:=es) (fun e he=>hS e (by simp [he])) k]
theorem flat_repl1 (x:PV):∀ m:Nat,(List.replicate m [x]).flatten=List.replicate m x
 | 0=>rfl
 | m+1=>by simp only [List.replicate_succ,List.flatten_cons,flat_repl1 x m]; rfl
theorem repAs_repl {M:Mset} {x:AV} {v:Value} (hx:RepA φ h w M x v):∀ m:Nat,RepAs φ h w M (List.replicate m x) (List.replicate m v)
 | 0=>by simp [RepAs]
 | m+1=>by simp only [List.replicate_succ,RepAs]; exact ⟨v,_,rfl,hx,repAs_repl hx m⟩
theorem tClear_ok (r:Rel φ M0 N D T h a w) {t:TypeId} {x:Operand} {u:Res} (ho:o.op=.call ⟨.builtin .clear,#[x],#[t]⟩) (he:tClear P T h t x=some u):Yield P o φ M0 h a w u.1 (ap h u.2.1):=by
 unfold tClear at he
 split at he
 rotate_left
 ·cases he
 rename_i e S tk n k m ht hx
 split at he
 rotate_left
 ·cases he
 rename_i tb S' es i hb hi
 split at he
 rotate_left
 ·cases he
 rename_i kk z hz
 split at he
 rotate_left
 ·cases he
 rename_i hc
 obtain ⟨hn,hS1,hsz1,hkm⟩:=hc
 simp only [sie] at he
 subst he
 have h2:=r.ev hx
 simp only [RepA] at h2
 obtain ⟨_,ty2,es2,hb2,hle,hv⟩:=h2
 rw [hb] at hb2
 cases hb2
 subst hS1
 obtain ⟨_,cap,c0,hv,_,_,hcap0,_⟩:=hv hn
 simp only [ap]
 obtain ⟨c,cap',hw,hcs,hcap,hmax,hS,h1c,hrep⟩:=r.hp.blk tk _ hb
 simp only [Nat.mul_one] at hcs hrep
 cases hm:m with
 | zero =>
  have e1:es.take k++List.replicate 0 [PV.val (.int kk z)]++es.drop (k+0)=es:=by simp
  have e2:upd h tk (.vec tb 1 (es.take k++List.replicate 0 [PV.val (.int kk z)]++es.drop (k+0)))=h:=by
   rw [e1]
   funext b
   by_cases e:tk=b
   ·subst e; simp [upd,hb]
   ·simp [upd,e]
  rw [e2]
  refine yield_still r (v:=.tuple #[]) ?_ (by simp [RepA,RepAs])
  subst hm
  by_cases hq:cap=k
  ·rw [if_pos hq] at hv
   simp [execOp,ho,resolve,invoke,builtin,Builtin.clear_,run_underlying ht,hv]
  ·rw [if_neg hq] at hv
   simp [execOp,ho,resolve,invoke,builtin,Builtin.clear_,run_underlying ht,hv]
 | succ m' =>
  rw [← hm]
  have hne:¬ cap=k:=by omega
  rw [if_neg hne,Nat.mul_one] at hv
  let vals:List Value:=List.replicate m (.int kk z)
  have hlen:vals.length=m:=by simp [vals]
  have h5:∀ v ∈ vals,v.oneCell'=true:=fun v hv'=>by rw [List.eq_of_mem_replicate hv']; rfl
  have hst:=run_storeCells_at P (φ tk) k tb vals 0 c w hw (by rw [hlen]; omega) h5
  simp only [Nat.add_zero,hlen] at hst
  let es':=es.take k++List.replicate m [PV.val (.int kk z)]++es.drop (k+m)
  have hl':es'.length=es.length:=by simp [es']; omega
  have hS':∀ e ∈ es',e.length=1:=fun e he=>by
   simp only [es',List.mem_append] at he
   rcases he with (he | he) | he
   ·exact hS e (List.mem_of_mem_take he)
   ·rw [List.eq_of_mem_replicate he]; rfl
   ·exact hS e (List.mem_of_mem_drop he)
  let C:Array Value:=(c.toList.take k++vals++c.toList.drop (k+m)).toArray
  have hCs:C.size=c.size:=by simp [C,vals]; omega
  have hfl:es'.flatten=es.flatten.take k++List.replicate m (PV.val (.int kk z))++es.flatten.drop (k+m):=by
   have e3:(List.replicate m [PV.val (.int kk z)]).flatten=List.replicate m (PV.val (.int kk z)):=flat_repl1 _ m
   simp only [es',List.flatten_append,flat_take1 hS,flat_drop1 hS,e3]
  have hfl0:=flat_len1 hS
  have hCt:C.toList.take es'.length=(c.toList.take es.length).take k++vals++(c.toList.take es.length).drop (k+m):=by
   rw [hl']
   simp only [C]
   rw [List.take_append,List.take_append]
   simp only [zLA,List.length_take,hlen,Array.length_toList]
   have q1:min k c.size=k:=by omega
   rw [q1]
   congr 1
   ·congr 1
    ·rw [List.take_take,List.take_take]; congr 1; omega
    ·rw [List.take_of_length_le (by rw [hlen]; omega)]
   ·rw [List.drop_take]
  have hnew:RepAs φ h w (MM φ h M0) (es'.flatten.map .p) (C.toList.take (es'.length * 1)):=by
   rw [Nat.mul_one,hCt,hfl]
   simp only [List.map_append,List.map_take,List.map_drop,List.map_replicate]
   exact repAs_append (repAs_append (repAs_take _ hrep) (repAs_repl (by simp [RepA,RepP]) m)) (repAs_drop _ hrep)
  obtain ⟨E,X⟩:=evol_vec_in (φ:=φ) (h:=h) (w:=w) (M0:=M0) (es':=es') (c':=C) hb hw (by rw [hl']; exact zNR _) hCs r.hp
  have hself:(w.setRow (φ tk) C).heap[φ tk]?=some (.cells C tb (0,0)):=setRow_heap w _ c C tb _ hw
  have hH:=relH_vec (c':=C) (cap:=cap') hb r.hp E X (fun _ _=>rfl) (.inl rfl) (fun d hd hdt=>setRow_other w _ _ C (fun e=>hdt (r.hp.inj d tk hd (by rw [hb]; simp) e))) hself (by rw [hCs,hcs,Nat.mul_one]) (by rw [hl']; exact hcap) hmax hS'
   (fun v hv=>by
    simp only [C,List.mem_append] at hv
    rcases hv with (hv | hv) | hv
    ·exact h1c v (List.mem_of_mem_take hv)
    ·exact h5 v hv
    ·exact h1c v (List.mem_of_mem_drop hv)) hnew
  refine ⟨.value (.tuple #[]), .tuple #[],_,φ,?_, .inl rfl,by simp [RepA,RepAs],hH,E,X⟩
  have hzc:(Builtin.zeroCells (Value.cells (.int kk z)) m).toList=vals:=by
   show (Builtin.zeroCells #[.int kk z] m).toList=vals
   simp only [vals,Builtin.zeroCells]
   apply List.ext_getElem
   ·simp
   ·intro j h1 h2
    simp [Nat.mod_one]
  have hzv:(zeroValue e).run P w=.ok (.int kk z) w:=by simp [zeroValue,typeInfo,hi,hz]
  subst hm
  simp [execOp,ho,resolve,invoke,builtin,Builtin.clear_,run_underlying ht,hv,hzv,hzc,hst,C]
end
def plainV (P:Program) (t:TypeId) (v:Value):Bool:=match P.underlying t,v with
 | some .bool, .bool _=>true
 | some (.int _), .int _ _=>true
 | some .string, .string _=>true
 | _,_=>false
def plainFs (P:Program):Nat→List Field→List Value→Bool
 | _,[],[]=>true
 | i,f :: fs,v :: vs=>decide (f.offset=i)&&(f.name != "_")&&plainV P f.type v&&plainFs P (i+1) fs vs
 | _,_,_=>false
def keyV (P:Program) (t:TypeId) (v:Value):Bool:=plainV P t v||match P.underlying t,v with
 | some (.struct fields), .agg cs=>plainFs P 0 fields.toList cs.toList
 | _,_=>false
section
variable {P:Program} {w:World}
theorem plainV_check {t:TypeId} {v:Value} (h:plainV P t v=true) (e:Bool) (n:Nat):(Instr.checkKey e (n+1) t v).run P w=.ok () w:=by
 unfold plainV at h
 unfold Instr.checkKey
 cases hd:P.underlying t with
 | none=>simp [hd] at h
 | some d =>
  simp only [Sem.run_bind,run_underlying hd,Result.andThen]
  rw [hd] at h
  cases d <;> cases v <;> simp_all
theorem plainV_agg {t:TypeId} {v:Value} (h:plainV P t v=true) {k:TypeDesc} (hd:P.underlying t=some k):isAggD k=false:=by
 unfold plainV at h
 rw [hd] at h
 cases k <;> first | rfl | (cases v <;> simp at h)
theorem keyV_cases {t:TypeId} {v:Value} (h:keyV P t v=true):plainV P t v=true∨∃ fields cs,P.underlying t=some (.struct fields)∧v=.agg cs∧plainFs P 0 fields.toList cs.toList=true:=by
 unfold keyV at h
 rw [Bool.or_eq_true] at h
 rcases h with h | h
 ·exact .inl h
 ·split at h
  ·rename_i fields cs hd
   exact .inr ⟨fields,cs,hd,rfl,h⟩
  ·cases h
theorem plainV_part {t:TypeId} {v:Value} (h:plainV P t v=true) {l:List Value} {i:Nat} (hi:l[i]?=some v):(part t l.toArray i).run P w=.ok v w:=by
 cases hd:P.underlying t with
 | none=>simp [plainV,hd] at h
 | some d=>simp [part,run_isAgg hd,plainV_agg h hd,hi]
theorem plainFs_check:∀ (fs:List Field) (vs:List Value) (i:Nat) (l:List Value) (e:Bool) (n:Nat),plainFs P i fs vs=true→l.drop i=vs →
  (forIn fs PUnit.unit fun f _=>(do
   if f.name ≠ "_" then Instr.checkKey e (n+1) f.type (← part f.type l.toArray f.offset)
   pure (ForInStep.yield PUnit.unit):Sem (ForInStep PUnit))).run P w=.ok PUnit.unit w
 | [],vs,i,l,e,n,_,_=>by simp
 | f :: fs,[],i,l,e,n,h,_=>by simp [plainFs] at h
 | f :: fs,v :: vs,i,l,e,n,h,hd=>by
  simp only [plainFs,bae,zDT,bne_iff_ne] at h
  obtain ⟨⟨⟨h1,h2⟩,h3⟩,h4⟩:=h
  have hi:l[i]?=some v:=by
   have:=congrArg (·[0]?) hd
   simpa using this
  have hd':l.drop (i+1)=vs:=by
   rw [← List.drop_drop,hd]
   rfl
  simp only [List.forIn_cons,Sem.run_bind,h2,ne_eq,not_false_eq_true,if_true,h1,plainV_part h3 hi,Result.andThen_ok,plainV_check h3,Sem.run_pure]
  exact plainFs_check fs vs (i+1) l e n h4 hd'
theorem keyV_check {t:TypeId} {v:Value} (h:keyV P t v=true) (e:Bool):(Instr.checkKey e 10000 t v).run P w=.ok () w:=by
 rcases keyV_cases h with hp | ⟨fields,cs,hd,rfl,hp⟩
 ·exact plainV_check hp e 9999
 ·rw [show (10000:Nat)=9999+1 from rfl,Instr.checkKey]
  simp only [Sem.run_bind,run_underlying hd,Result.andThen_ok]
  rw [← Array.forIn_toList]
  have:=plainFs_check (w:=w) fields.toList cs.toList 0 cs.toList e 9998 hp zq
  simp only [Array.toArray_toList] at this
  rw [this]
  rfl
theorem plainV_eq {t:TypeId} {d:Nat} {a b:Value} (ha:plainV P t a=true) (hb:plainV P t b=true) (h:eqV P (d+1) t a b=some true):a=b:=by
 unfold plainV at ha hb
 unfold eqV at h
 cases hd:P.underlying t with
 | none=>simp [hd] at ha
 | some k =>
  rw [hd] at ha hb h
  cases k <;> cases a <;> simp only [Bool.false_eq_true] at ha <;> cases b <;> simp only [Bool.false_eq_true] at hb <;> simp only at h
  ·simpa using h
  ·split at h
   ·rename_i e
    simp only [sie,eqI] at h
    rw [e,eq_of_beq h]
   ·cases h
  ·simp only [sie,eqS] at h
   have h2:=eq_of_beq h
   have:=congrArg mkS h2
   rw [mkS_byt,mkS_byt] at this
   rw [this]
theorem plainFs_eq {d:Nat}:∀ (fs:List Field) (xs ys:List Value) (i:Nat) (lx ly:List Value),plainFs P i fs xs=true→plainFs P i fs ys=true→lx.drop i=xs→ly.drop i=ys→eqV.eqFs P (d+1) lx ly fs=some true→xs=ys
 | [],[],[],_,_,_,_,_,_,_,_=>rfl
 | [],x :: xs,ys,i,lx,ly,hx,_,_,_,_=>by simp [plainFs] at hx
 | [],[],y :: ys,i,lx,ly,_,hy,_,_,_=>by simp [plainFs] at hy
 | f :: fs,[],ys,i,lx,ly,hx,_,_,_,_=>by simp [plainFs] at hx
 | f :: fs,x :: xs,[],i,lx,ly,_,hy,_,_,_=>by simp [plainFs] at hy
 | f :: fs,x :: xs,y :: ys,i,lx,ly,hx,hy,hdx,hdy,h=>by
  simp only [plainFs,bae,zDT,bne_iff_ne] at hx hy
  obtain ⟨⟨⟨h1,h2⟩,h3⟩,h4⟩:=hx
  obtain ⟨⟨⟨_,_⟩,h3'⟩,h4'⟩:=hy
  have hix:lx[i]?=some x:=by
   have:=congrArg (·[0]?) hdx
   simpa using this
  have hiy:ly[i]?=some y:=by
   have:=congrArg (·[0]?) hdy
   simpa using this
  have hpart:∀ (l:List Value) (v:Value),plainV P f.type v=true→l[i]?=some v→∀ q,partV P f.type l i=some q→q=v:=by
   intro l v hv hl q hq
   unfold partV at hq
   cases hd:P.underlying f.type with
   | none=>simp [plainV,hd] at hv
   | some k =>
    have hag:=plainV_agg hv hd
    rw [hd] at hq
    split at hq
    ·rename_i dd ii e1 e2
     cases e1
     rw [hag] at hq
     simp only [Bool.false_eq_true,if_false] at hq
     rw [hl] at hq
     exact (Option.some.inj hq).symm
    ·cases hq
  simp only [eqV.eqFs,h2,if_false] at h
  rw [h1] at h
  split at h
  ·rename_i a b e1 e2
   obtain rfl:=hpart lx x h3 hix a e1
   obtain rfl:=hpart ly y h3' hiy b e2
   split at h
   ·rename_i p q e3 e4
    simp only [sie,bae] at h
    rw [h.1] at e3
    rw [h.2] at e4
    rw [plainV_eq h3 h3' e3,plainFs_eq fs xs ys (i+1) lx ly h4 h4' (by rw [← List.drop_drop,hdx]; rfl) (by rw [← List.drop_drop,hdy]; rfl) e4]
   ·cases h
  ·cases h
theorem keyV_eq {t:TypeId} {a b:Value} (ha:keyV P t a=true) (hb:keyV P t b=true) (h:eqV P 4 t a b=some true):a=b:=by
 rcases keyV_cases ha with pa | ⟨fields,xs,hd,rfl,pa⟩
 ·rcases keyV_cases hb with pb | ⟨fields,ys,hd,rfl,pb⟩
  ·exact plainV_eq pa pb h
  ·have:=plainV_agg pa hd
   cases this
 ·rcases keyV_cases hb with pb | ⟨fields',ys,hd',rfl,pb⟩
  ·have:=plainV_agg pb hd
   cases this
  ·rw [hd] at hd'
   cases hd'
   unfold eqV at h
   rw [hd] at h
   simp only at h
   split at h
   ·cases h
   ·have:=plainFs_eq fields.toList xs.toList ys.toList 0 xs.toList ys.toList pa pb zq zq h
    rw [Array.ext' this]
theorem sameBits_plain {t:TypeId} {v:Value} (h:plainV P t v=true) (n:Nat):Instr.sameBits n v v=true:=by
 unfold plainV at h
 split at h
 ·cases n <;> simp [Instr.sameBits]
 ·cases n <;> simp [Instr.sameBits]
 ·rename_i s _
  obtain ⟨x⟩:=s
  cases n <;> (show (x == x)=true; simp)
 ·cases h
theorem sameBits_fs (n:Nat):∀ (fs:List Field) (vs:List Value) (i:Nat),plainFs P i fs vs=true→(vs.zip vs).all (fun (x,y)=>Instr.sameBits n x y)=true
 | [],[],_,_=>rfl
 | [],v :: vs,i,h=>by simp [plainFs] at h
 | f :: fs,[],i,h=>by simp [plainFs] at h
 | f :: fs,v :: vs,i,h=>by
  simp only [plainFs,bae] at h
  simp only [List.zip_cons_cons,List.all_cons,bae]
  exact ⟨sameBits_plain h.1.2 n,sameBits_fs n fs vs (i+1) h.2⟩
theorem keyV_bits {t:TypeId} {v:Value} (h:keyV P t v=true):Instr.sameBits 10000 v v=true:=by
 rcases keyV_cases h with hp | ⟨fields,cs,hd,rfl,hp⟩
 ·exact sameBits_plain hp _
 ·rw [show (10000:Nat)=9999+1 from rfl,Instr.sameBits]
  simp only [beq_self_eq_true,Bool.true_and]
  exact sameBits_fs 9999 _ _ 0 hp
end
def findM (P:Program) (kt:TypeId) (k:Value):Nat→List (Value × PV)→Option (Option (Nat × PV))
 | _,[]=>some none
 | i,(k',v) :: r=>match (if keyV P kt k' then eqV P 4 kt k k' else none) with
  | some true=>some (some (i,v))
  | some false=>findM P kt k (i+1) r
  | none=>none
section
variable {P:Program} {w:World}
theorem sameNow_eqV {t:TypeId} {d:TypeDesc} (hd:P.underlying t=some d) {a b:Value} {x y:Bool} (h1:Instr.sameNow d a b=some x) (h2:eqV P 4 t a b=some y):x=y:=by
 unfold eqV at h2
 rw [hd] at h2
 unfold Instr.sameNow at h1
 split at h1
 ·simp only at h2
  rename_i k k1 n1 k2 n2
  split at h1
  ·rename_i e
   rw [if_pos e] at h2
   rw [← Option.some.inj h1,← Option.some.inj h2]
   rfl
  ·cases h1
 ·simp only at h2
  rename_i s1 s2
  rw [← Option.some.inj h1,← Option.some.inj h2]
  obtain ⟨x1⟩:=s1
  obtain ⟨x2⟩:=s2
  show (x1 == x2)=eqS (byt ⟨x1⟩) (byt ⟨x2⟩)
  unfold eqS byt
  rw [Bool.eq_iff_iff]
  simp
 ·simp only at h2
  rw [← Option.some.inj h1,← Option.some.inj h2]
 ·cases h1
def findS (es:List (Value × PV)) (en:List MapEntry) (i:Nat) (r:Option (Nat × PV)) (q:Option (Nat × Value)):Prop :=
 match r with
 | none=>q=none
 | some (j,x)=>∃ m e,j=i+m∧q=some (i+m,e.val)∧en[m]?=some e∧es[m]?=some (e.key,x)
theorem findAsk_ok {kt:TypeId} {k:Value}:∀ (es:List (Value × PV)) (en:List MapEntry) (i:Nat) (r:Option (Nat × PV)),en.map (·.key)=es.map (·.1)→findM P kt k i es=some r→∃ q,(Instr.findAsking kt k en i).run P w=.ok q w∧findS es en i r q
 | [],en,i,r,he,h=>by
  simp only [findM,sie] at h
  subst h
  have:en=[]:=by simpa using he
  subst this
  exact ⟨none,by simp [Instr.findAsking],rfl⟩
 | (k',v) :: es,[],i,r,he,h=>by simp at he
 | (k',v) :: es,e :: en,i,r,he,h=>by
  simp only [zMC,List.cons.injEq] at he
  obtain ⟨he1,he2⟩:=he
  simp only [findM] at h
  split at h
  ·rename_i hq
   simp only [sie] at h
   subst h
   split at hq
   ·have hrun:(Op.equal kt k k').run P w=.ok true w:=equal_of' fun D hD=>(eqV_ok 4).1 _ _ _ _ hq D hD
    exact ⟨some (i,e.val),by simp [Instr.findAsking,he1,hrun],0,e,by simp,by simp,by simp,by simp [he1]⟩
   ·cases hq
  ·rename_i hq
   split at hq
   ·have hrun:(Op.equal kt k k').run P w=.ok false w:=equal_of' fun D hD=>(eqV_ok 4).1 _ _ _ _ hq D hD
    obtain ⟨q,h1,h2⟩:=findAsk_ok es en (i+1) r he2 h
    refine ⟨q,by simp [Instr.findAsking,he1,hrun,h1],?_⟩
    unfold findS at h2 ⊢
    split
    ·exact h2
    ·rename_i j x
     obtain ⟨m,e',g1,g2,g3,g4⟩:=h2
     exact ⟨m+1,e',by omega,by rw [g2]; congr 2; omega,by simpa using g3,by simpa using g4⟩
   ·cases hq
  ·cases h
theorem findNow_ok {kt:TypeId} {d:TypeDesc} {k:Value} (hd:P.underlying kt=some d):∀ (es:List (Value × PV)) (en:List MapEntry) (i:Nat) (r:Option (Nat × PV)) (q:Option (Nat × Value)),en.map (·.key)=es.map (·.1)→findM P kt k i es=some r→Instr.findNow d k en i=some q→findS es en i r q
 | [],en,i,r,q,he,h,hn=>by
  simp only [findM,sie] at h
  subst h
  have:en=[]:=by simpa using he
  subst this
  simp only [Instr.findNow,sie] at hn
  exact hn.symm
 | (k',v) :: es,[],i,r,q,he,h,hn=>by simp at he
 | (k',v) :: es,e :: en,i,r,q,he,h,hn=>by
  simp only [zMC,List.cons.injEq] at he
  obtain ⟨he1,he2⟩:=he
  simp only [findM] at h
  simp only [Instr.findNow,he1] at hn
  cases hs:Instr.sameNow d k k' with
  | none=>rw [hs] at hn; cases hn
  | some b =>
   rw [hs] at hn
   split at h
   ·rename_i hq
    simp only [sie] at h
    subst h
    split at hq
    ·obtain rfl:=sameNow_eqV hd hs hq
     simp only [sie] at hn
     exact ⟨0,e,by simp,by simpa using hn.symm,by simp,by simp [he1]⟩
    ·cases hq
   ·rename_i hq
    split at hq
    ·obtain rfl:=sameNow_eqV hd hs hq
     simp only at hn
     have h2:=findNow_ok hd es en (i+1) r q he2 h hn
     unfold findS at h2 ⊢
     split
     ·exact h2
     ·rename_i j x
      obtain ⟨m,e',g1,g2,g3,g4⟩:=h2
      exact ⟨m+1,e',by omega,by rw [g2]; congr 2; omega,by simpa using g3,by simpa using g4⟩
    ·cases hq
   ·cases h
theorem findKey_ok {kt:TypeId} {k:Value} {d:TypeDesc} (hd:P.underlying kt=some d) {es:List (Value × PV)} {en:List MapEntry} {r:Option (Nat × PV)} (he:en.map (·.key)=es.map (·.1)) (h:findM P kt k 0 es=some r) :
  ∃ q,(Instr.findKey kt k en).run P w=.ok q w∧findS es en 0 r q:=by
 cases hn:Instr.findNow d k en 0 with
 | some q=>exact ⟨q,by simp [Instr.findKey,run_underlying hd,Result.andThen,hn],findNow_ok hd es en 0 r q he h hn⟩
 | none =>
  obtain ⟨q,h1,h2⟩:=findAsk_ok (w:=w) es en 0 r he h
  exact ⟨q,by simp [Instr.findKey,run_underlying hd,Result.andThen,hn,h1],h2⟩
theorem findM_key {kt:TypeId} {k:Value}:∀ (es:List (Value × PV)) (i j:Nat) (x:PV),findM P kt k i es=some (some (j,x))→keyV P kt k=true→∃ m,j=i+m∧es[m]?=some (k,x)
 | [],i,j,x,h,_=>by simp [findM] at h
 | (k',v) :: es,i,j,x,h,hk=>by
  simp only [findM] at h
  split at h
  ·rename_i hq
   simp only [sie,zPJ] at h
   obtain ⟨rfl,rfl⟩:=h
   split at hq
   ·rename_i hk'
    exact ⟨0,by simp,by simp [keyV_eq hk hk' hq]⟩
   ·cases hq
  ·obtain ⟨m,h1,h2⟩:=findM_key es (i+1) j x h hk
   exact ⟨m+1,by omega,by simpa using h2⟩
  ·cases h
end
def aMakeMap (h:Heap) (dst:Option Tmp) (rsv:Option Operand):Option Res:=match dst,rsv with
 | some d,none=>if h d=none then some (.mv d,some (d, .mp []),[d]) else none
 | _,_=>none
def tupOk (ok:Bool) (v:AV) (b:Bool):AV:=if ok then .tup [v, .p (.val (.bool b))] else v
def avP:PV→AV
 | .val v=>ofV v
 | .sl S es=>.p (.sl S es)
 | .ad S es=>.p (.ad S es)
 | .slu S es=>.p (.slu S es)
def pvO:AV→Option PV
 | .p x=>some x
 | .agg cs=>(toVs cs).map fun l=>.val (.agg l.toArray)
 | _=>none
theorem rep_avP {φ:Nat→Nat} {h:Heap} {w:World} {M:Mset} {x:PV} {v:Value} (hr:RepA φ h w M (.p x) v):RepA φ h w M (avP x) v:=by
 cases x with
 | val u=>simp only [RepA,RepP] at hr; rw [hr]; exact rep_ofV u
 | sl S es=>exact hr
 | ad S es=>exact hr
 | slu S es=>exact hr
theorem rep_pvO {φ:Nat→Nat} {h:Heap} {w:World} {M:Mset} {y:AV} {x:PV} {v:Value} (hy:pvO y=some x) (hr:RepA φ h w M y v):RepA φ h w M (.p x) v:=by
 cases y with
 | p z=>simp only [pvO,sie] at hy; subst hy; exact hr
 | agg cs =>
  simp only [pvO,zMS] at hy
  obtain ⟨m,h1,rfl⟩:=hy
  simp only [RepA] at hr
  obtain ⟨l,rfl,h2⟩:=hr
  simp only [RepA,RepP]
  rw [toV_rep.2 cs l m h2 h1]
 | _=>cases hy
def aLookup (P:Program) (T:Nat→Option AV) (h:Heap) (t:TypeId) (x ix:Operand) (ok:Bool):Option Res :=
 match P.underlying t,evO T x,evO T ix with
 | some (.map kt e),some (.mv b),some kv =>
  match h b,toV kv,P.underlying kt with
  | some (.mp es),some k,some _ =>
   if keyV P kt k then
    match findM P kt k 0 es with
    | some (some (_,v))=>some (tupOk ok (avP v) true,none,[b])
    | some none=>match (P.info? e).bind (·.zero) with | some z=>some (tupOk ok (ofV z) false,none,[b]) | none=>none
    | none=>none
   else none
  | _,_,_=>none
 | _,_,_=>none
def aMapUpdate (P:Program) (T:Nat→Option AV) (h:Heap) (t:TypeId) (x ix y:Operand):Option Res :=
 match P.underlying t,evO T x,evO T ix,evO T y with
 | some (.map kt e),some (.mv b),some kv,some y =>
  match h b,toV kv,P.underlying kt,pvO y with
  | some (.mp es),some k,some _,some v =>
   if keyV P kt k then
    match findM P kt k 0 es with
    | some (some (i,_))=>some (.p (.val undef),some (b, .mp (es.set i (k,v))),[b])
    | some none=>some (.p (.val undef),some (b, .mp (es++[(k,v)])),[b])
    | none=>none
   else none
  | _,_,_,_=>none
 | _,_,_,_=>none
section
variable {P:Program} {o:Oper} {φ:Nat→Nat} {M0:Mset} {N:Nat} {D:DB} {T:Nat→Option AV} {h:Heap} {a:Act} {w:World}
theorem makeMap_ok (r:Rel φ M0 N D T h a w) {t:TypeId} {rsv:Option Operand} {u:Res} (ho:o.op=.makeMap t rsv) (he:aMakeMap h o.dst rsv=some u):Yield P o φ M0 h a w u.1 (ap h u.2.1):=by
 unfold aMakeMap at he
 split at he
 ·rename_i d hd
  split at he
  ·rename_i hn
   simp only [sie] at he
   subst he
   refine Yield.of_lift r 1 fun φ r E0 X0 hC=>?_
   obtain ⟨E,X⟩:=evol_new (w':=w.alloc (.map #[] 0)) (o:=.map #[] 0) (b:=d) (k:=.mp []) (M0:=M0) rfl rfl rfl rfl hn r.hp hC
   have hnew:RelB (updF φ d w.heap.size) (upd h d (.mp [])) (w.alloc (.map #[] 0)) (MM (updF φ d w.heap.size) (upd h d (.mp [])) M0) w.heap.size (.mp []):=by
    refine ⟨#[],0,by show (w.heap.push _)[w.heap.size]?=_; simp,rfl,rfl⟩
   refine ⟨_, .map (some w.heap.size),_,updF φ d w.heap.size,?_, .inl rfl,?_,relH_new rfl hn r.hp hC E X hnew,E,X⟩
   ·simp [execOp,ho,Instr.makeMap,newObj,Sem.run]
   ·simp only [RepA,ap]
    exact ⟨by simp [updF], .mp [],by simp [upd],rfl⟩
  ·cases he
 ·cases he
theorem repAs_at {M:Mset}:∀ {xs:List AV} {vs:List Value} {i:Nat} {x:AV} {v:Value},RepAs φ h w M xs vs→xs[i]?=some x→vs[i]?=some v→RepA φ h w M x v
 | [],vs,i,x,v,_,hx,_=>by simp at hx
 | y :: xs,vs,i,x,v,hr,hx,hv=>by
  simp only [RepAs] at hr
  obtain ⟨z,zs,rfl,h1,h2⟩:=hr
  cases i with
  | zero =>
   simp only [List.getElem?_cons_zero,sie] at hx hv
   subst hx hv
   exact h1
  | succ i=>exact repAs_at h2 (by simpa using hx) (by simpa using hv)
theorem lookup_ok (r:Rel φ M0 N D T h a w) {t:TypeId} {x ix:Operand} {ok:Bool} {u:Res} (ho:o.op=.lookup t x ix ok) (he:aLookup P T h t x ix ok=some u):u.2.1=none∧Yield P o φ M0 h a w u.1 h:=by
 unfold aLookup at he
 split at he
 rotate_left
 ·cases he
 rename_i kt e b kv ht hx hix
 split at he
 rotate_left
 ·cases he
 rename_i es k kd hb hk hkt
 split at he
 rotate_left
 ·cases he
 rename_i hkey
 have hxr:=r.ev hx
 simp only [RepA] at hxr
 have hixr:=(toV_rep.1 _ _ _ (r.ev hix) hk)
 obtain ⟨en,clock,hw,hkeys,hvals⟩:=r.hp.blk b _ hb
 have hget:(getObj (φ b)).run P w=.ok (.map en clock) w:=by simp [getObj,Sem.run,hw]
 have hchk:=keyV_check (w:=w) hkey en.isEmpty
 split at he
 ·rename_i i v hf
  simp only [sie] at he
  subst he
  refine ⟨rfl,?_⟩
  obtain ⟨q,hq1,m,e',g1,g2,g3,g4⟩:=findKey_ok (w:=w) hkt hkeys hf
  have hrep:RepA φ h w (MM φ h M0) (avP v) e'.val:=rep_avP <| repAs_at hvals (i:=m) (by simp [g4]) (by simp [g3])
  subst g2
  refine yield_still r (v:=if ok then .tuple #[e'.val, .bool true] else e'.val) ?_ ?_
  ·simp [execOp,ho,Instr.lookup,run_underlying ht,hxr.1,hget,hixr,hchk,hq1,Result.andThen]
  ·unfold tupOk
   cases ok
   ·exact hrep
   ·simp only [if_true,RepA]
    exact ⟨[e'.val, .bool true],by simp,_,_,rfl,hrep,_,_,rfl,by simp [RepA,RepP],rfl⟩
 ·rename_i hf
  split at he
  ·rename_i z hz
   simp only [sie] at he
   subst he
   refine ⟨rfl,?_⟩
   obtain ⟨inf,hi,hz⟩:=zBS.1 hz
   obtain ⟨q,hq1,hq2⟩:=findKey_ok (w:=w) hkt hkeys hf
   have hq2:q=none:=hq2
   subst hq2
   refine yield_still r (v:=if ok then .tuple #[z, .bool false] else z) ?_ ?_
   ·simp [execOp,ho,Instr.lookup,run_underlying ht,hxr.1,hget,hixr,hchk,hq1,Result.andThen,zeroValue,typeInfo,program,Sem.run,hi,hz]
   ·unfold tupOk
    cases ok
    ·exact rep_ofV z
    ·simp only [if_true,RepA]
     exact ⟨[z, .bool false],by simp,_,_,rfl,rep_ofV z,_,_,rfl,by simp [RepA,RepP],rfl⟩
  ·cases he
 ·cases he
theorem evol_mp {b:Nat} {es es':List (Value × PV)} {ob:Obj} (hb:h b=some (.mp es)) (r:RelH φ h w M0) (hnc:∀ c e fz,ob ≠ .cells c e fz:=by intro _ _ _ h; cases h) :
  Evol φ h w φ (upd h b (.mp es')) (w.putObj (φ b) ob)∧HExt φ h w φ (upd h b (.mp es')) (w.putObj (φ b) ob):=by
 have hlt:=relH_lt r hb (fun _ _ e=>by cases e)
 have hother:∀ x,x ≠ φ b→(w.putObj (φ b) ob).heap[x]?=w.heap[x]?:=fun x hx=>World.putObj_heap_other hx
 have hne:∀ c k,h c=some k→k.ob=none→¬ b=c:=fun c k hc hk e=>by rw [← e,hb] at hc; cases hc; cases hk
 have hφ:∀ c k,h c=some k→¬ b=c→φ c ≠ φ b:=fun c k hc e h2=>e (r.inj c b (by rw [hc]; simp) (by rw [hb]; simp) h2).symm
 have hbx:∀ c ty cs,h c=some (.box ty cs)→upd h b (.mp es') c=some (.box ty cs):=fun c ty cs hc=>by simp [upd,hne c _ hc rfl,hc]
 have har:∀ t ty S n,h t=some (.arr ty S n)→∃ n',upd h b (.mp es') t=some (.arr ty S n')∧n≤n'∧(n'=n→AKept w (w.putObj (φ b) ob) (φ t) (φ t) ty):=by
  intro t ty S n ht
  have e:=hne t _ ht rfl
  exact ⟨n,by simp [upd,e,ht],zNR _,fun _=>akept (rfl) (by rw [hother _ (hφ t _ ht e)])⟩
 have hve:∀ t ty S es,h t=some (.vec ty S es)→∃ es2,upd h b (.mp es') t=some (.vec ty S es2)∧es.length≤es2.length∧(es2.length=es.length→φ t=φ t∧∀ c,w.heap[φ t]?=some (.cells c ty (0,0))→∃ c',(w.putObj (φ b) ob).heap[φ t]?=some (.cells c' ty (0,0))∧c'.size=c.size):=by
  intro t ty S n ht
  have e:=hne t _ ht rfl
  exact ⟨n,by simp [upd,e,ht],zNR _,fun _=>⟨rfl,fun c hc=>⟨c,by rw [hother _ (hφ t _ ht e)]; exact hc,rfl⟩⟩⟩
 have hob:∀ c k x,h c=some k→k.ob=some x→(∃ k',upd h b (.mp es') c=some k'∧k'.ob=some x)∧φ c=φ c:=by
  intro c k x hc ho
  by_cases e:b=c
  ·subst e
   rw [hb] at hc
   cases hc
   exact ⟨⟨.mp es',by simp [upd],ho⟩,rfl⟩
  ·exact ⟨⟨k,by simp [upd,e,hc],ho⟩,rfl⟩
 refine ⟨⟨rfl,rfl,rfl,by simp [World.putObj],fun x _ hu=>unm_or (unm_ob (World.putObj_heap_same hlt) hnc) (fun e=>hu.eq (hother x e)),?_,?_,?_,fun c ty cs _ hc=>⟨⟨cs,hbx c ty cs hc⟩,rfl⟩,fun t ty S n _=>har t ty S n,fun t ty S es _=>hve t ty S es,fun c k x _=>hob c k x⟩,fun c ty cs hc=>⟨⟨ty,cs,hbx c ty cs hc⟩,rfl⟩,har,hve,hob⟩
 ·intro x _ hno
  exact hother x (fun e=>hno b (by rw [hb]; simp) e.symm)
 ·intro x y _ hm
  have:x ≠ φ b:=fun e=>hm ⟨b,_,hb,e.symm,trivial⟩
  simp [World.cell?,hother x this]
 ·rintro x y _ ⟨d,q,h1,h2,h3⟩
  by_cases e:b=d
  ·exact ⟨b,_,hb,by rw [e]; exact h2,trivial⟩
  ·exact ⟨d,q,by simpa [upd,e] using h1,h2,h3⟩
theorem relH_mp {b:Nat} {es es':List (Value × PV)} {en':Array MapEntry} {clock':Nat} (hb:h b=some (.mp es)) (r:RelH φ h w M0) (hk:en'.toList.map (·.key)=es'.map (·.1)) (hv:RepAs φ h w (MM φ h M0) (es'.map fun p=>.p p.2) (en'.toList.map (·.val))) :
  RelH φ (upd h b (.mp es')) (w.putObj (φ b) (.map en' clock')) M0:=by
 obtain ⟨E,X⟩:=evol_mp (es':=es') (ob:=.map en' clock') hb r
 have hlt:=relH_lt r hb (fun _ _ e=>by cases e)
 have g:∀ d,upd h b (.mp es') d ≠ none→h d ≠ none:=fun d hd=>by
  by_cases e:b=d
  ·rw [← e,hb]; simp
  ·simpa [upd,e] using hd
 refine ⟨fun c d hc hd he=>r.inj c d (g c hc) (g d hd) he,fun c k hc=>?_,fun c hc=>r.fr c (g c hc),fun x o hx=>by simpa [World.putObj] using r.lt x o hx,r.gm.evol E⟩
 by_cases e:b=c
 ·subst e
  have:k=.mp es':=by simpa [upd] using hc.symm
  subst this
  exact ⟨en',clock',World.putObj_heap_same hlt,hk,(repA_keep (E.keeps M0) X).2 _ _ hv⟩
 ·have hc':h c=some k:=by simpa [upd,e] using hc
  exact relB_keep (E.keeps M0) X (World.putObj_heap_other fun h2=>e (r.inj c b (by rw [hc']; simp) (by rw [hb]; simp) h2).symm) (r.blk c k hc')
theorem repAs_set {M:Mset}:∀ {xs:List AV} {vs:List Value} {i:Nat} {x:AV} {v:Value},RepAs φ h w M xs vs→RepA φ h w M x v→RepAs φ h w M (xs.set i x) (vs.set i v)
 | [],vs,i,x,v,hr,_=>by
  simp only [RepAs] at hr
  subst hr
  simp [RepAs]
 | y :: xs,vs,i,x,v,hr,hx=>by
  simp only [RepAs] at hr
  obtain ⟨z,zs,rfl,h1,h2⟩:=hr
  cases i with
  | zero=>simp only [List.set_cons_zero,RepAs]; exact ⟨_,_,rfl,hx,h2⟩
  | succ i=>simp only [List.set_cons_succ,RepAs]; exact ⟨_,_,rfl,h1,repAs_set h2 hx⟩
theorem repAs_snoc {M:Mset}:∀ {xs:List AV} {vs:List Value} {x:AV} {v:Value},RepAs φ h w M xs vs→RepA φ h w M x v→RepAs φ h w M (xs++[x]) (vs++[v])
 | [],vs,x,v,hr,hx=>by
  simp only [RepAs] at hr
  subst hr
  exact ⟨v,[],rfl,hx,rfl⟩
 | y :: xs,vs,x,v,hr,hx=>by
  simp only [RepAs] at hr
  obtain ⟨z,zs,rfl,h1,h2⟩:=hr
  exact ⟨z,zs++[v],rfl,h1,repAs_snoc h2 hx⟩
theorem modify_set {en:Array MapEntry} {i:Nat} {e:MapEntry} (k v:Value) (he:en.toList[i]?=some e):(en.modify i fun e=>{ e with key:=k,val:=v }).toList=en.toList.set i { e with key:=k,val:=v }:=by
 apply List.ext_getElem?
 intro j
 simp only [Array.getElem?_toList,Array.getElem?_modify,List.getElem?_set]
 by_cases hij:i=j
 ·subst hij
  have he':en[i]?=some e:=by simpa using he
  have hlt:i < en.toList.length:=(zLG.1 he).1
  simp [he']
  simpa using hlt
 ·simp [hij]
theorem mapUpdate_ok (r:Rel φ M0 N D T h a w) {t:TypeId} {x ix y:Operand} {u:Res} (ho:o.op=.mapUpdate t x ix y) (he:aMapUpdate P T h t x ix y=some u):Yield P o φ M0 h a w u.1 (ap h u.2.1):=by
 unfold aMapUpdate at he
 split at he
 rotate_left
 ·cases he
 rename_i kt e b kv y0 ht hx hix hy
 split at he
 rotate_left
 ·cases he
 rename_i es k kd v hb hk hkt hpv
 split at he
 rotate_left
 ·cases he
 rename_i hkey
 have hxr:=r.ev hx
 simp only [RepA] at hxr
 have hixr:=(toV_rep.1 _ _ _ (r.ev hix) hk)
 have hyr:=rep_pvO hpv (r.ev hy)
 obtain ⟨en,clock,hw,hkeys,hvals⟩:=r.hp.blk b _ hb
 have hget:(getObj (φ b)).run P w=.ok (.map en clock) w:=by simp [getObj,Sem.run,hw]
 have hset:∀ ob,(setObj (φ b) ob).run P w=.ok () (w.putObj (φ b) ob):=fun ob=>by simp [setObj,Sem.run,hw,World.putObj]
 have hchk:=keyV_check (w:=w) hkey false
 split at he
 ·rename_i i v0 hf
  simp only [sie] at he
  subst he
  simp only [ap]
  obtain ⟨q,hq1,m,e',g1,g2,g3,g4⟩:=findKey_ok (w:=w) hkt hkeys hf
  obtain ⟨m',hm1,hm2⟩:=findM_key es 0 i v0 hf hkey
  have hmm:m'=m:=by omega
  subst hmm
  have hek:e'.key=k:=by rw [hm2] at g4; exact ((Prod.mk.inj (Option.some.inj g4)).1).symm
  have hi:i=m':=by omega
  subst hi
  have gen:en[i]?=some e':=by simpa using g3
  obtain ⟨E,X⟩:=evol_mp (es':=es.set i (k,v)) (ob:=.map (en.modify i fun e=>{ e with key:=k,val:=a.eval y }) clock) hb r.hp
  refine ⟨.skip,undef,w.putObj (φ b) (.map (en.modify i fun e=>{ e with key:=k,val:=a.eval y }) clock),φ,?_, .inr ⟨rfl,rfl⟩,by simp [RepA,RepP],relH_mp hb r.hp ?_ ?_,E,X⟩
  ·simp [execOp,ho,Instr.mapUpdate,run_underlying ht,hxr.1,hget,hixr,hchk,hq1,g2,Result.andThen,gen,hek,Instr.keyThatStays,keyV_bits hkey,hset]
  ·rw [modify_set k (a.eval y) g3,List.map_set,List.map_set,hkeys]
  ·rw [modify_set k (a.eval y) g3,List.map_set,List.map_set]
   exact repAs_set hvals hyr
 ·rename_i hf
  simp only [sie] at he
  subst he
  simp only [ap]
  obtain ⟨q,hq1,hq2⟩:=findKey_ok (w:=w) hkt hkeys hf
  have hq2:q=none:=hq2
  subst hq2
  obtain ⟨E,X⟩:=evol_mp (es':=es++[(k,v)]) (ob:=.map (en.push { key:=k,val:=a.eval y,born:=clock }) (clock+1)) hb r.hp
  refine ⟨.skip,undef,w.putObj (φ b) (.map (en.push { key:=k,val:=a.eval y,born:=clock }) (clock+1)),φ,?_, .inr ⟨rfl,rfl⟩,by simp [RepA,RepP],relH_mp hb r.hp ?_ ?_,E,X⟩
  ·simp [execOp,ho,Instr.mapUpdate,run_underlying ht,hxr.1,hget,hixr,hchk,hq1,Result.andThen,hset]
  ·simp [hkeys]
  ·simp only [Array.toList_push,List.map_append,zMC,List.map_nil]
   exact repAs_snoc hvals hyr
 ·cases he
theorem eqNil_run {tx e:TypeId} {op:BinOp} {x y:Operand} {ty:TypeId} {q:Addr} {n c m k:Nat} (ho:o.op=.binOp op tx x y ty) (ht:P.underlying tx=some (.slice e)) (hx:a.eval x=.slice (some q) n c) (hy:a.eval y=.slice none m k) :
  (op=.eql→(execOp a.eval o).run P w=.ok (.value (.bool false)) w)∧(op=.neq→(execOp a.eval o).run P w=.ok (.value (.bool true)) w):=by
 have he:(Op.equal tx (.slice (some q) n c) (.slice none m k)).run P w=.ok false w:=by
  refine equal_of' fun D hD=>?_
  obtain ⟨D,rfl⟩:∃ d,D=d+1:=⟨D - 1,by omega⟩
  unfold Op.equalIn
  simp [run_underlying ht]
 constructor
 ·rintro rfl
  simp [execOp,ho,hx,hy,eqGuard,binOp,he]
 ·rintro rfl
  simp [execOp,ho,hx,hy,eqGuard,binOp,he]
end
def aEqNil (P:Program) (T:Nat→Option AV) (h:Heap) (op:BinOp) (tx:TypeId) (x y:Operand):Option Res :=
 match P.underlying tx,evO T x,evO T y with
 | some (.slice _),some (.tsl _ es t),some (.p (.val (.slice none _ _))) =>
  match h t with
  | some (.arr _ _ n)=>if es.length=n∧es.isEmpty=false then (match op with | .eql=>some (.p (.val (.bool false)),none,[t]) | .neq=>some (.p (.val (.bool true)),none,[t]) | _=>none) else none
  | _=>none
 | _,_,_=>none
section
variable {P:Program} {o:Oper} {φ:Nat→Nat} {M0:Mset} {N:Nat} {D:DB} {T:Nat→Option AV} {h:Heap} {a:Act} {w:World}
theorem eqNil_ok (r:Rel φ M0 N D T h a w) {op:BinOp} {tx ty:TypeId} {x y:Operand} {u:Res} (ho:o.op=.binOp op tx x y ty) (he:aEqNil P T h op tx x y=some u):u.2.1=none∧Yield P o φ M0 h a w u.1 h:=by
 unfold aEqNil at he
 split at he
 rotate_left
 ·cases he
 rename_i e S es t m k ht hx hy
 split at he
 rotate_left
 ·cases he
 rename_i ta Sa n hb
 split at he
 rotate_left
 ·cases he
 rename_i hlen
 have hxr:=r.ev hx
 have hyr:=r.ev hy
 simp only [RepA,RepP] at hyr
 simp only [RepA] at hxr
 obtain ⟨_,ty2,n2,hb2,_,hfront⟩:=hxr
 rw [hb] at hb2
 cases hb2
 obtain ⟨cap,c,hv,_⟩:∃ cap c,a.eval x=.slice (some ⟨φ t,0,none⟩) n cap∧w.heap[φ t]?=some (.cells c ta (0,0))∧c.size=cap * S∧n≤cap∧cap≤maxLen:=by
  rcases hfront hlen.1 with ⟨h0,_⟩ | h0
  ·have h1:=hlen.1
   have h2:=hlen.2
   rw [h0] at h1
   rw [List.length_eq_zero_iff.1 h1] at h2
   cases h2
  ·exact h0
 obtain ⟨g1,g2⟩:=eqNil_run (P:=P) (w:=w) ho ht hv hyr
 split at he
 ·simp only [sie] at he
  subst he
  exact ⟨rfl,yield_still r (g1 rfl) (by simp [RepA,RepP])⟩
 ·simp only [sie] at he
  subst he
  exact ⟨rfl,yield_still r (g2 rfl) (by simp [RepA,RepP])⟩
 ·cases he
end
section
variable {P:Program} {o:Oper} {φ:Nat→Nat} {M0:Mset} {N:Nat} {D:DB} {T:Nat→Option AV} {h:Heap} {a:Act} {w:World}
theorem evol_ob {b:Nat} {k0 k1:Blk} {ob:Obj} (hb:h b=some k0) (h0:k0.ob=some .mp) (h1:k1.ob=some .mp) (r:RelH φ h w M0) (hnc:∀ c e fz,ob ≠ .cells c e fz:=by intro _ _ _ h; cases h) :
  Evol φ h w φ (upd h b k1) (w.putObj (φ b) ob)∧HExt φ h w φ (upd h b k1) (w.putObj (φ b) ob):=by
 have hm:∀ x o,Mut φ (upd h b k1) x o→Mut φ h x o:=by
  rintro x y ⟨d,q,g1,g2,g3⟩
  by_cases e:b=d
  ·refine ⟨b,_,hb,by rw [e]; exact g2,?_⟩
   cases k0 <;> first | trivial | cases h0
  ·exact ⟨d,q,by simpa [upd,e] using g1,g2,g3⟩
 have hother:∀ x,x ≠ φ b→(w.putObj (φ b) ob).heap[x]?=w.heap[x]?:=fun x hx=>World.putObj_heap_other hx
 have hne:∀ c k,h c=some k→k.ob=none→¬ b=c:=fun c k hc hk e=>by rw [← e,hb] at hc; cases hc; rw [hk] at h0; cases h0
 have hφ:∀ c k,h c=some k→¬ b=c→φ c ≠ φ b:=fun c k hc e h2=>e (r.inj c b (by rw [hc]; simp) (by rw [hb]; simp) h2).symm
 have hbx:∀ c ty cs,h c=some (.box ty cs)→upd h b k1 c=some (.box ty cs):=fun c ty cs hc=>by simp [upd,hne c _ hc rfl,hc]
 have har:∀ t ty S n,h t=some (.arr ty S n)→∃ n',upd h b k1 t=some (.arr ty S n')∧n≤n'∧(n'=n→AKept w (w.putObj (φ b) ob) (φ t) (φ t) ty):=by
  intro t ty S n ht
  have e:=hne t _ ht rfl
  exact ⟨n,by simp [upd,e,ht],zNR _,fun _=>akept rfl (hother _ (hφ t _ ht e))⟩
 have hve:∀ t ty S es,h t=some (.vec ty S es)→∃ es2,upd h b k1 t=some (.vec ty S es2)∧es.length≤es2.length∧(es2.length=es.length→φ t=φ t∧∀ c,w.heap[φ t]?=some (.cells c ty (0,0))→∃ c',(w.putObj (φ b) ob).heap[φ t]?=some (.cells c' ty (0,0))∧c'.size=c.size):=by
  intro t ty S n ht
  have e:=hne t _ ht rfl
  exact ⟨n,by simp [upd,e,ht],zNR _,fun _=>⟨rfl,fun c hc=>⟨c,by rw [hother _ (hφ t _ ht e)]; exact hc,rfl⟩⟩⟩
 have hob:∀ c k x,h c=some k→k.ob=some x→(∃ k',upd h b k1 c=some k'∧k'.ob=some x)∧φ c=φ c:=by
  intro c k x hc ho
  by_cases e:b=c
  ·subst e
   rw [hb] at hc
   cases hc
   rw [h0] at ho
   cases ho
   exact ⟨⟨k1,by simp [upd],h1⟩,rfl⟩
  ·exact ⟨⟨k,by simp [upd,e,hc],ho⟩,rfl⟩
 refine ⟨⟨rfl,rfl,rfl,by simp [World.putObj],fun x _ hu=>unm_or (unm_ob (World.putObj_heap_same (relH_lt r hb (fun _ _ e=>by rw [e] at h0; cases h0))) hnc) (fun e=>hu.eq (hother x e)),?_,?_,fun x o _ hx=>hm x o hx,fun c ty cs _ hc=>⟨⟨cs,hbx c ty cs hc⟩,rfl⟩,fun t ty S n _=>har t ty S n,fun t ty S es _=>hve t ty S es,fun c k x _=>hob c k x⟩,fun c ty cs hc=>⟨⟨ty,cs,hbx c ty cs hc⟩,rfl⟩,har,hve,hob⟩
 ·intro x _ hno
  exact hother x (fun e=>hno b (by rw [hb]; simp) e.symm)
 ·intro x y _ hm
  have:x ≠ φ b:=fun e=>hm ⟨b,_,hb,e.symm,by cases k0 <;> first | trivial | cases h0⟩
  simp [World.cell?,hother x this]
theorem relH_ob {b:Nat} {k0 k1:Blk} {ob:Obj} (hb:h b=some k0) (h0:k0.ob=some .mp) (h1:k1.ob=some .mp) (r:RelH φ h w M0)
  (hnew:RelB φ (upd h b k1) (w.putObj (φ b) ob) (MM φ (upd h b k1) M0) (φ b) k1) (hnc:∀ c e fz,ob ≠ .cells c e fz:=by intro _ _ _ h; cases h):RelH φ (upd h b k1) (w.putObj (φ b) ob) M0:=by
 obtain ⟨E,X⟩:=evol_ob (k1:=k1) (ob:=ob) hb h0 h1 r hnc
 have g:∀ d,upd h b k1 d ≠ none→h d ≠ none:=fun d hd=>by
  by_cases e:b=d
  ·rw [← e,hb]; simp
  ·simpa [upd,e] using hd
 refine ⟨fun c d hc hd he=>r.inj c d (g c hc) (g d hd) he,fun c k hc=>?_,fun c hc=>r.fr c (g c hc),fun x o hx=>by simpa [World.putObj] using r.lt x o hx,r.gm.evol E⟩
 by_cases e:b=c
 ·subst e
  have:k=k1:=by simpa [upd] using hc.symm
  subst this
  exact hnew
 ·have hc':h c=some k:=by simpa [upd,e] using hc
  exact relB_keep (E.keeps M0) X (World.putObj_heap_other fun h2=>e (r.inj c b (by rw [hc']; simp) (by rw [hb]; simp) h2).symm) (r.blk c k hc')
def findF (w:List UInt8):List (Bool × List UInt8 × AV)→Option AV
 | []=>none
 | (f,k,x) :: l=>if eqS w k&&f then some x else findF w l
def delF (w:List UInt8) (es:List (Bool × List UInt8 × AV)):List (Bool × List UInt8 × AV):=es.map fun e=>(!eqS w e.2.1&&e.1,e.2.1,e.2.2)
def idx (w:List UInt8):Nat→List (Bool × List UInt8 × AV)→Option Nat
 | _,[]=>none
 | i,e :: l=>if eqS w e.2.1 then some i else idx w (i+1) l
def dumF (l:List (Bool × List UInt8 × AV)):List (Value × PV):=l.map fun e=>(keyS e.2.1,PV.val undef)
theorem eqV_str {kt:TypeId} (hk:P.underlying kt=some .string) (x:ByteArray) (y:List UInt8):eqV P 4 kt (.string x) (keyS y)=some (eqS (byt x) y):=by
 simp [eqV,hk,keyS,byt]
theorem keyV_str {kt:TypeId} (hk:P.underlying kt=some .string) (x:ByteArray):keyV P kt (.string x)=true:=by simp [keyV,plainV,hk]
theorem findM_dum {kt:TypeId} (hk:P.underlying kt=some .string) (x:ByteArray):∀ (l:List (Bool × List UInt8 × AV)) (i:Nat),findM P kt (.string x) i (dumF l)=some ((idx (byt x) i l).map fun j=>(j,PV.val undef))
 | [],i=>rfl
 | e :: l,i=>by
  have hkk:keyV P kt (keyS e.2.1)=true:=keyV_str hk _
  simp only [dumF,zMC,findM,hkk,if_true,eqV_str hk,idx]
  cases hq:eqS (byt x) e.2.1 with
  | true=>simp
  | false=>exact findM_dum hk x l (i+1)
theorem onF_cons (f:Bool) (k:List UInt8) (x:AV) (es:List (Bool × List UInt8 × AV)):onF ((f,k,x) :: es)=if f then (f,k,x) :: onF es else onF es:=by cases f <;> rfl
theorem idx_shift (w:List UInt8):∀ (l:List (Bool × List UInt8 × AV)) (i:Nat),idx w (i+1) l=(idx w i l).map (·+1)
 | [],i=>rfl
 | e :: l,i=>by
  simp only [idx]
  cases eqS w e.2.1
  ·exact idx_shift w l (i+1)
  ·rfl
theorem findF_idx (w:List UInt8):∀ (es:List (Bool × List UInt8 × AV)),findF w es=(idx w 0 (onF es)).bind fun j=>((onF es)[j]?).map (·.2.2)
 | []=>rfl
 | (f,k,x) :: es=>by
  rw [onF_cons]
  cases f with
  | false=>simp only [findF,Bool.and_false,Bool.false_eq_true,if_false]; exact findF_idx w es
  | true =>
   simp only [findF,Bool.and_true,if_true,idx]
   cases hq:eqS w k with
   | true=>simp
   | false =>
    simp only [Bool.false_eq_true,if_false]
    rw [idx_shift,findF_idx w es]
    cases idx w 0 (onF es) <;> simp
def nodupK:List (Bool × List UInt8 × AV)→Bool
 | []=>true
 | e :: l=>l.all (fun e'=>!eqS e.2.1 e'.2.1)&&nodupK l
theorem filter_none {w:List UInt8}:∀ {l:List (Bool × List UInt8 × AV)} {i:Nat},idx w i l=none→∀ e ∈ l,eqS w e.2.1=false
 | [],_,_,e,he=>by cases he
 | e0 :: l,i,h,e,he=>by
  simp only [idx] at h
  cases hq:eqS w e0.2.1 with
  | true=>rw [hq] at h; cases h
  | false =>
   rw [hq] at h
   rcases List.mem_cons.1 he with rfl | he
   ·exact hq
   ·exact filter_none h e he
theorem eqS_eq {a b:List UInt8} (h:eqS a b=true):a=b:=by simpa [eqS] using h
theorem del_on (w:List UInt8):∀ (es:List (Bool × List UInt8 × AV)),onF (delF w es)=((onF es).filter fun e=>!eqS w e.2.1)
 | []=>rfl
 | (f,k,x) :: es=>by
  have ih:=del_on w es
  simp only [delF,zMC] at ih ⊢
  rw [onF_cons,onF_cons,ih]
  cases f <;> cases hq:eqS w k <;> simp [hq]
theorem nodup_on:∀ {es:List (Bool × List UInt8 × AV)},nodupK es=true→nodupK (onF es)=true
 | [],_=>rfl
 | (f,k,x) :: es,h=>by
  simp only [nodupK,bae] at h
  rw [onF_cons]
  cases f with
  | false=>exact nodup_on h.2
  | true =>
   simp only [if_true,nodupK,bae]
   refine ⟨?_,nodup_on h.2⟩
   rw [zAT] at h ⊢
   intro e he
   exact h.1 e (List.mem_filter.1 he).1
theorem erase_filter {w:List UInt8}:∀ {l:List (Bool × List UInt8 × AV)} {j:Nat},nodupK l=true→idx w 0 l=some j→(l.filter fun e=>!eqS w e.2.1)=l.eraseIdx j
 | [],j,_,h=>by cases h
 | e :: l,j,hn,h=>by
  simp only [nodupK,bae] at hn
  simp only [idx] at h
  cases hq:eqS w e.2.1 with
  | true =>
   rw [hq] at h
   simp only [if_true,sie] at h
   subst h
   have hw:=eqS_eq hq
   have:(l.filter fun e=>!eqS w e.2.1)=l:=by
    rw [List.filter_eq_self]
    intro e' he'
    rw [hw]
    exact zAT.1 hn.1 e' he'
   simp [hq,this]
  | false =>
   rw [hq] at h
   simp only [Bool.false_eq_true,if_false] at h
   rw [idx_shift] at h
   cases hj:idx w 0 l with
   | none=>rw [hj] at h; cases h
   | some j' =>
    rw [hj] at h
    simp only [Option.map_some,sie] at h
    subst h
    simp [hq,erase_filter hn.2 hj]
theorem erase_map {α β:Type} (f:α→β):∀ (l:List α) (j:Nat),(l.eraseIdx j).map f=(l.map f).eraseIdx j
 | [],j=>by simp
 | x :: l,0=>rfl
 | x :: l,j+1=>by simp only [List.eraseIdx_cons_succ,zMC,erase_map f l j]
theorem repAs_erase {M:Mset}:∀ {xs:List AV} {vs:List Value} (j:Nat),RepAs φ h w M xs vs→RepAs φ h w M (xs.eraseIdx j) (vs.eraseIdx j)
 | [],vs,j,hr=>by
  simp only [RepAs] at hr
  subst hr
  simp [RepAs]
 | x :: xs,vs,j,hr=>by
  simp only [RepAs] at hr
  obtain ⟨y,ys,rfl,h1,h2⟩:=hr
  cases j with
  | zero=>exact h2
  | succ j=>simp only [List.eraseIdx_cons_succ,RepAs]; exact ⟨_,_,rfl,h1,repAs_erase j h2⟩
theorem born_push {en:Array MapEntry} {clock:Nat} {k v:Value} (h:bornOk en clock):bornOk (en.push { key:=k,val:=v,born:=clock }) (clock+1):=by
 obtain ⟨h1,h2⟩:=h
 refine ⟨?_,fun e he=>?_⟩
 ·simp only [Array.toList_push,List.map_append,zMC,List.map_nil]
  rw [List.pairwise_append]
  refine ⟨h1,List.pairwise_singleton _ _,fun x hx y hy=>?_⟩
  obtain ⟨e,he,rfl⟩:=List.mem_map.1 hx
  rw [List.mem_singleton.1 hy]
  exact h2 e he
 ·simp only [Array.toList_push,List.mem_append,List.mem_singleton] at he
  rcases he with he | rfl
  ·have:=h2 e he; omega
  ·exact Nat.lt_succ_self _
theorem born_erase {en:Array MapEntry} {clock j:Nat} (h:bornOk en clock):bornOk (en.eraseIdxIfInBounds j) clock:=by
 obtain ⟨h1,h2⟩:=h
 have hel:(en.eraseIdxIfInBounds j).toList=en.toList.eraseIdx j:=by simp
 refine ⟨?_,fun e he=>h2 e ?_⟩
 ·rw [hel]
  exact h1.sublist ((List.eraseIdx_sublist _ _).map _)
 ·rw [hel] at he
  exact (List.eraseIdx_sublist _ _).mem he
def mfOf:Option Blk→Option (List (Bool × List UInt8 × AV))
 | some (.mp [])=>some []
 | some (.mf es)=>some es
 | _=>none
def aMfLookup (P:Program) (T:Nat→Option AV) (h:Heap) (t:TypeId) (x ix:Operand) (ok:Bool):Option Res :=
 match P.underlying t,evO T x,evO T ix with
 | some (.map kt e),some (.mv b),some (.p (.val (.string s))) =>
  match h b,P.underlying kt with
  | some (.mf es),some .string =>
   match findF (byt s) es with
   | some v=>some (tupOk ok v true,none,[b])
   | none=>match (P.info? e).bind (·.zero) with | some z=>some (tupOk ok (ofV z) false,none,[b]) | none=>none
  | _,_=>none
 | _,_,_=>none
def aMfUpdate (P:Program) (T:Nat→Option AV) (h:Heap) (t:TypeId) (x ix y:Operand):Option Res :=
 match P.underlying t,evO T x,evO T ix,evO T y with
 | some (.map kt e),some (.mv b),some (.p (.val (.string s))),some v =>
  match mfOf (h b),P.underlying kt with
  | some es,some .string=>match findF (byt s) es with
   | none=>some (.p (.val undef),some (b, .mf (es++[(true,byt s,v)])),[b])
   | some _=>none
  | _,_=>none
 | _,_,_,_=>none
def aMfDelete (P:Program) (T:Nat→Option AV) (h:Heap) (t:TypeId) (x ix:Operand):Option Res :=
 match P.underlying t,evO T x,evO T ix with
 | some (.map kt e),some (.mv b),some (.p (.val (.string s))) =>
  match h b,P.underlying kt with
  | some (.mf es),some .string=>if nodupK es=true then some (.tup [],some (b, .mf (delF (byt s) es)),[b]) else none
  | _,_=>none
 | _,_,_=>none
theorem mf_rep {b:Nat} {es:List (Bool × List UInt8 × AV)} (hb:mfOf (h b)=some es) (r:RelH φ h w M0):∃ k0,h b=some k0∧k0.ob=some .mp ∧
  ∃ (en:Array MapEntry) (clock:Nat),w.heap[φ b]?=some (.map en clock)∧en.toList.map (·.key)=(onF es).map (fun e=>keyS e.2.1)∧RepAs φ h w (MM φ h M0) ((onF es).map (·.2.2)) (en.toList.map (·.val))∧bornOk en clock:=by
 unfold mfOf at hb
 split at hb
 ·rename_i hq
  cases hb
  obtain ⟨en,clock,h1,h2,h3⟩:=r.blk b _ hq
  have h4:en.toList=[]:=by simpa using h2
  exact ⟨_,hq,rfl,en,clock,h1,h2,h3,by simp [bornOk,h4]⟩
 ·rename_i es' hq
  cases hb
  exact ⟨_,hq,rfl,r.blk b _ hq⟩
 ·cases hb
theorem dum_keys {l:List (Bool × List UInt8 × AV)} {en:List MapEntry} (hk:en.map (·.key)=l.map (fun e=>keyS e.2.1)):en.map (·.key)=(dumF l).map (·.1):=by
 rw [hk]; simp [dumF]
theorem mfLookup_ok (r:Rel φ M0 N D T h a w) {t:TypeId} {x ix:Operand} {ok:Bool} {u:Res} (ho:o.op=.lookup t x ix ok) (he:aMfLookup P T h t x ix ok=some u):u.2.1=none∧Yield P o φ M0 h a w u.1 h:=by
 unfold aMfLookup at he
 split at he
 rotate_left
 ·cases he
 rename_i kt e b s ht hx hix
 split at he
 rotate_left
 ·cases he
 rename_i es hb hkt
 have hxr:=r.ev hx
 simp only [RepA] at hxr
 have hixr:=r.ev hix
 simp only [RepA,RepP] at hixr
 obtain ⟨en,clock,hw,hkeys,hvals,_⟩:=r.hp.blk b _ hb
 have hget:(getObj (φ b)).run P w=.ok (.map en clock) w:=by simp [getObj,Sem.run,hw]
 have hchk:=keyV_check (w:=w) (keyV_str hkt s) en.isEmpty
 have hfm:=findM_dum hkt s (onF es) 0
 obtain ⟨q,hq1,hq2⟩:=findKey_ok (w:=w) hkt (dum_keys hkeys) hfm
 have hfi:=findF_idx (byt s) es
 cases hi:idx (byt s) 0 (onF es) with
 | none =>
  rw [hi] at hq2 hfi
  simp only [Option.map_none,findS,Option.bind_none] at hq2 hfi
  subst hq2
  rw [hfi] at he
  simp only at he
  split at he
  ·rename_i z hz
   simp only [sie] at he
   subst he
   refine ⟨rfl,?_⟩
   obtain ⟨inf,hi,hz⟩:=zBS.1 hz
   refine yield_still r (v:=if ok then .tuple #[z, .bool false] else z) ?_ ?_
   ·simp [execOp,ho,Instr.lookup,run_underlying ht,hxr.1,hget,hixr,hchk,hq1,Result.andThen,zeroValue,typeInfo,program,Sem.run,hi,hz]
   ·unfold tupOk
    cases ok
    ·exact rep_ofV z
    ·simp only [if_true,RepA]
     exact ⟨[z, .bool false],by simp,_,_,rfl,rep_ofV z,_,_,rfl,by simp [RepA,RepP],rfl⟩
  ·cases he
 | some j =>
  rw [hi] at hq2 hfi
  simp only [Option.map_some,findS,obs] at hq2 hfi
  obtain ⟨m,e',g1,g2,g3,g4⟩:=hq2
  have hjm:j=m:=by omega
  subst hjm
  have hlt:j < (onF es).length:=by
   have:=(zLG.1 g4).1
   simpa [dumF] using this
  rw [List.getElem?_eq_getElem hlt] at hfi
  simp only [Option.map_some] at hfi
  rw [hfi] at he
  simp only [sie] at he
  subst he
  refine ⟨rfl,?_⟩
  have hrep:RepA φ h w (MM φ h M0) ((onF es)[j]).2.2 e'.val:=repAs_at hvals (i:=j) (by simp [hlt]) (by simp [g3])
  subst g2
  refine yield_still r (v:=if ok then .tuple #[e'.val, .bool true] else e'.val) ?_ ?_
  ·simp [execOp,ho,Instr.lookup,run_underlying ht,hxr.1,hget,hixr,hchk,hq1,Result.andThen]
  ·unfold tupOk
   cases ok
   ·exact hrep
   ·simp only [if_true,RepA]
    exact ⟨[e'.val, .bool true],by simp,_,_,rfl,hrep,_,_,rfl,by simp [RepA,RepP],rfl⟩
theorem mfUpdate_ok (r:Rel φ M0 N D T h a w) {t:TypeId} {x ix y:Operand} {u:Res} (ho:o.op=.mapUpdate t x ix y) (he:aMfUpdate P T h t x ix y=some u):Yield P o φ M0 h a w u.1 (ap h u.2.1):=by
 unfold aMfUpdate at he
 split at he
 rotate_left
 ·cases he
 rename_i kt e b s v ht hx hix hy
 split at he
 rotate_left
 ·cases he
 rename_i es hb hkt
 have hxr:=r.ev hx
 simp only [RepA] at hxr
 have hixr:=r.ev hix
 simp only [RepA,RepP] at hixr
 have hyr:=r.ev hy
 obtain ⟨k0,hb0,hob,en,clock,hw,hkeys,hvals,hborn⟩:=mf_rep hb r.hp
 have hget:(getObj (φ b)).run P w=.ok (.map en clock) w:=by simp [getObj,Sem.run,hw]
 have hset:∀ ob,(setObj (φ b) ob).run P w=.ok () (w.putObj (φ b) ob):=fun ob=>by simp [setObj,Sem.run,hw,World.putObj]
 have hchk:=keyV_check (w:=w) (keyV_str hkt s) false
 have hfm:=findM_dum hkt s (onF es) 0
 obtain ⟨q,hq1,hq2⟩:=findKey_ok (w:=w) hkt (dum_keys hkeys) hfm
 have hfi:=findF_idx (byt s) es
 split at he
 rotate_left
 ·cases he
 rename_i hnone
 simp only [sie] at he
 subst he
 simp only [ap]
 have hi:idx (byt s) 0 (onF es)=none:=by
  cases hi:idx (byt s) 0 (onF es) with
  | none=>rfl
  | some j =>
   rw [hi] at hq2 hfi
   simp only [Option.map_some,findS,obs] at hq2 hfi
   obtain ⟨m,e',g1,g2,g3,g4⟩:=hq2
   have hjm:j=m:=by omega
   subst hjm
   have hlt:j < (onF es).length:=by
    have:=(zLG.1 g4).1
    simpa [dumF] using this
   rw [List.getElem?_eq_getElem hlt,hnone] at hfi
   cases hfi
 rw [hi] at hq2
 have hq2:q=none:=hq2
 subst hq2
 obtain ⟨E,X⟩:=evol_ob (k1:=.mf (es++[(true,byt s,v)])) (ob:=.map (en.push { key:=.string s,val:=a.eval y,born:=clock }) (clock+1)) hb0 hob rfl r.hp
 have hbs:keyS (byt s)=.string s:=by simp [keyS,byt]
 have hon:onF (es++[(true,byt s,v)])=onF es++[(true,byt s,v)]:=by simp [onF]
 refine ⟨.skip,undef,w.putObj (φ b) (.map (en.push { key:=.string s,val:=a.eval y,born:=clock }) (clock+1)),φ,?_, .inr ⟨rfl,rfl⟩,by simp [RepA,RepP],relH_ob hb0 hob rfl r.hp ⟨_,_,World.putObj_heap_same (zGS.1 hw).1,?_,?_,born_push hborn⟩,E,X⟩
 ·simp [execOp,ho,Instr.mapUpdate,run_underlying ht,hxr.1,hget,hixr,hchk,hq1,Result.andThen,hset]
 ·simp [hkeys,hon,hbs]
 ·rw [hon]
  simp only [Array.toList_push,List.map_append,zMC,List.map_nil]
  exact repAs_snoc ((repA_keep (E.keeps M0) X).2 _ _ hvals) ((repA_keep (E.keeps M0) X).1 _ _ hyr)
theorem exec_delete {t k:TypeId} {s x:Operand} {v:Value} {w':World} (ho:o.op=.call ⟨.builtin .delete,#[s,x],#[t,k]⟩)
  (hr:(Builtin.delete_ #[t,k] o.type #[a.eval s,a.eval x]).run P w=.ok v w'):(execOp a.eval o).run P w=.ok (.value v) w':=by
 simp [execOp,ho,resolve,invoke,builtin,hr]
end
end Go.Abs
