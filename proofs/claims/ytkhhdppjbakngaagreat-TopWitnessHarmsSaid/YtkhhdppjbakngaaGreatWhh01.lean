/-
  A part of the proof of a statement of the seat YtkhhdppjbakngaaGreat.
-/
import Derived.Below
import Derived.Orders
import Derived.Sort.LoopGhostIn
import Derived.OrdersIn
import Derived.Scope
import Derived.Laws.AppendOwn
import Derived.Laws.StructEq
import Derived.Laws.MakeOwn
import Derived.ChangeKeysEq
import Derived.Lib.SliceRun
import Derived.RangeFuncRecord
import Derived.RangeFuncLeaves
import Derived.RangeFuncSeq
import Derived.Recover
import Derived.KernelRfl
import Derived.LoopNIn
import Derived.ProofKit
import Derived.OpenShut
import Derived.WideKeyArgs
import Derived.RowKit3
import Derived.JoinedCond
import Derived.ChangeSame
import Derived.Maps.RangeRun
import Derived.Laws.BytesString
import Derived.Lib.AppendStr
import Derived.Test.YtkhhdppjbakngaaGreatProg
import Derived.Lib.ItoaNum
import Derived.Lib.Bytealg
import Derived.Lib.IndexMore
import Derived.Test.YtkhhdppjbakngaaGreatRows
set_option linter.unusedVariables false
namespace Go
theorem vg{p:Prop}[i:Decidable p](h:¬p):decide p=false:=decide_eq_false h
theorem vB{p:Prop}[i:Decidable p](h:p):decide p=true:=decide_eq_true h
theorem Zy{α β:Type}(a:α)(f:α→Option β):(some a).bind f=f a:=Option.bind_some a f
theorem Zf{α:Type}{a b:α}:(some a=some b)=(a=b):=Option.some.injEq a b
theorem KL{a b:Bool}:((a&&b)=true)=(a=true∧b=true):=Bool.and_eq_true a b
theorem zo{p:Prop}(h:p:=by omega):p:=h
theorem zq{p:Prop}(h:p:=by simp):p:=h
theorem mR{α:Type}{xs ys:List α}:(xs++ys).length=xs.length+ys.length:=List.length_append
theorem lU{α:Type}{a:α}{xs:List α}:(a::xs).length=xs.length+1:=List.length_cons
theorem RQ{α:Type}{xs:Array α}{i:Nat}{b:α}:xs[i]?=some b↔∃h:i<xs.size,xs[i]=b:=Array.getElem?_eq_some_iff
theorem RU{α:Type}{x:Option α}:x.isSome=true↔∃a,x=some a:=Option.isSome_iff_exists
theorem LC{α β:Type}{x:Option α}{f:α→β}{b:β}:x.map f=some b↔∃a,x=some a∧f a=b:=Option.map_eq_some_iff
theorem AP{α:Type}{o:Option α}:o≠none↔∃x,o=some x:=Option.ne_none_iff_exists'
theorem V5{α:Type}{a b:α}:cond true a b=a:=rfl
theorem Ye{α:Type}{a b:α}:cond false a b=b:=rfl
theorem U8{α β:Type}{f:α→β}{a:α}{l:List α}:(a::l).map f=f a::l.map f:=rfl
theorem RS{α β:Type}{xs:List α}(f:α→β):(xs.map f).length=xs.length:=List.length_map f
theorem DC{α β:Type}(a:α)(b:β)(c:α)(d:β):((a,b)=(c,d))=(a=c∧b=d):=Prod.mk.injEq a b c d
theorem Ii{p:Prop}[Decidable p]:(decide p=true)=p:=decide_eq_true_eq
theorem Yf(n:Nat):n≤n:=Nat.le_refl n
theorem zLD{α:Type}{i:Nat}{l:List α}:(l.drop i).length=l.length-i:=List.length_drop
theorem Gp{α:Type}{p:α→Bool}{l:List α}:l.all p=true↔∀x,x∈l→p x=true:=List.all_eq_true
theorem Nw{α β:Type}{o:Option α}{f:α→Option β}{b:β}:o.bind f=some b↔∃a,o=some a∧f a=some b:=Option.bind_eq_some_iff
theorem MG{α:Type}{b:α}{xs:List α}{i:Nat}:xs[i]?=some b↔∃h:i<xs.length,xs[i]=b:=List.getElem?_eq_some_iff
end Go
namespace Go.Abs
open Go
variable {N:Nat}{P:Program}{a:Act}{b:Nat}{c:Code}{c':Array Value}{d:Nat}{dst:Option Tmp}{e:TypeId}{en:Array MapEntry}{hi:Option Operand}{i id:Nat}{ix:Operand}{j:Nat}{kt:TypeId}{len:Nat}{lo:Option Operand}{n:Nat}{o:Oper}{off:Nat}{ok:Bool}{op:BinOp}{parts:Array (Nat×Operand)}{r r':Nat}{ro:Option Nat}{tx ty:TypeId}{v:Value}{w w' w'':World}{x y:Operand}{α β:Type}{φ φ':Nat→Nat}
def jZ:List Nat:=[]
def gmW(_:World):Prop:=True
theorem vC(_:∀g∈jZ,w'.heap[g]?=w.heap[g]?)(_:gmW w):gmW w':=trivial
theorem kw(_:gmW w):∀g∈jZ,g<w.heap.size:=fun _ G=>by cases G
theorem Qbs(_:gmW w):∀g∈jZ,∀l,w.heap[g]?≠some (.deferred l):=fun _ G=>by cases G
inductive PV where
|val (x:Value)
|sl (S:Nat) (es:List (List PV))
inductive AV where
|p (x:PV)
|tsl (S:Nat) (es:List (List PV)) (t:Nat)
|ptr (b off:Nat)
|eptr (cs:List PV)
|agg (cs:List AV)
|tup (vs:List AV)
|fn (f:Fn) (first captured:List AV)
|ifc (t:TypeId) (x:AV)
|vnil
|vsl (S t n:Nat)
|vptr (t n k f:Nat)
|vtl (S t n k m:Nat)
|yv (b:Nat)
|mv (b:Nat)
|bsl (b n:Nat)
|sfp (b:Nat)
|iv (b:Nat)
variable {T T':Nat→Option AV}{es:List (Bool×List UInt8×AV)}
structure Dj where
 N:Nat
 fn:FuncId
 ps:Array Tmp
 assign:Code
 body:Code
inductive Blk where
|box (ty:TypeId) (cs:List AV)
|arr (ty:TypeId) (S n:Nat)
|vec (ty:TypeId) (S:Nat) (es:List (List PV))
|lp (T:List (Nat×AV)) (nf:Dj) (st:LoopState) (pd:Option Code)
|mp (es:List (Value×PV))
|mf (es:List (Bool×List UInt8×AV))
|mg (en:Array MapEntry) (clock:Nat) (es:List (Bool×List UInt8×AV))
|it (m clock:Nat) (seen:Array Nat)
variable {k0:Blk}
inductive OB where
|lp (T:List (Nat×AV)) (nf:Dj)
|mp
def Blk.ob:Blk→Option OB|.lp T nf _ _=>some (.lp T nf)|.mp _=>some .mp|.mf _=>some .mp|.mg _ _ _=>some .mp|.it _ _ _=>some .mp|_=>none
def look{α:Type}:List (Nat×α)→Nat→Option α|[],_=>none|(k,v)::l,t=>if k=t then some v else look l t
abbrev QY:=Nat→Option Blk
variable {h h':QY}
abbrev ZQ:=Nat→Nat→Prop
variable {M M' M0:ZQ}
mutual
def Q6(w:World)(M:ZQ):PV→Value→Prop|.val x,v=>v=x|.sl S es,v=>(∃r o cap,v=.slice (some ⟨r,o,none⟩) es.length cap∧es.length≤cap∧Jn w M S r o es)∨(es=[]∧∃a cap,v=.slice a 0 cap)
def WW(w:World)(M:ZQ)(r:Nat):Nat→List PV→Prop|_,[]=>True|o,c::cs=>(∃v,w.cell? ⟨r,o,none⟩=some v∧¬M r o∧v.oneCell'=true∧Q6 w M c v)∧WW w M r (o+1) cs
def Jn(w:World)(M:ZQ)(S r:Nat):Nat→List (List PV)→Prop|_,[]=>True|o,e::es=>(e.length=S∧WW w M r o e)∧Jn w M S r (o+S) es
end
mutual
def Qg(φ:Nat→Nat)(h:QY)(w:World)(M:ZQ):AV→Value→Prop|.p x,v=>Q6 w M x v|.tsl S es t,v=>Q6 w M (.sl S es) v∧∃ty n,h t=some (.arr ty S n)∧es.length≤n ∧ (es.length=n→(n=0∧v=.slice none 0 0∧w.heap[φ t]?=none)∨∃cap c,v=.slice (some ⟨φ t,0,none⟩) n cap∧w.heap[φ t]?=some (.cells c ty (0,0))∧c.size=cap*S∧n≤cap∧cap≤maxLen)|.ptr b off,v=>v=.pointer (some ⟨φ b,off,none⟩)∧∃ty cs,h b=some (.box ty cs)|.eptr cs,v=>∃r o,v=.pointer (some ⟨r,o,none⟩)∧WW w M r o cs|.agg cs,v=>∃l:List Value,v=.agg l.toArray∧Ql φ h w M cs l|.tup G,v=>∃l:List Value,v=.tuple l.toArray∧Ql φ h w M G l|.fn f a b,v=>∃l m:List Value,v=.func f l.toArray m.toArray∧Ql φ h w M a l∧Ql φ h w M b m|.ifc t x,v=>∃y,v=.iface t y∧Qg φ h w M x y|.vnil,v=>v=.slice none 0 0|.vsl S t n,v=>v.oneCell'=true∧∃ty es,h t=some (.vec ty S es)∧n≤es.length ∧ (n=es.length→∃cap c,v=.slice (some ⟨φ t,0,none⟩) n cap∧w.heap[φ t]?=some (.cells c ty (0,0))∧c.size=cap*S∧n≤cap∧cap≤maxLen)|.vptr t n k f,v=>v.oneCell'=true∧∃ty S es,h t=some (.vec ty S es)∧n≤es.length∧(n=es.length→v=.pointer (some ⟨φ t,k*S+f,none⟩))|.vtl S t n k m,v=>v.oneCell'=true∧∃ty es,h t=some (.vec ty S es)∧n≤es.length ∧ (n=es.length→k+m≤n∧∃cap c,v=.slice (if cap=k then some ⟨φ t,0,none⟩ else some ⟨φ t,k*S,none⟩) m (cap-k)∧w.heap[φ t]?=some (.cells c ty (0,0))∧c.size=cap*S∧n≤cap∧cap≤maxLen)|.yv b,v=>v=.func (.yield (φ b)) #[] #[]∧∃k T nf,h b=some k∧k.ob=some (.lp T nf)|.mv b,v=>v=.map (some (φ b))∧∃k,h b=some k∧k.ob=some .mp|.bsl b n,v=>v=.slice (some ⟨φ b,0,none⟩) n n∧∃ty cs,h b=some (.box ty cs)|.sfp b,v=>(v=.pointer none∨v=.pointer (some ⟨φ b,0,none⟩))∧∃ty cs,h b=some (.box ty cs)|.iv b,v=>v=.pointer (some ⟨φ b,0,none⟩)∧∃k,h b=some k∧k.ob=some .mp
def Ql(φ:Nat→Nat)(h:QY)(w:World)(M:ZQ):List AV→List Value→Prop|[],l=>l=[]|x::xs,l=>∃y ys,l=y::ys∧Qg φ h w M x y∧Ql φ h w M xs ys
end
def DD(φ:Nat→Nat)(h:QY):ZQ:=fun r o=>∃b k,h b=some k∧φ b=r∧(match k with|.arr _ S n=>n*S≤o|_=>True)
def MM(φ:Nat→Nat)(h:QY)(M0:ZQ):ZQ:=fun r o=>DD φ h r o∨M0 r o
def Tu(es:List (Bool×List UInt8×AV)):List (Bool×List UInt8×AV):=es.filter (·.1)
def Dt(k:List UInt8):Value:=.string ⟨k.toArray⟩
def G5(en:Array MapEntry)(clock:Nat):Prop:=(en.toList.map (·.born)).Pairwise (·<·)∧∀e∈en.toList,e.born<clock
def RelB(φ:Nat→Nat)(h:QY)(w:World)(M:ZQ)(r:Nat):Blk→Prop|.box ty cs=>∃c:Array Value,w.heap[r]?=some (.cells c ty (0,0))∧Ql φ h w M cs c.toList|.arr ty S n=>(n=0∧w.heap[r]?=none)∨∃(c:Array Value) (cap:Nat),w.heap[r]?=some (.cells c ty (0,0))∧c.size=cap*S∧n≤cap∧cap≤maxLen|.vec ty S es=>∃(c:Array Value) (cap:Nat),w.heap[r]?=some (.cells c ty (0,0))∧c.size=cap*S∧es.length≤cap∧cap≤maxLen∧(∀e∈es,e.length=S) ∧ (∀v∈c.toList,v.oneCell'=true)∧Ql φ h w M (es.flatten.map .p) (c.toList.take (es.length*S))|.lp T nf st pd=>∃(tmps:Array Value) (d:Nat),w.heap[r]?=some (.loop { state:=st,pending:=pd,fn:=nf.fn,tmps:=tmps,params:=nf.ps,assign:=nf.assign,body:=nf.body,defers:=d })∧tmps.size=nf.N ∧ ∀t x,look T t=some x→t<nf.N∧Qg φ h w M x (tmps.getD t undef)|.mp es=>∃(en:Array MapEntry) (clock:Nat),w.heap[r]?=some (.map en clock)∧en.toList.map (·.key)=es.map (·.1)∧Ql φ h w M (es.map fun p=>.p p.2) (en.toList.map (·.val))|.mf es=>∃(en:Array MapEntry) (clock:Nat),w.heap[r]?=some (.map en clock)∧en.toList.map (·.key)=(Tu es).map (fun e=>Dt e.2.1)∧Ql φ h w M ((Tu es).map (·.2.2)) (en.toList.map (·.val))∧G5 en clock|.mg en clock es=>w.heap[r]?=some (.map en clock)∧en.toList.map (·.key)=(Tu es).map (fun e=>Dt e.2.1)∧Ql φ h w M ((Tu es).map (·.2.2)) (en.toList.map (·.val))∧G5 en clock|.it m clock seen=>w.heap[r]?=some (.mapIter (some (φ m)) clock seen clock)∧∃k,h m=some k∧k.ob=some .mp
structure GM(φ:Nat→Nat)(h:QY)(w:World)(M0:ZQ):Prop where
 w:gmW w
 m:∀g∈jZ,∀o,¬MM φ h M0 g o
structure Z9(φ:Nat→Nat)(h:QY)(w:World)(M0:ZQ):Prop where
 inj:∀b c,h b≠none→h c≠none→φ b=φ c→b=c
 blk:∀b k,h b=some k→RelB φ h w (MM φ h M0) (φ b) k
 fr:∀b,h b≠none→∀o,¬M0 (φ b) o
 lt:∀r o,M0 r o→r<w.heap.size
 gm:GM φ h w M0
def AKept(w w':World)(r r':Nat)(ty:TypeId):Prop :=(w.heap[r]?=none→w'.heap[r']?=none)∧(w.heap[r]?=none∨r'=r∧∀c,w.heap[r]?=some (.cells c ty (0,0))→∃c',w'.heap[r]?=some (.cells c' ty (0,0))∧c'.size=c.size)
theorem VN(e:r'=r)(h:w'.heap[r]?=w.heap[r]?):AKept w w' r r' ty:=by
 subst e;exact⟨fun G=>h.trans G,.inr ⟨rfl,fun c hc=>⟨c,h.trans hc,rfl⟩⟩⟩
theorem MH(h:w.heap[r]?=none)(h':w'.heap[r']?=none):AKept w w' r r' ty:=⟨fun _=>h',.inl h⟩
theorem Ij{l:Array α}(h:l[r]?=none):l.size≤r:=Array.getElem?_eq_none_iff.1 h
theorem Kz{l:Array α}(h:l.size≤r):l[r]?=none:=Array.getElem?_eq_none_iff.2 h
theorem AKept.trans{J:Nat}(hs:w.heap.size≤w'.heap.size)(a:AKept w w' r r' ty)(b:AKept w' w'' r' J ty):AKept w w'' r J ty:=by
 refine⟨fun h=>b.1 (a.1 h),?_⟩;rcases a.2 with U|⟨U,h8⟩
 ·exact .inl U
 rcases b.2 with Z|⟨Z,O⟩
 ·rw[U] at Z;exact .inl (Kz (Nat.le_trans hs (Ij Z)))
 refine .inr ⟨Z.trans U,fun c hc=>?_⟩;obtain⟨c',hc',ab⟩:=h8 c hc;rw[U] at O;obtain⟨aa,G,Y⟩:=O c' hc';exact⟨aa,G,Y.trans ab⟩
structure Zl(φ:Nat→Nat)(h:QY)(w:World)(φ':Nat→Nat)(h':QY)(w':World):Prop where
 os:w'.os=w.os
 tape:w'.tape=w.tape
 output:w'.output=w.output
 size:w.heap.size≤w'.heap.size
 same:∀r,r<w.heap.size→(∀b,h b≠none→φ b≠r)→w'.heap[r]?=w.heap[r]?
 cell:∀r o,r<w.heap.size→¬DD φ h r o→w'.cell? ⟨r,o,none⟩=w.cell? ⟨r,o,none⟩
 mu:∀r o,r<w.heap.size→DD φ' h' r o→DD φ h r o
 kb:∀b ty cs,1000≤b→h b=some (.box ty cs)→(∃cs',h' b=some (.box ty cs'))∧φ' b=φ b
 kt:∀t ty S n,1000≤t→h t=some (.arr ty S n)→∃n',h' t=some (.arr ty S n')∧n≤n' ∧
  (n'=n→AKept w w' (φ t) (φ' t) ty)
 kv:∀t ty S es,1000≤t→h t=some (.vec ty S es)→∃es',h' t=some (.vec ty S es')∧es.length≤es'.length ∧
  (es'.length=es.length→φ' t=φ t∧∀c,w.heap[φ t]?=some (.cells c ty (0,0))→∃c',w'.heap[φ t]?=some (.cells c' ty (0,0))∧c'.size=c.size)
 ko:∀b k x,1000≤b→h b=some k→k.ob=some x→(∃k',h' b=some k'∧k'.ob=some x)∧φ' b=φ b
theorem Zl.refl(φ:Nat→Nat)(h:QY)(w:World):Zl φ h w φ h w :=
 ⟨rfl,rfl,rfl,Yf _,fun _ _ _=>rfl,fun _ _ _ _=>rfl,fun _ _ _ x=>x,fun _ _ _ _ x=>⟨⟨_,x⟩,rfl⟩,fun _ _ _ _ _ x=>⟨_,x,Yf _,fun _=>VN (rfl) rfl⟩,fun _ _ _ _ _ x=>⟨_,x,Yf _,fun _=>⟨rfl,fun c hc=>⟨c,hc,rfl⟩⟩⟩,fun _ _ _ _ J G=>⟨⟨_,J,G⟩,rfl⟩⟩
theorem Nz{k:Blk}(hb:h b=some k):∃o,DD φ h (φ b) o:=by
 cases k with
|box ty cs=>exact⟨0,b,_,hb,rfl,trivial⟩
|arr ty S n=>exact⟨n*S,b,_,hb,rfl,Yf _⟩
|vec ty S es=>exact⟨0,b,_,hb,rfl,trivial⟩
|lp T nf st pd=>exact⟨0,b,_,hb,rfl,trivial⟩
|mp es=>exact⟨0,b,_,hb,rfl,trivial⟩
|mf es=>exact⟨0,b,_,hb,rfl,trivial⟩
|mg en G es=>exact⟨0,b,_,hb,rfl,trivial⟩
|it m G sn=>exact⟨0,b,_,hb,rfl,trivial⟩
theorem GM.evol(G:GM φ h w M0)(E:Zl φ h w φ' h' w'):GM φ' h' w' M0:=by
 have U:∀g∈jZ,∀b,h b≠none→φ b≠g:=fun g J b hb e=>by
  obtain⟨k,Z⟩:=AP.1 hb;obtain⟨o,Y⟩:=Nz (φ:=φ) Z;rw[e] at Y;exact G.m g J o (.inl Y)
 refine⟨vC (fun g J=>E.same g (kw G.w g J) (U g J)) G.w,fun g J o O=>?_⟩;rcases O with O|O
 ·exact G.m g J o (.inl (E.mu g o (kw G.w g J) O))
 ·exact G.m g J o (.inr O)
theorem GM.sub{J:ZQ}(G:GM φ h w M0)(hs:∀r o,MM φ' h' J r o→MM φ h M0 r o):GM φ' h' w J :=
 ⟨G.w,fun g U o O=>G.m g U o (hs g o O)⟩
theorem Zl.trans{U:Nat→Nat}{ab:QY}(a:Zl φ h w φ' h' w')(b:Zl φ' h' w' U ab w''):Zl φ h w U ab w'':=by
 have Y:∀r,r<w.heap.size→r<w'.heap.size:=fun r G=>Nat.lt_of_lt_of_le G a.size
 refine⟨b.os.trans a.os,b.tape.trans a.tape,b.output.trans a.output,Nat.le_trans a.size b.size,?_,?_,?_,?_,?_,?_,?_⟩
 ·intro r G aa;have J:=a.same r G aa;refine(b.same r (Y r G) ?_).trans J;intro c hc ai;cases hk:h' c with
 |none=>exact hc hk
 |some k =>
   obtain⟨o,ho⟩:=Nz (φ:=φ') hk;rw[ai] at ho;obtain⟨b0,k0,ah,af,_⟩:=a.mu r o G ho;exact aa b0 (by rw[ah];simp) af
 ·intro r o G hm;exact(b.cell r o (Y r G) (fun O=>hm (a.mu r o G O))).trans (a.cell r o G hm)
 ·intro r o G hm;exact a.mu r o G (b.mu r o (Y r G) hm)
 ·intro c ty cs hc hb;obtain⟨⟨cs',J⟩,O⟩:=a.kb c ty cs hc hb;obtain⟨h3,h4⟩:=b.kb c ty cs' hc J;exact⟨h3,h4.trans O⟩
 ·intro t ty S n ht hb;obtain⟨n',J,O,h3⟩:=a.kt t ty S n ht hb;obtain⟨Z,h4,h5,h6⟩:=b.kt t ty S n' ht J;exact⟨Z,h4,Nat.le_trans O h5,fun e=>(h3 zo).trans a.size (h6 zo)⟩
 ·intro t ty S n ht hb;obtain⟨n',J,O,h3⟩:=a.kv t ty S n ht hb;obtain⟨Z,h4,h5,h6⟩:=b.kv t ty S n' ht J;refine⟨Z,h4,Nat.le_trans O h5,fun e=>?_⟩;obtain⟨h7,h8⟩:=h3 zo;obtain⟨h9,ad⟩:=h6 zo;refine⟨h9.trans h7,fun c hc=>?_⟩;obtain⟨c',hc',aj⟩:=h8 c hc;rw[h7] at ad;obtain⟨ak,ac,ae⟩:=ad c' hc';exact⟨ak,ac,ae.trans aj⟩
 ·intro c k x hc hb ho;obtain⟨⟨k',J,O⟩,h3⟩:=a.ko c k x hc hb ho;obtain⟨h4,h5⟩:=b.ko c k' x hc J O;exact⟨h4,h5.trans h3⟩
theorem NA{o:Nat}(h:w.cell? ⟨r,o,none⟩=some v):r<w.heap.size:=by
 unfold World.cell? at h;dsimp only at h;split at h
 ·rename_i hc;exact(RQ.1 hc).1
 ·cases h
theorem Yg(Y:∀r o v,w.cell? ⟨r,o,none⟩=some v→¬M r o→w'.cell? ⟨r,o,none⟩=some v∧¬M' r o) :
  (∀(x:PV) (v:Value),Q6 w M x v→Q6 w' M' x v)∧(∀(es:List (List PV)) (S r o:Nat),Jn w M S r o es→Jn w' M' S r o es)∧(∀(cs:List PV) (r o:Nat),WW w M r o cs→WW w' M' r o cs):=by
 have key:∀n:Nat,(∀(x:PV),SizeOf.sizeOf x≤n→∀v,Q6 w M x v→Q6 w' M' x v)∧(∀(es:List (List PV)),SizeOf.sizeOf es≤n→∀S r o,Jn w M S r o es→Jn w' M' S r o es)∧(∀(cs:List PV),SizeOf.sizeOf cs≤n→∀r o,WW w M r o cs→WW w' M' r o cs):=by
  intro n
  induction n with
 |zero =>
   refine⟨fun x G=>?_,fun es G=>?_,fun cs G=>?_⟩
   ·cases x<;>simp at G
   ·cases es<;>simp at G
   ·cases cs<;>simp at G
 |succ n Z =>
   obtain⟨i1,i2,i3⟩:=Z;refine⟨fun x G=>?_,fun es G=>?_,fun cs G=>?_⟩
   ·intro v J;cases x with
   |val x=>simpa [Q6] using J
   |sl S es =>
     simp only[Q6] at J ⊢;rcases J with⟨r,o,cap,U,O⟩|O
     ·exact .inl ⟨r,o,cap,U,O.1,i2 es (by simp at G;omega) S r o O.2⟩
     ·exact .inr O
   ·intro S r o J;cases es with
   |nil=>simp[Jn]
   |cons e es =>
     simp only[Jn] at J ⊢;simp at G;exact⟨⟨J.1.1,i3 e zo r o J.1.2⟩,i2 es zo S r _ J.2⟩
   ·intro r o J;cases cs with
   |nil=>simp[WW]
   |cons c cs =>
     simp only[WW] at J ⊢;simp at G;obtain⟨⟨v,U,O,h7,h3⟩,h4⟩:=J;obtain⟨h5,h6⟩:=Y r o v U O;exact⟨⟨v,h5,h6,h7,i1 c zo v h3⟩,i3 cs zo r _ h4⟩
 exact⟨fun x v=>(key (SizeOf.sizeOf x)).1 x (Yf _) v,fun es=>(key (SizeOf.sizeOf es)).2.1 es (Yf _),fun cs=>(key (SizeOf.sizeOf cs)).2.2 cs (Yf _)⟩
theorem Zl.keeps(E:Zl φ h w φ' h' w')(M0:ZQ)(r o:Nat)(v:Value)(hc:w.cell? ⟨r,o,none⟩=some v)(J:¬MM φ h M0 r o) :
  w'.cell? ⟨r,o,none⟩=some v∧¬MM φ' h' M0 r o:=by
 have G:=NA hc;have O:¬DD φ h r o:=fun x=>J (.inl x)
 refine⟨(E.cell r o G O).trans hc,fun x=>?_⟩;rcases x with x|x
 ·exact O (E.mu r o G x)
 ·exact J (.inr x)
structure VQ(φ:Nat→Nat)(h:QY)(w:World)(φ':Nat→Nat)(h':QY)(w':World):Prop where
 b:∀b ty cs,h b=some (.box ty cs)→(∃ty' cs',h' b=some (.box ty' cs'))∧φ' b=φ b
 t:∀t ty S n,h t=some (.arr ty S n)→∃n',h' t=some (.arr ty S n')∧n≤n' ∧
  (n'=n→AKept w w' (φ t) (φ' t) ty)
 v:∀t ty S es,h t=some (.vec ty S es)→∃es',h' t=some (.vec ty S es')∧es.length≤es'.length ∧
  (es'.length=es.length→φ' t=φ t∧∀c,w.heap[φ t]?=some (.cells c ty (0,0))→∃c',w'.heap[φ t]?=some (.cells c' ty (0,0))∧c'.size=c.size)
 o:∀b k x,h b=some k→k.ob=some x→(∃k',h' b=some k'∧k'.ob=some x)∧φ' b=φ b
theorem QZ(hk:∀r o v,w.cell? ⟨r,o,none⟩=some v→¬M r o→w'.cell? ⟨r,o,none⟩=some v∧¬M' r o)(X:VQ φ h w φ' h' w') :
  (∀(x:AV) (v:Value),Qg φ h w M x v→Qg φ' h' w' M' x v)∧(∀(xs:List AV) (l:List Value),Ql φ h w M xs l→Ql φ' h' w' M' xs l):=by
 obtain⟨kp,ke,kc⟩:=Yg hk
 have key:∀n:Nat,(∀(x:AV),SizeOf.sizeOf x≤n→∀v,Qg φ h w M x v→Qg φ' h' w' M' x v)∧(∀(xs:List AV),SizeOf.sizeOf xs≤n→∀l,Ql φ h w M xs l→Ql φ' h' w' M' xs l):=by
  intro n
  induction n with
 |zero =>
   refine⟨fun x hx=>?_,fun es hx=>?_⟩
   ·cases x<;>simp at hx
   ·cases es<;>simp at hx
 |succ n ih =>
   obtain⟨i1,i2⟩:=ih;refine⟨fun x hx v G=>?_,fun xs hx l G=>?_⟩
   ·cases x with
   |p x=>simp only[Qg] at G ⊢;exact kp x v G
   |tsl S es t =>
     simp only[Qg] at G ⊢;obtain⟨J,ty,n,O,h3,h5⟩:=G;obtain⟨n',U,Y,Z⟩:=X.t t ty S n O;refine⟨kp _ _ J,ty,n',U,by omega,fun he=>?_⟩;have:n'=n:=by omega
     rcases h5 zo with⟨g0,g1,g2⟩|⟨cap,c,g1,g2,g3,g6,g7⟩
     ·exact .inl ⟨by omega,g1,(Z this).1 g2⟩
     rcases(Z this).2 with e4|⟨e4,e5⟩
     ·rw[e4] at g2;cases g2
     obtain⟨c',g4,g5⟩:=e5 c g2;exact .inr ⟨cap,c',by rw[e4,this];exact g1,by rw[e4];exact g4,by rw[g5,g3],by omega,g7⟩
   |ptr b off =>
     simp only[Qg] at G ⊢;obtain⟨J,ty,cs,O⟩:=G;obtain⟨U,Y⟩:=X.b b ty cs O;exact⟨by rw[Y];exact J,U⟩
   |bsl b n =>
     simp only[Qg] at G ⊢;obtain⟨J,ty,cs,O⟩:=G;obtain⟨U,Y⟩:=X.b b ty cs O;exact⟨by rw[Y];exact J,U⟩
   |sfp b =>
     simp only[Qg] at G ⊢;obtain⟨J,ty,cs,O⟩:=G;obtain⟨U,Y⟩:=X.b b ty cs O;exact⟨by rw[Y];exact J,U⟩
   |eptr cs =>
     simp only[Qg] at G ⊢;obtain⟨r,o,J,O⟩:=G;exact⟨r,o,J,kc cs r o O⟩
   |agg cs =>
     simp only[Qg] at G ⊢;obtain⟨l,J,O⟩:=G;exact⟨l,J,i2 cs (by simp at hx;omega) l O⟩
   |tup cs =>
     simp only[Qg] at G ⊢;obtain⟨l,J,O⟩:=G;exact⟨l,J,i2 cs (by simp at hx;omega) l O⟩
   |fn f a b =>
     simp only[Qg] at G ⊢;obtain⟨l,m,J,O,h3⟩:=G;simp at hx;exact⟨l,m,J,i2 a zo l O,i2 b zo m h3⟩
   |ifc t x =>
     simp only[Qg] at G ⊢;obtain⟨y,J,O⟩:=G;exact⟨y,J,i1 x (by simp at hx;omega) y O⟩
   |vnil=>simp only[Qg] at G ⊢;exact G
   |vsl S t n =>
     simp only[Qg] at G ⊢;obtain⟨J,ty,es,O,h3,h5⟩:=G;obtain⟨es',U,Y,Z⟩:=X.v t ty S es O;refine⟨J,ty,es',U,by omega,fun he=>?_⟩;have:es'.length=es.length:=by omega
     obtain⟨e4,e5⟩:=Z this;obtain⟨cap,c,g1,g2,g3,g6,g7⟩:=h5 zo;obtain⟨c',g4,g5⟩:=e5 c g2;exact⟨cap,c',by rw[e4];exact g1,by rw[e4];exact g4,by rw[g5,g3],g6,g7⟩
   |vtl S t n k m =>
     simp only[Qg] at G ⊢;obtain⟨J,ty,es,O,h3,h5⟩:=G;obtain⟨es',U,Y,Z⟩:=X.v t ty S es O;refine⟨J,ty,es',U,by omega,fun he=>?_⟩;have:es'.length=es.length:=by omega
     obtain⟨e4,e5⟩:=Z this;obtain⟨aa,cap,c,g1,g2,g3,g6,g7⟩:=h5 zo;obtain⟨c',g4,g5⟩:=e5 c g2;exact⟨aa,cap,c',by rw[e4];exact g1,by rw[e4];exact g4,by rw[g5,g3],g6,g7⟩
   |vptr t n k f =>
     simp only[Qg] at G ⊢;obtain⟨J,ty,S,es,O,h3,h5⟩:=G;obtain⟨es',U,Y,Z⟩:=X.v t ty S es O;refine⟨J,ty,S,es',U,by omega,fun he=>?_⟩;obtain⟨e4,e5⟩:=Z zo;rw[e4];exact h5 zo
   |yv b =>
     simp only[Qg] at G ⊢;obtain⟨J,k,T,nf,O,h3⟩:=G;obtain⟨⟨k',U,Y⟩,Z⟩:=X.o b k _ O h3;exact⟨by rw[Z];exact J,k',T,nf,U,Y⟩
   |mv b =>
     simp only[Qg] at G ⊢;obtain⟨J,k,O,h3⟩:=G;obtain⟨⟨k',U,Y⟩,Z⟩:=X.o b k _ O h3;exact⟨by rw[Z];exact J,k',U,Y⟩
   |iv b =>
     simp only[Qg] at G ⊢;obtain⟨J,k,O,h3⟩:=G;obtain⟨⟨k',U,Y⟩,Z⟩:=X.o b k _ O h3;exact⟨by rw[Z];exact J,k',U,Y⟩
   ·cases xs with
   |nil=>simpa [Ql] using G
   |cons x xs =>
     simp only[Ql] at G ⊢;simp at hx;obtain⟨y,ys,J,O,h3⟩:=G;exact⟨y,ys,J,i1 x zo y O,i2 xs zo ys h3⟩
 exact⟨fun x v=>(key (SizeOf.sizeOf x)).1 x (Yf _) v,fun xs l=>(key (SizeOf.sizeOf xs)).2 xs (Yf _) l⟩
def upd(h:QY)(b:Nat)(k:Blk):QY:=fun x=>if b=x then some k else h x
theorem bN(H:List (Nat×Blk))(b:Nat)(k:Blk):look ((b,k)::H)=upd (look H) b k:=rfl
structure St where
 T:List (Nat×AV)
 H:List (Nat×Blk)
variable {s s':St}
def St.put(s:St)(d:Option Tmp)(x:AV):St:=match d with|some d=>⟨(d,x)::s.T,s.H⟩|none=>s
structure DB where
 l:List Deferred
 base:Nat
variable {D:DB}
def Marks(φ:Nat→Nat)(D:DB)(h:QY)(a:Act)(w:World):Prop :=D.base≤w.heap.size∧∃G:List Nat,a.defers=(G.map fun r=>({ target:=.collected r,args:=#[] }:Deferred))++D.l∧G.Nodup∧∀r∈G,D.base≤r∧w.heap[r]?=some (.deferred (some []))∧∀b,h b≠none→φ b≠r
structure ZG(φ:Nat→Nat)(M0:ZQ)(N:Nat)(D:DB)(T:Nat→Option AV)(h:QY)(a:Act)(w:World):Prop where
 dfs:Marks φ D h a w
 siz:a.tmps.size=N
 hp:Z9 φ h w M0
 tm:∀t x,T t=some x→t<N∧Qg φ h w (MM φ h M0) x (a.tmps.getD t undef)
inductive AX where
|normal
|exit (id:Nat)
|ret
|panic (x:AV)
variable {Q:AX→St→Prop}
def UH(φ:Nat→Nat)(h:QY)(w:World)(M:ZQ):AX→Exit→Prop|.normal,e=>e=.normal|.exit i,e=>e=.exit i|.ret,e=>e=.ret|.panic x,e=>∃v,e=.panic [{ v:=v,recovered:=false }]∧Qg φ h w M x v
def Post(N:Nat)(D:DB)(Q:AX→St→Prop)(φ:Nat→Nat)(M0:ZQ)(h:QY)(w:World):Exit→Act→World→Prop:=fun e G w' =>∃φ' x s',Q x s'∧ZG φ' M0 N D (look s'.T) (look s'.H) G w'∧Zl φ h w φ' (look s'.H) w'∧UH φ' (look s'.H) w' (MM φ' (look s'.H) M0) x e
abbrev wd(ro:Option Nat):Fence:={ Fence.wide with round:=ro }
def Ex(P:Program)(N:Nat)(ro:Option Nat)(c:Code)(s:St)(Q:AX→St→Prop):Prop :=∀φ M0 D a w,ZG φ M0 N D (look s.T) (look s.H) a w→c.wpIn (wd ro) 0 P (Post N D Q φ M0 (look s.H) w) a w
theorem Post.trans{e:Exit}(E:Zl φ h w φ' h' w')(p:Post N D Q φ' M0 h' w' e a w''):Post N D Q φ M0 h w e a w'':=by
 obtain⟨G,x,s',Y,O,J,U⟩:=p;exact⟨G,x,s',Y,O,E.trans J,U⟩
theorem AR{Q':AX→St→Prop}(h:Ex P N ro c s Q)(G:∀x s',Q x s'→Q' x s'):Ex P N ro c s Q' :=
 fun φ M0 D a w r=>wpIn_mono (h φ M0 D a w r) fun _ _ _ ⟨φ',x,s',Y,O,J,U⟩=>⟨φ',x,s',G _ _ Y,O,J,U⟩
def andThen(K:St→Prop)(Q:AX→St→Prop):AX→St→Prop|.normal,s=>K s|x,s=>Q x s
theorem kz{x y:Code}(h:Ex P N ro x s (andThen (fun s'=>Ex P N ro y s' Q) Q)):Ex P N ro (.seq x y) s Q:=by
 intro φ M0 D a w r;refine wpIn_seq (wpIn_mono (h φ M0 D a w r) ?_);rintro e Y w' ⟨φ',k,s',J,U,O,G⟩;cases k with
|normal =>
  simp only[UH] at G;subst G;exact wpIn_mono (J φ' M0 D Y w' U) fun _ _ _ p=>p.trans O
|exit i=>simp only[UH] at G;subst G;exact⟨φ',.exit i,s',J,U,O,rfl⟩
|ret=>simp only[UH] at G;subst G;exact⟨φ',.ret,s',J,U,O,rfl⟩
|panic v=>obtain⟨u,h5,Z⟩:=G;subst h5;exact⟨φ',.panic v,s',J,U,O,u,rfl,Z⟩
theorem lV(h:Q .normal s):Ex P N ro .skip s Q :=
 fun φ _ _ _ w r=>wpIn_skip ⟨φ,.normal,s,h,r,Zl.refl _ _ _,rfl⟩
theorem Qbt(h:Q .ret s):Ex P N ro .ret s Q :=
 fun φ _ _ _ w r=>wpIn_ret ⟨φ,.ret,s,h,r,Zl.refl _ _ _,rfl⟩
theorem lW(h:Q (.exit id) s):Ex P N ro (.exit id) s Q :=
 fun φ _ _ _ w r=>wpIn_exit ⟨φ,.exit id,s,h,r,Zl.refl _ _ _,rfl⟩
theorem bO{l:Nat}(h:Q .normal s):Ex P N ro (.label l) s Q :=
 fun φ _ _ _ w r=>wpIn_label ⟨φ,.normal,s,h,r,Zl.refl _ _ _,rfl⟩
def inBlock(id:Nat)(Q:AX→St→Prop):AX→St→Prop|.exit i,s=>if i=id then Q .normal s else Q (.exit i) s|x,s=>Q x s
theorem bP(h:Ex P N ro c s (inBlock id Q)):Ex P N ro (.block id c) s Q:=by
 intro φ M0 D a w r;refine wpIn_block (wpIn_mono (h φ M0 D a w r) ?_);rintro e a' w' ⟨φ',k,s',G,U,O,J⟩;cases k with
|normal=>simp only[UH] at J;subst J;exact⟨φ',.normal,s',G,U,O,rfl⟩
|exit i =>
  simp only[UH] at J;subst J;simp only[inBlock] at G;by_cases hi:i=id
  ·simp only[hi,if_true] at G;show Exit.inBlock id _ _ _ _;simp only[Exit.inBlock,hi,if_true];exact⟨φ',.normal,s',G,U,O,rfl⟩
  ·simp only[hi,if_false] at G;show Exit.inBlock id _ _ _ _;simp only[Exit.inBlock,hi,if_false];exact⟨φ',.exit i,s',G,U,O,rfl⟩
|ret=>simp only[UH] at J;subst J;exact⟨φ',.ret,s',G,U,O,rfl⟩
|panic v=>obtain⟨u,Z,Y⟩:=J;subst Z;exact⟨φ',.panic v,s',G,U,O,u,rfl,Y⟩
theorem Uz{b:Frame}{k:List Item}{cs:List Frame}:step P (lone (b.atR a (.code (.scope c)::k)) cs w)=.next (lone (b.atR a (.code c::.inScope c::k)) cs w) :=
 step_lone_go (by simp[stepG,stepG.exec,Frame.atR])
theorem qp{b:Frame}{k:List Item}{cs:List Frame}:step P (lone (b.atR a (.inScope c::k)) cs w)=.next (lone (b.atR a k) cs w) :=
 step_lone_go (by simp[stepG,stepG.exec,Frame.atR])
theorem xc{F:Fence}{Q:Exit→Act→World→Prop}(h:c.wpIn F n P (Exit.noGoto Q) a w):(Code.scope c).wpIn F n P Q a w:=by
 intro b k cs aa hb Z;have h0:(lone (b.atR a (.code (.scope c)::k)) cs w).fenced P F:=fenced_calm hb Z rfl;obtain⟨e,O,J,U,G⟩:=h b (.inScope c::k) cs aa hb Z;cases e with
|normal=>exact⟨.normal,O,J,U,.head h0 Uz (StepsIn.trans G (.one (fenced_calm hb Z rfl) qp))⟩
|exit id =>
  refine⟨.exit id,O,J,U,fun k' hk=>.head h0 Uz (G.1 k' (by simp[exitTo,hk])),fun h1 h2=>?_⟩;obtain⟨Y,g1,g2⟩:=G.2 h1 (by simp[exitTo,h2]);exact⟨Y,g1,.head h0 Uz g2⟩
|goto l=>exact U.elim
|ret=>exact⟨_,O,J,U,.of_steps (.one h0 Uz) G⟩
|panic ch=>exact⟨_,O,J,U,.of_steps (.one h0 Uz) G⟩
|outgrown=>exact⟨_,O,J,U,.of_steps (.one h0 Uz) G⟩
theorem bQ(h:Ex P N ro c s Q):Ex P N ro (.scope c) s Q:=by
 intro φ M0 D a w r;refine xc (wpIn_mono (h φ M0 D a w r) ?_);rintro e a' w' ⟨φ',k,s',J,U,O,G⟩;cases k with
|normal=>simp only[UH] at G;subst G;exact⟨φ',.normal,s',J,U,O,rfl⟩
|exit i=>simp only[UH] at G;subst G;exact⟨φ',.exit i,s',J,U,O,rfl⟩
|ret=>simp only[UH] at G;subst G;exact⟨φ',.ret,s',J,U,O,rfl⟩
|panic v=>obtain⟨u,Z,Y⟩:=G;subst Z;exact⟨φ',.panic v,s',J,U,O,u,rfl,Y⟩
def Ik:Value→AV|.agg cs=>.agg (cs.toList.map fun c=>.p (.val c))|v=>.p (.val v)
def Zo(T:Nat→Option AV):Operand→Option AV|.tmp t=>T t|.const v=>some (Ik v)|.func f=>some (.p (.val (.func (.func f) #[] #[])))|.global _=>none
theorem FP{φ:Nat→Nat}{h:QY}{w:World}{M:ZQ}:∀l:List Value,Ql φ h w M (l.map fun c=>.p (.val c)) l
|[]=>by simp[Ql]
|x::l=>by simp only[U8,Ql];exact⟨x,l,rfl,by simp[Qg,Q6],FP l⟩
theorem Jr(v:Value):Qg φ h w M (Ik v) v:=by
 cases v with
|agg cs=>simp only[Ik,Qg];exact⟨cs.toList,by simp,FP _⟩
|_=>simp[Ik,Qg,Q6]
theorem ZG.ev(r:ZG φ M0 N D T h a w){v:AV}(G:Zo T x=some v) :
  Qg φ h w (MM φ h M0) v (a.eval x):=by
 cases x with
|tmp t=>exact(r.tm t v G).2
|const c=>simp only[Zo,Zf] at G;subst G;exact Jr _
|func f=>simp only[Zo,Zf] at G;subst G;simp[Qg,Q6,Act.eval]
|global g=>cases G
theorem kC{c:Operand}{x y:Code}(b:Bool)(hc:Zo (look s.T) c=some (.p (.val (.bool b))))(J:b=true→Ex P N ro x s Q)(hf:b=false→Ex P N ro y s Q):Ex P N ro (.cond c x y) s Q:=by
 intro φ M0 D a w r;have G:=r.ev hc;simp only[Qg,Q6] at G;cases b
 ·exact wpIn_cond_false G (hf rfl φ M0 D a w r)
 ·exact wpIn_cond_true G (J rfl φ M0 D a w r)
def Weak(N:Nat)(s s':St):Prop:=∀φ M0 D a w,ZG φ M0 N D (look s.T) (look s.H) a w→∃φ',ZG φ' M0 N D (look s'.T) (look s'.H) a w∧Zl φ (look s.H) w φ' (look s'.H) w
theorem Weak.refl(N:Nat)(s:St):Weak N s s:=fun φ _ _ _ _ r=>⟨φ,r,Zl.refl _ _ _⟩
theorem Weak.trans{G:St}(a:Weak N s s')(b:Weak N s' G):Weak N s G:=fun φ M0 D U w r =>
 let ⟨O,r1,e1⟩:=a φ M0 D U w r;let ⟨J,Z,Y⟩:=b O M0 D U w r1;⟨J,Z,e1.trans Y⟩
theorem LJ(hw:Weak N s s')(h:Ex P N ro c s' Q):Ex P N ro c s Q:=by
 intro φ M0 D a w r;obtain⟨G,r1,J⟩:=hw φ M0 D a w r;exact wpIn_mono (h G M0 D a w r1) fun _ _ _ p=>p.trans J
theorem uP{ι:Type}(S:ι→St)(μ:ι→Nat)(i0:ι)(round:∀i,Ex P N ro c (S i) (andThen (fun s'=>∃j,μ j<μ i∧Weak N s' (S j)) Q)):Ex P N ro (.loop c) (S i0) Q:=by
 intro φ M0 D a w r;refine wpIn_loop_ghost (fun n Z w'=>∃i φ',μ i=n∧ZG φ' M0 N D (look (S i).T) (look (S i).H) Z w'∧Zl φ (look (S i0).H) w φ' (look (S i).H) w') (μ i0) ⟨i0,φ,rfl,r,Zl.refl _ _ _⟩ ?_;rintro n Z w' ⟨i,φ',rfl,r',E⟩;refine wpIn_mono (round i φ' M0 D Z w' r') ?_;rintro e ab w'' ⟨G,k,s',O,Y,U,J⟩;cases k with
|normal =>
  simp only[UH] at J;subst J;obtain⟨j,hj,aa⟩:=O;obtain⟨ac,r2,e2⟩:=aa G M0 D ab w'' Y;exact⟨μ j,hj,j,ac,rfl,r2,(E.trans U).trans e2⟩
|exit i=>simp only[UH] at J;subst J;exact⟨G,.exit i,s',O,Y,E.trans U,rfl⟩
|ret=>simp only[UH] at J;subst J;exact⟨G,.ret,s',O,Y,E.trans U,rfl⟩
|panic v=>obtain⟨u,h5,h6⟩:=J;subst h5;exact⟨G,.panic v,s',O,Y,E.trans U,u,rfl,h6⟩
theorem Marks.keep(m:Marks φ D h a w)(E:Zl φ h w φ' h' w'):Marks φ' D h' a w':=by
 obtain⟨h0,Y,Z,h2,h3⟩:=m;refine⟨Nat.le_trans h0 E.size,Y,Z,h2,fun r U=>?_⟩;obtain⟨g0,g1,g2⟩:=h3 r U;have hlt:r<w.heap.size:=(RQ.1 g1).1;refine⟨g0,(E.same r hlt g2).trans g1,fun b hb e=>?_⟩;cases hk:h' b with
|none=>exact hb hk
|some k =>
  obtain⟨o,O⟩:=Nz (φ:=φ') hk;rw[e] at O;obtain⟨b0,k0,G,J,_⟩:=E.mu r o hlt O;exact g2 b0 (by rw[G];simp) J
theorem ZG.keep(r:ZG φ M0 N D T h a w)(E:Zl φ h w φ' h' w')(X:VQ φ h w φ' h' w')(hp:Z9 φ' h' w' M0):ZG φ' M0 N D T h' a w' :=
 ⟨r.dfs.keep E,r.siz,hp,fun t x G=>⟨(r.tm t x G).1,(QZ (E.keeps M0) X).1 _ _ (r.tm t x G).2⟩⟩
theorem VQ.trans{G:Nat→Nat}{aa:QY}(hs:w.heap.size≤w'.heap.size)(a:VQ φ h w φ' h' w')(b:VQ φ' h' w' G aa w''):VQ φ h w G aa w'':=by
 refine⟨?_,?_,?_,?_⟩
 ·intro c ty cs hc;obtain⟨⟨ae,cs',O⟩,Z⟩:=a.b c ty cs hc;obtain⟨U,Y⟩:=b.b c ae cs' O;exact⟨U,Y.trans Z⟩
 ·intro t ty S n ht;obtain⟨n',O,Z,U⟩:=a.t t ty S n ht;obtain⟨J,Y,h5,h6⟩:=b.t t ty S n' O;exact⟨J,Y,Nat.le_trans Z h5,fun e=>(U zo).trans hs (h6 zo)⟩
 ·intro t ty S n ht;obtain⟨n',O,Z,U⟩:=a.v t ty S n ht;obtain⟨J,Y,h5,h6⟩:=b.v t ty S n' O;refine⟨J,Y,Nat.le_trans Z h5,fun e=>?_⟩;obtain⟨h7,h8⟩:=U zo;obtain⟨h9,ac⟩:=h6 zo;refine⟨h9.trans h7,fun c hc=>?_⟩;obtain⟨c',hc',af⟩:=h8 c hc;rw[h7] at ac;obtain⟨ah,ab,ad⟩:=ac c' hc';exact⟨ah,ab,ad.trans af⟩
 ·intro c k x hb ho;obtain⟨⟨k',O,Z⟩,U⟩:=a.o c k x hb ho;obtain⟨Y,h5⟩:=b.o c k' x O Z;exact⟨Y,h5.trans U⟩
theorem VQ.refl(φ:Nat→Nat)(h:QY)(w:World):VQ φ h w φ h w :=
 ⟨fun _ _ _ x=>⟨⟨_,_,x⟩,rfl⟩,fun _ _ _ _ x=>⟨_,x,Yf _,fun _=>VN (rfl) rfl⟩,fun _ _ _ _ x=>⟨_,x,Yf _,fun _=>⟨rfl,fun c hc=>⟨c,hc,rfl⟩⟩⟩,fun _ _ _ J G=>⟨⟨_,J,G⟩,rfl⟩⟩
theorem ZG.put(r:ZG φ M0 N D (look s.T) (look s.H) a w){d:Option Tmp}{x:AV}(J:∀t,d=some t→t<N)(O:Qg φ (look s.H) w (MM φ (look s.H) M0) x v):ZG φ M0 N D (look (s.put d x).T) (look (s.put d x).H) (a.put d v) w:=by
 cases d with
|none=>exact r
|some d =>
  have hlt:=J d rfl;refine⟨r.dfs,by simp[Act.put,r.siz],r.hp,fun t y G=>?_⟩;simp only[St.put,look] at G;by_cases e:d=t
  ·simp only[e,if_true,Zf] at G;subst G;refine⟨e▸hlt,?_⟩;have:(a.put (some d) v).tmps.getD t undef=v:=by subst e;simp[Act.put,r.siz,hlt]
   rw[this];exact O
  ·simp only[e,if_false] at G;refine⟨(r.tm t y G).1,?_⟩;have:(a.put (some d) v).tmps.getD t undef=a.tmps.getD t undef:=by simp[Act.put,Array.getElem?_setIfInBounds_ne e]
   rw[this];exact(r.tm t y G).2
theorem RV(G:w'.heap=w.heap)(J:w'.os=w.os)(U:w'.tape=w.tape)(hu:w'.output=w.output):Zl φ h w φ h w' :=
 ⟨J,U,hu,by rw[G];exact Yf _,fun _ _ _=>by rw[G],fun _ _ _ _=>by simp[World.cell?,G],fun _ _ _ x=>x,fun _ _ _ _ x=>⟨⟨_,x⟩,rfl⟩,fun _ _ _ _ _ x=>⟨_,x,Yf _,fun _=>VN (rfl) (by rw[G])⟩,fun _ _ _ _ _ x=>⟨_,x,Yf _,fun _=>⟨rfl,fun c hc=>⟨c,by rw[G];exact hc,rfl⟩⟩⟩,fun _ _ _ _ Y O=>⟨⟨_,Y,O⟩,rfl⟩⟩
theorem FE(G:w'.heap=w.heap):VQ φ h w φ h w' :=
 ⟨fun _ _ _ x=>⟨⟨_,_,x⟩,rfl⟩,fun _ _ _ _ x=>⟨_,x,Yf _,fun _=>VN (rfl) (by rw[G])⟩,fun _ _ _ _ x=>⟨_,x,Yf _,fun _=>⟨rfl,fun c hc=>⟨c,by rw[G];exact hc,rfl⟩⟩⟩,fun _ _ _ O J=>⟨⟨_,O,J⟩,rfl⟩⟩
theorem Ku(Y:∀r o v,w.cell? ⟨r,o,none⟩=some v→¬M r o→w'.cell? ⟨r,o,none⟩=some v∧¬M' r o)(X:VQ φ h w φ' h' w')(U:w'.heap[r']?=w.heap[r]?){k:Blk}(hb:RelB φ h w M r k):RelB φ' h' w' M' r' k:=by
 cases k with
|box ty cs=>obtain⟨c,G,J⟩:=hb;exact⟨c,U.trans G,(QZ Y X).2 _ _ J⟩
|arr ty S n =>
  rcases hb with⟨h0,G⟩|⟨c,cap,G,J⟩
  ·exact .inl ⟨h0,U.trans G⟩
  ·exact .inr ⟨c,cap,U.trans G,J⟩
|vec ty S es=>obtain⟨c,cap,G,J,O,h4,h5,h6,h7⟩:=hb;exact⟨c,cap,U.trans G,J,O,h4,h5,h6,(QZ Y X).2 _ _ h7⟩
|lp T nf st pd=>obtain⟨tmps,d,G,J,O⟩:=hb;exact⟨tmps,d,U.trans G,J,fun t x ht=>⟨(O t x ht).1,(QZ Y X).1 _ _ (O t x ht).2⟩⟩
|mp es=>obtain⟨en,Z,G,J,O⟩:=hb;exact⟨en,Z,U.trans G,J,(QZ Y X).2 _ _ O⟩
|mf es=>obtain⟨en,Z,G,J,O,h4⟩:=hb;exact⟨en,Z,U.trans G,J,(QZ Y X).2 _ _ O,h4⟩
|mg en Z es=>obtain⟨G,J,O,h4⟩:=hb;exact⟨U.trans G,J,(QZ Y X).2 _ _ O,h4⟩
|it m Z sn =>
  obtain⟨G,k,J,O⟩:=hb;obtain⟨⟨k',e1,e2⟩,e3⟩:=X.o m k _ J O;exact⟨U.trans (by rw[e3];exact G),k',e1,e2⟩
theorem Be(G:w'.heap=w.heap)(E:Zl φ h w φ h w')(r:Z9 φ h w M0):Z9 φ h w' M0 :=
 ⟨r.inj,fun b k hb=>Ku (E.keeps M0) (FE G) (by rw[G]) (r.blk b k hb),r.fr,fun x o J=>by rw[G];exact r.lt x o J,r.gm.evol E⟩
def QM(φ:Nat→Nat)(b r:Nat):Nat→Nat:=fun x=>if b=x then r else φ x
theorem Bf(r:Z9 φ h w M0){k:Blk}(hb:h b=some k)(J:∀ty S,k≠.arr ty S 0):φ b<w.heap.size:=by
 have:=r.blk b k hb;cases k with
|box ty cs=>obtain⟨c,G,_⟩:=this;exact(RQ.1 G).1
|arr ty S n =>
  rcases this with⟨h0,_⟩|⟨c,cap,G,_⟩
  ·exact absurd (by rw[h0]) (J ty S)
  ·exact(RQ.1 G).1
|vec ty S es=>obtain⟨c,cap,G,_⟩:=this;exact(RQ.1 G).1
|lp T nf st pd=>obtain⟨c,cap,G,_⟩:=this;exact(RQ.1 G).1
|mp es=>obtain⟨c,cap,G,_⟩:=this;exact(RQ.1 G).1
|mf es=>obtain⟨c,cap,G,_⟩:=this;exact(RQ.1 G).1
|mg en O es=>exact(RQ.1 this.1).1
|it m O sn=>exact(RQ.1 this.1).1
theorem vD(r:Z9 φ h w M0){S:Nat}{es:List (List PV)}(hb:h b=some (.vec ty S es)):φ b<w.heap.size :=
 Bf r hb fun _ _ e=>by cases e
def Clear(φ:Nat→Nat)(h:QY)(w:World)(K:Nat):Prop:=∀b,h b≠none→φ b<w.heap.size∨w.heap.size+K≤φ b
theorem Clear.lt{K:Nat}(O:Clear φ h w K)(r:Z9 φ h w M0)(hs:w'.heap.size≤w.heap.size+K)(G:∀x,x<w.heap.size→w'.heap[x]?=w.heap[x]?)(hb:h b≠none) :
  w'.heap[φ b]?=w.heap[φ b]?:=by
 rcases O b hb with J|J
 ·exact G _ J
 ·rw[Kz (by omega:w'.heap.size≤φ b),Kz (by omega:w.heap.size≤φ b)]
def YM(φ:Nat→Nat)(n K:Nat):Nat→Nat:=fun b=>if φ b<n then φ b else φ b+K
theorem FQ(r:Z9 φ h w M0)(K:Nat){k:Blk}(hb:h b=some k)(G:∀ty S,k≠.arr ty S 0):YM φ w.heap.size K b=φ b:=by
 have:=Bf r hb G;simp[YM,this]
theorem vE{K:Nat}:w.heap[YM φ w.heap.size K b]?=w.heap[φ b]?:=by
 unfold YM;by_cases e:φ b<w.heap.size
 ·simp only[e,if_true]
 ·simp only[e,if_false];rw[Kz zo,Kz zo]
theorem vG(r:Z9 φ h w M0)(K:Nat):Zl φ h w (YM φ w.heap.size K) h w∧VQ φ h w (YM φ w.heap.size K) h w:=by
 have O:∀t ty S n,h t=some (.arr ty S n)→∃n',h t=some (.arr ty S n')∧n≤n' ∧
  (n'=n→AKept w w (φ t) (YM φ w.heap.size K t) ty):=by
  intro t ty S n O;refine⟨n,O,Yf _,fun _=>?_⟩;by_cases e:φ t<w.heap.size
  ·exact VN (by simp[YM,e]) rfl
  ·exact MH (Kz zo) (by rw[vE];exact Kz zo)
 have J:∀b k x,h b=some k→k.ob=some x→YM φ w.heap.size K b=φ b:=fun b k x hb J=>FQ r K hb (fun ty S e=>by subst e;cases J)
 refine⟨⟨rfl,rfl,rfl,Yf _,fun _ _ _=>rfl,fun _ _ _ _=>rfl,?_,?_,fun t ty S n _ U=>O t ty S n U,?_,?_⟩,?_,O,?_,?_⟩
 ·rintro x o G ⟨b,k,U,Y,Z⟩;refine⟨b,k,U,?_,Z⟩;unfold YM at Y;by_cases e:φ b<w.heap.size
  ·simpa only[e,if_true] using Y
  ·simp only[e,if_false] at Y;omega
 ·intro b ty cs _ hb;exact⟨⟨cs,hb⟩,FQ r K hb (fun _ _ e=>by cases e)⟩
 ·intro t ty S es _ hb;exact⟨es,hb,Yf _,fun _=>⟨FQ r K hb (fun _ _ e=>by cases e),fun c hc=>⟨c,hc,rfl⟩⟩⟩
 ·intro b k x _ hb G;exact⟨⟨k,hb,G⟩,J b k x hb G⟩
 ·intro b ty cs hb;exact⟨⟨ty,cs,hb⟩,FQ r K hb (fun _ _ e=>by cases e)⟩
 ·intro t ty S es hb;exact⟨es,hb,Yf _,fun _=>⟨FQ r K hb (fun _ _ e=>by cases e),fun c hc=>⟨c,hc,rfl⟩⟩⟩
 ·intro b k x hb G;exact⟨⟨k,hb,G⟩,J b k x hb G⟩
theorem mU(r:Z9 φ h w M0)(K:Nat):Z9 (YM φ w.heap.size K) h w M0:=by
 obtain⟨E,X⟩:=vG r K;refine⟨?_,fun b k hb=>Ku (E.keeps M0) X vE (r.blk b k hb),?_,r.lt,r.gm.evol E⟩
 ·intro b c hb hc e;refine r.inj b c hb hc ?_;unfold YM at e;by_cases O:φ b<w.heap.size<;>by_cases J:φ c<w.heap.size
  ·simpa only[O,J,if_true] using e
  ·simp only[O,J,if_true,if_false] at e;omega
  ·simp only[O,J,if_true,if_false] at e;omega
  ·simp only[O,J,if_false] at e;omega
 ·intro b hb o G;unfold YM at G;by_cases e:φ b<w.heap.size
  ·simp only[e,if_true] at G;exact r.fr b hb o G
  ·simp only[e,if_false] at G;have:=r.lt _ _ G;omega
theorem xe(K:Nat):Clear (YM φ w.heap.size K) h w K:=by
 intro b _;unfold YM;by_cases e:φ b<w.heap.size
 ·simp only[e,if_true];exact .inl trivial
 ·simp only[e,if_false];right;omega
theorem ZG.lift(r:ZG φ M0 N D T h a w)(K:Nat) :
  ZG (YM φ w.heap.size K) M0 N D T h a w∧Zl φ h w (YM φ w.heap.size K) h w∧VQ φ h w (YM φ w.heap.size K) h w∧Clear (YM φ w.heap.size K) h w K:=by
 obtain⟨E,X⟩:=vG r.hp K;exact⟨r.keep E X (mU r.hp K),E,X,xe K⟩
theorem XX{k:Blk}{o:Obj}(O:w'.heap=w.heap.push o)(U:w'.os=w.os)(ht:w'.tape=w.tape)(hu:w'.output=w.output)(hb:h b=none)(r:Z9 φ h w M0)(Z:Clear φ h w 1):Zl φ h w (QM φ b w.heap.size) (upd h b k) w'∧VQ φ h w (QM φ b w.heap.size) (upd h b k) w':=by
 have G:∀x,x<w.heap.size→w'.heap[x]?=w.heap[x]?:=fun x Y=>by rw[O,Array.getElem?_push,if_neg zo]
 have hne:∀c q,h c=some q→¬b=c:=fun c q hc e=>by rw[e] at hb;rw[hb] at hc;cases hc
 refine⟨⟨U,ht,hu,by rw[O];simp,fun x Y _=>G x Y,fun x o Y _=>by simp[World.cell?,G x Y],?_,?_,?_,?_,?_⟩,?_,?_,?_,?_⟩
 ·rintro x y Y ⟨c,q,h1,h2,h3⟩;simp only[upd,QM] at h1 h2;by_cases e:b=c
  ·simp only[e,if_true] at h2;omega
  ·simp only[e,if_false] at h1 h2;exact⟨c,q,h1,h2,h3⟩
 ·intro c ty cs _ hc;have:=hne c _ hc;exact⟨⟨cs,by simp[upd,this,hc]⟩,by simp[QM,this]⟩
 ·intro t ty S n _ hc;have:=hne t _ hc;exact⟨n,by simp[upd,this,hc],Yf _,fun _=>VN (by simp[QM,this]) (Z.lt r (by rw[O];simp) G (by rw[hc];simp))⟩
 ·intro t ty S n _ hc;have:=hne t _ hc;refine⟨n,by simp[upd,this,hc],Yf _,fun _=>⟨by simp[QM,this],fun c J=>⟨c,?_,rfl⟩⟩⟩;rw[Z.lt r (by rw[O];simp) G (by rw[hc];simp)];exact J
 ·intro c k x _ hc U;have:=hne c _ hc;exact⟨⟨k,by simp[upd,this,hc],U⟩,by simp[QM,this]⟩
 ·intro c ty cs hc;have:=hne c _ hc;exact⟨⟨ty,cs,by simp[upd,this,hc]⟩,by simp[QM,this]⟩
 ·intro t ty S n hc;have:=hne t _ hc;exact⟨n,by simp[upd,this,hc],Yf _,fun _=>VN (by simp[QM,this]) (Z.lt r (by rw[O];simp) G (by rw[hc];simp))⟩
 ·intro t ty S n hc;have:=hne t _ hc;refine⟨n,by simp[upd,this,hc],Yf _,fun _=>⟨by simp[QM,this],fun c J=>⟨c,?_,rfl⟩⟩⟩;rw[Z.lt r (by rw[O];simp) G (by rw[hc];simp)];exact J
 ·intro c k x hc U;have:=hne c _ hc;exact⟨⟨k,by simp[upd,this,hc],U⟩,by simp[QM,this]⟩
theorem XY{k:Blk}{o:Obj}(hh:w'.heap=w.heap.push o)(hb:h b=none)(r:Z9 φ h w M0)(hC:Clear φ h w 1)(E:Zl φ h w (QM φ b w.heap.size) (upd h b k) w')(X:VQ φ h w (QM φ b w.heap.size) (upd h b k) w')(Y:RelB (QM φ b w.heap.size) (upd h b k) w' (MM (QM φ b w.heap.size) (upd h b k) M0) w.heap.size k):Z9 (QM φ b w.heap.size) (upd h b k) w' M0:=by
 have U:∀x,x<w.heap.size→w'.heap[x]?=w.heap[x]?:=fun x hx=>by rw[hh,Array.getElem?_push,if_neg zo]
 have hlt:∀c,h c≠none→φ c≠w.heap.size:=fun c hc=>by rcases hC c hc with Z|Z<;>omega
 refine⟨?_,?_,?_,fun x y hx=>Nat.lt_of_lt_of_le (r.lt x y hx) E.size,r.gm.evol E⟩
 ·intro c d hc O G;simp only[upd] at hc O;simp only[QM] at G;by_cases e1:b=c<;>by_cases e2:b=d
  ·omega
  ·simp only[e1,if_true] at G;have aa:¬c=d:=by omega
   simp only[aa,if_false] at G;rw[if_neg e2] at O;have:=hlt d O;omega
  ·simp only[e2,if_true] at G;have ab:¬d=c:=by omega
   simp only[ab,if_false] at G;rw[if_neg e1] at hc;have:=hlt c hc;omega
  ·simp only[e1,e2,if_false] at G hc O;exact r.inj c d hc O G
 ·intro c q hc;by_cases e:b=c
  ·have h2:q=k:=by simp only[upd,e,if_true,Zf] at hc;exact hc.symm
   have J:QM φ b w.heap.size c=w.heap.size:=by simp[QM,e]
   rw[h2,J];exact Y
  ·have Z:h c=some q:=by simpa [upd,e] using hc
   have J:QM φ b w.heap.size c=φ c:=by simp[QM,e]
   rw[J];exact Ku (E.keeps M0) X (hC.lt r (by rw[hh];simp) U (by rw[Z];simp)) (r.blk c q Z)
 ·intro c hc o hm;by_cases e:b=c
  ·have J:QM φ b w.heap.size c=w.heap.size:=by simp[QM,e]
   rw[J] at hm;exact absurd (r.lt _ _ hm) zo
  ·have J:QM φ b w.heap.size c=φ c:=by simp[QM,e]
   rw[J] at hm;exact r.fr c (by simpa [upd,e] using hc) o hm
theorem vH{cs cs':List AV}{c:Array Value}(hb:h b=some (.box ty cs))(hw:w.heap[φ b]?=some (.cells c ty (0,0)))(r:Z9 φ h w M0) :
  Zl φ h w φ (upd h b (.box ty cs')) (w.setRow (φ b) c')∧VQ φ h w φ (upd h b (.box ty cs')) (w.setRow (φ b) c'):=by
 have G:∀x,x≠φ b→(w.setRow (φ b) c').heap[x]?=w.heap[x]?:=fun x hx=>setRow_other w _ x c' hx
 have ab:∀t ty S n,h t=some (.arr ty S n)→t≠b:=fun t ty S n O e=>by rw[e,hb] at O;cases O
 have ac:∀t ty S n,h t=some (.arr ty S n)→φ t≠φ b:=fun t ty S n O e=>ab t ty S n O (r.inj t b (by rw[O];simp) (by rw[hb];simp) e)
 have aa:∀t ty S n,h t=some (.vec ty S n)→t≠b:=fun t ty S n O e=>by rw[e,hb] at O;cases O
 have Z:∀t ty S n,h t=some (.vec ty S n)→φ t≠φ b:=fun t ty S n O e=>aa t ty S n O (r.inj t b (by rw[O];simp) (by rw[hb];simp) e)
 have Y:∀d k x,h d=some k→k.ob=some x→¬b=d:=fun d k x U ho e=>by rw[←e,hb] at U;cases U;cases ho
 refine⟨⟨rfl,rfl,rfl,by simp,?_,?_,?_,?_,?_,?_,?_⟩,?_,?_,?_,?_⟩
 ·intro x _ Y;exact G x (fun e=>Y b (by rw[hb];simp) e.symm)
 ·intro x o _ hm;have:x≠φ b:=fun e=>hm ⟨b,_,hb,e.symm,trivial⟩
  simp[World.cell?,G x this]
 ·rintro x y _ ⟨d,q,h1,h2,h3⟩;by_cases e:b=d
  ·exact⟨b,_,hb,by rw[e];exact h2,trivial⟩
  ·exact⟨d,q,by simpa [upd,e] using h1,h2,h3⟩
 ·intro d J ds _ U;by_cases e:b=d
  ·subst e;rw[hb] at U;cases U;exact⟨⟨cs',by simp[upd]⟩,rfl⟩
  ·exact⟨⟨ds,by simp[upd,e,U]⟩,rfl⟩
 ·intro t J S n _ O;have e:=ab t J S n O;refine⟨n,by simp[upd,Ne.symm e,O],Yf _,fun _=>VN (rfl) (by rw[G _ (ac t J S n O)])⟩
 ·intro t J S n _ O;have e:=aa t J S n O;refine⟨n,by simp[upd,Ne.symm e,O],Yf _,fun _=>⟨rfl,fun c hc=>⟨c,by rw[G _ (Z t J S n O)];exact hc,rfl⟩⟩⟩
 ·intro d k x _ U ho;exact⟨⟨k,by simp[upd,Y d k x U ho,U],ho⟩,rfl⟩
 ·intro d J ds U;by_cases e:b=d
  ·exact⟨⟨ty,cs',by simp[upd,e]⟩,rfl⟩
  ·exact⟨⟨J,ds,by simp[upd,e,U]⟩,rfl⟩
 ·intro t J S n O;have e:=ab t J S n O;refine⟨n,by simp[upd,Ne.symm e,O],Yf _,fun _=>VN (rfl) (by rw[G _ (ac t J S n O)])⟩
 ·intro t J S n O;have e:=aa t J S n O;refine⟨n,by simp[upd,Ne.symm e,O],Yf _,fun _=>⟨rfl,fun c hc=>⟨c,by rw[G _ (Z t J S n O)];exact hc,rfl⟩⟩⟩
 ·intro d k x U ho;exact⟨⟨k,by simp[upd,Y d k x U ho,U],ho⟩,rfl⟩
theorem bR{cs cs':List AV}{c:Array Value}(hb:h b=some (.box ty cs))(hw:w.heap[φ b]?=some (.cells c ty (0,0)))(r:Z9 φ h w M0)(J:Ql φ h w (MM φ h M0) cs' c'.toList):Z9 φ (upd h b (.box ty cs')) (w.setRow (φ b) c') M0:=by
 obtain⟨E,X⟩:=vH (cs':=cs') (c':=c') hb hw r;refine⟨?_,?_,?_,fun x y hx=>Nat.lt_of_lt_of_le (r.lt x y hx) E.size,r.gm.evol E⟩
 ·intro d e G Y O
  have g:∀d,upd h b (.box ty cs') d≠none→h d≠none:=fun d G=>by
   by_cases e:b=d
   ·rw[←e,hb];simp
   ·simpa [upd,e] using G
  exact r.inj d e (g d G) (g e Y) O
 ·intro d q G;by_cases e:b=d
  ·subst e;have:q=.box ty cs':=by simpa [upd] using G.symm
   subst this;exact⟨c',setRow_heap w _ c c' ty _ hw,(QZ (E.keeps M0) X).2 _ _ J⟩
  ·have U:h d=some q:=by simpa [upd,e] using G
   have hne:φ d≠φ b:=fun Z=>e (r.inj d b (by rw[U];simp) (by rw[hb];simp) Z).symm
   exact Ku (E.keeps M0) X (setRow_other w _ _ c' hne) (r.blk d q U)
 ·intro d G o hm;refine r.fr d ?_ o hm;by_cases e:b=d
  ·rw[←e,hb];simp
  ·simpa [upd,e] using G
section lists
variable {φ:Nat→Nat}{h:QY}{w:World}{M:ZQ}
theorem FH{r:Nat}:∀(cs:List PV) (o:Nat),WW w M r o cs↔∀j c,cs[j]?=some c→∃v,w.cell? ⟨r,o+j,none⟩=some v∧¬M r (o+j)∧v.oneCell'=true∧Q6 w M c v
|[],o=>by simp[WW]
|c::cs,o=>by
  simp only[WW,FH cs (o+1)];constructor
  ·rintro⟨h0,O⟩ j x G;cases j with
  |zero=>simp at G;subst G;exact h0
  |succ j =>
    have:=O j x (by simpa using G)
    rwa [show o+1+j=o+(j+1) from by omega] at this
  ·intro J;refine⟨J 0 c zq,fun j x G=>?_⟩;have:=J (j+1) x (by simpa using G)
   rwa [show o+(j+1)=o+1+j from by omega] at this
theorem Tv{r:Nat}:∀(a b:List PV) (o:Nat),WW w M r o (a++b)↔WW w M r o a∧WW w M r (o+a.length) b
|[],b,o=>by simp[WW]
|c::a,b,o=>by
  simp only[List.cons_append,WW,Tv a b (o+1),lU];rw[show o+1+a.length=o+(a.length+1) from by omega];constructor
  ·rintro⟨x,y,z⟩;exact⟨⟨x,y⟩,z⟩
  ·rintro⟨⟨x,y⟩,z⟩;exact⟨x,y,z⟩
theorem WX{S r:Nat}:∀(es:List (List PV)) (o:Nat),Jn w M S r o es↔(∀e∈es,e.length=S)∧WW w M r o es.flatten
|[],o=>by simp[Jn,WW]
|e::es,o=>by
  simp only[Jn,WX es (o+S),List.flatten_cons,Tv,List.mem_cons];constructor
  ·rintro⟨⟨G,U⟩,O,Z⟩;refine⟨fun x J=>?_,U,by rw[G];exact Z⟩;rcases J with rfl|J
   ·exact G
   ·exact O x J
  ·rintro⟨G,U,O⟩;have Y:=G e (.inl rfl);exact⟨⟨Y,U⟩,fun x J=>G x (.inr J),by rw[←Y];exact O⟩
theorem Xu{S r:Nat}:∀(a b:List (List PV)) (o:Nat),Jn w M S r o (a++b)↔Jn w M S r o a∧Jn w M S r (o+a.length*S) b
|[],b,o=>by simp[Jn]
|e::a,b,o=>by
  simp only[List.cons_append,Jn,Xu a b (o+S),lU];rw[show o+S+a.length*S=o+(a.length+1)*S from by rw[Nat.add_mul];omega];constructor
  ·rintro⟨x,y,z⟩;exact⟨⟨x,y⟩,z⟩
  ·rintro⟨⟨x,y⟩,z⟩;exact⟨x,y,z⟩
theorem mV{S o:Nat}{es:List (List PV)}(G:Jn w M S r o es){e:List PV}(hi:es[i]?=some e):e.length=S∧WW w M r (o+i*S) e:=by
 have hlt:i<es.length:=(MG.1 hi).1
 have hs:es=es.take i++(e::es.drop (i+1)):=by
  have O:es[i]=e:=(MG.1 hi).2
  conv=>lhs;rw[←List.take_append_drop i es]
  rw[←O,List.drop_eq_getElem_cons hlt]
 rw[hs,Xu] at G;have J:(es.take i).length=i:=by simp;omega
 rw[J] at G;simp only[Jn] at G;exact G.2.1
theorem Z5:∀{xs:List AV} {l:List Value},Ql φ h w M xs l→xs.length=l.length
|[],l,G=>by simp only[Ql] at G;simp[G]
|x::xs,l,G=>by
  simp only[Ql] at G;obtain⟨y,ys,rfl,_,J⟩:=G;simp[Z5 J]
theorem Hf:∀{xs:List AV} {l:List Value},Ql φ h w M xs l→∀{i:Nat} {x:AV},xs[i]?=some x→∃v,l[i]?=some v∧Qg φ h w M x v
|[],l,G,i,x,hi=>by simp at hi
|y::xs,l,G,i,x,hi=>by
  simp only[Ql] at G;obtain⟨v,Z,rfl,O,Y⟩:=G;cases i with
 |zero=>simp at hi;subst hi;exact⟨v,by simp,O⟩
 |succ i =>
   obtain⟨u,U,J⟩:=Hf Y (i:=i) (by simpa using hi);exact⟨u,by simpa using U,J⟩
theorem ZI:∀{a b:List AV} {l m:List Value},Ql φ h w M a l→Ql φ h w M b m→Ql φ h w M (a++b) (l++m)
|[],b,l,m,G,J=>by simp only[Ql] at G;subst G;simpa using J
|x::a,b,l,m,G,J=>by
  simp only[Ql] at G;obtain⟨v,U,rfl,O,Y⟩:=G;simp only[List.cons_append,Ql];exact⟨v,U++m,rfl,O,ZI Y J⟩
theorem Ul:∀{a:List AV} {l:List Value} (n:Nat),Ql φ h w M a l→Ql φ h w M (a.take n) (l.take n)
|a,l,0,_=>by simp[Ql]
|[],l,n+1,G=>by simp only[Ql] at G;subst G;simp[Ql]
|x::a,l,n+1,G=>by
  simp only[Ql] at G;obtain⟨v,O,rfl,J,U⟩:=G;simp only[List.take_succ_cons,Ql];exact⟨v,O.take n,rfl,J,Ul n U⟩
theorem Um:∀{a:List AV} {l:List Value} (n:Nat),Ql φ h w M a l→Ql φ h w M (a.drop n) (l.drop n)
|a,l,0,J=>by simpa using J
|[],l,n+1,G=>by simp only[Ql] at G;subst G;simp[Ql]
|x::a,l,n+1,G=>by
  simp only[Ql] at G;obtain⟨v,Y,rfl,U,O⟩:=G;simpa using Um n O
end lists
def Vh{α:Type}(P:Program):Sem α→Option α|.pure a=>some a|.program k=>Vh P (k P)|.mark _ k=>Vh P k|_=>none
theorem qw{s:Sem α}{a:α}(h:Vh P s=some a)(w:World):s.run P w=.ok a w:=by
 induction s with
|pure b=>simp only[Vh,Zf] at h;subst h;rfl
|program k G=>simp only[Vh] at h;exact G P h
|mark m k G=>simp only[Vh] at h;exact G h
|_=>simp[Vh] at h
mutual
def Ej:AV→Option Value
|.p (.val x)=>some x
|.p (.sl _ _)=>none
|.tsl _ _ _=>none
|.ptr _ _=>none
|.eptr _=>none
|.vnil=>none
|.vsl _ _ _=>none
|.vptr _ _ _ _=>none
|.vtl _ _ _ _ _=>none
|.yv _=>none
|.mv _=>none
|.bsl _ _=>none
|.sfp _=>none
|.iv _=>none
|.agg cs=>(DJ cs).map fun l=>.agg l.toArray
|.tup cs=>(DJ cs).map fun l=>.tuple l.toArray
|.ifc t x=>(Ej x).map (.iface t)
|.fn f a b=>match DJ a,DJ b with|some l,some m=>some (.func f l.toArray m.toArray)|_,_=>none
def DJ:List AV→Option (List Value)
|[]=>some []
|x::xs=>match Ej x,DJ xs with|some y,some ys=>some (y::ys)|_,_=>none
end
theorem Bg :
  (∀(x:AV) (v y:Value),Qg φ h w M x v→Ej x=some y→v=y)∧(∀(xs:List AV) (l m:List Value),Ql φ h w M xs l→DJ xs=some m→l=m):=by
 have key:∀n:Nat,(∀(x:AV),SizeOf.sizeOf x≤n→∀v y,Qg φ h w M x v→Ej x=some y→v=y)∧(∀(xs:List AV),SizeOf.sizeOf xs≤n→∀l m,Ql φ h w M xs l→DJ xs=some m→l=m):=by
  intro n
  induction n with
 |zero =>
   refine⟨fun x O=>?_,fun es O=>?_⟩
   ·cases x<;>simp at O
   ·cases es<;>simp at O
 |succ n ih =>
   obtain⟨i1,i2⟩:=ih;refine⟨fun x O v y J G=>?_,fun xs O l m J G=>?_⟩
   ·cases x with
   |p x=>cases x with
    |val x=>simp only[Ej,Zf] at G;simp only[Qg,Q6] at J;rw[J,G]
    |sl S es=>simp[Ej] at G
   |tsl S es t=>simp[Ej] at G
   |ptr b off=>simp[Ej] at G
   |eptr cs=>simp[Ej] at G
   |vnil=>simp[Ej] at G
   |vsl S t n=>simp[Ej] at G
   |vptr t n k f=>simp[Ej] at G
   |vtl S t n k m=>simp[Ej] at G
   |yv b=>simp[Ej] at G
   |mv b=>simp[Ej] at G
   |iv b=>simp[Ej] at G
   |bsl b n=>simp[Ej] at G
   |sfp b=>simp[Ej] at G
   |agg cs =>
     simp only[Ej,LC] at G;obtain⟨m,Y,rfl⟩:=G;simp only[Qg] at J;obtain⟨l,rfl,U⟩:=J;rw[i2 cs (by simp at O;omega) l m U Y]
   |tup cs =>
     simp only[Ej,LC] at G;obtain⟨m,Y,rfl⟩:=G;simp only[Qg] at J;obtain⟨l,rfl,U⟩:=J;rw[i2 cs (by simp at O;omega) l m U Y]
   |fn f a b =>
     simp only[Ej] at G;split at G
     ·rename_i l m hl hm;simp only[Zf] at G;subst G;simp only[Qg] at J;obtain⟨l',m',rfl,U,Z⟩:=J;simp at O;rw[i2 a zo l' l U hl,i2 b zo m' m Z hm]
     ·cases G
   |ifc t x =>
     simp only[Ej,LC] at G;obtain⟨m,Y,rfl⟩:=G;simp only[Qg] at J;obtain⟨l,rfl,U⟩:=J;rw[i1 x (by simp at O;omega) l m U Y]
   ·cases xs with
   |nil=>simp only[DJ,Zf] at G;simp only[Ql] at J;rw[J,G]
   |cons x xs =>
     simp only[DJ] at G;split at G
     ·rename_i y ys Y U;simp only[Zf] at G;subst G;simp only[Ql] at J;obtain⟨u,us,rfl,Z,h4⟩:=J;simp at O;rw[i1 x zo u y Z Y,i2 xs zo us ys h4 U]
     ·cases G
 exact⟨fun x v=>(key (SizeOf.sizeOf x)).1 x (Yf _) v,fun xs l=>(key (SizeOf.sizeOf xs)).2 xs (Yf _) l⟩
def AV.one:AV→Bool|.p (.val x)=>x.oneCell'|.agg _|.tup _=>false|_=>true
theorem uQ{x:AV}(J:x.one=true)(G:Qg φ h w M x v):v.oneCell'=true∧v.cells=#[v]:=by
 have key:v.oneCell'=true:=by
  cases x with
 |p x=>cases x with
  |val y=>simp only[Qg,Q6] at G;subst G;exact J
  |sl S es =>
    simp only[Qg,Q6] at G;rcases G with⟨r,o,cap,rfl,_⟩|⟨_,a,cap,rfl⟩<;>rfl
 |tsl S es t =>
   simp only[Qg,Q6] at G;rcases G.1 with⟨r,o,cap,rfl,_⟩|⟨_,a,cap,rfl⟩<;>rfl
 |ptr b off=>simp only[Qg] at G;rw[G.1];rfl
 |eptr cs=>simp only[Qg] at G;obtain⟨r,o,rfl,_⟩:=G;rfl
 |vnil=>simp only[Qg] at G;rw[G];rfl
 |vsl S t n=>simp only[Qg] at G;exact G.1
 |vptr t n k f=>simp only[Qg] at G;exact G.1
 |vtl S t n k m=>simp only[Qg] at G;exact G.1
 |yv b=>simp only[Qg] at G;rw[G.1];rfl
 |mv b=>simp only[Qg] at G;rw[G.1];rfl
 |iv b=>simp only[Qg] at G;rw[G.1];rfl
 |bsl b n=>simp only[Qg] at G;rw[G.1];rfl
 |sfp b=>simp only[Qg] at G;rcases G.1 with e|e<;>rw[e]<;>rfl
 |agg cs=>simp[AV.one] at J
 |tup cs=>simp[AV.one] at J
 |fn f a b=>simp only[Qg] at G;obtain⟨l,m,rfl,_⟩:=G;rfl
 |ifc t x=>simp only[Qg] at G;obtain⟨y,rfl,_⟩:=G;rfl
 refine⟨key,?_⟩;cases v<;>first|rfl|(simp[Value.oneCell'] at key)
def Hg:List AV→Bool|[]=>true|x::xs=>x.one&&Hg xs
def cellsOf:AV→Option (List AV)|.agg cs=>if Hg cs then some cs else none|x=>if x.one then some [x] else none
theorem Tz{φ:Nat→Nat}{h:QY}{w:World}{M:ZQ}:∀{xs:List AV} {l:List Value},Hg xs=true→Ql φ h w M xs l→∀u∈l,u.oneCell'=true
|[],l,_,G=>by simp only[Ql] at G;subst G;simp
|x::xs,l,J,G=>by
  simp only[Hg,KL] at J;simp only[Ql] at G;obtain⟨y,ys,rfl,U,O⟩:=G;intro u hu;rcases List.mem_cons.1 hu with rfl|hu
  ·exact(uQ J.1 U).1
  ·exact Tz J.2 O u hu
theorem Wt{x:AV}{cs:List AV}(hc:cellsOf x=some cs)(J:Qg φ h w M x v) :
  Ql φ h w M cs v.cells.toList∧(∀u∈v.cells.toList,u.oneCell'=true)∧Hg cs=true:=by
 have other:(if x.one then some [x] else none)=some cs→Ql φ h w M cs v.cells.toList∧(∀u∈v.cells.toList,u.oneCell'=true)∧Hg cs=true:=by
  intro O;split at O
  ·rename_i G;simp only[Zf] at O;subst O;obtain⟨U,Y⟩:=uQ G J;rw[Y];exact⟨by simp only[Ql];exact⟨v,[],rfl,J,rfl⟩,by simpa using U,by simp[Hg,G]⟩
  ·cases O
 cases x with
|agg xs =>
  simp only[cellsOf] at hc;split at hc
  ·rename_i G;simp only[Zf] at hc;subst hc;simp only[Qg] at J;obtain⟨l,rfl,U⟩:=J;simp only[Value.cells];exact⟨U,Tz G U,G⟩
  ·cases hc
|_=>exact other hc
abbrev Kt:=AV×Option (Nat×Blk)×List Nat
def ap(h:QY):Option (Nat×Blk)→QY|none=>h|some (b,k)=>upd h b k
def Yield(P:Program)(o:Oper)(φ:Nat→Nat)(M0:ZQ)(h:QY)(a:Act)(w:World)(x:AV)(h':QY):Prop :=∃G v w' φ',(execOp a.eval o).run P w=.ok G w'∧(G=.value v∨G=.skip∧v=undef)∧Qg φ' h' w' (MM φ' h' M0) x v∧Z9 φ' h' w' M0∧Zl φ h w φ' h' w'∧VQ φ h w φ' h' w'
section
variable {P:Program}{o:Oper}{φ:Nat→Nat}{M0:ZQ}{N:Nat}{D:DB}{T:Nat→Option AV}{h:QY}{a:Act}{w:World}
theorem Yield.of_lift(r:ZG φ M0 N D T h a w)(K:Nat){x:AV}(U:∀G,ZG G M0 N D T h a w→Zl φ h w G h w→VQ φ h w G h w→Clear G h w K→Yield P o G M0 h a w x h'):Yield P o φ M0 h a w x h':=by
 obtain⟨r1,O,J,Z⟩:=r.lift K;obtain⟨nx,v,w',φ',Y,h2,h3,h4,h5,h6⟩:=U _ r1 O J Z;exact⟨nx,v,w',φ',Y,h2,h3,h4,O.trans h5,VQ.trans (Yf _) J h6⟩
theorem Qt(r:ZG φ M0 N D T h a w){x:AV}(G:(execOp a.eval o).run P w=.ok (.value v) w)(J:Qg φ h w (MM φ h M0) x v):Yield P o φ M0 h a w x h :=
 ⟨_,v,w,φ,G,.inl rfl,J,r.hp,Zl.refl _ _ _,VQ.refl _ _ _⟩
def WY(T:Nat→Option AV)(x:Operand):Option Kt:=match Zo T x with|some v=>some (v,none,[])|none=>none
def BX(T:Nat→Option AV)(c x y:Operand):Option Kt :=
 match Zo T c with
|some (.p (.val (.bool true)))=>WY T x
|some (.p (.val (.bool false)))=>WY T y
|_=>none
theorem uR(r:ZG φ M0 N D T h a w){v:AV}(G:o.op=.move x∨o.op=.assign x)(J:Zo T x=some v):Yield P o φ M0 h a w v h:=by
 refine Qt r (v:=a.eval x) ?_ (r.ev J);rcases G with G|G<;>simp[execOp,G]
theorem uS(r:ZG φ M0 N D T h a w){c:Operand}{u:Kt}(Y:o.op=.pick c x y)(G:BX T c x y=some u):u.2.1=none∧u.2.2=[]∧Yield P o φ M0 h a w u.1 h:=by
 unfold BX at G;split at G
 ·rename_i U;unfold WY at G;split at G
  ·rename_i v O;simp only[Zf] at G;subst G;have J:=r.ev U;simp only[Qg,Q6] at J;exact⟨rfl,rfl,Qt r (v:=a.eval x) (by simp[execOp,Y,J,asBool]) (r.ev O)⟩
  ·cases G
 ·rename_i U;unfold WY at G;split at G
  ·rename_i v O;simp only[Zf] at G;subst G;have J:=r.ev U;simp only[Qg,Q6] at J;exact⟨rfl,rfl,Qt r (v:=a.eval y) (by simp[execOp,Y,J,asBool]) (r.ev O)⟩
  ·cases G
 ·cases G
def G6:TypeDesc→Bool|.struct _|.array _ _=>true|_=>false
theorem Hl{t:TypeId}{d:TypeDesc}(G:P.underlying t=some d)(w:World):(isAgg t).run P w=.ok (G6 d) w:=by
 simp only[isAgg,Sem.run_bind,run_underlying G,Result.andThen_ok];cases d<;>rfl
theorem Zi{t:TypeId}{i:TypeInfo}(hi:P.info? t=some i)(w:World):(sizeOf t).run P w=.ok i.size w:=by
 simp[sizeOf,typeInfo,hi]
def Sv(P:Program)(T:Nat→Option AV)(h:QY)(ty:TypeId)(x:Operand):Option Kt :=
 match P.underlying ty,P.info? ty with
|some d,some i =>
  match Zo T x with
 |some (.ptr b off) =>
   match h b with
  |some (.box _ cs) =>
    if G6 d then(if off+i.size≤cs.length then some (.agg ((cs.drop off).take i.size),none,[b]) else none)
    else match cs[off]? with|some c=>some (c,none,[b])|none=>none
  |_=>none
 |some (.eptr cs) =>
   if G6 d then(if i.size≤cs.length then some (.agg ((cs.take i.size).map .p),none,[]) else none)
   else match cs[0]? with|some c=>some (.p c,none,[])|none=>none
 |_=>none
|_,_=>none
theorem DK{d:TypeDesc}{i:TypeInfo}(U:P.underlying ty=some d)(hi:P.info? ty=some i)(G:G6 d=true)(l:List Value)(Y:l.length=i.size)(hc:∀j v,l[j]?=some v→w.cell? ⟨r,off+j,none⟩=some v):(loadVar ty ⟨r,off,none⟩).run P w=.ok (.agg l.toArray) w:=by
 have J:=run_loadCells_list (P:=P) w ⟨r,off,none⟩ l (fun j v O=>by rw[Addr.add_lit];exact hc j v O);rw[Y] at J;simp[loadVar,Hl U,G,Zi hi,J]
theorem DL{d:TypeDesc}(J:P.underlying ty=some d)(G:G6 d=false)(hc:w.cell? ⟨r,off,none⟩=some v) :
  (loadVar ty ⟨r,off,none⟩).run P w=.ok v w:=by
 simp[loadVar,Hl J,G,hc]
theorem Yt{c:Array Value}(hw:w.heap[r]?=some (.cells c ty (0,0))):w.cell? ⟨r,off,none⟩=c[off]?:=by simp[World.cell?,hw]
theorem Il(r:ZG φ M0 N D T h a w){u:Kt}(G:Sv P T h ty x=some u):u.2.1=none∧∃v,(Instr.loadAt ty (a.eval x)).run P w=.ok v w∧Qg φ h w (MM φ h M0) u.1 v:=by
 unfold Sv at G;split at G
 ·rename_i d i hd hi;split at G
  ·rename_i b off hx;have h2:=r.ev hx;simp only[Qg] at h2;split at G
   ·rename_i af cs hb;obtain⟨c,hw,aa⟩:=r.hp.blk b _ hb;split at G
    ·rename_i J;split at G
     ·rename_i Y;simp only[Zf] at G;subst G;have ae:=Z5 aa;have h3:Ql φ h w (MM φ h M0) ((cs.drop off).take i.size) ((c.toList.drop off).take i.size):=Ul _ (Um _ aa);refine⟨rfl,.agg ((c.toList.drop off).take i.size).toArray,?_,?_⟩
      ·have:=DK (w:=w) (r:=φ b) (off:=off) hd hi J ((c.toList.drop off).take i.size) (by simp at ae ⊢;omega) (fun j v U=>by
        rw[Yt hw];rw[List.getElem?_take] at U;split at U
        ·simpa using U
        ·cases U)
       simp[Instr.loadAt,h2.1,Instr.sureAddr,this]
      ·simp only[Qg];exact⟨_,rfl,h3⟩
     ·cases G
    ·rename_i J;split at G
     ·rename_i c0 ac;simp only[Zf] at G;subst G;obtain⟨v,hv,ab⟩:=Hf aa ac;refine⟨rfl,v,?_,ab⟩;have:=DL (P:=P) (w:=w) (r:=φ b) (off:=off) hd (by simpa using J) (v:=v) (by rw[Yt hw];simpa using hv);simp[Instr.loadAt,h2.1,Instr.sureAddr,this]
     ·cases G
   ·cases G
  ·rename_i cs hx;have h2:=r.ev hx;simp only[Qg] at h2;obtain⟨rr,O,h3,h4⟩:=h2;rw[FH] at h4;split at G
   ·rename_i J;split at G
    ·rename_i Y;simp only[Zf] at G;subst G
     have hex:∃l:List Value,l.length=i.size∧(∀j v,l[j]?=some v→w.cell? ⟨rr,O+j,none⟩=some v)∧Ql φ h w (MM φ h M0) ((cs.take i.size).map .p) l:=by
      have ad:∀(k:Nat) (cs:List PV) (O:Nat),k≤cs.length→(∀j c,cs[j]?=some c→∃v,w.cell? ⟨rr,O+j,none⟩=some v∧¬MM φ h M0 rr (O+j)∧v.oneCell'=true∧Q6 w (MM φ h M0) c v) →
        ∃l:List Value,l.length=k∧(∀j v,l[j]?=some v→w.cell? ⟨rr,O+j,none⟩=some v)∧Ql φ h w (MM φ h M0) ((cs.take k).map .p) l:=by
       intro k
       induction k with
      |zero=>intro cs O _ _;exact⟨[],rfl,by simp,by simp[Ql]⟩
      |succ k ih =>
        intro cs O hk Z;cases cs with
       |nil=>simp at hk
       |cons c cs =>
         obtain⟨v,hv,hm,_,hr⟩:=Z 0 c zq
         obtain⟨l,h1,h2,h3⟩:=ih cs (O+1) (by simp at hk;omega) (fun j c' U=>by
          have:=Z (j+1) c' (by simpa using U)
          rwa [show O+(j+1)=O+1+j from by omega] at this)
         refine⟨v::l,by simp[h1],fun j u U=>?_,?_⟩
         ·cases j with
         |zero=>simp at U;subst U;simpa using hv
         |succ j=>have:=h2 j u (by simpa using U);rwa [show O+1+j=O+(j+1) from by omega] at this
         ·simp only[List.take_succ_cons,U8,Ql];exact⟨v,l,rfl,by simpa [Qg] using hr,h3⟩
      exact ad i.size cs O Y h4
     obtain⟨l,h5,h6,h7⟩:=hex;refine⟨rfl,.agg l.toArray,?_,?_⟩
     ·have:=DK (w:=w) (r:=rr) (off:=O) hd hi J l h5 h6;simp[Instr.loadAt,h3,Instr.sureAddr,this]
     ·simp only[Qg];exact⟨l,rfl,h7⟩
    ·cases G
   ·rename_i J;split at G
    ·rename_i c0 ac;simp only[Zf] at G;subst G;obtain⟨v,hv,_,_,ab⟩:=h4 0 c0 ac;refine⟨rfl,v,?_,by simpa [Qg] using ab⟩;have:=DL (P:=P) (w:=w) (r:=rr) (off:=O) hd (by simpa using J) (v:=v) (by simpa using hv);simp[Instr.loadAt,h3,Instr.sureAddr,this]
    ·cases G
  ·cases G
 ·cases G
theorem lX(r:ZG φ M0 N D T h a w){u:Kt}(O:o.op=.load ty x)(J:Sv P T h ty x=some u):u.2.1=none∧Yield P o φ M0 h a w u.1 h:=by
 obtain⟨Y,v,U,G⟩:=Il (P:=P) r J;exact⟨Y,Qt r (v:=v) (by simp[execOp,O,U]) G⟩
def Io(P:Program)(T:Nat→Option AV)(h:QY)(ty:TypeId)(x y:Operand):Option Kt :=
 match P.info? ty,Zo T x,Zo T y with
|some i,some (.ptr b off),some v =>
  match h b,cellsOf v with
 |some (.box tb cs),some G =>
   if G.length=i.size∧off+G.length≤cs.length then some (.p (.val undef),some (b,.box tb (cs.take off++G++cs.drop (off+G.length))),[b]) else none
 |_,_=>none
|_,_,_=>none
theorem bS(r:ZG φ M0 N D T h a w){u:Kt}(ho:o.op=.store ty x y)(G:Io P T h ty x y=some u):Yield P o φ M0 h a w u.1 (ap h u.2.1):=by
 unfold Io at G;split at G
 ·rename_i i b off v hi hx hy;have h2:=r.ev hx;have h3:=r.ev hy;simp only[Qg] at h2;split at G
  ·rename_i tb cs Z hb ab;split at G
   ·rename_i ad;simp only[Zf] at G;subst G;obtain⟨c,hw,J⟩:=r.hp.blk b _ hb;obtain⟨h4,h5,h6⟩:=Wt ab h3;have O:=Z5 h4;have ac:=Z5 J;have Y:=run_storeCells_at P (φ b) off tb (a.eval y).cells.toList 0 c w hw (by simp at O ac ⊢;omega) h5;simp only[Nat.add_zero] at Y
    have U:Ql φ h w (MM φ h M0) (cs.take off++Z++cs.drop (off+Z.length)) (c.toList.take off++(a.eval y).cells.toList++c.toList.drop (off+(a.eval y).cells.toList.length)):=by
     rw[←O];exact ZI (ZI (Ul _ J) h4) (Um _ J)
    obtain⟨E,X⟩:=vH (cs':=cs.take off++Z++cs.drop (off+Z.length)) (c':=(c.toList.take off++(a.eval y).cells.toList++c.toList.drop (off+(a.eval y).cells.toList.length)).toArray) hb hw r.hp;refine⟨.skip,undef,_,φ,?_,.inr ⟨rfl,rfl⟩,by simp[Qg,Q6],bR hb hw r.hp (by simpa using U),E,X⟩;have aa:(a.eval y).cells.size=i.size:=by simp at O;omega
    simp[execOp,ho,Instr.storeAt,h2.1,Instr.sureAddr,storeVar,Zi hi,aa,Y]
   ·cases G
  ·cases G
 ·cases G
def qx(o:Oper)(h:QY)(ty:TypeId)(v:AV):Option Kt :=
 match o.dst,cellsOf v with
|some d,some cs=>match h d with|none=>some (.ptr d 0,some (d,.box ty cs),[d])|some _=>none
|_,_=>none
theorem bT(r:ZG φ M0 N D T h a w){v:AV}{y:Value}{u:Kt}(O:(execOp a.eval o).run P w=.ok (.value (.pointer (some ⟨w.heap.size,0,none⟩))) (w.alloc (.cells y.cells ty)))(Y:Qg φ h w (MM φ h M0) v y)(J:qx o h ty v=some u):Yield P o φ M0 h a w u.1 (ap h u.2.1):=by
 unfold qx at J;split at J
 ·rename_i d cs _ U;split at J
  ·rename_i Z;simp only[Zf] at J;subst J;refine Yield.of_lift r 1 fun φ r E0 X0 hC=>?_
   have Y:=(QZ (E0.keeps M0) X0).1 _ _ Y;obtain⟨E,X⟩:=XX (w':=w.alloc (.cells y.cells ty)) (o:=.cells y.cells ty) (b:=d) (k:=.box ty cs) (M0:=M0) rfl rfl rfl rfl Z r.hp hC
   have G:RelB (QM φ d w.heap.size) (upd h d (.box ty cs)) (w.alloc (.cells y.cells ty)) (MM (QM φ d w.heap.size) (upd h d (.box ty cs)) M0) w.heap.size (.box ty cs):=by
    refine⟨y.cells,by show(w.heap.push _)[w.heap.size]?=_;simp,(QZ (E.keeps M0) X).2 _ _ (Wt U Y).1⟩
   refine⟨_,_,_,QM φ d w.heap.size,O,.inl rfl,?_,XY rfl Z r.hp hC E X G,E,X⟩;simp only[Qg,ap];exact⟨by simp[QM],ty,cs,by simp[upd]⟩
  ·cases J
 ·cases J
theorem bU(r:ZG φ M0 N D T h a w){i:TypeInfo}{z:Value}{u:Kt}(J:o.op=.alloc ty)(hi:P.info? ty=some i)(O:i.zero=some z)(G:qx o h ty (Ik z)=some u) :
  Yield P o φ M0 h a w u.1 (ap h u.2.1) :=
 bT r (y:=z) (by simp[execOp,J,Instr.alloc,zeroValue,typeInfo,hi,O,newVar,newRow,newObj,Sem.run]) (Jr z) G
theorem Qbu(r:ZG φ M0 N D T h a w){v:AV}{u:Kt}(J:o.op=.box ty x)(O:Zo T x=some v)(G:qx o h ty v=some u) :
  Yield P o φ M0 h a w u.1 (ap h u.2.1) :=
 bT r (y:=a.eval x) (by simp[execOp,J,Instr.box,newVar,newRow,newObj,Sem.run]) (r.ev O) G
end
section
variable {P:Program}{o:Oper}{φ:Nat→Nat}{M0:ZQ}{N:Nat}{D:DB}{T:Nat→Option AV}{h:QY}{a:Act}{w:World}
theorem MI{o:Nat}{cs:List PV}(k:Nat)(O:k≤cs.length)(G:WW w M r o cs):WW w M r (o+k) (cs.drop k):=by
 have:WW w M r o (cs.take k++cs.drop k):=by rw[List.take_append_drop];exact G
 rw[Tv] at this;have J:(cs.take k).length=k:=by simp;omega
 rw[J] at this;exact this.2
def Un(P:Program)(T:Nat→Option AV)(s:TypeId)(x:Operand)(f:Nat):Option Kt :=
 match P.underlying s with
|some (.struct fields) =>
  match fields[f]? with
 |some G =>
   match P.info? G.type with
  |some i =>
    if i.size=0 then none else
    match Zo T x with
   |some (.ptr b off)=>some (.ptr b (off+G.offset),none,[])
   |some (.eptr cs)=>if G.offset≤cs.length then some (.eptr (cs.drop G.offset),none,[]) else none
   |_=>none
  |none=>none
 |none=>none
|_=>none
theorem kD(r:ZG φ M0 N D T h a w){s:TypeId}{f:Nat}{u:Kt}(ho:o.op=.fieldAddr s x f)(G:Un P T s x f=some u):u.2.1=none∧Yield P o φ M0 h a w u.1 h:=by
 unfold Un at G;split at G
 ·rename_i fields hs;split at G
  ·rename_i U hf;split at G
   ·rename_i i hi;split at G
    ·cases G
    ·rename_i O;split at G
     ·rename_i b off Z;simp only[Zf] at G;subst G;have J:=r.ev Z;simp only[Qg] at J;refine⟨rfl,Qt r (v:=.pointer (some ⟨φ b,off+U.offset,none⟩)) ?_ ?_⟩
      ·simp[execOp,ho,Instr.fieldAt,run_underlying hs,hf,J.1,Instr.sureAddr,fieldPlace,Zi hi,O,Addr.add_lit]
      ·simp only[Qg];exact⟨trivial,J.2⟩
     ·rename_i cs Z;split at G
      ·rename_i Y;simp only[Zf] at G;subst G;have J:=r.ev Z;simp only[Qg] at J;obtain⟨rr,oo,h3,h4⟩:=J;refine⟨rfl,Qt r (v:=.pointer (some ⟨rr,oo+U.offset,none⟩)) ?_ ?_⟩
       ·simp[execOp,ho,Instr.fieldAt,run_underlying hs,hf,h3,Instr.sureAddr,fieldPlace,Zi hi,O,Addr.add_lit]
       ·simp only[Qg];exact⟨rr,oo+U.offset,rfl,MI _ Y h4⟩
      ·cases G
     ·cases G
   ·cases G
  ·cases G
 ·cases G
def elems:AV→Option (Nat×List (List PV))|.p (.sl S es)=>some (S,es)|.tsl S es _=>some (S,es)|_=>none
theorem Bh{x:AV}{S:Nat}{es:List (List PV)}(G:elems x=some (S,es))(J:Qg φ h w M x v):Q6 w M (.sl S es) v:=by
 cases x with
|p x=>cases x with
 |val y=>simp[elems] at G
 |sl O es'=>simp only[elems,Zf,DC] at G;obtain⟨rfl,rfl⟩:=G;simpa only[Qg] using J
|tsl O es' t=>simp only[elems,Zf,DC] at G;obtain⟨rfl,rfl⟩:=G;simp only[Qg] at J;exact J.1
|_=>simp[elems] at G
def Js(P:Program)(T:Nat→Option AV)(t:TypeId)(x ix:Operand):Option Kt :=
 match Zo T ix with
|some (.p (.val (.int _ n))) =>
  match P.underlying t,Zo T x with
 |some (.slice e),some v =>
   match elems v,P.info? e with
  |some (S,es),some i=>if i.size=S∧0≤n then(match es[n.toNat]? with|some c=>some (.eptr c,none,[])|none=>none) else none
  |_,_=>none
 |some (.array len e),some (.ptr b off) =>
   match P.info? e with
  |some i=>if 0≤n∧n<len then some (.ptr b (off+n.toNat*i.size),none,[]) else none
  |none=>none
 |some (.array len e),some (.eptr cs) =>
   match P.info? e with
  |some i=>if 0≤n∧n<len∧n.toNat*i.size≤cs.length then some (.eptr (cs.drop (n.toNat*i.size)),none,[]) else none
  |none=>none
 |_,_=>none
|_=>none
theorem kE(r:ZG φ M0 N D T h a w){t:TypeId}{u:Kt}(ho:o.op=.indexAddr t x ix)(G:Js P T t x ix=some u):u.2.1=none∧Yield P o φ M0 h a w u.1 h:=by
 unfold Js at G;split at G
 ·rename_i k n ac;have J:=r.ev ac;simp only[Qg,Q6] at J;split at G
  ·rename_i e v U Y;split at G
   ·rename_i S es i ae hi;split at G
    ·rename_i hc;split at G
     ·rename_i c aa;simp only[Zf] at G;subst G;have O:=Bh ae (r.ev Y);simp only[Q6] at O;have hlt:n.toNat<es.length:=(MG.1 aa).1;rcases O with⟨Z,oo,cap,hv,af⟩|⟨rfl,_⟩
      ·obtain⟨_,ab⟩:=mV af.2 aa;refine⟨rfl,Qt r (v:=.pointer (some ⟨Z,oo+n.toNat*i.size,none⟩)) ?_ ?_⟩
       ·have ad:0≤n∧n<(es.length:Int):=⟨hc.2,by omega⟩;simp[execOp,ho,Instr.indexAt,J,asIntOf,run_underlying U,hv,ad,Zi hi,Addr.add_lit]
       ·simp only[Qg];exact⟨Z,_,rfl,by rw[hc.1];exact ab⟩
      ·simp at hlt
     ·cases G
    ·cases G
   ·cases G
  ·rename_i len e b off U Y;split at G
   ·rename_i i hi;split at G
    ·rename_i hc;simp only[Zf] at G;subst G;have O:=r.ev Y;simp only[Qg] at O;refine⟨rfl,Qt r (v:=.pointer (some ⟨φ b,off+n.toNat*i.size,none⟩)) ?_ ?_⟩
     ·simp[execOp,ho,Instr.indexAt,J,asIntOf,run_underlying U,O.1,Instr.sureAddr,hc,Zi hi,Addr.add_lit]
     ·simp only[Qg];exact⟨trivial,O.2⟩
    ·cases G
   ·cases G
  ·rename_i len e cs U Y;split at G
   ·rename_i i hi;split at G
    ·rename_i hc;simp only[Zf] at G;subst G;have O:=r.ev Y;simp only[Qg] at O;obtain⟨Z,oo,h3,h4⟩:=O;refine⟨rfl,Qt r (v:=.pointer (some ⟨Z,oo+n.toNat*i.size,none⟩)) ?_ ?_⟩
     ·simp[execOp,ho,Instr.indexAt,J,asIntOf,run_underlying U,h3,Instr.sureAddr,hc.1,hc.2.1,Zi hi,Addr.add_lit]
     ·simp only[Qg];exact⟨Z,_,rfl,MI _ hc.2.2 h4⟩
    ·cases G
   ·cases G
  ·cases G
 ·cases G
def vI(P:Program)(ty:TypeId)(cs:List AV)(off:Nat):Option AV :=
 match P.underlying ty,P.info? ty with
|some d,some i=>if G6 d then(if off+i.size≤cs.length then some (.agg ((cs.drop off).take i.size)) else none) else cs[off]?
|_,_=>none
theorem uT{cs:List AV}{x:AV}{l:List Value}(G:vI P ty cs off=some x)(U:Ql φ h w M cs l) :
  ∃v,(part ty l.toArray off).run P w=.ok v w∧Qg φ h w M x v:=by
 unfold vI at G;split at G
 ·rename_i d i Y hi;split at G
  ·rename_i J;split at G
   ·rename_i Z;simp only[Zf] at G;subst G;refine⟨.agg ((l.drop off).take i.size).toArray,?_,?_⟩
    ·simp[part,Hl Y,J,Zi hi]
    ·simp only[Qg];exact⟨_,rfl,Ul _ (Um _ U)⟩
   ·cases G
  ·rename_i J;obtain⟨v,hv,O⟩:=Hf U G;refine⟨v,?_,O⟩;simp[part,Hl Y,J,hv]
 ·cases G
def Ip(P:Program)(T:Nat→Option AV)(t:TypeId)(x:Operand)(f:Nat):Option Kt :=
 match P.underlying t,Zo T x with
|some (.struct fields),some (.agg cs) =>
  match fields[f]? with
 |some G=>match vI P G.type cs G.offset with|some v=>some (v,none,[])|none=>none
 |none=>none
|_,_=>none
theorem bV(r:ZG φ M0 N D T h a w){t:TypeId}{f:Nat}{u:Kt}(O:o.op=.field t x f)(G:Ip P T t x f=some u):u.2.1=none∧Yield P o φ M0 h a w u.1 h:=by
 unfold Ip at G;split at G
 ·rename_i fields cs U hx;split at G
  ·rename_i fl hf;split at G
   ·rename_i v Y;simp only[Zf] at G;subst G;have J:=r.ev hx;simp only[Qg] at J;obtain⟨l,h3,Z⟩:=J;obtain⟨y,h5,h6⟩:=uT Y Z;refine⟨rfl,Qt r (v:=y) ?_ h6⟩;simp[execOp,O,Instr.field,run_underlying U,hf,h3,asAgg,h5]
   ·cases G
  ·cases G
 ·cases G
def Eo(P:Program)(T:Nat→Option AV)(t:TypeId)(x ix:Operand):Option Kt :=
 match P.underlying t,Zo T x,Zo T ix with
|some (.array len e),some (.agg cs),some (.p (.val (.int _ n))) =>
  match P.info? e with
 |some i=>if 0≤n∧n<len then(match vI P e cs (n.toNat*i.size) with|some v=>some (v,none,[])|none=>none) else none
 |none=>none
|_,_,_=>none
theorem bW(r:ZG φ M0 N D T h a w){t:TypeId}{u:Kt}(Y:o.op=.index t x ix)(G:Eo P T t x ix=some u):u.2.1=none∧Yield P o φ M0 h a w u.1 h:=by
 unfold Eo at G;split at G
 ·rename_i len e cs k n Z hx O;split at G
  ·rename_i i hi;split at G
   ·rename_i hc;split at G
    ·rename_i v hv;simp only[Zf] at G;subst G;have U:=r.ev hx;simp only[Qg] at U;obtain⟨l,h3,h4⟩:=U;have J:=r.ev O;simp only[Qg,Q6] at J;obtain⟨y,h5,h6⟩:=uT hv h4;refine⟨rfl,Qt r (v:=y) ?_ h6⟩;simp[execOp,Y,Instr.index,J,asIntOf,run_underlying Z,h3,hc,Zi hi,h5]
    ·cases G
   ·cases G
  ·cases G
 ·cases G
def FR(T:Nat→Option AV)(x:Operand)(i:Nat):Option Kt :=
 match Zo T x with
|some (.tup G)=>match G[i]? with|some v=>some (v,none,[])|none=>none
|_=>none
theorem xg(r:ZG φ M0 N D T h a w){u:Kt}(U:o.op=.extract x i)(G:FR T x i=some u):u.2.1=none∧Yield P o φ M0 h a w u.1 h:=by
 unfold FR at G;split at G
 ·rename_i vs hx;split at G
  ·rename_i v hv;simp only[Zf] at G;subst G;have J:=r.ev hx;simp only[Qg] at J;obtain⟨l,O,Y⟩:=J;obtain⟨y,h5,Z⟩:=Hf Y hv;refine⟨rfl,Qt r (v:=y) ?_ Z⟩;simp[execOp,U,Instr.extract,O,h5]
  ·cases G
 ·cases G
def Ep(T:Nat→Option AV):List Operand→Option (List AV)
|[]=>some []
|x::xs=>match Zo T x,Ep T xs with|some v,some G=>some (v::G)|_,_=>none
theorem FT(r:ZG φ M0 N D T h a w):∀{xs:List Operand} {J:List AV},Ep T xs=some J→Ql φ h w (MM φ h M0) J (xs.map a.eval)
|[],J,G=>by simp only[Ep,Zf] at G;subst G;simp[Ql]
|x::xs,J,G=>by
  simp only[Ep] at G;split at G
  ·rename_i v U Y O;simp only[Zf] at G;subst G;simp only[U8,Ql];exact⟨_,_,rfl,r.ev Y,FT r O⟩
  ·cases G
def RX(T:Nat→Option AV)(f:Fn)(first captured:Array Operand):Option Kt :=
 match Ep T first.toList,Ep T captured.toList with
|some l,some m=>some (.fn f l m,none,[])
|_,_=>none
theorem vJ(r:ZG φ M0 N D T h a w){f:Fn}{first captured:Array Operand}{u:Kt}(O:o.op=.makeFunc f first captured)(G:RX T f first captured=some u):u.2.1=none∧Yield P o φ M0 h a w u.1 h:=by
 unfold RX at G;split at G
 ·rename_i l m U Y;simp only[Zf] at G;subst G;refine⟨rfl,Qt r (v:=.func f (first.map a.eval) (captured.map a.eval)) ?_ ?_⟩
  ·simp[execOp,O,Instr.makeFunc]
  ·simp only[Qg];refine⟨first.toList.map a.eval,captured.toList.map a.eval,?_,FT r U,FT r Y⟩;have J:∀z:Array Operand,z.map a.eval=(z.toList.map a.eval).toArray:=fun z=>by apply Array.ext';simp
   rw[J first,J captured]
 ·cases G
def Xc(P:Program)(T:Nat→Option AV)(t:TypeId)(x:Operand):Option Kt :=
 match P.underlying t,Zo T x with
|some (.interface _),_=>none
|some _,some v=>some (.ifc t v,none,[])
|_,_=>none
theorem Es(r:ZG φ M0 N D T h a w){t:TypeId}{u:Kt}(U:o.op=.makeInterface t x)(G:Xc P T t x=some u):u.2.1=none∧Yield P o φ M0 h a w u.1 h:=by
 unfold Xc at G;split at G
 ·cases G
 ·rename_i d v hne Y Z;simp only[Zf] at G;subst G;refine⟨rfl,Qt r (v:=.iface t (a.eval x)) ?_ ?_⟩
  ·have O:∀J,d≠.interface J:=fun J e=>hne J e
   cases d<;>first|(exact absurd rfl (O _))|simp[execOp,U,Instr.makeInterface,run_underlying Y]
  ·simp only[Qg];exact⟨_,rfl,r.ev Z⟩
 ·cases G
def Gq(P:Program)(T:Nat→Option AV)(x:Operand)(asserted:TypeId)(ok:Bool):Option Kt :=
 match P.underlying asserted,Zo T x with
|some (.interface _),_=>none
|some _,some (.ifc t v) =>
  if t=asserted then some (if ok then .tup [v,.p (.val (.bool true))] else v,none,[])
  else if ok then(match (P.info? asserted).bind (·.zero) with|some z=>some (.tup [Ik z,.p (.val (.bool false))],none,[])|none=>none)
  else none
|_,_=>none
theorem qy(r:ZG φ M0 N D T h a w){xt asserted:TypeId}{u:Kt}(Z:o.op=.typeAssert x xt asserted ok)(G:Gq P T x asserted ok=some u):u.2.1=none∧Yield P o φ M0 h a w u.1 h:=by
 unfold Gq at G;split at G
 ·cases G
 ·rename_i d t v hne ht hx;have Y:∀ms,d≠.interface ms:=fun ms e=>hne ms e
  have h2:=r.ev hx;simp only[Qg] at h2;obtain⟨y,h3,h4⟩:=h2;split at G
  ·rename_i J;simp only[Zf] at G;subst G;cases ok
   ·refine⟨rfl,Qt r (v:=y) ?_ h4⟩;cases d<;>first|(exact absurd rfl (Y _))|simp[execOp,Z,Instr.typeAssert,run_underlying ht,h3,J]
   ·refine⟨rfl,Qt r (v:=.tuple #[y,.bool true]) ?_ ?_⟩
    ·cases d<;>first|(exact absurd rfl (Y _))|simp[execOp,Z,Instr.typeAssert,run_underlying ht,h3,J]
    ·simp only[Qg,if_true];exact⟨[y,.bool true],rfl,by simp[Ql,h4,Qg,Q6]⟩
  ·rename_i O;split at G
   ·rename_i hok;split at G
    ·rename_i z U;simp only[Zf] at G;subst G;simp only[Nw] at U;obtain⟨i,hi,U⟩:=U;refine⟨rfl,Qt r (v:=.tuple #[z,.bool false]) ?_ ?_⟩
     ·cases d<;>first|(exact absurd rfl (Y _))|simp[execOp,Z,Instr.typeAssert,run_underlying ht,h3,O,hok,zeroValue,typeInfo,hi,U]
     ·simp only[Qg];exact⟨[z,.bool false],rfl,by simp[Ql,Jr,Qg,Q6]⟩
    ·cases G
   ·cases G
 ·cases G
def Hm(T:Nat→Option AV)(x:Operand):Option Kt :=
 match Zo T x with
|some (.ptr b off)=>some (.ptr b off,none,[])
|some (.eptr cs)=>some (.eptr cs,none,[])
|some (.fn (.func f) l m)=>some (.fn (.func f) l m,none,[])
|_=>none
theorem vK(r:ZG φ M0 N D T h a w){u:Kt}(Y:o.op=.nilCheck x)(J:Hm T x=some u):u.2.1=none∧Yield P o φ M0 h a w u.1 h:=by
 unfold Hm at J;split at J
 ·rename_i b off O;simp only[Zf] at J;subst J;have G:=r.ev O;refine⟨rfl,Qt r (v:=a.eval x) ?_ G⟩;simp only[Qg] at G;simp[execOp,Y,G.1]
 ·rename_i cs O;simp only[Zf] at J;subst J;have G:=r.ev O;refine⟨rfl,Qt r (v:=a.eval x) ?_ G⟩;simp only[Qg] at G;obtain⟨Z,oo,U,_⟩:=G;simp[execOp,Y,U]
 ·rename_i f l m O;simp only[Zf] at J;subst J;have G:=r.ev O;refine⟨rfl,Qt r (v:=a.eval x) ?_ G⟩;simp only[Qg] at G;obtain⟨l',m',U,_⟩:=G;simp[execOp,Y,U]
 ·cases J
def vL(P:Program)(T:Nat→Option AV)(t:TypeId)(x:Operand):Option Kt :=
 match P.underlying t,Zo T x with
|some (.slice _),some v=>match elems v with|some (_,es)=>some (.p (.val (.int .i64 es.length)),none,[])|none=>none
|_,_=>none
theorem Qbv(r:ZG φ M0 N D T h a w){t:TypeId}{u:Kt}(U:o.op=.call ⟨.builtin .len,#[x],#[t]⟩)(G:vL P T t x=some u):u.2.1=none∧Yield P o φ M0 h a w u.1 h:=by
 unfold vL at G;split at G
 ·rename_i e v Y hx;split at G
  ·rename_i S es J;simp only[Zf] at G;subst G;have Z:=Bh J (r.ev hx);simp only[Q6] at Z;refine⟨rfl,Qt r (v:=.int .i64 es.length) ?_ (by simp[Qg,Q6])⟩;rcases Z with⟨rr,oo,cap,O,aa⟩|⟨rfl,q,cap,O⟩
   ·simp[execOp,U,resolve,invoke,builtin,Builtin.len_,run_underlying Y,O,goInt]
   ·simp[execOp,U,resolve,invoke,builtin,Builtin.len_,run_underlying Y,O,goInt]
  ·cases G
 ·cases G
end
section
variable {P:Program}{o:Oper}{φ:Nat→Nat}{M0:ZQ}{N:Nat}{D:DB}{T:Nat→Option AV}{h:QY}{a:Act}{w:World}
def NB(place:Nat→Option (Nat×Nat))(cells:List AV):List (Nat×AV)→Option (List AV)
|[]=>some cells
|(i,v)::rest =>
  match place i,cellsOf v with
 |some (off,size),some G=>if G.length=size∧off+size≤cells.length then NB place (cells.take off++G++cells.drop (off+size)) rest else none
 |_,_=>none
theorem NC:∀(G:List Value) (k off:Nat) (cs:Array Value),off+k+G.length≤cs.size →
  ((G.zipIdx k).foldl (fun(cs:Array Value) (p:Value×Nat)=>cs.setIfInBounds (off+p.2) p.1) cs).toList=cs.toList.take (off+k)++G++cs.toList.drop (off+k+G.length)
|[],k,off,cs,_=>by simp
|v::G,k,off,cs,J=>by
  simp only[List.zipIdx_cons,List.foldl_cons];rw[NC G (k+1) off _ (by simp at J ⊢;omega)];have e:=list_seg_step cs.toList (off+k) v G (by simp at J ⊢;omega);simp only[Array.toList_setIfInBounds,lU];rw[show off+(k+1)=off+k+1 from by omega];simpa using e
theorem ND{M:ZQ}{placeC G:Nat→Option (Nat×Nat)}(hp:∀i x,G i=some x→placeC i=some x) :
  ∀(ps:List (Nat×AV)) (U:List (Nat×Value)) (cs:List AV) (c:Array Value) (Y:List AV),(ps.map (·.1)=U.map (·.1))→Ql φ h w M (ps.map (·.2)) (U.map (·.2)) →
   Ql φ h w M cs c.toList→NB G cs ps=some Y→∃c',Instr.fill placeC c U=some c'∧Ql φ h w M Y c'.toList
|[],U,cs,c,Y,O,_,Z,J=>by
  have:U=[]:=by simpa using O.symm
  subst this;simp only[NB,Zf] at J;subst J;exact⟨c,rfl,Z⟩
|(i,v)::ps,[],cs,c,Y,O,_,_,_=>by simp at O
|(i,v)::ps,(j,y)::U,cs,c,Y,O,h2,Z,J=>by
  simp only[U8,List.cons.injEq] at O;obtain⟨rfl,O⟩:=O;simp only[U8,Ql] at h2;obtain⟨y',ah,h4,h5,h6⟩:=h2;simp only[List.cons.injEq] at h4;obtain⟨rfl,rfl⟩:=h4;simp only[NB] at J;split at J
  ·rename_i off size vs ad ae;split at J
   ·rename_i hc;obtain⟨h7,_,_⟩:=Wt ae h5;have ac:=Z5 h7;have af:=Z5 Z;simp only[Array.length_toList] at ac af;have ab:=NC y.cells.toList 0 off c (by simp;omega);simp only[Nat.add_zero] at ab
    have aa:Ql φ h w M (cs.take off++vs++cs.drop (off+size)) ((y.cells.toList.zipIdx 0).foldl (fun(cs:Array Value) (p:Value×Nat)=>cs.setIfInBounds (off+p.2) p.1) c).toList:=by
     rw[ab];have hs:size=y.cells.toList.length:=by simp;omega
     rw[hs];exact ZI (ZI (Ul _ Z) h7) (Um _ Z)
    obtain⟨c',h8,h9⟩:=ND hp ps U _ _ Y O h6 aa J;refine⟨c',?_,h9⟩
    have e1:(y.cells.zipIdx.foldl (fun(cs:Array Value) (p:Value×Nat)=>cs.setIfInBounds (off+p.2) p.1) c)=((y.cells.toList.zipIdx 0).foldl (fun(cs:Array Value) (p:Value×Nat)=>cs.setIfInBounds (off+p.2) p.1) c):=by
     rw[←Array.foldl_toList];simp
    simp only[Instr.fill,hp _ _ ad];have c1:¬(y.cells.size≠size):=by omega
    have c2:¬(off+y.cells.size>c.size):=by omega
    simp only[c1,c2,decide_false,Bool.or_self,Bool.false_eq_true,if_false];rw[←h8,←e1]
   ·cases J
  ·cases J
def Iq(T:Nat→Option AV):List (Nat×Operand)→Option (List (Nat×AV))
|[]=>some []
|(i,x)::xs=>match Zo T x,Iq T xs with|some v,some G=>some ((i,v)::G)|_,_=>none
theorem DN(r:ZG φ M0 N D T h a w):∀{xs:List (Nat×Operand)} {J:List (Nat×AV)},Iq T xs=some J →
  J.map (·.1)=(xs.map fun(i,x)=>(i,a.eval x)).map (·.1)∧Ql φ h w (MM φ h M0) (J.map (·.2)) ((xs.map fun(i,x)=>(i,a.eval x)).map (·.2))
|[],J,G=>by simp only[Iq,Zf] at G;subst G;simp[Ql]
|(i,x)::xs,J,G=>by
  simp only[Iq] at G;split at G
  ·rename_i v O Y h2;simp only[Zf] at G;subst G;obtain⟨Z,U⟩:=DN r h2;refine⟨by simp only[U8,Z],?_⟩;simp only[U8,Ql];exact⟨_,_,rfl,r.ev Y,U⟩
  ·cases G
def kF(P:Program)(fields:Array Field)(i:Nat):Option (Nat×Nat) :=
 match fields[i]? with
|some f=>match P.info? f.type with|some t=>some (f.offset,t.size)|none=>none
|none=>none
theorem vM{α β:Type}(f:α→Sem β)(g:α→β):∀(l:List α),(∀x∈l,(f x).run P w=.ok (g x) w)→(l.mapM f).run P w=.ok (l.map g) w
|[],_=>by simp
|x::l,G=>by
  simp only[List.mapM_cons,Sem.run_bind,G x zq,Result.andThen_ok,vM f g l (fun y J=>G y (by simp[J])),Sem.run_pure,U8]
def Ir(P:Program)(T:Nat→Option AV)(t:TypeId)(parts:Array (Nat×Operand)):Option Kt :=
 match P.info? t with
|some i =>
  match i.zero,P.underlying t,Iq T parts.toList with
 |some z,some (.struct fields),some ps =>
   if fields.toList.all (fun f=>(P.info? f.type).isSome) then
    match cellsOf (Ik z) with
   |some cs=>match NB (kF P fields) cs ps with|some G=>some (.agg G,none,[])|none=>none
   |none=>none
   else none
 |some z,some (.array _ e),some ps =>
   match P.info? e,cellsOf (Ik z) with
  |some j,some cs=>match NB (fun i=>some (i*j.size,j.size)) cs ps with|some G=>some (.agg G,none,[])|none=>none
  |_,_=>none
 |_,_,_=>none
|none=>none
theorem bX(r:ZG φ M0 N D T h a w){t:TypeId}{u:Kt}(ho:o.op=.build t parts)(G:Ir P T t parts=some u):u.2.1=none∧Yield P o φ M0 h a w u.1 h:=by
 unfold Ir at G;split at G
 ·rename_i i hi;split at G
  ·rename_i z fields ps hz ht Z;split at G
   ·rename_i aa;split at G
    ·rename_i cs O;split at G
     ·rename_i rs Y;simp only[Zf] at G;subst G;obtain⟨h1,h2⟩:=DN r Z;obtain⟨h3,_,_⟩:=Wt O (Jr (φ:=φ) (h:=h) (w:=w) (M:=MM φ h M0) z)
      let g:Field→Nat×Nat:=fun f=>(f.offset,((P.info? f.type).map (·.size)).getD 0)
      have ab:∀i x,kF P fields i=some x→(fun k=>((fields.toList.map g).toArray)[k]?) i=some x:=by
       intro k x U;unfold kF at U;split at U
       ·rename_i f hf;split at U
        ·rename_i ti J;simp only[Zf] at U;subst U;have:fields.toList[k]?=some f:=by simpa using hf
         simp[g,this,J]
        ·cases U
       ·cases U
      obtain⟨c',h4,h5⟩:=ND ab ps _ cs z.cells rs h1 h2 h3 Y;refine⟨rfl,Qt r (v:=.agg c') ?_ ?_⟩
      ·have hm:(fields.mapM fun(f:Field)=>(do pure (f.offset,←sizeOf f.type):Sem (Nat×Nat))).run P w=.ok (fields.toList.map g).toArray w:=by
        rw[Array.mapM_eq_mapM_toList];simp only[Sem.run_map]
        rw[vM _ g fields.toList (fun f hf=>by
         have hs:=Gp.1 aa f hf;obtain⟨ti,J⟩:=RU.1 hs;simp[Zi J,g,J])]
        rfl
       have hq:(parts.map fun(x:Nat×Operand)=>(x.1,a.eval x.2)).toList=parts.toList.map fun(x:Nat×Operand)=>(x.1,a.eval x.2):=by simp
       simp only[execOp,ho,Instr.build,Sem.run_bind,zeroValue,typeInfo,program,Sem.run,hi,hz,Result.andThen_ok,Sem.run_pure,run_underlying ht,hm];simp only[hq,h4,Sem.run_pure,Result.andThen_ok]
      ·simp only[Qg];exact⟨c'.toList,by simp,h5⟩
     ·cases G
    ·cases G
   ·cases G
  ·rename_i z n e ps hz ht Z;split at G
   ·rename_i j cs hj O;split at G
    ·rename_i rs Y;simp only[Zf] at G;subst G;obtain⟨h1,h2⟩:=DN r Z;obtain⟨h3,_,_⟩:=Wt O (Jr (φ:=φ) (h:=h) (w:=w) (M:=MM φ h M0) z);obtain⟨c',h4,h5⟩:=ND (fun i x hx=>hx) ps _ cs z.cells rs h1 h2 h3 Y;refine⟨rfl,Qt r (v:=.agg c') ?_ ?_⟩
     ·have hq:(parts.map fun(x:Nat×Operand)=>(x.1,a.eval x.2)).toList=parts.toList.map fun(x:Nat×Operand)=>(x.1,a.eval x.2):=by simp
      simp only[execOp,ho,Instr.build,Sem.run_bind,zeroValue,typeInfo,program,Sem.run,hi,hz,Result.andThen_ok,Sem.run_pure,run_underlying ht,Zi hj];simp only[hq,h4,Sem.run_pure,Result.andThen_ok]
     ·simp only[Qg];exact⟨c'.toList,by simp,h5⟩
    ·cases G
   ·cases G
  ·cases G
 ·cases G
def known(T:Nat→Option AV)(x:Operand):Option Value:=match Zo T x with|some v=>Ej v|none=>none
def allKnown(T:Nat→Option AV):List Operand→Bool|[]=>true|x::xs=>(known T x).isSome&&allKnown T xs
theorem mW(r:ZG φ M0 N D T h a w)(G:known T x=some v):a.eval x=v:=by
 unfold known at G;split at G
 ·rename_i y J;exact Bg.1 _ _ _ (r.ev J) G
 ·cases G
theorem NE:∀{l:List Operand} {x:Operand},allKnown T l=true→x∈l→(known T x).isSome=true
|y::l,x,G,J=>by
  simp only[allKnown,KL] at G;rcases List.mem_cons.1 J with rfl|J
  ·exact G.1
  ·exact NE G.2 J
def UA:Op→Bool|.select ..=>false|_=>true
def U9(P:Program)(T:Nat→Option AV)(o:Oper):Option Kt :=
 if allKnown T o.op.operands.toList&&UA o.op then
  match Vh P (execOp (fun x=>(known T x).getD undef) o) with
 |some (.value v)=>some (Ik v,none,[])
 |_=>none
 else none
theorem pure_ok(r:ZG φ M0 N D T h a w){u:Kt}(J:U9 P T o=some u):u.2.1=none∧Yield P o φ M0 h a w u.1 h:=by
 unfold U9 at J;split at J
 ·rename_i O;simp only[KL] at O;split at J
  ·rename_i v Y;simp only[Zf] at J;subst J;refine⟨rfl,Qt r (v:=v) ?_ (Jr v)⟩
   have G:execOp a.eval o=execOp (fun x=>(known T x).getD undef) o:=by
    refine execOp_congr o (fun cs b e=>by rw[e] at O;simp[UA] at O) fun x Z=>?_
    have hs:=NE O.1 (x:=x) (by simpa using Z);obtain⟨y,U⟩:=RU.1 hs;rw[U,mW r U];rfl
   rw[G];exact qw Y w
  ·cases J
 ·cases J
def JY(k:IntKind)(x y:Int):Int:=k.wrap (BitVec.ofInt k.bits x &&& BitVec.ofInt k.bits y).toNat
def bOr(k:IntKind)(x y:Int):Int:=k.wrap (BitVec.ofInt k.bits x ||| BitVec.ofInt k.bits y).toNat
def lY(k:IntKind)(x y:Int):Int:=k.wrap (BitVec.ofInt k.bits x ^^^ BitVec.ofInt k.bits y).toNat
def kG(k:IntKind)(x y:Int):Int:=k.wrap (BitVec.ofInt k.bits x &&& ~~~ BitVec.ofInt k.bits y).toNat
def WZ(k:IntKind)(x y:Int):Int:=k.wrap (x*2 ^ (min y.toNat k.bits))
def Zx(k:IntKind)(x y:Int):Int:=x.fdiv (2 ^ (min y.toNat k.bits))
def QD(x y:Int):Bool:=decide (x<y)
def leI(x y:Int):Bool:=decide (x≤y)
def Qq(x y:Int):Bool:=x==y
def Zb(x y:List UInt8):Bool:=x==y
def TA(b:Bool):Bool:=b
theorem Vy{x y:Int}(h:x<y):QD x y=true:=by simp[QD,h]
theorem KM{x y:Int}(h:¬x<y):QD x y=false:=by simp only[QD,decide_eq_false_iff_not];exact h
theorem Wu{x y:Int}(h:x≤y):leI x y=true:=by simp[leI,h]
theorem UI{x y:Int}(h:¬x≤y):leI x y=false:=by simp only[leI,decide_eq_false_iff_not];exact h
theorem Iu{x y:Int}(h:x=y):Qq x y=true:=by simp[Qq,h]
theorem Sz{x y:Int}(h:¬x=y):Qq x y=false:=by simp[Qq,h]
def MJ(op:BinOp)(k:IntKind)(x y:Int):Option Value :=
 match op with
|.add=>some (.int k (k.wrap (x+y)))
|.sub=>some (.int k (k.wrap (x-y)))
|.mul=>some (.int k (k.wrap (x*y)))
|.quo=>if y=0 then none else some (.int k (k.wrap (x.tdiv y)))
|.rem=>if y=0 then none else some (.int k (x.tmod y))
|.and=>some (.int k (JY k x y))
|.or=>some (.int k (bOr k x y))
|.xor=>some (.int k (lY k x y))
|.andNot=>some (.int k (kG k x y))
|.eql=>some (.bool (Qq x y))
|.neq=>some (.bool (!Qq x y))
|.lss=>some (.bool (QD x y))
|.leq=>some (.bool (leI x y))
|.gtr=>some (.bool (QD y x))
|.geq=>some (.bool (leI y x))
|_=>none
def NF(op:BinOp)(k:IntKind)(x y:Int):Option Value :=
 if y<0 then none else
 match op with
|.shl=>some (.int k (WZ k x y))
|.shr=>some (.int k (Zx k x y))
|_=>none
def XV(s:ByteArray):List UInt8:=s.data.toList
def DF(l:List UInt8):ByteArray:=⟨l.toArray⟩
theorem Bi(l:List UInt8):XV (DF l)=l:=by simp[XV,DF]
theorem kH(s:ByteArray):DF (XV s)=s:=by simp[XV,DF]
theorem xh(s:ByteArray):s.toList=XV s:=by rw[ByteArray.toList_eq];rfl
theorem xk(x y:ByteArray):x++y=DF (XV x++XV y):=by
 apply ByteArray.ext;simp[DF,XV,ByteArray.data_append]
def xm(op:BinOp)(x y:ByteArray):Option Value :=
 match op with
|.add=>if(XV x).length+(XV y).length≤9223372036854775807 then some (.string (DF (XV x++XV y))) else none
|.eql=>some (.bool (Zb (XV x) (XV y)))
|.neq=>some (.bool (!Zb (XV x) (XV y)))
|.lss=>some (.bool (Op.bytesLess (XV x) (XV y)))
|.leq=>some (.bool (Op.bytesLess (XV x) (XV y)||XV x==XV y))
|.gtr=>some (.bool (!(Op.bytesLess (XV x) (XV y)||XV x==XV y)))
|.geq=>some (.bool (!Op.bytesLess (XV x) (XV y)))
|_=>none
def Fu:BinOp→Bool|.shl|.shr=>true|_=>false
def Et(T:Nat→Option AV)(op:BinOp)(x y:Operand):Option Kt :=
 match Zo T x,Zo T y with
|some (.p (.val (.int k a))),some (.p (.val (.int k' b))) =>
  if Fu op then(match NF op k a b with|some v=>some (.p (.val v),none,[])|none=>none)
  else if k=k' then(match MJ op k a b with|some v=>some (.p (.val v),none,[])|none=>none) else none
|some (.p (.val (.string a))),some (.p (.val (.string b)))=>match xm op a b with|some v=>some (.p (.val v),none,[])|none=>none
|_,_=>none
theorem Qbw(r:ZG φ M0 N D T h a w){u:Kt}(Y:o.op=.binOp op tx x y ty)(J:Et T op x y=some u):u.2.1=none∧Yield P o φ M0 h a w u.1 h:=by
 unfold Et at J;split at J
 ·rename_i k n k' m hx hy;have O:=r.ev hx;have U:=r.ev hy;simp only[Qg,Q6] at O U;split at J
  ·rename_i hs;split at J
   ·rename_i v G;simp only[Zf] at J;subst J;refine⟨rfl,Qt r (v:=v) ?_ (by simp[Qg,Q6])⟩;unfold NF at G;split at G
    ·cases G
    ·rename_i Z;cases op<;>simp[Fu] at hs<;>simp only[Zf] at G<;>subst G<;>simp[execOp,Y,O,U,eqGuard,binOp,Op.shift,Z,WZ,Zx]
   ·cases J
  ·rename_i hs;split at J
   ·rename_i hk;subst hk;split at J
    ·rename_i v G;simp only[Zf] at J;subst J;refine⟨rfl,Qt r (v:=v) ?_ (by simp[Qg,Q6])⟩;cases op<;>first|(simp[Fu] at hs;done)|(simp only[MJ] at G;first|(cases G;done)|(simp only[Zf] at G;subst G;simp[execOp,Y,O,U,eqGuard,binOp,Op.intArith,Op.intBits,Op.intCmp,JY,bOr,lY,kG,QD,leI,Qq,bne];done)|(by_cases hz:m=0<;>simp only[hz,if_true,if_false] at G<;>first|(cases G;done)|(simp only[Zf] at G;subst G;simp[execOp,Y,O,U,eqGuard,binOp,Op.intDiv,hz])))
    ·cases J
   ·cases J
 ·rename_i n m hx hy;have O:=r.ev hx;have U:=r.ev hy;simp only[Qg,Q6] at O U;split at J
  ·rename_i v G;simp only[Zf] at J;subst J;refine⟨rfl,Qt r (v:=v) ?_ (by simp[Qg,Q6])⟩;cases op<;>simp only[xm] at G<;>first|(cases G;done)|(simp only[Zf] at G;subst G;simp[execOp,Y,O,U,eqGuard,binOp,Op.stringOp,xh,Zb];done)|skip
   split at G
   ·rename_i ab;simp only[Zf] at G;subst G;have e1:n.size=(XV n).length:=rfl;have e2:m.size=(XV m).length:=rfl;have aa:¬(((n.size+m.size:Nat):Int)>IntKind.i64.max):=by rw[e1,e2];simp[IntKind.max,IntKind.signed,IntKind.bits];omega
    simp only[execOp,Y,O,U,binOp,Op.stringOp,Sem.run_bind];rw[if_neg aa];simp[eqGuard,xk]
   ·cases G
  ·cases J
 ·cases J
def aUn(T:Nat→Option AV)(op:UnOp)(x:Operand):Option Kt :=
 match Zo T x with
|some (.p (.val (.bool b)))=>match op with|.not=>some (.p (.val (.bool (!b))),none,[])|_=>none
|some (.p (.val (.int k n)))=>match op with|.neg=>some (.p (.val (.int k (k.wrap (0-n)))),none,[])|_=>none
|_=>none
theorem Qdf(r:ZG φ M0 N D T h a w){op:UnOp}{u:Kt}(U:o.op=.unOp op tx x)(G:aUn T op x=some u):u.2.1=none∧Yield P o φ M0 h a w u.1 h:=by
 unfold aUn at G;split at G
 ·rename_i b O;have J:=r.ev O;simp only[Qg,Q6] at J;split at G
  ·simp only[Zf] at G;subst G;exact⟨rfl,Qt r (v:=.bool (!b)) (by simp[execOp,U,J,Op.unary]) (by simp[Qg,Q6])⟩
  ·cases G
 ·rename_i k n O;have J:=r.ev O;simp only[Qg,Q6] at J;split at G
  ·simp only[Zf] at G;subst G;exact⟨rfl,Qt r (v:=.int k (k.wrap (0-n))) (by simp[execOp,U,J,Op.unary,Op.intArith]) (by simp[Qg,Q6])⟩
  ·cases G
 ·cases G
def vN(P:Program)(T:Nat→Option AV)(dst:TypeId)(src:TypeId)(x:Operand):Option Kt :=
 match P.underlying dst,P.underlying src,Zo T x with
|some (.int k),some _,some (.p (.val (.int _ n)))=>some (.p (.val (.int k (k.wrap n))),none,[])
|_,_,_=>none
theorem lZ(r:ZG φ M0 N D T h a w){src dst:TypeId}{u:Kt}(Y:o.op=.convert src dst x)(G:vN P T dst src x=some u):u.2.1=none∧Yield P o φ M0 h a w u.1 h:=by
 unfold vN at G;split at G
 ·rename_i k d k' n U hs O;have J:=r.ev O;simp only[Qg,Q6] at J;simp only[Zf] at G;subst G;refine⟨rfl,Qt r (v:=.int k (k.wrap n)) ?_ (by simp[Qg,Q6])⟩;simp[execOp,Y,J,convert,run_underlying U,run_underlying hs,Conv.intToInt]
 ·cases G
end
section
variable {P:Program}{o:Oper}{φ:Nat→Nat}{M0:ZQ}{N:Nat}{D:DB}{T:Nat→Option AV}{h:QY}{a:Act}{w:World}
theorem MK{M:ZQ}{r:Nat}:∀(cs:List PV) (o:Nat),WW w M r o cs →
  ∃l:List Value,l.length=cs.length∧(∀j v,l[j]?=some v→w.cell? ⟨r,o+j,none⟩=some v)∧(∀u∈l,u.oneCell'=true)∧(∀(j:Nat) c v,cs[j]?=some c→l[j]?=some v→Q6 w M c v)
|[],o,_=>⟨[],rfl,by simp,by simp,by simp⟩
|c::cs,o,J=>by
  simp only[WW] at J;obtain⟨⟨v,O,h2,Y,U⟩,Z⟩:=J;obtain⟨l,g1,g2,g3,g4⟩:=MK cs (o+1) Z;refine⟨v::l,by simp[g1],?_,?_,?_⟩
  ·intro j u G;cases j with
  |zero=>simp at G;subst G;simpa using O
  |succ j=>have:=g2 j u (by simpa using G);rwa [show o+1+j=o+(j+1) from by omega] at this
  ·intro u hu;rcases List.mem_cons.1 hu with rfl|hu
   ·exact Y
   ·exact g3 u hu
  ·intro j c' u G hu;cases j with
  |zero=>simp at G hu;subst G hu;exact U
  |succ j=>exact g4 j c' u (by simpa using G) (by simpa using hu)
theorem KA{S:Nat}:∀{es:List (List PV)},(∀e∈es,e.length=S)→es.flatten.length=es.length*S
|[],_=>by simp
|e::es,G=>by
  simp only[List.flatten_cons,mR,lU,KA (es:=es) (fun x J=>G x (List.mem_cons_of_mem _ J)),G e zq,Nat.add_mul];omega
theorem RY{o:Nat}{cs:List PV}{l:List Value}(U:l.length=cs.length)(hc:∀j v,l[j]?=some v→w'.cell? ⟨r,o+j,none⟩=some v)(Z:∀j,j<l.length→¬M r (o+j))(Y:∀u∈l,u.oneCell'=true)(O:∀(j:Nat) c v,cs[j]?=some c→l[j]?=some v→Q6 w' M c v):WW w' M r o cs:=by
 rw[FH];intro j c G;have hlt:j<l.length:=by rw[U];exact(MG.1 G).1
 have J:l[j]?=some l[j]:=List.getElem?_eq_getElem hlt;exact⟨l[j],hc j _ J,Z j hlt,Y _ (List.getElem_mem hlt),O j c _ G J⟩
theorem vO{t:Nat}{S n':Nat}{c:Array Value}(Z:h t=some (.arr ty S n))(hw:w.heap[φ t]?=some (.cells c ty (0,0)))(hn:n≤n')(aj:c'.size=c.size)(ah:∀x,x<n*S→c'[x]?=c[x]?)(r:Z9 φ h w M0) :
  Zl φ h w φ (upd h t (.arr ty S n')) (w.setRow (φ t) c')∧VQ φ h w φ (upd h t (.arr ty S n')) (w.setRow (φ t) c'):=by
 have G:∀x,x≠φ t→(w.setRow (φ t) c').heap[x]?=w.heap[x]?:=fun x hx=>setRow_other w _ x c' hx
 have U:(w.setRow (φ t) c').heap[φ t]?=some (.cells c' ty (0,0)):=setRow_heap w _ c c' ty _ hw;have hb:∀b ty cs,h b=some (.box ty cs)→t≠b:=fun b ty cs hb e=>by rw[←e,Z] at hb;cases hb
 have ac:∀t2 Wj Y n2,h t2=some (.arr Wj Y n2)→∃n3,upd h t (.arr ty S n') t2=some (.arr Wj Y n3)∧n2≤n3 ∧
   (n3=n2→AKept w (w.setRow (φ t) c') (φ t2) (φ t2) Wj):=by
  intro t2 Wj Y n2 J;by_cases e:t=t2
  ·subst e;rw[Z] at J;cases J;refine⟨n',by simp[upd],hn,fun _=>⟨fun h0=>(by rw[hw] at h0;cases h0),.inr ⟨rfl,fun c0 aa=>⟨c',U,?_⟩⟩⟩⟩;rw[hw] at aa;cases aa;exact aj
  ·have hne:φ t2≠φ t:=fun e2=>e (r.inj t2 t (by rw[J];simp) (by rw[Z];simp) e2).symm
   exact⟨n2,by simp[upd,e,J],Yf _,fun _=>VN (rfl) (by rw[G _ hne])⟩
 have ab:∀t2 Wj Y O,h t2=some (.vec Wj Y O)→∃ad,upd h t (.arr ty S n') t2=some (.vec Wj Y ad)∧O.length≤ad.length ∧
   (ad.length=O.length→φ t2=φ t2∧∀c0,w.heap[φ t2]?=some (.cells c0 Wj (0,0))→∃c1,(w.setRow (φ t) c').heap[φ t2]?=some (.cells c1 Wj (0,0))∧c1.size=c0.size):=by
  intro t2 Wj Y n2 J;have e:¬t=t2:=fun e=>by rw[←e,Z] at J;cases J
  have hne:φ t2≠φ t:=fun e2=>e (r.inj t2 t (by rw[J];simp) (by rw[Z];simp) e2).symm
  exact⟨n2,by simp[upd,e,J],Yf _,fun _=>⟨rfl,fun c0 aa=>⟨c0,by rw[G _ hne];exact aa,rfl⟩⟩⟩
 have af:∀d k x,h d=some k→k.ob=some x→(∃k',upd h t (.arr ty S n') d=some k'∧k'.ob=some x)∧φ d=φ d:=by
  intro d k x hd ho;have e:¬t=d:=fun e=>by rw[←e,Z] at hd;cases hd;cases ho
  exact⟨⟨k,by simp[upd,e,hd],ho⟩,rfl⟩
 refine⟨⟨rfl,rfl,rfl,by simp,?_,?_,?_,?_,?_,fun t2 Wj Y O _ J=>ab t2 Wj Y O J,fun d k x _=>af d k x⟩,?_,ac,ab,af⟩
 ·intro x _ ai;exact G x (fun e=>ai t (by rw[Z];simp) e.symm)
 ·intro x o _ hm;by_cases e:x=φ t
  ·subst e
   have:o<n*S:=by
    rcases Nat.lt_or_ge o (n*S) with hlt|ak
    ·exact hlt
    ·exact absurd ⟨t,_,Z,rfl,ak⟩ hm
   rw[Yt U,Yt hw];exact ah o this
  ·simp[World.cell?,G x e]
 ·rintro x y _ ⟨d,q,h1,J,h3⟩;by_cases e:t=d
  ·subst e;have:q=.arr ty S n':=by simpa [upd] using h1.symm
   subst this;have h4:n*S≤n'*S:=Nat.mul_le_mul_right _ hn;exact⟨t,_,Z,J,Nat.le_trans h4 h3⟩
  ·exact⟨d,q,by simpa [upd,e] using h1,J,h3⟩
 ·intro d ae ds _ hd;exact⟨⟨ds,by simp[upd,hb d _ _ hd,hd]⟩,rfl⟩
 ·intro t2 Wj Y n2 _ J;exact ac t2 Wj Y n2 J
 ·intro d ae ds hd;exact⟨⟨ae,ds,by simp[upd,hb d _ _ hd,hd]⟩,rfl⟩
theorem Iw{t:Nat}{S n':Nat}{cap:Nat}(ht:h t=some (.arr ty S n))(r:Z9 φ h w M0)(E:Zl φ h w φ' (upd h t (.arr ty S n')) w')(X:VQ φ h w φ' (upd h t (.arr ty S n')) w')(J:∀b,b≠t→φ' b=φ b)(U:φ' t=φ t∨φ' t=w.heap.size∧Clear φ h w 1)(aa:∀d,h d≠none→d≠t→w'.heap[φ d]?=w.heap[φ d]?)(ae:w'.heap[φ' t]?=some (.cells c' ty (0,0)))(ad:c'.size=cap*S)(ab:n'≤cap)(ac:cap≤maxLen):Z9 φ' (upd h t (.arr ty S n')) w' M0:=by
 have g:∀d,upd h t (.arr ty S n') d≠none→h d≠none:=fun d O=>by
  by_cases e:t=d
  ·rw[←e,ht];simp
  ·simpa [upd,e] using O
 refine⟨?_,?_,?_,fun x y hx=>Nat.lt_of_lt_of_le (r.lt x y hx) E.size,r.gm.evol E⟩
 ·intro d e O he G;by_cases e1:d=t<;>by_cases Y:e=t
  ·rw[e1,Y]
  ·rw[e1,J e Y] at G;rcases U with Z|⟨Z,hC⟩
   ·rw[Z] at G;rw[e1];exact r.inj t e (by rw[ht];simp) (g e he) G
   ·rcases hC e (g e he) with h4|h4<;>omega
  ·rw[Y,J d e1] at G;rcases U with Z|⟨Z,hC⟩
   ·rw[Z] at G;rw[Y];exact r.inj d t (g d O) (by rw[ht];simp) G
   ·rcases hC d (g d O) with h4|h4<;>omega
  ·rw[J d e1,J e Y] at G;exact r.inj d e (g d O) (g e he) G
 ·intro d q O;by_cases e:t=d
  ·subst e;have:q=.arr ty S n':=by simpa [upd] using O.symm
   subst this;exact .inr ⟨c',cap,ae,ad,ab,ac⟩
  ·have h1:h d=some q:=by simpa [upd,e] using O
   rw[J d (fun Y=>e Y.symm)];exact Ku (E.keeps M0) X (aa d (by rw[h1];simp) (fun Y=>e Y.symm)) (r.blk d q h1)
 ·intro d O o hm;by_cases e:d=t
  ·subst e;rcases U with Z|⟨Z,_⟩
   ·rw[Z] at hm;exact r.fr d (g d O) o hm
   ·rw[Z] at hm;exact absurd (r.lt _ _ hm) zo
  ·rw[J d e] at hm;exact r.fr d (g d O) o hm
theorem NG{ob:Obj}{t:Nat}{S n':Nat}(ht:h t=some (.arr ty S n))(hn:n<n')(hh:w'.heap=w.heap.push ob)(ho:w'.os=w.os)(af:w'.tape=w.tape)(hu:w'.output=w.output)(r:Z9 φ h w M0)(hC:Clear φ h w 1) :
  Zl φ h w (QM φ t w.heap.size) (upd h t (.arr ty S n')) w'∧VQ φ h w (QM φ t w.heap.size) (upd h t (.arr ty S n')) w':=by
 have J:∀x,x<w.heap.size→w'.heap[x]?=w.heap[x]?:=fun x hx=>by rw[hh,Array.getElem?_push,if_neg zo]
 have hb:∀b ty cs,h b=some (.box ty cs)→¬t=b:=fun b ty cs hb e=>by rw[←e,ht] at hb;cases hb
 have ab:∀t2 Wj O Z,h t2=some (.arr Wj O Z)→∃n3,upd h t (.arr ty S n') t2=some (.arr Wj O n3)∧Z≤n3 ∧
   (n3=Z→AKept w w' (φ t2) (QM φ t w.heap.size t2) Wj):=by
  intro t2 Wj O Z G;by_cases e:t=t2
  ·subst e;rw[ht] at G;cases G;exact⟨n',by simp[upd],by omega,fun e=>absurd e zo⟩
  ·exact⟨Z,by simp[upd,e,G],Yf _,fun _=>VN (by simp[QM,e]) (by rw[hC.lt r (by rw[hh];simp) J (by rw[G];simp)])⟩
 have aa:∀t2 Wj O U,h t2=some (.vec Wj O U)→∃ac,upd h t (.arr ty S n') t2=some (.vec Wj O ac)∧U.length≤ac.length ∧
   (ac.length=U.length→QM φ t w.heap.size t2=φ t2∧∀c0,w.heap[φ t2]?=some (.cells c0 Wj (0,0))→∃c1,w'.heap[φ t2]?=some (.cells c1 Wj (0,0))∧c1.size=c0.size):=by
  intro t2 Wj O Z G;have e:¬t=t2:=fun e=>by rw[←e,ht] at G;cases G
  exact⟨Z,by simp[upd,e,G],Yf _,fun _=>⟨by simp[QM,e],fun c0 ah=>⟨c0,by rw[hC.lt r (by rw[hh];simp) J (by rw[G];simp)];exact ah,rfl⟩⟩⟩
 have ae:∀d k x,h d=some k→k.ob=some x→(∃k',upd h t (.arr ty S n') d=some k'∧k'.ob=some x)∧QM φ t w.heap.size d=φ d:=by
  intro d k x Y ho;have e:¬t=d:=fun e=>by rw[←e,ht] at Y;cases Y;cases ho
  exact⟨⟨k,by simp[upd,e,Y],ho⟩,by simp[QM,e]⟩
 refine⟨⟨ho,af,hu,by rw[hh];simp,fun x hx _=>J x hx,fun x o hx _=>by simp[World.cell?,J x hx],?_,?_,?_,fun t2 Wj O U _ G=>aa t2 Wj O U G,fun d k x _=>ae d k x⟩,?_,ab,aa,ae⟩
 ·rintro x y hx ⟨d,q,h1,G,h3⟩;by_cases e:t=d
  ·simp only[QM,e,if_true] at G;omega
  ·exact⟨d,q,by simpa [upd,e] using h1,by simpa [QM,e] using G,h3⟩
 ·intro d ad ds _ Y;have:=hb d _ _ Y;exact⟨⟨ds,by simp[upd,this,Y]⟩,by simp[QM,this]⟩
 ·intro t2 Wj O Z _ G;exact ab t2 Wj O Z G
 ·intro d ad ds Y;have:=hb d _ _ Y;exact⟨⟨ad,ds,by simp[upd,this,Y]⟩,by simp[QM,this]⟩
def isNil:AV→Bool|.p (.val (.slice none 0 0))=>true|_=>false
def DR(S:Nat)(x:AV):Option (List (List PV)) :=
 if isNil x then some [] else match elems x with|some (G,es)=>if G=S then some es else none|none=>none
theorem Iy{x:AV}(G:isNil x=true):x=.p (.val (.slice none 0 0)):=by
 unfold isNil at G;split at G
 ·rfl
 ·cases G
theorem Iz{S:Nat}{x:AV}{es:List (List PV)}(G:DR S x=some es)(J:Qg φ h w M x v):Q6 w M (.sl S es) v:=by
 unfold DR at G;split at G
 ·rename_i U;simp only[Zf] at G;subst G;rw[Iy U] at J;simp only[Qg,Q6] at J;simp only[Q6];exact .inr ⟨trivial,none,0,J⟩
 ·split at G
  ·rename_i Y es' O;split at G
   ·rename_i hS;simp only[Zf] at G;subst G hS;exact Bh O J
   ·cases G
  ·cases G
def LK(P:Program)(T:Nat→Option AV)(h:QY)(dst:Option Tmp)(t:TypeId)(s x:Operand):Option Kt :=
  match P.underlying t,Zo T s,Zo T x with
 |some (.slice e),some sv,some xv =>
    match P.info? e with
   |some i =>
      match i.zero,DR i.size xv with
     |some z,some es' =>
        if z.cells.size=i.size∧0<i.size then
          if isNil sv then
            if es'=[] then some (sv,none,[]) else
            (match dst with
            |some d=>if h d=none∧es'.length*i.bytes≤140737488355328∧es'.length≤140737488355328 then some (.tsl i.size es' d,some (d,.arr e i.size es'.length),[d]) else none
            |none=>none)
          else match sv with
           |.tsl S es tk =>
              (match h tk with
              |some (.arr ty G n) =>
                 if es'=[] then some (.tsl S es tk,some (tk,.arr ty G n),[tk]) else
                 if ty=e∧G=S∧S=i.size∧n=es.length∧(es.length+es'.length)*i.bytes≤140737488355328∧es.length+es'.length≤140737488355328 then
                   some (.tsl S (es++es') tk,some (tk,.arr e S (es.length+es'.length)),[tk]) else none
              |_=>none)
           |_=>none
        else none
     |_,_=>none
   |none=>none
 |_,_,_=>none
end
section
variable {P:Program}{o:Oper}{φ:Nat→Nat}{M0:ZQ}{N:Nat}{D:DB}{T:Nat→Option AV}{h:QY}{a:Act}{w:World}
theorem KU{t:TypeId}{s:Operand}(G:o.op=.call ⟨.builtin .append,#[s,x],#[t,t]⟩)(J:(Builtin.append_ #[t,t] o.type #[a.eval s,a.eval x]).run P w=.ok v w'):(execOp a.eval o).run P w=.ok (.value v) w':=by
 simp[execOp,G,resolve,invoke,builtin,J]
theorem Vp{t:TypeId}{i:TypeInfo}(J:P.underlying t=some (.slice e))(hi:P.info? e=some i)(b q:Option Addr)(len cap c:Nat)(G:len≤cap) :
  (Builtin.append_ #[t,t] ty #[.slice b len cap,.slice q 0 c]).run P w=.ok (.slice b len cap) w:=by
 cases q<;>cases b<;>simp[Builtin.append_,run_underlying J,sizeOf,typeInfo,hi,Builtin.lenOf,G,Builtin.firstCells,loadCells,loadCellsFrom,storeCells]
theorem NH{S:Nat}(r:Z9 φ h w M0)(Z:Clear φ h w 1)(U:h' d=some (.arr ty S n))(O:φ' d=w.heap.size)(G:∀b k,b≠d→h' b=some k→h b=some k∧φ' b=φ b){x:Nat}(hx:x<n*S):¬MM φ' h' M0 w.heap.size x:=by
 rintro(⟨b,k,J,h2,h3⟩|J)
 ·by_cases e:b=d
  ·subst e;rw[U] at J;cases J;simp only at h3;omega
  ·obtain⟨Y,h5⟩:=G b k e J;rcases Z b (by rw[Y];simp) with h6|h6<;>omega
 ·exact absurd (r.lt _ _ J) zo
theorem Ho{S:Nat}{es:List (List PV)}(Y:Q6 w M (.sl S es) v)(hne:es≠[]) :
  ∃(J G cap:Nat) (l:List Value),v=.slice (some ⟨J,G,none⟩) es.length cap∧es.length≤cap∧(∀e∈es,e.length=S)∧Jn w M S J G es∧l.length=es.length*S ∧
   (∀j u,l[j]?=some u→w.cell? ⟨J,G+j,none⟩=some u)∧(∀u∈l,u.oneCell'=true)∧(∀(j:Nat) c u,es.flatten[j]?=some c→l[j]?=some u→Q6 w M c u):=by
 simp only[Q6] at Y;rcases Y with⟨J,G,cap,O,h2,Z⟩|⟨O,_⟩
 ·have U:=(WX es G).1 Z;obtain⟨l,g1,g2,g3,g4⟩:=MK _ _ U.2;exact⟨J,G,cap,l,O,h2,U.1,Z,by rw[g1,KA U.1],g2,g3,g4⟩
 ·exact absurd O hne
theorem mX(r:ZG φ M0 N D T h a w){t:TypeId}{s:Operand}{u:Kt}(ho:o.op=.call ⟨.builtin .append,#[s,x],#[t,t]⟩)(Z:LK P T h o.dst t s x=some u):Yield P o φ M0 h a w u.1 (ap h u.2.1):=by
 unfold LK at Z;split at Z;rotate_left
 ·cases Z
 rename_i e sv xv ht hs hx;split at Z;rotate_left
 ·cases Z
 rename_i i hi;split at Z;rotate_left
 ·cases Z
 rename_i z es' hz bk;split at Z;rotate_left
 ·cases Z
 rename_i bb;refine Yield.of_lift r 1 fun φ r E0 X0 hC=>?_
 have aj:=Iz bk (r.ev hx);have ai:=r.ev hs;split at Z
 ·rename_i hn;rw[Iy hn] at ai;simp only[Qg,Q6] at ai;split at Z
  ·rename_i ao;subst ao;simp only[Zf] at Z;subst Z;simp only[ap];refine Qt r (v:=.slice none 0 0) ?_ (by rw[Iy hn];simp[Qg,Q6]);simp only[Q6] at aj;rcases aj with⟨rr,oo,cap,h1,_⟩|⟨_,q,cap,h1⟩
   ·exact KU ho (by rw[ai,h1];exact Vp ht hi _ _ _ _ _ zq)
   ·exact KU ho (by rw[ai,h1];exact Vp ht hi _ _ _ _ _ zq)
  ·rename_i hne;split at Z;rotate_left
   ·cases Z
   rename_i d bl;split at Z;rotate_left
   ·cases Z
   rename_i hc;obtain⟨hd,ba,bd⟩:=hc;simp only[Zf] at Z;subst Z;simp only[ap];have af:es'≠[]:=fun e=>hne e
   obtain⟨rr,oo,cap,l,h1,h2,h3,h4,h5,h6,h7,h8⟩:=Ho aj af;have ak:0<es'.length:=List.length_pos_iff.2 af;have ac:=run_append_nil (P:=P) w t o.type e i z ht hi hz ⟨rr,oo,none⟩ es'.length cap l (by rw[h5]) (fun j v J=>by rw[Addr.add_lit];exact h6 j v J) ak zo zo;have ae:=grownCap_ge w es'.length 0 e;have ah:grownCap w es'.length 0 e≤maxLen:=grownCap_le_maxLen w es'.length 0 e (by unfold maxLen;omega);generalize grownCap w es'.length 0 e=gc at *
   let C:Array Value:=l.toArray++Builtin.zeroCells z.cells (gc-es'.length)
   let w':World:=w.drew.alloc (.cells C e)
   obtain⟨E,X⟩:=XX (w:=w) (w':=w') (o:=.cells C e) (b:=d) (k:=.arr e i.size es'.length) (φ:=φ) (h:=h) (M0:=M0) rfl rfl rfl rfl hd r.hp hC
   have ab:C.size=gc*i.size:=by
    simp only[C,Array.size_append,List.size_toArray,size_zeroCells,bb.1,h5];rw[←Nat.add_mul];congr 1;omega
   have G:w'.heap[w.heap.size]?=some (.cells C e (0,0)):=by show(w.heap.push _)[w.heap.size]?=_;simp
   have hH:Z9 (QM φ d w.heap.size) (upd h d (.arr e i.size es'.length)) w' M0:=XY rfl hd r.hp hC E X (.inr ⟨C,gc,G,ab,ae,ah⟩);refine⟨_,.slice (some ⟨w.heap.size,0,none⟩) es'.length gc,w',QM φ d w.heap.size,KU ho (by rw[ai,h1];exact ac),.inl rfl,?_,hH,E,X⟩
   have U:∀x,x<es'.length*i.size→¬MM (QM φ d w.heap.size) (upd h d (.arr e i.size es'.length)) M0 w.heap.size x:=fun x hx =>
    NH (φ:=φ) (h:=h) r.hp hC (d:=d) (ty:=e) (S:=i.size) (n:=es'.length) (by simp[upd]) (by simp[QM]) (fun b k hb hk=>⟨by simpa [upd,Ne.symm hb] using hk,by simp[QM,Ne.symm hb]⟩) hx
   simp only[Qg,Q6];refine⟨.inl ⟨w.heap.size,0,gc,rfl,ae,?_⟩,e,es'.length,by simp[upd],Yf _,fun _=>.inr ⟨gc,C,by simp[QM],by simpa [QM] using G,ab,ae,ah⟩⟩;rw[WX];refine⟨h3,RY (l:=l) (by rw[h5,KA h3]) ?_ ?_ h7 ?_⟩
   ·intro j v J;rw[Yt G];have hlt:j<l.length:=(MG.1 J).1;simp only[Nat.zero_add,C];rw[Array.getElem?_append_left (by simpa using hlt)];simpa using J
   ·intro j J;simp only[Nat.zero_add];exact U j (by rw[←h5];exact J)
   ·intro j c v J hv;exact(Yg (E.keeps M0)).1 _ _ (h8 j c v J hv)
 ·rename_i hn;split at Z;rotate_left
  ·cases Z
  rename_i S es tk;split at Z;rotate_left
  ·cases Z
  rename_i ty S' n aa;simp only[Qg] at ai;obtain⟨ay,Wj,n2,a6,be,al⟩:=ai;rw[aa] at a6;cases a6;split at Z
  ·rename_i an;simp only[Zf] at Z;subst Z;simp only[ap]
   have bc:∀{k:Blk},h tk=some k→upd h tk k=h:=by
    intro k hk;funext b;simp only[upd];split
    ·rename_i e;rw[←e,hk]
    ·rfl
   rw[bc aa];refine Qt r (v:=a.eval s) ?_ (by simp only[Qg];exact⟨ay,ty,n,aa,be,al⟩)
   have bj:∃q c,a.eval x=.slice q 0 c:=by
    subst an;simp only[Q6] at aj;rcases aj with⟨rr,oo,cap,h1,_⟩|⟨_,q,cap,h1⟩
    ·exact⟨_,_,by simpa using h1⟩
    ·exact⟨q,cap,h1⟩
   obtain⟨q,c,hq⟩:=bj;simp only[Q6] at ay;rcases ay with⟨rr,oo,cap,h1,h2,_⟩|⟨_,q2,cap,h1⟩
   ·exact KU ho (by rw[hq,h1];exact Vp ht hi _ _ _ _ _ h2)
   ·exact KU ho (by rw[hq,h1];exact Vp ht hi _ _ _ _ _ (Nat.zero_le _))
  ·rename_i an;split at Z;rotate_left
   ·cases Z
   rename_i hc;obtain⟨rfl,_,rfl,rfl,ba,bd⟩:=hc;simp only[Zf] at Z;subst Z;simp only[ap];rcases al rfl with⟨bi,au,_⟩|⟨Y,c0,au,a8,aq,bh,ar⟩
   ·have ao:es=[]:=List.length_eq_zero_iff.1 bi;subst ao;simp only[List.length_nil,Nat.zero_add] at ba bd aa ⊢;have af:es'≠[]:=fun e=>an e
    obtain⟨rr,oo,cap,l,h1,h2,h3,h4,h5,h6,h7,h8⟩:=Ho aj af;have ak:0<es'.length:=List.length_pos_iff.2 af;have ac:=run_append_nil (P:=P) w t o.type ty i z ht hi hz ⟨rr,oo,none⟩ es'.length cap l (by rw[h5]) (fun j v J=>by rw[Addr.add_lit];exact h6 j v J) ak zo zo;have ae:=grownCap_ge w es'.length 0 ty;have ah:grownCap w es'.length 0 ty≤maxLen:=grownCap_le_maxLen w es'.length 0 ty (by unfold maxLen;omega);generalize grownCap w es'.length 0 ty=gc at *
    let C:Array Value:=l.toArray++Builtin.zeroCells z.cells (gc-es'.length)
    let w':World:=w.drew.alloc (.cells C ty)
    obtain⟨E,X⟩:=NG (w:=w) (w':=w') (ob:=.cells C ty) (φ:=φ) (h:=h) (M0:=M0) (n':=es'.length) aa zo rfl rfl rfl rfl r.hp hC
    have ab:C.size=gc*i.size:=by
     simp only[C,Array.size_append,List.size_toArray,size_zeroCells,bb.1,h5];rw[←Nat.add_mul];congr 1;omega
    have G:w'.heap[w.heap.size]?=some (.cells C ty (0,0)):=by show(w.heap.push _)[w.heap.size]?=_;simp
    have O:QM φ tk w.heap.size tk=w.heap.size:=by simp[QM]
    have hH:Z9 (QM φ tk w.heap.size) (upd h tk (.arr ty i.size es'.length)) w' M0 :=
     Iw aa r.hp E X (fun b hb=>by simp[QM,Ne.symm hb]) (.inr ⟨O,hC⟩) (fun d hd _=>hC.lt r.hp (w':=w') (by show(w.heap.push _).size≤_;simp) (fun x hx=>by show(w.heap.push _)[x]?=_;rw[Array.getElem?_push,if_neg zo]) hd) (by rw[O];exact G) ab ae ah
    refine⟨_,.slice (some ⟨w.heap.size,0,none⟩) es'.length gc,w',QM φ tk w.heap.size,KU ho (by rw[au,h1];exact ac),.inl rfl,?_,hH,E,X⟩
    have U:∀x,x<es'.length*i.size→¬MM (QM φ tk w.heap.size) (upd h tk (.arr ty i.size es'.length)) M0 w.heap.size x:=fun x hx =>
     NH (φ:=φ) (h:=h) r.hp hC (d:=tk) (ty:=ty) (S:=i.size) (n:=es'.length) (by simp[upd]) O (fun b k hb hk=>⟨by simpa [upd,Ne.symm hb] using hk,by simp[QM,Ne.symm hb]⟩) hx
    simp only[Qg,Q6,List.nil_append];refine⟨.inl ⟨w.heap.size,0,gc,rfl,ae,?_⟩,ty,es'.length,by simp[upd],Yf _,fun _=>.inr ⟨gc,C,by rw[O],by rw[O];exact G,ab,ae,ah⟩⟩;rw[WX];refine⟨h3,RY (l:=l) (by rw[h5,KA h3]) ?_ ?_ h7 ?_⟩
    ·intro j v J;rw[Yt G];have hlt:j<l.length:=(MG.1 J).1;simp only[Nat.zero_add,C];rw[Array.getElem?_append_left (by simpa using hlt)];simpa using J
    ·intro j J;simp only[Nat.zero_add];exact U j (by rw[←h5];exact J)
    ·intro j c v J hv;exact(Yg (E.keeps M0)).1 _ _ (h8 j c v J hv)
   obtain⟨rr,oo,cap,l,h1,h2,h3,h4,h5,h6,h7,h8⟩:=Ho aj an;have ak:0<es'.length:=List.length_pos_iff.2 an
   have av:Jn w (MM φ h M0) i.size (φ tk) 0 es:=by
    by_cases az:es=[]
    ·subst az;simp[Jn]
    ·obtain⟨r2,o2,bm,l2,g1,_,_,g4,_⟩:=Ho ay az;rw[au] at g1;simp only[Value.slice.injEq,Zf,Addr.mk.injEq] at g1;obtain⟨⟨rfl,rfl,_⟩,_⟩:=g1;exact g4
   have aw:∀e∈es,e.length=i.size:=((WX es 0).1 av).1;by_cases ad:es.length+es'.length≤Y
   ·have bf:es.length*i.size+l.length≤c0.size:=by rw[h5,aq,←Nat.add_mul];exact Nat.mul_le_mul_right _ ad
    have ac:=run_append_room (P:=P) w t o.type ty i ht hi (φ tk) es.length Y c0 a8 ⟨rr,oo,none⟩ es'.length cap l (by rw[h5]) (fun j v J=>by rw[Addr.add_lit];exact h6 j v J) h7 ad bf
    let C:Array Value:=(c0.toList.take (es.length*i.size)++l++c0.toList.drop (es.length*i.size+l.length)).toArray
    have a7:(c0.toList.take (es.length*i.size)).length=es.length*i.size:=by simp;omega
    have ab:C.size=c0.size:=by simp[C];omega
    obtain⟨E,X⟩:=vO (φ:=φ) (h:=h) (w:=w) (M0:=M0) (n':=es.length+es'.length) (c':=C) aa a8 zo ab (fun x hx=>by
     simp only[C,List.getElem?_toArray];rw[List.append_assoc,List.getElem?_append_left (by rw[a7];exact hx),List.getElem?_take,if_pos hx];simp) r.hp
    have G:(w.setRow (φ tk) C).heap[φ tk]?=some (.cells C ty (0,0)):=setRow_heap w _ c0 C ty _ a8
    have hH:Z9 φ (upd h tk (.arr ty i.size (es.length+es'.length))) (w.setRow (φ tk) C) M0 :=
     Iw aa r.hp E X (fun _ _=>rfl) (.inl rfl) (fun d hd bg=>setRow_other w _ _ C (fun e=>bg (r.hp.inj d tk hd (by rw[aa];simp) e))) G (by rw[ab,aq]) ad ar
    refine⟨_,.slice (some ⟨φ tk,0,none⟩) (es.length+es'.length) Y,_,φ,KU ho (by rw[au,h1];exact ac),.inl rfl,?_,hH,E,X⟩
    have U:∀x,x<(es.length+es'.length)*i.size→¬MM φ (upd h tk (.arr ty i.size (es.length+es'.length))) M0 (φ tk) x:=by
     rintro x hx (⟨b,k,q1,q2,q3⟩|q1)
     ·by_cases e:tk=b
      ·subst e;have:k=.arr ty i.size (es.length+es'.length):=by simpa [upd] using q1.symm
       subst this;simp only at q3;omega
      ·have q4:h b=some k:=by simpa [upd,e] using q1
       exact e (r.hp.inj b tk (by rw[q4];simp) (by rw[aa];simp) q2).symm
     ·exact r.hp.fr tk (by rw[aa];simp) x q1
    simp only[Qg,Q6];refine⟨.inl ⟨φ tk,0,Y,by simp,by simpa using ad,?_⟩,ty,es.length+es'.length,by simp[upd],by simp,fun _=>.inr ⟨Y,C,rfl,G,by rw[ab,aq],ad,ar⟩⟩;rw[Xu];refine⟨(Yg (E.keeps M0)).2.1 _ _ _ _ av,?_⟩;rw[WX];refine⟨h3,RY (l:=l) (by rw[h5,KA h3]) ?_ ?_ h7 ?_⟩
    ·intro j v J;rw[Yt G];have hlt:j<l.length:=(MG.1 J).1;simp only[Nat.zero_add,C,List.getElem?_toArray];rw[List.append_assoc,List.getElem?_append_right (by rw[a7];omega),a7,List.getElem?_append_left zo];rw[show es.length*i.size+j-es.length*i.size=j from by omega];exact J
    ·intro j J;simp only[Nat.zero_add];refine U _ ?_;rw[h5] at J;rw[Nat.add_mul];omega
    ·intro j c v J hv;exact(Yg (E.keeps M0)).1 _ _ (h8 j c v J hv)
   ·obtain⟨ol,g1,g2,g3,g4⟩:=MK _ _ ((WX es 0).1 av).2;have ax:ol.length=es.length*i.size:=by rw[g1,KA aw]
    have ac:=run_append_grow (P:=P) w t o.type ty i z ht hi hz ⟨φ tk,0,none⟩ es.length Y ol ax (fun j v J=>by rw[Addr.add_lit];exact g2 j v J) ⟨rr,oo,none⟩ es'.length cap l (by rw[h5])
     (fun j v J=>by rw[Addr.add_lit];exact h6 j v J) zo zo (growslice_fits zo ba)
    have ae:=grownCap_ge w (es.length+es'.length) Y ty;have ah:grownCap w (es.length+es'.length) Y ty≤maxLen:=grownCap_le_maxLen w _ Y ty (by unfold maxLen;omega);generalize grownCap w (es.length+es'.length) Y ty=gc at *
    let C:Array Value:=ol.toArray++l.toArray++Builtin.zeroCells z.cells (gc-(es.length+es'.length))
    let w':World:=w.drew.alloc (.cells C ty)
    obtain⟨E,X⟩:=NG (w:=w) (w':=w') (ob:=.cells C ty) (φ:=φ) (h:=h) (M0:=M0) (n':=es.length+es'.length) aa zo rfl rfl rfl rfl r.hp hC
    have ab:C.size=gc*i.size:=by
     simp only[C,Array.size_append,List.size_toArray,size_zeroCells,bb.1,h5,ax];rw[←Nat.add_mul,←Nat.add_mul];congr 1;omega
    have G:w'.heap[w.heap.size]?=some (.cells C ty (0,0)):=by show(w.heap.push _)[w.heap.size]?=_;simp
    have O:QM φ tk w.heap.size tk=w.heap.size:=by simp[QM]
    have hH:Z9 (QM φ tk w.heap.size) (upd h tk (.arr ty i.size (es.length+es'.length))) w' M0 :=
     Iw aa r.hp E X (fun b hb=>by simp[QM,Ne.symm hb]) (.inr ⟨O,hC⟩) (fun d hd _=>hC.lt r.hp (w':=w') (by show(w.heap.push _).size≤_;simp) (fun x hx=>by show(w.heap.push _)[x]?=_;rw[Array.getElem?_push,if_neg zo]) hd) (by rw[O];exact G) ab ae ah
    refine⟨_,.slice (some ⟨w.heap.size,0,none⟩) (es.length+es'.length) gc,w',QM φ tk w.heap.size,KU ho (by rw[au,h1];exact ac),.inl rfl,?_,hH,E,X⟩
    have U:∀x,x<(es.length+es'.length)*i.size→¬MM (QM φ tk w.heap.size) (upd h tk (.arr ty i.size (es.length+es'.length))) M0 w.heap.size x:=fun x hx =>
     NH (φ:=φ) (h:=h) r.hp hC (d:=tk) (ty:=ty) (S:=i.size) (n:=es.length+es'.length) (by simp[upd]) O (fun b k hb hk=>⟨by simpa [upd,Ne.symm hb] using hk,by simp[QM,Ne.symm hb]⟩) hx
    simp only[Qg,Q6];refine⟨.inl ⟨w.heap.size,0,gc,by simp,by simpa using ae,?_⟩,ty,es.length+es'.length,by simp[upd],by simp,fun _=>.inr ⟨gc,C,by rw[O],by rw[O];exact G,ab,ae,ah⟩⟩;rw[Xu];constructor
    ·rw[WX];refine⟨aw,RY (l:=ol) g1 ?_ ?_ g3 ?_⟩
     ·intro j v J;rw[Yt G];have hlt:j<ol.length:=(MG.1 J).1;simp only[Nat.zero_add,C];rw[Array.append_assoc,Array.getElem?_append_left (by simpa using hlt)];simpa using J
     ·intro j J;simp only[Nat.zero_add];refine U _ ?_;rw[ax] at J;rw[Nat.add_mul];omega
     ·intro j c v J hv;exact(Yg (E.keeps M0)).1 _ _ (g4 j c v J hv)
    ·rw[WX];refine⟨h3,RY (l:=l) (by rw[h5,KA h3]) ?_ ?_ h7 ?_⟩
     ·intro j v J;rw[Yt G];have hlt:j<l.length:=(MG.1 J).1;simp only[Nat.zero_add,C];rw[Array.append_assoc,Array.getElem?_append_right (by simp;omega),Array.getElem?_append_left (by simp;omega)];simp only[List.size_toArray,ax,List.getElem?_toArray];rw[show es.length*i.size+j-es.length*i.size=j from by omega];exact J
     ·intro j J;simp only[Nat.zero_add];refine U _ ?_;rw[h5] at J;rw[Nat.add_mul];omega
     ·intro j c v J hv;exact(Yg (E.keeps M0)).1 _ _ (h8 j c v J hv)
end
def mY:AV→Option PV|.p x=>some x|.tsl S es _=>some (.sl S es)|_=>none
def LM:List AV→Option (List PV)
|[]=>some []
|x::xs=>match mY x,LM xs with|some y,some ys=>some (y::ys)|_,_=>none
def bY(P:Program):Nat→TypeId→List (Option Nat)
|0,_=>[]
|d+1,t=>match P.underlying t with
 |some (.slice e)=>[some (P.cellsOf e)]
 |some (.struct G)=>G.toList.flatMap fun f=>bY P d f.type
 |some (.array n e)=>(List.replicate n (bY P d e)).flatten
 |_=>[none]
def DT:List (Option Nat)→List PV→List PV|_,[]=>[]|[],c::cs=>c::cs|some S::ss,.val (.slice none 0 0)::cs=>.sl S []::DT ss cs|_::ss,c::cs=>c::DT ss cs
def BZ(S:Nat):Nat→List PV→List (List PV)|0,_=>[]|n+1,l=>l.take S::BZ S n (l.drop S)
theorem IA{S:Nat}:∀(n:Nat) (l:List PV),l.length=n*S→(BZ S n l).flatten=l∧(BZ S n l).length=n∧∀e∈BZ S n l,e.length=S
|0,l,J=>by
  have:l=[]:=List.eq_nil_of_length_eq_zero (by simpa using J);subst this;simp[BZ]
|n+1,l,J=>by
  have U:(n+1)*S=n*S+S:=by rw[Nat.add_mul];omega
  obtain⟨a1,a2,O⟩:=IA (S:=S) n (l.drop S) (by rw[zLD];omega);refine⟨by simp only[BZ,List.flatten_cons,a1,List.take_append_drop],by simp[BZ,a2],?_⟩;intro e G;simp only[BZ,List.mem_cons] at G;rcases G with rfl|G
  ·simp;omega
  ·exact O e G
section
variable {P:Program}{o:Oper}{φ:Nat→Nat}{M0:ZQ}{N:Nat}{D:DB}{T:Nat→Option AV}{h:QY}{a:Act}{w:World}
theorem vP{x:AV}{y:PV}(G:mY x=some y)(J:Qg φ h w M x v):Q6 w M y v:=by
 cases x with
|p x=>simp only[mY,Zf] at G;subst G;simpa only[Qg] using J
|tsl S es t=>simp only[mY,Zf] at G;subst G;simp only[Qg] at J;exact J.1
|_=>simp[mY] at G
theorem q9{M:ZQ}:∀{xs:List AV} {ys:List PV} {l:List Value},LM xs=some ys→Ql φ h w M xs l→ys.length=l.length∧∀(j:Nat) c u,ys[j]?=some c→l[j]?=some u→Q6 w M c u
|[],ys,l,G,J=>by simp only[LM,Zf] at G;subst G;simp only[Ql] at J;subst J;simp
|x::xs,ys,l,G,J=>by
  simp only[LM] at G;split at G
  ·rename_i y U Z h2;simp only[Zf] at G;subst G;simp only[Ql] at J;obtain⟨v,vs,rfl,h3,Y⟩:=J;obtain⟨h5,h6⟩:=q9 h2 Y;refine⟨by simp[h5],fun j c u O hu=>?_⟩;cases j with
  |zero=>simp at O hu;subst O hu;exact vP Z h3
  |succ j=>exact h6 j c u (by simpa using O) (by simpa using hu)
  ·cases G
theorem za{M:ZQ}:∀{ss:List (Option Nat)} {ys:List PV} {l:List Value},ys.length=l.length→(∀(j:Nat) c u,ys[j]?=some c→l[j]?=some u→Q6 w M c u) →
  (DT ss ys).length=l.length∧∀(j:Nat) c u,(DT ss ys)[j]?=some c→l[j]?=some u→Q6 w M c u
|ss,[],l,O,h=>by unfold DT;exact⟨O,h⟩
|[],c::cs,l,O,h=>by unfold DT;exact⟨O,h⟩
|s::ss,c::cs,[],O,h=>by simp at O
|s::ss,c::cs,v::l,O,h=>by
  have Y:=za (ss:=ss) (ys:=cs) (l:=l) (by simpa using O) (fun j c u G J=>h (j+1) c u (by simpa using G) (by simpa using J));have h0:=h 0 c v zq zq
  have U:∀c',Q6 w M c' v→(c'::DT ss cs).length=(v::l).length∧∀(j:Nat) c u,(c'::DT ss cs)[j]?=some c→(v::l)[j]?=some u→Q6 w M c u:=by
   intro c' hc;refine⟨by simp[Y.1],fun j c u G J=>?_⟩;cases j with
  |zero=>simp at G J;subst G J;exact hc
  |succ j=>exact Y.2 j c u (by simpa using G) (by simpa using J)
  unfold DT;split
  ·rename_i h;cases h
  ·rename_i h _;cases h
  ·rename_i S Z cs' G J;cases G;cases J;refine U _ ?_;simp only[Q6] at h0 ⊢;exact .inr ⟨trivial,none,0,h0⟩
  ·rename_i G J;cases G;cases J;exact U _ h0
theorem Bj(l:List Value)(s:Nat)(hs:l.length=s)(hp:0<s):∀n:Nat,(List.range (n*s)).map (fun k=>l.toArray[k%l.toArray.size]!)=(List.replicate n l).flatten
|0=>by simp
|n+1=>by
  rw[Nat.add_mul,Nat.one_mul,List.range_add,List.map_append,Bj l s hs hp n,List.replicate_succ',List.flatten_append];congr 1;simp only[List.map_map,List.flatten_cons,List.flatten_nil,List.append_nil];apply List.ext_getElem?;intro j;by_cases G:j<s
  ·have:(n*s+j)%s=j:=by rw[Nat.add_comm,Nat.add_mul_mod_self_right];exact Nat.mod_eq_of_lt G
   simp[G,hs,this]
  ·simp[G,hs]
def Gs(P:Program)(T:Nat→Option AV)(h:QY)(dst:Option Tmp)(t:TypeId)(len:Nat)(parts:Array (Nat×Operand)):Option Kt :=
 match P.underlying t,dst,Iq T parts.toList with
|some (.slice e),some d,some ps =>
  match P.info? e with
 |some i =>
   match i.zero,h d with
  |some z,none =>
    match cellsOf (Ik z) with
   |some G =>
     if G.length=i.size∧0<i.size∧len*i.size≤16777216 then
      match NB (fun k=>some (k*i.size,i.size)) (List.replicate len G).flatten ps with
     |some J =>
       match (LM J).map (DT (List.replicate len (bY P 5 e)).flatten) with
      |some pvs=>if pvs.length=len*i.size∧Hg J then some (.tsl i.size (BZ i.size len pvs) d,some (d,.arr e i.size len),[d]) else none
      |none=>none
     |none=>none
     else none
   |none=>none
  |_,_=>none
 |none=>none
|_,_,_=>none
theorem Uc{M:ZQ}{xs:List AV}{l:List Value}(G:Ql φ h w M xs l):∀n:Nat,Ql φ h w M (List.replicate n xs).flatten (List.replicate n l).flatten
|0=>by simp[Ql]
|n+1=>by simp only[List.replicate_succ,List.flatten_cons];exact ZI G (Uc G n)
theorem qz(r:ZG φ M0 N D T h a w){t:TypeId}{u:Kt}(ho:o.op=.buildSlice t len parts)(G:Gs P T h o.dst t len parts=some u):Yield P o φ M0 h a w u.1 (ap h u.2.1):=by
 unfold Gs at G;split at G;rotate_left
 ·cases G
 rename_i e d ps ht au ao;split at G;rotate_left
 ·cases G
 rename_i i hi;split at G;rotate_left
 ·cases G
 rename_i z hz hd;split at G;rotate_left
 ·cases G
 rename_i zs aq;split at G;rotate_left
 ·cases G
 rename_i ae;split at G;rotate_left
 ·cases G
 rename_i rs al;split at G;rotate_left
 ·cases G
 rename_i pvs ad;split at G;rotate_left
 ·cases G
 rename_i Y;simp only[Zf] at G;subst G;simp only[ap];refine Yield.of_lift r 1 fun φ r E0 X0 hC=>?_
 obtain⟨h1,h2⟩:=DN r ao;obtain⟨h3,_,_⟩:=Wt aq (Jr (φ:=φ) (h:=h) (w:=w) (M:=MM φ h M0) z);have av:=Z5 h3;have an:z.cells.toList.length=i.size:=by omega
 have Z:Ql φ h w (MM φ h M0) (List.replicate len zs).flatten (((Array.range (len*i.size)).map (z.cells[·%z.cells.size]!)).toList):=by
  have e1:((Array.range (len*i.size)).map (z.cells[·%z.cells.size]!)).toList=(List.replicate len z.cells.toList).flatten:=by
   have:=Bj z.cells.toList i.size an ae.2.1 len;simp only[Array.toArray_toList] at this;rw[←this];simp[Array.toList_range]
  rw[e1];exact Uc h3 len
 obtain⟨c',h4,h5⟩:=ND (placeC:=fun k=>some (k*i.size,i.size)) (fun k x hx=>hx) ps _ _ _ rs h1 h2 Z al;have aw:=Z5 h5;obtain⟨ar,ab,aa⟩:=LC.1 ad;have O:=q9 ab h5;have O:=za (ss:=(List.replicate len (bY P 5 e)).flatten) O.1 O.2;rw[aa] at O;obtain⟨h6,h7⟩:=O;have U:c'.size=len*i.size:=by simp at h6;omega
 have ah:=Tz Y.2 h5;obtain⟨g1,g2,g3⟩:=IA len pvs Y.1
 let w':World:=w.alloc (.cells c' e)
 obtain⟨E,X⟩:=XX (w:=w) (w':=w') (o:=.cells c' e) (b:=d) (k:=.arr e i.size len) (φ:=φ) (h:=h) (M0:=M0) rfl rfl rfl rfl hd r.hp hC;have J:w'.heap[w.heap.size]?=some (.cells c' e (0,0)):=by show(w.heap.push _)[w.heap.size]?=_;simp
 have af:len≤maxLen:=by
  have:len*1≤len*i.size:=Nat.mul_le_mul_left _ ae.2.1;unfold maxLen;omega
 have hH:Z9 (QM φ d w.heap.size) (upd h d (.arr e i.size len)) w' M0:=XY rfl hd r.hp hC E X (.inr ⟨c',len,J,U,Yf _,af⟩);refine⟨_,.slice (some ⟨w.heap.size,0,none⟩) len len,w',QM φ d w.heap.size,?_,.inl rfl,?_,hH,E,X⟩
 ·have hq:(parts.map fun(x:Nat×Operand)=>(x.1,a.eval x.2)).toList=parts.toList.map fun(x:Nat×Operand)=>(x.1,a.eval x.2):=by simp
  have ai:¬(len*i.size>2 ^ 24):=by omega
  by_cases h0:len*i.size=0
  ·have ak:len=0:=by
    rcases Nat.mul_eq_zero.1 h0 with x|x
    ·exact x
    ·omega
   subst ak;have e0:(Array.range (0*i.size)).map (z.cells[·%z.cells.size]!)=#[]:=by apply Array.ext';simp
   have e2:(Array.range 0).map (fun _=>(default:Value))=#[]:=by apply Array.ext';simp
   rw[e0] at h4;have aj:Instr.fill (fun k=>some (k*i.size,i.size)) #[] (parts.toList.map fun(x:Nat×Operand)=>(x.1,a.eval x.2))=some c':=h4;simp only[execOp,ho,Instr.buildSlice,Sem.run_bind,run_underlying ht,Zi hi,Result.andThen_ok,hq,h0,if_true,Sem.run_pure];simp[newRow,newObj,Sem.run,w',e2,aj]
  ·simp only[execOp,ho,Instr.buildSlice,Sem.run_bind,run_underlying ht,Zi hi,Result.andThen_ok,ai,if_false,h0,hq,zeroValue,typeInfo,program,Sem.run,hi,hz,Sem.run_pure,h4];simp[newRow,newObj,Sem.run,w']
 ·have ac:∀x,x<len*i.size→¬MM (QM φ d w.heap.size) (upd h d (.arr e i.size len)) M0 w.heap.size x:=fun x hx =>
   NH (φ:=φ) (h:=h) r.hp hC (d:=d) (ty:=e) (S:=i.size) (n:=len) (by simp[upd]) (by simp[QM]) (fun b k hb hk=>⟨by simpa [upd,Ne.symm hb] using hk,by simp[QM,Ne.symm hb]⟩) hx
  simp only[Qg,Q6];refine⟨.inl ⟨w.heap.size,0,len,by rw[g2],by omega,?_⟩,e,len,by simp[upd],by omega,fun _=>.inr ⟨len,c',by simp[QM],by simpa [QM] using J,U,Yf _,af⟩⟩;rw[WX,g1];refine⟨g3,RY (l:=c'.toList) h6.symm ?_ ?_ ah ?_⟩
  ·intro j v hj;rw[Yt J];simpa using hj
  ·intro j hj;simp only[Nat.zero_add];exact ac j (by simp at hj;omega)
  ·intro j c v hj hv;exact(Yg (E.keeps M0)).1 _ _ (h7 j c v hj hv)
def WR(T:Nat→Option AV)(G:Nat):Option Operand→Option Nat
|none=>some G
|some x=>match Zo T x with|some (.p (.val (.int _ n)))=>if 0≤n then some n.toNat else none|_=>none
def Hq(P:Program)(T:Nat→Option AV)(t:TypeId)(x:Operand)(lo hi J:Option Operand):Option Kt :=
 match P.underlying t,Zo T x with
|some (.slice e),some v =>
  match elems v,P.info? e with
 |some (S,es),some i =>
   match WR T 0 lo,WR T es.length hi with
  |some l,some G =>
    if S=i.size∧l≤G∧G≤es.length then
     match J with
    |none=>some (.p (.sl S ((es.take G).drop l)),none,[])
    |some _=>match hi,WR T es.length J with|some _,some m=>if G≤m∧m≤es.length then some (.p (.sl S ((es.take G).drop l)),none,[]) else none|_,_=>none
    else none
  |_,_=>none
 |_,_=>none
|_,_=>none
theorem Hr(r:ZG φ M0 N D T h a w){J:Nat}(G:WR T J (some x)=some n):∃k,a.eval x=.int k n:=by
 simp only[WR] at G;split at G
 ·rename_i k m O;split at G
  ·rename_i U;simp only[Zf] at G;have:=r.ev O;simp only[Qg,Q6] at this;exact⟨k,by rw[this];congr 1;omega⟩
  ·cases G
 ·cases G
theorem run_sliceBound{x:Value}{k:IntKind}{y:Nat}{code:BoundsCode}(G:x=.int k n)(J:n≤y):(Instr.sliceBound x y code).run P w=.ok n w:=by
 subst G;have:(0:Int)≤(n:Int)∧(n:Int)≤(y:Int):=⟨by omega,by omega⟩;simp[Instr.sliceBound,asIntOf,this]
theorem kI{S U Y cap l G m:Nat}{es:List (List PV)}(O:Jn w M S U Y es)(h1:l≤G)(h2:G≤es.length)(h3:G≤m) :
  Q6 w M (.sl S ((es.take G).drop l)) (.slice (if m=l then some ⟨U,Y,none⟩ else some ⟨U,Y+l*S,none⟩) (G-l) (m-l)):=by
 have J:((es.take G).drop l).length=G-l:=by simp;omega
 simp only[Q6];by_cases he:G=l
 ·right;refine⟨List.eq_nil_of_length_eq_zero (by rw[J];omega),(if m=l then some ⟨U,Y,none⟩ else some ⟨U,Y+l*S,none⟩),m-l,?_⟩;have e0:G-l=0:=by omega
  rw[e0]
 ·left;have hne:¬m=l:=by omega
  refine⟨U,Y+l*S,m-l,by simp[hne,J],by omega,?_⟩
  have e1:es=(es.take G).take l++((es.take G).drop l++es.drop G):=by
   rw[←List.append_assoc,List.take_append_drop,List.take_append_drop]
  rw[e1,Xu] at O;have Z:((es.take G).take l).length=l:=by simp;omega
  rw[Z] at O;have:=O.2;rw[Xu] at this;exact this.1
theorem bZ(r:ZG φ M0 N D T h a w){t:TypeId}{mx:Option Operand}{u:Kt}(ho:o.op=.slice t x lo hi mx)(G:Hq P T t x lo hi mx=some u):u.2.1=none∧Yield P o φ M0 h a w u.1 h:=by
 unfold Hq at G;split at G;rotate_left
 ·cases G
 rename_i e v ht hx;split at G;rotate_left
 ·cases G
 rename_i S es i ai ac;split at G;rotate_left
 ·cases G
 rename_i l O hl Y;split at G;rotate_left
 ·cases G
 rename_i hc;obtain⟨rfl,Z,ad⟩:=hc;have h2:=Bh ai (r.ev hx)
 have U:∃(q:Option Addr) (cap:Nat),a.eval x=.slice q es.length cap∧es.length≤cap∧(es=[]∨∃rr oo,q=some ⟨rr,oo,none⟩∧Jn w (MM φ h M0) i.size rr oo es):=by
  simp only[Q6] at h2;rcases h2 with⟨rr,oo,cap,g1,g2,g3⟩|⟨rfl,q,cap,g1⟩
  ·exact⟨_,cap,g1,g2,.inr ⟨rr,oo,rfl,g3⟩⟩
  ·exact⟨q,cap,g1,Nat.zero_le _,.inl rfl⟩
 obtain⟨q,cap,hv,ak,aj⟩:=U;have al:∀y,O≤y→True:=fun _ _=>trivial
 have J:∀(code:BoundsCode),(match lo.map a.eval with|some v=>Instr.sliceBound v O code|none=>pure 0).run P w=.ok l w:=by
  intro code;cases lo with
 |none=>simp only[WR,Zf] at hl;subst hl;rfl
 |some y=>obtain⟨k,hk⟩:=Hr r hl;exact run_sliceBound hk Z
 have fin:∀m,O≤m→Qg φ h w (MM φ h M0) (.p (.sl i.size ((es.take O).drop l))) (.slice (if m=l then q else q.map (·.add (l*i.size))) (O-l) (m-l)):=by
  intro m hm;simp only[Qg];rcases aj with rfl|⟨rr,oo,rfl,g3⟩
  ·have:O=0:=by simpa using ad
   subst this;have ae:l=0:=by omega
   subst ae;simp only[Q6];exact .inr ⟨by simp,(if m=0 then q else q.map (·.add (0*i.size))),m,by simp⟩
  ·have:=kI (m:=m) (cap:=cap) g3 Z ad hm;simpa [Addr.add_lit] using this
 split at G
 ·simp only[Zf] at G;subst G;refine⟨rfl,Qt r (v:=.slice (if cap=l then q else q.map (·.add (l*i.size))) (O-l) (cap-l)) ?_ (fin cap zo)⟩
  have hb:(Instr.sliceBounds true es.length cap (lo.map a.eval) (hi.map a.eval) none).run P w=.ok (l,O,cap) w:=by
   cases hi with
  |none =>
    simp only[WR,Zf] at Y;subst Y;have:=J .sliceB;cases lo with
   |none=>simp[Instr.sliceBounds] at this ⊢;exact this
   |some y=>simp[Instr.sliceBounds] at this ⊢;simp[this]
  |some y =>
    obtain⟨k,hk⟩:=Hr r Y;have ab:=run_sliceBound (P:=P) (w:=w) (code:=.sliceAcap) hk (show O≤cap by omega);have:=J .sliceB;cases lo with
   |none=>simp[Instr.sliceBounds,ab] at this ⊢;exact this
   |some y=>simp[Instr.sliceBounds,ab] at this ⊢;simp[this]
  simp[execOp,ho,Instr.sliceAt,Instr.slice,run_underlying ht,hv,hb,Zi ac]
 ·rename_i y;split at G;rotate_left
  ·cases G
  rename_i yh m hm;split at G;rotate_left
  ·cases G
  rename_i aa;simp only[Zf] at G;subst G;refine⟨rfl,Qt r (v:=.slice (if m=l then q else q.map (·.add (l*i.size))) (O-l) (m-l)) ?_ (fin m aa.1)⟩;obtain⟨k1,af⟩:=Hr r hm;obtain⟨k2,ah⟩:=Hr r Y
  have hb:(Instr.sliceBounds true es.length cap (lo.map a.eval) (some (a.eval yh)) (some (a.eval y))).run P w=.ok (l,O,m) w:=by
   have b1:=run_sliceBound (P:=P) (w:=w) (code:=.slice3Acap) af (show m≤cap by omega);have b2:=run_sliceBound (P:=P) (w:=w) (code:=.slice3B) ah aa.1;have:=J .slice3C;cases lo with
  |none=>simp[Instr.sliceBounds,b1,b2] at this ⊢;exact this
  |some y=>simp[Instr.sliceBounds,b1,b2] at this ⊢;simp[this]
  simp[execOp,ho,Instr.sliceAt,Instr.slice,run_underlying ht,hv,hb,Zi ac]
end
section
variable {P:Program}{o:Oper}{φ:Nat→Nat}{M0:ZQ}{N:Nat}{D:DB}{T:Nat→Option AV}{h:QY}{a:Act}{w:World}
theorem DU{S:Nat}:∀{es:List (List PV)} {k:Nat} {e:List PV} {f:Nat},(∀e∈es,e.length=S)→es[k]?=some e→f<S→es.flatten[k*S+f]?=e[f]?
|[],_,_,_,_,G,_=>by simp at G
|O::es,0,e,f,J,G,hf=>by
  simp only[List.getElem?_cons_zero,Zf] at G;subst G;have:=J O zq;simp only[Nat.zero_mul,Nat.zero_add,List.flatten_cons];rw[List.getElem?_append_left zo]
|O::es,k+1,e,f,J,G,hf=>by
  have h0:=J O zq;simp only[List.getElem?_cons_succ] at G;have:=DU (f:=f) (fun e U=>J e (by simp[U])) G hf;rw[List.flatten_cons,List.getElem?_append_right (by rw[h0,Nat.add_mul];omega),h0,Nat.add_mul,show k*S+1*S+f-S=k*S+f from by omega];exact this
theorem SA{S:Nat}:∀{es:List (List PV)} {k:Nat} {e J:List PV},(∀e∈es,e.length=S)→es[k]?=some e→J.length=S→(es.set k J).flatten=es.flatten.take (k*S)++J++es.flatten.drop (k*S+S)
|[],_,_,_,_,G,_=>by simp at G
|U::es,0,e,J,O,G,hf=>by
  have h0:=O U zq;simp only[List.set_cons_zero,List.flatten_cons,Nat.zero_mul,Nat.zero_add,List.take_zero,List.nil_append];rw[←h0,List.drop_left]
|U::es,k+1,e,J,O,G,hf=>by
  have h0:=O U zq;simp only[List.getElem?_cons_succ] at G;have:=SA (fun e Y=>O e (by simp[Y])) G hf;simp only[List.set_cons_succ,List.flatten_cons,this];have Z:(k+1)*S=U.length+k*S:=by rw[h0,Nat.add_mul];omega
  rw[Z,List.take_length_add_append,Nat.add_assoc,List.drop_length_add_append];simp[List.append_assoc]
theorem DV{t:Nat}{S:Nat}{es es':List (List PV)}{c:Array Value}(Y:h t=some (.vec ty S es))(hw:w.heap[φ t]?=some (.cells c ty (0,0)))(hn:es.length≤es'.length)(aj:c'.size=c.size)(r:Z9 φ h w M0):Zl φ h w φ (upd h t (.vec ty S es')) (w.setRow (φ t) c')∧VQ φ h w φ (upd h t (.vec ty S es')) (w.setRow (φ t) c'):=by
 have G:∀x,x≠φ t→(w.setRow (φ t) c').heap[x]?=w.heap[x]?:=fun x hx=>setRow_other w _ x c' hx
 have ad:(w.setRow (φ t) c').heap[φ t]?=some (.cells c' ty (0,0)):=setRow_heap w _ c c' ty _ hw;have hb:∀b ty cs,h b=some (.box ty cs)→t≠b:=fun b ty cs hb e=>by rw[←e,Y] at hb;cases hb
 have ac:∀t2 Wj U n2,h t2=some (.arr Wj U n2)→∃n3,upd h t (.vec ty S es') t2=some (.arr Wj U n3)∧n2≤n3 ∧
   (n3=n2→AKept w (w.setRow (φ t) c') (φ t2) (φ t2) Wj):=by
  intro t2 Wj U n2 J;have e:¬t=t2:=fun e=>by rw[←e,Y] at J;cases J
  have hne:φ t2≠φ t:=fun e2=>e (r.inj t2 t (by rw[J];simp) (by rw[Y];simp) e2).symm
  exact⟨n2,by simp[upd,e,J],Yf _,fun _=>VN (rfl) (by rw[G _ hne])⟩
 have ab:∀t2 Wj U O,h t2=some (.vec Wj U O)→∃ae,upd h t (.vec ty S es') t2=some (.vec Wj U ae)∧O.length≤ae.length ∧
   (ae.length=O.length→φ t2=φ t2∧∀c0,w.heap[φ t2]?=some (.cells c0 Wj (0,0))→∃c1,(w.setRow (φ t) c').heap[φ t2]?=some (.cells c1 Wj (0,0))∧c1.size=c0.size):=by
  intro t2 Wj U n2 J;by_cases e:t=t2
  ·subst e;rw[Y] at J;cases J;refine⟨es',by simp[upd],hn,fun _=>⟨rfl,fun c0 aa=>⟨c',ad,?_⟩⟩⟩;rw[hw] at aa;cases aa;exact aj
  ·have hne:φ t2≠φ t:=fun e2=>e (r.inj t2 t (by rw[J];simp) (by rw[Y];simp) e2).symm
   exact⟨n2,by simp[upd,e,J],Yf _,fun _=>⟨rfl,fun c0 aa=>⟨c0,by rw[G _ hne];exact aa,rfl⟩⟩⟩
 have ah:∀d k x,h d=some k→k.ob=some x→(∃k',upd h t (.vec ty S es') d=some k'∧k'.ob=some x)∧φ d=φ d:=by
  intro d k x Z ho;have e:¬t=d:=fun e=>by rw[←e,Y] at Z;cases Z;cases ho
  exact⟨⟨k,by simp[upd,e,Z],ho⟩,rfl⟩
 refine⟨⟨rfl,rfl,rfl,by simp,?_,?_,?_,?_,fun t2 Wj U O _ J=>ac t2 Wj U O J,fun t2 Wj U O _ J=>ab t2 Wj U O J,fun d k x _=>ah d k x⟩,?_,ac,ab,ah⟩
 ·intro x _ ai;exact G x (fun e=>ai t (by rw[Y];simp) e.symm)
 ·intro x o _ hm;have e:x≠φ t:=fun e=>hm ⟨t,_,Y,e.symm,trivial⟩
  simp[World.cell?,G x e]
 ·rintro x y _ ⟨d,q,h1,J,h3⟩;by_cases e:t=d
  ·subst e;exact⟨t,_,Y,J,trivial⟩
  ·exact⟨d,q,by simpa [upd,e] using h1,J,h3⟩
 ·intro d af ds _ Z;exact⟨⟨ds,by simp[upd,hb d _ _ Z,Z]⟩,rfl⟩
 ·intro d af ds Z;exact⟨⟨af,ds,by simp[upd,hb d _ _ Z,Z]⟩,rfl⟩
theorem NI{t:Nat}{S:Nat}{es es':List (List PV)}{cap:Nat}(ht:h t=some (.vec ty S es))(r:Z9 φ h w M0)(E:Zl φ h w φ' (upd h t (.vec ty S es')) w')(X:VQ φ h w φ' (upd h t (.vec ty S es')) w')(J:∀b,b≠t→φ' b=φ b)(U:φ' t=φ t∨φ' t=w.heap.size∧Clear φ h w 1)(aa:∀d,h d≠none→d≠t→w'.heap[φ d]?=w.heap[φ d]?)(af:w'.heap[φ' t]?=some (.cells c' ty (0,0)))(ae:c'.size=cap*S)(ab:es'.length≤cap)(ac:cap≤maxLen)(hS:∀e∈es',e.length=S)(ah:∀v∈c'.toList,v.oneCell'=true)(ad:Ql φ h w (MM φ h M0) (es'.flatten.map .p) (c'.toList.take (es'.length*S))):Z9 φ' (upd h t (.vec ty S es')) w' M0:=by
 have g:∀d,upd h t (.vec ty S es') d≠none→h d≠none:=fun d O=>by
  by_cases e:t=d
  ·rw[←e,ht];simp
  ·simpa [upd,e] using O
 refine⟨?_,?_,?_,fun x y hx=>Nat.lt_of_lt_of_le (r.lt x y hx) E.size,r.gm.evol E⟩
 ·intro d e O he G;by_cases e1:d=t<;>by_cases Y:e=t
  ·rw[e1,Y]
  ·rw[e1,J e Y] at G;rcases U with Z|⟨Z,hC⟩
   ·rw[Z] at G;rw[e1];exact r.inj t e (by rw[ht];simp) (g e he) G
   ·rcases hC e (g e he) with h4|h4<;>omega
  ·rw[Y,J d e1] at G;rcases U with Z|⟨Z,hC⟩
   ·rw[Z] at G;rw[Y];exact r.inj d t (g d O) (by rw[ht];simp) G
   ·rcases hC d (g d O) with h4|h4<;>omega
  ·rw[J d e1,J e Y] at G;exact r.inj d e (g d O) (g e he) G
 ·intro d q O;by_cases e:t=d
  ·subst e;have:q=.vec ty S es':=by simpa [upd] using O.symm
   subst this;exact⟨c',cap,af,ae,ab,ac,hS,ah,(QZ (E.keeps M0) X).2 _ _ ad⟩
  ·have h1:h d=some q:=by simpa [upd,e] using O
   rw[J d (fun Y=>e Y.symm)];exact Ku (E.keeps M0) X (aa d (by rw[h1];simp) (fun Y=>e Y.symm)) (r.blk d q h1)
 ·intro d O o hm;by_cases e:d=t
  ·subst e;rcases U with Z|⟨Z,_⟩
   ·rw[Z] at hm;exact r.fr d (g d O) o hm
   ·rw[Z] at hm;exact absurd (r.lt _ _ hm) zo
  ·rw[J d e] at hm;exact r.fr d (g d O) o hm
theorem kJ{ob:Obj}{t:Nat}{S:Nat}{es es':List (List PV)}(ht:h t=some (.vec ty S es))(hn:es.length<es'.length)(hh:w'.heap=w.heap.push ob)(ho:w'.os=w.os)(ae:w'.tape=w.tape)(hu:w'.output=w.output)(r:Z9 φ h w M0)(hC:Clear φ h w 1) :
  Zl φ h w (QM φ t w.heap.size) (upd h t (.vec ty S es')) w'∧VQ φ h w (QM φ t w.heap.size) (upd h t (.vec ty S es')) w':=by
 have J:∀x,x<w.heap.size→w'.heap[x]?=w.heap[x]?:=fun x hx=>by rw[hh,Array.getElem?_push,if_neg zo]
 have hb:∀b ty cs,h b=some (.box ty cs)→¬t=b:=fun b ty cs hb e=>by rw[←e,ht] at hb;cases hb
 have Z:∀t2 Wj O U,h t2=some (.vec Wj O U)→∃n3,upd h t (.vec ty S es') t2=some (.vec Wj O n3)∧U.length≤n3.length ∧
   (n3.length=U.length→QM φ t w.heap.size t2=φ t2∧∀c0,w.heap[φ t2]?=some (.cells c0 Wj (0,0))→∃c1,w'.heap[φ t2]?=some (.cells c1 Wj (0,0))∧c1.size=c0.size):=by
  intro t2 Wj O U G;by_cases e:t=t2
  ·subst e;rw[ht] at G;cases G;exact⟨es',by simp[upd],by omega,fun e=>absurd e zo⟩
  ·exact⟨U,by simp[upd,e,G],Yf _,fun _=>⟨by simp[QM,e],fun c0 af=>⟨c0,by rw[hC.lt r (by rw[hh];simp) J (by rw[G];simp)];exact af,rfl⟩⟩⟩
 have aa:∀t2 Wj O U,h t2=some (.arr Wj O U)→∃n3,upd h t (.vec ty S es') t2=some (.arr Wj O n3)∧U≤n3 ∧
   (n3=U→AKept w w' (φ t2) (QM φ t w.heap.size t2) Wj):=by
  intro t2 Wj O U G;have e:¬t=t2:=fun e=>by rw[←e,ht] at G;cases G
  exact⟨U,by simp[upd,e,G],Yf _,fun _=>VN (by simp[QM,e]) (by rw[hC.lt r (by rw[hh];simp) J (by rw[G];simp)])⟩
 have ad:∀d k x,h d=some k→k.ob=some x→(∃k',upd h t (.vec ty S es') d=some k'∧k'.ob=some x)∧QM φ t w.heap.size d=φ d:=by
  intro d k x Y ho;have e:¬t=d:=fun e=>by rw[←e,ht] at Y;cases Y;cases ho
  exact⟨⟨k,by simp[upd,e,Y],ho⟩,by simp[QM,e]⟩
 refine⟨⟨ho,ae,hu,by rw[hh];simp,fun x hx _=>J x hx,fun x o hx _=>by simp[World.cell?,J x hx],?_,?_,fun t2 Wj O ab _ G=>aa t2 Wj O ab G,fun t2 Wj O ab _ G=>Z t2 Wj O ab G,fun d k x _=>ad d k x⟩,?_,aa,Z,ad⟩
 ·rintro x y hx ⟨d,q,h1,G,h3⟩;by_cases e:t=d
  ·simp only[QM,e,if_true] at G;omega
  ·exact⟨d,q,by simpa [upd,e] using h1,by simpa [QM,e] using G,h3⟩
 ·intro d ac ds _ Y;have:=hb d _ _ Y;exact⟨⟨ds,by simp[upd,this,Y]⟩,by simp[QM,this]⟩
 ·intro d ac ds Y;have:=hb d _ _ Y;exact⟨⟨ac,ds,by simp[upd,this,Y]⟩,by simp[QM,this]⟩
end
section
variable {P:Program}{o:Oper}{φ:Nat→Nat}{M0:ZQ}{N:Nat}{D:DB}{T:Nat→Option AV}{h:QY}{a:Act}{w:World}
def Jt(P:Program)(T:Nat→Option AV)(h:QY)(t:TypeId)(x ix:Operand):Option Kt :=
 match P.underlying t,Zo T x,Zo T ix with
|some (.slice e),some (.vsl S tk n),some (.p (.val (.int _ k))) =>
  match h tk,P.info? e with
 |some (.vec _ _ es),some i=>if n=es.length∧S=i.size∧0≤k∧k.toNat<n then some (.vptr tk n k.toNat 0,none,[tk]) else none
 |_,_=>none
|some (.array len e),some (.vptr tk n k0 f),some (.p (.val (.int _ k))) =>
  match h tk,P.info? e with
 |some (.vec _ _ es),some i=>if n=es.length∧0≤k∧k<len then some (.vptr tk n k0 (f+k.toNat*i.size),none,[tk]) else none
 |_,_=>none
|_,_,_=>none
theorem qA(r:ZG φ M0 N D T h a w){t:TypeId}{u:Kt}(ho:o.op=.indexAddr t x ix)(G:Jt P T h t x ix=some u):u.2.1=none∧Yield P o φ M0 h a w u.1 h:=by
 unfold Jt at G;split at G
 ·rename_i e S tk n kk k ht hx U;split at G
  ·rename_i ty S' es i hb hi;split at G
   ·rename_i hc;simp only[Zf] at G;subst G;have Z:=r.ev hx;have J:=r.ev U;simp only[Qg,Q6] at Z J;obtain⟨_,Wj,ab,O,ac,Y⟩:=Z;rw[hb] at O;cases O;obtain⟨cap,c,Y,_⟩:=Y hc.1;refine⟨rfl,Qt r (v:=.pointer (some ⟨φ tk,k.toNat*i.size,none⟩)) ?_ ?_⟩
    ·have aa:0≤k∧k<(n:Int):=⟨hc.2.2.1,by omega⟩;simp[execOp,ho,Instr.indexAt,J,asIntOf,run_underlying ht,Y,aa,Zi hi,Addr.add_lit]
    ·simp only[Qg];exact⟨rfl,ty,S,es,hb,by omega,fun _=>by rw[hc.2.1];rfl⟩
   ·cases G
  ·cases G
 ·rename_i len e tk n k0 f kk k ht hx U;split at G
  ·rename_i ty S' es i hb hi;split at G
   ·rename_i hc;simp only[Zf] at G;subst G;have Z:=r.ev hx;have J:=r.ev U;simp only[Qg,Q6] at Z J;obtain⟨_,Wj,S2,ab,O,ac,Y⟩:=Z;rw[hb] at O;cases O;have Y:=Y hc.1;refine⟨rfl,Qt r (v:=.pointer (some ⟨φ tk,k0*S'+(f+k.toNat*i.size),none⟩)) ?_ ?_⟩
    ·simp[execOp,ho,Instr.indexAt,J,asIntOf,run_underlying ht,Y,Instr.sureAddr,hc.2.1,hc.2.2,Zi hi,Addr.add_lit,Nat.add_assoc]
    ·simp only[Qg];exact⟨rfl,ty,S',es,hb,by omega,fun _=>rfl⟩
   ·cases G
  ·cases G
 ·cases G
def Uo(P:Program)(T:Nat→Option AV)(h:QY)(s:TypeId)(x:Operand)(f:Nat):Option Kt :=
 match P.underlying s,Zo T x with
|some (.struct fields),some (.vptr tk n k g) =>
  match fields[f]?,h tk with
 |some G,some (.vec _ _ es) =>
   match P.info? G.type with
  |some i=>if i.size=0 then none else if n=es.length then some (.vptr tk n k (g+G.offset),none,[tk]) else none
  |none=>none
 |_,_=>none
|_,_=>none
theorem qB(r:ZG φ M0 N D T h a w){s:TypeId}{f:Nat}{u:Kt}(Z:o.op=.fieldAddr s x f)(G:Uo P T h s x f=some u):u.2.1=none∧Yield P o φ M0 h a w u.1 h:=by
 unfold Uo at G;split at G
 ·rename_i fields tk n k g hs hx;split at G
  ·rename_i fl ty S es hf hb;split at G
   ·rename_i i hi;split at G
    ·cases G
    ·rename_i O;split at G
     ·rename_i hn;simp only[Zf] at G;subst G;have Y:=r.ev hx;simp only[Qg] at Y;obtain⟨_,Wj,S2,aa,J,ab,U⟩:=Y;rw[hb] at J;cases J;have U:=U hn;refine⟨rfl,Qt r (v:=.pointer (some ⟨φ tk,k*S+(g+fl.offset),none⟩)) ?_ ?_⟩
      ·simp[execOp,Z,Instr.fieldAt,run_underlying hs,hf,U,Instr.sureAddr,fieldPlace,Zi hi,O,Addr.add_lit,Nat.add_assoc]
      ·simp only[Qg];exact⟨rfl,ty,S,es,hb,by omega,fun _=>rfl⟩
     ·cases G
   ·cases G
  ·cases G
 ·cases G
def SB(P:Program)(T:Nat→Option AV)(h:QY)(ty:TypeId)(x:Operand):Option Kt :=
 match P.underlying ty,P.info? ty,Zo T x with
|some d,some i,some (.vptr tk n k f) =>
  match h tk with
 |some (.vec _ _ es) =>
   if n=es.length then
    match es[k]? with
   |some e =>
     if G6 d then(if f+i.size≤e.length then some (.agg (((e.drop f).take i.size).map .p),none,[tk]) else none)
     else match e[f]? with|some c=>some (.p c,none,[tk])|none=>none
   |none=>none
   else none
 |_=>none
|_,_,_=>none
theorem dA(r:ZG φ M0 N D T h a w){u:Kt}(ho:o.op=.load ty x)(G:SB P T h ty x=some u):u.2.1=none∧Yield P o φ M0 h a w u.1 h:=by
 unfold SB at G;split at G
 ·rename_i d i tk n k f hd hi hx;split at G
  ·rename_i tb S es hb;split at G
   ·rename_i hn;split at G
    ·rename_i e hk;have h2:=r.ev hx;simp only[Qg] at h2;obtain⟨_,Wj,S2,aj,ad,ak,hv⟩:=h2;rw[hb] at ad;cases ad;have hv:=hv hn;obtain⟨c,cap,hw,ai,af,ah,hS,al,ac⟩:=r.hp.blk tk _ hb;have ae:e.length=S:=hS e (List.mem_of_getElem? hk)
     have J:∀f c0,e[f]?=some c0→∃v,w.cell? ⟨φ tk,k*S+f,none⟩=some v∧Qg φ h w (MM φ h M0) (.p c0) v:=by
      intro f c0 O;have hf:f<S:=by rw[←ae];exact(MG.1 O).1
      have Z:=DU hS hk hf;rw[O] at Z;obtain⟨v,U,h5⟩:=Hf ac (i:=k*S+f) (x:=.p c0) (by rw[List.getElem?_map,Z];rfl);refine⟨v,?_,h5⟩;rw[Yt hw];rw[List.getElem?_take] at U;split at U
      ·simpa using U
      ·cases U
     split at G
     ·rename_i Y;split at G
      ·rename_i ab;simp only[Zf] at G;subst G
       have aa:∀(m:Nat) (g:Nat),g+m≤e.length→∃l:List Value,l.length=m∧(∀j v,l[j]?=some v→w.cell? ⟨φ tk,k*S+g+j,none⟩=some v)∧Ql φ h w (MM φ h M0) (((e.drop g).take m).map .p) l:=by
        intro m
        induction m with
       |zero=>intro g _;exact⟨[],rfl,by simp,by simp[Ql]⟩
       |succ m ih =>
         intro g hg;have hlt:g<e.length:=by omega
         obtain⟨v,Z,U⟩:=J g e[g] (List.getElem?_eq_getElem hlt);obtain⟨l,q1,q2,q3⟩:=ih (g+1) zo;refine⟨v::l,by simp[q1],fun j u hj=>?_,?_⟩
         ·cases j with
         |zero=>simp at hj;subst hj;simpa using Z
         |succ j=>have:=q2 j u (by simpa using hj);rwa [show k*S+(g+1)+j=k*S+g+(j+1) from by omega] at this
         ·rw[List.drop_eq_getElem_cons hlt];simp only[List.take_succ_cons,U8,Ql];exact⟨v,l,rfl,U,q3⟩
       obtain⟨l,q1,q2,q3⟩:=aa i.size f ab;refine⟨rfl,Qt r (v:=.agg l.toArray) ?_ (by simp only[Qg];exact⟨l,rfl,q3⟩)⟩;have:=DK (w:=w) (r:=φ tk) (off:=k*S+f) hd hi Y l q1 q2;simp[execOp,ho,Instr.loadAt,hv,Instr.sureAddr,this]
      ·cases G
     ·rename_i Y;split at G
      ·rename_i c0 O;simp only[Zf] at G;subst G;obtain⟨v,Z,U⟩:=J f c0 O;refine⟨rfl,Qt r (v:=v) ?_ U⟩;have:=DL (P:=P) (w:=w) (r:=φ tk) (off:=k*S+f) hd (by simpa using Y) Z;simp[execOp,ho,Instr.loadAt,hv,Instr.sureAddr,this]
      ·cases G
    ·cases G
   ·cases G
  ·cases G
 ·cases G
def DW(P:Program)(T:Nat→Option AV)(h:QY)(ty:TypeId)(x y:Operand):Option Kt :=
 match P.info? ty,Zo T x,Zo T y with
|some i,some (.vptr tk n k f),some v =>
  match h tk,cellsOf v with
 |some (.vec tb S es),some G =>
   match LM G,es[k]? with
  |some ps,some e=>if n=es.length∧G.length=i.size∧f+ps.length≤e.length then some (.p (.val undef),some (tk,.vec tb S (es.set k (e.take f++ps++e.drop (f+ps.length)))),[tk]) else none
  |_,_=>none
 |_,_=>none
|_,_,_=>none
theorem Qdg(A B C:List α)(j:Nat):(A++B++C)[j]?=if j<A.length then A[j]? else if j-A.length<B.length then B[j-A.length]? else C[j-A.length-B.length]?:=by
 rw[List.append_assoc];by_cases J:j<A.length
 ·rw[if_pos J,List.getElem?_append_left J]
 ·rw[if_neg J,List.getElem?_append_right zo];by_cases G:j-A.length<B.length
  ·rw[if_pos G,List.getElem?_append_left G]
  ·rw[if_neg G,List.getElem?_append_right zo]
theorem DX{M:ZQ}:∀{xs:List AV} {ys:List PV} {l:List Value},LM xs=some ys→Ql φ h w M xs l→Ql φ h w M (ys.map .p) l
|[],ys,l,G,J=>by simp only[LM,Zf] at G;subst G;simpa [Ql] using J
|x::xs,ys,l,G,J=>by
  simp only[LM] at G;split at G
  ·rename_i y O Y h2;simp only[Zf] at G;subst G;simp only[Ql] at J;obtain⟨v,vs,rfl,Z,U⟩:=J;simp only[U8,Ql];refine⟨v,vs,rfl,?_,DX h2 U⟩;simp only[Qg];exact vP Y Z
  ·cases G
theorem mZ(r:ZG φ M0 N D T h a w){u:Kt}(ho:o.op=.store ty x y)(O:DW P T h ty x y=some u):Yield P o φ M0 h a w u.1 (ap h u.2.1):=by
 unfold DW at O;split at O
 ·rename_i i tk n k f v hi hx hy;have h2:=r.ev hx;have h3:=r.ev hy;simp only[Qg] at h2;split at O
  ·rename_i tb S es vs hb av;split at O
   ·rename_i ps e a6 hk;split at O
    ·rename_i hc;obtain⟨hn,a7,a8⟩:=hc;simp only[Zf] at O;subst O;obtain⟨_,Wj,S2,bd,an,be,J⟩:=h2;rw[hb] at an;cases an;have J:=J hn;obtain⟨c,cap,hw,ad,ab,aj,hS,al,aa⟩:=r.hp.blk tk _ hb;have bf:e.length=S:=hS e (List.mem_of_getElem? hk);obtain⟨h4,h5,h6⟩:=Wt av h3;have ar:=Z5 h4;have h7:=DX a6 h4;have ah:=Z5 h7;simp only[RS] at ah;have ai:k<es.length:=(MG.1 hk).1;have bc:k*S+S≤es.length*S:=by have:(k+1)*S≤es.length*S:=Nat.mul_le_mul_right _ ai;rw[Nat.add_mul] at this;omega
     have bb:es.length*S≤c.size:=by rw[ad];exact Nat.mul_le_mul_right _ ab
     have Z:k*S+f+(a.eval y).cells.toList.length≤c.size:=by omega
     have ak:=run_storeCells_at P (φ tk) (k*S+f) tb (a.eval y).cells.toList 0 c w hw (by simpa using Z) h5;simp only[Nat.add_zero] at ak;have hne:(e.take f++ps++e.drop (f+ps.length)).length=S:=by simp;omega
     have ay:=SA hS hk hne
     let C:Array Value:=(c.toList.take (k*S+f)++(a.eval y).cells.toList++c.toList.drop (k*S+f+(a.eval y).cells.toList.length)).toArray
     have ae:C.size=c.size:=by simp[C] at Z ⊢;omega
     have ba:=KA hS
     have aq:e=(es.flatten.drop (k*S)).take S:=by
      apply List.ext_getElem?;intro j;by_cases hj:j<S
      ·rw[List.getElem?_take,if_pos hj,List.getElem?_drop,DU hS hk hj]
      ·rw[List.getElem?_eq_none zo,List.getElem?_eq_none (by simp;omega)]
     have af:Ql φ h w (MM φ h M0) ((es.set k (e.take f++ps++e.drop (f+ps.length))).flatten.map .p) (C.toList.take ((es.set k (e.take f++ps++e.drop (f+ps.length))).length*S)):=by
      have e1:(es.set k (e.take f++ps++e.drop (f+ps.length))).flatten=es.flatten.take (k*S+f)++ps++es.flatten.drop (k*S+f+ps.length):=by
       rw[ay,aq];rw[List.take_take,Nat.min_eq_left zo,List.drop_take,List.drop_drop];have e2:es.flatten.take (k*S)++(es.flatten.drop (k*S)).take f=es.flatten.take (k*S+f):=by rw[List.take_add]
       have e3:(es.flatten.drop (k*S+(f+ps.length))).take (S-(f+ps.length))++es.flatten.drop (k*S+S)=es.flatten.drop (k*S+f+ps.length):=by
        have:=List.take_append_drop (S-(f+ps.length)) (es.flatten.drop (k*S+(f+ps.length)));rw[List.drop_drop] at this;rw[show k*S+(f+ps.length)+(S-(f+ps.length))=k*S+S from by omega] at this;rw[this,Nat.add_assoc]
       rw[←e2,←e3];simp[List.append_assoc]
      rw[e1,List.length_set]
      have e4:C.toList.take (es.length*S)=(c.toList.take (es.length*S)).take (k*S+f)++(a.eval y).cells.toList++(c.toList.take (es.length*S)).drop (k*S+f+(a.eval y).cells.toList.length):=by
       apply List.ext_getElem?;intro j;have aw:(c.toList.take (k*S+f)).length=k*S+f:=by simp;omega
       have Y:((c.toList.take (es.length*S)).take (k*S+f)).length=k*S+f:=by simp;omega
       rw[List.getElem?_take];have hB:(c.toList.take (es.length*S)).length=es.length*S:=by simp;omega
       by_cases hj:j<es.length*S
       ·rw[if_pos hj];simp only[C];rw[Qdg,Qdg,aw,Y];by_cases G:j<k*S+f
        ·rw[if_pos G,if_pos G,List.getElem?_take,if_pos G,List.getElem?_take,if_pos G,List.getElem?_take,if_pos hj]
        ·rw[if_neg G,if_neg G];by_cases U:j-(k*S+f)<(a.eval y).cells.toList.length
         ·rw[if_pos U,if_pos U]
         ·rw[if_neg U,if_neg U,List.getElem?_drop,List.getElem?_drop,List.getElem?_take,if_pos zo]
       ·rw[if_neg hj,List.getElem?_eq_none];rw[mR,mR,Y,zLD,hB];omega
      rw[e4];have az:ps.length=(a.eval y).cells.toList.length:=ah;simp only[List.map_append,List.map_take,List.map_drop];rw[←az];exact ZI (ZI (Ul _ aa) h7) (Um _ aa)
     obtain⟨E,X⟩:=DV (φ:=φ) (h:=h) (w:=w) (M0:=M0) (es':=es.set k (e.take f++ps++e.drop (f+ps.length))) (c':=C) hb hw zq ae r.hp;have ac:(w.setRow (φ tk) C).heap[φ tk]?=some (.cells C tb (0,0)):=setRow_heap w _ c C tb _ hw
     have hH:=NI (c':=C) (cap:=cap) hb r.hp E X (fun _ _=>rfl) (.inl rfl) (fun d hd au=>setRow_other w _ _ C (fun e=>au (r.hp.inj d tk hd (by rw[hb];simp) e))) ac (by rw[ae,ad]) (by simpa using ab) aj
      (fun e' ao=>by rcases List.mem_or_eq_of_mem_set ao with h8|h8;exact hS e' h8;rw[h8];exact hne)
      (fun v J=>by
       simp only[C,List.mem_append] at J;rcases J with(J|J)|J
       ·exact al v (List.mem_of_mem_take J)
       ·exact h5 v J
       ·exact al v (List.mem_of_mem_drop J)) af
     refine⟨.skip,undef,_,φ,?_,.inr ⟨rfl,rfl⟩,by simp[Qg,Q6],hH,E,X⟩;have ax:(a.eval y).cells.size=i.size:=by simp at ar;omega
     simp[execOp,ho,Instr.storeAt,J,Instr.sureAddr,storeVar,Zi hi,ax,ak,C]
    ·cases O
   ·cases O
  ·cases O
 ·cases O
def vQ(P:Program)(T:Nat→Option AV)(h:QY)(t:TypeId)(x:Operand):Option Kt :=
 match P.underlying t,Zo T x with
|some (.slice _),some (.vsl _ tk n)=>match h tk with|some (.vec _ _ es)=>if n=es.length then some (.p (.val (.int .i64 n)),none,[tk]) else none|_=>none
|some (.slice _),some .vnil=>some (.p (.val (.int .i64 0)),none,[])
|_,_=>none
theorem l5(r:ZG φ M0 N D T h a w){t:TypeId}{u:Kt}(ho:o.op=.call ⟨.builtin .len,#[x],#[t]⟩)(G:vQ P T h t x=some u):u.2.1=none∧Yield P o φ M0 h a w u.1 h:=by
 unfold vQ at G;split at G
 ·rename_i e S tk n U Z;split at G
  ·rename_i ty S' es hb;split at G
   ·rename_i hn;simp only[Zf] at G;subst G;have J:=r.ev Z;simp only[Qg] at J;obtain⟨_,Wj,aa,O,ab,Y⟩:=J;rw[hb] at O;cases O;obtain⟨cap,c,Y,_⟩:=Y hn;refine⟨rfl,Qt r (v:=.int .i64 n) ?_ (by simp[Qg,Q6])⟩;simp[execOp,ho,resolve,invoke,builtin,Builtin.len_,run_underlying U,Y,goInt]
   ·cases G
  ·cases G
 ·rename_i e U Z;simp only[Zf] at G;subst G;have J:=r.ev Z;simp only[Qg] at J;refine⟨rfl,Qt r (v:=.int .i64 0) ?_ (by simp[Qg,Q6])⟩;simp[execOp,ho,resolve,invoke,builtin,Builtin.len_,run_underlying U,J,goInt]
 ·cases G
end
section
variable {P:Program}{o:Oper}{φ:Nat→Nat}{M0:ZQ}{N:Nat}{D:DB}{T:Nat→Option AV}{h:QY}{a:Act}{w:World}
def LP:List Value→Bool|[]=>true|v::l=>v.oneCell'&&LP l
theorem TB:∀{l:List Value},LP l=true→∀v∈l,v.oneCell'=true
|[],_,v,G=>by simp at G
|x::l,J,v,G=>by
  simp only[LP,KL] at J;rcases List.mem_cons.1 G with rfl|G
  ·exact J.1
  ·exact TB J.2 v G
theorem qC{z:Array Value}(G:v∈(Builtin.zeroCells z n).toList)(J:0<z.size):v∈z.toList:=by
 simp only[Builtin.zeroCells,Array.toList_map,List.mem_map] at G;obtain⟨k,_,rfl⟩:=G;have:k%z.size<z.size:=Nat.mod_lt _ J;rw[getElem!_pos z _ this];simp
theorem TC{M:ZQ}:∀{cs:List PV} {l:List Value},l.length=cs.length→(∀(j:Nat) c u,cs[j]?=some c→l[j]?=some u→Q6 w M c u)→Ql φ h w M (cs.map .p) l
|[],l,G,_=>by simp at G;subst G;simp[Ql]
|c::cs,[],G,_=>by simp at G
|c::cs,u::l,G,J=>by
  simp only[U8,Ql];refine⟨u,l,rfl,?_,TC (by simpa using G) (fun j c' U O Y=>J (j+1) c' U (by simpa using O) (by simpa using Y))⟩;simp only[Qg];exact J 0 c u zq zq
def Fv(P:Program)(T:Nat→Option AV)(h:QY)(dst:Option Tmp)(t:TypeId)(s x:Operand):Option Kt :=
  match P.underlying t,Zo T s,Zo T x with
 |some (.slice e),some sv,some xv =>
    match P.info? e with
   |some i =>
      match i.zero,DR i.size xv with
     |some z,some es' =>
        if z.cells.size=i.size∧0<i.size∧LP z.cells.toList=true then
          match sv with
         |.vnil =>
            if es'=[] then some (.vnil,none,[]) else
            (match dst with
            |some d=>if h d=none∧es'.length*i.bytes≤140737488355328∧es'.length≤140737488355328 then some (.vsl i.size d es'.length,some (d,.vec e i.size es'),[d]) else none
            |none=>none)
         |.vsl S tk n =>
            (match h tk with
            |some (.vec ty G es) =>
               if ty=e∧G=S∧S=i.size∧n=es.length∧(es.length+es'.length)*i.bytes≤140737488355328∧es.length+es'.length≤140737488355328 then
                 if es'=[] then some (.vsl S tk n,some (tk,.vec e S es),[tk]) else
                 some (.vsl S tk (n+es'.length),some (tk,.vec e S (es++es')),[tk]) else none
            |_=>none)
         |_=>none
        else none
     |_,_=>none
   |none=>none
 |_,_,_=>none
theorem xn(r:ZG φ M0 N D T h a w){t:TypeId}{s:Operand}{u:Kt}(ho:o.op=.call ⟨.builtin .append,#[s,x],#[t,t]⟩)(J:Fv P T h o.dst t s x=some u):Yield P o φ M0 h a w u.1 (ap h u.2.1):=by
 unfold Fv at J;split at J;rotate_left
 ·cases J
 rename_i e sv xv ht hs hx;split at J;rotate_left
 ·cases J
 rename_i i hi;split at J;rotate_left
 ·cases J
 rename_i z es' hz bq;split at J;rotate_left
 ·cases J
 rename_i ba;refine Yield.of_lift r 1 fun φ r E0 X0 hC=>?_
 have ah:=Iz bq (r.ev hx);have af:=r.ev hs;have bf:∀n,∀v∈(Builtin.zeroCells z.cells n).toList,v.oneCell'=true:=fun n v U=>TB ba.2.2 v (qC U zo)
 split at J
 ·simp only[Qg] at af;split at J
  ·rename_i be;subst be;simp only[Zf] at J;subst J;simp only[ap];refine Qt r (v:=.slice none 0 0) ?_ (by simp[Qg]);simp only[Q6] at ah;rcases ah with⟨rr,oo,cap,h1,_⟩|⟨_,q,cap,h1⟩
   ·exact KU ho (by rw[af,h1];exact Vp ht hi _ _ _ _ _ zq)
   ·exact KU ho (by rw[af,h1];exact Vp ht hi _ _ _ _ _ zq)
  ·rename_i hne;split at J;rotate_left
   ·cases J
   rename_i d bt;split at J;rotate_left
   ·cases J
   rename_i hc;obtain⟨hd,bi,bl⟩:=hc;simp only[Zf] at J;subst J;simp only[ap];have az:es'≠[]:=fun e=>hne e
   obtain⟨rr,oo,cap,l,h1,h2,h3,h4,h5,h6,h7,h8⟩:=Ho ah az;have an:0<es'.length:=List.length_pos_iff.2 az;have ab:=run_append_nil (P:=P) w t o.type e i z ht hi hz ⟨rr,oo,none⟩ es'.length cap l (by rw[h5]) (fun j v hj=>by rw[Addr.add_lit];exact h6 j v hj) an zo zo;have aw:=grownCap_ge w es'.length 0 e;have ax:grownCap w es'.length 0 e≤maxLen:=grownCap_le_maxLen w es'.length 0 e (by unfold maxLen;omega);generalize grownCap w es'.length 0 e=gc at *
   let C:Array Value:=l.toArray++Builtin.zeroCells z.cells (gc-es'.length)
   let w':World:=w.drew.alloc (.cells C e)
   obtain⟨E,X⟩:=XX (w:=w) (w':=w') (o:=.cells C e) (b:=d) (k:=.vec e i.size es') (φ:=φ) (h:=h) (M0:=M0) rfl rfl rfl rfl hd r.hp hC
   have Y:C.size=gc*i.size:=by
    simp only[C,Array.size_append,List.size_toArray,size_zeroCells,ba.1,h5];rw[←Nat.add_mul];congr 1;omega
   have G:w'.heap[w.heap.size]?=some (.cells C e (0,0)):=by show(w.heap.push _)[w.heap.size]?=_;simp
   have ar:∀v∈C.toList,v.oneCell'=true:=by
    intro v U;simp only[C,Array.toList_append,List.mem_append] at U;rcases U with U|U
    ·exact h7 v U
    ·exact bf _ v U
   have aq:C.toList.take (es'.length*i.size)=l:=by
    simp only[C,Array.toList_append];rw[←h5,List.take_left]
   have bh:Ql φ h w (MM φ h M0) (es'.flatten.map .p) l:=TC (by rw[h5,KA h3]) h8;have hH:Z9 (QM φ d w.heap.size) (upd h d (.vec e i.size es')) w' M0:=XY rfl hd r.hp hC E X ⟨C,gc,G,Y,aw,ax,h3,ar,by rw[aq];exact(QZ (E.keeps M0) X).2 _ _ bh⟩;refine⟨_,.slice (some ⟨w.heap.size,0,none⟩) es'.length gc,w',QM φ d w.heap.size,KU ho (by rw[af,h1];exact ab),.inl rfl,?_,hH,E,X⟩;simp only[Qg];exact⟨rfl,e,es',by simp[upd],Yf _,fun _=>⟨gc,C,by simp[QM],by simpa [QM] using G,Y,aw,ax⟩⟩
 ·rename_i S tk n;split at J;rotate_left
  ·cases J
  rename_i ty S' es Z;simp only[Qg] at af;obtain⟨bk,Wj,bx,a6,bc,ad⟩:=af;rw[Z] at a6;cases a6;split at J;rotate_left
  ·cases J
  rename_i hc;obtain⟨rfl,_,rfl,rfl,bi,bl⟩:=hc;obtain⟨O,c0,a8,au,ac,ak,ao⟩:=ad rfl;obtain⟨c1,bu,bd,bv,bp,bj,br,aj,ai⟩:=r.hp.blk tk _ Z;rw[au] at bd;cases bd;split at J
  ·rename_i ay;simp only[Zf] at J;subst J;simp only[ap]
   have bb:upd h tk (.vec ty i.size es)=h:=by
    funext b;simp only[upd];split
    ·rename_i e;rw[←e,Z]
    ·rfl
   rw[bb];refine Qt r (v:=a.eval s) ?_ (by simp only[Qg];exact⟨bk,ty,es,Z,bc,ad⟩)
   have bo:∃q c,a.eval x=.slice q 0 c:=by
    subst ay;simp only[Q6] at ah;rcases ah with⟨rr,oo,cap,h1,_⟩|⟨_,q,cap,h1⟩
    ·exact⟨_,_,by simpa using h1⟩
    ·exact⟨q,cap,h1⟩
   obtain⟨q,c,hq⟩:=bo;exact KU ho (by rw[hq,a8];exact Vp ht hi _ _ _ _ _ ak)
  ·rename_i ay;simp only[Zf] at J;subst J;simp only[ap];obtain⟨rr,oo,cap,l,h1,h2,h3,h4,h5,h6,h7,h8⟩:=Ho ah ay;have an:0<es'.length:=List.length_pos_iff.2 ay;have al:Ql φ h w (MM φ h M0) (es'.flatten.map .p) l:=TC (by rw[h5,KA h3]) h8;have av:∀e∈es++es',e.length=i.size:=fun e J=>(List.mem_append.1 J).elim (br e) (h3 e)
   have bw:es.length*i.size≤c0.size:=by rw[ac];exact Nat.mul_le_mul_right _ ak
   by_cases aa:es.length+es'.length≤O
   ·have bg:es.length*i.size+l.length≤c0.size:=by rw[h5,ac,←Nat.add_mul];exact Nat.mul_le_mul_right _ aa
    have ab:=run_append_room (P:=P) w t o.type ty i ht hi (φ tk) es.length O c0 au ⟨rr,oo,none⟩ es'.length cap l (by rw[h5]) (fun j v hj=>by rw[Addr.add_lit];exact h6 j v hj) h7 aa bg
    let C:Array Value:=(c0.toList.take (es.length*i.size)++l++c0.toList.drop (es.length*i.size+l.length)).toArray
    have bn:(c0.toList.take (es.length*i.size)).length=es.length*i.size:=by simp;omega
    have Y:C.size=c0.size:=by simp[C];omega
    obtain⟨E,X⟩:=DV (φ:=φ) (h:=h) (w:=w) (M0:=M0) (es':=es++es') (c':=C) Z au zq Y r.hp;have G:(w.setRow (φ tk) C).heap[φ tk]?=some (.cells C ty (0,0)):=setRow_heap w _ c0 C ty _ au
    have ar:∀v∈C.toList,v.oneCell'=true:=by
     intro v U;simp only[C,List.mem_append] at U;rcases U with(U|U)|U
     ·exact aj v (List.mem_of_mem_take U)
     ·exact h7 v U
     ·exact aj v (List.mem_of_mem_drop U)
    have aq:C.toList.take ((es++es').length*i.size)=c0.toList.take (es.length*i.size)++l:=by
     simp only[C];have:(es++es').length*i.size=(c0.toList.take (es.length*i.size)++l).length:=by rw[mR,mR,bn,h5,Nat.add_mul]
     rw[this,List.take_left]
    have hH:Z9 φ (upd h tk (.vec ty i.size (es++es'))) (w.setRow (φ tk) C) M0 :=
     NI Z r.hp E X (fun _ _=>rfl) (.inl rfl) (fun d hd bm=>setRow_other w _ _ C (fun e=>bm (r.hp.inj d tk hd (by rw[Z];simp) e))) G (by rw[Y,ac]) (by simpa using aa) ao av ar
      (by rw[aq,List.flatten_append,List.map_append];exact ZI ai al)
    refine⟨_,.slice (some ⟨φ tk,0,none⟩) (es.length+es'.length) O,_,φ,KU ho (by rw[a8,h1];exact ab),.inl rfl,?_,hH,E,X⟩;simp only[Qg];exact⟨rfl,ty,es++es',by simp[upd],by simp,fun _=>⟨O,C,rfl,G,by rw[Y,ac],aa,ao⟩⟩
   ·have a7:(c0.toList.take (es.length*i.size)).length=es.length*i.size:=by simp;omega
    have ab:=run_append_grow (P:=P) w t o.type ty i z ht hi hz ⟨φ tk,0,none⟩ es.length O (c0.toList.take (es.length*i.size)) a7 (fun j v hj=>by
      rw[Addr.add_lit,Nat.zero_add,Yt au];rw[List.getElem?_take] at hj;split at hj
      ·simpa using hj
      ·cases hj) ⟨rr,oo,none⟩ es'.length cap l (by rw[h5])
     (fun j v hj=>by rw[Addr.add_lit];exact h6 j v hj) zo zo (growslice_fits zo bi)
    have aw:=grownCap_ge w (es.length+es'.length) O ty;have ax:grownCap w (es.length+es'.length) O ty≤maxLen:=grownCap_le_maxLen w _ O ty (by unfold maxLen;omega);generalize grownCap w (es.length+es'.length) O ty=gc at *
    let C:Array Value:=(c0.toList.take (es.length*i.size)).toArray++l.toArray++Builtin.zeroCells z.cells (gc-(es.length+es'.length))
    let w':World:=w.drew.alloc (.cells C ty)
    obtain⟨E,X⟩:=kJ (w:=w) (w':=w') (ob:=.cells C ty) (φ:=φ) (h:=h) (M0:=M0) (es':=es++es') Z (by simp;exact an) rfl rfl rfl rfl r.hp hC
    have Y:C.size=gc*i.size:=by
     simp only[C,Array.size_append,List.size_toArray,size_zeroCells,ba.1,h5,a7];rw[←Nat.add_mul,←Nat.add_mul];congr 1;omega
    have G:w'.heap[w.heap.size]?=some (.cells C ty (0,0)):=by show(w.heap.push _)[w.heap.size]?=_;simp
    have ae:QM φ tk w.heap.size tk=w.heap.size:=by simp[QM]
    have ar:∀v∈C.toList,v.oneCell'=true:=by
     intro v U;simp only[C,Array.toList_append,List.mem_append] at U;rcases U with(U|U)|U
     ·exact aj v (List.mem_of_mem_take U)
     ·exact h7 v U
     ·exact bf _ v U
    have aq:C.toList.take ((es++es').length*i.size)=c0.toList.take (es.length*i.size)++l:=by
     simp only[C,Array.toList_append];have:(es++es').length*i.size=(c0.toList.take (es.length*i.size)++l).length:=by rw[mR,mR,a7,h5,Nat.add_mul]
     rw[this,List.take_left]
    have hH:Z9 (QM φ tk w.heap.size) (upd h tk (.vec ty i.size (es++es'))) w' M0 :=
     NI Z r.hp E X (fun b hb=>by simp[QM,Ne.symm hb]) (.inr ⟨ae,hC⟩) (fun d hd _=>hC.lt r.hp (w':=w') (by show(w.heap.push _).size≤_;simp) (fun x hx=>by show(w.heap.push _)[x]?=_;rw[Array.getElem?_push,if_neg zo]) hd) (by rw[ae];exact G) Y (by simpa using aw) ax av ar
      (by rw[aq,List.flatten_append,List.map_append];exact ZI ai al)
    refine⟨_,.slice (some ⟨w.heap.size,0,none⟩) (es.length+es'.length) gc,w',QM φ tk w.heap.size,KU ho (by rw[a8,h1];exact ab),.inl rfl,?_,hH,E,X⟩;simp only[Qg];exact⟨rfl,ty,es++es',by simp[upd],by simp,fun _=>⟨gc,C,by rw[ae],by rw[ae];exact G,Y,aw,ax⟩⟩
 ·cases J
def SC(P:Program)(T:Nat→Option AV)(h:QY)(dst:Option Tmp)(t:TypeId)(x y:Operand):Option Kt :=
 match P.underlying t,Zo T x,Zo T y,dst with
|some (.slice e),some (.p (.val (.int G l))),some (.p (.val (.int J c))),some d =>
  match P.info? e with
 |some i =>
   match i.zero,h d with
  |some z,none =>
    match LM (z.cells.toList.map Ik) with
   |some ps =>
     if z.cells.size=i.size∧0<i.size∧LP z.cells.toList=true∧ps.length=i.size∧0≤l∧l≤c∧(i.bytes:Int)*c≤281474976710656∧c≤140737488355328 then
      some (.vsl i.size d l.toNat,some (d,.vec e i.size (List.replicate l.toNat ps)),[d])
     else none
   |none=>none
  |_,_=>none
 |none=>none
|_,_,_,_=>none
theorem qD:∀{l:List Value} {ps:List PV},LM (l.map Ik)=some ps→Ql φ h w M (ps.map .p) l
|l,ps,G=>DX G (repAs_ofV l)
where repAs_ofV:∀l:List Value,Ql φ h w M (l.map Ik) l
|[]=>by simp[Ql]
|x::l=>by simp only[U8,Ql];exact⟨x,l,rfl,Jr x,repAs_ofV l⟩
theorem Du(f:α→β)(l:List α)(n:Nat):(List.replicate n l).flatten.map f=(List.replicate n (l.map f)).flatten:=by
 induction n with
|zero=>rfl
|succ n G=>simp[List.replicate_succ,G]
theorem dB(r:ZG φ M0 N D T h a w){t:TypeId}{u:Kt}(ho:o.op=.makeSlice t x y)(G:SC P T h o.dst t x y=some u):Yield P o φ M0 h a w u.1 (ap h u.2.1):=by
 unfold SC at G;split at G;rotate_left
 ·cases G
 rename_i e kl l kc c d ht hx hy aj;split at G;rotate_left
 ·cases G
 rename_i i hi;split at G;rotate_left
 ·cases G
 rename_i z hz hd;split at G;rotate_left
 ·cases G
 rename_i ps ai;split at G;rotate_left
 ·cases G
 rename_i hc;obtain⟨h1,h2,h3,h4,h5,h6,h7,h8⟩:=hc;simp only[Zf] at G;subst G;simp only[ap];refine Yield.of_lift r 1 fun φ r E0 X0 hC=>?_
 have ac:=r.ev hx;have Y:=r.ev hy;simp only[Qg,Q6] at ac Y;have Z:=run_make (P:=P) w t e i z ht hi hz kl kc l c h5 h6 h7 zo
 let C:Array Value:=madeCells z.cells (c.toNat*i.size)
 let w':World:=w.alloc (.cells C e)
 have O:C.toList=(List.replicate c.toNat z.cells.toList).flatten:=by
  have:=Bj z.cells.toList i.size (by simpa using h1) h2 c.toNat;simp only[Array.toArray_toList] at this;rw[←this];simp[C,madeCells,Array.toList_range]
 obtain⟨E,X⟩:=XX (w:=w) (w':=w') (o:=.cells C e) (b:=d) (k:=.vec e i.size (List.replicate l.toNat ps)) (φ:=φ) (h:=h) (M0:=M0) rfl rfl rfl rfl hd r.hp hC;have J:w'.heap[w.heap.size]?=some (.cells C e (0,0)):=by show(w.heap.push _)[w.heap.size]?=_;simp
 have U:C.size=c.toNat*i.size:=by simp[C,madeCells]
 have af:l.toNat≤c.toNat:=by omega
 have aa:c.toNat≤maxLen:=by unfold maxLen;omega
 have ah:∀v∈C.toList,v.oneCell'=true:=by
  intro v hv;rw[O] at hv;obtain⟨q,hq,hv⟩:=List.mem_flatten.1 hv;rw[List.eq_of_mem_replicate hq] at hv;exact TB h3 v hv
 have ae:C.toList.take ((List.replicate l.toNat ps).length*i.size)=(List.replicate l.toNat z.cells.toList).flatten:=by
  rw[O,List.length_replicate,show c.toNat=l.toNat+(c.toNat-l.toNat) from by omega,←List.replicate_append_replicate,List.flatten_append];have:l.toNat*i.size=((List.replicate l.toNat z.cells.toList).flatten).length:=by simp[h1]
  rw[this,List.take_left]
 have ab:Ql φ h w (MM φ h M0) ((List.replicate l.toNat ps).flatten.map .p) ((List.replicate l.toNat z.cells.toList).flatten):=by
  rw[Du];exact Uc (qD ai) _
 have hH:Z9 (QM φ d w.heap.size) (upd h d (.vec e i.size (List.replicate l.toNat ps))) w' M0 :=
  XY rfl hd r.hp hC E X ⟨C,c.toNat,J,U,by simp;omega,aa,fun e' ad=>by rw[List.eq_of_mem_replicate ad];exact h4,ah,by rw[ae];exact(QZ (E.keeps M0) X).2 _ _ ab⟩
 refine⟨_,.slice (some ⟨w.heap.size,0,none⟩) l.toNat c.toNat,w',QM φ d w.heap.size,?_,.inl rfl,?_,hH,E,X⟩
 ·simp[execOp,ho,ac,Y,Z,w',C]
 ·simp only[Qg];exact⟨rfl,e,List.replicate l.toNat ps,by simp[upd],by simp,fun _=>⟨c.toNat,C,by simp[QM],by simpa [QM] using J,U,af,aa⟩⟩
def xq(P:Program)(h:QY)(dst:Option Tmp)(t:TypeId)(parts:Array (Nat×Operand)):Option Kt :=
 match P.underlying t,dst,parts.toList with
|some (.slice e),some d,[] =>
  match P.info? e,h d with
 |some i,none=>some (.vsl i.size d 0,some (d,.vec e i.size []),[d])
 |_,_=>none
|_,_,_=>none
theorem l8(r:ZG φ M0 N D T h a w){t:TypeId}{u:Kt}(ho:o.op=.buildSlice t 0 parts)(J:xq P h o.dst t parts=some u):Yield P o φ M0 h a w u.1 (ap h u.2.1):=by
 unfold xq at J;split at J;rotate_left
 ·cases J
 rename_i e d ht Z O;split at J;rotate_left
 ·cases J
 rename_i i hi Y;simp only[Zf] at J;subst J;simp only[ap];refine Yield.of_lift r 1 fun φ r E0 X0 hC=>?_
 have U:parts=#[]:=by apply Array.ext';simpa using O
 let w':World:=w.alloc (.cells #[] e)
 obtain⟨E,X⟩:=XX (w:=w) (w':=w') (o:=.cells #[] e) (b:=d) (k:=.vec e i.size []) (φ:=φ) (h:=h) (M0:=M0) rfl rfl rfl rfl Y r.hp hC;have G:w'.heap[w.heap.size]?=some (.cells #[] e (0,0)):=by show(w.heap.push _)[w.heap.size]?=_;simp
 have hH:Z9 (QM φ d w.heap.size) (upd h d (.vec e i.size [])) w' M0 :=
  XY rfl Y r.hp hC E X ⟨#[],0,G,by simp,by simp,by unfold maxLen;omega,by simp,by simp,by simp[Ql]⟩
 refine⟨_,.slice (some ⟨w.heap.size,0,none⟩) 0 0,w',QM φ d w.heap.size,?_,.inl rfl,?_,hH,E,X⟩
 ·have e2:(Array.range 0).map (fun _=>(default:Value))=#[]:=by apply Array.ext';simp
  subst U;simp only[execOp,ho,Instr.buildSlice,Sem.run_bind,run_underlying ht,Zi hi,Result.andThen_ok,Nat.zero_mul,if_true,Sem.run_pure];simp[newRow,newObj,Sem.run,w',e2,Instr.fill]
 ·simp only[Qg];exact⟨rfl,e,[],by simp[upd],by simp,fun _=>⟨0,#[],by simp[QM],by simpa [QM] using G,by simp,by simp,by unfold maxLen;omega⟩⟩
def qo:Option AV→Bool|some (.vptr _ _ _ _)=>true|some (.vsl _ _ _)=>true|some .vnil=>true|_=>false
variable {T':Nat→Option AV}{h':QY}
theorem Eu{t:TypeId}{u:Kt}(G:Jt P T h t x ix=some u)(U:Zo T' x=Zo T x)(hi:Zo T' ix=Zo T ix)(O:∀b∈u.2.2,h' b=h b):Jt P T' h' t x ix=some u:=by
 unfold Jt at G ⊢;rw[U,hi];split at G
 ·split at G
  ·rename_i hb J;split at G
   ·rename_i hc;simp only[Zf] at G;subst G;simp only[O _ (List.mem_singleton.2 rfl),hb,J];rw[if_pos hc]
   ·cases G
  ·cases G
 ·split at G
  ·rename_i hb J;split at G
   ·rename_i hc;simp only[Zf] at G;subst G;simp only[O _ (List.mem_singleton.2 rfl),hb,J];rw[if_pos hc]
   ·cases G
  ·cases G
 ·cases G
theorem Ew{t:TypeId}{f:Nat}{u:Kt}(G:Uo P T h t x f=some u)(U:Zo T' x=Zo T x)(J:∀b∈u.2.2,h' b=h b):Uo P T' h' t x f=some u:=by
 unfold Uo at G ⊢;rw[U];split at G
 ·split at G
  ·rename_i hf hb;split at G
   ·rename_i hi;split at G
    ·cases G
    ·rename_i O;split at G
     ·rename_i hc;simp only[Zf] at G;subst G;simp only[J _ (List.mem_singleton.2 rfl),hb,hf,hi];rw[if_neg O,if_pos hc]
     ·cases G
   ·cases G
  ·cases G
 ·cases G
theorem vR{t:TypeId}{u:Kt}(G:SB P T h t x=some u)(U:Zo T' x=Zo T x)(O:∀b∈u.2.2,h' b=h b):SB P T' h' t x=some u:=by
 unfold SB at G ⊢;rw[U];split at G
 ·rename_i d i tk n k f _ _ _;split at G
  ·rename_i ty S es hb
   have J:h' tk=some (.vec ty S es):=by
    rw[←hb];refine O tk ?_;split at G
    ·split at G
     ·split at G
      ·split at G
       ·simp only[Zf] at G;subst G;simp
       ·cases G
      ·split at G
       ·simp only[Zf] at G;subst G;simp
       ·cases G
     ·cases G
    ·cases G
   simp only[J];exact G
  ·cases G
 ·cases G
theorem kK{t:TypeId}{u:Kt}(G:DW P T h t x y=some u)(Z:Zo T' x=Zo T x)(U:Zo T' y=Zo T y)(J:∀b∈u.2.2,h' b=h b):DW P T' h' t x y=some u:=by
 unfold DW at G ⊢;rw[Z,U];split at G
 ·split at G
  ·rename_i hb Y;split at G
   ·rename_i hp O;split at G
    ·rename_i hc;simp only[Zf] at G;subst G;simp only[J _ (List.mem_singleton.2 rfl),hb,Y,hp,O];rw[if_pos hc]
    ·cases G
   ·cases G
  ·cases G
 ·cases G
def xu(T:Nat→Option AV)(h:QY)(x:Operand):Option Kt :=
 match Zo T x with
|some (.vptr tk n k f)=>match h tk with
 |some (.vec _ _ es)=>if n=es.length then some (.vptr tk n k f,none,[tk]) else none
 |_=>none
|_=>none
theorem xw{u:Kt}(G:xu T h x=some u)(U:Zo T' x=Zo T x)(O:∀b∈u.2.2,h' b=h b):xu T' h' x=some u:=by
 unfold xu at G ⊢;rw[U];split at G
 ·rename_i tk n k f _;split at G
  ·rename_i ty S es hb
   have J:h' tk=some (.vec ty S es):=by
    rw[←hb];refine O tk ?_;split at G
    ·simp only[Zf] at G;subst G;simp
    ·cases G
   simp only[J];exact G
  ·cases G
 ·cases G
theorem xx{t:TypeId}{u:Kt}(G:vQ P T h t x=some u)(O:Zo T' x=Zo T x)(J:∀b∈u.2.2,h' b=h b):vQ P T' h' t x=some u:=by
 unfold vQ at G ⊢;rw[O];split at G
 ·split at G
  ·rename_i hb;split at G
   ·rename_i hc;simp only[Zf] at G;subst G;simp only[J _ (List.mem_singleton.2 rfl),hb];rw[if_pos hc]
   ·cases G
  ·cases G
 ·exact G
 ·cases G
theorem qE{t:TypeId}{s:Operand}{u:Kt}(G:Fv P T h dst t s x=some u)(hs:Zo T' s=Zo T s)(hx:Zo T' x=Zo T x)(Z:∀b∈u.2.2,h' b=h b):Fv P T' h' dst t s x=some u:=by
 unfold Fv at G ⊢;rw[hs,hx];split at G
 ·split at G
  ·split at G
   ·split at G
    ·rename_i Y;rw[if_pos Y];split at G
     ·split at G
      ·rename_i J;rw[if_pos J];exact G
      ·rename_i J;rw[if_neg J];split at G
       ·rename_i d;split at G
        ·rename_i hc;simp only[Zf] at G;subst G;have:h' d=none:=by rw[Z d zq];exact hc.1
         simp only[this];rw[if_pos ⟨trivial,hc.2⟩]
        ·cases G
       ·cases G
     ·rename_i S tk n _;split at G
      ·rename_i ty S' es U
       have O:h' tk=some (.vec ty S' es):=by
        rw[←U];refine Z tk ?_;split at G
        ·split at G
         ·simp only[Zf] at G;subst G;simp
         ·simp only[Zf] at G;subst G;simp
        ·cases G
       simp only[O];exact G
      ·cases G
     ·cases G
    ·cases G
   ·cases G
  ·cases G
 ·cases G
theorem vS{t:TypeId}{u:Kt}(G:SC P T h dst t x y=some u)(Z:Zo T' x=Zo T x)(U:Zo T' y=Zo T y)(J:∀b∈u.2.2,h' b=h b):SC P T' h' dst t x y=some u:=by
 unfold SC at G ⊢;rw[Z,U];split at G
 ·rename_i d _ _ _;split at G
  ·split at G
   ·rename_i Y O;split at G
    ·rename_i hp;split at G
     ·rename_i hc;simp only[Zf] at G;subst G;simp only[J d zq,O,Y,hp];rw[if_pos hc]
     ·cases G
    ·cases G
   ·cases G
  ·cases G
 ·cases G
theorem xy{t:TypeId}{ps:Array (Nat×Operand)}{u:Kt}(G:xq P h dst t ps=some u)(J:∀b∈u.2.2,h' b=h b):xq P h' dst t ps=some u:=by
 unfold xq at G ⊢;split at G
 ·rename_i d _ _;split at G
  ·rename_i hi O;simp only[Zf] at G;subst G;simp only[J d zq,O,hi]
  ·cases G
 ·cases G
end
theorem l9(r:ZG φ M0 N D T h a w){u:Kt}(U:o.op=.nilCheck x)(G:xu T h x=some u):u.2.1=none∧Yield P o φ M0 h a w u.1 h:=by
 unfold xu at G;split at G
 ·rename_i tk n k f hx;split at G
  ·rename_i ty S es hb;split at G
   ·rename_i Y;simp only[Zf] at G;subst G;have O:=r.ev hx;refine⟨rfl,Qt r (v:=a.eval x) ?_ O⟩;simp only[Qg] at O;obtain⟨_,Wj,S2,aa,J,ab,Z⟩:=O;rw[hb] at J;cases J;have h3:=Z Y;simp[execOp,U,h3]
   ·cases G
  ·cases G
 ·cases G
section
variable {P:Program}{o:Oper}{φ:Nat→Nat}{M0:ZQ}{N:Nat}{D:DB}{T:Nat→Option AV}{h:QY}{a:Act}{w:World}
def Bl(P:Program)(T:Nat→Option AV)(t:TypeId)(x ix:Operand):Option Kt :=
 match P.underlying t,Zo T x,Zo T ix with
|some .string,some (.p (.val (.string s))),some (.p (.val (.int _ n))) =>
  if 0≤n then(match (XV s)[n.toNat]? with|some b=>some (.p (.val (.int .u8 b.toNat)),none,[])|none=>none) else none
|_,_,_=>none
theorem ng(r:ZG φ M0 N D T h a w){t:TypeId}{u:Kt}(Y:o.op=.index t x ix)(G:Bl P T t x ix=some u):u.2.1=none∧Yield P o φ M0 h a w u.1 h:=by
 unfold Bl at G;split at G
 ·rename_i s k n ht hx hi;split at G
  ·rename_i Z;split at G
   ·rename_i b hb;simp only[Zf] at G;subst G;have U:=r.ev hx;have O:=r.ev hi;simp only[Qg,Q6] at U O;refine⟨rfl,Qt r (v:=.int .u8 b.toNat) ?_ (by simp[Qg,Q6])⟩
    have J:s[n.toNat]?=some b:=by
     simp only[XV] at hb;rw[←hb];rw[Array.getElem?_toList];rfl
    simp[execOp,Y,Instr.index,U,O,asIntOf,run_underlying ht,Z,J]
   ·cases G
  ·cases G
 ·cases G
def SE(P:Program)(T:Nat→Option AV)(t:TypeId)(x:Operand):Option Kt :=
 match P.underlying t,Zo T x with
|some .string,some (.p (.val (.string s)))=>some (.p (.val (.int .i64 (XV s).length)),none,[])
|_,_=>none
theorem eB(r:ZG φ M0 N D T h a w){t:TypeId}{u:Kt}(O:o.op=.call ⟨.builtin .len,#[x],#[t]⟩)(G:SE P T t x=some u):u.2.1=none∧Yield P o φ M0 h a w u.1 h:=by
 unfold SE at G;split at G
 ·rename_i s U Y;simp only[Zf] at G;subst G;have J:=r.ev Y;simp only[Qg,Q6] at J;refine⟨rfl,Qt r (v:=.int .i64 s.size) ?_ ?_⟩
  ·simp only[execOp,O,resolve,invoke,builtin,Builtin.len_,Sem.run_bind,Sem.run_pure,Result.andThen_ok];simp[run_underlying U,J,goInt]
  ·simp only[Qg,Q6];rfl
 ·cases G
def Gt(P:Program)(ty:TypeId)(l:List Value)(off:Nat):Option Value :=
 match P.underlying ty,P.info? ty with
|some d,some i=>if G6 d then(if off+i.size≤l.length then some (.agg ((l.drop off).take i.size).toArray) else none) else l[off]?
|_,_=>none
def eqV(P:Program):Nat→TypeId→Value→Value→Option Bool
|0,_,_,_=>none
|d+1,t,x,y =>
  match P.underlying t with
 |some .bool=>match x,y with|.bool a,.bool b=>some (a==b)|_,_=>none
 |some (.int _)=>match x,y with|.int k a,.int k' b=>if k=k' then some (Qq a b) else none|_,_=>none
 |some .string=>match x,y with|.string a,.string b=>some (Zb (XV a) (XV b))|_,_=>none
 |some (.struct fields)=>match x,y with|.agg xs,.agg ys=>if P.stoodInHeld t then none else eqFs P d xs.toList ys.toList fields.toList|_,_=>none
 |some (.array len e)=>match x,y with|.agg xs,.agg ys=>if(P.info? e).isNone then none else eqAs P d e (P.cellsOf e) xs.toList ys.toList (List.range len)|_,_=>none
 |_=>none
where
 eqFs (P:Program) (d:Nat) (xs ys:List Value):List Field→Option Bool
|[]=>some true
|f::G =>
  if f.name="_" then eqFs P d xs ys G else
  match Gt P f.type xs f.offset,Gt P f.type ys f.offset with
 |some a,some b=>match eqV P d f.type a b,eqFs P d xs ys G with|some p,some q=>some (p&&q)|_,_=>none
 |_,_=>none
 eqAs (P:Program) (d:Nat) (e:TypeId) (c:Nat) (xs ys:List Value):List Nat→Option Bool
|[]=>some true
|i::J =>
  match Gt P e xs (i*c),Gt P e ys (i*c) with
 |some a,some b=>match eqV P d e a b,eqAs P d e c xs ys J with|some p,some q=>some (p&&q)|_,_=>none
 |_,_=>none
theorem NJ{l:List Value}(G:Gt P ty l off=some v):(part ty l.toArray off).run P w=.ok v w:=by
 unfold Gt at G;split at G
 ·rename_i d i U hi;split at G
  ·rename_i J;split at G
   ·rename_i Y;simp only[Zf] at G;subst G;simp[part,Hl U,J,Zi hi]
   ·cases G
  ·rename_i J;have O:G6 d=false:=by simpa using J
   simp[part,Hl U,O,G]
 ·cases G
theorem kL:∀(d:Nat),(∀(t:TypeId) (x y:Value) (b:Bool),eqV P d t x y=some b→∀D,d≤D→(Op.equalIn D t x y).run P w=.ok b w) ∧
  (∀(xs ys:List Value) (O:List Field) (b:Bool),eqV.eqFs P d xs ys O=some b→∀D,d≤D→(Op.eqFields D xs.toArray ys.toArray O).run P w=.ok b w)
|0=>by
  refine⟨fun t x y b G=>by simp[eqV] at G,?_⟩;intro xs ys O
  induction O with
 |nil=>intro b G D _;simp only[eqV.eqFs,Zf] at G;subst G;simp[Op.eqFields]
 |cons f O Y =>
   intro b G D Z;simp only[eqV.eqFs] at G;split at G
   ·rename_i hn;simp only[Op.eqFields,hn,ne_eq,not_true_eq_false,if_false];exact Y b G D Z
   ·split at G
    ·simp[eqV] at G
    ·cases G
|d+1=>by
  obtain⟨i1,i2⟩:=kL d
  have j1:∀(t:TypeId) (x y:Value) (b:Bool),eqV P (d+1) t x y=some b→∀D,d+1≤D→(Op.equalIn D t x y).run P w=.ok b w:=by
   intro t x y b G D Z;obtain⟨U,rfl⟩:∃U,D=U+1:=⟨D-1,by omega⟩;unfold eqV at G;split at G
   ·rename_i J;split at G
    ·simp only[Zf] at G;subst G;simp[Op.equalIn,run_underlying J]
    ·cases G
   ·rename_i k0 J;split at G
    ·rename_i k p k' q;split at G
     ·rename_i hk;simp only[Zf] at G;subst G;subst hk;simp[Op.equalIn,run_underlying J,Qq]
     ·cases G
    ·cases G
   ·rename_i J;split at G
    ·rename_i p q;simp only[Zf] at G;subst G
     have:(p==q)=Zb (XV p) (XV q):=by
      rw[beq_toListBytes,ByteArray.toList_eq,ByteArray.toList_eq];rfl
     simp[Op.equalIn,run_underlying J,this]
    ·cases G
   ·rename_i fields J;split at G
    ·rename_i xs ys;split at G
     ·cases G
     ·rename_i hp;have aa:P.stoodInHeld t=false:=by simpa using hp
      have hf:P.fieldsOf t=fields:=by simp[Program.fieldsOf,J]
      rw[run_equalIn_struct w U t xs ys (by rw[hf];exact J) aa,hf];have:=i2 xs.toList ys.toList fields.toList b G U zo;simpa using this
    ·cases G
   ·rename_i len e J;split at G
    ·rename_i xs ys;split at G
     ·cases G
     ·rename_i hi
      obtain⟨i,hi⟩:∃i,P.info? e=some i:=by
       cases h:P.info? e with
      |none=>simp[h] at hi
      |some i=>exact⟨i,rfl⟩
      rw[run_equalIn_array w U xs ys J hi]
      have key:∀(is:List Nat) (b:Bool),eqV.eqAs P d e (P.cellsOf e) xs.toList ys.toList is=some b→(Op.eqItems U e (P.cellsOf e) xs ys is).run P w=.ok b w:=by
       intro is
       induction is with
      |nil=>intro b G;simp only[eqV.eqAs,Zf] at G;subst G;simp[Op.eqItems]
      |cons j is Y =>
        intro b G;simp only[eqV.eqAs] at G;split at G
        ·rename_i p q hp hq;split at G
         ·rename_i b1 b2 h1 h2;simp only[Zf] at G;subst G;have p1:=NJ (P:=P) (w:=w) hp;have p2:=NJ (P:=P) (w:=w) hq;simp only[Array.toArray_toList] at p1 p2;have p3:=i1 _ _ _ _ h1 U zo;have p4:=Y _ h2;cases b1<;>simp[Op.eqItems,p1,p2,p3,p4]
         ·cases G
        ·cases G
      exact key _ _ G
    ·cases G
   ·cases G
  refine⟨j1,?_⟩;intro xs ys O
  induction O with
 |nil=>intro b G D _;simp only[eqV.eqFs,Zf] at G;subst G;simp[Op.eqFields]
 |cons f O Y =>
   intro b G D Z;simp only[eqV.eqFs] at G;split at G
   ·rename_i hn;simp only[Op.eqFields,hn,ne_eq,not_true_eq_false,if_false];exact Y b G D Z
   ·rename_i hn;split at G
    ·rename_i p q hp hq;split at G
     ·rename_i b1 b2 h1 h2;simp only[Zf] at G;subst G;simp only[Op.eqFields,ne_eq,hn,not_false_eq_true,if_true,Sem.run_bind,NJ (w:=w) hp,NJ (w:=w) hq,Result.andThen_ok,j1 _ _ _ _ h1 D Z];cases b1
      ·simp
      ·simpa using Y b2 h2 D Z
     ·cases G
    ·cases G
theorem Bn{t:TypeId}{x y:Value}{b:Bool}(h:∀D,4≤D→(Op.equalIn D t x y).run P w=.ok b w):(Op.equal t x y).run P w=.ok b w:=h 10000 zo
theorem NK{t:TypeId}{x y:Value}{b:Bool}(h:∀D,(Op.equalIn (D+1) t x y).run P w=.ok b w):(Op.equal t x y).run P w=.ok b w:=h 9999
def isConst:Operand→Bool|.const _=>true|_=>false
def vT(P:Program)(T:Nat→Option AV)(op:BinOp)(tx:TypeId)(x y:Operand):Option Bool :=
 match Zo T x,Zo T y with
|some (.ifc _ _),some (.p (.val .nilIface))=>match P.underlying tx with|some (.interface _)=>some false|_=>none
|some (.p (.val .nilIface)),some (.ifc _ _)=>match P.underlying tx with|some (.interface _)=>some false|_=>none
|some (.p (.val .nilIface)),some (.p (.val .nilIface))=>match P.underlying tx with|some (.interface _)=>if isConst x||isConst y then some true else none|_=>none
|some (.p (.val (.bool a))),some (.p (.val (.bool b)))=>match P.underlying tx with|some .bool=>some (a==b)|_=>none
|some (.agg xs),some (.agg ys) =>
  if P.eqGuardType P.depth tx then none else
  match DJ xs,DJ ys with
 |some vx,some vy=>eqV P 4 tx (.agg vx.toArray) (.agg vy.toArray)
 |_,_=>none
|_,_=>none
def lN(P:Program)(T:Nat→Option AV)(op:BinOp)(tx:TypeId)(x y:Operand):Option Kt :=
 match op with
|.eql=>match vT P T op tx x y with|some b=>some (.p (.val (.bool (TA b))),none,[])|none=>none
|.neq=>match vT P T op tx x y with|some b=>some (.p (.val (.bool (!TA b))),none,[])|none=>none
|_=>none
theorem uU(r:ZG φ M0 N D T h a w){b:Bool}(G:vT P T op tx x y=some b) :
  (eqGuard op tx x y (a.eval x) (a.eval y)).run P w=.ok () w∧(Op.equal tx (a.eval x) (a.eval y)).run P w=.ok b w ∧
   (binOp .eql tx (a.eval x) (a.eval y)=(do pure (.bool (←Op.equal tx (a.eval x) (a.eval y))))∧binOp .neq tx (a.eval x) (a.eval y)=(do pure (.bool (!(←Op.equal tx (a.eval x) (a.eval y)))))):=by
 unfold vT at G;split at G
 ·rename_i t v Y U;have J:=r.ev Y;have O:=r.ev U;simp only[Qg,Q6] at J O;obtain⟨z,J,_⟩:=J;split at G
  ·rename_i ms Z;simp only[Zf] at G;subst G;rw[J,O];refine⟨by cases op<;>simp[eqGuard],NK fun D=>by simp[Op.equalIn,run_underlying Z],rfl,rfl⟩
  ·cases G
 ·rename_i t v Y U;have J:=r.ev Y;have O:=r.ev U;simp only[Qg,Q6] at J O;obtain⟨z,O,_⟩:=O;split at G
  ·rename_i ms Z;simp only[Zf] at G;subst G;rw[J,O];refine⟨by cases op<;>simp[eqGuard],NK fun D=>by simp[Op.equalIn,run_underlying Z],rfl,rfl⟩
  ·cases G
 ·rename_i Y U;have J:=r.ev Y;have O:=r.ev U;simp only[Qg,Q6] at J O;split at G
  ·rename_i ms Z;split at G
   ·rename_i hc;simp only[Zf] at G;subst G;rw[J,O];refine⟨?_,NK fun D=>by simp[Op.equalIn,run_underlying Z],rfl,rfl⟩;cases x<;>cases y<;>simp[isConst] at hc<;>cases op<;>simp[eqGuard]
   ·cases G
  ·cases G
 ·rename_i p q Y U;have J:=r.ev Y;have O:=r.ev U;simp only[Qg,Q6] at J O;split at G
  ·rename_i Z;simp only[Zf] at G;subst G;rw[J,O];refine⟨by cases op<;>simp[eqGuard],NK fun D=>by simp[Op.equalIn,run_underlying Z],rfl,rfl⟩
  ·cases G
 ·rename_i xs ys Y U;have J:=r.ev Y;have O:=r.ev U;simp only[Qg] at J O;obtain⟨lx,J,h3⟩:=J;obtain⟨ly,O,h4⟩:=O;split at G
  ·cases G
  ·rename_i hg;have aa:P.eqGuardType P.depth tx=false:=by simpa using hg
   split at G
   ·rename_i vx vy ac ab;have e1:=Bg.2 _ _ _ h3 ac;have e2:=Bg.2 _ _ _ h4 ab;subst e1 e2;rw[J,O];exact⟨run_eqGuard_agg w op tx x y _ _ aa,Bn fun D hD=>(kL 4).1 _ _ _ _ G D hD,rfl,rfl⟩
   ·cases G
 ·cases G
theorem Qdh(r:ZG φ M0 N D T h a w){u:Kt}(J:o.op=.binOp op tx x y ty)(G:lN P T op tx x y=some u):u.2.1=none∧Yield P o φ M0 h a w u.1 h:=by
 unfold lN at G;split at G
 ·split at G
  ·rename_i b hb;simp only[Zf] at G;subst G;obtain⟨g1,g2,g3,_⟩:=uU r hb;refine⟨rfl,Qt r (v:=.bool b) ?_ (by simp[Qg,Q6,TA])⟩;simp only[execOp,J,Sem.run_bind,g1,g2,g3,Result.andThen_ok,Sem.run_pure]
  ·cases G
 ·split at G
  ·rename_i b hb;simp only[Zf] at G;subst G;obtain⟨g1,g2,_,g3⟩:=uU r hb;refine⟨rfl,Qt r (v:=.bool (!b)) ?_ (by simp[Qg,Q6,TA])⟩;simp only[execOp,J,Sem.run_bind,g1,g2,g3,Result.andThen_ok,Sem.run_pure]
  ·cases G
 ·cases G
end
section
variable {P:Program}{o:Oper}{φ:Nat→Nat}{M0:ZQ}{N:Nat}{D:DB}{T T':Nat→Option AV}{h h':QY}{a:Act}{w:World}
def Xd(P:Program)(T:Nat→Option AV)(h:QY)(t:TypeId)(x ix:Operand):Option Kt :=
 match P.underlying t,Zo T x,Zo T ix with
|some (.slice e),some (.vtl S tk n k0 m),some (.p (.val (.int _ k))) =>
  match h tk,P.info? e with
 |some (.vec _ _ es),some i=>if n=es.length∧S=i.size∧0≤k∧k.toNat<m then some (.vptr tk n (k0+k.toNat) 0,none,[tk]) else none
 |_,_=>none
|_,_,_=>none
theorem qF(r:ZG φ M0 N D T h a w){t:TypeId}{u:Kt}(ho:o.op=.indexAddr t x ix)(G:Xd P T h t x ix=some u):u.2.1=none∧Yield P o φ M0 h a w u.1 h:=by
 unfold Xd at G;split at G;rotate_left
 ·cases G
 rename_i e S tk n k0 m kk k ht hx Y;split at G;rotate_left
 ·cases G
 rename_i ty S' es i hb hi;split at G;rotate_left
 ·cases G
 rename_i hc;simp only[Zf] at G;subst G;have h2:=r.ev hx;have J:=r.ev Y;simp only[Qg,Q6] at h2 J;obtain⟨_,Wj,ab,O,ac,U⟩:=h2;rw[hb] at O;cases O;obtain⟨ad,cap,c,U,_,_,aa,_⟩:=U hc.1;have hne:¬cap=k0:=by omega
 rw[if_neg hne] at U;refine⟨rfl,Qt r (v:=.pointer (some ⟨φ tk,k0*S+k.toNat*i.size,none⟩)) ?_ ?_⟩
 ·have Z:0≤k∧k<(m:Int):=⟨hc.2.2.1,by omega⟩;simp[execOp,ho,Instr.indexAt,J,asIntOf,run_underlying ht,U,Z,Zi hi,Addr.add_lit]
 ·simp only[Qg];exact⟨rfl,ty,S,es,hb,by omega,fun _=>by rw[hc.2.1,Nat.add_mul];rfl⟩
theorem Ey{t:TypeId}{u:Kt}(G:Xd P T h t x ix=some u)(U:Zo T' x=Zo T x)(hi:Zo T' ix=Zo T ix)(O:∀b∈u.2.2,h' b=h b):Xd P T' h' t x ix=some u:=by
 unfold Xd at G ⊢;rw[U,hi];split at G
 ·split at G
  ·rename_i hb J;split at G
   ·rename_i hc;simp only[Zf] at G;subst G;simp only[O _ (List.mem_singleton.2 rfl),hb,J];rw[if_pos hc]
   ·cases G
  ·cases G
 ·cases G
def vU(P:Program)(T:Nat→Option AV)(h:QY)(t:TypeId)(x:Operand):Option Kt :=
 match P.underlying t,Zo T x with
|some (.slice _),some (.vtl _ tk n _ m)=>match h tk with|some (.vec _ _ es)=>if n=es.length then some (.p (.val (.int .i64 m)),none,[tk]) else none|_=>none
|_,_=>none
theorem eD(r:ZG φ M0 N D T h a w){t:TypeId}{u:Kt}(Y:o.op=.call ⟨.builtin .len,#[x],#[t]⟩)(G:vU P T h t x=some u):u.2.1=none∧Yield P o φ M0 h a w u.1 h:=by
 unfold vU at G;split at G;rotate_left
 ·cases G
 rename_i e S tk n k0 m ht hx;split at G;rotate_left
 ·cases G
 rename_i ty S' es hb;split at G;rotate_left
 ·cases G
 rename_i Z;simp only[Zf] at G;subst G;have U:=r.ev hx;simp only[Qg] at U;obtain⟨_,Wj,aa,J,ab,O⟩:=U;rw[hb] at J;cases J;obtain⟨_,cap,c,O,_⟩:=O Z;refine⟨rfl,Qt r (v:=.int .i64 m) ?_ (by simp[Qg,Q6])⟩;simp[execOp,Y,resolve,invoke,builtin,Builtin.len_,run_underlying ht,O,goInt]
theorem xz{t:TypeId}{u:Kt}(G:vU P T h t x=some u)(O:Zo T' x=Zo T x)(J:∀b∈u.2.2,h' b=h b):vU P T' h' t x=some u:=by
 unfold vU at G ⊢;rw[O];split at G
 ·split at G
  ·rename_i hb;split at G
   ·rename_i hc;simp only[Zf] at G;subst G;simp only[J _ (List.mem_singleton.2 rfl),hb];rw[if_pos hc]
   ·cases G
  ·cases G
 ·cases G
def TD(P:Program)(T:Nat→Option AV)(h:QY)(t:TypeId)(x:Operand)(lo hi J:Option Operand):Option Kt :=
 match P.underlying t,Zo T x,J with
|some (.slice e),some (.vsl S tk n),none =>
  match h tk,P.info? e,WR T 0 lo,WR T n hi with
 |some (.vec _ _ es),some i,some l,some G=>if n=es.length∧S=i.size∧l≤G∧G≤n then some (.vtl S tk n l (G-l),none,[tk]) else none
 |_,_,_,_=>none
|_,_,_=>none
theorem ni(r:ZG φ M0 N D T h a w){t:TypeId}{mx:Option Operand}{u:Kt}(ho:o.op=.slice t x lo hi mx)(G:TD P T h t x lo hi mx=some u):u.2.1=none∧Yield P o φ M0 h a w u.1 h:=by
 unfold TD at G;split at G;rotate_left
 ·cases G
 rename_i e S tk n ht hx;split at G;rotate_left
 ·cases G
 rename_i ty S' es i l hh hb ad hl U;split at G;rotate_left
 ·cases G
 rename_i hc;obtain⟨hn,hS,ac,ah⟩:=hc;simp only[Zf] at G;subst G;have h2:=r.ev hx;simp only[Qg] at h2;obtain⟨_,Wj,ae,J,af,hv⟩:=h2;rw[hb] at J;cases J;obtain⟨cap,c,hv,hw,ab,Z,aa⟩:=hv hn
 have O:∀code,(match lo.map a.eval with|some x=>Instr.sliceBound x hh code|none=>pure 0).run P w=.ok l w:=by
  intro code;cases lo with
 |none=>simp only[WR,Zf] at hl;subst hl;rfl
 |some y=>obtain⟨k,hk⟩:=Hr r hl;exact run_sliceBound hk ac
 refine⟨rfl,Qt r (v:=.slice (if cap=l then some ⟨φ tk,0,none⟩ else some ⟨φ tk,l*S,none⟩) (hh-l) (cap-l)) ?_ ?_⟩
 ·have J:(Instr.sliceBounds true n cap (lo.map a.eval) (hi.map a.eval) none).run P w=.ok (l,hh,cap) w:=by
   cases hi with
  |none =>
    simp only[WR,Zf] at U;subst U;have:=O .sliceB;cases lo with
   |none=>simp[Instr.sliceBounds] at this ⊢;exact this
   |some y=>simp[Instr.sliceBounds] at this ⊢;simp[this]
  |some z =>
    obtain⟨k,hk⟩:=Hr r U;have Y:=run_sliceBound (P:=P) (w:=w) (code:=.sliceAcap) hk (show hh≤cap by omega);have:=O .sliceB;cases lo with
   |none=>simp[Instr.sliceBounds,Y] at this ⊢;exact this
   |some y=>simp[Instr.sliceBounds,Y] at this ⊢;simp[this]
  simp[execOp,ho,Instr.sliceAt,Instr.slice,run_underlying ht,hv,J,Zi ad,Addr.add_lit,hS]
 ·simp only[Qg];refine⟨by split<;>rfl,ty,es,hb,by omega,fun _=>⟨by omega,cap,c,rfl,hw,ab,Z,aa⟩⟩
theorem kM{t:TypeId}{U:Option Operand}{u:Kt}(G:TD P T h t x lo hi U=some u)(hx:Zo T' x=Zo T x)(e1:∀d,WR T' d lo=WR T d lo)(Y:∀d,WR T' d hi=WR T d hi)(hh:∀b∈u.2.2,h' b=h b):TD P T' h' t x lo hi U=some u:=by
 unfold TD at G ⊢;rw[hx];split at G
 ·split at G
  ·rename_i hb J Z O;split at G
   ·rename_i hc;simp only[Zf] at G;subst G;simp only[hh _ (List.mem_singleton.2 rfl),hb,J,e1,Y,Z,O];rw[if_pos hc]
   ·cases G
  ·cases G
 ·cases G
def DY(P:Program)(T:Nat→Option AV)(h:QY)(t:TypeId)(x:Operand):Option Kt :=
 match P.underlying t,Zo T x with
|some (.slice e),some (.vtl S tk n k m) =>
  match h tk,P.info? e with
 |some (.vec tb G es),some i =>
   match i.zero with
  |some (.int kk z)=>if n=es.length∧S=1∧i.size=1∧k+m≤n then some (.tup [],some (tk,.vec tb G (es.take k++List.replicate m [PV.val (.int kk z)]++es.drop (k+m))),[tk]) else none
  |_=>none
 |_,_=>none
|_,_=>none
theorem kN{t:TypeId}{u:Kt}(G:DY P T h t x=some u)(U:Zo T' x=Zo T x)(J:∀b∈u.2.2,h' b=h b):DY P T' h' t x=some u:=by
 unfold DY at G ⊢;rw[U];split at G
 ·split at G
  ·rename_i hb hi;split at G
   ·rename_i O;split at G
    ·rename_i hc;simp only[Zf] at G;subst G;simp only[J _ (List.mem_singleton.2 rfl),hb,hi,O];rw[if_pos hc]
    ·cases G
   ·cases G
  ·cases G
 ·cases G
theorem nk{es:List (List PV)}(hS:∀e∈es,e.length=1):es.flatten.length=es.length:=by
 have:=KA hS;omega
theorem IB:∀{es:List (List PV)} (hS:∀e∈es,e.length=1) (k:Nat),(es.take k).flatten=es.flatten.take k
|[],_,k=>by simp
|e::es,hS,0=>by simp
|e::es,hS,k+1=>by
  obtain⟨x,rfl⟩:=List.length_eq_one_iff.1 (hS e zq);simp[IB (es:=es) (fun e G=>hS e (by simp[G])) k]
theorem IC:∀{es:List (List PV)} (hS:∀e∈es,e.length=1) (k:Nat),(es.drop k).flatten=es.flatten.drop k
|[],_,k=>by simp
|e::es,hS,0=>by simp
|e::es,hS,k+1=>by
  obtain⟨x,rfl⟩:=List.length_eq_one_iff.1 (hS e zq);simp[IC (es:=es) (fun e G=>hS e (by simp[G])) k]
theorem IE(x:PV):∀m:Nat,(List.replicate m [x]).flatten=List.replicate m x
|0=>rfl
|m+1=>by simp only[List.replicate_succ,List.flatten_cons,IE x m];rfl
theorem IG{M:ZQ}{x:AV}{v:Value}(G:Qg φ h w M x v):∀m:Nat,Ql φ h w M (List.replicate m x) (List.replicate m v)
|0=>by simp[Ql]
|m+1=>by simp only[List.replicate_succ,Ql];exact⟨v,_,rfl,G,IG G m⟩
theorem nu(r:ZG φ M0 N D T h a w){t:TypeId}{u:Kt}(ho:o.op=.call ⟨.builtin .clear,#[x],#[t]⟩)(J:DY P T h t x=some u):Yield P o φ M0 h a w u.1 (ap h u.2.1):=by
 unfold DY at J;split at J;rotate_left
 ·cases J
 rename_i e S tk n k m ht hx;split at J;rotate_left
 ·cases J
 rename_i tb S' es i hb hi;split at J;rotate_left
 ·cases J
 rename_i kk z hz;split at J;rotate_left
 ·cases J
 rename_i hc;obtain⟨hn,aw,ay,a8⟩:=hc;simp only[Zf] at J;subst J;have h2:=r.ev hx;simp only[Qg] at h2;obtain⟨_,Wj,a6,ak,a7,O⟩:=h2;rw[hb] at ak;cases ak;subst aw;obtain⟨_,cap,c0,O,_,_,ax,_⟩:=O hn;simp only[ap];obtain⟨c,ah,hw,ab,aj,ae,hS,ai,Y⟩:=r.hp.blk tk _ hb;simp only[Nat.mul_one] at ab Y;cases hm:m with
|zero =>
  have e1:es.take k++List.replicate 0 [PV.val (.int kk z)]++es.drop (k+0)=es:=by simp
  have e2:upd h tk (.vec tb 1 (es.take k++List.replicate 0 [PV.val (.int kk z)]++es.drop (k+0)))=h:=by
   rw[e1];funext b;by_cases e:tk=b
   ·subst e;simp[upd,hb]
   ·simp[upd,e]
  rw[e2];refine Qt r (v:=.tuple #[]) ?_ (by simp[Qg,Ql]);subst hm;by_cases hq:cap=k
  ·rw[if_pos hq] at O;simp[execOp,ho,resolve,invoke,builtin,Builtin.clear_,run_underlying ht,O]
  ·rw[if_neg hq] at O;simp[execOp,ho,resolve,invoke,builtin,Builtin.clear_,run_underlying ht,O]
|succ m' =>
  rw[←hm];have hne:¬cap=k:=by omega
  rw[if_neg hne,Nat.mul_one] at O
  let G:List Value:=List.replicate m (.int kk z)
  have U:G.length=m:=by simp[G]
  have h5:∀v∈G,v.oneCell'=true:=fun v ao=>by rw[List.eq_of_mem_replicate ao];rfl
  have af:=run_storeCells_at P (φ tk) k tb G 0 c w hw (by rw[U];omega) h5;simp only[Nat.add_zero,U] at af
  let es':=es.take k++List.replicate m [PV.val (.int kk z)]++es.drop (k+m)
  have aa:es'.length=es.length:=by simp[es'];omega
  have al:∀e∈es',e.length=1:=fun e J=>by
   simp only[es',List.mem_append] at J;rcases J with(J|J)|J
   ·exact hS e (List.mem_of_mem_take J)
   ·rw[List.eq_of_mem_replicate J];rfl
   ·exact hS e (List.mem_of_mem_drop J)
  let C:Array Value:=(c.toList.take k++G++c.toList.drop (k+m)).toArray
  have ac:C.size=c.size:=by simp[C,G];omega
  have av:es'.flatten=es.flatten.take k++List.replicate m (PV.val (.int kk z))++es.flatten.drop (k+m):=by
   have e3:(List.replicate m [PV.val (.int kk z)]).flatten=List.replicate m (PV.val (.int kk z)):=IE _ m;simp only[es',List.flatten_append,IB hS,IC hS,e3]
  have az:=nk hS
  have au:C.toList.take es'.length=(c.toList.take es.length).take k++G++(c.toList.take es.length).drop (k+m):=by
   rw[aa];simp only[C];rw[List.take_append,List.take_append];simp only[mR,List.length_take,U,Array.length_toList];have q1:min k c.size=k:=by omega
   rw[q1];congr 1
   ·congr 1
    ·rw[List.take_take,List.take_take];congr 1;omega
    ·rw[List.take_of_length_le (by rw[U];omega)]
   ·rw[List.drop_take]
  have ad:Ql φ h w (MM φ h M0) (es'.flatten.map .p) (C.toList.take (es'.length*1)):=by
   rw[Nat.mul_one,au,av];simp only[List.map_append,List.map_take,List.map_drop,List.map_replicate];exact ZI (ZI (Ul _ Y) (IG (by simp[Qg,Q6]) m)) (Um _ Y)
  obtain⟨E,X⟩:=DV (φ:=φ) (h:=h) (w:=w) (M0:=M0) (es':=es') (c':=C) hb hw (by rw[aa];exact Yf _) ac r.hp;have Z:(w.setRow (φ tk) C).heap[φ tk]?=some (.cells C tb (0,0)):=setRow_heap w _ c C tb _ hw
  have hH:=NI (c':=C) (cap:=ah) hb r.hp E X (fun _ _=>rfl) (.inl rfl) (fun d hd an=>setRow_other w _ _ C (fun e=>an (r.hp.inj d tk hd (by rw[hb];simp) e))) Z (by rw[ac,ab,Nat.mul_one]) (by rw[aa];exact aj) ae al
   (fun v O=>by
    simp only[C,List.mem_append] at O;rcases O with(O|O)|O
    ·exact ai v (List.mem_of_mem_take O)
    ·exact h5 v O
    ·exact ai v (List.mem_of_mem_drop O)) ad
  refine⟨.value (.tuple #[]),.tuple #[],_,φ,?_,.inl rfl,by simp[Qg,Ql],hH,E,X⟩
  have aq:(Builtin.zeroCells (Value.cells (.int kk z)) m).toList=G:=by
   show(Builtin.zeroCells #[.int kk z] m).toList=G;simp only[G,Builtin.zeroCells];apply List.ext_getElem
   ·simp
   ·intro j h1 h2;simp[Nat.mod_one]
  have ar:(zeroValue e).run P w=.ok (.int kk z) w:=by simp[zeroValue,typeInfo,hi,hz]
  subst hm;simp[execOp,ho,resolve,invoke,builtin,Builtin.clear_,run_underlying ht,O,ar,aq,af,C]
end
def Xe(P:Program)(t:TypeId)(v:Value):Bool:=match P.underlying t,v with
|some .bool,.bool _=>true
|some (.int _),.int _ _=>true
|some .string,.string _=>true
|_,_=>false
def Wv(P:Program):Nat→List Field→List Value→Bool
|_,[],[]=>true
|i,f::J,v::G=>decide (f.offset=i)&&(f.name != "_")&&Xe P f.type v&&Wv P (i+1) J G
|_,_,_=>false
def DZ(P:Program)(t:TypeId)(v:Value):Bool:=Xe P t v||match P.underlying t,v with
|some (.struct fields),.agg cs=>Wv P 0 fields.toList cs.toList
|_,_=>false
section
variable {P:Program}{w:World}
theorem NL{t:TypeId}(h:Xe P t v=true)(e:Bool)(n:Nat):(Instr.checkKey e (n+1) t v).run P w=.ok () w:=by
 unfold Xe at h;unfold Instr.checkKey;cases hd:P.underlying t with
|none=>simp[hd] at h
|some d =>
  simp only[Sem.run_bind,run_underlying hd,Result.andThen];rw[hd] at h;cases d<;>cases v<;>simp_all
theorem TE{t:TypeId}(h:Xe P t v=true){k:TypeDesc}(G:P.underlying t=some k):G6 k=false:=by
 unfold Xe at h;rw[G] at h;cases k<;>first|rfl|(cases v<;>simp at h)
theorem FU{t:TypeId}(h:DZ P t v=true):Xe P t v=true∨∃fields cs,P.underlying t=some (.struct fields)∧v=.agg cs∧Wv P 0 fields.toList cs.toList=true:=by
 unfold DZ at h;rw[Bool.or_eq_true] at h;rcases h with h|h
 ·exact .inl h
 ·split at h
  ·rename_i fields cs G;exact .inr ⟨fields,cs,G,rfl,h⟩
  ·cases h
theorem vV{t:TypeId}(h:Xe P t v=true){l:List Value}(hi:l[i]?=some v):(part t l.toArray i).run P w=.ok v w:=by
 cases hd:P.underlying t with
|none=>simp[Xe,hd] at h
|some d=>simp[part,Hl hd,TE h hd,hi]
theorem Md:∀(J:List Field) (G:List Value) (i:Nat) (l:List Value) (e:Bool) (n:Nat),Wv P i J G=true→l.drop i=G →
  (forIn J PUnit.unit fun f _=>(do
   if f.name≠"_" then Instr.checkKey e (n+1) f.type (←part f.type l.toArray f.offset)
   pure (ForInStep.yield PUnit.unit):Sem (ForInStep PUnit))).run P w=.ok PUnit.unit w
|[],G,i,l,e,n,_,_=>by simp
|f::J,[],i,l,e,n,h,_=>by simp[Wv] at h
|f::J,v::G,i,l,e,n,h,U=>by
  simp only[Wv,KL,Ii,bne_iff_ne] at h;obtain⟨⟨⟨h1,h2⟩,Y⟩,Z⟩:=h
  have hi:l[i]?=some v:=by
   have:=congrArg (·[0]?) U;simpa using this
  have O:l.drop (i+1)=G:=by
   rw[←List.drop_drop,U];rfl
  simp only[List.forIn_cons,Sem.run_bind,h2,ne_eq,not_false_eq_true,if_true,h1,vV Y hi,Result.andThen_ok,NL Y,Sem.run_pure];exact Md J G (i+1) l e n Z O
theorem FW{t:TypeId}(h:DZ P t v=true)(e:Bool):(Instr.checkKey e 10000 t v).run P w=.ok () w:=by
 rcases FU h with hp|⟨fields,cs,G,rfl,hp⟩
 ·exact NL hp e 9999
 ·rw[show(10000:Nat)=9999+1 from rfl,Instr.checkKey];simp only[Sem.run_bind,run_underlying G,Result.andThen_ok];rw[←Array.forIn_toList];have:=Md (w:=w) fields.toList cs.toList 0 cs.toList e 9998 hp zq;simp only[Array.toArray_toList] at this;rw[this];rfl
theorem zb{t:TypeId}{a b:Value}(G:Xe P t a=true)(hb:Xe P t b=true)(h:eqV P (d+1) t a b=some true):a=b:=by
 unfold Xe at G hb;unfold eqV at h;cases hd:P.underlying t with
|none=>simp[hd] at G
|some k =>
  rw[hd] at G hb h;cases k<;>cases a<;>simp only[Bool.false_eq_true] at G<;>cases b<;>simp only[Bool.false_eq_true] at hb<;>simp only at h
  ·simpa using h
  ·split at h
   ·rename_i e;simp only[Zf,Qq] at h;rw[e,eq_of_beq h]
   ·cases h
  ·simp only[Zf,Zb] at h;have J:=eq_of_beq h;have:=congrArg DF J;rw[kH,kH] at this;rw[this]
theorem II{d:Nat}:∀(Y:List Field) (xs ys:List Value) (i:Nat) (O J:List Value),Wv P i Y xs=true→Wv P i Y ys=true→O.drop i=xs→J.drop i=ys→eqV.eqFs P (d+1) O J Y=some true→xs=ys
|[],[],[],_,_,_,_,_,_,_,_=>rfl
|[],x::xs,ys,i,O,J,hx,_,_,_,_=>by simp[Wv] at hx
|[],[],y::ys,i,O,J,_,Z,_,_,_=>by simp[Wv] at Z
|f::Y,[],ys,i,O,J,hx,_,_,_,_=>by simp[Wv] at hx
|f::Y,x::xs,[],i,O,J,_,Z,_,_,_=>by simp[Wv] at Z
|f::Y,x::xs,y::ys,i,O,J,hx,Z,ac,aa,h=>by
  simp only[Wv,KL,Ii,bne_iff_ne] at hx Z;obtain⟨⟨⟨h1,h2⟩,h3⟩,h4⟩:=hx;obtain⟨⟨⟨_,_⟩,ab⟩,ad⟩:=Z
  have ae:O[i]?=some x:=by
   have:=congrArg (·[0]?) ac;simpa using this
  have af:J[i]?=some y:=by
   have:=congrArg (·[0]?) aa;simpa using this
  have G:∀(l:List Value) (v:Value),Xe P f.type v=true→l[i]?=some v→∀q,Gt P f.type l i=some q→q=v:=by
   intro l v hv hl q U;unfold Gt at U;cases hd:P.underlying f.type with
  |none=>simp[Xe,hd] at hv
  |some k =>
    have ah:=TE hv hd;rw[hd] at U;split at U
    ·rename_i dd ii e1 e2;cases e1;rw[ah] at U;simp only[Bool.false_eq_true,if_false] at U;rw[hl] at U;exact(Option.some.inj U).symm
    ·cases U
  simp only[eqV.eqFs,h2,if_false] at h;rw[h1] at h;split at h
  ·rename_i a b e1 e2;obtain rfl:=G O x h3 ae a e1;obtain rfl:=G J y ab af b e2;split at h
   ·rename_i p q e3 e4;simp only[Zf,KL] at h;rw[h.1] at e3;rw[h.2] at e4;rw[zb h3 ab e3,II Y xs ys (i+1) O J h4 ad (by rw[←List.drop_drop,ac];rfl) (by rw[←List.drop_drop,aa];rfl) e4]
   ·cases h
  ·cases h
theorem eF{t:TypeId}{a b:Value}(Z:DZ P t a=true)(hb:DZ P t b=true)(h:eqV P 4 t a b=some true):a=b:=by
 rcases FU Z with Y|⟨fields,xs,J,rfl,Y⟩
 ·rcases FU hb with G|⟨fields,ys,J,rfl,G⟩
  ·exact zb Y G h
  ·have:=TE Y J;cases this
 ·rcases FU hb with G|⟨O,ys,U,rfl,G⟩
  ·have:=TE G J;cases this
  ·rw[J] at U;cases U;unfold eqV at h;rw[J] at h;simp only at h;split at h
   ·cases h
   ·have:=II fields.toList xs.toList ys.toList 0 xs.toList ys.toList Y G zq zq h;rw[Array.ext' this]
theorem D5{t:TypeId}(h:Xe P t v=true)(n:Nat):Instr.sameBits n v v=true:=by
 unfold Xe at h;split at h
 ·cases n<;>simp[Instr.sameBits]
 ·cases n<;>simp[Instr.sameBits]
 ·rename_i s _;obtain⟨x⟩:=s;cases n<;>(show(x==x)=true;simp)
 ·cases h
theorem SF(n:Nat):∀(J:List Field) (G:List Value) (i:Nat),Wv P i J G=true→(G.zip G).all (fun(x,y)=>Instr.sameBits n x y)=true
|[],[],_,_=>rfl
|[],v::G,i,h=>by simp[Wv] at h
|f::J,[],i,h=>by simp[Wv] at h
|f::J,v::G,i,h=>by
  simp only[Wv,KL] at h;simp only[List.zip_cons_cons,List.all_cons,KL];exact⟨D5 h.1.2 n,SF n J G (i+1) h.2⟩
theorem ny{t:TypeId}(h:DZ P t v=true):Instr.sameBits 10000 v v=true:=by
 rcases FU h with hp|⟨fields,cs,G,rfl,hp⟩
 ·exact D5 hp _
 ·rw[show(10000:Nat)=9999+1 from rfl,Instr.sameBits];simp only[beq_self_eq_true,Bool.true_and];exact SF 9999 _ _ 0 hp
end
def He(P:Program)(kt:TypeId)(k:Value):Nat→List (Value×PV)→Option (Option (Nat×PV))
|_,[]=>some none
|i,(k',v)::r=>match (if DZ P kt k' then eqV P 4 kt k k' else none) with
 |some true=>some (some (i,v))
 |some false=>He P kt k (i+1) r
 |none=>none
section
variable {P:Program}{w:World}
theorem SG{t:TypeId}{d:TypeDesc}(Y:P.underlying t=some d){a b:Value}{x y:Bool}(J:Instr.sameNow d a b=some x)(G:eqV P 4 t a b=some y):x=y:=by
 unfold eqV at G;rw[Y] at G;unfold Instr.sameNow at J;split at J
 ·simp only at G;rename_i k k1 n1 k2 n2;split at J
  ·rename_i e;rw[if_pos e] at G;rw[←Option.some.inj J,←Option.some.inj G];rfl
  ·cases J
 ·simp only at G;rename_i s1 Z;rw[←Option.some.inj J,←Option.some.inj G];obtain⟨O⟩:=s1;obtain⟨U⟩:=Z;show(O==U)=Zb (XV ⟨O⟩) (XV ⟨U⟩);unfold Zb XV;rw[Bool.eq_iff_iff];simp
 ·simp only at G;rw[←Option.some.inj J,←Option.some.inj G]
 ·cases J
def NM(es:List (Value×PV))(en:List MapEntry)(i:Nat)(r:Option (Nat×PV))(q:Option (Nat×Value)):Prop :=
 match r with
|none=>q=none
|some (j,x)=>∃m e,j=i+m∧q=some (i+m,e.val)∧en[m]?=some e∧es[m]?=some (e.key,x)
theorem IJ{kt:TypeId}{k:Value}:∀(es:List (Value×PV)) (en:List MapEntry) (i:Nat) (r:Option (Nat×PV)),en.map (·.key)=es.map (·.1)→He P kt k i es=some r→∃q,(Instr.findAsking kt k en i).run P w=.ok q w∧NM es en i r q
|[],en,i,r,U,h=>by
  simp only[He,Zf] at h;subst h;have:en=[]:=by simpa using U
  subst this;exact⟨none,by simp[Instr.findAsking],rfl⟩
|(k',v)::es,[],i,r,U,h=>by simp at U
|(k',v)::es,e::en,i,r,U,h=>by
  simp only[U8,List.cons.injEq] at U;obtain⟨O,Y⟩:=U;simp only[He] at h;split at h
  ·rename_i J;simp only[Zf] at h;subst h;split at J
   ·have G:(Op.equal kt k k').run P w=.ok true w:=Bn fun D Z=>(kL 4).1 _ _ _ _ J D Z
    exact⟨some (i,e.val),by simp[Instr.findAsking,O,G],0,e,by simp,by simp,by simp,by simp[O]⟩
   ·cases J
  ·rename_i J;split at J
   ·have G:(Op.equal kt k k').run P w=.ok false w:=Bn fun D Z=>(kL 4).1 _ _ _ _ J D Z
    obtain⟨q,h1,h2⟩:=IJ es en (i+1) r Y h;refine⟨q,by simp[Instr.findAsking,O,G,h1],?_⟩;unfold NM at h2 ⊢;split
    ·exact h2
    ·rename_i j x;obtain⟨m,e',g1,g2,g3,g4⟩:=h2;exact⟨m+1,e',by omega,by rw[g2];congr 2;omega,by simpa using g3,by simpa using g4⟩
   ·cases J
  ·cases h
theorem IK{kt:TypeId}{d:TypeDesc}{k:Value}(Y:P.underlying kt=some d):∀(es:List (Value×PV)) (en:List MapEntry) (i:Nat) (r:Option (Nat×PV)) (q:Option (Nat×Value)),en.map (·.key)=es.map (·.1)→He P kt k i es=some r→Instr.findNow d k en i=some q→NM es en i r q
|[],en,i,r,q,O,h,G=>by
  simp only[He,Zf] at h;subst h;have:en=[]:=by simpa using O
  subst this;simp only[Instr.findNow,Zf] at G;exact G.symm
|(k',v)::es,[],i,r,q,O,h,G=>by simp at O
|(k',v)::es,e::en,i,r,q,O,h,G=>by
  simp only[U8,List.cons.injEq] at O;obtain⟨U,Z⟩:=O;simp only[He] at h;simp only[Instr.findNow,U] at G;cases hs:Instr.sameNow d k k' with
 |none=>rw[hs] at G;cases G
 |some b =>
   rw[hs] at G;split at h
   ·rename_i J;simp only[Zf] at h;subst h;split at J
    ·obtain rfl:=SG Y hs J;simp only[Zf] at G;exact⟨0,e,by simp,by simpa using G.symm,by simp,by simp[U]⟩
    ·cases J
   ·rename_i J;split at J
    ·obtain rfl:=SG Y hs J;simp only at G;have h2:=IK Y es en (i+1) r q Z h G;unfold NM at h2 ⊢;split
     ·exact h2
     ·rename_i j x;obtain⟨m,e',g1,g2,g3,g4⟩:=h2;exact⟨m+1,e',by omega,by rw[g2];congr 2;omega,by simpa using g3,by simpa using g4⟩
    ·cases J
   ·cases h
theorem Ur{k:Value}{d:TypeDesc}(G:P.underlying kt=some d){es:List (Value×PV)}{en:List MapEntry}{r:Option (Nat×PV)}(J:en.map (·.key)=es.map (·.1))(h:He P kt k 0 es=some r) :
  ∃q,(Instr.findKey kt k en).run P w=.ok q w∧NM es en 0 r q:=by
 cases hn:Instr.findNow d k en 0 with
|some q=>exact⟨q,by simp[Instr.findKey,run_underlying G,Result.andThen,hn],IK G es en 0 r q J h hn⟩
|none =>
  obtain⟨q,U,O⟩:=IJ (w:=w) es en 0 r J h;exact⟨q,by simp[Instr.findKey,run_underlying G,Result.andThen,hn,U],O⟩
theorem ze{kt:TypeId}{k:Value}:∀(es:List (Value×PV)) (i j:Nat) (x:PV),He P kt k i es=some (some (j,x))→DZ P kt k=true→∃m,j=i+m∧es[m]?=some (k,x)
|[],i,j,x,h,_=>by simp[He] at h
|(k',v)::es,i,j,x,h,O=>by
  simp only[He] at h;split at h
  ·rename_i G;simp only[Zf,DC] at h;obtain⟨rfl,rfl⟩:=h;split at G
   ·rename_i J;exact⟨0,by simp,by simp[eF O J G]⟩
   ·cases G
  ·obtain⟨m,Y,U⟩:=ze es (i+1) j x h O;exact⟨m+1,by omega,by simpa using U⟩
  ·cases h
end
def D6(h:QY)(dst:Option Tmp)(rsv:Option Operand):Option Kt:=match dst,rsv with
|some d,none=>if h d=none then some (.mv d,some (d,.mp []),[d]) else none
|_,_=>none
def D7(ok:Bool)(v:AV)(b:Bool):AV:=if ok then .tup [v,.p (.val (.bool b))] else v
def avP:PV→AV|.val v=>Ik v|.sl S es=>.p (.sl S es)
def pvO:AV→Option PV|.p x=>some x|.agg cs=>(DJ cs).map fun l=>.val (.agg l.toArray)|_=>none
theorem eG{x:PV}(G:Qg φ h w M (.p x) v):Qg φ h w M (avP x) v:=by
 cases x with
|val u=>simp only[Qg,Q6] at G;rw[G];exact Jr u
|sl S es=>exact G
theorem eH{y:AV}{x:PV}(G:pvO y=some x)(J:Qg φ h w M y v):Qg φ h w M (.p x) v:=by
 cases y with
|p z=>simp only[pvO,Zf] at G;subst G;exact J
|agg cs =>
  simp only[pvO,LC] at G;obtain⟨m,U,rfl⟩:=G;simp only[Qg] at J;obtain⟨l,rfl,O⟩:=J;simp only[Qg,Q6];rw[Bg.2 cs l m O U]
|_=>cases G
def Ud(P:Program)(T:Nat→Option AV)(h:QY)(t:TypeId)(x ix:Operand)(ok:Bool):Option Kt :=
 match P.underlying t,Zo T x,Zo T ix with
|some (.map kt e),some (.mv b),some kv =>
  match h b,Ej kv,P.underlying kt with
 |some (.mp es),some k,some _ =>
   if DZ P kt k then
    match He P kt k 0 es with
   |some (some (_,v))=>some (D7 ok (avP v) true,none,[b])
   |some none=>match (P.info? e).bind (·.zero) with|some z=>some (D7 ok (Ik z) false,none,[b])|none=>none
   |none=>none
   else none
 |_,_,_=>none
|_,_,_=>none
def VR(P:Program)(T:Nat→Option AV)(h:QY)(t:TypeId)(x ix y:Operand):Option Kt :=
 match P.underlying t,Zo T x,Zo T ix,Zo T y with
|some (.map kt e),some (.mv b),some kv,some y =>
  match h b,Ej kv,P.underlying kt,pvO y with
 |some (.mp es),some k,some _,some v =>
   if DZ P kt k then
    match He P kt k 0 es with
   |some (some (i,_))=>some (.p (.val undef),some (b,.mp (es.set i (k,v))),[b])
   |some none=>some (.p (.val undef),some (b,.mp (es++[(k,v)])),[b])
   |none=>none
   else none
 |_,_,_,_=>none
|_,_,_,_=>none
section
variable {P:Program}{o:Oper}{φ:Nat→Nat}{M0:ZQ}{N:Nat}{D:DB}{T:Nat→Option AV}{h:QY}{a:Act}{w:World}
theorem xA(r:ZG φ M0 N D T h a w){t:TypeId}{rsv:Option Operand}{u:Kt}(Y:o.op=.makeMap t rsv)(G:D6 h o.dst rsv=some u):Yield P o φ M0 h a w u.1 (ap h u.2.1):=by
 unfold D6 at G;split at G
 ·rename_i d hd;split at G
  ·rename_i U;simp only[Zf] at G;subst G;refine Yield.of_lift r 1 fun φ r E0 Z O=>?_
   obtain⟨E,X⟩:=XX (w':=w.alloc (.map #[] 0)) (o:=.map #[] 0) (b:=d) (k:=.mp []) (M0:=M0) rfl rfl rfl rfl U r.hp O
   have J:RelB (QM φ d w.heap.size) (upd h d (.mp [])) (w.alloc (.map #[] 0)) (MM (QM φ d w.heap.size) (upd h d (.mp [])) M0) w.heap.size (.mp []):=by
    refine⟨#[],0,by show(w.heap.push _)[w.heap.size]?=_;simp,rfl,rfl⟩
   refine⟨_,.map (some w.heap.size),_,QM φ d w.heap.size,?_,.inl rfl,?_,XY rfl U r.hp O E X J,E,X⟩
   ·simp[execOp,Y,Instr.makeMap,newObj,Sem.run]
   ·simp only[Qg,ap];exact⟨by simp[QM],.mp [],by simp[upd],rfl⟩
  ·cases G
 ·cases G
theorem D8{M:ZQ}:∀{xs:List AV} {J:List Value} {i:Nat} {x:AV} {v:Value},Ql φ h w M xs J→xs[i]?=some x→J[i]?=some v→Qg φ h w M x v
|[],J,i,x,v,_,G,_=>by simp at G
|y::xs,J,i,x,v,U,G,O=>by
  simp only[Ql] at U;obtain⟨z,zs,rfl,Y,Z⟩:=U;cases i with
 |zero =>
   simp only[List.getElem?_cons_zero,Zf] at G O;subst G O;exact Y
 |succ i=>exact D8 Z (by simpa using G) (by simpa using O)
theorem nz(r:ZG φ M0 N D T h a w){t:TypeId}{u:Kt}(ho:o.op=.lookup t x ix ok)(G:Ud P T h t x ix ok=some u):u.2.1=none∧Yield P o φ M0 h a w u.1 h:=by
 unfold Ud at G;split at G;rotate_left
 ·cases G
 rename_i kt e b kv ht hx ae;split at G;rotate_left
 ·cases G
 rename_i es k kd hb hk ac;split at G;rotate_left
 ·cases G
 rename_i ad;have aa:=r.ev hx;simp only[Qg] at aa;have U:=(Bg.1 _ _ _ (r.ev ae) hk);obtain⟨en,clock,hw,J,ab⟩:=r.hp.blk b _ hb;have O:(getObj (φ b)).run P w=.ok (.map en clock) w:=by simp[getObj,Sem.run,hw]
 have Z:=FW (w:=w) ad en.isEmpty;split at G
 ·rename_i i v hf;simp only[Zf] at G;subst G;refine⟨rfl,?_⟩;obtain⟨q,BO,m,e',g1,g2,g3,g4⟩:=Ur (w:=w) ac J hf;have Y:Qg φ h w (MM φ h M0) (avP v) e'.val:=eG <| D8 ab (i:=m) (by simp[g4]) (by simp[g3]);subst g2;refine Qt r (v:=if ok then .tuple #[e'.val,.bool true] else e'.val) ?_ ?_
  ·simp[execOp,ho,Instr.lookup,run_underlying ht,aa.1,O,U,Z,BO,Result.andThen]
  ·unfold D7;cases ok
   ·exact Y
   ·simp only[if_true,Qg];exact⟨[e'.val,.bool true],by simp,_,_,rfl,Y,_,_,rfl,by simp[Qg,Q6],rfl⟩
 ·rename_i hf;split at G
  ·rename_i z hz;simp only[Zf] at G;subst G;refine⟨rfl,?_⟩;obtain⟨inf,hi,hz⟩:=Nw.1 hz;obtain⟨q,BO,Tt⟩:=Ur (w:=w) ac J hf;have Tt:q=none:=Tt;subst Tt;refine Qt r (v:=if ok then .tuple #[z,.bool false] else z) ?_ ?_
   ·simp[execOp,ho,Instr.lookup,run_underlying ht,aa.1,O,U,Z,BO,Result.andThen,zeroValue,typeInfo,program,Sem.run,hi,hz]
   ·unfold D7;cases ok
    ·exact Jr z
    ·simp only[if_true,Qg];exact⟨[z,.bool false],by simp,_,_,rfl,Jr z,_,_,rfl,by simp[Qg,Q6],rfl⟩
  ·cases G
 ·cases G
theorem kP{es es':List (Value×PV)}{ob:Obj}(hb:h b=some (.mp es))(r:Z9 φ h w M0) :
  Zl φ h w φ (upd h b (.mp es')) (w.putObj (φ b) ob)∧VQ φ h w φ (upd h b (.mp es')) (w.putObj (φ b) ob):=by
 have hlt:=Bf r hb (fun _ _ e=>by cases e);have G:∀x,x≠φ b→(w.putObj (φ b) ob).heap[x]?=w.heap[x]?:=fun x hx=>World.putObj_heap_other hx
 have hne:∀c k,h c=some k→k.ob=none→¬b=c:=fun c k hc hk e=>by rw[←e,hb] at hc;cases hc;cases hk
 have Y:∀c k,h c=some k→¬b=c→φ c≠φ b:=fun c k hc e h2=>e (r.inj c b (by rw[hc];simp) (by rw[hb];simp) h2).symm
 have aa:∀c ty cs,h c=some (.box ty cs)→upd h b (.mp es') c=some (.box ty cs):=fun c ty cs hc=>by simp[upd,hne c _ hc rfl,hc]
 have ab:∀t ty S n,h t=some (.arr ty S n)→∃n',upd h b (.mp es') t=some (.arr ty S n')∧n≤n'∧(n'=n→AKept w (w.putObj (φ b) ob) (φ t) (φ t) ty):=by
  intro t ty S n J;have e:=hne t _ J rfl;exact⟨n,by simp[upd,e,J],Yf _,fun _=>VN (rfl) (by rw[G _ (Y t _ J e)])⟩
 have U:∀t ty S es,h t=some (.vec ty S es)→∃O,upd h b (.mp es') t=some (.vec ty S O)∧es.length≤O.length∧(O.length=es.length→φ t=φ t∧∀c,w.heap[φ t]?=some (.cells c ty (0,0))→∃c',(w.putObj (φ b) ob).heap[φ t]?=some (.cells c' ty (0,0))∧c'.size=c.size):=by
  intro t ty S n J;have e:=hne t _ J rfl;exact⟨n,by simp[upd,e,J],Yf _,fun _=>⟨rfl,fun c hc=>⟨c,by rw[G _ (Y t _ J e)];exact hc,rfl⟩⟩⟩
 have Z:∀c k x,h c=some k→k.ob=some x→(∃k',upd h b (.mp es') c=some k'∧k'.ob=some x)∧φ c=φ c:=by
  intro c k x hc ho;by_cases e:b=c
  ·subst e;rw[hb] at hc;cases hc;exact⟨⟨.mp es',by simp[upd],ho⟩,rfl⟩
  ·exact⟨⟨k,by simp[upd,e,hc],ho⟩,rfl⟩
 refine⟨⟨rfl,rfl,rfl,by simp[World.putObj],?_,?_,?_,fun c ty cs _ hc=>⟨⟨cs,aa c ty cs hc⟩,rfl⟩,fun t ty S n _=>ab t ty S n,fun t ty S es _=>U t ty S es,fun c k x _=>Z c k x⟩,fun c ty cs hc=>⟨⟨ty,cs,aa c ty cs hc⟩,rfl⟩,ab,U,Z⟩
 ·intro x _ ac;exact G x (fun e=>ac b (by rw[hb];simp) e.symm)
 ·intro x y _ hm;have:x≠φ b:=fun e=>hm ⟨b,_,hb,e.symm,trivial⟩
  simp[World.cell?,G x this]
 ·rintro x y _ ⟨d,q,h1,h2,h3⟩;by_cases e:b=d
  ·exact⟨b,_,hb,by rw[e];exact h2,trivial⟩
  ·exact⟨d,q,by simpa [upd,e] using h1,h2,h3⟩
theorem uV{es es':List (Value×PV)}{J:Array MapEntry}{G:Nat}(hb:h b=some (.mp es))(r:Z9 φ h w M0)(Y:J.toList.map (·.key)=es'.map (·.1))(Z:Ql φ h w (MM φ h M0) (es'.map fun p=>.p p.2) (J.toList.map (·.val))) :
  Z9 φ (upd h b (.mp es')) (w.putObj (φ b) (.map J G)) M0:=by
 obtain⟨E,X⟩:=kP (es':=es') (ob:=.map J G) hb r;have hlt:=Bf r hb (fun _ _ e=>by cases e)
 have g:∀d,upd h b (.mp es') d≠none→h d≠none:=fun d O=>by
  by_cases e:b=d
  ·rw[←e,hb];simp
  ·simpa [upd,e] using O
 refine⟨fun c d hc O U=>r.inj c d (g c hc) (g d O) U,fun c k hc=>?_,fun c hc=>r.fr c (g c hc),fun x o hx=>by simpa [World.putObj] using r.lt x o hx,r.gm.evol E⟩;by_cases e:b=c
 ·subst e;have:k=.mp es':=by simpa [upd] using hc.symm
  subst this;exact⟨J,G,World.putObj_heap_same hlt,Y,(QZ (E.keeps M0) X).2 _ _ Z⟩
 ·have hc':h c=some k:=by simpa [upd,e] using hc
  exact Ku (E.keeps M0) X (World.putObj_heap_other fun h2=>e (r.inj c b (by rw[hc'];simp) (by rw[hb];simp) h2).symm) (r.blk c k hc')
theorem zf{M:ZQ}:∀{xs:List AV} {J:List Value} {i:Nat} {x:AV} {v:Value},Ql φ h w M xs J→Qg φ h w M x v→Ql φ h w M (xs.set i x) (J.set i v)
|[],J,i,x,v,G,_=>by
  simp only[Ql] at G;subst G;simp[Ql]
|y::xs,J,i,x,v,G,U=>by
  simp only[Ql] at G;obtain⟨z,Z,rfl,Y,O⟩:=G;cases i with
 |zero=>simp only[List.set_cons_zero,Ql];exact⟨_,_,rfl,U,O⟩
 |succ i=>simp only[List.set_cons_succ,Ql];exact⟨_,_,rfl,Y,zf O U⟩
theorem ML{M:ZQ}:∀{xs:List AV} {J:List Value} {x:AV} {v:Value},Ql φ h w M xs J→Qg φ h w M x v→Ql φ h w M (xs++[x]) (J++[v])
|[],J,x,v,G,O=>by
  simp only[Ql] at G;subst G;exact⟨v,[],rfl,O,rfl⟩
|y::xs,J,x,v,G,O=>by
  simp only[Ql] at G;obtain⟨z,U,rfl,Y,Z⟩:=G;exact⟨z,U++[v],rfl,Y,ML Z O⟩
theorem IL{e:MapEntry}(k v:Value)(O:en.toList[i]?=some e):(en.modify i fun e=>{ e with key:=k,val:=v }).toList=en.toList.set i { e with key:=k,val:=v }:=by
 apply List.ext_getElem?;intro j;simp only[Array.getElem?_toList,Array.getElem?_modify,List.getElem?_set];by_cases G:i=j
 ·subst G;have J:en[i]?=some e:=by simpa using O
  have hlt:i<en.toList.length:=(MG.1 O).1;simp[J];simpa using hlt
 ·simp[G]
theorem kR(r:ZG φ M0 N D T h a w){t:TypeId}{u:Kt}(ho:o.op=.mapUpdate t x ix y)(J:VR P T h t x ix y=some u):Yield P o φ M0 h a w u.1 (ap h u.2.1):=by
 unfold VR at J;split at J;rotate_left
 ·cases J
 rename_i kt e b kv y0 ht hx af hy;split at J;rotate_left
 ·cases J
 rename_i es k kd v hb hk ae aj;split at J;rotate_left
 ·cases J
 rename_i U;have ac:=r.ev hx;simp only[Qg] at ac;have Z:=(Bg.1 _ _ _ (r.ev af) hk);have ad:=eH aj (r.ev hy);obtain⟨en,clock,hw,G,O⟩:=r.hp.blk b _ hb;have Y:(getObj (φ b)).run P w=.ok (.map en clock) w:=by simp[getObj,Sem.run,hw]
 have aa:∀ob,(setObj (φ b) ob).run P w=.ok () (w.putObj (φ b) ob):=fun ob=>by simp[setObj,Sem.run,hw,World.putObj]
 have ab:=FW (w:=w) U false;split at J
 ·rename_i i v0 hf;simp only[Zf] at J;subst J;simp only[ap];obtain⟨q,BO,m,e',g1,g2,g3,g4⟩:=Ur (w:=w) ae G hf;obtain⟨m',an,ah⟩:=ze es 0 i v0 hf U;have ak:m'=m:=by omega
  subst ak;have al:e'.key=k:=by rw[ah] at g4;exact((Prod.mk.inj (Option.some.inj g4)).1).symm
  have hi:i=m':=by omega
  subst hi;have ai:en[i]?=some e':=by simpa using g3
  obtain⟨E,X⟩:=kP (es':=es.set i (k,v)) (ob:=.map (en.modify i fun e=>{ e with key:=k,val:=a.eval y }) clock) hb r.hp;refine⟨.skip,undef,w.putObj (φ b) (.map (en.modify i fun e=>{ e with key:=k,val:=a.eval y }) clock),φ,?_,.inr ⟨rfl,rfl⟩,by simp[Qg,Q6],uV hb r.hp ?_ ?_,E,X⟩
  ·simp[execOp,ho,Instr.mapUpdate,run_underlying ht,ac.1,Y,Z,ab,BO,g2,Result.andThen,ai,al,Instr.keyThatStays,ny U,aa]
  ·rw[IL k (a.eval y) g3,List.map_set,List.map_set,G]
  ·rw[IL k (a.eval y) g3,List.map_set,List.map_set];exact zf O ad
 ·rename_i hf;simp only[Zf] at J;subst J;simp only[ap];obtain⟨q,BO,Tt⟩:=Ur (w:=w) ae G hf;have Tt:q=none:=Tt;subst Tt;obtain⟨E,X⟩:=kP (es':=es++[(k,v)]) (ob:=.map (en.push { key:=k,val:=a.eval y,born:=clock }) (clock+1)) hb r.hp;refine⟨.skip,undef,w.putObj (φ b) (.map (en.push { key:=k,val:=a.eval y,born:=clock }) (clock+1)),φ,?_,.inr ⟨rfl,rfl⟩,by simp[Qg,Q6],uV hb r.hp ?_ ?_,E,X⟩
  ·simp[execOp,ho,Instr.mapUpdate,run_underlying ht,ac.1,Y,Z,ab,BO,Result.andThen,aa]
  ·simp[G]
  ·simp only[Array.toList_push,List.map_append,U8,List.map_nil];exact ML O ad
 ·cases J
theorem zg{q:Addr}{c m k:Nat}(J:o.op=.binOp op tx x y ty)(Y:P.underlying tx=some (.slice e))(U:a.eval x=.slice (some q) n c)(O:a.eval y=.slice none m k) :
  (op=.eql→(execOp a.eval o).run P w=.ok (.value (.bool false)) w)∧(op=.neq→(execOp a.eval o).run P w=.ok (.value (.bool true)) w):=by
 have G:(Op.equal tx (.slice (some q) n c) (.slice none m k)).run P w=.ok false w:=by
  refine Bn fun D Z=>?_
  obtain⟨D,rfl⟩:∃d,D=d+1:=⟨D-1,by omega⟩;unfold Op.equalIn;simp[run_underlying Y]
 constructor
 ·rintro rfl;simp[execOp,J,U,O,eqGuard,binOp,G]
 ·rintro rfl;simp[execOp,J,U,O,eqGuard,binOp,G]
end
def Ez(P:Program)(T:Nat→Option AV)(h:QY)(op:BinOp)(tx:TypeId)(x y:Operand):Option Kt :=
 match P.underlying tx,Zo T x,Zo T y with
|some (.slice _),some (.tsl _ es t),some (.p (.val (.slice none _ _))) =>
  match h t with
 |some (.arr _ _ n)=>if es.length=n∧es.isEmpty=false then(match op with|.eql=>some (.p (.val (.bool false)),none,[t])|.neq=>some (.p (.val (.bool true)),none,[t])|_=>none) else none
 |_=>none
|_,_,_=>none
section
variable {P:Program}{o:Oper}{φ:Nat→Nat}{M0:ZQ}{N:Nat}{D:DB}{T:Nat→Option AV}{h:QY}{a:Act}{w:World}
theorem dC(r:ZG φ M0 N D T h a w){u:Kt}(ho:o.op=.binOp op tx x y ty)(G:Ez P T h op tx x y=some u):u.2.1=none∧Yield P o φ M0 h a w u.1 h:=by
 unfold Ez at G;split at G;rotate_left
 ·cases G
 rename_i e S es t m k ht hx hy;split at G;rotate_left
 ·cases G
 rename_i ta Sa n hb;split at G;rotate_left
 ·cases G
 rename_i J;have U:=r.ev hx;have Y:=r.ev hy;simp only[Qg,Q6] at Y;simp only[Qg] at U;obtain⟨_,Wj,n2,Z,_,O⟩:=U;rw[hb] at Z;cases Z
 obtain⟨cap,c,hv,_⟩:∃cap c,a.eval x=.slice (some ⟨φ t,0,none⟩) n cap∧w.heap[φ t]?=some (.cells c ta (0,0))∧c.size=cap*S∧n≤cap∧cap≤maxLen:=by
  rcases O J.1 with⟨h0,_⟩|h0
  ·have h1:=J.1;have h2:=J.2;rw[h0] at h1;rw[List.length_eq_zero_iff.1 h1] at h2;cases h2
  ·exact h0
 obtain⟨g1,g2⟩:=zg (P:=P) (w:=w) ho ht hv Y;split at G
 ·simp only[Zf] at G;subst G;exact⟨rfl,Qt r (g1 rfl) (by simp[Qg,Q6])⟩
 ·simp only[Zf] at G;subst G;exact⟨rfl,Qt r (g2 rfl) (by simp[Qg,Q6])⟩
 ·cases G
end
section
variable {P:Program}{o:Oper}{φ:Nat→Nat}{M0:ZQ}{N:Nat}{D:DB}{T:Nat→Option AV}{h:QY}{a:Act}{w:World}
theorem NN{k1:Blk}{ob:Obj}(hb:h b=some k0)(h0:k0.ob=some .mp)(h1:k1.ob=some .mp)(r:Z9 φ h w M0) :
  Zl φ h w φ (upd h b k1) (w.putObj (φ b) ob)∧VQ φ h w φ (upd h b k1) (w.putObj (φ b) ob):=by
 have hm:∀x o,DD φ (upd h b k1) x o→DD φ h x o:=by
  rintro x y ⟨d,q,g1,g2,g3⟩;by_cases e:b=d
  ·refine⟨b,_,hb,by rw[e];exact g2,?_⟩;cases k0<;>first|trivial|cases h0
  ·exact⟨d,q,by simpa [upd,e] using g1,g2,g3⟩
 have G:∀x,x≠φ b→(w.putObj (φ b) ob).heap[x]?=w.heap[x]?:=fun x hx=>World.putObj_heap_other hx
 have hne:∀c k,h c=some k→k.ob=none→¬b=c:=fun c k hc hk e=>by rw[←e,hb] at hc;cases hc;rw[hk] at h0;cases h0
 have Y:∀c k,h c=some k→¬b=c→φ c≠φ b:=fun c k hc e h2=>e (r.inj c b (by rw[hc];simp) (by rw[hb];simp) h2).symm
 have aa:∀c ty cs,h c=some (.box ty cs)→upd h b k1 c=some (.box ty cs):=fun c ty cs hc=>by simp[upd,hne c _ hc rfl,hc]
 have ab:∀t ty S n,h t=some (.arr ty S n)→∃n',upd h b k1 t=some (.arr ty S n')∧n≤n'∧(n'=n→AKept w (w.putObj (φ b) ob) (φ t) (φ t) ty):=by
  intro t ty S n J;have e:=hne t _ J rfl;exact⟨n,by simp[upd,e,J],Yf _,fun _=>VN rfl (G _ (Y t _ J e))⟩
 have U:∀t ty S es,h t=some (.vec ty S es)→∃O,upd h b k1 t=some (.vec ty S O)∧es.length≤O.length∧(O.length=es.length→φ t=φ t∧∀c,w.heap[φ t]?=some (.cells c ty (0,0))→∃c',(w.putObj (φ b) ob).heap[φ t]?=some (.cells c' ty (0,0))∧c'.size=c.size):=by
  intro t ty S n J;have e:=hne t _ J rfl;exact⟨n,by simp[upd,e,J],Yf _,fun _=>⟨rfl,fun c hc=>⟨c,by rw[G _ (Y t _ J e)];exact hc,rfl⟩⟩⟩
 have Z:∀c k x,h c=some k→k.ob=some x→(∃k',upd h b k1 c=some k'∧k'.ob=some x)∧φ c=φ c:=by
  intro c k x hc ho;by_cases e:b=c
  ·subst e;rw[hb] at hc;cases hc;rw[h0] at ho;cases ho;exact⟨⟨k1,by simp[upd],h1⟩,rfl⟩
  ·exact⟨⟨k,by simp[upd,e,hc],ho⟩,rfl⟩
 refine⟨⟨rfl,rfl,rfl,by simp[World.putObj],?_,?_,fun x o _ hx=>hm x o hx,fun c ty cs _ hc=>⟨⟨cs,aa c ty cs hc⟩,rfl⟩,fun t ty S n _=>ab t ty S n,fun t ty S es _=>U t ty S es,fun c k x _=>Z c k x⟩,fun c ty cs hc=>⟨⟨ty,cs,aa c ty cs hc⟩,rfl⟩,ab,U,Z⟩
 ·intro x _ ac;exact G x (fun e=>ac b (by rw[hb];simp) e.symm)
 ·intro x y _ hm;have:x≠φ b:=fun e=>hm ⟨b,_,hb,e.symm,by cases k0<;>first|trivial|cases h0⟩
  simp[World.cell?,G x this]
theorem AU{k1:Blk}{ob:Obj}(hb:h b=some k0)(h0:k0.ob=some .mp)(U:k1.ob=some .mp)(r:Z9 φ h w M0)(G:RelB φ (upd h b k1) (w.putObj (φ b) ob) (MM φ (upd h b k1) M0) (φ b) k1):Z9 φ (upd h b k1) (w.putObj (φ b) ob) M0:=by
 obtain⟨E,X⟩:=NN (k1:=k1) (ob:=ob) hb h0 U r
 have g:∀d,upd h b k1 d≠none→h d≠none:=fun d J=>by
  by_cases e:b=d
  ·rw[←e,hb];simp
  ·simpa [upd,e] using J
 refine⟨fun c d hc J O=>r.inj c d (g c hc) (g d J) O,fun c k hc=>?_,fun c hc=>r.fr c (g c hc),fun x o Z=>by simpa [World.putObj] using r.lt x o Z,r.gm.evol E⟩;by_cases e:b=c
 ·subst e;have:k=k1:=by simpa [upd] using hc.symm
  subst this;exact G
 ·have hc':h c=some k:=by simpa [upd,e] using hc
  exact Ku (E.keeps M0) X (World.putObj_heap_other fun Y=>e (r.inj c b (by rw[hc'];simp) (by rw[hb];simp) Y).symm) (r.blk c k hc')
def LQ(w:List UInt8):List (Bool×List UInt8×AV)→Option AV|[]=>none|(f,k,x)::l=>if Zb w k&&f then some x else LQ w l
def nA(w:List UInt8)(es:List (Bool×List UInt8×AV)):List (Bool×List UInt8×AV):=es.map fun e=>(!Zb w e.2.1&&e.1,e.2.1,e.2.2)
def vk(w:List UInt8):Nat→List (Bool×List UInt8×AV)→Option Nat|_,[]=>none|i,e::l=>if Zb w e.2.1 then some i else vk w (i+1) l
def nC(l:List (Bool×List UInt8×AV)):List (Value×PV):=l.map fun e=>(Dt e.2.1,PV.val undef)
theorem uW(G:P.underlying kt=some .string)(x:ByteArray)(y:List UInt8):eqV P 4 kt (.string x) (Dt y)=some (Zb (XV x) y):=by
 simp[eqV,G,Dt,XV]
theorem NP(G:P.underlying kt=some .string)(x:ByteArray):DZ P kt (.string x)=true:=by simp[DZ,Xe,G]
theorem Bo{kt:TypeId}(G:P.underlying kt=some .string)(x:ByteArray):∀(l:List (Bool×List UInt8×AV)) (i:Nat),He P kt (.string x) i (nC l)=some ((vk (XV x) i l).map fun j=>(j,PV.val undef))
|[],i=>rfl
|e::l,i=>by
  have J:DZ P kt (Dt e.2.1)=true:=NP G _;simp only[nC,U8,He,J,if_true,uW G,vk];cases hq:Zb (XV x) e.2.1 with
 |true=>simp
 |false=>exact Bo G x l (i+1)
theorem NQ(f:Bool)(k:List UInt8)(x:AV)(es:List (Bool×List UInt8×AV)):Tu ((f,k,x)::es)=if f then(f,k,x)::Tu es else Tu es:=by cases f<;>rfl
theorem EA(w:List UInt8):∀(l:List (Bool×List UInt8×AV)) (i:Nat),vk w (i+1) l=(vk w i l).map (·+1)
|[],i=>rfl
|e::l,i=>by
  simp only[vk];cases Zb w e.2.1
  ·exact EA w l (i+1)
  ·rfl
theorem Bq(w:List UInt8):∀(es:List (Bool×List UInt8×AV)),LQ w es=(vk w 0 (Tu es)).bind fun j=>((Tu es)[j]?).map (·.2.2)
|[]=>rfl
|(f,k,x)::es=>by
  rw[NQ];cases f with
 |false=>simp only[LQ,Bool.and_false,Bool.false_eq_true,if_false];exact Bq w es
 |true =>
   simp only[LQ,Bool.and_true,if_true,vk];cases hq:Zb w k with
  |true=>simp
  |false =>
    simp only[Bool.false_eq_true,if_false];rw[EA,Bq w es];cases vk w 0 (Tu es)<;>simp
def D9:List (Bool×List UInt8×AV)→Bool|[]=>true|e::l=>l.all (fun G=>!Zb e.2.1 G.2.1)&&D9 l
theorem SH{w:List UInt8}:∀{l:List (Bool×List UInt8×AV)} {i:Nat},vk w i l=none→∀e∈l,Zb w e.2.1=false
|[],_,_,e,G=>by cases G
|J::l,i,h,e,G=>by
  simp only[vk] at h;cases hq:Zb w J.2.1 with
 |true=>rw[hq] at h;cases h
 |false =>
   rw[hq] at h;rcases List.mem_cons.1 G with rfl|G
   ·exact hq
   ·exact SH h e G
theorem Qbx{a b:List UInt8}(h:Zb a b=true):a=b:=by simpa [Zb] using h
theorem dD(w:List UInt8):∀(es:List (Bool×List UInt8×AV)),Tu (nA w es)=((Tu es).filter fun e=>!Zb w e.2.1)
|[]=>rfl
|(f,k,x)::es=>by
  have G:=dD w es;simp only[nA,U8] at G ⊢;rw[NQ,NQ,G];cases f<;>cases hq:Zb w k<;>simp[hq]
theorem IM:∀{es:List (Bool×List UInt8×AV)},D9 es=true→D9 (Tu es)=true
|[],_=>rfl
|(f,k,x)::es,h=>by
  simp only[D9,KL] at h;rw[NQ];cases f with
 |false=>exact IM h.2
 |true =>
   simp only[if_true,D9,KL];refine⟨?_,IM h.2⟩;rw[Gp] at h ⊢;intro e G;exact h.1 e (List.mem_filter.1 G).1
theorem NR{w:List UInt8}:∀{l:List (Bool×List UInt8×AV)} {j:Nat},D9 l=true→vk w 0 l=some j→(l.filter fun e=>!Zb w e.2.1)=l.eraseIdx j
|[],j,_,h=>by cases h
|e::l,j,G,h=>by
  simp only[D9,KL] at G;simp only[vk] at h;cases hq:Zb w e.2.1 with
 |true =>
   rw[hq] at h;simp only[if_true,Zf] at h;subst h;have hw:=Qbx hq
   have:(l.filter fun e=>!Zb w e.2.1)=l:=by
    rw[List.filter_eq_self];intro O J;rw[hw];exact Gp.1 G.1 O J
   simp[hq,this]
 |false =>
   rw[hq] at h;simp only[Bool.false_eq_true,if_false] at h;rw[EA] at h;cases hj:vk w 0 l with
  |none=>rw[hj] at h;cases h
  |some U =>
    rw[hj] at h;simp only[Option.map_some,Zf] at h;subst h;simp[hq,NR G.2 hj]
theorem RZ{α β:Type}(f:α→β):∀(l:List α) (j:Nat),(l.eraseIdx j).map f=(l.map f).eraseIdx j
|[],j=>by simp
|x::l,0=>rfl
|x::l,j+1=>by simp only[List.eraseIdx_cons_succ,U8,RZ f l j]
theorem SI{M:ZQ}:∀{xs:List AV} {J:List Value} (j:Nat),Ql φ h w M xs J→Ql φ h w M (xs.eraseIdx j) (J.eraseIdx j)
|[],J,j,G=>by
  simp only[Ql] at G;subst G;simp[Ql]
|x::xs,J,j,G=>by
  simp only[Ql] at G;obtain⟨y,ys,rfl,U,O⟩:=G;cases j with
 |zero=>exact O
 |succ j=>simp only[List.eraseIdx_cons_succ,Ql];exact⟨_,_,rfl,U,SI j O⟩
theorem nD{clock:Nat}{k:Value}(h:G5 en clock):G5 (en.push { key:=k,val:=v,born:=clock }) (clock+1):=by
 obtain⟨Y,J⟩:=h;refine⟨?_,fun e G=>?_⟩
 ·simp only[Array.toList_push,List.map_append,U8,List.map_nil];rw[List.pairwise_append];refine⟨Y,List.pairwise_singleton _ _,fun x U y O=>?_⟩;obtain⟨e,G,rfl⟩:=List.mem_map.1 U;rw[List.mem_singleton.1 O];exact J e G
 ·simp only[Array.toList_push,List.mem_append,List.mem_singleton] at G;rcases G with G|rfl
  ·have:=J e G;omega
  ·exact Nat.lt_succ_self _
theorem xB{clock:Nat}(h:G5 en clock):G5 (en.eraseIdxIfInBounds j) clock:=by
 obtain⟨U,O⟩:=h;have G:(en.eraseIdxIfInBounds j).toList=en.toList.eraseIdx j:=by simp
 refine⟨?_,fun e J=>O e ?_⟩
 ·rw[G];exact U.sublist ((List.eraseIdx_sublist _ _).map _)
 ·rw[G] at J;exact(List.eraseIdx_sublist _ _).mem J
def Qby:Option Blk→Option (List (Bool×List UInt8×AV))|some (.mp [])=>some []|some (.mf es)=>some es|_=>none
def Xv(P:Program)(T:Nat→Option AV)(h:QY)(t:TypeId)(x ix:Operand)(ok:Bool):Option Kt :=
 match P.underlying t,Zo T x,Zo T ix with
|some (.map kt e),some (.mv b),some (.p (.val (.string s))) =>
  match h b,P.underlying kt with
 |some (.mf es),some .string =>
   match LQ (XV s) es with
  |some v=>some (D7 ok v true,none,[b])
  |none=>match (P.info? e).bind (·.zero) with|some z=>some (D7 ok (Ik z) false,none,[b])|none=>none
 |_,_=>none
|_,_,_=>none
def Xw(P:Program)(T:Nat→Option AV)(h:QY)(t:TypeId)(x ix y:Operand):Option Kt :=
 match P.underlying t,Zo T x,Zo T ix,Zo T y with
|some (.map kt e),some (.mv b),some (.p (.val (.string s))),some v =>
  match Qby (h b),P.underlying kt with
 |some es,some .string=>match LQ (XV s) es with
  |none=>some (.p (.val undef),some (b,.mf (es++[(true,XV s,v)])),[b])
  |some _=>none
 |_,_=>none
|_,_,_,_=>none
def Ht(P:Program)(T:Nat→Option AV)(h:QY)(t:TypeId)(x ix:Operand):Option Kt :=
 match P.underlying t,Zo T x,Zo T ix with
|some (.map kt e),some (.mv b),some (.p (.val (.string s))) =>
  match h b,P.underlying kt with
 |some (.mf es),some .string=>if D9 es=true then some (.tup [],some (b,.mf (nA (XV s) es)),[b]) else none
 |_,_=>none
|_,_,_=>none
theorem Qbz(hb:Qby (h b)=some es)(r:Z9 φ h w M0):∃k0,h b=some k0∧k0.ob=some .mp ∧
  ∃(en:Array MapEntry) (clock:Nat),w.heap[φ b]?=some (.map en clock)∧en.toList.map (·.key)=(Tu es).map (fun e=>Dt e.2.1)∧Ql φ h w (MM φ h M0) ((Tu es).map (·.2.2)) (en.toList.map (·.val))∧G5 en clock:=by
 unfold Qby at hb;split at hb
 ·rename_i G;cases hb;obtain⟨en,clock,Y,J,O⟩:=r.blk b _ G;have U:en.toList=[]:=by simpa using J
  exact⟨_,G,rfl,en,clock,Y,J,O,by simp[G5,U]⟩
 ·rename_i es' G;cases hb;exact⟨_,G,rfl,r.blk b _ G⟩
 ·cases hb
theorem IP{l:List (Bool×List UInt8×AV)}{en:List MapEntry}(G:en.map (·.key)=l.map (fun e=>Dt e.2.1)):en.map (·.key)=(nC l).map (·.1):=by
 rw[G];simp[nC]
theorem vW(r:ZG φ M0 N D T h a w){t:TypeId}{u:Kt}(ho:o.op=.lookup t x ix ok)(J:Xv P T h t x ix ok=some u):u.2.1=none∧Yield P o φ M0 h a w u.1 h:=by
 unfold Xv at J;split at J;rotate_left
 ·cases J
 rename_i kt e b s ht hx ae;split at J;rotate_left
 ·cases J
 rename_i es hb ac;have ab:=r.ev hx;simp only[Qg] at ab;have O:=r.ev ae;simp only[Qg,Q6] at O;obtain⟨en,clock,hw,aa,ad,_⟩:=r.hp.blk b _ hb;have U:(getObj (φ b)).run P w=.ok (.map en clock) w:=by simp[getObj,Sem.run,hw]
 have Z:=FW (w:=w) (NP ac s) en.isEmpty;have ah:=Bo ac s (Tu es) 0;obtain⟨q,BO,Tt⟩:=Ur (w:=w) ac (IP aa) ah;have G:=Bq (XV s) es;cases hi:vk (XV s) 0 (Tu es) with
|none =>
  rw[hi] at Tt G;simp only[Option.map_none,NM,Option.bind_none] at Tt G;subst Tt;rw[G] at J;simp only at J;split at J
  ·rename_i z hz;simp only[Zf] at J;subst J;refine⟨rfl,?_⟩;obtain⟨inf,hi,hz⟩:=Nw.1 hz;refine Qt r (v:=if ok then .tuple #[z,.bool false] else z) ?_ ?_
   ·simp[execOp,ho,Instr.lookup,run_underlying ht,ab.1,U,O,Z,BO,Result.andThen,zeroValue,typeInfo,program,Sem.run,hi,hz]
   ·unfold D7;cases ok
    ·exact Jr z
    ·simp only[if_true,Qg];exact⟨[z,.bool false],by simp,_,_,rfl,Jr z,_,_,rfl,by simp[Qg,Q6],rfl⟩
  ·cases J
|some j =>
  rw[hi] at Tt G;simp only[Option.map_some,NM,Zy] at Tt G;obtain⟨m,e',g1,g2,g3,g4⟩:=Tt;have af:j=m:=by omega
  subst af
  have hlt:j<(Tu es).length:=by
   have:=(MG.1 g4).1;simpa [nC] using this
  rw[List.getElem?_eq_getElem hlt] at G;simp only[Option.map_some] at G;rw[G] at J;simp only[Zf] at J;subst J;refine⟨rfl,?_⟩;have Y:Qg φ h w (MM φ h M0) ((Tu es)[j]).2.2 e'.val:=D8 ad (i:=j) (by simp[hlt]) (by simp[g3]);subst g2;refine Qt r (v:=if ok then .tuple #[e'.val,.bool true] else e'.val) ?_ ?_
  ·simp[execOp,ho,Instr.lookup,run_underlying ht,ab.1,U,O,Z,BO,Result.andThen]
  ·unfold D7;cases ok
   ·exact Y
   ·simp only[if_true,Qg];exact⟨[e'.val,.bool true],by simp,_,_,rfl,Y,_,_,rfl,by simp[Qg,Q6],rfl⟩
theorem SK(r:ZG φ M0 N D T h a w){t:TypeId}{u:Kt}(ho:o.op=.mapUpdate t x ix y)(J:Xw P T h t x ix y=some u):Yield P o φ M0 h a w u.1 (ap h u.2.1):=by
 unfold Xw at J;split at J;rotate_left
 ·cases J
 rename_i kt e b s v ht hx al hy;split at J;rotate_left
 ·cases J
 rename_i es hb Z;have ad:=r.ev hx;simp only[Qg] at ad;have U:=r.ev al;simp only[Qg,Q6] at U;have ao:=r.ev hy;obtain⟨k0,af,ac,en,clock,hw,G,aa,Y⟩:=Qbz hb r.hp;have ae:(getObj (φ b)).run P w=.ok (.map en clock) w:=by simp[getObj,Sem.run,hw]
 have ah:∀ob,(setObj (φ b) ob).run P w=.ok () (w.putObj (φ b) ob):=fun ob=>by simp[setObj,Sem.run,hw,World.putObj]
 have aj:=FW (w:=w) (NP Z s) false;have aq:=Bo Z s (Tu es) 0;obtain⟨q,BO,Tt⟩:=Ur (w:=w) Z (IP G) aq;have O:=Bq (XV s) es;split at J;rotate_left
 ·cases J
 rename_i ab;simp only[Zf] at J;subst J;simp only[ap]
 have hi:vk (XV s) 0 (Tu es)=none:=by
  cases hi:vk (XV s) 0 (Tu es) with
 |none=>rfl
 |some j =>
   rw[hi] at Tt O;simp only[Option.map_some,NM,Zy] at Tt O;obtain⟨m,e',g1,g2,g3,g4⟩:=Tt;have an:j=m:=by omega
   subst an
   have hlt:j<(Tu es).length:=by
    have:=(MG.1 g4).1;simpa [nC] using this
   rw[List.getElem?_eq_getElem hlt,ab] at O;cases O
 rw[hi] at Tt;have Tt:q=none:=Tt;subst Tt;obtain⟨E,X⟩:=NN (k1:=.mf (es++[(true,XV s,v)])) (ob:=.map (en.push { key:=.string s,val:=a.eval y,born:=clock }) (clock+1)) af ac rfl r.hp;have ak:Dt (XV s)=.string s:=by simp[Dt,XV]
 have ai:Tu (es++[(true,XV s,v)])=Tu es++[(true,XV s,v)]:=by simp[Tu]
 refine⟨.skip,undef,w.putObj (φ b) (.map (en.push { key:=.string s,val:=a.eval y,born:=clock }) (clock+1)),φ,?_,.inr ⟨rfl,rfl⟩,by simp[Qg,Q6],AU af ac rfl r.hp ⟨_,_,World.putObj_heap_same (RQ.1 hw).1,?_,?_,nD Y⟩,E,X⟩
 ·simp[execOp,ho,Instr.mapUpdate,run_underlying ht,ad.1,ae,U,aj,BO,Result.andThen,ah]
 ·simp[G,ai,ak]
 ·rw[ai];simp only[Array.toList_push,List.map_append,U8,List.map_nil];exact ML ((QZ (E.keeps M0) X).2 _ _ aa) ((QZ (E.keeps M0) X).1 _ _ ao)
theorem SL{t k:TypeId}{s:Operand}(J:o.op=.call ⟨.builtin .delete,#[s,x],#[t,k]⟩)(G:(Builtin.delete_ #[t,k] o.type #[a.eval s,a.eval x]).run P w=.ok v w'):(execOp a.eval o).run P w=.ok (.value v) w':=by
 simp[execOp,J,resolve,invoke,builtin,G]
theorem vX(r:ZG φ M0 N D T h a w){t k:TypeId}{u:Kt}(ho:o.op=.call ⟨.builtin .delete,#[x,ix],#[t,k]⟩)(O:Ht P T h t x ix=some u):Yield P o φ M0 h a w u.1 (ap h u.2.1):=by
 unfold Ht at O;split at O;rotate_left
 ·cases O
 rename_i kt e b s ht hx ai;split at O;rotate_left
 ·cases O
 rename_i es hb af;split at O;rotate_left
 ·cases O
 rename_i aj;simp only[Zf] at O;subst O;simp only[ap];have ae:=r.ev hx;simp only[Qg] at ae;have aa:=r.ev ai;simp only[Qg,Q6] at aa;obtain⟨en,clock,hw,G,Z,U⟩:=r.hp.blk b _ hb;have ab:(getObj (φ b)).run P w=.ok (.map en clock) w:=by simp[getObj,Sem.run,hw]
 have ac:∀ob,(setObj (φ b) ob).run P w=.ok () (w.putObj (φ b) ob):=fun ob=>by simp[setObj,Sem.run,hw,World.putObj]
 have ad:=FW (w:=w) (NP af s) en.isEmpty;have al:=Bo af s (Tu es) 0;obtain⟨q,BO,Tt⟩:=Ur (w:=w) af (IP G) al;have J:=dD (XV s) es;cases hi:vk (XV s) 0 (Tu es) with
|none =>
  rw[hi] at Tt;have Tt:q=none:=Tt;subst Tt
  have Y:Tu (nA (XV s) es)=Tu es:=by
   rw[J,List.filter_eq_self];intro e O;simp[SH hi e O]
  obtain⟨E,X⟩:=NN (k1:=.mf (nA (XV s) es)) (ob:=.map en clock) hb rfl rfl r.hp;refine⟨_,.tuple #[],w.putObj (φ b) (.map en clock),φ,SL ho ?_,.inl rfl,?_,AU hb rfl rfl r.hp ⟨en,clock,World.putObj_heap_same (RQ.1 hw).1,?_,?_,U⟩,E,X⟩
  ·simp[Builtin.delete_,run_underlying ht,ae.1,ab,aa,ad,BO,Result.andThen,ac]
  ·simp only[Qg];exact⟨[],rfl,rfl⟩
  ·rw[Y];exact G
  ·rw[Y];exact(QZ (E.keeps M0) X).2 _ _ Z
|some j =>
  rw[hi] at Tt;simp only[Option.map_some,NM] at Tt;obtain⟨m,e',g1,g2,g3,g4⟩:=Tt;have ak:j=m:=by omega
  subst ak;subst g2;rw[NR (IM aj) hi] at J;have ah:(en.eraseIdxIfInBounds j).toList=en.toList.eraseIdx j:=by simp
  obtain⟨E,X⟩:=NN (k1:=.mf (nA (XV s) es)) (ob:=.map (en.eraseIdxIfInBounds j) clock) hb rfl rfl r.hp;refine⟨_,.tuple #[],w.putObj (φ b) (.map (en.eraseIdxIfInBounds j) clock),φ,SL ho ?_,.inl rfl,?_,AU hb rfl rfl r.hp ⟨_,clock,World.putObj_heap_same (RQ.1 hw).1,?_,?_,xB U⟩,E,X⟩
  ·simp[Builtin.delete_,run_underlying ht,ae.1,ab,aa,ad,BO,Result.andThen,ac]
  ·simp only[Qg];exact⟨[],rfl,rfl⟩
  ·rw[J,ah,RZ,RZ,G]
  ·rw[J,ah,RZ,RZ];exact SI j ((QZ (E.keeps M0) X).2 _ _ Z)
end
def vY(P:Program)(T:Nat→Option AV)(t:TypeId)(x:Operand):Option Kt:=match P.underlying t,Zo T x with
|some (.slice _),some (.bsl _ n)=>some (.p (.val (.int .i64 n)),none,[])
|_,_=>none
def isB(T:Nat→Option AV):List (Nat×Operand)→Bool
|(_,x)::_=>match Zo T x with|some (.fn _ _ _)=>true|_=>false
|[]=>false
def Xf(P:Program)(T:Nat→Option AV)(t:TypeId)(x ix:Operand):Option Kt :=
 match Zo T ix,P.underlying t,Zo T x with
|some (.p (.val (.int _ n))),some (.slice e),some (.bsl b m) =>
  match P.info? e with
 |some i=>if i.size=1∧0≤n∧n<m then some (.ptr b n.toNat,none,[]) else none
 |none=>none
|_,_,_=>none
def Gu(P:Program)(T:Nat→Option AV)(h:QY)(dst:Option Tmp)(t:TypeId)(len:Nat)(parts:Array (Nat×Operand)):Option Kt :=
 match P.underlying t,dst,Iq T parts.toList with
|some (.slice e),some d,some ps =>
  match P.info? e with
 |some i =>
   match i.zero,h d with
  |some z,none =>
    match cellsOf (Ik z) with
   |some J =>
     if J.length=1∧i.size=1∧len≤16777216∧0<len then
      match NB (fun k=>some (k*i.size,i.size)) (List.replicate len J).flatten ps with
     |some G=>if G.length=len∧Hg G then some (.bsl d len,some (d,.box e G),[d]) else none
     |none=>none
     else none
   |none=>none
  |_,_=>none
 |none=>none
|_,_,_=>none
section
variable {P:Program}{o:Oper}{φ:Nat→Nat}{M0:ZQ}{N:Nat}{D:DB}{T:Nat→Option AV}{h:QY}{a:Act}{w:World}
theorem eO(r:ZG φ M0 N D T h a w){t:TypeId}{u:Kt}(O:o.op=.call ⟨.builtin .len,#[x],#[t]⟩)(G:vY P T t x=some u):u.2.1=none∧Yield P o φ M0 h a w u.1 h:=by
 unfold vY at G;split at G
 ·rename_i e b n U Y;simp only[Zf] at G;subst G;have J:=r.ev Y;simp only[Qg] at J;refine⟨rfl,Qt r (v:=.int .i64 n) ?_ (by simp[Qg,Q6])⟩;simp[execOp,O,resolve,invoke,builtin,Builtin.len_,run_underlying U,J.1,goInt]
 ·cases G
theorem qG(r:ZG φ M0 N D T h a w){t:TypeId}{u:Kt}(Z:o.op=.indexAddr t x ix)(G:Xf P T t x ix=some u):u.2.1=none∧Yield P o φ M0 h a w u.1 h:=by
 unfold Xf at G;split at G
 ·rename_i k n e b m O ht hx;split at G
  ·rename_i i hi;split at G
   ·rename_i hc;simp only[Zf] at G;subst G;have J:=r.ev O;simp only[Qg,Q6] at J;have Y:=r.ev hx;simp only[Qg] at Y;refine⟨rfl,Qt r (v:=.pointer (some ⟨φ b,0+n.toNat*i.size,none⟩)) ?_ ?_⟩
    ·have U:0≤n∧n<(m:Int):=hc.2;simp[execOp,Z,Instr.indexAt,J,asIntOf,run_underlying ht,Y.1,U,Zi hi,Addr.add_lit]
    ·simp only[Qg];exact⟨by rw[hc.1,Nat.mul_one,Nat.zero_add],Y.2⟩
   ·cases G
  ·cases G
 ·cases G
theorem IQ(r:ZG φ M0 N D T h a w){t:TypeId}{u:Kt}(ho:o.op=.buildSlice t len parts)(G:Gu P T h o.dst t len parts=some u):Yield P o φ M0 h a w u.1 (ap h u.2.1):=by
 unfold Gu at G;split at G;rotate_left
 ·cases G
 rename_i e d ps ht ah ac;split at G;rotate_left
 ·cases G
 rename_i i hi;split at G;rotate_left
 ·cases G
 rename_i z hz hd;split at G;rotate_left
 ·cases G
 rename_i zs ad;split at G;rotate_left
 ·cases G
 rename_i Z;split at G;rotate_left
 ·cases G
 rename_i U aa;split at G;rotate_left
 ·cases G
 rename_i af;simp only[Zf] at G;subst G;simp only[ap];refine Yield.of_lift r 1 fun φ r E0 X0 hC=>?_
 obtain⟨h1,h2⟩:=DN r ac;obtain⟨h3,_,_⟩:=Wt ad (Jr (φ:=φ) (h:=h) (w:=w) (M:=MM φ h M0) z);have ai:=Z5 h3;have ab:z.cells.toList.length=i.size:=by omega
 have J:Ql φ h w (MM φ h M0) (List.replicate len zs).flatten (((Array.range (len*i.size)).map (z.cells[·%z.cells.size]!)).toList):=by
  have e1:((Array.range (len*i.size)).map (z.cells[·%z.cells.size]!)).toList=(List.replicate len z.cells.toList).flatten:=by
   have:=Bj z.cells.toList i.size ab zo len;simp only[Array.toArray_toList] at this;rw[←this];simp[Array.toList_range]
  rw[e1];exact Uc h3 len
 obtain⟨c',h4,h5⟩:=ND (placeC:=fun k=>some (k*i.size,i.size)) (fun k x hx=>hx) ps _ _ _ U h1 h2 J aa;obtain⟨E,X⟩:=XX (w:=w) (w':=w.alloc (.cells c' e)) (o:=.cells c' e) (b:=d) (k:=.box e U) (φ:=φ) (h:=h) (M0:=M0) rfl rfl rfl rfl hd r.hp hC
 have O:RelB (QM φ d w.heap.size) (upd h d (.box e U)) (w.alloc (.cells c' e)) (MM (QM φ d w.heap.size) (upd h d (.box e U)) M0) w.heap.size (.box e U) :=
  ⟨c',by show(w.heap.push _)[w.heap.size]?=_;simp,(QZ (E.keeps M0) X).2 _ _ h5⟩
 refine⟨_,.slice (some ⟨w.heap.size,0,none⟩) len len,w.alloc (.cells c' e),QM φ d w.heap.size,?_,.inl rfl,?_,XY rfl hd r.hp hC E X O,E,X⟩
 ·have hq:(parts.map fun(x:Nat×Operand)=>(x.1,a.eval x.2)).toList=parts.toList.map fun(x:Nat×Operand)=>(x.1,a.eval x.2):=by simp
  have ae:len*i.size=len:=by rw[Z.2.1,Nat.mul_one]
  have Y:¬(len*i.size>2 ^ 24):=by omega
  have h0:¬len*i.size=0:=by omega
  simp only[execOp,ho,Instr.buildSlice,Sem.run_bind,run_underlying ht,Zi hi,Result.andThen_ok,Y,if_false,h0,hq,zeroValue,typeInfo,program,Sem.run,hi,hz,Sem.run_pure,h4];simp[newRow,newObj,Sem.run]
 ·simp only[Qg];exact⟨by simp[QM],e,U,by simp[upd]⟩
theorem nE{l:List (Nat×Operand)}(G:∀x∈l.map (·.2),Zo T' x=Zo T x):isB T' l=isB T l:=by
 cases l with
|nil=>rfl
|cons p l=>obtain⟨i,x⟩:=p;simp only[isB,G x zq]
end
def FX(a b:Option Kt):Option Kt:=match a with|some x=>some x|none=>b
theorem Gv{a c c':Option Kt}{u:Kt}(G:FX a c=some u)(h:c=some u→c'=some u):FX a c'=some u:=by
 cases a with
|none=>exact h G
|some x=>exact G
def V6(P:Program)(o:Oper)(T:Nat→Option AV)(h:QY):Option Kt :=
 match o.op with
|.move x=>WY T x
|.assign x=>WY T x
|.pick c x y=>BX T c x y
|.alloc ty=>match P.info? ty with
 |some i=>match i.zero with|some z=>qx o h ty (Ik z)|none=>none
 |none=>none
|.box ty x=>match Zo T x with|some v=>qx o h ty v|none=>none
|.build t ps=>Ir P T t ps
|.buildSlice t n ps=>if n=0 then xq P h o.dst t ps else if isB T ps.toList=true then Gu P T h o.dst t n ps else Gs P T h o.dst t n ps
|.load ty x=>if qo (Zo T x) then SB P T h ty x else Sv P T h ty x
|.store ty x y=>if qo (Zo T x) then DW P T h ty x y else Io P T h ty x y
|.makeSlice t x y=>SC P T h o.dst t x y
|.makeMap _ rsv=>D6 h o.dst rsv
|.lookup t x i ok=>FX (Ud P T h t x i ok) (Xv P T h t x i ok)
|.mapUpdate t x i y=>FX (VR P T h t x i y) (Xw P T h t x i y)
|.nilCheck x=>if qo (Zo T x) then xu T h x else FX (Hm T x) (U9 P T o)
|.fieldAddr t x f=>if qo (Zo T x) then Uo P T h t x f else Un P T t x f
|.field t x f=>Ip P T t x f
|.indexAddr t x i=>if qo (Zo T x) then Jt P T h t x i else FX (Js P T t x i) (FX (Xf P T t x i) (Xd P T h t x i))
|.index t x i=>FX (Eo P T t x i) (FX (Bl P T t x i) (U9 P T o))
|.slice t x lo hi G=>FX (Hq P T t x lo hi G) (FX (U9 P T o) (TD P T h t x lo hi G))
|.extract x i=>FR T x i
|.makeFunc f a b=>RX T f a b
|.makeInterface t x=>Xc P T t x
|.typeAssert x _ t ok=>Gq P T x t ok
|.binOp op tx x y _=>FX (Et T op x y) (FX (lN P T op tx x y) (FX (U9 P T o) (Ez P T h op tx x y)))
|.unOp op _ x=>FX (aUn T op x) (U9 P T o)
|.convert src dst x=>FX (vN P T dst src x) (U9 P T o)
|.call ⟨.builtin .len,args,types⟩=>match args,types with|⟨[x]⟩,⟨[t]⟩=>if qo (Zo T x) then vQ P T h t x else FX (vL P T t x) (FX (SE P T t x) (FX (U9 P T o) (FX (vY P T t x) (vU P T h t x))))|_,_=>none
|.call ⟨.builtin .append,args,types⟩=>match args,types with|⟨[s,x]⟩,⟨[t,J]⟩=>if t=J then(if qo (Zo T s) then Fv P T h o.dst t s x else LK P T h o.dst t s x) else none|_,_=>none
|.call ⟨.builtin .delete,args,types⟩=>match args,types with|⟨[x,i]⟩,⟨[t,k]⟩=>Ht P T h t x i|_,_=>none
|.call ⟨.builtin .max,_,_⟩=>U9 P T o
|.call ⟨.builtin .min,_,_⟩=>U9 P T o
|.call ⟨.builtin .clear,args,types⟩=>match args,types with|⟨[x]⟩,⟨[t]⟩=>DY P T h t x|_,_=>none
|_=>none
section
variable {P:Program}{o:Oper}{φ:Nat→Nat}{M0:ZQ}{N:Nat}{D:DB}{T:Nat→Option AV}{h:QY}{a:Act}{w:World}
theorem Zh{u:Kt}(hu:u.2.1=none∧Yield P o φ M0 h a w u.1 h):Yield P o φ M0 h a w u.1 (ap h u.2.1):=by rw[hu.1];exact hu.2
theorem YQ{x y:Option Kt}{u:Kt}(G:FX x y=some u):x=some u∨y=some u:=by
 unfold FX at G;split at G
 ·exact .inl G
 ·exact .inr G
end
end Go.Abs
