/-
  A part of the proof of a statement of the seat YtgehgobiibddaaaGreat.
-/
import Derived.Test.YtgehgobiibddaaaGreatAcc02
namespace Go.Abs
open Go
set_option linter.unusedVariables false
section
variable {P:Program} {o:Oper} {T:Nat→Option AV} {h:Heap}
theorem aop_app {α:Type} {t e:TypeId} {s x:Operand} {S by_ tk:Nat} {enc:α→List PV} {l l2:List α} {xv:AV} (ho:o.op=.call ⟨.builtin .append,#[s,x],#[t,t]⟩) (ht:P.underlying t=some (.slice e))
  (hi:(P.info? e).bind (fun i=>i.zero.map fun z=>(i.size,i.bytes,z.cells.size))=some (S,by_,S)) (hS:Nat.ble 1 S=true) (hs:evO T s=some (.tsl S (List.map enc l) tk)) (hx:evO T x=some xv) (he:elemsN S xv=some (List.map enc l2)) (hn:l2.isEmpty=false)
  (hb:h tk=some (.arr e S (List.map enc l).length)) (hc:roomB (l++l2).length by_=true):aop P o T h=some (.tsl S (List.map enc (l++l2)) tk,some (tk, .arr e S (List.map enc (l++l2)).length),[tk]):=by
 obtain ⟨i,hi1,hi2⟩:=Option.bind_eq_some_iff.1 hi
 obtain ⟨z,hz1,hz2⟩:=Option.map_eq_some_iff.1 hi2
 simp only [Prod.mk.injEq] at hz2
 obtain ⟨rfl,rfl,hz⟩:=hz2
 have hn':¬ l2=[]:=by intro e; subst e; cases hn
 have hS':0 < i.size:=Nat.le_of_ble_eq_true hS
 simp only [roomB,decide_eq_true_eq,List.length_append] at hc
 simp [aop,ho,isV,hs,hx,aAppend,ht,hi1,hz1,he,hz,hS',isNil,hb,hn',hc]
theorem aop_app0 {α:Type} {t e:TypeId} {s x:Operand} {S by_ d:Nat} {enc:α→List PV} {l2:List α} {xv:AV} (ho:o.op=.call ⟨.builtin .append,#[s,x],#[t,t]⟩) (hd:o.dst=some d) (ht:P.underlying t=some (.slice e))
  (hi:(P.info? e).bind (fun i=>i.zero.map fun z=>(i.size,i.bytes,z.cells.size))=some (S,by_,S)) (hS:Nat.ble 1 S=true) (hs:evO T s=some (.p (.val (.slice none 0 0)))) (hx:evO T x=some xv) (he:elemsN S xv=some (List.map enc l2)) (hn:l2.isEmpty=false)
  (hb:h d=none) (hc:roomB ([]++l2).length by_=true):aop P o T h=some (.tsl S (List.map enc ([]++l2)) d,some (d, .arr e S (List.map enc ([]++l2)).length),[d]):=by
 obtain ⟨i,hi1,hi2⟩:=Option.bind_eq_some_iff.1 hi
 obtain ⟨z,hz1,hz2⟩:=Option.map_eq_some_iff.1 hi2
 simp only [Prod.mk.injEq] at hz2
 obtain ⟨rfl,rfl,hz⟩:=hz2
 have hn':¬ l2=[]:=by intro e; subst e; cases hn
 have hS':0 < i.size:=Nat.le_of_ble_eq_true hS
 simp only [roomB,decide_eq_true_eq,List.nil_append] at hc
 simp [aop,ho,isV,hs,hx,aAppend,ht,hi1,hz1,he,hz,hS',isNil,hb,hn',hc,hd]
end
inductive OL (α:Type) where
 | nil
 | own (l:List α)
def OL.toL {α:Type}:OL α→List α
 | .nil=>[]
 | .own l=>l
@[simp] theorem OL.toL_nil {α:Type}:(OL.nil:OL α).toL=[]:=rfl
@[simp] theorem OL.toL_own {α:Type} (l:List α):(OL.own l).toL=l:=rfl
def osl {α:Type} (S:Nat) (enc:α→List PV) (l:OL α) (t:Nat):AV :=
 match l with
 | .nil=>.p (.val (.slice none 0 0))
 | .own l=>.tsl S (List.map enc l) t
def oarr {α:Type} (ty:TypeId) (S:Nat) (enc:α→List PV) (l:OL α) (t:Nat):List (Nat × Blk) :=
 match l with
 | .nil=>[]
 | .own l=>[(t, .arr ty S (List.map enc l).length)]
end Go.Abs
namespace Go.Abs
open Go
set_option linter.unusedVariables false
section
variable {R V E:Type} {a a1 a2:Option R} {P:Program} {N:Nat} {ro:Option Nat} {ops:Array Oper} {o:Oper} {l:List Oper} {dr:Bool} {acc:List Foot} {s s' s1:St} {Q:R→AX→St→Prop} {K:R→St→Prop} {f:FuncId} {args args':List AV} {dst:Option Tmp}
theorem xs_getH {m:Option V} {k:V→Option R} {u:V→Res} (hw:wantA ops o (look s.T)=some true) (hp:(plain o.op&&dstLt N o.dst)=true) (hu:∀ v,m=some v→aop P o (look (gMark ops o s.T true)) (look s.H)=some (u v))
  (h:∀ v,m=some v→SimR (k v) P N ops Q dr (footR (u v) :: acc) l (nxt ops o s (u v))):SimR (m.bind k) P N ops Q dr acc (o :: l) s:=by
 simp only [bae] at hp
 refine ⟨fun r hr=>?_⟩
 obtain ⟨v,hv,hk⟩:=Option.bind_eq_some_iff.1 hr
 exact xr_true hw hp.1 (hu v hv) hp.2 (more_dOf dr acc _ ▸ (h v hv).h r hk)
theorem xs_ifH {c:Bool} {u:Res} (hw:wantA ops o (look s.T)=some true) (hp:(plain o.op&&dstLt N o.dst)=true) (hu:c=true→aop P o (look (gMark ops o s.T true)) (look s.H)=some u)
  (h:c=true→SimR a P N ops Q dr (footR u :: acc) l (nxt ops o s u)):SimR (cond c a none) P N ops Q dr acc (o :: l) s:=by
 simp only [bae] at hp
 refine ⟨fun r hr=>?_⟩
 cases c with
 | false=>cases hr
 | true=>exact xr_true hw hp.1 (hu rfl) hp.2 (more_dOf dr acc _ ▸ (h rfl).h r hr)
theorem getI_at {α:Type} {l:List α} {i:Int} {v:α} (h:getI l i=some v):l[i.toNat]?=some v:=by
 unfold getI at h
 split at h
 ·cases h
 ·exact h
theorem xs_dead {m:Option V} {k:V→Option R} (h:m=none):SimR (m.bind k) P N ops Q dr acc (o :: l) s:=by
 subst h
 exact ⟨fun r hr=>by cases hr⟩
theorem getI_nil {α:Type} (i:Int):getI ([]:List α) i=none:=by
 unfold getI; split <;> simp
def inlQ (P:Program) (fn:Func) (hc:List (Nat × Blk)) (ρ:Nat→Nat) (s:St) (dst:Option Tmp) (K:R→St→Prop) (Q:R→AX→St→Prop):R→AX→St→Prop :=
 fun r=>bodyR P fn hc (fun x h'=>∃ hc',h'=look hc'∧outDom ρ hc hc' s.H∧outK (K r) (Q r) s dst ρ hc' x)
theorem sc_inline {fn:Func} {c:Code} {n:Nat} {hc:List (Nat × Blk)} (L:List (Nat × Nat)) (C:List Conv) (cb:List (Nat × List Conv)) (hf:P.funcs[f]?=some fn) (hb:fn.body=some c) (hn:fn.ntmps=n) (hl:Nat.ble args'.length n=true)
  (hargs:cvs C args=rens (rho L) args') (hok:handOk N dst (rho L) hc args'=true) (hsub:handB s.H (rho L) cb hc=hc.map (fun p=>some (renB (rho L) p.2)))
  (h:SimE a P n none c ⟨argsT 0 args',hc⟩ (inlQ P fn hc (rho L) s dst K Q)):SimC a P N f args dst s K Q:=by
 subst hn
 refine ⟨fun r hr=>?_⟩
 simp only [handOk,bae] at hok
 obtain ⟨⟨⟨⟨h1,h2⟩,h3⟩,h4⟩,h5⟩:=hok
 refine call_frame (rho L) (acall_of_ex hf hb (Nat.le_of_ble_eq_true hl) (h.h r hr)) (hargs ▸ cvs_les C args) h2 (fun c hc=>by simpa using List.all_eq_true.1 h3 c hc) (okH_look h4) (handB_spec hsub) (injB_spec h5) (dstLt_spec h1) ?_
 rintro x h' ⟨hc',rfl,hd,hk⟩
 refine ⟨hc',backH (rho L) hc' s.H,rfl,hd,fun _=>rfl,?_⟩
 cases x with
 | ret x=>exact hk
 | panic x=>exact hk
def inlOk (ρ:Nat→Nat) (hc hc':List (Nat × Blk)) (s:St) (y:AV):Bool:=okOut hc hc' y&&frameOk ρ hc hc' s.H
theorem iq_end {fn:Func} {hc:List (Nat × Blk)} {ρ:Nat→Nat} {x:AX} (hx:x=.ret∨x=.normal) (C:Conv) (bs:List Nat) (cb:List (Nat × List Conv)) (y:AV) (h:(resA P fn (look s1.T) (look s1.H)).map (cv C)=some y)
  (hok:inlOk ρ hc (pickH cb s1.H bs) s y=true) (hk:SimK a K (St.put ⟨s.T,backH ρ (pickH cb s1.H bs) s.H⟩ dst (ren ρ y))):SimQ a (inlQ P fn hc ρ s dst K Q) x s1:=by
 obtain ⟨z,h1,h2⟩:=Option.map_eq_some_iff.1 h
 simp only [inlOk,okOut,bae] at hok
 refine ⟨fun r hr=>?_⟩
 have:endR P fn hc (fun x h'=>∃ hc',h'=look hc'∧outDom ρ hc hc' s.H∧outK (K r) (Q r) s dst ρ hc' x) s1 :=
  ⟨z,y,pickH cb s1.H bs,h1,h2 ▸ cv_le C z,hok.1.1.1,subH_pick hok.1.1.2,hok.1.2,_,rfl,frameOk_spec hok.2,hk.h r hr⟩
 rcases hx with rfl | rfl <;> exact this
theorem iq_ret {fn:Func} {hc:List (Nat × Blk)} {ρ:Nat→Nat} (C:Conv) (bs:List Nat) (cb:List (Nat × List Conv)) (y:AV) (h:(resA P fn (look s1.T) (look s1.H)).map (cv C)=some y)
  (hok:inlOk ρ hc (pickH cb s1.H bs) s y=true) (hk:SimK a K (St.put ⟨s.T,backH ρ (pickH cb s1.H bs) s.H⟩ dst (ren ρ y))):SimQ a (inlQ P fn hc ρ s dst K Q) .ret s1:=iq_end (.inl rfl) C bs cb y h hok hk
theorem iq_n {fn:Func} {hc:List (Nat × Blk)} {ρ:Nat→Nat} (C:Conv) (bs:List Nat) (cb:List (Nat × List Conv)) (y:AV) (h:(resA P fn (look s1.T) (look s1.H)).map (cv C)=some y)
  (hok:inlOk ρ hc (pickH cb s1.H bs) s y=true) (hk:SimK a K (St.put ⟨s.T,backH ρ (pickH cb s1.H bs) s.H⟩ dst (ren ρ y))):SimQ a (inlQ P fn hc ρ s dst K Q) .normal s1:=iq_end (.inr rfl) C bs cb y h hok hk
theorem iq_p {fn:Func} {hc:List (Nat × Blk)} {ρ:Nat→Nat} {p:AV} (bs:List Nat) (cb:List (Nat × List Conv)) (hok:inlOk ρ hc (pickH cb s1.H bs) s p=true) (hk:SimQ a Q (.panic (ren ρ p)) ⟨s.T,backH ρ (pickH cb s1.H bs) s.H⟩):SimQ a (inlQ P fn hc ρ s dst K Q) (.panic p) s1:=by
 simp only [inlOk,okOut,bae] at hok
 exact ⟨fun r hr=>⟨p,pickH cb s1.H bs,le_refl p,hok.1.1.1,subH_pick hok.1.1.2,hok.1.2,_,rfl,frameOk_spec hok.2,hk.h r hr⟩⟩
theorem xs_inline {fn:Func} {c:Code} {n:Nat} (hc:List (Nat × Blk)) (args':List AV) (L:List (Nat × Nat)) (C:List Conv) (cb:List (Nat × List Conv)) (hw:wantA ops o (look s.T)=some true) (hf:P.funcs[f]?=some fn) (hb:fn.body=some c) (hn:fn.ntmps=n) (hl:Nat.ble args'.length n=true)
  (hcall:(callOf (look (gMark ops o s.T true)) o.op).map (fun p=>(p.1,cvs C p.2))=some (f,rens (rho L) args')) (hok:(bodyOk P f&&handOk N o.dst (rho L) hc args')=true) (hsub:handB s.H (rho L) cb hc=hc.map (fun p=>some (renB (rho L) p.2)))
  (h:SimE a P n none c ⟨argsT 0 args',hc⟩ (inlQ P fn hc (rho L) (mk ops o s true) o.dst (fKr P N ops Q l) Q)):SimR a P N ops Q false acc (o :: l) s:=by
 obtain ⟨⟨f0,args⟩,hcall0,hp⟩:=Option.map_eq_some_iff.1 hcall
 simp only [Prod.mk.injEq] at hp
 obtain ⟨rfl,hp⟩:=hp
 simp only [bae] at hok
 exact xs_enter hw hcall0 hok.1 (sc_inline L C cb hf hb hn hl hp hok.2 hsub h)
end
section
variable {P:Program} {o:Oper} {T:Nat→Option AV} {h:Heap}
theorem aop_aidx {α:Type} {t e:TypeId} {x ix:Operand} {f:α→AV} {l:List α} {k:IntKind} {n:Int} {len:Nat} (ho:o.op=.index t x ix) (hn:evO T ix=some (.p (.val (.int k n)))) (hx:evO T x=some (.agg (List.map f l)))
  (ht:P.underlying t=some (.array len e)) (hi:(P.info? e).map (·.size)=some 1) (hu:(P.underlying e).map isAggD=some false) (hl:l.length=len) (v:α) (hv:getI l n=some v):aop P o T h=some (f v,none,[]):=by
 unfold getI at hv
 split at hv
 ·cases hv
 ·rename_i hneg
  obtain ⟨i,hi1,hi2⟩:=Option.map_eq_some_iff.1 hi
  obtain ⟨d,hd1,hd2⟩:=Option.map_eq_some_iff.1 hu
  have h0:0≤n:=by omega
  have h1:n.toNat < l.length:=(List.getElem?_eq_some_iff.1 hv).1
  have h2:n < len:=by omega
  simp [aop,ho,orE,aIndex,hx,hn,ht,hi1,hi2,h0,h2,aPart,hd1,hd2,hv]
end
abbrev zF:Nat→Int:=fun _=>0
def arrc {α:Type} (n:Nat) (g:α→AV) (f:Nat→α):List AV:=(List.range n).map fun j=>g (f j)
def setF {α:Type} (f:Nat→α) (k:Nat) (x:α):Nat→α:=fun j=>if j=k then x else f j
theorem arrc_get {α:Type} {n k:Nat} (g:α→AV) (f:Nat→α) (h:k < n):(arrc n g f)[k]?=some (g (f k)):=by simp [arrc,h]
theorem arrc_set {α:Type} {n k:Nat} (g:α→AV) (f:Nat→α) (x:α) (h:k < n):(arrc n g f).take k++[g x]++(arrc n g f).drop (k+1)=arrc n g (setF f k x):=by
 have hl:(arrc n g f).length=n:=by simp [arrc]
 have e:(arrc n g f).take k++[g x]++(arrc n g f).drop (k+1)=(arrc n g f).set k (g x):=by
  rw [List.set_eq_take_append_cons_drop,if_pos (by omega)]
  simp
 rw [e]
 apply List.ext_getElem?
 intro i
 rw [List.getElem?_set]
 by_cases hi:i < n
 ·rw [arrc_get g (setF f k x) hi]
  by_cases hk:k=i
  ·subst hk; simp [hl,hi,setF]
  ·have:¬ i=k:=fun e=>hk e.symm
   simp [hk,arrc_get g f hi,setF,this]
 ·have h1:(arrc n g (setF f k x))[i]?=none:=by simp [arrc]; omega
  have h2:(arrc n g f)[i]?=none:=by simp [arrc]; omega
  have hk:¬ k=i:=by omega
  simp [h1,h2,hk]
section
variable {P:Program} {o:Oper} {T:Nat→Option AV} {h:Heap}
theorem idx_ok {n:Int} {len:Nat} (hc:(leI 0 n&&ltI n len)=true):0≤n∧n < len∧n.toNat < len:=by
 simp only [bae,leI,ltI,decide_eq_true_eq] at hc
 omega
theorem aop_aidxF {α:Type} {t e:TypeId} {x ix:Operand} {g:α→AV} {f:Nat→α} {k:IntKind} {n:Int} {len:Nat} (ho:o.op=.index t x ix) (hn:evO T ix=some (.p (.val (.int k n)))) (hx:evO T x=some (.agg (arrc len g f)))
  (ht:P.underlying t=some (.array len e)) (hi:(P.info? e).map (·.size)=some 1) (hu:(P.underlying e).map isAggD=some false) (hc:(leI 0 n&&ltI n len)=true):aop P o T h=some (g (f n.toNat),none,[]):=by
 obtain ⟨h0,h2,h3⟩:=idx_ok hc
 obtain ⟨i,hi1,hi2⟩:=Option.map_eq_some_iff.1 hi
 obtain ⟨d,hd1,hd2⟩:=Option.map_eq_some_iff.1 hu
 simp [aop,ho,orE,aIndex,hx,hn,ht,hi1,hi2,h0,h2,aPart,hd1,hd2,arrc_get g f h3]
theorem aop_arr {t e:TypeId} {x ix:Operand} {b:Nat} {k:IntKind} {n:Int} {len:Nat} (ho:o.op=.indexAddr t x ix) (hn:evO T ix=some (.p (.val (.int k n)))) (hx:evO T x=some (.ptr b 0))
  (ht:P.underlying t=some (.array len e)) (hi:(P.info? e).map (·.size)=some 1) (hc:(leI 0 n&&ltI n len)=true):aop P o T h=some (.ptr b n.toNat,none,[]):=by
 obtain ⟨i,hi1,hi2⟩:=Option.map_eq_some_iff.1 hi
 obtain ⟨h0,h2,h3⟩:=idx_ok hc
 simp [aop,ho,orE,isV,hx,aIndexAddr,hn,ht,hi1,hi2,h0,h2]
theorem aop_stF {α:Type} {ty tb:TypeId} {x0 y:Operand} {g:α→AV} {f:Nat→α} {b len:Nat} {n:Int} {x:α} (ho:o.op=.store ty x0 y) (hx:evO T x0=some (.ptr b n.toNat)) (hy:evO T y=some (g x)) (hb:h b=some (.box tb (arrc len g f))) (hi:(P.info? ty).map (·.size)=some 1) (ho1:cellsOf (g x)=some [g x])
  (hc:(leI 0 n&&ltI n len)=true):aop P o T h=some (.p (.val undef),some (b, .box tb (arrc len g (setF f n.toNat x))),[b]):=by
 obtain ⟨i,hi1,hi2⟩:=Option.map_eq_some_iff.1 hi
 obtain ⟨h0,h2,h3⟩:=idx_ok hc
 have hl:(arrc len g f).length=len:=by simp [arrc]
 have hle:n.toNat+1≤len:=h3
 have e:=arrc_set g f x h3
 simp only [aop,ho,isV,hx,aStore,hi1,hy,hb,ho1,List.length_cons,List.length_nil,Nat.zero_add,hi2,hl,hle,and_self,if_true,e]
 simp
theorem aop_arrL {α:Type} {t e:TypeId} {x ix:Operand} {b:Nat} {k:IntKind} {n:Int} {len:Nat} {l:List α} (ho:o.op=.indexAddr t x ix) (hn:evO T ix=some (.p (.val (.int k n)))) (hx:evO T x=some (.ptr b 0))
  (ht:P.underlying t=some (.array len e)) (hi:(P.info? e).map (·.size)=some 1) (hl:l.length=len) (v:α) (hv:getI l n=some v):aop P o T h=some (.ptr b n.toNat,none,[]):=by
 refine aop_arr ho hn hx ht hi ?_
 unfold getI at hv
 split at hv
 ·cases hv
 ·have:=(List.getElem?_eq_some_iff.1 hv).1
  simp [leI,ltI]
  omega
theorem aop_ldL {α:Type} {ty tb:TypeId} {x0:Operand} {g:α→AV} {l:List α} {b:Nat} {n:Int} {v:α} (ho:o.op=.load ty x0) (hx:evO T x0=some (.ptr b n.toNat)) (hb:h b=some (.box tb (List.map g l)))
  (hi:(P.underlying ty).bind (fun d=>(P.info? ty).map fun i=>isAggD d)=some false) (hv:l[n.toNat]?=some v):aop P o T h=some (g v,none,[b]):=by
 obtain ⟨d,hd,hi1⟩:=Option.bind_eq_some_iff.1 hi
 obtain ⟨i,hi2,hi3⟩:=Option.map_eq_some_iff.1 hi1
 simp [aop,ho,isV,hx,aLoad,hd,hi2,hb,hi3,hv]
end
def ovsl {α:Type} (S:Nat) (enc:α→List PV) (l:OL α) (t:Nat):AV :=
 match l with
 | .nil=>.vnil
 | .own l=>.vsl S t (List.map enc l).length
def ovec {α:Type} (ty:TypeId) (S:Nat) (enc:α→List PV) (l:OL α) (t:Nat):List (Nat × Blk) :=
 match l with
 | .nil=>[]
 | .own l=>[(t, .vec ty S (List.map enc l))]
section
variable {P:Program} {o:Oper} {T:Nat→Option AV} {h:Heap}
theorem aop_vlen {t:TypeId} {e:TypeId} {x:Operand} {S tk n:Nat} {ty:TypeId} {es:List (List PV)} (ho:o.op=.call ⟨.builtin .len,#[x],#[t]⟩) (hx:evO T x=some (.vsl S tk n)) (hb:h tk=some (.vec ty S es)) (ht:P.underlying t=some (.slice e)) (hn:n=es.length) :
  aop P o T h=some (.p (.val (.int .i64 es.length)),none,[tk]):=by
 subst hn
 simp [aop,ho,isV,hx,vLen,ht,hb]
theorem aop_vidx {α:Type} {t e:TypeId} {x ix:Operand} {S tk nn:Nat} {ty:TypeId} {enc:α→List PV} {l:List α} {k:IntKind} {n:Int} (ho:o.op=.indexAddr t x ix) (hn:evO T ix=some (.p (.val (.int k n)))) (hx:evO T x=some (.vsl S tk nn)) (hb:h tk=some (.vec ty S (List.map enc l)))
  (ht:P.underlying t=some (.slice e)) (hi:(P.info? e).map (·.size)=some S) (hnn:nn=(List.map enc l).length) (v:α) (hv:getI l n=some v):aop P o T h=some (.vptr tk (List.map enc l).length n.toNat 0,none,[tk]):=by
 subst hnn
 unfold getI at hv
 split at hv
 ·cases hv
 ·rename_i hneg
  obtain ⟨i,hi1,hi2⟩:=Option.map_eq_some_iff.1 hi
  have h0:0≤n:=by omega
  have h1:n.toNat < l.length:=(List.getElem?_eq_some_iff.1 hv).1
  simp [aop,ho,isV,hx,vIndexAddr,hn,ht,hb,hi1,hi2,h0,h1]
theorem aop_vfld {s:TypeId} {x:Operand} {f off:Nat} {tk k g:Nat} {ty:TypeId} {S:Nat} {es:List (List PV)} (ho:o.op=.fieldAddr s x f) (hx:evO T x=some (.vptr tk es.length k g)) (hb:h tk=some (.vec ty S es))
  (hs:(P.underlying s).bind (fun d=>match d with | .struct fields=>fields[f]?.map (fun fl=>(fl.offset,((P.info? fl.type).map fun i=>i.size == 0))) | _=>none)=some (off,some false)):aop P o T h=some (.vptr tk es.length k (g+off),none,[tk]):=by
 obtain ⟨d,h1,h2⟩:=Option.bind_eq_some_iff.1 hs
 split at h2
 ·rename_i fields
  obtain ⟨fl,h3,h4⟩:=Option.map_eq_some_iff.1 h2
  simp only [Prod.mk.injEq] at h4
  obtain ⟨rfl,h4⟩:=h4
  obtain ⟨i,h5,h6⟩:=Option.map_eq_some_iff.1 h4
  have h6':¬ i.size=0:=by simpa using h6
  simp [aop,ho,isV,hx,vFieldAddr,h1,h3,hb,h5,h6']
 ·cases h2
theorem aop_vld {α:Type} {ty:TypeId} {x:Operand} {tk n f S:Nat} {tb:TypeId} {enc:α→List PV} {l:List α} {v:α} {c:AV} (ho:o.op=.load ty x) (hx:evO T x=some (.vptr tk (List.map enc l).length n f)) (hb:h tk=some (.vec tb S (List.map enc l))) (hv:l[n]?=some v)
  (hc:(match P.underlying ty,P.info? ty with
   | some d,some i=>if isAggD d then (if f+i.size≤(enc v).length then some (.agg ((((enc v).drop f).take i.size).map .p)) else none) else (match (enc v)[f]? with | some c=>some (.p c) | none=>none)
   | _,_=>none)=some c):aop P o T h=some (c,none,[tk]):=by
 split at hc
 ·rename_i d i hd hi
  have hv':(List.map enc l)[n]?=some (enc v):=by simp [hv]
  simp only [aop,ho,isV,hx,vLoad,hd,hi,hb,hv',if_true]
  split at hc
  ·rename_i h1
   rw [if_pos h1]
   split at hc
   ·rename_i h2; rw [if_pos h2]; simp only [sie] at hc; rw [hc]
   ·cases hc
  ·rename_i h1
   rw [if_neg h1]
   split at hc
   ·rename_i c' h2; rw [h2]; simp only [sie] at hc; subst hc; rfl
   ·cases hc
 ·cases hc
theorem aop_vst {α:Type} {ty:TypeId} {x y:Operand} {tk n f S:Nat} {tb:TypeId} {enc:α→List PV} {l:List α} {v v':α} {xv:AV} (ho:o.op=.store ty x y) (hx:evO T x=some (.vptr tk (List.map enc l).length n f)) (hy:evO T y=some xv) (hb:h tk=some (.vec tb S (List.map enc l))) (hv:l[n]?=some v)
  (hc:(match P.info? ty,cellsOf xv with
   | some i,some vs=>match toPVs vs with | some ps=>if vs.length=i.size∧f+ps.length≤(enc v).length then some ((enc v).take f++ps++(enc v).drop (f+ps.length)) else none | none=>none
   | _,_=>none)=some (enc v')):aop P o T h=some (.p (.val undef),some (tk, .vec tb S (List.map enc (l.set n v'))),[tk]):=by
 split at hc
 ·rename_i i vs hi hvs
  split at hc
  ·rename_i ps hps
   split at hc
   ·rename_i h1
    simp only [sie] at hc
    have hv':(List.map enc l)[n]?=some (enc v):=by simp [hv]
    simp only [aop,ho,isV,hx,vStore,hi,hy,hb,hvs,hps,hv',if_true,h1,and_self,hc,List.map_set]
   ·cases hc
  ·cases hc
 ·cases hc
theorem aop_vapp {α:Type} {t e:TypeId} {s x:Operand} {S by_ tk n:Nat} {enc:α→List PV} {l l2:List α} {xv:AV} (ho:o.op=.call ⟨.builtin .append,#[s,x],#[t,t]⟩) (ht:P.underlying t=some (.slice e))
  (hi:(P.info? e).bind (fun i=>i.zero.map fun z=>(i.size,i.bytes,z.cells.size,allOneV z.cells.toList))=some (S,by_,S,true)) (hS:Nat.ble 1 S=true) (hs:evO T s=some (.vsl S tk n)) (hx:evO T x=some xv) (he:elemsN S xv=some (List.map enc l2))
  (hb:h tk=some (.vec e S (List.map enc l))) (hn:n=(List.map enc l).length) (hc:roomB (l++l2).length by_=true):aop P o T h=some (.vsl S tk (List.map enc (l++l2)).length,some (tk, .vec e S (List.map enc (l++l2))),[tk]):=by
 subst hn
 obtain ⟨i,hi1,hi2⟩:=Option.bind_eq_some_iff.1 hi
 obtain ⟨z,hz1,hz2⟩:=Option.map_eq_some_iff.1 hi2
 simp only [Prod.mk.injEq] at hz2
 obtain ⟨rfl,rfl,hz,hz3⟩:=hz2
 have hS':0 < i.size:=Nat.le_of_ble_eq_true hS
 simp only [roomB,decide_eq_true_eq,List.length_append] at hc
 by_cases h2:l2=[]
 ·subst h2
  simp only [List.length_nil,Nat.add_zero] at hc
  simp [aop,ho,isV,hs,hx,vAppend,ht,hi1,hz1,he,hz,hS',hz3,hb,hc]
 ·simp [aop,ho,isV,hs,hx,vAppend,ht,hi1,hz1,he,hz,hS',hz3,hb,h2,hc]
def sliceB (lo hi:Int) (len:Nat):Bool:=decide (0≤lo∧lo≤hi∧hi≤len)
def natA (T:Nat→Option AV) (d:Int):Option Operand→Option Int
 | none=>some d
 | some x=>match evO T x with | some (.p (.val (.int _ n)))=>some n | _=>none
theorem natOf_natA {T:Nat→Option AV} {d:Nat} {x:Option Operand} {n:Int} (h:natA T d x=some n) (h0:0≤n):natOf T d x=some n.toNat:=by
 cases x with
 | none=>simp only [natA,sie] at h; subst h; simp [natOf]
 | some x =>
  simp only [natA] at h
  split at h
  ·rename_i k m hm
   simp only [sie] at h
   subst h
   simp [natOf,hm,h0]
  ·cases h
theorem aop_slice {α:Type} {t e:TypeId} {x:Operand} {lo hi:Option Operand} {S:Nat} {enc:α→List PV} {l:List α} {sv:AV} {a b:Int} (ho:o.op=.slice t x lo hi none) (ht:P.underlying t=some (.slice e)) (hi1:(P.info? e).map (·.size)=some S) (hx:evO T x=some sv) (hs:elems sv=some (S,List.map enc l))
  (hlo:natA T 0 lo=some a) (hhi:natA T (List.map enc l).length hi=some b) (hc:sliceB a b l.length=true):aop P o T h=some (.p (.sl S (List.map enc ((l.take b.toNat).drop a.toNat))),none,[]):=by
 obtain ⟨i,hi2,hi3⟩:=Option.map_eq_some_iff.1 hi1
 simp only [sliceB,decide_eq_true_eq] at hc
 have h1:=natOf_natA (d:=0) hlo hc.1
 have h2:=natOf_natA hhi (by omega)
 have h3:a.toNat≤b.toNat:=by omega
 have h4:b.toNat≤l.length:=by omega
 have h5:S=i.size∧a.toNat≤b.toNat∧b.toNat≤(List.map enc l).length:=⟨hi3.symm,h3,by simpa using h4⟩
 have h6:aSlice P T t x lo hi none=some (.p (.sl S (((List.map enc l).take b.toNat).drop a.toNat)),none,[]):=by
  simp only [aSlice,ht,hx,hs,hi2,h1,h2]
  rw [if_pos h5]
 simp only [aop,ho,h6,orE,List.map_drop,List.map_take]
def makeB (l c:Int) (by_:Nat):Bool:=decide (0≤l∧l≤c∧(by_:Int) * c≤281474976710656∧c≤1099511627776)
theorem aop_make {α:Type} {t e:TypeId} {x y:Operand} {S by_ d:Nat} {enc:α→List PV} {z0:α} {k k':IntKind} {l c:Int} (ho:o.op=.makeSlice t x y) (hd:o.dst=some d) (ht:P.underlying t=some (.slice e))
  (hi:(P.info? e).bind (fun i=>i.zero.bind fun z=>(toPVs (z.cells.toList.map ofV)).map fun ps=>(i.size,i.bytes,z.cells.size,allOneV z.cells.toList,ps))=some (S,by_,S,true,enc z0)) (hS:Nat.ble 1 S=true) (hl:(enc z0).length=S) (hx:evO T x=some (.p (.val (.int k l)))) (hy:evO T y=some (.p (.val (.int k' c)))) (hb:h d=none)
  (hc:makeB l c by_=true):aop P o T h=some (.vsl S d (List.map enc (List.replicate l.toNat z0)).length,some (d, .vec e S (List.map enc (List.replicate l.toNat z0))),[d]):=by
 obtain ⟨i,hi1,hi2⟩:=Option.bind_eq_some_iff.1 hi
 obtain ⟨z,hz1,hz2⟩:=Option.bind_eq_some_iff.1 hi2
 obtain ⟨ps,hp1,hp2⟩:=Option.map_eq_some_iff.1 hz2
 simp only [Prod.mk.injEq] at hp2
 obtain ⟨rfl,rfl,h3,h4,rfl⟩:=hp2
 have hS':0 < i.size:=Nat.le_of_ble_eq_true hS
 simp only [makeB,decide_eq_true_eq] at hc
 simp [aop,ho,vMake,ht,hx,hy,hd,hi1,hz1,hb,hp1,h3,h4,hS',hl,hc]
theorem aop_vapp0 {α:Type} {t e:TypeId} {s x:Operand} {S by_ d:Nat} {enc:α→List PV} {l2:List α} {xv:AV} (ho:o.op=.call ⟨.builtin .append,#[s,x],#[t,t]⟩) (hd:o.dst=some d) (ht:P.underlying t=some (.slice e))
  (hi:(P.info? e).bind (fun i=>i.zero.map fun z=>(i.size,i.bytes,z.cells.size,allOneV z.cells.toList))=some (S,by_,S,true)) (hS:Nat.ble 1 S=true) (hs:evO T s=some .vnil) (hx:evO T x=some xv) (he:elemsN S xv=some (List.map enc l2)) (hn:l2.isEmpty=false)
  (hb:h d=none) (hc:roomB ([]++l2).length by_=true):aop P o T h=some (.vsl S d (List.map enc ([]++l2)).length,some (d, .vec e S (List.map enc ([]++l2))),[d]):=by
 obtain ⟨i,hi1,hi2⟩:=Option.bind_eq_some_iff.1 hi
 obtain ⟨z,hz1,hz2⟩:=Option.map_eq_some_iff.1 hi2
 simp only [Prod.mk.injEq] at hz2
 obtain ⟨rfl,rfl,hz,hz3⟩:=hz2
 have hn':¬ l2=[]:=by intro e; subst e; cases hn
 have hS':0 < i.size:=Nat.le_of_ble_eq_true hS
 simp only [roomB,decide_eq_true_eq,List.nil_append] at hc
 simp [aop,ho,isV,hs,hx,vAppend,ht,hi1,hz1,he,hz,hS',hz3,hb,hn',hc,hd]
end
def excX {E V:Type} (x:V→AEnd × List (Nat × Blk)) (y:E→AEnd × List (Nat × Blk)):Except E V→AEnd × List (Nat × Blk)
 | .ok v=>x v
 | .error e=>y e
section
variable {R V:Type} {N:Nat} {s s1:St} {Q:R→AX→St→Prop}
theorem kq_e {k:V→Option R} {S:V→St} (v:V) (K:Keep) (s1:St) (hw:shrQ K s=some s1) (he:s1=S v):SimQ (k v) (kQ N k S Q) .normal s:=kq_n v K (he ▸ hw)
theorem nq_f {S:V→St} (v:V) (K0:Keep) (s0:St) (h0:shrQ K0 s=some s0) (hw:Weak N s0 s1) (K:Keep) (h1:shrQ K s1=some (S v)):SimQ (some v) (nrmQ N S) .normal s:=nq_w v ((weak_shr h0).trans (hw.trans (weak_shr h1)))
end
end Go.Abs
namespace Go.Abs
open Go
set_option linter.unusedVariables false
section
variable {R V E:Type} {a a1 a2:Option R} {P:Program} {N:Nat} {ro:Option Nat} {ops:Array Oper} {o:Oper} {l:List Oper} {dr:Bool} {acc:List Foot} {s s' s1:St} {Q:R→AX→St→Prop} {K:R→St→Prop} {f:FuncId} {args args':List AV} {dst:Option Tmp}
def dQ {V:Type} (P:Program) (fn:Func) (hc:List (Nat × Blk)) (N:Nat) (cf:FuncId) (X:V→AEnd × List (Nat × Blk)):V→AX→St→Prop:=fun v=>deferQ P fn hc N cf (heapR X v)
def fKe {V:Type} (P:Program) (fn:Func) (hc:List (Nat × Blk)) (X:V→AEnd × List (Nat × Blk)):V→St→Prop:=fun v s=>endR P fn hc (heapR X v) s
def noQ {V:Type}:V→AX→St→Prop:=fun _ _ _=>False
theorem dq_ret {X:R→AEnd × List (Nat × Blk)} {fn:Func} {hc:List (Nat × Blk)} {cf:FuncId} (h:SimC a P N cf [.p (.val .nilIface), .ptr 2000 0] none s (fKe P fn hc X) noQ):SimQ a (dQ P fn hc N cf X) .ret s:=⟨fun r hr=>h.h r hr⟩
theorem dq_p {X:R→AEnd × List (Nat × Blk)} {fn:Func} {hc:List (Nat × Blk)} {cf:FuncId} {p:AV} (h:SimC a P N cf [p, .ptr 2000 0] none s (fKe P fn hc X) noQ):SimQ a (dQ P fn hc N cf X) (.panic p) s:=⟨fun r hr=>h.h r hr⟩
theorem ke_end {X:V→AEnd × List (Nat × Blk)} {v:V} {fn:Func} {hc:List (Nat × Blk)} (C:Conv) (bs:List Nat) (cb:List (Nat × List Conv)) (h:(resA P fn (look s.T) (look s.H)).map (cv C)=some (retOf (X v).1)) (hX:(X v).1=.ret (retOf (X v).1))
  (hH:pickH cb s.H bs=(X v).2) (hok:okOut hc (X v).2 (retOf (X v).1)=true):SimK (some v) (fKe P fn hc X) s:=⟨fun r hr=>by cases hr; exact hq_end C bs cb h hX hH hok⟩
theorem noOb_ren {H:List (Nat × Blk)} {b:Nat} (h:noOb H=true):∀ c k x,look H c=some k→k.ob=some x→(some x).map (renO (sig b))=some x:=by
 intro c k x h1 h2
 rw [noOb_spec h c k h1] at h2
 cases h2
theorem defer_sim {fn:Func} {X:R→AEnd × List (Nat × Blk)} {g cf:FuncId} {n:Nat} (hc:List (Nat × Blk)) (C:Catcher P g cf) (F:Deferrer fn g) (b:Nat) (hf:P.funcs[f]?=some fn) (hn:fn.ntmps=n) (hl:Nat.ble args.length n=true) (hbg:bodyOk P g=true) (hb1:Nat.blt b 1000=true)
  (hm:P.follows .mixedOrders=true) {id:Nat} {ops:Array Oper} (hr1:F.r1=.region id ops false) (h1:(regRun P n ops false ⟨argsT 0 args,hc⟩).isSome=true) (htb:look (regSt P n ops false ⟨argsT 0 args,hc⟩).T F.tb=some (.ptr b 0))
  (h2:((look (regSt P n ops false ⟨argsT 0 args,hc⟩).H 2000).isNone&&noOb (regSt P n ops false ⟨argsT 0 args,hc⟩).H)=true)
  (h:SimE a P n none F.rest ⟨(F.tc,AV.fn (.func g) [] [.ptr 2000 0]) :: renT b (regSt P n ops false ⟨argsT 0 args,hc⟩).T,renH b (regSt P n ops false ⟨argsT 0 args,hc⟩).H⟩ (dQ P fn hc n cf X)) (r:R) (hr:a=some r):ACall P f args (look hc) (heapR X r):=by
 subst hn
 simp only [bae,Option.isNone_iff_eq_none] at h2
 obtain ⟨s1,hs1⟩:=Option.isSome_iff_exists.1 h1
 have e:regSt P fn.ntmps ops false ⟨argsT 0 args,hc⟩=s1:=by simp [regSt,hs1]
 rw [e] at htb h2 h
 refine acall_defer C F b hf (Nat.le_of_ble_eq_true hl) hbg (by simpa [Nat.blt_eq] using hb1) ?_
 rw [hr1]
 exact ex_regRun hm hs1 ⟨rfl,htb,h2.1,noOb_ren h2.2,h.h r hr⟩
end
end Go.Abs
namespace Go.Abs
open Go
set_option linter.unusedVariables false
theorem ex_drop {P:Program} {N:Nat} {ro:Option Nat} {c:Code} {s:St} {Q:AX→St→Prop}
  (h:Ex P N ro c s (fun x s'=>∃ s'',subT (look s'.T) (look s''.H) s''.T∧subH (look s'.H) (look s''.H) s''.H∧keepsAll (look s''.H) s.H=true∧(∀ v,x=.panic v→okRef (look s''.H) v=true)∧Q x s'')):Ex P N ro c s Q:=by
 intro φ M0 D a w r
 refine wpIn_mono (h φ M0 D a w r) ?_
 rintro e a' w' ⟨φ',x,s',⟨s'',h1,h2,h3,hp,h4⟩,r',E',hx⟩
 obtain ⟨k1,k2,k3⟩:=sub_conv (hc:=s.H) r' E' h2 h3
 refine ⟨φ',x,s'',h4,⟨?_,r'.siz,k1,fun t y ht=>?_⟩,k2,?_⟩
 ·obtain ⟨h0,ms,g1,g2,g3⟩:=r'.dfs
  refine ⟨h0,ms,g1,g2,fun z hz=>⟨(g3 z hz).1,(g3 z hz).2.1,fun b hb=>(g3 z hz).2.2 b ?_⟩⟩
  cases hq:look s''.H b with
  | none=>exact absurd hq hb
  | some k'=>obtain ⟨⟨k,e1,_⟩,_⟩:=subH_spec h2 b k' hq; rw [e1]; simp
 ·obtain ⟨z,g1,g2,g3⟩:=subT_spec h1 t y ht
  exact ⟨(r'.tm t z g1).1,k3 _ _ g3 (le_rep.1 _ _ _ g2 (r'.tm t z g1).2)⟩
 ·cases x with
  | normal=>exact hx
  | exit i=>exact hx
  | ret=>exact hx
  | panic v=>obtain ⟨u,h5,h6⟩:=hx; exact ⟨u,h5,k3 _ _ (hp v rfl) h6⟩
section
variable {R V E:Type} {a a1 a2:Option R} {P:Program} {N:Nat} {ro:Option Nat} {ops:Array Oper} {o:Oper} {l:List Oper} {dr:Bool} {acc:List Foot} {s s' s1:St} {Q:R→AX→St→Prop} {K:R→St→Prop} {f:FuncId} {args args':List AV} {dst:Option Tmp}
def rgQ (N:Nat) (s:St) (Q:R→AX→St→Prop):R→AX→St→Prop:=fun r x s'=>∃ s'',subT (look s'.T) (look s''.H) s''.T∧subH (look s'.H) (look s''.H) s''.H∧keepsAll (look s''.H) s.H=true∧(∀ v,x=.panic v→okRef (look s''.H) v=true)∧Q r x s''
def fKg (D2:Nat) (T:List (Nat × AV)) (nf:LInfo) (N:Nat) (s:St) (Q:R→AX→St→Prop):R→St→Prop:=fun r=>rangeK D2 T nf (rgQ N s Q r)
theorem sim_range {fo:Operand} {ps:Array Tmp} {assign body:Code} (g:FuncId) (D2:Nat) (l':List AV) (m':List AV) (hf:evO (look s.T) fo=some (.fn (.func g) l' m')) (hok:(bodyOk P g&&Nat.ble 1000 D2&&(look s.H D2).isNone)=true)
  (h:∀ nf fn,nf=LInfo.mk N fn ps assign body→SimC a P N g (l'++[.yv D2]++m') none ⟨s.T,(D2, .lp s.T nf .ready none) :: s.H⟩ (fKg D2 s.T nf N s Q) (rgQ N s Q)):SimE a P N none (.rangeFunc fo ps assign body) s Q:=by
 simp only [bae,Option.isNone_iff_eq_none] at hok
 refine ⟨fun r hr=>ex_drop (ex_rangeFunc D2 (Nat.le_of_ble_eq_true hok.1.2) hf hok.1.1 hok.2 fun fn=>?_)⟩
 exact (h _ fn rfl).h r hr
theorem rg_spec {x:AX} {st:LoopState} {pd:Option Code} {D2:Nat} {T:List (Nat × AV)} {nf:LInfo} (Kp:Keep) (s'':St) (hx:∀ v,x ≠ .panic v) (hs:(if okT (look (shr Kp ⟨s1.T,(D2, .lp T nf .exhausted pd) :: s1.H⟩).H) (shr Kp ⟨s1.T,(D2, .lp T nf .exhausted pd) :: s1.H⟩).T&&okH (look (shr Kp ⟨s1.T,(D2, .lp T nf .exhausted pd) :: s1.H⟩).H) (shr Kp ⟨s1.T,(D2, .lp T nf .exhausted pd) :: s1.H⟩).H&&keepsAll (look (shr Kp ⟨s1.T,(D2, .lp T nf .exhausted pd) :: s1.H⟩).H) s.H then some (shr Kp ⟨s1.T,(D2, .lp T nf .exhausted pd) :: s1.H⟩) else none)=some s'')
  (h:SimQ a Q x s'') (r:R) (hr:a=some r):rgQ N s Q r x ⟨s1.T,(D2, .lp T nf .exhausted pd) :: s1.H⟩:=by
 split at hs
 ·rename_i hok
  simp only [sie] at hs
  subst hs
  simp only [bae] at hok
  exact ⟨_,subT_pick hok.1.1,subH_pick hok.1.2,hok.2,fun v hv=>absurd hv (hx v),h.h r hr⟩
 ·cases hs
def rgS (Kp:Keep) (s s1:St):Option St:=if okT (look (shr Kp s1).H) (shr Kp s1).T&&okH (look (shr Kp s1).H) (shr Kp s1).H&&keepsAll (look (shr Kp s1).H) s.H then some (shr Kp s1) else none
theorem kg_n {D2:Nat} {T:List (Nat × AV)} {nf:LInfo} (st:LoopState) (Kp:Keep) (s'':St) (hl:look s1.H D2=some (.lp T nf st none)) (hst:st ≠ .busy) (hs:rgS Kp s ⟨s1.T,(D2, .lp T nf .exhausted none) :: s1.H⟩=some s'') (h:SimQ a Q .normal s''):SimK a (fKg D2 T nf N s Q) s1 :=
 ⟨fun r hr=>⟨st,none,hl,hst,rg_spec (st:=st) Kp s'' (fun v e=>by cases e) hs h r hr⟩⟩
theorem kg_r {D2:Nat} {T:List (Nat × AV)} {nf:LInfo} (st:LoopState) (Kp:Keep) (s'':St) (hl:look s1.H D2=some (.lp T nf st (some .ret))) (hst:st ≠ .busy) (hs:rgS Kp s ⟨s1.T,(D2, .lp T nf .exhausted (some .ret)) :: s1.H⟩=some s'') (h:SimQ a Q .ret s''):SimK a (fKg D2 T nf N s Q) s1 :=
 ⟨fun r hr=>⟨st,some .ret,hl,hst,rg_spec (st:=st) Kp s'' (fun v e=>by cases e) hs h r hr⟩⟩
def rdR (ρ:Nat→Nat) (hc:List (Nat × Blk)) (s:St) (dst:Option Tmp) (K:St→Prop) (Q:AX→St→Prop):AEnd→Heap→Prop:=fun x h'=>∃ hc',h'=look hc'∧outDom ρ hc hc' s.H∧outK K Q s dst ρ hc' x
def rnQ (ρ:Nat→Nat) (hc:List (Nat × Blk)) (b:Nat) (T:List (Nat × AV)) (nf:LInfo) (s:St) (dst:Option Tmp) (K:R→St→Prop) (Q:R→AX→St→Prop):R→AX→St→Prop:=fun r=>roundQ hc b T nf (rdR ρ hc s dst (K r) (Q r))
def asQ (P:Program) (N l:Nat) (body:Code) (b:Nat) (T:List (Nat × AV)) (nf:LInfo) (Q:R→AX→St→Prop):R→AX→St→Prop:=fun r x s1=>x=.normal∧∃ pd1,look s1.H b=some (.lp T nf .ready pd1)∧Ex P N (some l) body ⟨s1.T,(b, .lp T nf .busy pd1) :: s1.H⟩ (Q r)
theorem as_n {l b:Nat} {body:Code} {T:List (Nat × AV)} {nf:LInfo} (Kp:Keep) (s2:St) (pd:Option Code) (hl:look s1.H b=some (.lp T nf .ready pd)) (hs:shrQ Kp ⟨s1.T,(b, .lp T nf .busy pd) :: s1.H⟩=some s2) (h:SimE a P N (some l) body s2 Q):SimQ a (asQ P N l body b T nf Q) .normal s1 :=
 ⟨fun r hr=>⟨rfl,pd,hl,ex_weak (weak_shr hs) (h.h r hr)⟩⟩
theorem xs_yield {N1:Nat} {fn:FuncId} {ps:Array Tmp} {assign body:Code} {nf:LInfo} {l1:List Oper} (L:List (Nat × Nat)) (hc:List (Nat × Blk)) (b:Nat) (T:List (Nat × AV)) (C:List Conv) (cb:List (Nat × List Conv)) (args':List AV) (hw:wantA ops o (look s.T)=some true) (hnf:nf=LInfo.mk N1 fn ps assign body)
  (hy:(yieldOf (look (gMark ops o s.T true)) o.op).map (fun p=>(p.1,cvs C p.2))=some (rho L b,rens (rho L) args')) (hb:look hc b=some (.lp T nf .ready none)) (hps:(Nat.ble 1000 b&&Nat.beq ps.size args'.length&&ps.toList.all (fun p=>Nat.blt p N1))=true)
  (hok:handOk N o.dst (rho L) hc args'=true) (hsub:handB s.H (rho L) cb hc=hc.map (fun p=>some (renB (rho L) p.2)))
  (h:∀ l,SimE a P N1 (some l) assign ⟨psT ps.toList args' T,hc⟩ (asQ P N1 l body b T nf (rnQ (rho L) hc b T nf (mk ops o s true) o.dst (fKr P N ops Q l1) Q))):SimR a P N ops Q false acc (o :: l1) s:=by
 obtain ⟨⟨b0,args⟩,hy0,hp⟩:=Option.map_eq_some_iff.1 hy
 simp only [Prod.mk.injEq] at hp
 obtain ⟨hb0,hargs⟩:=hp
 have hb0:b0=rho L b:=hb0
 subst hb0
 refine ⟨fun r hr=>?_⟩
 show ExOps P N ops (Q r) (o :: l1) s
 simp only [ExOps,hw,splitB_true,hy0]
 show YEx P N (rho L b) args o.dst (mk ops o s true) _ _
 simp only [bae] at hps
 simp only [handOk,bae] at hok
 obtain ⟨⟨⟨⟨g1,g2⟩,g3⟩,g4⟩,g5⟩:=hok
 have hY:YCall P b args' (look hc) (rdR (rho L) hc (mk ops o s true) o.dst (fKr P N ops Q l1 r) (Q r)):=by
  have hnf':=hnf
  refine ycall_of_ex (nf:=nf) (Nat.le_of_ble_eq_true hps.1.1) hb ?_ ?_ fun l=>?_
  ·subst hnf'; exact Nat.eq_of_beq_eq_true hps.1.2
  ·subst hnf'; intro p hp; simpa [Nat.blt_eq] using List.all_eq_true.1 hps.2 p hp
  ·have:=(h l).h r hr
   subst hnf'
   exact this
 refine yield_frame (s:=mk ops o s true) (rho L) hY (by rw [← hargs]; exact cvs_les C args) g2 (fun c hc=>by simpa using List.all_eq_true.1 g3 c hc) (okH_look g4) (handB_spec hsub) (injB_spec g5) (dstLt_spec g1) ?_
 rintro x h' ⟨hc',rfl,hd,hk⟩
 refine ⟨hc',backH (rho L) hc' s.H,rfl,hd,fun _=>rfl,?_⟩
 cases x with
 | ret x=>exact hk
 | panic x=>exact hk
def rnOk (hc hc':List (Nat × Blk)) (b:Nat) (s:St):Bool:=okH (look hc') hc'&&keepsAll (look hc') hc
theorem rn_end {ρ:Nat→Nat} {hc:List (Nat × Blk)} {b:Nat} {T:List (Nat × AV)} {nf:LInfo} {x:AX} {yes:Bool} {st:LoopState} {pd:Option Code} (hx:∀ r,rnQ ρ hc b T nf s dst K Q r x s1=roundEnd hc b T nf (rdR ρ hc s dst (K r) (Q r)) yes st pd s1) (bs:List Nat) (cb:List (Nat × List Conv)) (st0:LoopState) (pd0:Option Code)
  (hl:look (pickH cb s1.H bs) b=some (.lp T nf st0 pd0)) (hok:(rnOk hc (pickH cb s1.H bs) b s&&frameOk ρ hc ((b, .lp T nf st pd) :: pickH cb s1.H bs) s.H)=true)
  (hk:SimK a K (St.put ⟨s.T,backH ρ ((b, .lp T nf st pd) :: pickH cb s1.H bs) s.H⟩ dst (ren ρ (.p (.val (.bool yes)))))):SimQ a (rnQ ρ hc b T nf s dst K Q) x s1:=by
 refine ⟨fun r hr=>?_⟩
 rw [hx r]
 simp only [rnOk,bae] at hok
 exact ⟨_,st0,pd0,subH_pick hok.1.1,hok.1.2,hl,_,rfl,frameOk_spec hok.2,hk.h r hr⟩
theorem rn_n {ρ:Nat→Nat} {hc:List (Nat × Blk)} {b:Nat} {T:List (Nat × AV)} {nf:LInfo} (bs:List Nat) (cb:List (Nat × List Conv)) (st0:LoopState) (pd0:Option Code) (hl:look (pickH cb s1.H bs) b=some (.lp T nf st0 pd0)) (hok:(rnOk hc (pickH cb s1.H bs) b s&&frameOk ρ hc ((b, .lp T nf .ready none) :: pickH cb s1.H bs) s.H)=true)
  (hk:SimK a K (St.put ⟨s.T,backH ρ ((b, .lp T nf .ready none) :: pickH cb s1.H bs) s.H⟩ dst (ren ρ (.p (.val (.bool true)))))):SimQ a (rnQ ρ hc b T nf s dst K Q) .normal s1:=rn_end (fun _=>rfl) bs cb st0 pd0 hl hok hk
theorem rn_r {ρ:Nat→Nat} {hc:List (Nat × Blk)} {b:Nat} {T:List (Nat × AV)} {nf:LInfo} (bs:List Nat) (cb:List (Nat × List Conv)) (st0:LoopState) (pd0:Option Code) (hl:look (pickH cb s1.H bs) b=some (.lp T nf st0 pd0)) (hok:(rnOk hc (pickH cb s1.H bs) b s&&frameOk ρ hc ((b, .lp T nf .done (some .ret)) :: pickH cb s1.H bs) s.H)=true)
  (hk:SimK a K (St.put ⟨s.T,backH ρ ((b, .lp T nf .done (some .ret)) :: pickH cb s1.H bs) s.H⟩ dst (ren ρ (.p (.val (.bool false)))))):SimQ a (rnQ ρ hc b T nf s dst K Q) .ret s1:=rn_end (fun _=>rfl) bs cb st0 pd0 hl hok hk
end
attribute [simp] osl oarr ovsl ovec
end Go.Abs
namespace Go.Abs
open Go
set_option linter.unusedVariables false
def chainOk (ops:Array Oper):List Nat→Bool
 | []=>true
 | [_]=>true
 | c :: c' :: r=>(ops[c']?).any (waits · c)&&chainOk ops (c' :: r)
end Go.Abs
namespace Go.Abs
open Go Go.ChangeShapes Go.WideShapes
set_option linter.unusedVariables false
def tilesOk (P:Program) (total:Nat):Nat→List Field→Bool
 | off,[]=>off == total
 | off,f :: r=>f.offset == off&&tilesOk P total (off+P.cellsOf f.type) r
def pureT (P:Program):Nat→TypeId→Bool
 | 0,_=>false
 | d+1,t=>match P.underlying t with
  | some .bool=>P.cellsOf t == 1
  | some (.int _)=>P.cellsOf t == 1
  | some .string=>P.cellsOf t == 1
  | some (.slice e)=>P.cellsOf t == 1&&Nat.blt 0 (P.cellsOf e)&&pureT P d e
  | some (.struct fs)=>tilesOk P (P.cellsOf t) 0 fs.toList&&fs.toList.all (fun f=>pureT P d f.type)
  | some (.array n e)=>n * P.cellsOf e == P.cellsOf t&&pureT P d e
  | _=>false
def ShFs (S:TypeId→List PV→Prop):List Field→List PV→Prop
 | [],cs=>cs=[]
 | f :: r,cs=>∃ a b,cs=a++b∧S f.type a∧ShFs S r b
def ShN (S:List PV→Prop):Nat→List PV→Prop
 | 0,cs=>cs=[]
 | n+1,cs=>∃ a b,cs=a++b∧S a∧ShN S n b
def Sh (P:Program):Nat→TypeId→List PV→Prop
 | 0,_,_=>False
 | d+1,t,cs=>match P.underlying t with
  | some .bool=>∃ b,cs=[.val (.bool b)]
  | some (.int k)=>∃ n,cs=[.val (.int k n)]∧(Lit.int k n).wf=true
  | some .string=>∃ s:List UInt8,cs=[.val (.string (mkS s))]∧s.length≤maxLen
  | some (.slice e)=>∃ es,cs=[.sl (P.cellsOf e) es]∧es.length≤maxLen∧∀ x ∈ es,Sh P d e x
  | some (.struct fs)=>ShFs (Sh P d) fs.toList cs
  | some (.array n e)=>ShN (Sh P d e) n cs
  | _=>False
section
variable {H:Type} {enc:TypeId × Value→H} {P:Program} {w:World} {held:Bool} {φ:Nat→Nat} {M:Mset}
theorem cells?_get {base:Nat} {a:Addr} {n:Nat} {vs:List Value} (h:w.cells? base a n=some vs):vs.length=n∧∀ i,i < n→w.cell? (a.add i)=vs[i]?:=by
 unfold World.cells? at h
 split at h
 ·have h1:=mapM_some_length h
  refine ⟨by simpa using h1,fun i hi=>?_⟩
  exact mapM_some_get h i i (by simp [hi])
 ·cases h
def Got (P:Program) (w:World) (φ:Nat→Nat) (M:Mset) (d:Nat) (t:TypeId) (vs:List Value):Prop :=
 ∃ cs:List PV,Sh P d t cs∧RepAs φ emp w M (cs.map .p) vs∧(∀ v ∈ vs,v.oneCell'=true)
theorem got_one {d:Nat} {t:TypeId} {c:PV} {v:Value} (h1:Sh P d t [c]) (h2:RepP w M c v) (h3:v.oneCell'=true):Got P w φ M d t [v] :=
 ⟨[c],h1,by simp only [List.map_cons,List.map_nil,RepAs,RepA]; exact ⟨v,[],rfl,h2,rfl⟩,by simpa using h3⟩
theorem repAs_app {φ:Nat→Nat} {h:Heap} {w:World} {M:Mset} {a b:List AV} {l m:List Value} (h1:RepAs φ h w M a l) (h2:RepAs φ h w M b m):RepAs φ h w M (a++b) (l++m):=repAs_append h1 h2
theorem add_zero (a:Addr):a.add 0=a:=rfl
theorem add_some {b off n:Nat}:(⟨b,off,none⟩:Addr).add n=⟨b,off+n,none⟩:=by
 unfold Addr.add
 split
 ·rename_i h; subst h; rfl
 ·rfl
theorem cell?_spot {a:Addr} {v:Value} (h:w.cell? a=some v):a.spot=none:=by
 unfold World.cell? at h
 split at h
 ·split at h
  ·cases h
  ·rename_i h2; cases hs:a.spot with
   | none=>rfl
   | some s=>simp [hs] at h2
 ·cases h
theorem pick_list {Q:Nat→List PV→Prop}:∀ (n:Nat),(∀ i,i < n→∃ c,Q i c)→∃ es:List (List PV),es.length=n∧∀ i c,es[i]?=some c→Q i c
 | 0,_=>⟨[],rfl,by simp⟩
 | n+1,h=>by
  obtain ⟨es,h1,h2⟩:=pick_list n (fun i hi=>h i (by omega))
  obtain ⟨c,hc⟩:=h n (by omega)
  refine ⟨es++[c],by simp [h1],fun i c' hi=>?_⟩
  rcases Nat.lt_or_ge i n with hlt | hge
  ·rw [List.getElem?_append_left (by omega)] at hi
   exact h2 i c' hi
  ·have:i < n+1:=by have:=(List.getElem?_eq_some_iff.1 hi).1; simp [h1] at this; omega
   obtain rfl:i=n:=by omega
   rw [List.getElem?_append_right (by omega)] at hi
   simp [h1] at hi
   subst hi
   exact hc
theorem repEs_mk {S r:Nat}:∀ (es:List (List PV)) (o:Nat),(∀ i e,es[i]?=some e→e.length=S∧RepCs w M r (o+i * S) e)→RepEs w M S r o es
 | [],o,_=>by simp [RepEs]
 | e :: es,o,h=>by
  simp only [RepEs]
  refine ⟨by have:=h 0 e (by simp); simpa using this,repEs_mk es (o+S) fun i e' he=>?_⟩
  have:=h (i+1) e' (by simpa using he)
  rwa [show o+(i+1) * S=o+S+i * S from by rw [Nat.add_mul]; omega] at this
theorem trod_got (hM:∀ r o,¬ M r o):∀ (d fuel:Nat) (t:TypeId) (vs:List Value) (x:DataW H × List MemPlace),pureT P d t=true→DataW.trod enc P w 0 (fun _=>true) held fuel t vs=some x→Got P w φ M d t vs∧vs.length=P.cellsOf t:=by
 intro d
 induction d with
 | zero=>intro fuel t vs x hp; cases hp
 | succ d ih =>
  intro fuel t vs x hp h
  have hfs:∀ (fs:List Field) (off total:Nat) (vs:List Value),vs.length=total→tilesOk P total off fs=true→fs.all (fun f=>pureT P d f.type)=true →
    (∀ f ∈ fs,∃ n y,DataW.trod enc P w 0 (fun _=>true) held n f.type ((vs.drop f.offset).take (P.cellsOf f.type))=some y)→∃ cs,ShFs (Sh P d) fs cs∧RepAs φ emp w M (cs.map .p) (vs.drop off)∧(∀ v ∈ vs.drop off,v.oneCell'=true):=by
   intro fs
   induction fs with
   | nil =>
    intro off total vs hl ht _ _
    simp only [tilesOk,beq_iff_eq] at ht
    have:vs.drop off=[]:=List.drop_eq_nil_of_le (by omega)
    exact ⟨[],rfl,by rw [this]; simp [RepAs],by rw [this]; simp⟩
   | cons f fs ihf =>
    intro off total vs hl ht ha hm
    simp only [tilesOk,bae,beq_iff_eq] at ht
    simp only [List.all_cons,bae] at ha
    obtain ⟨n,y,hy⟩:=hm f (by simp)
    rw [ht.1] at hy
    obtain ⟨⟨c1,g1,g2,g3⟩,_⟩:=ih n f.type _ y ha.1 hy
    obtain ⟨c2,k1,k2,k3⟩:=ihf (off+P.cellsOf f.type) total vs hl ht.2 ha.2 (fun f hf=>hm f (by simp [hf]))
    have e:vs.drop off=(vs.drop off).take (P.cellsOf f.type)++vs.drop (off+P.cellsOf f.type):=by
     rw [← List.drop_drop]; exact (List.take_append_drop _ _).symm
    refine ⟨c1++c2,⟨c1,c2,rfl,g1,k1⟩,?_,?_⟩
    ·rw [e,List.map_append]; exact repAs_app g2 k2
    ·rw [e]; intro v hv
     rcases List.mem_append.1 hv with hv | hv
     ·exact g3 v hv
     ·exact k3 v hv
  have har:∀ (e:TypeId) (n k:Nat) (vs:List Value),vs.length=(k+n) * P.cellsOf e→pureT P d e=true →
    (∀ i,k≤i→i < k+n→∃ m y,DataW.trod enc P w 0 (fun _=>true) held m e ((vs.drop (i * P.cellsOf e)).take (P.cellsOf e))=some y)→∃ cs,ShN (Sh P d e) n cs∧RepAs φ emp w M (cs.map .p) (vs.drop (k * P.cellsOf e))∧(∀ v ∈ vs.drop (k * P.cellsOf e),v.oneCell'=true):=by
   intro e n
   induction n with
   | zero =>
    intro k vs hl _ _
    have:vs.drop (k * P.cellsOf e)=[]:=List.drop_eq_nil_of_le (by simp at hl; omega)
    exact ⟨[],rfl,by rw [this]; simp [RepAs],by rw [this]; simp⟩
   | succ n ihn =>
    intro k vs hl hpe hm
    obtain ⟨m,y,hy⟩:=hm k (by omega) (by omega)
    obtain ⟨⟨c1,g1,g2,g3⟩,_⟩:=ih m e _ y hpe hy
    obtain ⟨c2,k1,k2,k3⟩:=ihn (k+1) vs (by rw [hl]; congr 1; omega) hpe (fun i h1 h2=>hm i (by omega) (by omega))
    have e':vs.drop (k * P.cellsOf e)=(vs.drop (k * P.cellsOf e)).take (P.cellsOf e)++vs.drop ((k+1) * P.cellsOf e):=by
     rw [Nat.add_mul,Nat.one_mul,← List.drop_drop]; exact (List.take_append_drop _ _).symm
    refine ⟨c1++c2,⟨c1,c2,rfl,g1,k1⟩,?_,?_⟩
    ·rw [e',List.map_append]; exact repAs_app g2 k2
    ·rw [e']; intro v hv
     rcases List.mem_append.1 hv with hv | hv
     ·exact g3 v hv
     ·exact k3 v hv
  unfold pureT at hp
  cases hu:P.underlying t with
  | none=>rw [hu] at hp; cases hp
  | some td =>
   rw [hu] at hp
   cases td with
   | bool =>
    obtain ⟨b,rfl,_⟩:=DataW.trod_bool hu h
    simp only [beq_iff_eq] at hp
    exact ⟨got_one (c:=.val (.bool b)) (by simp only [Sh,hu]; exact ⟨b,rfl⟩) (by simp [RepP]) rfl,by simp [hp]⟩
   | int k =>
    obtain ⟨n,rfl,_,hw⟩:=DataW.trod_int hu h
    simp only [beq_iff_eq] at hp
    exact ⟨got_one (c:=.val (.int k n)) (by simp only [Sh,hu]; exact ⟨n,rfl,hw⟩) (by simp [RepP]) rfl,by simp [hp]⟩
   | string =>
    obtain ⟨b,rfl,_,hw⟩:=DataW.trod_string hu h
    simp only [beq_iff_eq] at hp
    refine ⟨got_one (c:=.val (.string b)) ?_ (by simp [RepP]) rfl,by simp [hp]⟩
    simp only [Sh,hu]
    exact ⟨b.data.toList,by simp [mkS],by simpa using hw⟩
   | slice e =>
    simp only [bae,beq_iff_eq,Nat.blt_eq] at hp
    rcases DataW.trod_slice hu h with ⟨rfl,_⟩ | ⟨a,len,cap,elems,rest,n,_,rfl,_,_,hlc,hcm,hel,hrest⟩
    ·refine ⟨got_one (c:=.sl (P.cellsOf e) []) ?_ (by simp only [RepP]; exact .inr ⟨trivial,none,0,rfl⟩) rfl,by simp [hp.1.1]⟩
     simp only [Sh,hu]
     exact ⟨[],rfl,by simp,by simp⟩
    ·have hget:=hrest.1
     have hone:∀ i,i < len→∃ (vs:List Value) (cs:List PV),w.cells? 0 (a.add (i * P.cellsOf e)) (P.cellsOf e)=some vs∧Sh P d e cs∧RepAs φ emp w M (cs.map .p) vs∧(∀ v ∈ vs,v.oneCell'=true):=by
      intro i hi
      have h1:elems[i]?=some elems[i]:=List.getElem?_eq_getElem (by omega)
      have h2:=hget i hi
      rw [h1] at h2
      obtain ⟨vs,h3,h4⟩:=Option.bind_eq_some_iff.1 h2
      obtain ⟨⟨cs,g1,g2,g3⟩,_⟩:=ih _ e vs _ hp.2 h4
      exact ⟨vs,cs,h3,g1,g2,g3⟩
     obtain ⟨es,hes,hq⟩:=pick_list (Q:=fun i cs=>∃ vs,w.cells? 0 (a.add (i * P.cellsOf e)) (P.cellsOf e)=some vs∧Sh P d e cs∧RepAs φ emp w M (cs.map .p) vs∧(∀ v ∈ vs,v.oneCell'=true)) len (fun i hi=>by
      obtain ⟨vs,cs,h1,h2⟩:=hone i hi
      exact ⟨cs,vs,h1,h2⟩)
     refine ⟨got_one (c:=.sl (P.cellsOf e) es) ?_ ?_ rfl,by simp [hp.1.1]⟩
     ·simp only [Sh,hu]
      refine ⟨es,rfl,by omega,fun x hx=>?_⟩
      obtain ⟨i,hi,rfl⟩:=List.getElem_of_mem hx
      obtain ⟨vs,_,h2,_⟩:=hq i es[i] (List.getElem?_eq_getElem hi)
      exact h2
     ·simp only [RepP]
      by_cases h0:len=0
      ·subst h0
       exact .inr ⟨List.eq_nil_of_length_eq_zero hes,some a,cap,rfl⟩
      ·have hspot:a.spot=none:=by
        obtain ⟨vs,h1,_⟩:=hq 0 es[0] (List.getElem?_eq_getElem (by omega))
        obtain ⟨g1,g2⟩:=cells?_get h1
        have h3:=g2 0 hp.1.2
        simp only [Nat.zero_mul,add_zero] at h3
        rw [List.getElem?_eq_getElem (by omega)] at h3
        exact cell?_spot h3
       obtain ⟨ab,ao,aas⟩:=a
       simp only at hspot
       subst hspot
       refine .inl ⟨ab,ao,cap,by rw [hes],by omega,repEs_mk es ao fun i c hi=>?_⟩
       obtain ⟨vs,h1,h2,h3,h4⟩:=hq i c hi
       obtain ⟨g1,g2⟩:=cells?_get h1
       have hlen:=repAs_length h3
       refine ⟨by simp at hlen; omega,?_⟩
       rw [repCs_iff]
       intro j q hj
       obtain ⟨v,k1,k2⟩:=repAs_getP h3 j q hj
       have hj':j < P.cellsOf e:=by have:=(List.getElem?_eq_some_iff.1 k1).1; omega
       have k3:=g2 j hj'
       rw [add_some,add_some,k1] at k3
       exact ⟨v,k3,hM _ _,h4 v (List.mem_of_getElem? k1),k2⟩
   | struct fs =>
    simp only [bae] at hp
    obtain ⟨xs,n,_,_,hl,hx,hall⟩:=DataW.trod_struct hu h
    obtain ⟨cs,g1,g2,g3⟩:=hfs fs.toList 0 (P.cellsOf t) vs hl hp.1 hp.2 (by
     intro f hf
     obtain ⟨i,hi,rfl⟩:=List.getElem_of_mem hf
     have h1:fs[i]?=some fs.toList[i]:=by simp
     have h2:=hall i _ h1
     have h3:i < xs.length:=by rw [hx]; simpa using hi
     exact ⟨n,xs[i],by rw [h2]; exact List.getElem?_eq_getElem h3⟩)
    simp only [List.drop_zero] at g2 g3
    exact ⟨⟨cs,by simp only [Sh,hu]; exact g1,g2,g3⟩,hl⟩
   | array n e =>
    simp only [bae,beq_iff_eq] at hp
    obtain ⟨xs,m,_,_,hl,hx,hall⟩:=DataW.trod_array hu h
    obtain ⟨cs,g1,g2,g3⟩:=har e n 0 vs (by rw [hl,Nat.zero_add,hp.1]) hp.2 (by
     intro i _ hi
     have hi':i < n:=by omega
     have h3:i < xs.length:=by omega
     exact ⟨m,xs[i],by rw [hall i hi']; exact List.getElem?_eq_getElem h3⟩)
    simp only [Nat.zero_mul,List.drop_zero] at g2 g3
    exact ⟨⟨cs,by simp only [Sh,hu]; exact g1,g2,g3⟩,hl⟩
   | _=>cases hp
end
end Go.Abs
namespace Go.Abs
open Go Go.ChangeShapes Go.WideShapes Go.ChangeAt Go.RowKit
set_option linter.unusedVariables false
def one1:List PV→AV
 | [c]=>.p c
 | cs=>ag cs
def avOf (P:Program) (t:TypeId) (cs:List PV):AV :=
 match P.underlying t with
 | some (.struct _)=>ag cs
 | some (.array _ _)=>ag cs
 | _=>one1 cs
def ArgsSh (P:Program) (d:Nat):List TypeId→List AV→Prop
 | [],aas=>aas=[]
 | t :: ts,aas=>∃ cs r,aas=avOf P t cs :: r∧Sh P d t cs∧ArgsSh P d ts r
section
variable {H:Type} {enc:TypeId × Value→H} {P:Program} {w:World} {φ:Nat→Nat} {M:Mset}
theorem arg_got (hM:∀ r o,¬ M r o) {d base:Nat} {t:TypeId} {v:Value} {x:DataW H} {ps:List MemPlace} (hp:pureT P d t=true) (hv:Value.okWide P w .any base t v)
  (h:DataW.Trod enc P w 0 (fun _=>true) true t v x ps):∃ cs,Sh P d t cs∧RepA φ emp w M (avOf P t cs) v:=by
 obtain ⟨fuel,h⟩:=h
 obtain ⟨⟨cs,h1,h2,h3⟩,hl⟩:=trod_got (φ:=φ) hM d fuel t _ _ hp h
 refine ⟨cs,h1,?_⟩
 cases d with
 | zero=>cases hp
 | succ d =>
  unfold Value.okWide at hv
  unfold avOf
  cases hu:P.underlying t with
  | none=>simp [pureT,hu] at hp
  | some td =>
   rw [hu] at hv
   have one:(∀ c,v ≠ .agg c)→P.cellsOf t=1→RepA φ emp w M (one1 cs) v:=by
    intro ha hc
    have e:v.cells=#[v]:=by cases v <;> first | rfl | exact absurd rfl (ha _)
    rw [e] at h2
    match cs,h2 with
    | [c],h2 =>
     simp only [List.map_cons,List.map_nil,RepAs] at h2
     obtain ⟨y,ys,e1,e2,e3⟩:=h2
     simp at e1
     obtain ⟨rfl,rfl⟩:=e1
     exact e2
    | [],h2=>simp [RepAs] at h2
    | _ :: _ :: _,h2 =>
     simp only [List.map_cons,RepAs] at h2
     obtain ⟨y,ys,e1,_,z,zs,e2,_⟩:=h2
     subst e2
     simp at e1
   have agg:(∃ c,v=.agg c)→RepA φ emp w M (ag cs) v:=by
    rintro ⟨c,rfl⟩
    exact ⟨c.toList,by simp,h2⟩
   cases td with
   | bool =>
    simp only [pureT,hu,beq_iff_eq] at hp
    exact one (fun c hc=>by subst hc; simp [Cell.okWide,Cell.ok,hu] at hv) hp
   | int k =>
    simp only [pureT,hu,beq_iff_eq] at hp
    exact one (fun c hc=>by subst hc; simp [Cell.okWide,Cell.ok,hu] at hv) hp
   | string =>
    simp only [pureT,hu,beq_iff_eq] at hp
    exact one (fun c hc=>by subst hc; simp [Cell.okWide,Cell.ok,hu] at hv) hp
   | slice e =>
    simp only [pureT,hu,bae,beq_iff_eq] at hp
    exact one (fun c hc=>by subst hc; simp [Cell.okWide,Cell.ok,hu] at hv) hp.1.1
   | struct fs =>
    obtain ⟨c,rfl,_⟩:=hv
    exact agg ⟨c,rfl⟩
   | array n e =>
    obtain ⟨c,rfl,_⟩:=hv
    exact agg ⟨c,rfl⟩
   | _=>simp [pureT,hu] at hp
theorem args_got (hM:∀ r o,¬ M r o) {d base:Nat}:∀ {ts:List TypeId} {vs:List Value} {ds:List (DataW H)} {ps:List MemPlace},ts.all (pureT P d)=true →
  (∀ (j:Nat) t v,ts[j]?=some t→vs[j]?=some v→Value.okWide P w .any base t v)→DataW.TrodAll enc P w 0 (fun _=>true) true ts vs ds ps→∃ aas,ArgsSh P d ts aas∧RepAs φ emp w M aas vs
 | [],vs,ds,ps,_,_,h=>by
  obtain ⟨rfl,_,_⟩:=trodAll_nil h
  exact ⟨[],rfl,rfl⟩
 | t :: ts,vs,ds,ps,hp,hv,h=>by
  obtain ⟨v,vs',d',ds',p,q,rfl,rfl,rfl,h1,h2⟩:=trodAll_cons h
  simp only [List.all_cons,bae] at hp
  obtain ⟨cs,g1,g2⟩:=arg_got (φ:=φ) hM hp.1 (hv 0 t v rfl rfl) h1
  obtain ⟨aas,g3,g4⟩:=args_got hM hp.2 (fun j t v a b=>hv (j+1) t v (by simpa using a) (by simpa using b)) h2
  exact ⟨_,⟨cs,aas,rfl,g1,g3⟩,v,vs',rfl,g2,g4⟩
structure Over (w w':World):Prop where
 os:w'.os=w.os
 output:w'.output=w.output
 same:∀ r,r < w.heap.size→w'.heap[r]?=w.heap[r]?
theorem over_of_evol {φ φ':Nat→Nat} {h':Heap} {w w':World} (E:Evol φ emp w φ' h' w'):Over w w' :=
 ⟨E.os,E.output,fun r hr=>E.same r hr (fun b hb=>absurd rfl hb)⟩
theorem Over.kept {w w':World} (o:Over w w') (may:MemPlace→Prop):w.keptBut w' may:=by
 refine ⟨o.os,o.output,fun i hi=>?_⟩
 rw [o.same i hi]
 cases h:w.heap[i]? with
 | none=>rfl
 | some x=>cases x <;> simp
theorem Over.at {w w':World} (o:Over w w') {p:MemPlace} (h:p.block < w.heap.size):w.sameAt w' p:=by
 cases p with
 | cell b off=>simp only [World.sameAt,World.cell?]; rw [o.same b h]
 | map b=>exact o.same b h
theorem Over.frozen {w w':World} (o:Over w w') {a:Addr} (h:a.block < w.heap.size):w'.frozen? a=w.frozen? a:=by
 simp only [World.frozen?]; rw [o.same _ h]
theorem trodAll_over {w w':World} (hl:laidOutB P=true) {sp:Nat→Bool} (hsp:∀ b,b < w.heap.size→sp b=true) (o:Over w w'):∀ {ts:List TypeId} {vs:List Value} {ds:List (DataW H)} {ps:List MemPlace},ts.all (fun t=>P.readableRec t&&Nat.blt t P.types.size)=true→(∀ p ∈ ps,p.block < w.heap.size) →
  DataW.TrodAll enc P w 0 (fun _=>true) true ts vs ds ps→DataW.TrodAll enc P w' 0 sp true ts vs ds ps
 | [],vs,ds,ps,_,_,h=>by
  obtain ⟨rfl,rfl,rfl⟩:=trodAll_nil h
  exact rfl
 | t :: ts,vs,ds,ps,hp,hb,h=>by
  obtain ⟨v,vs',d',ds',p,q,rfl,rfl,rfl,h1,h2⟩:=trodAll_cons h
  simp only [List.all_cons,bae,Nat.blt_eq] at hp
  refine ⟨p,q,Go.WideElems.Trod_stays hl hp.1.1 hp.1.2 h1 (fun p hp=>o.at (hb p (by simp [hp]))) (fun p hp=>hsp _ (hb p (by simp [hp]))),trodAll_over hl hsp o (by simpa using hp.2) (fun p hp=>hb p (by simp [hp])) h2,rfl⟩
theorem law_contractW {f:FuncId} {fn:Func} {s:ChangeSpec} {tb:TypeId} {d:Nat} {apart fresh handsOn again:Bool}
  (hl:laidOutB P=true) (hpure:fn.params.toList.all (pureT P d)=true) (hread:fn.params.toList.all (fun t=>P.readableRec t&&Nat.blt t P.types.size)=true)
  (hres:fn.resultTypes=#[tb]) (htb:P.underlying tb=some .bool) (hvars:s.vars=[])
  (hspec:∀ ds:List (DataW H),ds.length=fn.params.size→s.fn H ds={ results:=[.lit (.bool true)],args:=ds })
  {W:World} {base:Nat} {args:Array Value} {ds gs:List (DataW H)} {before:List MemPlace}
  (hval:∀ (j:Nat) t v,fn.params[j]?=some t→args[j]?=some v→Value.okWide P W .any base t v)
  (hW:DataW.Whole enc P fn.params.toList s.vars apart W args.toList ds gs before)
  (hcall:∀ aas,ArgsSh P d fn.params.toList aas→RepAs (fun x=>x) emp W (MM (fun x=>x) emp (fun _ _=>False)) aas args.toList→PCall P f aas (.ret (.p (.val (.bool true))))) :
  Calls P f args W fun e W'=>∃ v,e=.returned v∧s.post enc P fn apart fresh handsOn again W args v W':=by
 have hW':=hW
 obtain ⟨p,q,hA,hV,rfl,hfz,hnd⟩:=hW
 rw [hvars] at hV
 obtain ⟨rfl,rfl⟩:=trodVars_none hV
 have hlen:ds.length=fn.params.size:=by
  have:∀ {ts:List TypeId} {vs:List Value} {ds:List (DataW H)} {ps:List MemPlace},DataW.TrodAll enc P W 0 (fun _=>true) true ts vs ds ps→ds.length=ts.length:=by
   intro ts
   induction ts with
   | nil=>intro vs ds ps h; obtain ⟨_,rfl,_⟩:=trodAll_nil h; rfl
   | cons t ts ih=>intro vs ds ps h; obtain ⟨v,vs',d',ds',p,q,rfl,rfl,rfl,h1,h2⟩:=trodAll_cons h; simp [ih h2]
  simpa using this hA
 obtain ⟨aas,g1,g2⟩:=args_got (φ:=fun x=>x) (M:=MM (fun x=>x) emp (fun _ _=>False)) (base:=base) (fun r o h=>h.elim not_mut_emp id) hpure
  (fun j t v a b=>hval j t v (by simpa using a) (by simpa using b)) hA
 have hc:=hcall aas g1 g2 (fun x=>x) (fun _ _=>False) W args.toList (relH_emp (fun _ _ h=>h.elim)) g2
 simp only [Array.toArray_toList] at hc
 refine hc.mono ?_
 rintro e w' ⟨φ',r',h',⟨rfl,rfl⟩,hH',E,hv⟩
 obtain ⟨v,rfl,hv⟩:=hv
 simp only [RepA,RepP] at hv
 subst hv
 have o:=over_of_evol E
 have hlt:∀ x ∈ p,x.block < W.heap.size:=fun x hx=>hW'.lt x (by simpa using hx)
 refine ⟨_,rfl,?_⟩
 have hsp:s.fn H (ds++[])={ results:=[.lit (.bool true)],args:=ds }:=by rw [List.append_nil]; exact hspec ds hlen
 have hr:∀ (b:Nat) (sp:Nat→Bool) (hd:Bool),DataW.TrodAll enc P w' b sp hd fn.resultTypes.toList ((Value.bool true).resultList fn.resultTypes.size) [.lit (.bool true)] []:=fun b sp hd=>by
  rw [hres]; exact trodAll_cons_mk (shut_bool htb _) trodAll_mk0
 refine ⟨ds,[],p++[],[],p,[],hW',by rw [hsp]; exact hr _ _ _,by rw [hsp]; exact trodAll_over hl (fun b hb=>by simpa using hb) o hread hlt hA,by rw [hsp,hvars]; rfl,o.kept _,fun _=>?_⟩
 refine ⟨ok_one hres rfl (okWide_bool_mk htb _),[.lit (.bool true)]++ds,[],([]++p)++[],⟨[]++p,[],?_,?_,rfl,?_,?_⟩,?_⟩
 ·exact trodAll_append (trodAll_over hl (fun b hb=>rfl) o hread hlt hA) (hr _ _ _)
 ·rw [hvars]; rfl
 ·intro b off hp
  rw [o.frozen (by exact hlt (.cell b off) (by simpa using hp))]
  exact hfz b off (by simpa using hp)
 ·intro ha; simpa using hnd ha
 ·intro x hx _; simpa using hx
theorem law_contract {f:FuncId} {fn:Func} {s:ChangeSpec} {tb:TypeId} {d:Nat} {apart fresh handsOn again:Bool}
  (hl:laidOutB P=true) (hpure:fn.params.toList.all (pureT P d)=true) (hread:fn.params.toList.all (fun t=>P.readableRec t&&Nat.blt t P.types.size)=true)
  (hres:fn.resultTypes=#[tb]) (htb:P.underlying tb=some .bool) (hvars:s.vars=[])
  (hspec:∀ ds:List (DataW H),ds.length=fn.params.size→s.fn H ds={ results:=[.lit (.bool true)],args:=ds })
  (hcall:∀ aas,ArgsSh P d fn.params.toList aas→PCall P f aas (.ret (.p (.val (.bool true)))))
  {W:World} {base:Nat} {args:Array Value} {ds gs:List (DataW H)} {before:List MemPlace}
  (hval:∀ (j:Nat) t v,fn.params[j]?=some t→args[j]?=some v→Value.okWide P W .any base t v)
  (hW:DataW.Whole enc P fn.params.toList s.vars apart W args.toList ds gs before) :
  Calls P f args W fun e W'=>∃ v,e=.returned v∧s.post enc P fn apart fresh handsOn again W args v W' :=
 law_contractW hl hpure hread hres htb hvars hspec hval hW (fun aas h _=>hcall aas h)
end
def i64b (x:Int):Prop:=-9223372036854775808≤x∧x≤9223372036854775807
def u64b (x:Int):Prop:=0≤x∧x≤18446744073709551615
def u8b (x:Int):Prop:=0≤x∧x≤255
def strb (l:List UInt8):Prop:=l.length≤maxLen
def listb {α:Type} (W:α→Prop) (l:List α):Prop:=l.length≤maxLen∧∀ x ∈ l,W x
section
variable {P:Program} {d:Nat} {t:TypeId} {cs:List PV}
theorem sh_i64 (hu:P.underlying t=some (.int .i64)) (h:Sh P (d+1) t cs):∃ n,cs=[.val (.int .i64 n)]∧i64b n:=by
 simp only [Sh,hu] at h
 obtain ⟨n,rfl,hw⟩:=h
 exact ⟨n,rfl,by simpa [Lit.wf,IntKind.min,IntKind.max,IntKind.signed,IntKind.bits,i64b] using hw⟩
theorem sh_u64 (hu:P.underlying t=some (.int .u64)) (h:Sh P (d+1) t cs):∃ n,cs=[.val (.int .u64 n)]∧u64b n:=by
 simp only [Sh,hu] at h
 obtain ⟨n,rfl,hw⟩:=h
 exact ⟨n,rfl,by simpa [Lit.wf,IntKind.min,IntKind.max,IntKind.signed,IntKind.bits,u64b] using hw⟩
theorem sh_u8 (hu:P.underlying t=some (.int .u8)) (h:Sh P (d+1) t cs):∃ n,cs=[.val (.int .u8 n)]∧u8b n:=by
 simp only [Sh,hu] at h
 obtain ⟨n,rfl,hw⟩:=h
 exact ⟨n,rfl,by simpa [Lit.wf,IntKind.min,IntKind.max,IntKind.signed,IntKind.bits,u8b] using hw⟩
theorem sh_str (hu:P.underlying t=some .string) (h:Sh P (d+1) t cs):∃ s:List UInt8,cs=[.val (.string (mkS s))]∧strb s:=by
 simp only [Sh,hu] at h
 exact h
theorem sh_struct {fs:Array Field} (hu:P.underlying t=some (.struct fs)) (h:Sh P (d+1) t cs):ShFs (Sh P d) fs.toList cs:=by
 simpa only [Sh,hu] using h
theorem sh_list {e:TypeId} {S:Nat} {α:Type} {f:α→List PV} {W:α→Prop} (hu:P.underlying t=some (.slice e)) (hS:P.cellsOf e=S) (he:∀ c,Sh P d e c→∃ r,c=f r∧W r) (h:Sh P (d+1) t cs) :
  ∃ l:List α,cs=[.sl S (List.map f l)]∧listb W l:=by
 simp only [Sh,hu] at h
 obtain ⟨es,rfl,hl,hx⟩:=h
 have:∃ l:List α,es=List.map f l∧∀ x ∈ l,W x:=by
  clear hl
  induction es with
  | nil=>exact ⟨[],rfl,by simp⟩
  | cons e es ih =>
   obtain ⟨r,rfl,hr⟩:=he e (hx e (by simp))
   obtain ⟨l,rfl,hl⟩:=ih (fun x h=>hx x (by simp [h]))
   exact ⟨r :: l,rfl,by simpa using ⟨hr,hl⟩⟩
 obtain ⟨l,rfl,hw⟩:=this
 exact ⟨l,by rw [hS],by simpa using hl,hw⟩
theorem avOf_struct {fs:Array Field} (hu:P.underlying t=some (.struct fs)):avOf P t cs=ag cs:=by simp only [avOf,hu]
theorem avOf_int {k:IntKind} {c:PV} (hu:P.underlying t=some (.int k)):avOf P t [c]=.p c:=by simp only [avOf,hu,one1]
theorem avOf_slice {e:TypeId} {c:PV} (hu:P.underlying t=some (.slice e)):avOf P t [c]=.p c:=by simp only [avOf,hu,one1]
end
end Go.Abs
namespace Go.Abs
open Go Go.ChangeShapes Go.WideShapes Go.ChangeAt Go.RowKit
set_option linter.unusedVariables false
theorem sh_array {P:Program} {d:Nat} {t:TypeId} {cs:List PV} {n:Nat} {e:TypeId} (hu:P.underlying t=some (.array n e)) (h:Sh P (d+1) t cs):ShN (Sh P d e) n cs:=by
 simpa only [Sh,hu] using h
end Go.Abs
namespace Go.Proofs
open Go Go.Abs
set_option maxRecDepth 100000
set_option linter.unusedVariables false
abbrev VI (n:Int):PV:=.val (.int .i64 n)
abbrev VU (n:Int):PV:=.val (.int .u64 n)
abbrev V8 (n:Int):PV:=.val (.int .u8 n)
abbrev VB (b:Bool):PV:=.val (.bool b)
abbrev VS (s:List UInt8):PV:=.val (.string (mkS s))
abbrev I (n:Int):AV:=.p (.val (.int .i64 n))
abbrev U (n:Int):AV:=.p (.val (.int .u64 n))
abbrev B8 (n:Int):AV:=.p (.val (.int .u8 n))
abbrev B (b:Bool):AV:=.p (.val (.bool b))
abbrev S (s:List UInt8):AV:=.p (.val (.string (mkS s)))
def ci (n:Int):List PV:=[VI n]
abbrev zS:AV:=.p (.val (.slice none 0 0))
abbrev mI:List (List PV)→List (List PV):=List.map idc
def c8 (n:Int):List PV:=[V8 n]
def cb (n:Bool):List PV:=[VB n]
theorem tfm:Tryz.prog.follows .mixedOrders=true:=by kernel_rfl
structure GAr where
 Kind:Int
 Days:Int
 From:Int
 To:Int
 Price:Int
 Unit:Int
 Free:Int
deriving DecidableEq
def GAr.cs (x:GAr):List PV:=[VI x.Kind,VI x.Days,VI x.From,VI x.To,VI x.Price,VI x.Unit,VI x.Free]
abbrev mAr:List GAr→List (List PV):=List.map GAr.cs
def enc_2_int (x:Int × Int):List PV:=[VI x.1,VI x.2]
structure GReading where
 Serial:Int
 Number:Int
 Minute:Int
 Register:Int
 Link:Int
deriving DecidableEq
def GReading.cs (x:GReading):List PV:=[VI x.Serial,VI x.Number,VI x.Minute,VI x.Register,VU x.Link]
abbrev mReading:List GReading→List (List PV):=List.map GReading.cs
structure GTf where
 Name:List UInt8
 Articles:List GAr
deriving DecidableEq
def GTf.cs (x:GTf):List PV:=[VS x.Name, .sl 7 (List.map GAr.cs x.Articles)]
structure GCh where
 At:Int
 Offset:Int
deriving DecidableEq
def GCh.cs (x:GCh):List PV:=[VI x.At,VI x.Offset]
abbrev mCh:List GCh→List (List PV):=List.map GCh.cs
structure GCl where
 Offset:Int
 Changes:List GCh
 Holidays:List Int
deriving DecidableEq
def GCl.cs (x:GCl):List PV:=[VI x.Offset, .sl 2 (List.map GCh.cs x.Changes), .sl 1 (List.map ci x.Holidays)]
structure GSl where
 Minute:Int
 Energy:Int
deriving DecidableEq
def GSl.cs (x:GSl):List PV:=[VI x.Minute,VI x.Energy]
abbrev mSl:List GSl→List (List PV):=List.map GSl.cs
structure GSs where
 From:Int
 To:Int
 End:Int
 Slices:List GSl
deriving DecidableEq
def GSs.cs (x:GSs):List PV:=[VI x.From,VI x.To,VI x.End, .sl 2 (List.map GSl.cs x.Slices)]
structure GLine where
 Article:Int
 Amount:Int
deriving DecidableEq
def GLine.cs (x:GLine):List PV:=[VI x.Article,VI x.Amount]
abbrev mLine:List GLine→List (List PV):=List.map GLine.cs
structure GBill where
 Lines:List GLine
 Net:Int
 Tax:Int
 Total:Int
deriving DecidableEq
def GBill.cs (x:GBill):List PV:=[.sl 2 (List.map GLine.cs x.Lines),VI x.Net,VI x.Tax,VI x.Total]
structure GClaim where
 Tariff:GTf
 Calendar:GCl
 Readings:List GReading
 Seed:Int
 Session:GSs
 Bill:GBill
deriving DecidableEq
def GClaim.cs (x:GClaim):List PV:=[VS x.Tariff.Name, .sl 7 (List.map GAr.cs x.Tariff.Articles),VI x.Calendar.Offset, .sl 2 (List.map GCh.cs x.Calendar.Changes), .sl 1 (List.map ci x.Calendar.Holidays), .sl 5 (List.map GReading.cs x.Readings),VU x.Seed,VI x.Session.From,VI x.Session.To,VI x.Session.End, .sl 2 (List.map GSl.cs x.Session.Slices), .sl 2 (List.map GLine.cs x.Bill.Lines),VI x.Bill.Net,VI x.Bill.Tax,VI x.Bill.Total]
structure GAE where
 Claim:GClaim
 follows:GSs
 bill:GBill
 rate:Int
deriving DecidableEq
def GAE.cs (x:GAE):List PV:=[VS x.Claim.Tariff.Name, .sl 7 (List.map GAr.cs x.Claim.Tariff.Articles),VI x.Claim.Calendar.Offset, .sl 2 (List.map GCh.cs x.Claim.Calendar.Changes), .sl 1 (List.map ci x.Claim.Calendar.Holidays), .sl 5 (List.map GReading.cs x.Claim.Readings),VU x.Claim.Seed,VI x.Claim.Session.From,VI x.Claim.Session.To,VI x.Claim.Session.End, .sl 2 (List.map GSl.cs x.Claim.Session.Slices), .sl 2 (List.map GLine.cs x.Claim.Bill.Lines),VI x.Claim.Bill.Net,VI x.Claim.Bill.Tax,VI x.Claim.Bill.Total,VI x.follows.From,VI x.follows.To,VI x.follows.End, .sl 2 (List.map GSl.cs x.follows.Slices), .sl 2 (List.map GLine.cs x.bill.Lines),VI x.bill.Net,VI x.bill.Tax,VI x.bill.Total,VI x.rate]
def enc_2_uint8 (x:Int × Int):List PV:=[V8 x.1,V8 x.2]
structure GNode where
 Kind:Int
 Name:List UInt8
 N:Int
 At:Int
 Kids:List (List PV)
def GNode.cs (x:GNode):List PV:=[VI x.Kind,VS x.Name,VI x.N,VI x.At, .sl 5 (List.map idc x.Kids)]
def GNode.of:List PV→Option GNode
 | [.val (.int .i64 v0), .val (.string v1), .val (.int .i64 v2), .val (.int .i64 v3), .sl s4 v4]=>if s4=5 then some ⟨v0,byt v1,v2,v3,v4⟩ else none
 | _=>none
theorem GNode.of_cs (r:List PV) (x:GNode) (h:GNode.of r=some x):GNode.cs x=r:=by
 unfold GNode.of at h
 split at h
 ·split at h
  ·rename_i hs
   cases h
   simp [GNode.cs,mkS_byt,map_idc,hs]
  ·cases h
 ·cases h
structure GBB where
 article:GAr
 calendar:GCl
 session:GSs
deriving DecidableEq
def GBB.cs (x:GBB):List PV:=[VI x.article.Kind,VI x.article.Days,VI x.article.From,VI x.article.To,VI x.article.Price,VI x.article.Unit,VI x.article.Free,VI x.calendar.Offset, .sl 2 (List.map GCh.cs x.calendar.Changes), .sl 1 (List.map ci x.calendar.Holidays),VI x.session.From,VI x.session.To,VI x.session.End, .sl 2 (List.map GSl.cs x.session.Slices)]
def g_law43_always (n:Nat) (a0kind:Int) (a1price:Int) (a2unit:Int) (a3free:Int):Option GAr :=
 some (⟨a0kind,7,0,1440,a1price,a2unit,a3free⟩:GAr)
theorem g_law43_always_ok (n:Nat) (a0kind:Int) (a1price:Int) (a2unit:Int) (a3free:Int):∀ r,g_law43_always n a0kind a1price a2unit a3free=some r→PCall Tryz.prog 35 [I a0kind,I a1price,I a2unit,I a3free] (.ret (ag (GAr.cs r))):=by
 refine pcall_sim (X:=fun r:GAr=>AEnd.ret (ag (GAr.cs r))) Tryz.func35 rfl Tryz.ntmps35 rfl ?_
 unfold g_law43_always
 refine sR tfm ⟨[0,1,2,3,8],[8],[],[]⟩ ⟨[(0,I a0kind),(1,I a1price),(2,I a2unit),(3,I a3free),(8, .ptr 8 0)],[(8, .box 73 [I 0,I 0,I 0,I 0,I 0,I 0,I 0])]⟩ krf (sR tfm ⟨[8],[8],[],[]⟩ ⟨[(8, .ptr 8 0)],[(8, .box 73 [I a0kind,I 7,I 0,I 1440,I a1price,I a2unit,I a3free])]⟩ krf (sT ?_))
 exact qR (.id) krf krf krf
def g_chain_inside (n:Nat) (a0n:Int) (a1least:Int) (a2greatest:Int):Option Bool :=
 cond (leI a1least a0n)
  (some (leI a0n a2greatest))
  (some false)
theorem g_chain_inside_ok (n:Nat) (a0n:Int) (a1least:Int) (a2greatest:Int):∀ r,g_chain_inside n a0n a1least a2greatest=some r→PCall Tryz.prog 67 [I a0n,I a1least,I a2greatest] (.ret (B r)):=by
 refine pcall_sim (X:=fun r:Bool=>AEnd.ret (B r)) Tryz.func67 rfl Tryz.ntmps67 rfl ?_
 unfold g_chain_inside
 refine sR tfm ⟨[0,1,2],[],[],[]⟩ ⟨[(0,I a0n),(1,I a1least),(2,I a2greatest)],[]⟩ krf (sS (sG (xR 4 krf ?_)))
 refine xS (leI a1least a0n) (fun h1=>?_) (fun h1=>?_)
 ·refine xO (want_tt krf h1) krf (xR 4 krf (xE (sN ⟨[6],[],[],[]⟩ ⟨[(6,B (leI a0n a2greatest))],[]⟩ krf (sT ?_))))
  exact qR (.id) krf krf krf
 ·refine xN (want_tf krf h1) krf (xR 4 krf (xE (sN ⟨[6],[],[],[]⟩ ⟨[(6,B false)],[]⟩ krf (sT ?_))))
  exact qR (.id) krf krf krf
def g_chain_valid (n:Nat) (a0r:GReading):Option Bool :=
 (g_chain_inside n a0r.Serial 1 1000000).bind fun r1 =>
 cond r1
  ((g_chain_inside n a0r.Number 1 64).bind fun r3 =>
  cond r3
   ((g_chain_inside n a0r.Minute 0 52560000).bind fun r5 =>
   cond r5
    ((g_chain_inside n a0r.Register 0 1000000000).bind fun r7 =>
    some r7)
    (some false))
   (some false))
  (some false)
theorem g_chain_valid_ok (n:Nat) (a0r:GReading):∀ r,g_chain_valid n a0r=some r→PCall Tryz.prog 36 [ag (GReading.cs a0r)] (.ret (B r)):=by
 refine pcall_sim (X:=fun r:Bool=>AEnd.ret (B r)) Tryz.func36 rfl Tryz.ntmps36 rfl ?_
 unfold g_chain_valid
 refine sR tfm ⟨[1],[1],[],[]⟩ ⟨[(1, .ptr 1 0)],[(1, .box 85 (bxc (GReading.cs a0r)))]⟩ krf (sS (sG (xR 2 krf ?_)))
 refine xC [] krf (g_chain_inside_ok n a0r.Serial 1 1000000) krf krf (fun _=>by kernel_rfl) (fun r1=>?_)
 refine xR 1 krf ?_
 refine xS r1 (fun h2=>?_) (fun h2=>?_)
 ·refine xO (want_tt krf h2) krf (xR 1 krf ?_)
  refine xC [] krf (g_chain_inside_ok n a0r.Number 1 64) krf krf (fun _=>by kernel_rfl) (fun r3=>?_)
  refine xR 2 krf ?_
  refine xS r3 (fun h4=>?_) (fun h4=>?_)
  ·refine xO (want_tt krf h4) krf (xR 1 krf ?_)
   refine xC [] krf (g_chain_inside_ok n a0r.Minute 0 52560000) krf krf (fun _=>by kernel_rfl) (fun r5=>?_)
   refine xR 2 krf ?_
   refine xS r5 (fun h6=>?_) (fun h6=>?_)
   ·refine xO (want_tt krf h6) krf (xR 1 krf ?_)
    refine xC [] krf (g_chain_inside_ok n a0r.Register 0 1000000000) krf krf (fun _=>by kernel_rfl) (fun r7=>?_)
    refine xR 2 krf (xE (sN ⟨[2],[],[],[]⟩ ⟨[(2,B r7)],[]⟩ krf (sT ?_)))
    exact qR (.id) krf krf krf
   ·refine xN (want_tf krf h6) krf (xR 4 krf (xE (sN ⟨[2],[],[],[]⟩ ⟨[(2,B false)],[]⟩ krf (sT ?_))))
    exact qR (.id) krf krf krf
  ·refine xN (want_tf krf h4) krf (xR 9 krf (xE (sN ⟨[2],[],[],[]⟩ ⟨[(2,B false)],[]⟩ krf (sT ?_))))
   exact qR (.id) krf krf krf
 ·refine xN (want_tf krf h2) krf (xR 14 krf (xE (sN ⟨[2],[],[],[]⟩ ⟨[(2,B false)],[]⟩ krf (sT ?_))))
  exact qR (.id) krf krf krf
def g_chain_bytesOf_l3 (l1_1:Int) (recl1:(Int × (Nat→Int))→Option (Nat→Int)) (x2:Int) (recl3:(Int × (Nat→Int))→Option (Nat→Int)) (l3_1:Int) (l3_2:Nat→Int):Option (Nat→Int) :=
 cond (ltI l3_1 8)
  (cond (!ltI (wi (56 - (wi (8 * l3_1)))) 0) (
   cond (leI 0 (wi ((wi (8 * l1_1))+l3_1))&&ltI (wi ((wi (8 * l1_1))+l3_1)) 32) (
    recl3 (wi (l3_1+1),setF l3_2 (Int.toNat (wi ((wi (8 * l1_1))+l3_1))) (w8 (shrI .u64 (wu x2) (wi (56 - (wi (8 * l3_1)))))))) none) none)
  (recl1 (wi (l1_1+1),l3_2))
def g_chain_bytesOf_l1 (n:Nat) (a0r:GReading) (recl1:(Int × (Nat→Int))→Option (Nat→Int)) (l1_1:Int) (l1_2:Nat→Int):Option (Nat→Int) :=
 cond (ltI l1_1 4)
  ((getI [a0r.Serial,a0r.Number,a0r.Minute,a0r.Register] l1_1).bind fun x2 =>
  loopN (fun recl3 (l3_1,l3_2)=>g_chain_bytesOf_l3 l1_1 recl1 x2 recl3 l3_1 l3_2) n (0,l1_2))
  (some l1_2)
def g_chain_bytesOf (n:Nat) (a0r:GReading):Option (Nat→Int) :=
 loopN (fun recl1 (l1_1,l1_2)=>g_chain_bytesOf_l1 n a0r recl1 l1_1 l1_2) n (0,zF)
theorem g_chain_bytesOf_ok (n:Nat) (a0r:GReading):∀ r,g_chain_bytesOf n a0r=some r→PCall Tryz.prog 65 [ag (GReading.cs a0r)] (.ret (.agg (arrc 32 B8 r))):=by
 refine pcall_sim (X:=fun r:Nat→Int=>AEnd.ret (.agg (arrc 32 B8 r))) Tryz.func65 rfl Tryz.ntmps65 rfl ?_
 unfold g_chain_bytesOf
 refine sR tfm ⟨[1,2],[1,2],[],[]⟩ ⟨[(1, .ptr 1 0),(2, .ptr 2 0)],[(1, .box 85 (bxc (GReading.cs a0r))),(2, .box 124 (arrc 32 B8 zF))]⟩ krf (sR tfm ⟨[1,2,3],[1,2,3],[],[]⟩ ⟨[(1, .ptr 1 0),(2, .ptr 2 0),(3, .ptr 3 0)],[(1, .box 85 (bxc (GReading.cs a0r))),(2, .box 124 (arrc 32 B8 zF)),(3, .box 124 (arrc 32 B8 zF))]⟩ krf (sS (sR tfm ⟨[2,3,15,16],[2,3],[],[]⟩ ⟨[(2, .ptr 2 0),(3, .ptr 3 0),(15, .agg [I a0r.Serial,I a0r.Number,I a0r.Minute,I a0r.Register]),(16,I 0)],[(2, .box 124 (arrc 32 B8 zF)),(3, .box 124 (arrc 32 B8 zF))]⟩ krf (sB (sim_loop (fun (l1_1,l1_2)=>⟨[(2, .ptr 2 0),(3, .ptr 3 0),(15, .agg [I a0r.Serial,I a0r.Number,I a0r.Minute,I a0r.Register]),(16,I l1_1)],[(2, .box 124 (arrc 32 B8 zF)),(3, .box 124 (arrc 32 B8 l1_2))]⟩:(Int × (Nat→Int))→St) (weak_shr (K:=⟨[2,3,15,16],[2,3],[],[]⟩) krf) ?_)))))
 rintro recl1 ⟨l1_1,l1_2⟩
 show SimE (g_chain_bytesOf_l1 n a0r recl1 l1_1 l1_2) _ _ _ _ _ _
 unfold g_chain_bytesOf_l1
 refine sR tfm ⟨[2,3,15,16,17],[2,3],[],[]⟩ ⟨[(2, .ptr 2 0),(3, .ptr 3 0),(15, .agg [I a0r.Serial,I a0r.Number,I a0r.Minute,I a0r.Register]),(16,I l1_1),(17,B (ltI l1_1 4))],[(2, .box 124 (arrc 32 B8 zF)),(3, .box 124 (arrc 32 B8 l1_2))]⟩ krf (sS (sC (ltI l1_1 4) krf ?_ ?_))
 ·refine sK (sN ⟨[2,3,15,16],[2,3],[],[]⟩ ⟨[(2, .ptr 2 0),(3, .ptr 3 0),(15, .agg [I a0r.Serial,I a0r.Number,I a0r.Minute,I a0r.Register]),(16,I l1_1)],[(2, .box 124 (arrc 32 B8 zF)),(3, .box 124 (arrc 32 B8 l1_2))]⟩ krf (sS (sB (sS (sG (xR 1 krf ?_))))))
  refine xG krf krf (aop_aidx (e:=3) (len:=4) (f:=I) (l:=[a0r.Serial,a0r.Number,a0r.Minute,a0r.Register]) (k:=.i64) (n:=l1_1) rfl krf krf krf krf krf rfl) (fun x2=>?_)
  refine xR 2 krf (xE (sN ⟨[2,3,4,5,15,16],[2,3],[],[]⟩ ⟨[(2, .ptr 2 0),(3, .ptr 3 0),(4,I l1_1),(5,I x2),(15, .agg [I a0r.Serial,I a0r.Number,I a0r.Minute,I a0r.Register]),(16,I l1_1)],[(2, .box 124 (arrc 32 B8 zF)),(3, .box 124 (arrc 32 B8 l1_2))]⟩ krf (sR tfm ⟨[2,3,4,5,15,16,20],[2,3],[],[]⟩ ⟨[(2, .ptr 2 0),(3, .ptr 3 0),(4,I l1_1),(5,I x2),(15, .agg [I a0r.Serial,I a0r.Number,I a0r.Minute,I a0r.Register]),(16,I l1_1),(20,I 0)],[(2, .box 124 (arrc 32 B8 zF)),(3, .box 124 (arrc 32 B8 l1_2))]⟩ krf (sB (sim_loop (fun (l3_1,l3_2)=>⟨[(2, .ptr 2 0),(3, .ptr 3 0),(4,I l1_1),(5,I x2),(15, .agg [I a0r.Serial,I a0r.Number,I a0r.Minute,I a0r.Register]),(16,I l1_1),(20,I l3_1)],[(2, .box 124 (arrc 32 B8 zF)),(3, .box 124 (arrc 32 B8 l3_2))]⟩:(Int × (Nat→Int))→St) (weak_shr (K:=⟨[2,3,4,5,15,16,20],[2,3],[],[]⟩) krf) ?_)))))
  rintro recl3 ⟨l3_1,l3_2⟩
  show SimE (g_chain_bytesOf_l3 l1_1 recl1 x2 recl3 l3_1 l3_2) _ _ _ _ _ _
  unfold g_chain_bytesOf_l3
  refine sR tfm ⟨[2,3,4,5,15,16,20,21],[2,3],[],[]⟩ ⟨[(2, .ptr 2 0),(3, .ptr 3 0),(4,I l1_1),(5,I x2),(15, .agg [I a0r.Serial,I a0r.Number,I a0r.Minute,I a0r.Register]),(16,I l1_1),(20,I l3_1),(21,B (ltI l3_1 8))],[(2, .box 124 (arrc 32 B8 zF)),(3, .box 124 (arrc 32 B8 l3_2))]⟩ krf (sS (sC (ltI l3_1 8) krf ?_ ?_))
  ·refine sK (sN ⟨[2,3,4,5,15,16,20],[2,3],[],[]⟩ ⟨[(2, .ptr 2 0),(3, .ptr 3 0),(4,I l1_1),(5,I x2),(15, .agg [I a0r.Serial,I a0r.Number,I a0r.Minute,I a0r.Register]),(16,I l1_1),(20,I l3_1)],[(2, .box 124 (arrc 32 B8 zF)),(3, .box 124 (arrc 32 B8 l3_2))]⟩ krf (sS (sB (sR tfm ⟨[2,3,4,5,6,15,16,20],[2,3],[],[]⟩ ⟨[(2, .ptr 2 0),(3, .ptr 3 0),(4,I l1_1),(5,I x2),(6,I l3_1),(15, .agg [I a0r.Serial,I a0r.Number,I a0r.Minute,I a0r.Register]),(16,I l1_1),(20,I l3_1)],[(2, .box 124 (arrc 32 B8 zF)),(3, .box 124 (arrc 32 B8 l3_2))]⟩ krf (sG (xR 9 krf (xF krf krf (aop_shr (k:=.u64) (k':=.i64) (a:=wu x2) (b:=wi (56 - (wi (8 * l3_1)))) rfl krf krf) ?_)))))))
   refine xR 1 krf ?_
   refine xs_ifH krf krf (aop_arr (b:=3) (k:=.i64) (n:=wi ((wi (8 * l1_1))+l3_1)) (len:=32) (e:=5) rfl krf krf krf krf) (fun h4=>?_)
   refine xs_u krf krf (aop_stF (g:=B8) (f:=l3_2) (tb:=124) (b:=3) (len:=32) (n:=wi ((wi (8 * l1_1))+l3_1)) (x:=w8 (shrI .u64 (wu x2) (wi (56 - (wi (8 * l3_1)))))) rfl krf krf krf krf krf h4) (xE (bq_n (sN ⟨[2,3,4,5,15,16,20],[2,3],[],[]⟩ ⟨[(2, .ptr 2 0),(3, .ptr 3 0),(4,I l1_1),(5,I x2),(15, .agg [I a0r.Serial,I a0r.Number,I a0r.Minute,I a0r.Register]),(16,I l1_1),(20,I l3_1)],[(2, .box 124 (arrc 32 B8 zF)),(3, .box 124 (arrc 32 B8 (setF l3_2 (Int.toNat (wi ((wi (8 * l1_1))+l3_1))) (w8 (shrI .u64 (wu x2) (wi (56 - (wi (8 * l3_1)))))))))]⟩ krf (sL tfm krf ?_))))
   exact kq_n (wi (l3_1+1),setF l3_2 (Int.toNat (wi ((wi (8 * l1_1))+l3_1))) (w8 (shrI .u64 (wu x2) (wi (56 - (wi (8 * l3_1))))))) ⟨[2,3,4,5,15,16,20],[2,3],[],[]⟩ krf
  ·refine sim_exit (sq_x (kq_x (bq_hit (bq_n (sN ⟨[2,3,15,16],[2,3],[],[]⟩ ⟨[(2, .ptr 2 0),(3, .ptr 3 0),(15, .agg [I a0r.Serial,I a0r.Number,I a0r.Minute,I a0r.Register]),(16,I l1_1)],[(2, .box 124 (arrc 32 B8 zF)),(3, .box 124 (arrc 32 B8 l3_2))]⟩ krf (sL tfm krf ?_))))))
   exact kq_n (wi (l1_1+1),l3_2) ⟨[2,3,15,16],[2,3],[],[]⟩ krf
 ·refine sim_exit (sq_x (kq_x (bq_hit (sN ⟨[2,3],[2,3],[],[]⟩ ⟨[(2, .ptr 2 0),(3, .ptr 3 0)],[(2, .box 124 (arrc 32 B8 zF)),(3, .box 124 (arrc 32 B8 l1_2))]⟩ krf (sR tfm ⟨[2],[2],[],[]⟩ ⟨[(2, .ptr 2 0)],[(2, .box 124 (arrc 32 B8 l1_2))]⟩ krf (sT ?_))))))
  exact qR (.id) krf krf krf
def g_chain_Link_l2 (r1:Nat→Int) (recl2:(Int × Int)→Option Int) (l2_1:Int) (l2_2:Int):Option Int :=
 cond (ltI l2_2 32)
  (cond (leI 0 l2_2&&ltI l2_2 32) (
   recl2 (wu ((bXor .u64 l2_1 (wu (r1 (Int.toNat l2_2)))) * 1099511628211),wi (l2_2+1))) none)
  (some l2_1)
def g_chain_Link (n:Nat) (a0before:Int) (a1r:GReading):Option Int :=
 (g_chain_bytesOf n a1r).bind fun r1 =>
 loopN (fun recl2 (l2_1,l2_2)=>g_chain_Link_l2 r1 recl2 l2_1 l2_2) n (a0before,0)
theorem g_chain_Link_ok (n:Nat) (a0before:Int) (a1r:GReading):∀ r,g_chain_Link n a0before a1r=some r→PCall Tryz.prog 32 [U a0before,ag (GReading.cs a1r)] (.ret (U r)):=by
 refine pcall_sim (X:=fun r:Int=>AEnd.ret (U r)) Tryz.func32 rfl Tryz.ntmps32 rfl ?_
 unfold g_chain_Link
 refine sR tfm ⟨[0,3],[3],[],[]⟩ ⟨[(0,U a0before),(3, .ptr 3 0)],[(3, .box 85 (bxc (GReading.cs a1r)))]⟩ krf (sR tfm ⟨[3,5],[3],[],[]⟩ ⟨[(3, .ptr 3 0),(5,U a0before)],[(3, .box 85 (bxc (GReading.cs a1r)))]⟩ krf (sS (sS (sG (xR 1 krf ?_)))))
 refine xC [] krf (g_chain_bytesOf_ok n a1r) krf krf (fun _=>by kernel_rfl) (fun r1=>?_)
 refine xR 1 krf (xE (sN ⟨[5,10,11],[],[],[]⟩ ⟨[(5,U a0before),(10, .agg (arrc 32 B8 r1)),(11,I 0)],[]⟩ krf (sB (sim_loop (fun (l2_1,l2_2)=>⟨[(5,U l2_1),(10, .agg (arrc 32 B8 r1)),(11,I l2_2)],[]⟩:(Int × Int)→St) (weak_shr (K:=⟨[5,10,11],[],[],[]⟩) krf) ?_))))
 rintro recl2 ⟨l2_1,l2_2⟩
 show SimE (g_chain_Link_l2 r1 recl2 l2_1 l2_2) _ _ _ _ _ _
 unfold g_chain_Link_l2
 refine sR tfm ⟨[5,10,11,12],[],[],[]⟩ ⟨[(5,U l2_1),(10, .agg (arrc 32 B8 r1)),(11,I l2_2),(12,B (ltI l2_2 32))],[]⟩ krf (sS (sC (ltI l2_2 32) krf ?_ ?_))
 ·refine sK (sN ⟨[5,10,11],[],[],[]⟩ ⟨[(5,U l2_1),(10, .agg (arrc 32 B8 r1)),(11,I l2_2)],[]⟩ krf (sS (sB (sS (sG (xF krf krf (aop_aidxF (e:=5) (len:=32) (g:=B8) (f:=r1) (k:=.i64) (n:=l2_2) rfl krf krf krf krf krf) (xR 1 krf ?_)))))))
  refine xE (sN ⟨[5,7,10,11],[],[],[]⟩ ⟨[(5,U l2_1),(7,B8 (r1 (Int.toNat l2_2))),(10, .agg (arrc 32 B8 r1)),(11,I l2_2)],[]⟩ krf (sL tfm krf (bq_n (sN ⟨[5,10,11],[],[],[]⟩ ⟨[(5,U (wu ((bXor .u64 l2_1 (wu (r1 (Int.toNat l2_2)))) * 1099511628211))),(10, .agg (arrc 32 B8 r1)),(11,I l2_2)],[]⟩ krf (sL tfm krf ?_)))))
  exact kq_n (wu ((bXor .u64 l2_1 (wu (r1 (Int.toNat l2_2)))) * 1099511628211),wi (l2_2+1)) ⟨[5,10,11],[],[],[]⟩ krf
 ·refine sim_exit (sq_x (kq_x (bq_hit (sN ⟨[5],[],[],[]⟩ ⟨[(5,U l2_1)],[]⟩ krf (sR tfm ⟨[4],[],[],[]⟩ ⟨[(4,U l2_1)],[]⟩ krf (sT ?_))))))
  exact qR (.id) krf krf krf
def g_chain_isOld (n:Nat) (a0before:GReading) (a1r:GReading):Option Bool :=
 cond (ltI a1r.Minute a0before.Minute)
  (some true)
  (cond (eqI a1r.Serial a0before.Serial)
   (some (ltI a1r.Register a0before.Register))
   (some false))
theorem g_chain_isOld_ok (n:Nat) (a0before:GReading) (a1r:GReading):∀ r,g_chain_isOld n a0before a1r=some r→PCall Tryz.prog 37 [ag (GReading.cs a0before),ag (GReading.cs a1r)] (.ret (B r)):=by
 refine pcall_sim (X:=fun r:Bool=>AEnd.ret (B r)) Tryz.func37 rfl Tryz.ntmps37 rfl ?_
 unfold g_chain_isOld
 refine sR tfm ⟨[2,3],[2,3],[],[]⟩ ⟨[(2, .ptr 2 0),(3, .ptr 3 0)],[(2, .box 85 (bxc (GReading.cs a0before))),(3, .box 85 (bxc (GReading.cs a1r)))]⟩ krf (sS (sG (xR 6 krf ?_)))
 refine xS (ltI a1r.Minute a0before.Minute) (fun h1=>?_) (fun h1=>?_)
 ·refine xN (want_ft krf h1) krf (xR 13 krf (xE (sN ⟨[4],[],[],[]⟩ ⟨[(4,B true)],[]⟩ krf (sT ?_))))
  exact qR (.id) krf krf krf
 ·refine xO (want_ff krf h1) krf (xR 5 krf ?_)
  refine xS (eqI a1r.Serial a0before.Serial) (fun h2=>?_) (fun h2=>?_)
  ·refine xO (want_tt krf h2) krf (xR 7 krf (xE (sN ⟨[4],[],[],[]⟩ ⟨[(4,B (ltI a1r.Register a0before.Register))],[]⟩ krf (sT ?_))))
   exact qR (.id) krf krf krf
  ·refine xN (want_tf krf h2) krf (xR 7 krf (xE (sN ⟨[4],[],[],[]⟩ ⟨[(4,B false)],[]⟩ krf (sT ?_))))
   exact qR (.id) krf krf krf
def g_chain_isLater (n:Nat) (a0before:GReading) (a1r:GReading):Option Bool :=
 cond (!eqI a1r.Serial a0before.Serial)
  (some (!eqI a1r.Minute a0before.Minute))
  (some false)
theorem g_chain_isLater_ok (n:Nat) (a0before:GReading) (a1r:GReading):∀ r,g_chain_isLater n a0before a1r=some r→PCall Tryz.prog 38 [ag (GReading.cs a0before),ag (GReading.cs a1r)] (.ret (B r)):=by
 refine pcall_sim (X:=fun r:Bool=>AEnd.ret (B r)) Tryz.func38 rfl Tryz.ntmps38 rfl ?_
 unfold g_chain_isLater
 refine sR tfm ⟨[2,3],[2,3],[],[]⟩ ⟨[(2, .ptr 2 0),(3, .ptr 3 0)],[(2, .box 85 (bxc (GReading.cs a0before))),(3, .box 85 (bxc (GReading.cs a1r)))]⟩ krf (sS (sG (xR 6 krf ?_)))
 refine xS (!eqI a1r.Serial a0before.Serial) (fun h1=>?_) (fun h1=>?_)
 ·refine xO (want_tt krf h1) krf (xR 6 krf (xE (sN ⟨[4],[],[],[]⟩ ⟨[(4,B (!eqI a1r.Minute a0before.Minute))],[]⟩ krf (sT ?_))))
  exact qR (.id) krf krf krf
 ·refine xN (want_tf krf h1) krf (xR 6 krf (xE (sN ⟨[4],[],[],[]⟩ ⟨[(4,B false)],[]⟩ krf (sT ?_))))
  exact qR (.id) krf krf krf
def g_chain_Check_j1 (a1l:List GReading) (j1:Int):Option Int :=
 cond (ltI j1 (lenI (List.map GReading.cs a1l)))
  (some j1)
  (some (-1))
def g_chain_Check_l3 (n:Nat) (a1l:List GReading) (recl3:(Int × Int)→Option Int) (l3_1:Int) (l3_2:Int):Option Int :=
 cond (ltI l3_1 (lenI (List.map GReading.cs a1l)))
  ((getI a1l l3_1).bind fun x4 =>
  ((g_chain_valid n x4).bind fun r6 =>
  cond (!r6)
   (some true)
   (some (!eqI x4.Number (wi (l3_1+1))))).bind fun j5 =>
  cond j5
   (g_chain_Check_j1 a1l l3_1)
   ((cond (ltI 0 l3_1)
    ((getI a1l (wi (l3_1 - 1))).bind fun x10 =>
    (g_chain_isOld n x10 x4).bind fun r11 =>
    cond r11
     (some true)
     ((getI a1l (wi (l3_1 - 1))).bind fun x13 =>
     (g_chain_isLater n x13 x4).bind fun r14 =>
     some r14))
    (some false)).bind fun j8 =>
   cond j8
    (g_chain_Check_j1 a1l l3_1)
    ((g_chain_Link n l3_2 x4).bind fun r16 =>
    cond (!eqI x4.Link r16)
     (some l3_1)
     (recl3 (wi (l3_1+1),x4.Link)))))
  (g_chain_Check_j1 a1l l3_1)
def g_chain_Check (n:Nat) (a0seed:Int) (a1l:List GReading):Option Int :=
 loopN (fun recl3 (l3_1,l3_2)=>g_chain_Check_l3 n a1l recl3 l3_1 l3_2) n (0,a0seed)
theorem g_chain_Check_ok (n:Nat) (a0seed:Int) (a1l:List GReading):∀ r,g_chain_Check n a0seed a1l=some r→PCall Tryz.prog 16 [U a0seed, .p (.sl 5 (mReading a1l))] (.ret (I r)):=by
 refine pcall_sim (X:=fun r:Int=>AEnd.ret (I r)) Tryz.func16 rfl Tryz.ntmps16 rfl ?_
 unfold g_chain_Check
 refine sR tfm ⟨[0,1,4],[4],[],[]⟩ ⟨[(0,U a0seed),(1, .p (.sl 5 (mReading a1l))),(4, .ptr 4 0)],[(4, .box 3 [I 0])]⟩ krf (sR tfm ⟨[1,4,5,6],[4,5,6],[],[]⟩ ⟨[(1, .p (.sl 5 (mReading a1l))),(4, .ptr 4 0),(5, .ptr 5 0),(6, .ptr 6 0)],[(4, .box 3 [I 0]),(5, .box 3 [I 0]),(6, .box 29 [U a0seed])]⟩ krf (sim_cps (fun j1=>⟨[(1, .p (.sl 5 (mReading a1l))),(4, .ptr 4 0),(5, .ptr 5 0)],[(4, .box 3 [I 0]),(5, .box 3 [I j1])]⟩:Int→St) (fun j1=>g_chain_Check_j1 a1l j1) ?_ ?_))
 ·rintro j1
  show SimE (g_chain_Check_j1 a1l j1) _ _ _ _ _ _
  unfold g_chain_Check_j1
  refine sS (sR tfm ⟨[4,5,28],[4,5],[],[]⟩ ⟨[(4, .ptr 4 0),(5, .ptr 5 0),(28,B (ltI j1 (lenI (mReading a1l))))],[(4, .box 3 [I 0]),(5, .box 3 [I j1])]⟩ krf (sC (ltI j1 (lenI (mReading a1l))) krf ?_ ?_))
  ·refine sR tfm ⟨[4],[4],[],[]⟩ ⟨[(4, .ptr 4 0)],[(4, .box 3 [I j1])]⟩ krf (sT (sq_r ?_))
   exact qR (.id) krf krf krf
  ·refine sK (sN ⟨[4],[4],[],[]⟩ ⟨[(4, .ptr 4 0)],[(4, .box 3 [I 0])]⟩ krf (sR tfm ⟨[4],[4],[],[]⟩ ⟨[(4, .ptr 4 0)],[(4, .box 3 [I (-1)])]⟩ krf (sT ?_)))
   exact qR (.id) krf krf krf
 ·refine sS (sG (xR 1 krf (xs_inline [] [.p (.sl 5 (mReading a1l))] [(1,401)] [] [] krf Tryz.func31 rfl Tryz.ntmps31 rfl krf krf krf (sR tfm ⟨[1],[1],[],[]⟩ ⟨[(1, .ptr 1 0)],[(1, .box 36 [.p (.sl 5 (mReading a1l))])]⟩ krf (sR tfm ⟨[2],[1],[],[]⟩ ⟨[(2, .fn (.func 64) [] [.ptr 1 0])],[(1, .box 36 [.p (.sl 5 (mReading a1l))])]⟩ krf (sT (iq_ret (.id) [1] [] (.fn (.func 64) [] [.ptr 1 0]) krf krf ?_)))))))
  refine kr0 (xE (sN ⟨[1,4,5,6,11],[4,5,6,401],[],[]⟩ ⟨[(1, .p (.sl 5 (mReading a1l))),(4, .ptr 4 0),(5, .ptr 5 0),(6, .ptr 6 0),(11, .fn (.func 64) [] [.ptr 401 0])],[(4, .box 3 [I 0]),(5, .box 3 [I 0]),(6, .box 29 [U a0seed]),(401, .box 36 [.p (.sl 5 (mReading a1l))])]⟩ krf (sB (sP ⟨[1,4,5,6,11],[4,5,6,401],[],[]⟩ ⟨[(1, .p (.sl 5 (mReading a1l))),(4, .ptr 4 0),(5, .ptr 5 0),(6, .ptr 6 0),(11, .fn (.func 64) [] [.ptr 401 0])],[(4, .box 3 [I 0]),(5, .box 3 [I 0]),(6, .box 29 [U a0seed]),(401, .box 36 [.p (.sl 5 (mReading a1l))])]⟩ krf ?_))))
  refine sim_range 64 3000 [] [.ptr 401 0] krf krf (fun nf2 _ hnf2=>?_)
  refine sc_inline (hc:=[(1004, .box 3 [I 0]),(1005, .box 3 [I 0]),(1006, .box 29 [U a0seed]),(1401, .box 36 [.p (.sl 5 (mReading a1l))]),(4000, .lp [(1, .p (.sl 5 (mReading a1l))),(4, .ptr 1004 0),(5, .ptr 1005 0),(6, .ptr 1006 0),(11, .fn (.func 64) [] [.ptr 1401 0])] nf2 .ready none)]) (args':=[.yv 4000, .ptr 1401 0]) [(1004,4),(1005,5),(1006,6),(1401,401),(4000,3000)] [] [] Tryz.func64 rfl Tryz.ntmps64 rfl krf krf krf (sim_scope (sS (sim_label (sN ⟨[0,1],[1004,1005,1006,1401,4000],[],[]⟩ ⟨[(0, .yv 4000),(1, .ptr 1401 0)],[(1004, .box 3 [I 0]),(1005, .box 3 [I 0]),(1006, .box 29 [U a0seed]),(1401, .box 36 [.p (.sl 5 (mReading a1l))]),(4000, .lp [(1, .p (.sl 5 (mReading a1l))),(4, .ptr 1004 0),(5, .ptr 1005 0),(6, .ptr 1006 0),(11, .fn (.func 64) [] [.ptr 1401 0])] nf2 .ready none)]⟩ krf (sR tfm ⟨[0,1,5,6,7],[1004,1005,1006,1401,4000],[],[]⟩ ⟨[(0, .yv 4000),(1, .ptr 1401 0),(5, .p (.sl 5 (mReading a1l))),(6,I (lenI (mReading a1l))),(7,I 0)],[(1004, .box 3 [I 0]),(1005, .box 3 [I 0]),(1006, .box 29 [U a0seed]),(1401, .box 36 [.p (.sl 5 (mReading a1l))]),(4000, .lp [(1, .p (.sl 5 (mReading a1l))),(4, .ptr 1004 0),(5, .ptr 1005 0),(6, .ptr 1006 0),(11, .fn (.func 64) [] [.ptr 1401 0])] nf2 .ready none)]⟩ krf (sB (sim_loop (fun (l3_1,l3_2)=>⟨[(0, .yv 4000),(1, .ptr 1401 0),(5, .p (.sl 5 (mReading a1l))),(6,I (lenI (mReading a1l))),(7,I l3_1)],[(1004, .box 3 [I 0]),(1005, .box 3 [I l3_1]),(1006, .box 29 [U l3_2]),(1401, .box 36 [.p (.sl 5 (mReading a1l))]),(4000, .lp [(1, .p (.sl 5 (mReading a1l))),(4, .ptr 1004 0),(5, .ptr 1005 0),(6, .ptr 1006 0),(11, .fn (.func 64) [] [.ptr 1401 0])] nf2 .ready none)]⟩:(Int × Int)→St) (weak_shr (K:=⟨[0,1,5,6,7],[1004,1005,1006,1401,4000],[],[]⟩) krf) ?_)))))))
  rintro recl3 ⟨l3_1,l3_2⟩
  show SimE (g_chain_Check_l3 n a1l recl3 l3_1 l3_2) _ _ _ _ _ _
  unfold g_chain_Check_l3
  refine sR tfm ⟨[0,1,5,6,7,8],[1004,1005,1006,1401,4000],[],[]⟩ ⟨[(0, .yv 4000),(1, .ptr 1401 0),(5, .p (.sl 5 (mReading a1l))),(6,I (lenI (mReading a1l))),(7,I l3_1),(8,B (ltI l3_1 (lenI (mReading a1l))))],[(1004, .box 3 [I 0]),(1005, .box 3 [I l3_1]),(1006, .box 29 [U l3_2]),(1401, .box 36 [.p (.sl 5 (mReading a1l))]),(4000, .lp [(1, .p (.sl 5 (mReading a1l))),(4, .ptr 1004 0),(5, .ptr 1005 0),(6, .ptr 1006 0),(11, .fn (.func 64) [] [.ptr 1401 0])] nf2 .ready none)]⟩ krf (sS (sC (ltI l3_1 (lenI (mReading a1l))) krf ?_ ?_))
  ·refine sK (sN ⟨[0,1,5,6,7],[1004,1005,1006,1401,4000],[],[]⟩ ⟨[(0, .yv 4000),(1, .ptr 1401 0),(5, .p (.sl 5 (mReading a1l))),(6,I (lenI (mReading a1l))),(7,I l3_1)],[(1004, .box 3 [I 0]),(1005, .box 3 [I l3_1]),(1006, .box 29 [U l3_2]),(1401, .box 36 [.p (.sl 5 (mReading a1l))]),(4000, .lp [(1, .p (.sl 5 (mReading a1l))),(4, .ptr 1004 0),(5, .ptr 1005 0),(6, .ptr 1006 0),(11, .fn (.func 64) [] [.ptr 1401 0])] nf2 .ready none)]⟩ krf (sS (sB (sS (sG (xR 1 krf ?_))))))
   refine xG krf krf (aop_idx (e:=85) (S:=5) (enc:=GReading.cs) (l:=a1l) (k:=.i64) (n:=l3_1) (sv:=.p (.sl 5 (mReading a1l))) rfl krf krf krf krf krf) (fun x4=>?_)
   refine xR 4 krf (xE (sN ⟨[0,1,3,4,5,6,7],[4,1004,1005,1006,1401,4000],[],[]⟩ ⟨[(0, .yv 4000),(1, .ptr 1401 0),(3,I l3_1),(4, .ptr 4 0),(5, .p (.sl 5 (mReading a1l))),(6,I (lenI (mReading a1l))),(7,I l3_1)],[(4, .box 85 (bxc (GReading.cs x4))),(1004, .box 3 [I 0]),(1005, .box 3 [I l3_1]),(1006, .box 29 [U l3_2]),(1401, .box 36 [.p (.sl 5 (mReading a1l))]),(4000, .lp [(1, .p (.sl 5 (mReading a1l))),(4, .ptr 1004 0),(5, .ptr 1005 0),(6, .ptr 1006 0),(11, .fn (.func 64) [] [.ptr 1401 0])] nf2 .ready none)]⟩ krf (sS (sB (sim_bind (fun j5=>⟨[(0, .yv 4000),(1, .ptr 1401 0),(3,I l3_1),(4, .ptr 4 0),(5, .p (.sl 5 (mReading a1l))),(6,I (lenI (mReading a1l))),(7,I l3_1),(12,B j5)],[(4, .box 85 (bxc (GReading.cs x4))),(1004, .box 3 [I 0]),(1005, .box 3 [I l3_1]),(1006, .box 29 [U l3_2]),(1401, .box 36 [.p (.sl 5 (mReading a1l))]),(4000, .lp [(1, .p (.sl 5 (mReading a1l))),(4, .ptr 1004 0),(5, .ptr 1005 0),(6, .ptr 1006 0),(11, .fn (.func 64) [] [.ptr 1401 0])] nf2 .ready none)]⟩:Bool→St) ?_ ?_)))))
   ·refine sG (xR 1 krf ?_)
    refine xC [] krf (g_chain_valid_ok n x4) krf krf (fun _=>by kernel_rfl) (fun r6=>?_)
    refine xR 2 krf ?_
    refine xS (!r6) (fun h7=>?_) (fun h7=>?_)
    ·refine xN (want_ft krf h7) krf (xR 6 krf (xE ?_))
     exact nq_n true ⟨[0,1,3,4,5,6,7,12],[4,1004,1005,1006,1401,4000],[],[]⟩ krf
    ·refine xO (want_ff krf h7) krf (xR 6 krf (xE ?_))
     exact nq_n (!eqI x4.Number (wi (l3_1+1))) ⟨[0,1,3,4,5,6,7,12],[4,1004,1005,1006,1401,4000],[],[]⟩ krf
   ·rintro j5
    refine sC j5 krf ?_ ?_
    ·refine sim_exit (bq_miss rfl (sq_x (bq_miss rfl (sq_x (kq_x (bq_hit (iq_n .id [1004,1005,1006,1401,4000] [] (.tup []) krf krf ?_)))))))
     refine kg_n .ready ⟨[1,4,5],[4,5],[],[]⟩ ⟨[(1, .p (.sl 5 (mReading a1l))),(4, .ptr 4 0),(5, .ptr 5 0)],[(4, .box 3 [I 0]),(5, .box 3 [I l3_1])]⟩ krf (by intro h; cases h) krf ?_
     refine bq_n ?_
     exact kq_n (k:=fun j1=>g_chain_Check_j1 a1l j1) l3_1 ⟨[1,4,5],[4,5],[],[]⟩ krf
    ·refine sim_bind (fun j8=>⟨[(0, .yv 4000),(1, .ptr 1401 0),(3,I l3_1),(4, .ptr 4 0),(5, .p (.sl 5 (mReading a1l))),(6,I (lenI (mReading a1l))),(7,I l3_1),(23,B j8)],[(4, .box 85 (bxc (GReading.cs x4))),(1004, .box 3 [I 0]),(1005, .box 3 [I l3_1]),(1006, .box 29 [U l3_2]),(1401, .box 36 [.p (.sl 5 (mReading a1l))]),(4000, .lp [(1, .p (.sl 5 (mReading a1l))),(4, .ptr 1004 0),(5, .ptr 1005 0),(6, .ptr 1006 0),(11, .fn (.func 64) [] [.ptr 1401 0])] nf2 .ready none)]⟩:Bool→St) ?_ ?_
     ·refine sim_drw tfm rfl (xR 3 krf ?_)
      refine xS (ltI 0 l3_1) (fun h9=>?_) (fun h9=>?_)
      ·refine xO (want_tt krf h9) krf (xR 2 krf ?_)
       refine xG krf krf (aop_idx (e:=85) (S:=5) (enc:=GReading.cs) (l:=a1l) (k:=.i64) (n:=wi (l3_1 - 1)) (sv:=.p (.sl 5 (mReading a1l))) rfl krf krf krf krf krf) (fun x10=>?_)
       refine xR 2 krf ?_
       refine xC [] krf (g_chain_isOld_ok n x10 x4) krf krf (fun _=>by kernel_rfl) (fun r11=>?_)
       refine xR 1 krf ?_
       refine xS r11 (fun h12=>?_) (fun h12=>?_)
       ·refine xN (want_ft krf h12) krf (xR 9 krf (xs_endD krf ?_))
        exact nq_n true ⟨[0,1,3,4,5,6,7,23],[4,1004,1005,1006,1401,4000],[],[]⟩ krf
       ·refine xO (want_ff krf h12) krf (xR 2 krf ?_)
        refine xG krf krf (aop_idx (e:=85) (S:=5) (enc:=GReading.cs) (l:=a1l) (k:=.i64) (n:=wi (l3_1 - 1)) (sv:=.p (.sl 5 (mReading a1l))) rfl krf krf krf krf krf) (fun x13=>?_)
        refine xR 2 krf ?_
        refine xC [] krf (g_chain_isLater_ok n x13 x4) krf krf (fun _=>by kernel_rfl) (fun r14=>?_)
        refine xR 3 krf (xs_endD krf ?_)
        exact nq_n r14 ⟨[0,1,3,4,5,6,7,23],[4,1004,1005,1006,1401,4000],[],[]⟩ krf
      ·refine xN (want_tf krf h9) krf (xR 17 krf (xs_endD krf ?_))
       exact nq_n false ⟨[0,1,3,4,5,6,7,23],[4,1004,1005,1006,1401,4000],[],[]⟩ krf
     ·rintro j8
      refine sC j8 krf ?_ ?_
      ·refine sim_exit (bq_miss rfl (sq_x (bq_miss rfl (sq_x (kq_x (bq_hit (iq_n .id [1004,1005,1006,1401,4000] [] (.tup []) krf krf ?_)))))))
       refine kg_n .ready ⟨[1,4,5],[4,5],[],[]⟩ ⟨[(1, .p (.sl 5 (mReading a1l))),(4, .ptr 4 0),(5, .ptr 5 0)],[(4, .box 3 [I 0]),(5, .box 3 [I l3_1])]⟩ krf (by intro h; cases h) krf ?_
       refine bq_n ?_
       exact kq_n (k:=fun j1=>g_chain_Check_j1 a1l j1) l3_1 ⟨[1,4,5],[4,5],[],[]⟩ krf
      ·refine sK (bq_n (sN ⟨[0,1,3,4,5,6,7],[4,1004,1005,1006,1401,4000],[],[]⟩ ⟨[(0, .yv 4000),(1, .ptr 1401 0),(3,I l3_1),(4, .ptr 4 0),(5, .p (.sl 5 (mReading a1l))),(6,I (lenI (mReading a1l))),(7,I l3_1)],[(4, .box 85 (bxc (GReading.cs x4))),(1004, .box 3 [I 0]),(1005, .box 3 [I l3_1]),(1006, .box 29 [U l3_2]),(1401, .box 36 [.p (.sl 5 (mReading a1l))]),(4000, .lp [(1, .p (.sl 5 (mReading a1l))),(4, .ptr 1004 0),(5, .ptr 1005 0),(6, .ptr 1006 0),(11, .fn (.func 64) [] [.ptr 1401 0])] nf2 .ready none)]⟩ krf (sS (sG (xR 3 krf ?_)))))
       refine xs_yield [] [(1004, .box 3 [I 0]),(1005, .box 3 [I l3_1]),(1006, .box 29 [U l3_2]),(1401, .box 36 [.p (.sl 5 (mReading a1l))]),(4000, .lp [(1, .p (.sl 5 (mReading a1l))),(4, .ptr 1004 0),(5, .ptr 1005 0),(6, .ptr 1006 0),(11, .fn (.func 64) [] [.ptr 1401 0])] nf2 .ready none)] 4000 [(1, .p (.sl 5 (mReading a1l))),(4, .ptr 1004 0),(5, .ptr 1005 0),(6, .ptr 1006 0),(11, .fn (.func 64) [] [.ptr 1401 0])] [] [] [I l3_1, .agg [I x4.Serial,I x4.Number,I x4.Minute,I x4.Register,U x4.Link]] krf hnf2 krf krf krf krf krf (fun _=>?_)
       refine sL tfm krf (as_n ⟨[4,5,6,8],[8,1004,1005,1006,1401,4000],[],[]⟩ ⟨[(4, .ptr 1004 0),(5, .ptr 1005 0),(6, .ptr 1006 0),(8, .ptr 8 0)],[(8, .box 85 (bxc (GReading.cs x4))),(1004, .box 3 [I 0]),(1005, .box 3 [I l3_1]),(1006, .box 29 [U l3_2]),(1401, .box 36 [.p (.sl 5 (mReading a1l))]),(4000, .lp [(1, .p (.sl 5 (mReading a1l))),(4, .ptr 1004 0),(5, .ptr 1005 0),(6, .ptr 1006 0),(11, .fn (.func 64) [] [.ptr 1401 0])] nf2 .busy none)]⟩ none krf krf (sB (sS (sS (sim_drw tfm rfl (xR 4 krf ?_))))))
       refine xC [] krf (g_chain_Link_ok n l3_2 x4) krf krf (fun _=>by kernel_rfl) (fun r16=>?_)
       refine xR 1 krf (xs_endD krf (sN ⟨[4,5,6,8,19],[8,1004,1005,1006,1401,4000],[],[]⟩ ⟨[(4, .ptr 1004 0),(5, .ptr 1005 0),(6, .ptr 1006 0),(8, .ptr 8 0),(19,B (!eqI x4.Link r16))],[(8, .box 85 (bxc (GReading.cs x4))),(1004, .box 3 [I 0]),(1005, .box 3 [I l3_1]),(1006, .box 29 [U l3_2]),(1401, .box 36 [.p (.sl 5 (mReading a1l))]),(4000, .lp [(1, .p (.sl 5 (mReading a1l))),(4, .ptr 1004 0),(5, .ptr 1005 0),(6, .ptr 1006 0),(11, .fn (.func 64) [] [.ptr 1401 0])] nf2 .busy none)]⟩ krf (sC (!eqI x4.Link r16) krf ?_ ?_)))
       ·refine sR tfm ⟨[],[1004,1005,1006,1401,4000],[],[]⟩ ⟨[],[(1004, .box 3 [I l3_1]),(1005, .box 3 [I l3_1]),(1006, .box 29 [U l3_2]),(1401, .box 36 [.p (.sl 5 (mReading a1l))]),(4000, .lp [(1, .p (.sl 5 (mReading a1l))),(4, .ptr 1004 0),(5, .ptr 1005 0),(6, .ptr 1006 0),(11, .fn (.func 64) [] [.ptr 1401 0])] nf2 .busy none)]⟩ krf (sT (sq_r (bq_r (rn_r [1004,1005,1006,1401,4000] [] .busy none krf krf (kr0 (xR 1 krf (xE ?_)))))))
        refine sN ⟨[0,1,5,6,7,48],[1004,1005,1006,1401,4000],[],[]⟩ ⟨[(0, .yv 4000),(1, .ptr 1401 0),(5, .p (.sl 5 (mReading a1l))),(6,I (lenI (mReading a1l))),(7,I l3_1),(48,B true)],[(1004, .box 3 [I l3_1]),(1005, .box 3 [I l3_1]),(1006, .box 29 [U l3_2]),(1401, .box 36 [.p (.sl 5 (mReading a1l))]),(4000, .lp [(1, .p (.sl 5 (mReading a1l))),(4, .ptr 1004 0),(5, .ptr 1005 0),(6, .ptr 1006 0),(11, .fn (.func 64) [] [.ptr 1401 0])] nf2 .done (some .ret))]⟩ krf (sim_condT krf (sT (bq_r (sq_r (kq_r (bq_r (iq_ret .id [1004,1005,1006,1401,4000] [] (.tup []) krf krf ?_)))))))
        refine kg_r .done ⟨[4],[4],[],[]⟩ ⟨[(4, .ptr 4 0)],[(4, .box 3 [I l3_1])]⟩ krf (by intro h; cases h) krf ?_
        refine bq_r (kq_r ?_)
        exact qR (.id) krf krf krf
       ·refine sK (sN ⟨[5,6,8],[8,1004,1005,1006,1401,4000],[],[]⟩ ⟨[(5, .ptr 1005 0),(6, .ptr 1006 0),(8, .ptr 8 0)],[(8, .box 85 (bxc (GReading.cs x4))),(1004, .box 3 [I 0]),(1005, .box 3 [I l3_1]),(1006, .box 29 [U l3_2]),(1401, .box 36 [.p (.sl 5 (mReading a1l))]),(4000, .lp [(1, .p (.sl 5 (mReading a1l))),(4, .ptr 1004 0),(5, .ptr 1005 0),(6, .ptr 1006 0),(11, .fn (.func 64) [] [.ptr 1401 0])] nf2 .busy none)]⟩ krf (sR tfm ⟨[5],[1004,1005,1006,1401,4000],[],[]⟩ ⟨[(5, .ptr 1005 0)],[(1004, .box 3 [I 0]),(1005, .box 3 [I l3_1]),(1006, .box 29 [U x4.Link]),(1401, .box 36 [.p (.sl 5 (mReading a1l))]),(4000, .lp [(1, .p (.sl 5 (mReading a1l))),(4, .ptr 1004 0),(5, .ptr 1005 0),(6, .ptr 1006 0),(11, .fn (.func 64) [] [.ptr 1401 0])] nf2 .busy none)]⟩ krf (sL tfm krf (bq_n (rn_n [1004,1005,1006,1401,4000] [] .busy none krf krf (kr0 (xR 1 krf ?_)))))))
        refine xE (sN ⟨[0,1,5,6,7,48],[1004,1005,1006,1401,4000],[],[]⟩ ⟨[(0, .yv 4000),(1, .ptr 1401 0),(5, .p (.sl 5 (mReading a1l))),(6,I (lenI (mReading a1l))),(7,I l3_1),(48,B false)],[(1004, .box 3 [I 0]),(1005, .box 3 [I (wi (l3_1+1))]),(1006, .box 29 [U x4.Link]),(1401, .box 36 [.p (.sl 5 (mReading a1l))]),(4000, .lp [(1, .p (.sl 5 (mReading a1l))),(4, .ptr 1004 0),(5, .ptr 1005 0),(6, .ptr 1006 0),(11, .fn (.func 64) [] [.ptr 1401 0])] nf2 .ready none)]⟩ krf (sim_condF krf (sK (bq_n (sN ⟨[0,1,5,6,7],[1004,1005,1006,1401,4000],[],[]⟩ ⟨[(0, .yv 4000),(1, .ptr 1401 0),(5, .p (.sl 5 (mReading a1l))),(6,I (lenI (mReading a1l))),(7,I l3_1)],[(1004, .box 3 [I 0]),(1005, .box 3 [I (wi (l3_1+1))]),(1006, .box 29 [U x4.Link]),(1401, .box 36 [.p (.sl 5 (mReading a1l))]),(4000, .lp [(1, .p (.sl 5 (mReading a1l))),(4, .ptr 1004 0),(5, .ptr 1005 0),(6, .ptr 1006 0),(11, .fn (.func 64) [] [.ptr 1401 0])] nf2 .ready none)]⟩ krf (sL tfm krf ?_))))))
        exact kq_n (wi (l3_1+1),x4.Link) ⟨[0,1,5,6,7],[1004,1005,1006,1401,4000],[],[]⟩ krf
  ·refine sim_exit (sq_x (kq_x (bq_hit (iq_n .id [1004,1005,1006,1401,4000] [] (.tup []) krf krf ?_))))
   refine kg_n .ready ⟨[1,4,5],[4,5],[],[]⟩ ⟨[(1, .p (.sl 5 (mReading a1l))),(4, .ptr 4 0),(5, .ptr 5 0)],[(4, .box 3 [I 0]),(5, .box 3 [I l3_1])]⟩ krf (by intro h; cases h) krf ?_
   refine bq_n ?_
   exact kq_n (k:=fun j1=>g_chain_Check_j1 a1l j1) l3_1 ⟨[1,4,5],[4,5],[],[]⟩ krf
def g_chain_Append_j3 (n:Nat) (a1l:List GReading) (a2serial:Int) (a3minute:Int) (a4register:Int) (j3:Int):Option ((List GReading) × Int) :=
 (g_chain_Link n j3 (⟨a2serial,wi ((lenI (List.map GReading.cs a1l))+1),a3minute,a4register,0⟩:GReading)).bind fun r4 =>
 cond (makeB 0 (wi ((lenI (List.map GReading.cs a1l))+1)) 40) (
  cond (roomB (List.length ([]++a1l)) 40) (
   cond (roomB (List.length (([]++a1l)++[(⟨a2serial,wi ((lenI (List.map GReading.cs a1l))+1),a3minute,a4register,r4⟩:GReading)])) 40) (
    some (([]++a1l)++[(⟨a2serial,wi ((lenI (List.map GReading.cs a1l))+1),a3minute,a4register,r4⟩:GReading)],0)) none) none) none
def g_chain_Append (n:Nat) (a0seed:Int) (a1l:List GReading) (a2serial:Int) (a3minute:Int) (a4register:Int):Option ((List GReading) × Int) :=
 (g_chain_Check n a0seed a1l).bind fun r1 =>
 cond (leI 0 r1)
  (some ([],11))
  (cond (eqI (lenI (List.map GReading.cs a1l)) 64)
   (some ([],10))
   ((g_chain_valid n (⟨a2serial,wi ((lenI (List.map GReading.cs a1l))+1),a3minute,a4register,0⟩:GReading)).bind fun r2 =>
   cond (!r2)
    (some ([],1))
    (cond (ltI 0 (lenI (List.map GReading.cs a1l)))
     ((getI a1l (wi ((lenI (List.map GReading.cs a1l)) - 1))).bind fun x5 =>
     (g_chain_isOld n x5 (⟨a2serial,wi ((lenI (List.map GReading.cs a1l))+1),a3minute,a4register,0⟩:GReading)).bind fun r6 =>
     cond r6
      (some ([],12))
      ((g_chain_isLater n x5 (⟨a2serial,wi ((lenI (List.map GReading.cs a1l))+1),a3minute,a4register,0⟩:GReading)).bind fun r7 =>
      cond r7
       (some ([],6))
       (g_chain_Append_j3 n a1l a2serial a3minute a4register x5.Link)))
     (g_chain_Append_j3 n a1l a2serial a3minute a4register a0seed))))
theorem g_chain_Append_ok (n:Nat) (a0seed:Int) (a1l:List GReading) (a2serial:Int) (a3minute:Int) (a4register:Int):∀ r,g_chain_Append n a0seed a1l a2serial a3minute a4register=some r→PCall Tryz.prog 20 [U a0seed, .p (.sl 5 (mReading a1l)),I a2serial,I a3minute,I a4register] (.ret (.tup [.p (.sl 5 (mReading r.1)),I r.2])):=by
 refine pcall_sim (X:=fun r:(List GReading) × Int=>AEnd.ret (.tup [.p (.sl 5 (mReading r.1)),I r.2])) Tryz.func20 rfl Tryz.ntmps20 rfl ?_
 unfold g_chain_Append
 refine sR tfm ⟨[0,1,2,3,4],[],[],[]⟩ ⟨[(0,U a0seed),(1, .p (.sl 5 (mReading a1l))),(2,I a2serial),(3,I a3minute),(4,I a4register)],[]⟩ krf (sR tfm ⟨[0,1,12],[12],[],[]⟩ ⟨[(0,U a0seed),(1, .p (.sl 5 (mReading a1l))),(12, .ptr 12 0)],[(12, .box 85 [I a2serial,I (wi ((lenI (mReading a1l))+1)),I a3minute,I a4register,U 0])]⟩ krf (sS (sB (sS (sG (xR 2 krf ?_))))))
 refine xC [] krf (g_chain_Check_ok n a0seed a1l) krf krf (fun _=>by kernel_rfl) (fun r1=>?_)
 refine xR 2 krf (xE (sN ⟨[0,1,12,23],[12],[],[]⟩ ⟨[(0,U a0seed),(1, .p (.sl 5 (mReading a1l))),(12, .ptr 12 0),(23,B (leI 0 r1))],[(12, .box 85 [I a2serial,I (wi ((lenI (mReading a1l))+1)),I a3minute,I a4register,U 0])]⟩ krf (sC (leI 0 r1) krf ?_ ?_)))
 ·refine sR tfm ⟨[10,11],[],[],[]⟩ ⟨[(10,zS),(11,I 11)],[]⟩ krf (sT (bq_r (sq_r ?_)))
  exact qR (.agg [.sl 5, .id]) krf krf krf
 ·refine sR tfm ⟨[0,1,12,28],[12],[],[]⟩ ⟨[(0,U a0seed),(1, .p (.sl 5 (mReading a1l))),(12, .ptr 12 0),(28,B (eqI (lenI (mReading a1l)) 64))],[(12, .box 85 [I a2serial,I (wi ((lenI (mReading a1l))+1)),I a3minute,I a4register,U 0])]⟩ krf (sC (eqI (lenI (mReading a1l)) 64) krf ?_ ?_)
  ·refine sR tfm ⟨[10,11],[],[],[]⟩ ⟨[(10,zS),(11,I 10)],[]⟩ krf (sT (bq_r (sq_r ?_)))
   exact qR (.agg [.sl 5, .id]) krf krf krf
  ·refine sS (sG (xR 1 krf ?_))
   refine xC [] krf (g_chain_valid_ok n (⟨a2serial,wi ((lenI (mReading a1l))+1),a3minute,a4register,0⟩:GReading)) krf krf (fun _=>by kernel_rfl) (fun r2=>?_)
   refine xR 2 krf (xE (sN ⟨[0,1,12,32],[12],[],[]⟩ ⟨[(0,U a0seed),(1, .p (.sl 5 (mReading a1l))),(12, .ptr 12 0),(32,B (!r2))],[(12, .box 85 [I a2serial,I (wi ((lenI (mReading a1l))+1)),I a3minute,I a4register,U 0])]⟩ krf (sC (!r2) krf ?_ ?_)))
   ·refine sR tfm ⟨[10,11],[],[],[]⟩ ⟨[(10,zS),(11,I 1)],[]⟩ krf (sT (bq_r (sq_r ?_)))
    exact qR (.agg [.sl 5, .id]) krf krf krf
   ·refine sK (bq_n (sN ⟨[0,1,12],[12],[],[]⟩ ⟨[(0,U a0seed),(1, .p (.sl 5 (mReading a1l))),(12, .ptr 12 0)],[(12, .box 85 [I a2serial,I (wi ((lenI (mReading a1l))+1)),I a3minute,I a4register,U 0])]⟩ krf (sR tfm ⟨[1,12,13],[12],[],[]⟩ ⟨[(1, .p (.sl 5 (mReading a1l))),(12, .ptr 12 0),(13,U a0seed)],[(12, .box 85 [I a2serial,I (wi ((lenI (mReading a1l))+1)),I a3minute,I a4register,U 0])]⟩ krf (sim_cps (fun j3=>⟨[(1, .p (.sl 5 (mReading a1l))),(12, .ptr 12 0),(13,U j3)],[(12, .box 85 [I a2serial,I (wi ((lenI (mReading a1l))+1)),I a3minute,I a4register,U 0])]⟩:Int→St) (fun j3=>g_chain_Append_j3 n a1l a2serial a3minute a4register j3) ?_ ?_))))
    ·rintro j3
     show SimE (g_chain_Append_j3 n a1l a2serial a3minute a4register j3) _ _ _ _ _ _
     unfold g_chain_Append_j3
     refine sS (sG (xR 2 krf ?_))
     refine xC [] krf (g_chain_Link_ok n j3 (⟨a2serial,wi ((lenI (mReading a1l))+1),a3minute,a4register,0⟩:GReading)) krf krf (fun _=>by kernel_rfl) (fun r4=>?_)
     refine xR 2 krf (xE (sN ⟨[1,12],[12],[],[]⟩ ⟨[(1, .p (.sl 5 (mReading a1l))),(12, .ptr 12 0)],[(12, .box 85 [I a2serial,I (wi ((lenI (mReading a1l))+1)),I a3minute,I a4register,U r4])]⟩ krf (sS (sG (xR 3 krf (xF krf krf (aop_make (e:=85) (S:=5) (by_:=40) (d:=61) (enc:=GReading.cs) (z0:=(⟨0,0,0,0,0⟩:GReading)) (k:=.i64) (k':=.i64) (l:=0) (c:=wi ((lenI (mReading a1l))+1)) rfl rfl krf krf rfl krf krf krf krf) (xR 1 krf ?_)))))))
     refine xE (sN ⟨[1,12,15],[12,61],[],[]⟩ ⟨[(1, .p (.sl 5 (mReading a1l))),(12, .ptr 12 0),(15, .vsl 5 61 (mReading []).length)],[(12, .box 85 [I a2serial,I (wi ((lenI (mReading a1l))+1)),I a3minute,I a4register,U r4]),(61, .vec 85 5 (mReading []))]⟩ krf (sS (sim_drw tfm rfl (xR 2 krf ?_))))
     refine xF krf krf (aop_vapp (e:=85) (S:=5) (by_:=40) (enc:=GReading.cs) (tk:=61) (l:=[]) (l2:=a1l) (xv:=.p (.sl 5 (mReading a1l))) (n:=(mReading []).length) rfl krf krf rfl krf krf krf krf (by simp)) ?_
     refine xR 2 krf ?_
     refine xF krf krf (aop_vapp (e:=85) (S:=5) (by_:=40) (enc:=GReading.cs) (tk:=61) (l:=[]++a1l) (l2:=[(⟨a2serial,wi ((lenI (mReading a1l))+1),a3minute,a4register,r4⟩:GReading)]) (xv:=.tsl 5 (mReading [(⟨a2serial,wi ((lenI (mReading a1l))+1),a3minute,a4register,r4⟩:GReading)]) 66) (n:=(mReading ([]++a1l)).length) rfl krf krf rfl krf krf krf krf (by simp)) ?_
     refine xR 2 krf (xs_endD krf (sN ⟨[10,11],[61],[],[]⟩ ⟨[(10, .vsl 5 61 (mReading (([]++a1l)++[(⟨a2serial,wi ((lenI (mReading a1l))+1),a3minute,a4register,r4⟩:GReading)])).length),(11,I 0)],[(61, .vec 85 5 (mReading (([]++a1l)++[(⟨a2serial,wi ((lenI (mReading a1l))+1),a3minute,a4register,r4⟩:GReading)])))]⟩ krf ?_))
     refine sim_weak (weak_vfz 61 85 5 (mReading (([]++a1l)++[(⟨a2serial,wi ((lenI (mReading a1l))+1),a3minute,a4register,r4⟩:GReading)])) [(mReading (([]++a1l)++[(⟨a2serial,wi ((lenI (mReading a1l))+1),a3minute,a4register,r4⟩:GReading)])).length] krf krf (by simp) krf krf) ?_
     refine sT ?_
     exact qR (.id) krf krf krf
    ·refine sR tfm ⟨[1,12,13,39],[12],[],[]⟩ ⟨[(1, .p (.sl 5 (mReading a1l))),(12, .ptr 12 0),(13,U a0seed),(39,B (ltI 0 (lenI (mReading a1l))))],[(12, .box 85 [I a2serial,I (wi ((lenI (mReading a1l))+1)),I a3minute,I a4register,U 0])]⟩ krf (sC (ltI 0 (lenI (mReading a1l))) krf ?_ ?_)
     ·refine sS (sG (xR 4 krf ?_))
      refine xG krf krf (aop_idx (e:=85) (S:=5) (enc:=GReading.cs) (l:=a1l) (k:=.i64) (n:=wi ((lenI (mReading a1l)) - 1)) (sv:=.p (.sl 5 (mReading a1l))) rfl krf krf krf krf krf) (fun x5=>?_)
      refine xR 3 krf (xE (sN ⟨[1,12,14],[12,14],[],[]⟩ ⟨[(1, .p (.sl 5 (mReading a1l))),(12, .ptr 12 0),(14, .ptr 14 0)],[(12, .box 85 [I a2serial,I (wi ((lenI (mReading a1l))+1)),I a3minute,I a4register,U 0]),(14, .box 85 (bxc (GReading.cs x5)))]⟩ krf (sS (sS (sG (xR 2 krf ?_))))))
      refine xC [] krf (g_chain_isOld_ok n x5 (⟨a2serial,wi ((lenI (mReading a1l))+1),a3minute,a4register,0⟩:GReading)) krf krf (fun _=>by kernel_rfl) (fun r6=>?_)
      refine xE (sN ⟨[1,12,14,48],[12,14],[],[]⟩ ⟨[(1, .p (.sl 5 (mReading a1l))),(12, .ptr 12 0),(14, .ptr 14 0),(48,B r6)],[(12, .box 85 [I a2serial,I (wi ((lenI (mReading a1l))+1)),I a3minute,I a4register,U 0]),(14, .box 85 (bxc (GReading.cs x5)))]⟩ krf (sC r6 krf ?_ ?_))
      ·refine sR tfm ⟨[10,11],[],[],[]⟩ ⟨[(10,zS),(11,I 12)],[]⟩ krf (sT (sq_r (kq_r ?_)))
       exact qR (.agg [.sl 5, .id]) krf krf krf
      ·refine sK (sN ⟨[1,12,14],[12,14],[],[]⟩ ⟨[(1, .p (.sl 5 (mReading a1l))),(12, .ptr 12 0),(14, .ptr 14 0)],[(12, .box 85 [I a2serial,I (wi ((lenI (mReading a1l))+1)),I a3minute,I a4register,U 0]),(14, .box 85 (bxc (GReading.cs x5)))]⟩ krf (sS (sS (sG (xR 2 krf ?_)))))
       refine xC [] krf (g_chain_isLater_ok n x5 (⟨a2serial,wi ((lenI (mReading a1l))+1),a3minute,a4register,0⟩:GReading)) krf krf (fun _=>by kernel_rfl) (fun r7=>?_)
       refine xE (sN ⟨[1,12,14,51],[12,14],[],[]⟩ ⟨[(1, .p (.sl 5 (mReading a1l))),(12, .ptr 12 0),(14, .ptr 14 0),(51,B r7)],[(12, .box 85 [I a2serial,I (wi ((lenI (mReading a1l))+1)),I a3minute,I a4register,U 0]),(14, .box 85 (bxc (GReading.cs x5)))]⟩ krf (sC r7 krf ?_ ?_))
       ·refine sR tfm ⟨[10,11],[],[],[]⟩ ⟨[(10,zS),(11,I 6)],[]⟩ krf (sT (sq_r (kq_r ?_)))
        exact qR (.agg [.sl 5, .id]) krf krf krf
       ·refine sK (sN ⟨[1,12,14],[12,14],[],[]⟩ ⟨[(1, .p (.sl 5 (mReading a1l))),(12, .ptr 12 0),(14, .ptr 14 0)],[(12, .box 85 [I a2serial,I (wi ((lenI (mReading a1l))+1)),I a3minute,I a4register,U 0]),(14, .box 85 (bxc (GReading.cs x5)))]⟩ krf (sL tfm krf ?_))
        exact kq_n (k:=fun j3=>g_chain_Append_j3 n a1l a2serial a3minute a4register j3) x5.Link ⟨[1,12,13],[12],[],[]⟩ krf
     ·refine sK ?_
      exact kq_n (k:=fun j3=>g_chain_Append_j3 n a1l a2serial a3minute a4register j3) a0seed ⟨[1,12,13],[12],[],[]⟩ krf
def g_law43_example_l3 (n:Nat) (r1:GAr) (r2:GAr) (recl3:(Int × (List GReading))→Option GClaim) (l3_1:Int) (l3_2:List GReading):Option GClaim :=
 cond (ltI l3_1 (lenI (List.map enc_2_int [(600,1000),(610,1500),(640,1500)])))
  ((getI [(600,1000),(610,1500),(640,1500)] l3_1).bind fun x4 =>
  (g_chain_Append n 5 l3_2 7 x4.1 x4.2).bind fun r5 =>
  cond (!eqI r5.2 0)
   (some (⟨(⟨[],[]⟩:GTf),(⟨0,[],[]⟩:GCl),[],0,(⟨0,0,0,[]⟩:GSs),(⟨[],0,0,0⟩:GBill)⟩:GClaim))
   (recl3 (wi (l3_1+1),r5.1)))
  (some (⟨(⟨[116],[r1,r2]⟩:GTf),(⟨0,[],[]⟩:GCl),l3_2,5,(⟨600,640,610,[(⟨609,500⟩:GSl)]⟩:GSs),(⟨[(⟨0,1500⟩:GLine),(⟨1,400⟩:GLine)],1900,0,1900⟩:GBill)⟩:GClaim))
def g_law43_example (n:Nat):Option GClaim :=
 (g_law43_always n 2 3000 0 0).bind fun r1 =>
 (g_law43_always n 3 100 10 0).bind fun r2 =>
 loopN (fun recl3 (l3_1,l3_2)=>g_law43_example_l3 n r1 r2 recl3 l3_1 l3_2) n (0,[])
theorem g_law43_example_ok (n:Nat):∀ r,g_law43_example n=some r→PCall Tryz.prog 18 [] (.ret (ag (GClaim.cs r))):=by
 refine pcall_sim (X:=fun r:GClaim=>AEnd.ret (ag (GClaim.cs r))) Tryz.func18 rfl Tryz.ntmps18 rfl ?_
 unfold g_law43_example
 refine sR tfm ⟨[0],[0],[],[]⟩ ⟨[(0, .ptr 0 0)],[(0, .box 41 [S [],zS,I 0,zS,zS,zS,U 0,I 0,I 0,I 0,zS,zS,I 0,I 0,I 0])]⟩ krf (sS (sG ?_))
 refine xC [] krf (g_law43_always_ok n 2 3000 0 0) krf krf (fun _=>by kernel_rfl) (fun r1=>?_)
 refine xC [] krf (g_law43_always_ok n 3 100 10 0) krf krf (fun _=>by kernel_rfl) (fun r2=>?_)
 refine xR 5 krf (xE (sN ⟨[0,1],[0,1,8],[],[]⟩ ⟨[(0, .ptr 0 0),(1, .ptr 1 0)],[(0, .box 41 [S [],zS,I 0,zS,zS,zS,U 0,I 0,I 0,I 0,zS,zS,I 0,I 0,I 0]),(1, .box 41 [S [116], .tsl 7 (mAr [r1,r2]) 8,I 0,zS,zS,zS,U 5,I 0,I 0,I 0,zS,zS,I 0,I 0,I 0]),(8, .arr 73 7 (mAr [r1,r2]).length)]⟩ krf (sS (sR tfm ⟨[0,1,14,15,16],[0,1,8,14],[],[]⟩ ⟨[(0, .ptr 0 0),(1, .ptr 1 0),(14, .tsl 2 (List.map enc_2_int [(600,1000),(610,1500),(640,1500)]) 14),(15,I (lenI (List.map enc_2_int [(600,1000),(610,1500),(640,1500)]))),(16,I 0)],[(0, .box 41 [S [],zS,I 0,zS,zS,zS,U 0,I 0,I 0,I 0,zS,zS,I 0,I 0,I 0]),(1, .box 41 [S [116], .tsl 7 (mAr [r1,r2]) 8,I 0,zS,zS,zS,U 5,I 0,I 0,I 0,zS,zS,I 0,I 0,I 0]),(8, .arr 73 7 (mAr [r1,r2]).length),(14, .arr 91 2 (List.map enc_2_int [(600,1000),(610,1500),(640,1500)]).length)]⟩ krf (sB (sim_loop (fun (l3_1,l3_2)=>⟨[(0, .ptr 0 0),(1, .ptr 1 0),(14, .tsl 2 (List.map enc_2_int [(600,1000),(610,1500),(640,1500)]) 14),(15,I (lenI (List.map enc_2_int [(600,1000),(610,1500),(640,1500)]))),(16,I l3_1)],[(0, .box 41 [S [],zS,I 0,zS,zS,zS,U 0,I 0,I 0,I 0,zS,zS,I 0,I 0,I 0]),(1, .box 41 [S [116], .tsl 7 (mAr [r1,r2]) 8,I 0,zS,zS, .p (.sl 5 (mReading l3_2)),U 5,I 0,I 0,I 0,zS,zS,I 0,I 0,I 0]),(8, .arr 73 7 (mAr [r1,r2]).length),(14, .arr 91 2 (List.map enc_2_int [(600,1000),(610,1500),(640,1500)]).length)]⟩:(Int × (List GReading))→St) (weak_shr (K:=⟨[0,1,14,15,16],[0,1,8,14],[],[(1,[.id, .id, .id, .id, .id, .sl 5, .id, .id, .id, .id, .id, .id, .id, .id, .id])]⟩) krf) ?_))))))
 rintro recl3 ⟨l3_1,l3_2⟩
 show SimE (g_law43_example_l3 n r1 r2 recl3 l3_1 l3_2) _ _ _ _ _ _
 unfold g_law43_example_l3
 refine sR tfm ⟨[0,1,14,15,16,17],[0,1,8,14],[],[]⟩ ⟨[(0, .ptr 0 0),(1, .ptr 1 0),(14, .tsl 2 (List.map enc_2_int [(600,1000),(610,1500),(640,1500)]) 14),(15,I (lenI (List.map enc_2_int [(600,1000),(610,1500),(640,1500)]))),(16,I l3_1),(17,B (ltI l3_1 (lenI (List.map enc_2_int [(600,1000),(610,1500),(640,1500)]))))],[(0, .box 41 [S [],zS,I 0,zS,zS,zS,U 0,I 0,I 0,I 0,zS,zS,I 0,I 0,I 0]),(1, .box 41 [S [116], .tsl 7 (mAr [r1,r2]) 8,I 0,zS,zS, .p (.sl 5 (mReading l3_2)),U 5,I 0,I 0,I 0,zS,zS,I 0,I 0,I 0]),(8, .arr 73 7 (mAr [r1,r2]).length),(14, .arr 91 2 (List.map enc_2_int [(600,1000),(610,1500),(640,1500)]).length)]⟩ krf (sS (sC (ltI l3_1 (lenI (List.map enc_2_int [(600,1000),(610,1500),(640,1500)]))) krf ?_ ?_))
 ·refine sK (sN ⟨[0,1,14,15,16],[0,1,8,14],[],[]⟩ ⟨[(0, .ptr 0 0),(1, .ptr 1 0),(14, .tsl 2 (List.map enc_2_int [(600,1000),(610,1500),(640,1500)]) 14),(15,I (lenI (List.map enc_2_int [(600,1000),(610,1500),(640,1500)]))),(16,I l3_1)],[(0, .box 41 [S [],zS,I 0,zS,zS,zS,U 0,I 0,I 0,I 0,zS,zS,I 0,I 0,I 0]),(1, .box 41 [S [116], .tsl 7 (mAr [r1,r2]) 8,I 0,zS,zS, .p (.sl 5 (mReading l3_2)),U 5,I 0,I 0,I 0,zS,zS,I 0,I 0,I 0]),(8, .arr 73 7 (mAr [r1,r2]).length),(14, .arr 91 2 (List.map enc_2_int [(600,1000),(610,1500),(640,1500)]).length)]⟩ krf (sS (sB (sS (sG ?_)))))
  refine xG krf krf (aop_idx (e:=91) (S:=2) (enc:=enc_2_int) (l:=[(600,1000),(610,1500),(640,1500)]) (k:=.i64) (n:=l3_1) (sv:=.tsl 2 (List.map enc_2_int [(600,1000),(610,1500),(640,1500)]) 14) rfl krf krf krf krf krf) (fun x4=>?_)
  refine xR 3 krf (xE (sN ⟨[0,1,3,14,15,16],[0,1,3,8,14],[],[]⟩ ⟨[(0, .ptr 0 0),(1, .ptr 1 0),(3, .ptr 3 0),(14, .tsl 2 (List.map enc_2_int [(600,1000),(610,1500),(640,1500)]) 14),(15,I (lenI (List.map enc_2_int [(600,1000),(610,1500),(640,1500)]))),(16,I l3_1)],[(0, .box 41 [S [],zS,I 0,zS,zS,zS,U 0,I 0,I 0,I 0,zS,zS,I 0,I 0,I 0]),(1, .box 41 [S [116], .tsl 7 (mAr [r1,r2]) 8,I 0,zS,zS, .p (.sl 5 (mReading l3_2)),U 5,I 0,I 0,I 0,zS,zS,I 0,I 0,I 0]),(3, .box 91 [I x4.1,I x4.2]),(8, .arr 73 7 (mAr [r1,r2]).length),(14, .arr 91 2 (List.map enc_2_int [(600,1000),(610,1500),(640,1500)]).length)]⟩ krf (sS (sG (xR 8 krf ?_)))))
  refine xC [] krf (g_chain_Append_ok n 5 l3_2 7 x4.1 x4.2) krf krf (fun _=>by kernel_rfl) (fun r5=>?_)
  refine xR 5 krf (xE (sN ⟨[0,1,4,5,14,15,16],[0,1,8,14],[],[]⟩ ⟨[(0, .ptr 0 0),(1, .ptr 1 0),(4, .p (.sl 5 (mReading r5.1))),(5,I r5.2),(14, .tsl 2 (List.map enc_2_int [(600,1000),(610,1500),(640,1500)]) 14),(15,I (lenI (List.map enc_2_int [(600,1000),(610,1500),(640,1500)]))),(16,I l3_1)],[(0, .box 41 [S [],zS,I 0,zS,zS,zS,U 0,I 0,I 0,I 0,zS,zS,I 0,I 0,I 0]),(1, .box 41 [S [116], .tsl 7 (mAr [r1,r2]) 8,I 0,zS,zS, .p (.sl 5 (mReading l3_2)),U 5,I 0,I 0,I 0,zS,zS,I 0,I 0,I 0]),(8, .arr 73 7 (mAr [r1,r2]).length),(14, .arr 91 2 (List.map enc_2_int [(600,1000),(610,1500),(640,1500)]).length)]⟩ krf (sS (sR tfm ⟨[0,1,4,14,15,16,33],[0,1,8,14],[],[]⟩ ⟨[(0, .ptr 0 0),(1, .ptr 1 0),(4, .p (.sl 5 (mReading r5.1))),(14, .tsl 2 (List.map enc_2_int [(600,1000),(610,1500),(640,1500)]) 14),(15,I (lenI (List.map enc_2_int [(600,1000),(610,1500),(640,1500)]))),(16,I l3_1),(33,B (!eqI r5.2 0))],[(0, .box 41 [S [],zS,I 0,zS,zS,zS,U 0,I 0,I 0,I 0,zS,zS,I 0,I 0,I 0]),(1, .box 41 [S [116], .tsl 7 (mAr [r1,r2]) 8,I 0,zS,zS, .p (.sl 5 (mReading l3_2)),U 5,I 0,I 0,I 0,zS,zS,I 0,I 0,I 0]),(8, .arr 73 7 (mAr [r1,r2]).length),(14, .arr 91 2 (List.map enc_2_int [(600,1000),(610,1500),(640,1500)]).length)]⟩ krf (sC (!eqI r5.2 0) krf ?_ ?_)))))
  ·refine sR tfm ⟨[0],[0],[],[]⟩ ⟨[(0, .ptr 0 0)],[(0, .box 41 [S [],zS,I 0,zS,zS,zS,U 0,I 0,I 0,I 0,zS,zS,I 0,I 0,I 0])]⟩ krf (sT (sq_r (bq_r (sq_r (kq_r (bq_r (sq_r ?_)))))))
   exact qR (.agg [.id, .sl 7, .id, .sl 2, .sl 1, .sl 5, .id, .id, .id, .id, .sl 2, .sl 2, .id, .id, .id]) krf krf krf
  ·refine sK (sN ⟨[0,1,4,14,15,16],[0,1,8,14],[],[]⟩ ⟨[(0, .ptr 0 0),(1, .ptr 1 0),(4, .p (.sl 5 (mReading r5.1))),(14, .tsl 2 (List.map enc_2_int [(600,1000),(610,1500),(640,1500)]) 14),(15,I (lenI (List.map enc_2_int [(600,1000),(610,1500),(640,1500)]))),(16,I l3_1)],[(0, .box 41 [S [],zS,I 0,zS,zS,zS,U 0,I 0,I 0,I 0,zS,zS,I 0,I 0,I 0]),(1, .box 41 [S [116], .tsl 7 (mAr [r1,r2]) 8,I 0,zS,zS, .p (.sl 5 (mReading l3_2)),U 5,I 0,I 0,I 0,zS,zS,I 0,I 0,I 0]),(8, .arr 73 7 (mAr [r1,r2]).length),(14, .arr 91 2 (List.map enc_2_int [(600,1000),(610,1500),(640,1500)]).length)]⟩ krf (sL tfm krf (bq_n (sN ⟨[0,1,14,15,16],[0,1,8,14],[],[]⟩ ⟨[(0, .ptr 0 0),(1, .ptr 1 0),(14, .tsl 2 (List.map enc_2_int [(600,1000),(610,1500),(640,1500)]) 14),(15,I (lenI (List.map enc_2_int [(600,1000),(610,1500),(640,1500)]))),(16,I l3_1)],[(0, .box 41 [S [],zS,I 0,zS,zS,zS,U 0,I 0,I 0,I 0,zS,zS,I 0,I 0,I 0]),(1, .box 41 [S [116], .tsl 7 (mAr [r1,r2]) 8,I 0,zS,zS, .p (.sl 5 (mReading r5.1)),U 5,I 0,I 0,I 0,zS,zS,I 0,I 0,I 0]),(8, .arr 73 7 (mAr [r1,r2]).length),(14, .arr 91 2 (List.map enc_2_int [(600,1000),(610,1500),(640,1500)]).length)]⟩ krf (sL tfm krf ?_)))))
   exact kq_n (wi (l3_1+1),r5.1) ⟨[0,1,14,15,16],[0,1,8,14],[],[]⟩ krf
 ·refine sim_exit (sq_x (kq_x (bq_hit (sN ⟨[0,1],[0,1,8],[],[]⟩ ⟨[(0, .ptr 0 0),(1, .ptr 1 0)],[(0, .box 41 [S [],zS,I 0,zS,zS,zS,U 0,I 0,I 0,I 0,zS,zS,I 0,I 0,I 0]),(1, .box 41 [S [116], .tsl 7 (mAr [r1,r2]) 8,I 0,zS,zS, .p (.sl 5 (mReading l3_2)),U 5,I 0,I 0,I 0,zS,zS,I 0,I 0,I 0]),(8, .arr 73 7 (mAr [r1,r2]).length)]⟩ krf (sR tfm ⟨[0,1],[0,1,8,39],[],[]⟩ ⟨[(0, .ptr 0 0),(1, .ptr 1 0)],[(0, .box 41 [S [],zS,I 0,zS,zS,zS,U 0,I 0,I 0,I 0,zS,zS,I 0,I 0,I 0]),(1, .box 41 [S [116], .tsl 7 (mAr [r1,r2]) 8,I 0,zS,zS, .p (.sl 5 (mReading l3_2)),U 5,I 600,I 640,I 610, .tsl 2 (mSl [(⟨609,500⟩:GSl)]) 39,zS,I 0,I 0,I 0]),(8, .arr 73 7 (mAr [r1,r2]).length),(39, .arr 62 2 (mSl [(⟨609,500⟩:GSl)]).length)]⟩ krf (sR tfm ⟨[0,1],[0,1,8,39,44],[],[]⟩ ⟨[(0, .ptr 0 0),(1, .ptr 1 0)],[(0, .box 41 [S [],zS,I 0,zS,zS,zS,U 0,I 0,I 0,I 0,zS,zS,I 0,I 0,I 0]),(1, .box 41 [S [116], .tsl 7 (mAr [r1,r2]) 8,I 0,zS,zS, .p (.sl 5 (mReading l3_2)),U 5,I 600,I 640,I 610, .tsl 2 (mSl [(⟨609,500⟩:GSl)]) 39, .tsl 2 (mLine [(⟨0,1500⟩:GLine),(⟨1,400⟩:GLine)]) 44,I 1900,I 0,I 1900]),(8, .arr 73 7 (mAr [r1,r2]).length),(39, .arr 62 2 (mSl [(⟨609,500⟩:GSl)]).length),(44, .arr 69 2 (mLine [(⟨0,1500⟩:GLine),(⟨1,400⟩:GLine)]).length)]⟩ krf (sR tfm ⟨[0],[0,8,39,44],[],[]⟩ ⟨[(0, .ptr 0 0)],[(0, .box 41 [S [116], .tsl 7 (mAr [r1,r2]) 8,I 0,zS,zS, .p (.sl 5 (mReading l3_2)),U 5,I 600,I 640,I 610, .tsl 2 (mSl [(⟨609,500⟩:GSl)]) 39, .tsl 2 (mLine [(⟨0,1500⟩:GLine),(⟨1,400⟩:GLine)]) 44,I 1900,I 0,I 1900]),(8, .arr 73 7 (mAr [r1,r2]).length),(39, .arr 62 2 (mSl [(⟨609,500⟩:GSl)]).length),(44, .arr 69 2 (mLine [(⟨0,1500⟩:GLine),(⟨1,400⟩:GLine)]).length)]⟩ krf ?_)))))))
  refine sT ?_
  exact qR (.agg [.id, .sl 7, .id, .sl 2, .sl 1, .id, .id, .id, .id, .id, .sl 2, .sl 2, .id, .id, .id]) krf krf krf
def g_a_inside (n:Nat) (a0n:Int) (a1least:Int) (a2greatest:Int):Option Bool :=
 cond (leI a1least a0n)
  (some (leI a0n a2greatest))
  (some false)
theorem g_a_inside_ok (n:Nat) (a0n:Int) (a1least:Int) (a2greatest:Int):∀ r,g_a_inside n a0n a1least a2greatest=some r→PCall Tryz.prog 68 [I a0n,I a1least,I a2greatest] (.ret (B r)):=by
 refine pcall_sim (X:=fun r:Bool=>AEnd.ret (B r)) Tryz.func68 rfl Tryz.ntmps68 rfl ?_
 unfold g_a_inside
 refine sR tfm ⟨[0,1,2],[],[],[]⟩ ⟨[(0,I a0n),(1,I a1least),(2,I a2greatest)],[]⟩ krf (sS (sG (xR 4 krf ?_)))
 refine xS (leI a1least a0n) (fun h1=>?_) (fun h1=>?_)
 ·refine xO (want_tt krf h1) krf (xR 4 krf (xE (sN ⟨[6],[],[],[]⟩ ⟨[(6,B (leI a0n a2greatest))],[]⟩ krf (sT ?_))))
  exact qR (.id) krf krf krf
 ·refine xN (want_tf krf h1) krf (xR 4 krf (xE (sN ⟨[6],[],[],[]⟩ ⟨[(6,B false)],[]⟩ krf (sT ?_))))
  exact qR (.id) krf krf krf
def g_a_need (n:Nat) (a0holds:Bool) (a1part:Int):Option (Except Int Unit) :=
 cond (!a0holds)
  (some (.error a1part))
  (some (.ok ()))
theorem g_a_need_ok (n:Nat) (a0holds:Bool) (a1part:Int):∀ r,g_a_need n a0holds a1part=some r→PCall Tryz.prog 47 [B a0holds,I a1part] (excE (fun r:Unit=>(.tup []:AV)) (fun e:Int=>(.ifc 128 (.agg [I e]):AV)) r):=by
 refine pcall_sim (X:=excE (fun r:Unit=>(.tup []:AV)) (fun e:Int=>(.ifc 128 (.agg [I e]):AV))) Tryz.func47 rfl Tryz.ntmps47 rfl ?_
 unfold g_a_need
 refine sR tfm ⟨[1,4,5],[],[],[]⟩ ⟨[(1,I a1part),(4,B a0holds),(5,B (!a0holds))],[]⟩ krf (sC (!a0holds) krf ?_ ?_)
 ·refine sG (xR 3 krf (xs_panic 128 (.agg [I a1part]) krf rfl krf ?_))
  exact rq_p krf krf
 ·refine sK ?_
  exact rq_n (.id) krf krf krf
def g_a_link_l3 (l1_2:Int) (recl1:(Int × Int)→Option Int) (x2:Int) (recl3:(Int × Int)→Option Int) (l3_1:Int) (l3_2:Int):Option Int :=
 cond (leI 0 l3_2)
  (cond (!ltI l3_2 0) (
   recl3 (wu ((bXor .u64 l3_1 (bAnd .u64 (shrI .u64 (wu x2) l3_2) 255)) * 1099511628211),wi (l3_2 - 8))) none)
  (recl1 (l3_1,wi (l1_2+1)))
def g_a_link_l1 (n:Nat) (a1r:GReading) (recl1:(Int × Int)→Option Int) (l1_1:Int) (l1_2:Int):Option Int :=
 cond (ltI l1_2 4)
  ((getI [a1r.Serial,a1r.Number,a1r.Minute,a1r.Register] l1_2).bind fun x2 =>
  loopN (fun recl3 (l3_1,l3_2)=>g_a_link_l3 l1_2 recl1 x2 recl3 l3_1 l3_2) n (l1_1,56))
  (some l1_1)
def g_a_link (n:Nat) (a0state:Int) (a1r:GReading):Option Int :=
 loopN (fun recl1 (l1_1,l1_2)=>g_a_link_l1 n a1r recl1 l1_1 l1_2) n (a0state,0)
theorem g_a_link_ok (n:Nat) (a0state:Int) (a1r:GReading):∀ r,g_a_link n a0state a1r=some r→PCall Tryz.prog 70 [U a0state,ag (GReading.cs a1r)] (.ret (U r)):=by
 refine pcall_sim (X:=fun r:Int=>AEnd.ret (U r)) Tryz.func70 rfl Tryz.ntmps70 rfl ?_
 unfold g_a_link
 refine sR tfm ⟨[0,3,4],[3],[],[]⟩ ⟨[(0,U a0state),(3, .ptr 3 0),(4,U 0)],[(3, .box 85 (bxc (GReading.cs a1r)))]⟩ krf (sS (sR tfm ⟨[0,4,16,17],[],[],[]⟩ ⟨[(0,U a0state),(4,U 0),(16, .agg [I a1r.Serial,I a1r.Number,I a1r.Minute,I a1r.Register]),(17,I 0)],[]⟩ krf (sB (sim_loop (fun (l1_1,l1_2)=>⟨[(0,U l1_1),(4,U 0),(16, .agg [I a1r.Serial,I a1r.Number,I a1r.Minute,I a1r.Register]),(17,I l1_2)],[]⟩:(Int × Int)→St) (weak_shr (K:=⟨[0,4,16,17],[],[],[]⟩) krf) ?_))))
 rintro recl1 ⟨l1_1,l1_2⟩
 show SimE (g_a_link_l1 n a1r recl1 l1_1 l1_2) _ _ _ _ _ _
 unfold g_a_link_l1
 refine sR tfm ⟨[0,4,16,17,18],[],[],[]⟩ ⟨[(0,U l1_1),(4,U 0),(16, .agg [I a1r.Serial,I a1r.Number,I a1r.Minute,I a1r.Register]),(17,I l1_2),(18,B (ltI l1_2 4))],[]⟩ krf (sS (sC (ltI l1_2 4) krf ?_ ?_))
 ·refine sK (sN ⟨[0,4,16,17],[],[],[]⟩ ⟨[(0,U l1_1),(4,U 0),(16, .agg [I a1r.Serial,I a1r.Number,I a1r.Minute,I a1r.Register]),(17,I l1_2)],[]⟩ krf (sS (sB (sS (sG ?_)))))
  refine xG krf krf (aop_aidx (e:=3) (len:=4) (f:=I) (l:=[a1r.Serial,a1r.Number,a1r.Minute,a1r.Register]) (k:=.i64) (n:=l1_2) rfl krf krf krf krf krf rfl) (fun x2=>?_)
  refine xR 1 krf (xE (sN ⟨[0,4,6,16,17],[],[],[]⟩ ⟨[(0,U l1_1),(4,U 0),(6,I x2),(16, .agg [I a1r.Serial,I a1r.Number,I a1r.Minute,I a1r.Register]),(17,I l1_2)],[]⟩ krf (sR tfm ⟨[0,4,6,7,16,17],[],[],[]⟩ ⟨[(0,U l1_1),(4,U 0),(6,I x2),(7,I 56),(16, .agg [I a1r.Serial,I a1r.Number,I a1r.Minute,I a1r.Register]),(17,I l1_2)],[]⟩ krf (sB (sim_loop (fun (l3_1,l3_2)=>⟨[(0,U l3_1),(4,U 0),(6,I x2),(7,I l3_2),(16, .agg [I a1r.Serial,I a1r.Number,I a1r.Minute,I a1r.Register]),(17,I l1_2)],[]⟩:(Int × Int)→St) (weak_shr (K:=⟨[0,4,6,7,16,17],[],[],[]⟩) krf) ?_)))))
  rintro recl3 ⟨l3_1,l3_2⟩
  show SimE (g_a_link_l3 l1_2 recl1 x2 recl3 l3_1 l3_2) _ _ _ _ _ _
  unfold g_a_link_l3
  refine sS (sR tfm ⟨[0,4,6,7,16,17,21],[],[],[]⟩ ⟨[(0,U l3_1),(4,U 0),(6,I x2),(7,I l3_2),(16, .agg [I a1r.Serial,I a1r.Number,I a1r.Minute,I a1r.Register]),(17,I l1_2),(21,B (leI 0 l3_2))],[]⟩ krf (sC (leI 0 l3_2) krf ?_ ?_))
  ·refine sK (sN ⟨[0,4,6,7,16,17],[],[],[]⟩ ⟨[(0,U l3_1),(4,U 0),(6,I x2),(7,I l3_2),(16, .agg [I a1r.Serial,I a1r.Number,I a1r.Minute,I a1r.Register]),(17,I l1_2)],[]⟩ krf (sS (sB (sG (xR 4 krf (xF krf krf (aop_shr (k:=.u64) (k':=.i64) (a:=wu x2) (b:=l3_2) rfl krf krf) (xR 4 krf ?_)))))))
   refine xE (bq_n (sN ⟨[0,4,6,7,16,17],[],[],[]⟩ ⟨[(0,U (wu ((bXor .u64 l3_1 (bAnd .u64 (shrI .u64 (wu x2) l3_2) 255)) * 1099511628211))),(4,U 0),(6,I x2),(7,I l3_2),(16, .agg [I a1r.Serial,I a1r.Number,I a1r.Minute,I a1r.Register]),(17,I l1_2)],[]⟩ krf (sL tfm krf ?_)))
   exact kq_n (wu ((bXor .u64 l3_1 (bAnd .u64 (shrI .u64 (wu x2) l3_2) 255)) * 1099511628211),wi (l3_2 - 8)) ⟨[0,4,6,7,16,17],[],[],[]⟩ krf
  ·refine sim_exit (sq_x (kq_x (bq_hit (bq_n (sN ⟨[0,4,16,17],[],[],[]⟩ ⟨[(0,U l3_1),(4,U 0),(16, .agg [I a1r.Serial,I a1r.Number,I a1r.Minute,I a1r.Register]),(17,I l1_2)],[]⟩ krf (sL tfm krf ?_))))))
   exact kq_n (l3_1,wi (l1_2+1)) ⟨[0,4,16,17],[],[],[]⟩ krf
 ·refine sim_exit (sq_x (kq_x (bq_hit (sN ⟨[0,4],[],[],[]⟩ ⟨[(0,U l1_1),(4,U 0)],[]⟩ krf (sR tfm ⟨[4],[],[],[]⟩ ⟨[(4,U l1_1)],[]⟩ krf (sT ?_))))))
  exact qR (.id) krf krf krf
def g_a_follows (n:Nat) (a0before:GReading) (a1r:GReading):Option Bool :=
 cond (eqI a1r.Serial a0before.Serial)
  (cond (leI a0before.Minute a1r.Minute)
   (some (leI a0before.Register a1r.Register))
   (some false))
  (some (eqI a1r.Minute a0before.Minute))
theorem g_a_follows_ok (n:Nat) (a0before:GReading) (a1r:GReading):∀ r,g_a_follows n a0before a1r=some r→PCall Tryz.prog 69 [ag (GReading.cs a0before),ag (GReading.cs a1r)] (.ret (B r)):=by
 refine pcall_sim (X:=fun r:Bool=>AEnd.ret (B r)) Tryz.func69 rfl Tryz.ntmps69 rfl ?_
 unfold g_a_follows
 refine sR tfm ⟨[2,3,4],[2,3],[],[]⟩ ⟨[(2, .ptr 2 0),(3, .ptr 3 0),(4,B false)],[(2, .box 85 (bxc (GReading.cs a0before))),(3, .box 85 (bxc (GReading.cs a1r)))]⟩ krf (sS (sR tfm ⟨[2,3,4,5,9],[2,3],[],[]⟩ ⟨[(2, .ptr 2 0),(3, .ptr 3 0),(4,B false),(5, .ptr 3 0),(9,B (eqI a1r.Serial a0before.Serial))],[(2, .box 85 (bxc (GReading.cs a0before))),(3, .box 85 (bxc (GReading.cs a1r)))]⟩ krf (sC (eqI a1r.Serial a0before.Serial) krf ?_ ?_)))
 ·refine sS (sG (xR 6 krf ?_))
  refine xS (leI a0before.Minute a1r.Minute) (fun h1=>?_) (fun h1=>?_)
  ·refine xO (want_tt krf h1) krf (xR 6 krf (xE (sN ⟨[4],[],[],[]⟩ ⟨[(4,B (leI a0before.Register a1r.Register))],[]⟩ krf (sT (sq_r ?_)))))
   exact qR (.id) krf krf krf
  ·refine xN (want_tf krf h1) krf (xR 6 krf (xE (sN ⟨[4],[],[],[]⟩ ⟨[(4,B false)],[]⟩ krf (sT (sq_r ?_)))))
   exact qR (.id) krf krf krf
 ·refine sK (sN ⟨[2,3,4,5],[2,3],[],[]⟩ ⟨[(2, .ptr 2 0),(3, .ptr 3 0),(4,B false),(5, .ptr 3 0)],[(2, .box 85 (bxc (GReading.cs a0before))),(3, .box 85 (bxc (GReading.cs a1r)))]⟩ krf (sR tfm ⟨[4],[],[],[]⟩ ⟨[(4,B (eqI a1r.Minute a0before.Minute))],[]⟩ krf (sT ?_)))
  exact qR (.id) krf krf krf
def g_ae_chained_j8 (n:Nat) (l4_1:Int) (l4_2:Int) (recl4:(Int × Int)→Option (Except Int Unit)) (x5:GReading):Option (Except Int Unit) :=
 (g_a_link n l4_1 x5).bind fun r9 =>
 (g_a_need n (eqI x5.Link r9) 1).bind (exc (fun r10 =>
  recl4 (x5.Link,wi (l4_2+1))) fun e11=>some (.error e11))
def g_ae_chained_j7 (n:Nat) (a0e:GAE) (l4_1:Int) (l4_2:Int) (recl4:(Int × Int)→Option (Except Int Unit)) (x5:GReading):Option (Except Int Unit) :=
 cond (eqI l4_2 0)
  ((g_a_need n true 1).bind (exc (fun r13 =>
   g_ae_chained_j8 n l4_1 l4_2 recl4 x5) fun e14=>some (.error e14)))
  ((getI a0e.Claim.Readings (maxI 0 (wi (l4_2 - 1)))).bind fun x15 =>
  (g_a_follows n x15 x5).bind fun r16 =>
  (g_a_need n r16 1).bind (exc (fun r17 =>
   g_ae_chained_j8 n l4_1 l4_2 recl4 x5) fun e18=>some (.error e18)))
def g_ae_chained_j6 (n:Nat) (a0e:GAE) (l4_1:Int) (l4_2:Int) (recl4:(Int × Int)→Option (Except Int Unit)) (x5:GReading):Option (Except Int Unit) :=
 (g_a_inside n x5.Minute 0 52560000).bind fun r19 =>
 cond r19
  ((g_a_inside n x5.Register 0 1000000000).bind fun r21 =>
  (g_a_need n r21 1).bind (exc (fun r22 =>
   g_ae_chained_j7 n a0e l4_1 l4_2 recl4 x5) fun e23=>some (.error e23)))
  ((g_a_need n false 1).bind (exc (fun r24 =>
   g_ae_chained_j7 n a0e l4_1 l4_2 recl4 x5) fun e25=>some (.error e25)))
def g_ae_chained_l4 (n:Nat) (a0e:GAE) (recl4:(Int × Int)→Option (Except Int Unit)) (l4_1:Int) (l4_2:Int):Option (Except Int Unit) :=
 cond (ltI l4_2 (lenI (List.map GReading.cs a0e.Claim.Readings)))
  ((getI a0e.Claim.Readings l4_2).bind fun x5 =>
  (g_a_inside n x5.Serial 1 1000000).bind fun r26 =>
  cond r26
   ((g_a_need n (eqI x5.Number (wi (l4_2+1))) 1).bind (exc (fun r28 =>
    g_ae_chained_j6 n a0e l4_1 l4_2 recl4 x5) fun e29=>some (.error e29)))
   ((g_a_need n false 1).bind (exc (fun r30 =>
    g_ae_chained_j6 n a0e l4_1 l4_2 recl4 x5) fun e31=>some (.error e31))))
  (some (.ok ()))
def g_ae_chained (n:Nat) (a0e:GAE):Option (Except Int Unit) :=
 (g_a_inside n (lenI (List.map GReading.cs a0e.Claim.Readings)) 1 64).bind fun r1 =>
 (g_a_need n r1 1).bind (exc (fun r2 =>
  loopN (fun recl4 (l4_1,l4_2)=>g_ae_chained_l4 n a0e recl4 l4_1 l4_2) n (a0e.Claim.Seed,0)) fun e3=>some (.error e3))
theorem g_ae_chained_ok (n:Nat) (a0e:GAE):∀ r,g_ae_chained n a0e=some r→PCall Tryz.prog 41 [.eptr (GAE.cs a0e)] (excE (fun r:Unit=>(.tup []:AV)) (fun e:Int=>(.ifc 128 (.agg [I e]):AV)) r):=by
 refine pcall_sim (X:=excE (fun r:Unit=>(.tup []:AV)) (fun e:Int=>(.ifc 128 (.agg [I e]):AV))) Tryz.func41 rfl Tryz.ntmps41 rfl ?_
 unfold g_ae_chained
 refine sS (sG (xR 6 krf ?_))
 refine xC [] krf (g_a_inside_ok n (lenI (mReading a0e.Claim.Readings)) 1 64) krf krf (fun _=>by kernel_rfl) (fun r1=>?_)
 refine xs_exc [] krf (g_a_need_ok n r1 1) krf krf (fun _=>by kernel_rfl) (fun _=>by kernel_rfl) (fun r2=>?_) (fun e3=>?_)
 ·refine xE (sN ⟨[0,5],[],[],[]⟩ ⟨[(0, .eptr (GAE.cs a0e)),(5, .eptr (GAE.cs a0e))],[]⟩ krf (sR tfm ⟨[0,2,5],[],[],[]⟩ ⟨[(0, .eptr (GAE.cs a0e)),(2,U a0e.Claim.Seed),(5, .eptr (GAE.cs a0e))],[]⟩ krf (sR tfm ⟨[0,2,5,22,23,24],[],[],[]⟩ ⟨[(0, .eptr (GAE.cs a0e)),(2,U a0e.Claim.Seed),(5, .eptr (GAE.cs a0e)),(22, .p (.sl 5 (mReading a0e.Claim.Readings))),(23,I (lenI (mReading a0e.Claim.Readings))),(24,I 0)],[]⟩ krf (sB (sim_loop (fun (l4_1,l4_2)=>⟨[(0, .eptr (GAE.cs a0e)),(2,U l4_1),(5, .eptr (GAE.cs a0e)),(22, .p (.sl 5 (mReading a0e.Claim.Readings))),(23,I (lenI (mReading a0e.Claim.Readings))),(24,I l4_2)],[]⟩:(Int × Int)→St) (weak_shr (K:=⟨[0,2,5,22,23,24],[],[],[]⟩) krf) ?_)))))
  rintro recl4 ⟨l4_1,l4_2⟩
  show SimE (g_ae_chained_l4 n a0e recl4 l4_1 l4_2) _ _ _ _ _ _
  unfold g_ae_chained_l4
  refine sR tfm ⟨[0,2,5,22,23,24,25],[],[],[]⟩ ⟨[(0, .eptr (GAE.cs a0e)),(2,U l4_1),(5, .eptr (GAE.cs a0e)),(22, .p (.sl 5 (mReading a0e.Claim.Readings))),(23,I (lenI (mReading a0e.Claim.Readings))),(24,I l4_2),(25,B (ltI l4_2 (lenI (mReading a0e.Claim.Readings))))],[]⟩ krf (sS (sC (ltI l4_2 (lenI (mReading a0e.Claim.Readings))) krf ?_ ?_))
  ·refine sK (sN ⟨[0,2,5,22,23,24],[],[],[]⟩ ⟨[(0, .eptr (GAE.cs a0e)),(2,U l4_1),(5, .eptr (GAE.cs a0e)),(22, .p (.sl 5 (mReading a0e.Claim.Readings))),(23,I (lenI (mReading a0e.Claim.Readings))),(24,I l4_2)],[]⟩ krf (sS (sB (sS (sG (xR 1 krf ?_))))))
   refine xG krf krf (aop_idx (e:=85) (S:=5) (enc:=GReading.cs) (l:=a0e.Claim.Readings) (k:=.i64) (n:=l4_2) (sv:=.p (.sl 5 (mReading a0e.Claim.Readings))) rfl krf krf krf krf krf) (fun x5=>?_)
   refine xR 4 krf (xE (sN ⟨[0,2,3,4,5,22,23,24],[4],[],[]⟩ ⟨[(0, .eptr (GAE.cs a0e)),(2,U l4_1),(3,I l4_2),(4, .ptr 4 0),(5, .eptr (GAE.cs a0e)),(22, .p (.sl 5 (mReading a0e.Claim.Readings))),(23,I (lenI (mReading a0e.Claim.Readings))),(24,I l4_2)],[(4, .box 85 (bxc (GReading.cs x5)))]⟩ krf (sim_cps (fun _=>⟨[(0, .eptr (GAE.cs a0e)),(2,U l4_1),(3,I l4_2),(4, .ptr 4 0),(5, .eptr (GAE.cs a0e)),(22, .p (.sl 5 (mReading a0e.Claim.Readings))),(23,I (lenI (mReading a0e.Claim.Readings))),(24,I l4_2)],[(4, .box 85 (bxc (GReading.cs x5)))]⟩:Unit→St) (fun _=>g_ae_chained_j6 n a0e l4_1 l4_2 recl4 x5) ?_ ?_)))
   ·rintro _
    show SimE (g_ae_chained_j6 n a0e l4_1 l4_2 recl4 x5) _ _ _ _ _ _
    unfold g_ae_chained_j6
    refine sim_cps (fun _=>⟨[(0, .eptr (GAE.cs a0e)),(2,U l4_1),(3,I l4_2),(4, .ptr 4 0),(5, .eptr (GAE.cs a0e)),(22, .p (.sl 5 (mReading a0e.Claim.Readings))),(23,I (lenI (mReading a0e.Claim.Readings))),(24,I l4_2)],[(4, .box 85 (bxc (GReading.cs x5)))]⟩:Unit→St) (fun _=>g_ae_chained_j7 n a0e l4_1 l4_2 recl4 x5) ?_ ?_
    ·rintro _
     show SimE (g_ae_chained_j7 n a0e l4_1 l4_2 recl4 x5) _ _ _ _ _ _
     unfold g_ae_chained_j7
     refine sim_cps (fun _=>⟨[(0, .eptr (GAE.cs a0e)),(2,U l4_1),(4, .ptr 4 0),(5, .eptr (GAE.cs a0e)),(22, .p (.sl 5 (mReading a0e.Claim.Readings))),(23,I (lenI (mReading a0e.Claim.Readings))),(24,I l4_2)],[(4, .box 85 (bxc (GReading.cs x5)))]⟩:Unit→St) (fun _=>g_ae_chained_j8 n l4_1 l4_2 recl4 x5) ?_ ?_
     ·rintro _
      show SimE (g_ae_chained_j8 n l4_1 l4_2 recl4 x5) _ _ _ _ _ _
      unfold g_ae_chained_j8
      refine sS (sim_drw tfm rfl (xR 4 krf ?_))
      refine xC [] krf (g_a_link_ok n l4_1 x5) krf krf (fun _=>by kernel_rfl) (fun r9=>?_)
      refine xR 1 krf ?_
      refine xs_excL [] krf (g_a_need_ok n (eqI x5.Link r9) 1) krf krf (fun _=>by kernel_rfl) (fun _=>by kernel_rfl) (fun r10=>?_) (fun e11=>?_)
      ·refine sN ⟨[0,4,5,22,23,24],[4],[],[]⟩ ⟨[(0, .eptr (GAE.cs a0e)),(4, .ptr 4 0),(5, .eptr (GAE.cs a0e)),(22, .p (.sl 5 (mReading a0e.Claim.Readings))),(23,I (lenI (mReading a0e.Claim.Readings))),(24,I l4_2)],[(4, .box 85 (bxc (GReading.cs x5)))]⟩ krf (sL tfm krf (bq_n (sN ⟨[0,2,4,5,22,23,24],[4],[],[]⟩ ⟨[(0, .eptr (GAE.cs a0e)),(2,U x5.Link),(4, .ptr 4 0),(5, .eptr (GAE.cs a0e)),(22, .p (.sl 5 (mReading a0e.Claim.Readings))),(23,I (lenI (mReading a0e.Claim.Readings))),(24,I l4_2)],[(4, .box 85 (bxc (GReading.cs x5)))]⟩ krf (sL tfm krf ?_))))
       exact kq_n (x5.Link,wi (l4_2+1)) ⟨[0,2,5,22,23,24],[],[],[]⟩ krf
      ·refine sq_p (bq_p (sq_p (kq_p (bq_p ?_))))
       exact rq_p krf krf
     ·refine sim_drw tfm rfl (xR 3 krf ?_)
      refine xS (eqI l4_2 0) (fun h12=>?_) (fun h12=>?_)
      ·refine xN (want_ft krf h12) krf (xR 12 krf ?_)
       refine xs_excL [] krf (g_a_need_ok n true 1) krf krf (fun _=>by kernel_rfl) (fun _=>by kernel_rfl) (fun r13=>?_) (fun e14=>?_)
       ·exact kq_n (k:=fun _=>g_ae_chained_j8 n l4_1 l4_2 recl4 x5) () ⟨[0,2,4,5,22,23,24],[4],[],[]⟩ krf
       ·refine kq_p (bq_p (sq_p (kq_p (bq_p ?_))))
        exact rq_p krf krf
      ·refine xO (want_ff krf h12) krf (xR 7 krf ?_)
       refine xG krf krf (aop_idx (e:=85) (S:=5) (enc:=GReading.cs) (l:=a0e.Claim.Readings) (k:=.i64) (n:=maxI 0 (wi (l4_2 - 1))) (sv:=.p (.sl 5 (mReading a0e.Claim.Readings))) rfl krf krf krf krf krf) (fun x15=>?_)
       refine xR 2 krf ?_
       refine xC [] krf (g_a_follows_ok n x15 x5) krf krf (fun _=>by kernel_rfl) (fun r16=>?_)
       refine xR 1 krf ?_
       refine xs_excL [] krf (g_a_need_ok n r16 1) krf krf (fun _=>by kernel_rfl) (fun _=>by kernel_rfl) (fun r17=>?_) (fun e18=>?_)
       ·exact kq_n (k:=fun _=>g_ae_chained_j8 n l4_1 l4_2 recl4 x5) () ⟨[0,2,4,5,22,23,24],[4],[],[]⟩ krf
       ·refine kq_p (bq_p (sq_p (kq_p (bq_p ?_))))
        exact rq_p krf krf
    ·refine sG (xR 2 krf ?_)
     refine xC [] krf (g_a_inside_ok n x5.Minute 0 52560000) krf krf (fun _=>by kernel_rfl) (fun r19=>?_)
     refine xR 1 krf ?_
     refine xS r19 (fun h20=>?_) (fun h20=>?_)
     ·refine xO (want_tt krf h20) krf (xR 1 krf ?_)
      refine xC [] krf (g_a_inside_ok n x5.Register 0 1000000000) krf krf (fun _=>by kernel_rfl) (fun r21=>?_)
      refine xR 1 krf ?_
      refine xs_exc [] krf (g_a_need_ok n r21 1) krf krf (fun _=>by kernel_rfl) (fun _=>by kernel_rfl) (fun r22=>?_) (fun e23=>?_)
      ·refine xE ?_
       exact kq_n (k:=fun _=>g_ae_chained_j7 n a0e l4_1 l4_2 recl4 x5) () ⟨[0,2,3,4,5,22,23,24],[4],[],[]⟩ krf
      ·refine kq_p (bq_p (sq_p (kq_p (bq_p ?_))))
       exact rq_p krf krf
     ·refine xN (want_tf krf h20) krf (xR 3 krf ?_)
      refine xs_exc [] krf (g_a_need_ok n false 1) krf krf (fun _=>by kernel_rfl) (fun _=>by kernel_rfl) (fun r24=>?_) (fun e25=>?_)
      ·refine xE ?_
       exact kq_n (k:=fun _=>g_ae_chained_j7 n a0e l4_1 l4_2 recl4 x5) () ⟨[0,2,3,4,5,22,23,24],[4],[],[]⟩ krf
      ·refine kq_p (bq_p (sq_p (kq_p (bq_p ?_))))
       exact rq_p krf krf
   ·refine sG (xR 2 krf ?_)
    refine xC [] krf (g_a_inside_ok n x5.Serial 1 1000000) krf krf (fun _=>by kernel_rfl) (fun r26=>?_)
    refine xR 1 krf ?_
    refine xS r26 (fun h27=>?_) (fun h27=>?_)
    ·refine xO (want_tt krf h27) krf (xR 5 krf ?_)
     refine xs_exc [] krf (g_a_need_ok n (eqI x5.Number (wi (l4_2+1))) 1) krf krf (fun _=>by kernel_rfl) (fun _=>by kernel_rfl) (fun r28=>?_) (fun e29=>?_)
     ·refine xE ?_
      exact kq_n (k:=fun _=>g_ae_chained_j6 n a0e l4_1 l4_2 recl4 x5) () ⟨[0,2,3,4,5,22,23,24],[4],[],[]⟩ krf
     ·refine kq_p (bq_p (sq_p (kq_p (bq_p ?_))))
      exact rq_p krf krf
    ·refine xN (want_tf krf h27) krf (xR 5 krf ?_)
     refine xs_exc [] krf (g_a_need_ok n false 1) krf krf (fun _=>by kernel_rfl) (fun _=>by kernel_rfl) (fun r30=>?_) (fun e31=>?_)
     ·refine xE ?_
      exact kq_n (k:=fun _=>g_ae_chained_j6 n a0e l4_1 l4_2 recl4 x5) () ⟨[0,2,3,4,5,22,23,24],[4],[],[]⟩ krf
     ·refine kq_p (bq_p (sq_p (kq_p (bq_p ?_))))
      exact rq_p krf krf
  ·refine sim_exit (sq_x (kq_x (bq_hit ?_)))
   exact rq_n (.id) krf krf krf
 ·refine sq_p ?_
  exact rq_p krf krf
def g_a_isKey (n:Nat) (a0w:List UInt8):Option Bool :=
 (cond (eqS a0w [102,101,101,100,101,114])
  (some (eqS a0w [102,101,101,100,101,114]))
  (cond (eqS a0w [99,97,98,108,101])
   (some (eqS a0w [99,97,98,108,101]))
   (cond (eqS a0w [111,119,110,101,114])
    (some (eqS a0w [111,119,110,101,114]))
    (cond (eqS a0w [99,111,110,116,114,97,99,116])
     (some (eqS a0w [99,111,110,116,114,97,99,116]))
     (cond (eqS a0w [99,104,97,114,103,101,114])
      (some (eqS a0w [99,104,97,114,103,101,114]))
      (cond (eqS a0w [98,97,121])
       (some (eqS a0w [98,97,121]))
       (some (eqS a0w [116,97,114,105,102,102])))))))).bind fun j1 =>
 cond j1
  (some true)
  ((cond (eqS a0w [108,105,109,105,116])
   (some (eqS a0w [108,105,109,105,116]))
   (cond (eqS a0w [110,101,117,116,114,97,108])
    (some (eqS a0w [110,101,117,116,114,97,108]))
    (cond (eqS a0w [102,117,115,101])
     (some (eqS a0w [102,117,115,101]))
     (cond (eqS a0w [116,104,101,114,109,97,108])
      (some (eqS a0w [116,104,101,114,109,97,108]))
      (cond (eqS a0w [102,114,111,109])
       (some (eqS a0w [102,114,111,109]))
       (cond (eqS a0w [97,116])
        (some (eqS a0w [97,116]))
        (cond (eqS a0w [112,104,97,115,101,115])
         (some (eqS a0w [112,104,97,115,101,115]))
         (cond (eqS a0w [97,109,112,115])
          (some (eqS a0w [97,109,112,115]))
          (cond (eqS a0w [102,97,108,108,98,97,99,107])
           (some (eqS a0w [102,97,108,108,98,97,99,107]))
           (cond (eqS a0w [99,97,114,100])
            (some (eqS a0w [99,97,114,100]))
            (some (eqS a0w [114,97,110,107])))))))))))).bind fun j2 =>
  cond j2
   (some true)
   ((cond (eqS a0w [115,116,97,114,116])
    (some (eqS a0w [115,116,97,114,116]))
    (cond (eqS a0w [101,110,101,114,103,121])
     (some (eqS a0w [101,110,101,114,103,121]))
     (cond (eqS a0w [116,105,109,101])
      (some (eqS a0w [116,105,109,101]))
      (cond (eqS a0w [105,100,108,101])
       (some (eqS a0w [105,100,108,101]))
       (cond (eqS a0w [99,97,112])
        (some (eqS a0w [99,97,112]))
        (some (eqS a0w [116,97,120]))))))).bind fun j3 =>
   cond j3
    (some true)
    ((cond (eqS a0w [111,110])
     (some (eqS a0w [111,110]))
     (cond (eqS a0w [119,111,114,107])
      (some (eqS a0w [119,111,114,107]))
      (cond (eqS a0w [115,97,116,117,114,100,97,121])
       (some (eqS a0w [115,97,116,117,114,100,97,121]))
       (cond (eqS a0w [115,117,110,100,97,121])
        (some (eqS a0w [115,117,110,100,97,121]))
        (cond (eqS a0w [98,101,116,119,101,101,110])
         (some (eqS a0w [98,101,116,119,101,101,110]))
         (cond (eqS a0w [112,101,114])
          (some (eqS a0w [112,101,114]))
          (some (eqS a0w [102,114,101,101])))))))).bind fun j4 =>
    cond j4
     (some true)
     (some false))))
theorem g_a_isKey_ok (n:Nat) (a0w:List UInt8):∀ r,g_a_isKey n a0w=some r→PCall Tryz.prog 94 [S a0w] (.ret (B r)):=by
 refine pcall_sim (X:=fun r:Bool=>AEnd.ret (B r)) Tryz.func94 rfl Tryz.ntmps94 rfl ?_
 unfold g_a_isKey
 refine sR tfm ⟨[0],[],[],[]⟩ ⟨[(0,S a0w)],[]⟩ krf (sS (sR tfm ⟨[3],[],[],[]⟩ ⟨[(3,S a0w)],[]⟩ krf (sB (sim_bind (fun j1=>⟨[(3,S a0w),(4,B j1),(5,B (eqS a0w [102,101,101,100,101,114]))],[]⟩:Bool→St) ?_ ?_))))
 ·refine sR tfm ⟨[3,4,5],[],[],[]⟩ ⟨[(3,S a0w),(4,B (eqS a0w [102,101,101,100,101,114])),(5,B (eqS a0w [102,101,101,100,101,114]))],[]⟩ krf (sC (eqS a0w [102,101,101,100,101,114]) krf ?_ ?_)
  ·refine sK ?_
   exact nq_n (eqS a0w [102,101,101,100,101,114]) ⟨[3,4,5],[],[],[]⟩ krf
  ·refine sR tfm ⟨[3,4,5],[],[],[]⟩ ⟨[(3,S a0w),(4,B (eqS a0w [99,97,98,108,101])),(5,B (eqS a0w [102,101,101,100,101,114]))],[]⟩ krf (sC (eqS a0w [99,97,98,108,101]) krf ?_ ?_)
   ·refine sK ?_
    exact nq_n (eqS a0w [99,97,98,108,101]) ⟨[3,4,5],[],[],[]⟩ krf
   ·refine sR tfm ⟨[3,4,5],[],[],[]⟩ ⟨[(3,S a0w),(4,B (eqS a0w [111,119,110,101,114])),(5,B (eqS a0w [102,101,101,100,101,114]))],[]⟩ krf (sC (eqS a0w [111,119,110,101,114]) krf ?_ ?_)
    ·refine sK ?_
     exact nq_n (eqS a0w [111,119,110,101,114]) ⟨[3,4,5],[],[],[]⟩ krf
    ·refine sR tfm ⟨[3,4,5],[],[],[]⟩ ⟨[(3,S a0w),(4,B (eqS a0w [99,111,110,116,114,97,99,116])),(5,B (eqS a0w [102,101,101,100,101,114]))],[]⟩ krf (sC (eqS a0w [99,111,110,116,114,97,99,116]) krf ?_ ?_)
     ·refine sK ?_
      exact nq_n (eqS a0w [99,111,110,116,114,97,99,116]) ⟨[3,4,5],[],[],[]⟩ krf
     ·refine sR tfm ⟨[3,4,5],[],[],[]⟩ ⟨[(3,S a0w),(4,B (eqS a0w [99,104,97,114,103,101,114])),(5,B (eqS a0w [102,101,101,100,101,114]))],[]⟩ krf (sC (eqS a0w [99,104,97,114,103,101,114]) krf ?_ ?_)
      ·refine sK ?_
       exact nq_n (eqS a0w [99,104,97,114,103,101,114]) ⟨[3,4,5],[],[],[]⟩ krf
      ·refine sR tfm ⟨[3,4,5],[],[],[]⟩ ⟨[(3,S a0w),(4,B (eqS a0w [98,97,121])),(5,B (eqS a0w [102,101,101,100,101,114]))],[]⟩ krf (sC (eqS a0w [98,97,121]) krf ?_ ?_)
       ·refine sK ?_
        exact nq_n (eqS a0w [98,97,121]) ⟨[3,4,5],[],[],[]⟩ krf
       ·refine sL tfm krf ?_
        exact nq_n (eqS a0w [116,97,114,105,102,102]) ⟨[3,4,5],[],[],[]⟩ krf
 ·rintro j1
  refine sC j1 krf ?_ ?_
  ·refine sR tfm ⟨[2],[],[],[]⟩ ⟨[(2,B true)],[]⟩ krf (sT (bq_r (sq_r ?_)))
   exact qR (.id) krf krf krf
  ·refine sim_bind (fun j2=>⟨[(3,S a0w),(4,B j1),(5,B (eqS a0w [102,101,101,100,101,114])),(12,B j2)],[]⟩:Bool→St) ?_ ?_
   ·refine sR tfm ⟨[3,4,5,12],[],[],[]⟩ ⟨[(3,S a0w),(4,B j1),(5,B (eqS a0w [102,101,101,100,101,114])),(12,B (eqS a0w [108,105,109,105,116]))],[]⟩ krf (sC (eqS a0w [108,105,109,105,116]) krf ?_ ?_)
    ·refine sK ?_
     exact nq_n (eqS a0w [108,105,109,105,116]) ⟨[3,4,5,12],[],[],[]⟩ krf
    ·refine sR tfm ⟨[3,4,5,12],[],[],[]⟩ ⟨[(3,S a0w),(4,B j1),(5,B (eqS a0w [102,101,101,100,101,114])),(12,B (eqS a0w [110,101,117,116,114,97,108]))],[]⟩ krf (sC (eqS a0w [110,101,117,116,114,97,108]) krf ?_ ?_)
     ·refine sK ?_
      exact nq_n (eqS a0w [110,101,117,116,114,97,108]) ⟨[3,4,5,12],[],[],[]⟩ krf
     ·refine sR tfm ⟨[3,4,5,12],[],[],[]⟩ ⟨[(3,S a0w),(4,B j1),(5,B (eqS a0w [102,101,101,100,101,114])),(12,B (eqS a0w [102,117,115,101]))],[]⟩ krf (sC (eqS a0w [102,117,115,101]) krf ?_ ?_)
      ·refine sK ?_
       exact nq_n (eqS a0w [102,117,115,101]) ⟨[3,4,5,12],[],[],[]⟩ krf
      ·refine sR tfm ⟨[3,4,5,12],[],[],[]⟩ ⟨[(3,S a0w),(4,B j1),(5,B (eqS a0w [102,101,101,100,101,114])),(12,B (eqS a0w [116,104,101,114,109,97,108]))],[]⟩ krf (sC (eqS a0w [116,104,101,114,109,97,108]) krf ?_ ?_)
       ·refine sK ?_
        exact nq_n (eqS a0w [116,104,101,114,109,97,108]) ⟨[3,4,5,12],[],[],[]⟩ krf
       ·refine sR tfm ⟨[3,4,5,12],[],[],[]⟩ ⟨[(3,S a0w),(4,B j1),(5,B (eqS a0w [102,101,101,100,101,114])),(12,B (eqS a0w [102,114,111,109]))],[]⟩ krf (sC (eqS a0w [102,114,111,109]) krf ?_ ?_)
        ·refine sK ?_
         exact nq_n (eqS a0w [102,114,111,109]) ⟨[3,4,5,12],[],[],[]⟩ krf
        ·refine sR tfm ⟨[3,4,5,12],[],[],[]⟩ ⟨[(3,S a0w),(4,B j1),(5,B (eqS a0w [102,101,101,100,101,114])),(12,B (eqS a0w [97,116]))],[]⟩ krf (sC (eqS a0w [97,116]) krf ?_ ?_)
         ·refine sK ?_
          exact nq_n (eqS a0w [97,116]) ⟨[3,4,5,12],[],[],[]⟩ krf
         ·refine sR tfm ⟨[3,4,5,12],[],[],[]⟩ ⟨[(3,S a0w),(4,B j1),(5,B (eqS a0w [102,101,101,100,101,114])),(12,B (eqS a0w [112,104,97,115,101,115]))],[]⟩ krf (sC (eqS a0w [112,104,97,115,101,115]) krf ?_ ?_)
          ·refine sK ?_
           exact nq_n (eqS a0w [112,104,97,115,101,115]) ⟨[3,4,5,12],[],[],[]⟩ krf
          ·refine sR tfm ⟨[3,4,5,12],[],[],[]⟩ ⟨[(3,S a0w),(4,B j1),(5,B (eqS a0w [102,101,101,100,101,114])),(12,B (eqS a0w [97,109,112,115]))],[]⟩ krf (sC (eqS a0w [97,109,112,115]) krf ?_ ?_)
           ·refine sK ?_
            exact nq_n (eqS a0w [97,109,112,115]) ⟨[3,4,5,12],[],[],[]⟩ krf
           ·refine sR tfm ⟨[3,4,5,12],[],[],[]⟩ ⟨[(3,S a0w),(4,B j1),(5,B (eqS a0w [102,101,101,100,101,114])),(12,B (eqS a0w [102,97,108,108,98,97,99,107]))],[]⟩ krf (sC (eqS a0w [102,97,108,108,98,97,99,107]) krf ?_ ?_)
            ·refine sK ?_
             exact nq_n (eqS a0w [102,97,108,108,98,97,99,107]) ⟨[3,4,5,12],[],[],[]⟩ krf
            ·refine sR tfm ⟨[3,4,5,12],[],[],[]⟩ ⟨[(3,S a0w),(4,B j1),(5,B (eqS a0w [102,101,101,100,101,114])),(12,B (eqS a0w [99,97,114,100]))],[]⟩ krf (sC (eqS a0w [99,97,114,100]) krf ?_ ?_)
             ·refine sK ?_
              exact nq_n (eqS a0w [99,97,114,100]) ⟨[3,4,5,12],[],[],[]⟩ krf
             ·refine sL tfm krf ?_
              exact nq_n (eqS a0w [114,97,110,107]) ⟨[3,4,5,12],[],[],[]⟩ krf
   ·rintro j2
    refine sC j2 krf ?_ ?_
    ·refine sR tfm ⟨[2],[],[],[]⟩ ⟨[(2,B true)],[]⟩ krf (sT (bq_r (sq_r ?_)))
     exact qR (.id) krf krf krf
    ·refine sim_bind (fun j3=>⟨[(3,S a0w),(4,B j1),(5,B (eqS a0w [102,101,101,100,101,114])),(24,B j3)],[]⟩:Bool→St) ?_ ?_
     ·refine sR tfm ⟨[3,4,5,24],[],[],[]⟩ ⟨[(3,S a0w),(4,B j1),(5,B (eqS a0w [102,101,101,100,101,114])),(24,B (eqS a0w [115,116,97,114,116]))],[]⟩ krf (sC (eqS a0w [115,116,97,114,116]) krf ?_ ?_)
      ·refine sK ?_
       exact nq_n (eqS a0w [115,116,97,114,116]) ⟨[3,4,5,24],[],[],[]⟩ krf
      ·refine sR tfm ⟨[3,4,5,24],[],[],[]⟩ ⟨[(3,S a0w),(4,B j1),(5,B (eqS a0w [102,101,101,100,101,114])),(24,B (eqS a0w [101,110,101,114,103,121]))],[]⟩ krf (sC (eqS a0w [101,110,101,114,103,121]) krf ?_ ?_)
       ·refine sK ?_
        exact nq_n (eqS a0w [101,110,101,114,103,121]) ⟨[3,4,5,24],[],[],[]⟩ krf
       ·refine sR tfm ⟨[3,4,5,24],[],[],[]⟩ ⟨[(3,S a0w),(4,B j1),(5,B (eqS a0w [102,101,101,100,101,114])),(24,B (eqS a0w [116,105,109,101]))],[]⟩ krf (sC (eqS a0w [116,105,109,101]) krf ?_ ?_)
        ·refine sK ?_
         exact nq_n (eqS a0w [116,105,109,101]) ⟨[3,4,5,24],[],[],[]⟩ krf
        ·refine sR tfm ⟨[3,4,5,24],[],[],[]⟩ ⟨[(3,S a0w),(4,B j1),(5,B (eqS a0w [102,101,101,100,101,114])),(24,B (eqS a0w [105,100,108,101]))],[]⟩ krf (sC (eqS a0w [105,100,108,101]) krf ?_ ?_)
         ·refine sK ?_
          exact nq_n (eqS a0w [105,100,108,101]) ⟨[3,4,5,24],[],[],[]⟩ krf
         ·refine sR tfm ⟨[3,4,5,24],[],[],[]⟩ ⟨[(3,S a0w),(4,B j1),(5,B (eqS a0w [102,101,101,100,101,114])),(24,B (eqS a0w [99,97,112]))],[]⟩ krf (sC (eqS a0w [99,97,112]) krf ?_ ?_)
          ·refine sK ?_
           exact nq_n (eqS a0w [99,97,112]) ⟨[3,4,5,24],[],[],[]⟩ krf
          ·refine sL tfm krf ?_
           exact nq_n (eqS a0w [116,97,120]) ⟨[3,4,5,24],[],[],[]⟩ krf
     ·rintro j3
      refine sC j3 krf ?_ ?_
      ·refine sR tfm ⟨[2],[],[],[]⟩ ⟨[(2,B true)],[]⟩ krf (sT (bq_r (sq_r ?_)))
       exact qR (.id) krf krf krf
      ·refine sim_bind (fun j4=>⟨[(4,B j1),(5,B (eqS a0w [102,101,101,100,101,114])),(31,B j4)],[]⟩:Bool→St) ?_ ?_
       ·refine sR tfm ⟨[3,4,5,31],[],[],[]⟩ ⟨[(3,S a0w),(4,B j1),(5,B (eqS a0w [102,101,101,100,101,114])),(31,B (eqS a0w [111,110]))],[]⟩ krf (sC (eqS a0w [111,110]) krf ?_ ?_)
        ·refine sK ?_
         exact nq_n (eqS a0w [111,110]) ⟨[4,5,31],[],[],[]⟩ krf
        ·refine sR tfm ⟨[3,4,5,31],[],[],[]⟩ ⟨[(3,S a0w),(4,B j1),(5,B (eqS a0w [102,101,101,100,101,114])),(31,B (eqS a0w [119,111,114,107]))],[]⟩ krf (sC (eqS a0w [119,111,114,107]) krf ?_ ?_)
         ·refine sK ?_
          exact nq_n (eqS a0w [119,111,114,107]) ⟨[4,5,31],[],[],[]⟩ krf
         ·refine sR tfm ⟨[3,4,5,31],[],[],[]⟩ ⟨[(3,S a0w),(4,B j1),(5,B (eqS a0w [102,101,101,100,101,114])),(31,B (eqS a0w [115,97,116,117,114,100,97,121]))],[]⟩ krf (sC (eqS a0w [115,97,116,117,114,100,97,121]) krf ?_ ?_)
          ·refine sK ?_
           exact nq_n (eqS a0w [115,97,116,117,114,100,97,121]) ⟨[4,5,31],[],[],[]⟩ krf
          ·refine sR tfm ⟨[3,4,5,31],[],[],[]⟩ ⟨[(3,S a0w),(4,B j1),(5,B (eqS a0w [102,101,101,100,101,114])),(31,B (eqS a0w [115,117,110,100,97,121]))],[]⟩ krf (sC (eqS a0w [115,117,110,100,97,121]) krf ?_ ?_)
           ·refine sK ?_
            exact nq_n (eqS a0w [115,117,110,100,97,121]) ⟨[4,5,31],[],[],[]⟩ krf
           ·refine sR tfm ⟨[3,4,5,31],[],[],[]⟩ ⟨[(3,S a0w),(4,B j1),(5,B (eqS a0w [102,101,101,100,101,114])),(31,B (eqS a0w [98,101,116,119,101,101,110]))],[]⟩ krf (sC (eqS a0w [98,101,116,119,101,101,110]) krf ?_ ?_)
            ·refine sK ?_
             exact nq_n (eqS a0w [98,101,116,119,101,101,110]) ⟨[4,5,31],[],[],[]⟩ krf
            ·refine sR tfm ⟨[3,4,5,31],[],[],[]⟩ ⟨[(3,S a0w),(4,B j1),(5,B (eqS a0w [102,101,101,100,101,114])),(31,B (eqS a0w [112,101,114]))],[]⟩ krf (sC (eqS a0w [112,101,114]) krf ?_ ?_)
             ·refine sK ?_
              exact nq_n (eqS a0w [112,101,114]) ⟨[4,5,31],[],[],[]⟩ krf
             ·refine sL tfm krf ?_
              exact nq_n (eqS a0w [102,114,101,101]) ⟨[4,5,31],[],[],[]⟩ krf
       ·rintro j4
        refine sC j4 krf ?_ ?_
        ·refine sR tfm ⟨[2],[],[],[]⟩ ⟨[(2,B true)],[]⟩ krf (sT (bq_r (sq_r ?_)))
         exact qR (.id) krf krf krf
        ·refine sK (bq_n (sN ⟨[4,5],[],[],[]⟩ ⟨[(4,B j1),(5,B (eqS a0w [102,101,101,100,101,114]))],[]⟩ krf (sR tfm ⟨[2],[],[],[]⟩ ⟨[(2,B false)],[]⟩ krf (sT ?_))))
         exact qR (.id) krf krf krf
def g_a_isName_l9 (a0text:List UInt8) (recl9:Int→Option Bool) (l9:Int):Option Bool :=
 cond (ltI l9 (lenI a0text))
  ((getI a0text l9).bind fun x10 =>
  (cond (leI 97 (b2i x10))
   (cond (leI (b2i x10) 122)
    (some false)
    (cond (leI 48 (b2i x10))
     (cond (leI (b2i x10) 57)
      (some false)
      (some (!(eqI (b2i x10) 95))))
     (some (!(eqI (b2i x10) 95)))))
   (cond (leI 48 (b2i x10))
    (cond (leI (b2i x10) 57)
     (some false)
     (some (!(eqI (b2i x10) 95))))
    (some (!(eqI (b2i x10) 95))))).bind fun j11 =>
  cond j11
   (some false)
   (recl9 (wi (l9+1))))
  (some true)
def g_a_isName (n:Nat) (a0text:List UInt8):Option Bool :=
 ((g_a_inside n (lenI a0text) 1 12).bind fun r2 =>
 cond (!r2)
  (some true)
  ((getI a0text 0).bind fun x4 =>
  cond (ltI (b2i x4) 97)
   (some true)
   ((getI a0text 0).bind fun x6 =>
   cond (ltI 122 (b2i x6))
    (some true)
    ((g_a_isKey n a0text).bind fun r8 =>
    some r8)))).bind fun j1 =>
 cond j1
  (some false)
  (loopN (fun recl9 l9=>g_a_isName_l9 a0text recl9 l9) n 0)
theorem g_a_isName_ok (n:Nat) (a0text:List UInt8):∀ r,g_a_isName n a0text=some r→PCall Tryz.prog 71 [S a0text] (.ret (B r)):=by
 refine pcall_sim (X:=fun r:Bool=>AEnd.ret (B r)) Tryz.func71 rfl Tryz.ntmps71 rfl ?_
 unfold g_a_isName
 refine sR tfm ⟨[0],[],[],[]⟩ ⟨[(0,S a0text)],[]⟩ krf (sS (sim_bind (fun j1=>⟨[(0,S a0text),(5,S a0text),(22,B j1)],[]⟩:Bool→St) ?_ ?_))
 ·refine sG (xR 2 krf ?_)
  refine xC [] krf (g_a_inside_ok n (lenI a0text) 1 12) krf krf (fun _=>by kernel_rfl) (fun r2=>?_)
  refine xR 2 krf ?_
  refine xS (!r2) (fun h3=>?_) (fun h3=>?_)
  ·refine xN (want_ft krf h3) krf (xR 12 krf (xE ?_))
   exact nq_n true ⟨[0,5,22],[],[],[]⟩ krf
  ·refine xO (want_ff krf h3) krf ?_
   refine xG krf krf (aop_sidx (l:=a0text) (k:=.i64) (n:=0) rfl krf krf krf) (fun x4=>?_)
   refine xR 3 krf ?_
   refine xS (ltI (b2i x4) 97) (fun h5=>?_) (fun h5=>?_)
   ·refine xN (want_ft krf h5) krf (xR 7 krf (xE ?_))
    exact nq_n true ⟨[0,5,22],[],[],[]⟩ krf
   ·refine xO (want_ff krf h5) krf ?_
    refine xG krf krf (aop_sidx (l:=a0text) (k:=.i64) (n:=0) rfl krf krf krf) (fun x6=>?_)
    refine xR 3 krf ?_
    refine xS (ltI 122 (b2i x6)) (fun h7=>?_) (fun h7=>?_)
    ·refine xN (want_ft krf h7) krf (xR 2 krf (xE ?_))
     exact nq_n true ⟨[0,5,22],[],[],[]⟩ krf
    ·refine xO (want_ff krf h7) krf ?_
     refine xC [] krf (g_a_isKey_ok n a0text) krf krf (fun _=>by kernel_rfl) (fun r8=>?_)
     refine xR 1 krf (xE ?_)
     exact nq_n r8 ⟨[0,5,22],[],[],[]⟩ krf
 ·rintro j1
  refine sC j1 krf ?_ ?_
  ·refine sR tfm ⟨[2],[],[],[]⟩ ⟨[(2,B false)],[]⟩ krf (sT (sq_r ?_))
   exact qR (.id) krf krf krf
  ·refine sK (sN ⟨[0,5],[],[],[]⟩ ⟨[(0,S a0text),(5,S a0text)],[]⟩ krf (sS (sR tfm ⟨[0,5,24,25],[],[],[]⟩ ⟨[(0,S a0text),(5,S a0text),(24,I (lenI a0text)),(25,I 0)],[]⟩ krf (sB (sim_loop (fun l9=>⟨[(0,S a0text),(5,S a0text),(24,I (lenI a0text)),(25,I l9)],[]⟩:Int→St) (weak_shr (K:=⟨[0,5,24,25],[],[],[]⟩) krf) ?_)))))
   rintro recl9 l9
   show SimE (g_a_isName_l9 a0text recl9 l9) _ _ _ _ _ _
   unfold g_a_isName_l9
   refine sR tfm ⟨[0,5,24,25,26],[],[],[]⟩ ⟨[(0,S a0text),(5,S a0text),(24,I (lenI a0text)),(25,I l9),(26,B (ltI l9 (lenI a0text)))],[]⟩ krf (sS (sC (ltI l9 (lenI a0text)) krf ?_ ?_))
   ·refine sK (sN ⟨[0,5,24,25],[],[],[]⟩ ⟨[(0,S a0text),(5,S a0text),(24,I (lenI a0text)),(25,I l9)],[]⟩ krf (sS (sB (sR tfm ⟨[0,3,5,24,25],[],[],[]⟩ ⟨[(0,S a0text),(3,I l9),(5,S a0text),(24,I (lenI a0text)),(25,I l9)],[]⟩ krf (sS (sG (xR 2 krf ?_)))))))
    refine xG krf krf (aop_sidx (l:=a0text) (k:=.i64) (n:=l9) rfl krf krf krf) (fun x10=>?_)
    refine xR 1 krf (xE (sN ⟨[0,4,5,24,25],[],[],[]⟩ ⟨[(0,S a0text),(4,B8 (b2i x10)),(5,S a0text),(24,I (lenI a0text)),(25,I l9)],[]⟩ krf (sim_bind (fun j11=>⟨[(0,S a0text),(4,B8 (b2i x10)),(5,S a0text),(24,I (lenI a0text)),(25,I l9),(49,B j11)],[]⟩:Bool→St) ?_ ?_)))
    ·refine sG (xR 3 krf ?_)
     refine xS (leI 97 (b2i x10)) (fun h12=>?_) (fun h12=>?_)
     ·refine xO (want_tt krf h12) krf (xR 3 krf ?_)
      refine xS (leI (b2i x10) 122) (fun h13=>?_) (fun h13=>?_)
      ·refine xN (want_ft krf h13) krf (xR 11 krf (xE ?_))
       exact nq_n false ⟨[0,4,5,24,25,49],[],[],[]⟩ krf
      ·refine xO (want_ff krf h13) krf (xR 2 krf ?_)
       refine xS (leI 48 (b2i x10)) (fun h14=>?_) (fun h14=>?_)
       ·refine xO (want_tt krf h14) krf (xR 4 krf ?_)
        refine xS (leI (b2i x10) 57) (fun h15=>?_) (fun h15=>?_)
        ·refine xN (want_ft krf h15) krf (xR 3 krf (xE ?_))
         exact nq_n false ⟨[0,4,5,24,25,49],[],[],[]⟩ krf
        ·refine xO (want_ff krf h15) krf (xR 3 krf (xE ?_))
         exact nq_n (!(eqI (b2i x10) 95)) ⟨[0,4,5,24,25,49],[],[],[]⟩ krf
       ·refine xN (want_tf krf h14) krf (xR 8 krf (xE ?_))
        exact nq_n (!(eqI (b2i x10) 95)) ⟨[0,4,5,24,25,49],[],[],[]⟩ krf
     ·refine xN (want_tf krf h12) krf (xR 6 krf ?_)
      refine xS (leI 48 (b2i x10)) (fun h16=>?_) (fun h16=>?_)
      ·refine xO (want_tt krf h16) krf (xR 4 krf ?_)
       refine xS (leI (b2i x10) 57) (fun h17=>?_) (fun h17=>?_)
       ·refine xN (want_ft krf h17) krf (xR 3 krf (xE ?_))
        exact nq_n false ⟨[0,4,5,24,25,49],[],[],[]⟩ krf
       ·refine xO (want_ff krf h17) krf (xR 3 krf (xE ?_))
        exact nq_n (!(eqI (b2i x10) 95)) ⟨[0,4,5,24,25,49],[],[],[]⟩ krf
      ·refine xN (want_tf krf h16) krf (xR 8 krf (xE ?_))
       exact nq_n (!(eqI (b2i x10) 95)) ⟨[0,4,5,24,25,49],[],[],[]⟩ krf
    ·rintro j11
     refine sC j11 krf ?_ ?_
     ·refine sR tfm ⟨[2],[],[],[]⟩ ⟨[(2,B false)],[]⟩ krf (sT (bq_r (sq_r (kq_r (bq_r (sq_r ?_))))))
      exact qR (.id) krf krf krf
     ·refine sK (bq_n (sN ⟨[0,4,5,24,25],[],[],[]⟩ ⟨[(0,S a0text),(4,B8 (b2i x10)),(5,S a0text),(24,I (lenI a0text)),(25,I l9)],[]⟩ krf (sL tfm krf ?_)))
      exact kq_n (wi (l9+1)) ⟨[0,5,24,25],[],[],[]⟩ krf
   ·refine sim_exit (sq_x (kq_x (bq_hit (sN ⟨[5],[],[],[]⟩ ⟨[(5,S a0text)],[]⟩ krf (sR tfm ⟨[2],[],[],[]⟩ ⟨[(2,B true)],[]⟩ krf (sT ?_))))))
    exact qR (.id) krf krf krf
def g_a_validArticle (n:Nat) (a0a:GAr):Option Bool :=
 ((g_a_inside n a0a.Kind 1 6).bind fun r2 =>
 cond (!r2)
  (some true)
  ((g_a_inside n a0a.Days 1 7).bind fun r4 =>
  some (!r4))).bind fun j1 =>
 cond j1
  (some false)
  (((g_a_inside n a0a.From 0 1439).bind fun r6 =>
  cond (!r6)
   (some true)
   (cond (leI a0a.To a0a.From)
    (some true)
    (some (ltI 1440 a0a.To)))).bind fun j5 =>
  cond j5
   (some false)
   ((cond (eqI a0a.From 0)
    (cond (eqI a0a.To 1440)
     (some (eqI a0a.Days 7))
     (some false))
    (some false)).bind fun j9 =>
   (cond (eqI a0a.Unit 0)
    (some (eqI a0a.Free 0))
    (some false)).bind fun j12 =>
   (g_a_inside n a0a.Price 0 1000000).bind fun r14 =>
   (cond (eqI a0a.Kind 3)
    (some (eqI a0a.Kind 3))
    (some (eqI a0a.Kind 4))).bind fun j15 =>
   cond j15
    ((cond r14
     ((g_a_inside n a0a.Unit 1 1440).bind fun r18 =>
     cond r18
      ((g_a_inside n a0a.Free 0 1440).bind fun r20 =>
      some r20)
      (some false))
     (some false)).bind fun j16 =>
    some j16)
    (cond (eqI a0a.Kind 5)
     ((cond r14
      (cond j12
       (some j9)
       (some false))
      (some false)).bind fun j21 =>
     some j21)
     (cond (eqI a0a.Kind 6)
      (((g_a_inside n a0a.Price 0 10000).bind fun r25 =>
      cond r25
       (cond j12
        (some j9)
        (some false))
       (some false)).bind fun j24 =>
      some j24)
      (cond r14
       (some j12)
       (some false))))))
theorem g_a_validArticle_ok (n:Nat) (a0a:GAr):∀ r,g_a_validArticle n a0a=some r→PCall Tryz.prog 72 [ag (GAr.cs a0a)] (.ret (B r)):=by
 refine pcall_sim (X:=fun r:Bool=>AEnd.ret (B r)) Tryz.func72 rfl Tryz.ntmps72 rfl ?_
 unfold g_a_validArticle
 refine sR tfm ⟨[1],[1],[],[]⟩ ⟨[(1, .ptr 1 0)],[(1, .box 73 (bxc (GAr.cs a0a)))]⟩ krf (sS (sim_bind (fun j1=>⟨[(1, .ptr 1 0),(15,B j1)],[(1, .box 73 (bxc (GAr.cs a0a)))]⟩:Bool→St) ?_ ?_))
 ·refine sG (xR 2 krf ?_)
  refine xC [] krf (g_a_inside_ok n a0a.Kind 1 6) krf krf (fun _=>by kernel_rfl) (fun r2=>?_)
  refine xR 2 krf ?_
  refine xS (!r2) (fun h3=>?_) (fun h3=>?_)
  ·refine xN (want_ft krf h3) krf (xR 4 krf (xE ?_))
   exact nq_n true ⟨[1,15],[1],[],[]⟩ krf
  ·refine xO (want_ff krf h3) krf (xR 1 krf ?_)
   refine xC [] krf (g_a_inside_ok n a0a.Days 1 7) krf krf (fun _=>by kernel_rfl) (fun r4=>?_)
   refine xR 2 krf (xE ?_)
   exact nq_n (!r4) ⟨[1,15],[1],[],[]⟩ krf
 ·rintro j1
  refine sC j1 krf ?_ ?_
  ·refine sR tfm ⟨[2],[],[],[]⟩ ⟨[(2,B false)],[]⟩ krf (sT (sq_r ?_))
   exact qR (.id) krf krf krf
  ·refine sK (sN ⟨[1],[1],[],[]⟩ ⟨[(1, .ptr 1 0)],[(1, .box 73 (bxc (GAr.cs a0a)))]⟩ krf (sS (sim_bind (fun j5=>⟨[(1, .ptr 1 0),(31,B j5)],[(1, .box 73 (bxc (GAr.cs a0a)))]⟩:Bool→St) ?_ ?_)))
   ·refine sG (xR 2 krf ?_)
    refine xC [] krf (g_a_inside_ok n a0a.From 0 1439) krf krf (fun _=>by kernel_rfl) (fun r6=>?_)
    refine xR 2 krf ?_
    refine xS (!r6) (fun h7=>?_) (fun h7=>?_)
    ·refine xN (want_ft krf h7) krf (xR 10 krf (xE ?_))
     exact nq_n true ⟨[1,31],[1],[],[]⟩ krf
    ·refine xO (want_ff krf h7) krf (xR 6 krf ?_)
     refine xS (leI a0a.To a0a.From) (fun h8=>?_) (fun h8=>?_)
     ·refine xN (want_ft krf h8) krf (xR 3 krf (xE ?_))
      exact nq_n true ⟨[1,31],[1],[],[]⟩ krf
     ·refine xO (want_ff krf h8) krf (xR 3 krf (xE ?_))
      exact nq_n (ltI 1440 a0a.To) ⟨[1,31],[1],[],[]⟩ krf
   ·rintro j5
    refine sC j5 krf ?_ ?_
    ·refine sR tfm ⟨[2],[],[],[]⟩ ⟨[(2,B false)],[]⟩ krf (sT (sq_r ?_))
     exact qR (.id) krf krf krf
    ·refine sK (sN ⟨[1],[1],[],[]⟩ ⟨[(1, .ptr 1 0)],[(1, .box 73 (bxc (GAr.cs a0a)))]⟩ krf (sim_bind (fun j9=>⟨[(1, .ptr 1 0),(3,B j9)],[(1, .box 73 (bxc (GAr.cs a0a)))]⟩:Bool→St) ?_ ?_))
     ·refine sG (xR 4 krf ?_)
      refine xS (eqI a0a.From 0) (fun h10=>?_) (fun h10=>?_)
      ·refine xO (want_tt krf h10) krf (xR 4 krf ?_)
       refine xS (eqI a0a.To 1440) (fun h11=>?_) (fun h11=>?_)
       ·refine xO (want_tt krf h11) krf (xR 4 krf (xE ?_))
        exact nq_n (eqI a0a.Days 7) ⟨[1,3],[1],[],[]⟩ krf
       ·refine xN (want_tf krf h11) krf (xR 4 krf (xE ?_))
        exact nq_n false ⟨[1,3],[1],[],[]⟩ krf
      ·refine xN (want_tf krf h10) krf (xR 9 krf (xE ?_))
       exact nq_n false ⟨[1,3],[1],[],[]⟩ krf
     ·rintro j9
      refine sim_bind (fun j12=>⟨[(1, .ptr 1 0),(3,B j9),(4,B j12)],[(1, .box 73 (bxc (GAr.cs a0a)))]⟩:Bool→St) ?_ ?_
      ·refine sG (xR 4 krf ?_)
       refine xS (eqI a0a.Unit 0) (fun h13=>?_) (fun h13=>?_)
       ·refine xO (want_tt krf h13) krf (xR 4 krf (xE ?_))
        exact nq_n (eqI a0a.Free 0) ⟨[1,3,4],[1],[],[]⟩ krf
       ·refine xN (want_tf krf h13) krf (xR 4 krf (xE ?_))
        exact nq_n false ⟨[1,3,4],[1],[],[]⟩ krf
      ·rintro j12
       refine sS (sG (xR 2 krf ?_))
       refine xC [] krf (g_a_inside_ok n a0a.Price 0 1000000) krf krf (fun _=>by kernel_rfl) (fun r14=>?_)
       refine xR 1 krf (xE (sN ⟨[1,3,4,5],[1],[],[]⟩ ⟨[(1, .ptr 1 0),(3,B j9),(4,B j12),(5,B r14)],[(1, .box 73 (bxc (GAr.cs a0a)))]⟩ krf (sS (sR tfm ⟨[1,3,4,5,57],[1],[],[]⟩ ⟨[(1, .ptr 1 0),(3,B j9),(4,B j12),(5,B r14),(57,I a0a.Kind)],[(1, .box 73 (bxc (GAr.cs a0a)))]⟩ krf (sB (sim_bind (fun j15=>⟨[(1, .ptr 1 0),(3,B j9),(4,B j12),(5,B r14),(57,I a0a.Kind),(58,B j15)],[(1, .box 73 (bxc (GAr.cs a0a)))]⟩:Bool→St) ?_ ?_))))))
       ·refine sR tfm ⟨[1,3,4,5,57,58],[1],[],[]⟩ ⟨[(1, .ptr 1 0),(3,B j9),(4,B j12),(5,B r14),(57,I a0a.Kind),(58,B (eqI a0a.Kind 3))],[(1, .box 73 (bxc (GAr.cs a0a)))]⟩ krf (sC (eqI a0a.Kind 3) krf ?_ ?_)
        ·refine sK ?_
         exact nq_n (eqI a0a.Kind 3) ⟨[1,3,4,5,57,58],[1],[],[]⟩ krf
        ·refine sL tfm krf ?_
         exact nq_n (eqI a0a.Kind 4) ⟨[1,3,4,5,57,58],[1],[],[]⟩ krf
       ·rintro j15
        refine sC j15 krf ?_ ?_
        ·refine sim_bind (fun j16=>⟨[(2,B j16)],[]⟩:Bool→St) ?_ ?_
         ·refine sG (xR 2 krf ?_)
          refine xS r14 (fun h17=>?_) (fun h17=>?_)
          ·refine xO (want_tt krf h17) krf (xR 1 krf ?_)
           refine xC [] krf (g_a_inside_ok n a0a.Unit 1 1440) krf krf (fun _=>by kernel_rfl) (fun r18=>?_)
           refine xR 2 krf ?_
           refine xS r18 (fun h19=>?_) (fun h19=>?_)
           ·refine xO (want_tt krf h19) krf (xR 1 krf ?_)
            refine xC [] krf (g_a_inside_ok n a0a.Free 0 1440) krf krf (fun _=>by kernel_rfl) (fun r20=>?_)
            refine xR 2 krf (xE ?_)
            exact nq_n r20 ⟨[2],[],[],[]⟩ krf
           ·refine xN (want_tf krf h19) krf (xR 4 krf (xE ?_))
            exact nq_n false ⟨[2],[],[],[]⟩ krf
          ·refine xN (want_tf krf h17) krf (xR 9 krf (xE ?_))
           exact nq_n false ⟨[2],[],[],[]⟩ krf
         ·rintro j16
          refine sT (bq_r (sq_r ?_))
          exact qR (.id) krf krf krf
        ·refine sR tfm ⟨[1,3,4,5,57,72],[1],[],[]⟩ ⟨[(1, .ptr 1 0),(3,B j9),(4,B j12),(5,B r14),(57,I a0a.Kind),(72,B (eqI a0a.Kind 5))],[(1, .box 73 (bxc (GAr.cs a0a)))]⟩ krf (sC (eqI a0a.Kind 5) krf ?_ ?_)
         ·refine sim_bind (fun j21=>⟨[(2,B j21)],[]⟩:Bool→St) ?_ ?_
          ·refine sG (xR 2 krf ?_)
           refine xS r14 (fun h22=>?_) (fun h22=>?_)
           ·refine xO (want_tt krf h22) krf (xR 2 krf ?_)
            refine xS j12 (fun h23=>?_) (fun h23=>?_)
            ·refine xO (want_tt krf h23) krf (xR 2 krf (xE ?_))
             exact nq_n j9 ⟨[2],[],[],[]⟩ krf
            ·refine xN (want_tf krf h23) krf (xR 2 krf (xE ?_))
             exact nq_n false ⟨[2],[],[],[]⟩ krf
           ·refine xN (want_tf krf h22) krf (xR 5 krf (xE ?_))
            exact nq_n false ⟨[2],[],[],[]⟩ krf
          ·rintro j21
           refine sT (bq_r (sq_r ?_))
           exact qR (.id) krf krf krf
         ·refine sR tfm ⟨[1,3,4,5,81],[1],[],[]⟩ ⟨[(1, .ptr 1 0),(3,B j9),(4,B j12),(5,B r14),(81,B (eqI a0a.Kind 6))],[(1, .box 73 (bxc (GAr.cs a0a)))]⟩ krf (sC (eqI a0a.Kind 6) krf ?_ ?_)
          ·refine sim_bind (fun j24=>⟨[(2,B j24)],[]⟩:Bool→St) ?_ ?_
           ·refine sG (xR 2 krf ?_)
            refine xC [] krf (g_a_inside_ok n a0a.Price 0 10000) krf krf (fun _=>by kernel_rfl) (fun r25=>?_)
            refine xR 1 krf ?_
            refine xS r25 (fun h26=>?_) (fun h26=>?_)
            ·refine xO (want_tt krf h26) krf (xR 2 krf ?_)
             refine xS j12 (fun h27=>?_) (fun h27=>?_)
             ·refine xO (want_tt krf h27) krf (xR 2 krf (xE ?_))
              exact nq_n j9 ⟨[2],[],[],[]⟩ krf
             ·refine xN (want_tf krf h27) krf (xR 2 krf (xE ?_))
              exact nq_n false ⟨[2],[],[],[]⟩ krf
            ·refine xN (want_tf krf h26) krf (xR 5 krf (xE ?_))
             exact nq_n false ⟨[2],[],[],[]⟩ krf
           ·rintro j24
            refine sT (bq_r (sq_r ?_))
            exact qR (.id) krf krf krf
          ·refine sK (bq_n (sN ⟨[4,5],[],[],[]⟩ ⟨[(4,B j12),(5,B r14)],[]⟩ krf (sS (sG (xR 2 krf ?_)))))
           refine xS r14 (fun h28=>?_) (fun h28=>?_)
           ·refine xO (want_tt krf h28) krf (xR 2 krf (xE (sN ⟨[2],[],[],[]⟩ ⟨[(2,B j12)],[]⟩ krf (sT ?_))))
            exact qR (.id) krf krf krf
           ·refine xN (want_tf krf h28) krf (xR 2 krf (xE (sN ⟨[2],[],[],[]⟩ ⟨[(2,B false)],[]⟩ krf (sT ?_))))
            exact qR (.id) krf krf krf
def g_ae_tariffed_j2 (n:Nat) (a0e:GAE) (j2_1:Int) (j2_2:Int):Option (Except (Int × GAE) GAE) :=
 (g_a_need n (leI j2_1 1) 2).bind (exc (fun r3 =>
  some (.ok (⟨a0e.Claim,(⟨a0e.follows.From,a0e.follows.To,a0e.follows.End,[]⟩:GSs),(⟨[],a0e.bill.Net,a0e.bill.Tax,a0e.bill.Total⟩:GBill),j2_2⟩:GAE))) fun e4=>some (.error (e4,(⟨a0e.Claim,(⟨a0e.follows.From,a0e.follows.To,a0e.follows.End,[]⟩:GSs),(⟨[],a0e.bill.Net,a0e.bill.Tax,a0e.bill.Total⟩:GBill),j2_2⟩:GAE))))
def g_ae_tariffed_l5 (n:Nat) (a0e:GAE) (recl5:(Int × Int × Int)→Option (Except (Int × GAE) GAE)) (l5_1:Int) (l5_2:Int) (l5_3:Int):Option (Except (Int × GAE) GAE) :=
 cond (ltI l5_2 (lenI (List.map GAr.cs a0e.Claim.Tariff.Articles)))
  ((getI a0e.Claim.Tariff.Articles l5_2).bind fun x6 =>
  (g_a_validArticle n x6).bind fun r7 =>
  (g_a_need n r7 2).bind (exc (fun r8 =>
   cond (eqI x6.Kind 6)
    (recl5 (wi (l5_1+1),wi (l5_2+1),x6.Price))
    (recl5 (l5_1,wi (l5_2+1),l5_3))) fun e9=>some (.error (e9,(⟨a0e.Claim,(⟨a0e.follows.From,a0e.follows.To,a0e.follows.End,[]⟩:GSs),(⟨[],a0e.bill.Net,a0e.bill.Tax,a0e.bill.Total⟩:GBill),l5_3⟩:GAE)))))
  (g_ae_tariffed_j2 n a0e l5_1 l5_3)
def g_ae_tariffed_j1 (n:Nat) (a0e:GAE):Option (Except (Int × GAE) GAE) :=
 loopN (fun recl5 (l5_1,l5_2,l5_3)=>g_ae_tariffed_l5 n a0e recl5 l5_1 l5_2 l5_3) n (0,0,a0e.rate)
def g_ae_tariffed (n:Nat) (a0e:GAE):Option (Except (Int × GAE) GAE) :=
 (g_a_isName n a0e.Claim.Tariff.Name).bind fun r10 =>
 cond r10
  ((g_a_need n (leI (lenI (List.map GAr.cs a0e.Claim.Tariff.Articles)) 12) 2).bind (exc (fun r12 =>
   g_ae_tariffed_j1 n a0e) fun e13=>some (.error (e13,(⟨a0e.Claim,(⟨a0e.follows.From,a0e.follows.To,a0e.follows.End,[]⟩:GSs),(⟨[],a0e.bill.Net,a0e.bill.Tax,a0e.bill.Total⟩:GBill),a0e.rate⟩:GAE)))))
  ((g_a_need n false 2).bind (exc (fun r14 =>
   g_ae_tariffed_j1 n a0e) fun e15=>some (.error (e15,(⟨a0e.Claim,(⟨a0e.follows.From,a0e.follows.To,a0e.follows.End,[]⟩:GSs),(⟨[],a0e.bill.Net,a0e.bill.Tax,a0e.bill.Total⟩:GBill),a0e.rate⟩:GAE)))))
theorem g_ae_tariffed_ok (n:Nat) (a0e:GAE):∀ r,g_ae_tariffed n a0e=some r→ACall Tryz.prog 42 [.ptr 1000 0] (Go.Abs.look [(1000, .box 67 (List.set (List.set (bxc (GAE.cs ⟨a0e.Claim,(⟨a0e.follows.From,a0e.follows.To,a0e.follows.End,[]⟩:GSs),(⟨[],a0e.bill.Net,a0e.bill.Tax,a0e.bill.Total⟩:GBill),a0e.rate⟩)) 18 (zS)) 19 (zS)))]) (heapR (excX (fun r:GAE=>((.ret (.tup []),[(1000, .box 67 (List.set (List.set (bxc (GAE.cs ⟨r.Claim,(⟨r.follows.From,r.follows.To,r.follows.End,[]⟩:GSs),(⟨[],r.bill.Net,r.bill.Tax,r.bill.Total⟩:GBill),r.rate⟩)) 18 (zS)) 19 (zS)))]):AEnd × List (Nat × Blk))) (fun e:Int × GAE=>((.panic (.ifc 128 (.agg [I e.1])),[(1000, .box 67 (List.set (List.set (bxc (GAE.cs ⟨e.2.Claim,(⟨e.2.follows.From,e.2.follows.To,e.2.follows.End,[]⟩:GSs),(⟨[],e.2.bill.Net,e.2.bill.Tax,e.2.bill.Total⟩:GBill),e.2.rate⟩)) 18 (zS)) 19 (zS)))]):AEnd × List (Nat × Blk)))) r):=by
 refine acall_sim (X:=excX (fun r:GAE=>((.ret (.tup []),[(1000, .box 67 (List.set (List.set (bxc (GAE.cs ⟨r.Claim,(⟨r.follows.From,r.follows.To,r.follows.End,[]⟩:GSs),(⟨[],r.bill.Net,r.bill.Tax,r.bill.Total⟩:GBill),r.rate⟩)) 18 (zS)) 19 (zS)))]):AEnd × List (Nat × Blk))) (fun e:Int × GAE=>((.panic (.ifc 128 (.agg [I e.1])),[(1000, .box 67 (List.set (List.set (bxc (GAE.cs ⟨e.2.Claim,(⟨e.2.follows.From,e.2.follows.To,e.2.follows.End,[]⟩:GSs),(⟨[],e.2.bill.Net,e.2.bill.Tax,e.2.bill.Total⟩:GBill),e.2.rate⟩)) 18 (zS)) 19 (zS)))]):AEnd × List (Nat × Blk)))) [(1000, .box 67 (List.set (List.set (bxc (GAE.cs ⟨a0e.Claim,(⟨a0e.follows.From,a0e.follows.To,a0e.follows.End,[]⟩:GSs),(⟨[],a0e.bill.Net,a0e.bill.Tax,a0e.bill.Total⟩:GBill),a0e.rate⟩)) 18 (zS)) 19 (zS)))] Tryz.func42 rfl Tryz.ntmps42 rfl ?_
 unfold g_ae_tariffed
 refine sim_cps (fun _=>⟨[(0, .ptr 1000 0),(5, .ptr 1000 0)],[(1000, .box 67 (List.set (List.set (bxc (GAE.cs ⟨a0e.Claim,(⟨a0e.follows.From,a0e.follows.To,a0e.follows.End,[]⟩:GSs),(⟨[],a0e.bill.Net,a0e.bill.Tax,a0e.bill.Total⟩:GBill),a0e.rate⟩)) 18 (zS)) 19 (zS)))]⟩:Unit→St) (fun _=>g_ae_tariffed_j1 n a0e) ?_ ?_
 ·rintro _
  show SimE (g_ae_tariffed_j1 n a0e) _ _ _ _ _ _
  unfold g_ae_tariffed_j1
  refine sR tfm ⟨[0,2,5],[1000],[],[]⟩ ⟨[(0, .ptr 1000 0),(2,I 0),(5, .ptr 1000 0)],[(1000, .box 67 (List.set (List.set (bxc (GAE.cs ⟨a0e.Claim,(⟨a0e.follows.From,a0e.follows.To,a0e.follows.End,[]⟩:GSs),(⟨[],a0e.bill.Net,a0e.bill.Tax,a0e.bill.Total⟩:GBill),a0e.rate⟩)) 18 (zS)) 19 (zS)))]⟩ krf (sim_cps (fun (j2_1,j2_2)=>⟨[(2,I j2_1),(5, .ptr 1000 0)],[(1000, .box 67 (List.set (List.set (bxc (GAE.cs ⟨a0e.Claim,(⟨a0e.follows.From,a0e.follows.To,a0e.follows.End,[]⟩:GSs),(⟨[],a0e.bill.Net,a0e.bill.Tax,a0e.bill.Total⟩:GBill),j2_2⟩)) 18 (zS)) 19 (zS)))]⟩:(Int × Int)→St) (fun (j2_1,j2_2)=>g_ae_tariffed_j2 n a0e j2_1 j2_2) ?_ ?_)
  ·rintro ⟨j2_1,j2_2⟩
   show SimE (g_ae_tariffed_j2 n a0e j2_1 j2_2) _ _ _ _ _ _
   unfold g_ae_tariffed_j2
   refine sG (xR 2 krf ?_)
   refine xs_exc [] krf (g_a_need_ok n (leI j2_1 1) 2) krf krf (fun _=>by kernel_rfl) (fun _=>by kernel_rfl) (fun r3=>?_) (fun e4=>?_)
   ·refine xE ?_
    exact hq_n (.id) [1000] [] krf krf krf krf
   ·exact hq_p [1000] [] krf krf krf
  ·refine sR tfm ⟨[0,2,5,28,29,30],[1000],[],[]⟩ ⟨[(0, .ptr 1000 0),(2,I 0),(5, .ptr 1000 0),(28, .p (.sl 7 (mAr a0e.Claim.Tariff.Articles))),(29,I (lenI (mAr a0e.Claim.Tariff.Articles))),(30,I 0)],[(1000, .box 67 (List.set (List.set (bxc (GAE.cs ⟨a0e.Claim,(⟨a0e.follows.From,a0e.follows.To,a0e.follows.End,[]⟩:GSs),(⟨[],a0e.bill.Net,a0e.bill.Tax,a0e.bill.Total⟩:GBill),a0e.rate⟩)) 18 (zS)) 19 (zS)))]⟩ krf (sB (sim_loop (fun (l5_1,l5_2,l5_3)=>⟨[(0, .ptr 1000 0),(2,I l5_1),(5, .ptr 1000 0),(28, .p (.sl 7 (mAr a0e.Claim.Tariff.Articles))),(29,I (lenI (mAr a0e.Claim.Tariff.Articles))),(30,I l5_2)],[(1000, .box 67 (List.set (List.set (bxc (GAE.cs ⟨a0e.Claim,(⟨a0e.follows.From,a0e.follows.To,a0e.follows.End,[]⟩:GSs),(⟨[],a0e.bill.Net,a0e.bill.Tax,a0e.bill.Total⟩:GBill),l5_3⟩)) 18 (zS)) 19 (zS)))]⟩:(Int × Int × Int)→St) (weak_shr (K:=⟨[0,2,5,28,29,30],[1000],[],[]⟩) krf) ?_))
   rintro recl5 ⟨l5_1,l5_2,l5_3⟩
   show SimE (g_ae_tariffed_l5 n a0e recl5 l5_1 l5_2 l5_3) _ _ _ _ _ _
   unfold g_ae_tariffed_l5
   refine sR tfm ⟨[0,2,5,28,29,30,31],[1000],[],[]⟩ ⟨[(0, .ptr 1000 0),(2,I l5_1),(5, .ptr 1000 0),(28, .p (.sl 7 (mAr a0e.Claim.Tariff.Articles))),(29,I (lenI (mAr a0e.Claim.Tariff.Articles))),(30,I l5_2),(31,B (ltI l5_2 (lenI (mAr a0e.Claim.Tariff.Articles))))],[(1000, .box 67 (List.set (List.set (bxc (GAE.cs ⟨a0e.Claim,(⟨a0e.follows.From,a0e.follows.To,a0e.follows.End,[]⟩:GSs),(⟨[],a0e.bill.Net,a0e.bill.Tax,a0e.bill.Total⟩:GBill),l5_3⟩)) 18 (zS)) 19 (zS)))]⟩ krf (sS (sC (ltI l5_2 (lenI (mAr a0e.Claim.Tariff.Articles))) krf ?_ ?_))
   ·refine sK (sN ⟨[0,2,5,28,29,30],[1000],[],[]⟩ ⟨[(0, .ptr 1000 0),(2,I l5_1),(5, .ptr 1000 0),(28, .p (.sl 7 (mAr a0e.Claim.Tariff.Articles))),(29,I (lenI (mAr a0e.Claim.Tariff.Articles))),(30,I l5_2)],[(1000, .box 67 (List.set (List.set (bxc (GAE.cs ⟨a0e.Claim,(⟨a0e.follows.From,a0e.follows.To,a0e.follows.End,[]⟩:GSs),(⟨[],a0e.bill.Net,a0e.bill.Tax,a0e.bill.Total⟩:GBill),l5_3⟩)) 18 (zS)) 19 (zS)))]⟩ krf (sS (sB (sS (sG ?_)))))
    refine xG krf krf (aop_idx (e:=73) (S:=7) (enc:=GAr.cs) (l:=a0e.Claim.Tariff.Articles) (k:=.i64) (n:=l5_2) (sv:=.p (.sl 7 (mAr a0e.Claim.Tariff.Articles))) rfl krf krf krf krf krf) (fun x6=>?_)
    refine xR 3 krf (xE (sN ⟨[0,2,4,5,28,29,30],[4,1000],[],[]⟩ ⟨[(0, .ptr 1000 0),(2,I l5_1),(4, .ptr 4 0),(5, .ptr 1000 0),(28, .p (.sl 7 (mAr a0e.Claim.Tariff.Articles))),(29,I (lenI (mAr a0e.Claim.Tariff.Articles))),(30,I l5_2)],[(4, .box 73 (bxc (GAr.cs x6))),(1000, .box 67 (List.set (List.set (bxc (GAE.cs ⟨a0e.Claim,(⟨a0e.follows.From,a0e.follows.To,a0e.follows.End,[]⟩:GSs),(⟨[],a0e.bill.Net,a0e.bill.Tax,a0e.bill.Total⟩:GBill),l5_3⟩)) 18 (zS)) 19 (zS)))]⟩ krf (sS (sG (xR 1 krf ?_)))))
    refine xC [] krf (g_a_validArticle_ok n x6) krf krf (fun _=>by kernel_rfl) (fun r7=>?_)
    refine xs_exc [] krf (g_a_need_ok n r7 2) krf krf (fun _=>by kernel_rfl) (fun _=>by kernel_rfl) (fun r8=>?_) (fun e9=>?_)
    ·refine xE (sN ⟨[0,2,4,5,28,29,30],[4,1000],[],[]⟩ ⟨[(0, .ptr 1000 0),(2,I l5_1),(4, .ptr 4 0),(5, .ptr 1000 0),(28, .p (.sl 7 (mAr a0e.Claim.Tariff.Articles))),(29,I (lenI (mAr a0e.Claim.Tariff.Articles))),(30,I l5_2)],[(4, .box 73 (bxc (GAr.cs x6))),(1000, .box 67 (List.set (List.set (bxc (GAE.cs ⟨a0e.Claim,(⟨a0e.follows.From,a0e.follows.To,a0e.follows.End,[]⟩:GSs),(⟨[],a0e.bill.Net,a0e.bill.Tax,a0e.bill.Total⟩:GBill),l5_3⟩)) 18 (zS)) 19 (zS)))]⟩ krf (sR tfm ⟨[0,2,4,5,28,29,30,39],[4,1000],[],[]⟩ ⟨[(0, .ptr 1000 0),(2,I l5_1),(4, .ptr 4 0),(5, .ptr 1000 0),(28, .p (.sl 7 (mAr a0e.Claim.Tariff.Articles))),(29,I (lenI (mAr a0e.Claim.Tariff.Articles))),(30,I l5_2),(39,B (eqI x6.Kind 6))],[(4, .box 73 (bxc (GAr.cs x6))),(1000, .box 67 (List.set (List.set (bxc (GAE.cs ⟨a0e.Claim,(⟨a0e.follows.From,a0e.follows.To,a0e.follows.End,[]⟩:GSs),(⟨[],a0e.bill.Net,a0e.bill.Tax,a0e.bill.Total⟩:GBill),l5_3⟩)) 18 (zS)) 19 (zS)))]⟩ krf (sC (eqI x6.Kind 6) krf ?_ ?_)))
     ·refine sR tfm ⟨[0,2,4,5,28,29,30],[4,1000],[],[]⟩ ⟨[(0, .ptr 1000 0),(2,I (wi (l5_1+1))),(4, .ptr 4 0),(5, .ptr 1000 0),(28, .p (.sl 7 (mAr a0e.Claim.Tariff.Articles))),(29,I (lenI (mAr a0e.Claim.Tariff.Articles))),(30,I l5_2)],[(4, .box 73 (bxc (GAr.cs x6))),(1000, .box 67 (List.set (List.set (bxc (GAE.cs ⟨a0e.Claim,(⟨a0e.follows.From,a0e.follows.To,a0e.follows.End,[]⟩:GSs),(⟨[],a0e.bill.Net,a0e.bill.Tax,a0e.bill.Total⟩:GBill),l5_3⟩)) 18 (zS)) 19 (zS)))]⟩ krf (sL tfm krf (bq_n (sN ⟨[0,2,4,5,28,29,30],[4,1000],[],[]⟩ ⟨[(0, .ptr 1000 0),(2,I (wi (l5_1+1))),(4, .ptr 4 0),(5, .ptr 1000 0),(28, .p (.sl 7 (mAr a0e.Claim.Tariff.Articles))),(29,I (lenI (mAr a0e.Claim.Tariff.Articles))),(30,I l5_2)],[(4, .box 73 (bxc (GAr.cs x6))),(1000, .box 67 (List.set (List.set (bxc (GAE.cs ⟨a0e.Claim,(⟨a0e.follows.From,a0e.follows.To,a0e.follows.End,[]⟩:GSs),(⟨[],a0e.bill.Net,a0e.bill.Tax,a0e.bill.Total⟩:GBill),x6.Price⟩)) 18 (zS)) 19 (zS)))]⟩ krf (sL tfm krf ?_))))
      exact kq_n (wi (l5_1+1),wi (l5_2+1),x6.Price) ⟨[0,2,5,28,29,30],[1000],[],[]⟩ krf
     ·refine sK (bq_n (sN ⟨[0,2,4,5,28,29,30],[4,1000],[],[]⟩ ⟨[(0, .ptr 1000 0),(2,I l5_1),(4, .ptr 4 0),(5, .ptr 1000 0),(28, .p (.sl 7 (mAr a0e.Claim.Tariff.Articles))),(29,I (lenI (mAr a0e.Claim.Tariff.Articles))),(30,I l5_2)],[(4, .box 73 (bxc (GAr.cs x6))),(1000, .box 67 (List.set (List.set (bxc (GAE.cs ⟨a0e.Claim,(⟨a0e.follows.From,a0e.follows.To,a0e.follows.End,[]⟩:GSs),(⟨[],a0e.bill.Net,a0e.bill.Tax,a0e.bill.Total⟩:GBill),l5_3⟩)) 18 (zS)) 19 (zS)))]⟩ krf (sL tfm krf ?_)))
      exact kq_n (l5_1,wi (l5_2+1),l5_3) ⟨[0,2,5,28,29,30],[1000],[],[]⟩ krf
    ·refine sq_p (bq_p (sq_p (kq_p (bq_p (kq_p ?_)))))
     exact hq_p [1000] [] krf krf krf
   ·refine sim_exit (sq_x (kq_x (bq_hit ?_)))
    exact kq_n (k:=fun (j2_1,j2_2)=>g_ae_tariffed_j2 n a0e j2_1 j2_2) (l5_1,l5_3) ⟨[2,5],[1000],[],[]⟩ krf
 ·refine sG (xR 6 krf ?_)
  refine xC [] krf (g_a_isName_ok n a0e.Claim.Tariff.Name) krf krf (fun _=>by kernel_rfl) (fun r10=>?_)
  refine xR 1 krf ?_
  refine xS r10 (fun h11=>?_) (fun h11=>?_)
  ·refine xO (want_tt krf h11) krf (xR 8 krf ?_)
   refine xs_exc [] krf (g_a_need_ok n (leI (lenI (mAr a0e.Claim.Tariff.Articles)) 12) 2) krf krf (fun _=>by kernel_rfl) (fun _=>by kernel_rfl) (fun r12=>?_) (fun e13=>?_)
   ·refine xE ?_
    exact kq_n (k:=fun _=>g_ae_tariffed_j1 n a0e) () ⟨[0,5],[1000],[],[]⟩ krf
   ·refine kq_p ?_
    exact hq_p [1000] [] krf krf krf
  ·refine xN (want_tf krf h11) krf (xR 8 krf ?_)
   refine xs_exc [] krf (g_a_need_ok n false 2) krf krf (fun _=>by kernel_rfl) (fun _=>by kernel_rfl) (fun r14=>?_) (fun e15=>?_)
   ·refine xE ?_
    exact kq_n (k:=fun _=>g_ae_tariffed_j1 n a0e) () ⟨[0,5],[1000],[],[]⟩ krf
   ·refine kq_p ?_
    exact hq_p [1000] [] krf krf krf
def g_ae_dated_l6 (n:Nat) (a0e:GAE) (recl6:(Int × Int)→Option (Except Int Unit)) (l6_1:Int) (l6_2:Int):Option (Except Int Unit) :=
 cond (ltI l6_2 (lenI (List.map ci a0e.Claim.Calendar.Holidays)))
  ((getI a0e.Claim.Calendar.Holidays l6_2).bind fun x7 =>
  cond (ltI l6_1 x7)
   ((g_a_need n (leI x7 36500) 2).bind (exc (fun r9 =>
    recl6 (x7,wi (l6_2+1))) fun e10=>some (.error e10)))
   ((g_a_need n false 2).bind (exc (fun r11 =>
    recl6 (x7,wi (l6_2+1))) fun e12=>some (.error e12))))
  (some (.ok ()))
def g_ae_dated_j5 (n:Nat) (a0e:GAE):Option (Except Int Unit) :=
 loopN (fun recl6 (l6_1,l6_2)=>g_ae_dated_l6 n a0e recl6 l6_1 l6_2) n ((-1),0)
def g_ae_dated_l13 (n:Nat) (a0e:GAE) (recl13:(Int × Int)→Option (Except Int Unit)) (l13_1:Int) (l13_2:Int):Option (Except Int Unit) :=
 cond (ltI l13_2 (lenI (List.map GCh.cs a0e.Claim.Calendar.Changes)))
  ((getI a0e.Claim.Calendar.Changes l13_2).bind fun x14 =>
  cond (ltI l13_1 x14.At)
   (cond (leI x14.At 52560000)
    ((g_a_inside n x14.Offset (-1440) 1440).bind fun r17 =>
    (g_a_need n r17 2).bind (exc (fun r18 =>
     recl13 (x14.At,wi (l13_2+1))) fun e19=>some (.error e19)))
    ((g_a_need n false 2).bind (exc (fun r20 =>
     recl13 (x14.At,wi (l13_2+1))) fun e21=>some (.error e21))))
   ((g_a_need n false 2).bind (exc (fun r22 =>
    recl13 (x14.At,wi (l13_2+1))) fun e23=>some (.error e23))))
  (g_ae_dated_j5 n a0e)
def g_ae_dated_j4 (n:Nat) (a0e:GAE):Option (Except Int Unit) :=
 loopN (fun recl13 (l13_1,l13_2)=>g_ae_dated_l13 n a0e recl13 l13_1 l13_2) n ((-1),0)
def g_ae_dated (n:Nat) (a0e:GAE):Option (Except Int Unit) :=
 (g_a_inside n a0e.Claim.Calendar.Offset (-1440) 1440).bind fun r1 =>
 (g_a_need n r1 2).bind (exc (fun r2 =>
  cond (leI (lenI (List.map GCh.cs a0e.Claim.Calendar.Changes)) 16)
   ((g_a_need n (leI (lenI (List.map ci a0e.Claim.Calendar.Holidays)) 32) 2).bind (exc (fun r25 =>
    g_ae_dated_j4 n a0e) fun e26=>some (.error e26)))
   ((g_a_need n false 2).bind (exc (fun r27 =>
    g_ae_dated_j4 n a0e) fun e28=>some (.error e28)))) fun e3=>some (.error e3))
theorem g_ae_dated_ok (n:Nat) (a0e:GAE):∀ r,g_ae_dated n a0e=some r→PCall Tryz.prog 43 [.eptr (GAE.cs a0e)] (excE (fun r:Unit=>(.tup []:AV)) (fun e:Int=>(.ifc 128 (.agg [I e]):AV)) r):=by
 refine pcall_sim (X:=excE (fun r:Unit=>(.tup []:AV)) (fun e:Int=>(.ifc 128 (.agg [I e]):AV))) Tryz.func43 rfl Tryz.ntmps43 rfl ?_
 unfold g_ae_dated
 refine sR tfm ⟨[2],[2],[],[]⟩ ⟨[(2, .ptr 2 0)],[(2, .box 28 (bxc (GCl.cs a0e.Claim.Calendar)))]⟩ krf (sS (sG (xR 2 krf ?_)))
 refine xC [] krf (g_a_inside_ok n a0e.Claim.Calendar.Offset (-1440) 1440) krf krf (fun _=>by kernel_rfl) (fun r1=>?_)
 refine xs_exc [] krf (g_a_need_ok n r1 2) krf krf (fun _=>by kernel_rfl) (fun _=>by kernel_rfl) (fun r2=>?_) (fun e3=>?_)
 ·refine xE (sN ⟨[2],[2],[],[]⟩ ⟨[(2, .ptr 2 0)],[(2, .box 28 (bxc (GCl.cs a0e.Claim.Calendar)))]⟩ krf (sim_cps (fun _=>⟨[(2, .ptr 2 0)],[(2, .box 28 (bxc (GCl.cs a0e.Claim.Calendar)))]⟩:Unit→St) (fun _=>g_ae_dated_j4 n a0e) ?_ ?_))
  ·rintro _
   show SimE (g_ae_dated_j4 n a0e) _ _ _ _ _ _
   unfold g_ae_dated_j4
   refine sR tfm ⟨[2,3],[2],[],[]⟩ ⟨[(2, .ptr 2 0),(3,I (-1))],[(2, .box 28 (bxc (GCl.cs a0e.Claim.Calendar)))]⟩ krf (sim_cps (fun _=>⟨[(2, .ptr 2 0)],[(2, .box 28 (bxc (GCl.cs a0e.Claim.Calendar)))]⟩:Unit→St) (fun _=>g_ae_dated_j5 n a0e) ?_ ?_)
   ·rintro _
    show SimE (g_ae_dated_j5 n a0e) _ _ _ _ _ _
    unfold g_ae_dated_j5
    refine sR tfm ⟨[2,3],[2],[],[]⟩ ⟨[(2, .ptr 2 0),(3,I (-1))],[(2, .box 28 (bxc (GCl.cs a0e.Claim.Calendar)))]⟩ krf (sR tfm ⟨[3,54,55,56],[],[],[]⟩ ⟨[(3,I (-1)),(54, .p (.sl 1 (List.map ci a0e.Claim.Calendar.Holidays))),(55,I (lenI (List.map ci a0e.Claim.Calendar.Holidays))),(56,I 0)],[]⟩ krf (sB (sim_loop (fun (l6_1,l6_2)=>⟨[(3,I l6_1),(54, .p (.sl 1 (List.map ci a0e.Claim.Calendar.Holidays))),(55,I (lenI (List.map ci a0e.Claim.Calendar.Holidays))),(56,I l6_2)],[]⟩:(Int × Int)→St) (weak_shr (K:=⟨[3,54,55,56],[],[],[]⟩) krf) ?_)))
    rintro recl6 ⟨l6_1,l6_2⟩
    show SimE (g_ae_dated_l6 n a0e recl6 l6_1 l6_2) _ _ _ _ _ _
    unfold g_ae_dated_l6
    refine sR tfm ⟨[3,54,55,56,57],[],[],[]⟩ ⟨[(3,I l6_1),(54, .p (.sl 1 (List.map ci a0e.Claim.Calendar.Holidays))),(55,I (lenI (List.map ci a0e.Claim.Calendar.Holidays))),(56,I l6_2),(57,B (ltI l6_2 (lenI (List.map ci a0e.Claim.Calendar.Holidays))))],[]⟩ krf (sS (sC (ltI l6_2 (lenI (List.map ci a0e.Claim.Calendar.Holidays))) krf ?_ ?_))
    ·refine sK (sN ⟨[3,54,55,56],[],[],[]⟩ ⟨[(3,I l6_1),(54, .p (.sl 1 (List.map ci a0e.Claim.Calendar.Holidays))),(55,I (lenI (List.map ci a0e.Claim.Calendar.Holidays))),(56,I l6_2)],[]⟩ krf (sS (sB (sS (sG ?_)))))
     refine xG krf krf (aop_idx (e:=3) (S:=1) (enc:=ci) (l:=a0e.Claim.Calendar.Holidays) (k:=.i64) (n:=l6_2) (sv:=.p (.sl 1 (List.map ci a0e.Claim.Calendar.Holidays))) rfl krf krf krf krf krf) (fun x7=>?_)
     refine xR 2 krf (xE (sN ⟨[3,7,54,55,56],[],[],[]⟩ ⟨[(3,I l6_1),(7,I x7),(54, .p (.sl 1 (List.map ci a0e.Claim.Calendar.Holidays))),(55,I (lenI (List.map ci a0e.Claim.Calendar.Holidays))),(56,I l6_2)],[]⟩ krf (sS (sG (xR 4 krf ?_)))))
     refine xS (ltI l6_1 x7) (fun h8=>?_) (fun h8=>?_)
     ·refine xO (want_tt krf h8) krf (xR 2 krf ?_)
      refine xs_exc [] krf (g_a_need_ok n (leI x7 36500) 2) krf krf (fun _=>by kernel_rfl) (fun _=>by kernel_rfl) (fun r9=>?_) (fun e10=>?_)
      ·refine xE (sN ⟨[7,54,55,56,64,65],[],[],[]⟩ ⟨[(7,I x7),(54, .p (.sl 1 (List.map ci a0e.Claim.Calendar.Holidays))),(55,I (lenI (List.map ci a0e.Claim.Calendar.Holidays))),(56,I l6_2),(64,I x7),(65,B (leI x7 36500))],[]⟩ krf (sL tfm krf (bq_n (sN ⟨[3,54,55,56,64,65],[],[],[]⟩ ⟨[(3,I x7),(54, .p (.sl 1 (List.map ci a0e.Claim.Calendar.Holidays))),(55,I (lenI (List.map ci a0e.Claim.Calendar.Holidays))),(56,I l6_2),(64,I x7),(65,B (leI x7 36500))],[]⟩ krf (sL tfm krf ?_)))))
       exact kq_n (x7,wi (l6_2+1)) ⟨[3,54,55,56],[],[],[]⟩ krf
      ·refine sq_p (bq_p (sq_p (kq_p (bq_p ?_))))
       exact rq_p krf krf
     ·refine xN (want_tf krf h8) krf (xR 2 krf ?_)
      refine xs_exc [] krf (g_a_need_ok n false 2) krf krf (fun _=>by kernel_rfl) (fun _=>by kernel_rfl) (fun r11=>?_) (fun e12=>?_)
      ·refine xE (sN ⟨[7,54,55,56],[],[],[]⟩ ⟨[(7,I x7),(54, .p (.sl 1 (List.map ci a0e.Claim.Calendar.Holidays))),(55,I (lenI (List.map ci a0e.Claim.Calendar.Holidays))),(56,I l6_2)],[]⟩ krf (sL tfm krf (bq_n (sN ⟨[3,54,55,56],[],[],[]⟩ ⟨[(3,I x7),(54, .p (.sl 1 (List.map ci a0e.Claim.Calendar.Holidays))),(55,I (lenI (List.map ci a0e.Claim.Calendar.Holidays))),(56,I l6_2)],[]⟩ krf (sL tfm krf ?_)))))
       exact kq_n (x7,wi (l6_2+1)) ⟨[3,54,55,56],[],[],[]⟩ krf
      ·refine sq_p (bq_p (sq_p (kq_p (bq_p ?_))))
       exact rq_p krf krf
    ·refine sim_exit (sq_x (kq_x (bq_hit ?_)))
     exact rq_n (.id) krf krf krf
   ·refine sR tfm ⟨[2,3,29,30,31],[2],[],[]⟩ ⟨[(2, .ptr 2 0),(3,I (-1)),(29, .p (.sl 2 (mCh a0e.Claim.Calendar.Changes))),(30,I (lenI (mCh a0e.Claim.Calendar.Changes))),(31,I 0)],[(2, .box 28 (bxc (GCl.cs a0e.Claim.Calendar)))]⟩ krf (sB (sim_loop (fun (l13_1,l13_2)=>⟨[(2, .ptr 2 0),(3,I l13_1),(29, .p (.sl 2 (mCh a0e.Claim.Calendar.Changes))),(30,I (lenI (mCh a0e.Claim.Calendar.Changes))),(31,I l13_2)],[(2, .box 28 (bxc (GCl.cs a0e.Claim.Calendar)))]⟩:(Int × Int)→St) (weak_shr (K:=⟨[2,3,29,30,31],[2],[],[]⟩) krf) ?_))
    rintro recl13 ⟨l13_1,l13_2⟩
    show SimE (g_ae_dated_l13 n a0e recl13 l13_1 l13_2) _ _ _ _ _ _
    unfold g_ae_dated_l13
    refine sR tfm ⟨[2,3,29,30,31,32],[2],[],[]⟩ ⟨[(2, .ptr 2 0),(3,I l13_1),(29, .p (.sl 2 (mCh a0e.Claim.Calendar.Changes))),(30,I (lenI (mCh a0e.Claim.Calendar.Changes))),(31,I l13_2),(32,B (ltI l13_2 (lenI (mCh a0e.Claim.Calendar.Changes))))],[(2, .box 28 (bxc (GCl.cs a0e.Claim.Calendar)))]⟩ krf (sS (sC (ltI l13_2 (lenI (mCh a0e.Claim.Calendar.Changes))) krf ?_ ?_))
    ·refine sK (sN ⟨[2,3,29,30,31],[2],[],[]⟩ ⟨[(2, .ptr 2 0),(3,I l13_1),(29, .p (.sl 2 (mCh a0e.Claim.Calendar.Changes))),(30,I (lenI (mCh a0e.Claim.Calendar.Changes))),(31,I l13_2)],[(2, .box 28 (bxc (GCl.cs a0e.Claim.Calendar)))]⟩ krf (sS (sB (sS (sG ?_)))))
     refine xG krf krf (aop_idx (e:=76) (S:=2) (enc:=GCh.cs) (l:=a0e.Claim.Calendar.Changes) (k:=.i64) (n:=l13_2) (sv:=.p (.sl 2 (mCh a0e.Claim.Calendar.Changes))) rfl krf krf krf krf krf) (fun x14=>?_)
     refine xR 3 krf (xE (sN ⟨[2,3,5,29,30,31],[2,5],[],[]⟩ ⟨[(2, .ptr 2 0),(3,I l13_1),(5, .ptr 5 0),(29, .p (.sl 2 (mCh a0e.Claim.Calendar.Changes))),(30,I (lenI (mCh a0e.Claim.Calendar.Changes))),(31,I l13_2)],[(2, .box 28 (bxc (GCl.cs a0e.Claim.Calendar))),(5, .box 76 (bxc (GCh.cs x14)))]⟩ krf (sS (sG (xR 5 krf ?_)))))
     refine xS (ltI l13_1 x14.At) (fun h15=>?_) (fun h15=>?_)
     ·refine xO (want_tt krf h15) krf (xR 4 krf ?_)
      refine xS (leI x14.At 52560000) (fun h16=>?_) (fun h16=>?_)
      ·refine xO (want_tt krf h16) krf (xR 1 krf ?_)
       refine xC [] krf (g_a_inside_ok n x14.Offset (-1440) 1440) krf krf (fun _=>by kernel_rfl) (fun r17=>?_)
       refine xR 1 krf ?_
       refine xs_exc [] krf (g_a_need_ok n r17 2) krf krf (fun _=>by kernel_rfl) (fun _=>by kernel_rfl) (fun r18=>?_) (fun e19=>?_)
       ·refine xE (sN ⟨[2,5,29,30,31,40,41,42,45,46,47],[2,5],[],[]⟩ ⟨[(2, .ptr 2 0),(5, .ptr 5 0),(29, .p (.sl 2 (mCh a0e.Claim.Calendar.Changes))),(30,I (lenI (mCh a0e.Claim.Calendar.Changes))),(31,I l13_2),(40, .ptr 5 0),(41,I x14.At),(42,B (leI x14.At 52560000)),(45, .ptr 5 1),(46,I x14.Offset),(47,B r17)],[(2, .box 28 (bxc (GCl.cs a0e.Claim.Calendar))),(5, .box 76 (bxc (GCh.cs x14)))]⟩ krf (sL tfm krf (bq_n (sN ⟨[2,3,5,29,30,31,40,41,42,45,46,47],[2,5],[],[]⟩ ⟨[(2, .ptr 2 0),(3,I x14.At),(5, .ptr 5 0),(29, .p (.sl 2 (mCh a0e.Claim.Calendar.Changes))),(30,I (lenI (mCh a0e.Claim.Calendar.Changes))),(31,I l13_2),(40, .ptr 5 0),(41,I x14.At),(42,B (leI x14.At 52560000)),(45, .ptr 5 1),(46,I x14.Offset),(47,B r17)],[(2, .box 28 (bxc (GCl.cs a0e.Claim.Calendar))),(5, .box 76 (bxc (GCh.cs x14)))]⟩ krf (sL tfm krf ?_)))))
        exact kq_n (x14.At,wi (l13_2+1)) ⟨[2,3,29,30,31],[2],[],[]⟩ krf
       ·refine sq_p (bq_p (sq_p (kq_p (bq_p (kq_p ?_)))))
        exact rq_p krf krf
      ·refine xN (want_tf krf h16) krf (xR 3 krf ?_)
       refine xs_exc [] krf (g_a_need_ok n false 2) krf krf (fun _=>by kernel_rfl) (fun _=>by kernel_rfl) (fun r20=>?_) (fun e21=>?_)
       ·refine xE (sN ⟨[2,5,29,30,31,40,41,42],[2,5],[],[]⟩ ⟨[(2, .ptr 2 0),(5, .ptr 5 0),(29, .p (.sl 2 (mCh a0e.Claim.Calendar.Changes))),(30,I (lenI (mCh a0e.Claim.Calendar.Changes))),(31,I l13_2),(40, .ptr 5 0),(41,I x14.At),(42,B (leI x14.At 52560000))],[(2, .box 28 (bxc (GCl.cs a0e.Claim.Calendar))),(5, .box 76 (bxc (GCh.cs x14)))]⟩ krf (sL tfm krf (bq_n (sN ⟨[2,3,5,29,30,31,40,41,42],[2,5],[],[]⟩ ⟨[(2, .ptr 2 0),(3,I x14.At),(5, .ptr 5 0),(29, .p (.sl 2 (mCh a0e.Claim.Calendar.Changes))),(30,I (lenI (mCh a0e.Claim.Calendar.Changes))),(31,I l13_2),(40, .ptr 5 0),(41,I x14.At),(42,B (leI x14.At 52560000))],[(2, .box 28 (bxc (GCl.cs a0e.Claim.Calendar))),(5, .box 76 (bxc (GCh.cs x14)))]⟩ krf (sL tfm krf ?_)))))
        exact kq_n (x14.At,wi (l13_2+1)) ⟨[2,3,29,30,31],[2],[],[]⟩ krf
       ·refine sq_p (bq_p (sq_p (kq_p (bq_p (kq_p ?_)))))
        exact rq_p krf krf
     ·refine xN (want_tf krf h15) krf (xR 8 krf ?_)
      refine xs_exc [] krf (g_a_need_ok n false 2) krf krf (fun _=>by kernel_rfl) (fun _=>by kernel_rfl) (fun r22=>?_) (fun e23=>?_)
      ·refine xE (sN ⟨[2,5,29,30,31],[2,5],[],[]⟩ ⟨[(2, .ptr 2 0),(5, .ptr 5 0),(29, .p (.sl 2 (mCh a0e.Claim.Calendar.Changes))),(30,I (lenI (mCh a0e.Claim.Calendar.Changes))),(31,I l13_2)],[(2, .box 28 (bxc (GCl.cs a0e.Claim.Calendar))),(5, .box 76 (bxc (GCh.cs x14)))]⟩ krf (sL tfm krf (bq_n (sN ⟨[2,3,5,29,30,31],[2,5],[],[]⟩ ⟨[(2, .ptr 2 0),(3,I x14.At),(5, .ptr 5 0),(29, .p (.sl 2 (mCh a0e.Claim.Calendar.Changes))),(30,I (lenI (mCh a0e.Claim.Calendar.Changes))),(31,I l13_2)],[(2, .box 28 (bxc (GCl.cs a0e.Claim.Calendar))),(5, .box 76 (bxc (GCh.cs x14)))]⟩ krf (sL tfm krf ?_)))))
       exact kq_n (x14.At,wi (l13_2+1)) ⟨[2,3,29,30,31],[2],[],[]⟩ krf
      ·refine sq_p (bq_p (sq_p (kq_p (bq_p (kq_p ?_)))))
       exact rq_p krf krf
    ·refine sim_exit (sq_x (kq_x (bq_hit ?_)))
     exact kq_n (k:=fun _=>g_ae_dated_j5 n a0e) () ⟨[2],[2],[],[]⟩ krf
  ·refine sG (xR 5 krf ?_)
   refine xS (leI (lenI (mCh a0e.Claim.Calendar.Changes)) 16) (fun h24=>?_) (fun h24=>?_)
   ·refine xO (want_tt krf h24) krf (xR 4 krf ?_)
    refine xs_exc [] krf (g_a_need_ok n (leI (lenI (List.map ci a0e.Claim.Calendar.Holidays)) 32) 2) krf krf (fun _=>by kernel_rfl) (fun _=>by kernel_rfl) (fun r25=>?_) (fun e26=>?_)
    ·refine xE ?_
     exact kq_n (k:=fun _=>g_ae_dated_j4 n a0e) () ⟨[2],[2],[],[]⟩ krf
    ·refine kq_p ?_
     exact rq_p krf krf
   ·refine xN (want_tf krf h24) krf (xR 4 krf ?_)
    refine xs_exc [] krf (g_a_need_ok n false 2) krf krf (fun _=>by kernel_rfl) (fun _=>by kernel_rfl) (fun r27=>?_) (fun e28=>?_)
    ·refine xE ?_
     exact kq_n (k:=fun _=>g_ae_dated_j4 n a0e) () ⟨[2],[2],[],[]⟩ krf
    ·refine kq_p ?_
     exact rq_p krf krf
 ·refine sq_p ?_
  exact rq_p krf krf
def g_ae_derive_l4 (a0e:GAE) (x1:GReading) (recl4:(Int × Int × (OL GSl))→Option (Int × Int × (List GSl))) (l4_1:Int) (l4_2:Int) (l4_3:OL GSl):Option (Int × Int × (List GSl)) :=
 cond (ltI l4_1 (lenI (List.map GReading.cs a0e.Claim.Readings)))
  ((getI a0e.Claim.Readings (wi (l4_1 - 1))).bind fun x5 =>
  (getI a0e.Claim.Readings l4_1).bind fun x6 =>
  (cond (eqI x6.Serial x5.Serial)
   (some (ltI x1.Minute x6.Minute))
   (some false)).bind fun j7 =>
  cond j7
   (cond (eqI (wi (x6.Register - x5.Register)) 0)
    (recl4 (wi (l4_1+1),l4_2,l4_3))
    ((cond (ltI 0 (lenI (List.map GSl.cs l4_3.toL)))
     ((getI l4_3.toL (wi ((lenI (List.map GSl.cs l4_3.toL)) - 1))).bind fun x11 =>
     some (eqI x11.Minute (wi (x6.Minute - 1))))
     (some false)).bind fun j9 =>
    cond j9
     ((getI l4_3.toL (wi ((lenI (List.map GSl.cs l4_3.toL)) - 1))).bind fun x12 =>
     (getI l4_3.toL (wi ((lenI (List.map GSl.cs l4_3.toL)) - 1))).bind fun x13 =>
     recl4 (wi (l4_1+1),l4_2,OL.own (List.set l4_3.toL (Int.toNat (wi ((lenI (List.map GSl.cs l4_3.toL)) - 1))) (⟨x13.Minute,wi (x12.Energy+(wi (x6.Register - x5.Register)))⟩:GSl))))
     (cond (roomB (List.length (l4_3.toL++[(⟨wi (x6.Minute - 1),wi (x6.Register - x5.Register)⟩:GSl)])) 16) (
      recl4 (wi (l4_1+1),wi ((wi (x6.Minute - 1))+1),OL.own (l4_3.toL++[(⟨wi (x6.Minute - 1),wi (x6.Register - x5.Register)⟩:GSl)]))) none)))
   (recl4 (wi (l4_1+1),l4_2,l4_3)))
  (some (l4_1,l4_2,l4_3.toL))
def g_ae_derive_l15 (n:Nat) (a0e:GAE) (x1:GReading) (x2:GReading) (j3_2:Int) (j3_3:List GSl) (recl15:Int→Option (Except (Int × GAE) GAE)) (l15:Int):Option (Except (Int × GAE) GAE) :=
 cond (ltI l15 (lenI (List.map GSl.cs j3_3)))
  ((getI j3_3 l15).bind fun x16 =>
  (g_a_need n (leI x16.Energy 10000) 3).bind (exc (fun r17 =>
   recl15 (wi (l15+1))) fun e18=>some (.error (e18,(⟨a0e.Claim,(⟨a0e.follows.From,a0e.follows.To,a0e.follows.End,[]⟩:GSs),(⟨[],a0e.bill.Net,a0e.bill.Tax,a0e.bill.Total⟩:GBill),a0e.rate⟩:GAE)))))
  (some (.ok (⟨a0e.Claim,(⟨x1.Minute,x2.Minute,j3_2,j3_3⟩:GSs),(⟨[],a0e.bill.Net,a0e.bill.Tax,a0e.bill.Total⟩:GBill),a0e.rate⟩:GAE)))
def g_ae_derive_j14 (n:Nat) (a0e:GAE) (x1:GReading) (x2:GReading) (j3_2:Int) (j3_3:List GSl):Option (Except (Int × GAE) GAE) :=
 loopN (fun recl15 l15=>g_ae_derive_l15 n a0e x1 x2 j3_2 j3_3 recl15 l15) n 0
def g_ae_derive (n:Nat) (a0e:GAE):Option (Except (Int × GAE) GAE) :=
 (getI a0e.Claim.Readings 0).bind fun x1 =>
 (getI a0e.Claim.Readings (wi ((lenI (List.map GReading.cs a0e.Claim.Readings)) - 1))).bind fun x2 =>
 (loopN (fun recl4 (l4_1,l4_2,l4_3)=>g_ae_derive_l4 a0e x1 recl4 l4_1 l4_2 l4_3) n (1,x1.Minute,OL.nil)).bind fun (j3_1,j3_2,j3_3) =>
 cond (ltI x1.Minute x2.Minute)
  (cond (leI (wi (x2.Minute - x1.Minute)) 2880)
   ((g_a_need n (leI (lenI (List.map GSl.cs j3_3)) 48) 3).bind (exc (fun r21 =>
    g_ae_derive_j14 n a0e x1 x2 j3_2 j3_3) fun e22=>some (.error (e22,(⟨a0e.Claim,(⟨a0e.follows.From,a0e.follows.To,a0e.follows.End,[]⟩:GSs),(⟨[],a0e.bill.Net,a0e.bill.Tax,a0e.bill.Total⟩:GBill),a0e.rate⟩:GAE)))))
   ((g_a_need n false 3).bind (exc (fun r23 =>
    g_ae_derive_j14 n a0e x1 x2 j3_2 j3_3) fun e24=>some (.error (e24,(⟨a0e.Claim,(⟨a0e.follows.From,a0e.follows.To,a0e.follows.End,[]⟩:GSs),(⟨[],a0e.bill.Net,a0e.bill.Tax,a0e.bill.Total⟩:GBill),a0e.rate⟩:GAE))))))
  ((g_a_need n false 3).bind (exc (fun r25 =>
   g_ae_derive_j14 n a0e x1 x2 j3_2 j3_3) fun e26=>some (.error (e26,(⟨a0e.Claim,(⟨a0e.follows.From,a0e.follows.To,a0e.follows.End,[]⟩:GSs),(⟨[],a0e.bill.Net,a0e.bill.Tax,a0e.bill.Total⟩:GBill),a0e.rate⟩:GAE)))))
theorem g_ae_derive_ok (n:Nat) (a0e:GAE):∀ r,g_ae_derive n a0e=some r→ACall Tryz.prog 44 [.ptr 1000 0] (Go.Abs.look [(1000, .box 67 (List.set (List.set (bxc (GAE.cs ⟨a0e.Claim,(⟨a0e.follows.From,a0e.follows.To,a0e.follows.End,[]⟩:GSs),(⟨[],a0e.bill.Net,a0e.bill.Tax,a0e.bill.Total⟩:GBill),a0e.rate⟩)) 18 (zS)) 19 (zS)))]) (heapR (excX (fun r:GAE=>((.ret (.tup []),[(1000, .box 67 (List.set (bxc (GAE.cs ⟨r.Claim,r.follows,(⟨[],r.bill.Net,r.bill.Tax,r.bill.Total⟩:GBill),r.rate⟩)) 19 (zS)))]):AEnd × List (Nat × Blk))) (fun e:Int × GAE=>((.panic (.ifc 128 (.agg [I e.1])),[(1000, .box 67 (List.set (bxc (GAE.cs ⟨e.2.Claim,e.2.follows,(⟨[],e.2.bill.Net,e.2.bill.Tax,e.2.bill.Total⟩:GBill),e.2.rate⟩)) 19 (zS)))]):AEnd × List (Nat × Blk)))) r):=by
 refine acall_sim (X:=excX (fun r:GAE=>((.ret (.tup []),[(1000, .box 67 (List.set (bxc (GAE.cs ⟨r.Claim,r.follows,(⟨[],r.bill.Net,r.bill.Tax,r.bill.Total⟩:GBill),r.rate⟩)) 19 (zS)))]):AEnd × List (Nat × Blk))) (fun e:Int × GAE=>((.panic (.ifc 128 (.agg [I e.1])),[(1000, .box 67 (List.set (bxc (GAE.cs ⟨e.2.Claim,e.2.follows,(⟨[],e.2.bill.Net,e.2.bill.Tax,e.2.bill.Total⟩:GBill),e.2.rate⟩)) 19 (zS)))]):AEnd × List (Nat × Blk)))) [(1000, .box 67 (List.set (List.set (bxc (GAE.cs ⟨a0e.Claim,(⟨a0e.follows.From,a0e.follows.To,a0e.follows.End,[]⟩:GSs),(⟨[],a0e.bill.Net,a0e.bill.Tax,a0e.bill.Total⟩:GBill),a0e.rate⟩)) 18 (zS)) 19 (zS)))] Tryz.func44 rfl Tryz.ntmps44 rfl ?_
 unfold g_ae_derive
 refine sR tfm ⟨[0,2],[1000],[],[]⟩ ⟨[(0, .ptr 1000 0),(2,I (lenI (mReading a0e.Claim.Readings)))],[(1000, .box 67 (List.set (List.set (bxc (GAE.cs ⟨a0e.Claim,(⟨a0e.follows.From,a0e.follows.To,a0e.follows.End,[]⟩:GSs),(⟨[],a0e.bill.Net,a0e.bill.Tax,a0e.bill.Total⟩:GBill),a0e.rate⟩)) 18 (zS)) 19 (zS)))]⟩ krf (sS (sim_drw tfm rfl (xR 5 krf ?_)))
 refine xG krf krf (aop_idx (e:=85) (S:=5) (enc:=GReading.cs) (l:=a0e.Claim.Readings) (k:=.i64) (n:=0) (sv:=.p (.sl 5 (mReading a0e.Claim.Readings))) rfl krf krf krf krf krf) (fun x1=>?_)
 refine xR 9 krf ?_
 refine xG krf krf (aop_idx (e:=85) (S:=5) (enc:=GReading.cs) (l:=a0e.Claim.Readings) (k:=.i64) (n:=wi ((lenI (mReading a0e.Claim.Readings)) - 1)) (sv:=.p (.sl 5 (mReading a0e.Claim.Readings))) rfl krf krf krf krf krf) (fun x2=>?_)
 refine xR 5 krf (xs_endD krf (sN ⟨[0,2,3],[3,1000],[],[(3,[.id, .id, .id, .vn])]⟩ ⟨[(0, .ptr 1000 0),(2,I (lenI (mReading a0e.Claim.Readings))),(3, .ptr 3 0)],[(3, .box 35 [I x1.Minute,I x2.Minute,I 0, .vnil]),(1000, .box 67 (List.set (List.set (bxc (GAE.cs ⟨a0e.Claim,(⟨a0e.follows.From,a0e.follows.To,a0e.follows.End,[]⟩:GSs),(⟨[],a0e.bill.Net,a0e.bill.Tax,a0e.bill.Total⟩:GBill),a0e.rate⟩)) 18 (zS)) 19 (zS)))]⟩ krf (sR tfm ⟨[0,2,3],[3,1000],[],[]⟩ ⟨[(0, .ptr 1000 0),(2,I (lenI (mReading a0e.Claim.Readings))),(3, .ptr 3 0)],[(3, .box 35 [I x1.Minute,I x2.Minute,I x1.Minute, .vnil]),(1000, .box 67 (List.set (List.set (bxc (GAE.cs ⟨a0e.Claim,(⟨a0e.follows.From,a0e.follows.To,a0e.follows.End,[]⟩:GSs),(⟨[],a0e.bill.Net,a0e.bill.Tax,a0e.bill.Total⟩:GBill),a0e.rate⟩)) 18 (zS)) 19 (zS)))]⟩ krf (sR tfm ⟨[0,2,3,4],[3,1000],[],[]⟩ ⟨[(0, .ptr 1000 0),(2,I (lenI (mReading a0e.Claim.Readings))),(3, .ptr 3 0),(4, .fn (.func 73) [] [.ptr 3 0])],[(3, .box 35 [I x1.Minute,I x2.Minute,I x1.Minute, .vnil]),(1000, .box 67 (List.set (List.set (bxc (GAE.cs ⟨a0e.Claim,(⟨a0e.follows.From,a0e.follows.To,a0e.follows.End,[]⟩:GSs),(⟨[],a0e.bill.Net,a0e.bill.Tax,a0e.bill.Total⟩:GBill),a0e.rate⟩)) 18 (zS)) 19 (zS)))]⟩ krf (sim_bind (fun (j3_1,j3_2,j3_3)=>⟨[(0, .ptr 1000 0),(3, .ptr 3 0),(4, .fn (.func 73) [] [.ptr 3 0]),(5,I j3_1)],[(3, .box 35 (bxc (GSs.cs ⟨x1.Minute,x2.Minute,j3_2,j3_3⟩))),(1000, .box 67 (List.set (List.set (bxc (GAE.cs ⟨a0e.Claim,(⟨a0e.follows.From,a0e.follows.To,a0e.follows.End,[]⟩:GSs),(⟨[],a0e.bill.Net,a0e.bill.Tax,a0e.bill.Total⟩:GBill),a0e.rate⟩)) 18 (zS)) 19 (zS)))]⟩:(Int × Int × (List GSl))→St) ?_ ?_)))))
 ·refine sR tfm ⟨[0,2,3,4,5],[3,1000],[],[]⟩ ⟨[(0, .ptr 1000 0),(2,I (lenI (mReading a0e.Claim.Readings))),(3, .ptr 3 0),(4, .fn (.func 73) [] [.ptr 3 0]),(5,I 1)],[(3, .box 35 [I x1.Minute,I x2.Minute,I x1.Minute, .vnil]),(1000, .box 67 (List.set (List.set (bxc (GAE.cs ⟨a0e.Claim,(⟨a0e.follows.From,a0e.follows.To,a0e.follows.End,[]⟩:GSs),(⟨[],a0e.bill.Net,a0e.bill.Tax,a0e.bill.Total⟩:GBill),a0e.rate⟩)) 18 (zS)) 19 (zS)))]⟩ krf (sB (sim_loop (fun (l4_1,l4_2,l4_3)=>⟨[(0, .ptr 1000 0),(2,I (lenI (mReading a0e.Claim.Readings))),(3, .ptr 3 0),(4, .fn (.func 73) [] [.ptr 3 0]),(5,I l4_1)],[(3, .box 35 [I x1.Minute,I x2.Minute,I l4_2,ovsl 2 GSl.cs l4_3 441]),(1000, .box 67 (List.set (List.set (bxc (GAE.cs ⟨a0e.Claim,(⟨a0e.follows.From,a0e.follows.To,a0e.follows.End,[]⟩:GSs),(⟨[],a0e.bill.Net,a0e.bill.Tax,a0e.bill.Total⟩:GBill),a0e.rate⟩)) 18 (zS)) 19 (zS)))]++ovec 62 2 GSl.cs l4_3 441⟩:(Int × Int × (OL GSl))→St) (weak_shr (K:=⟨[0,2,3,4,5],[3,1000],[],[]⟩) krf) ?_))
  rintro recl4 ⟨l4_1,l4_2,l4_3⟩
  show SimE (g_ae_derive_l4 a0e x1 recl4 l4_1 l4_2 l4_3) _ _ _ _ _ _
  unfold g_ae_derive_l4
  rcases l4_3 with _ | ow_l4_3
  ·refine sS (sR tfm ⟨[0,2,3,4,5,41],[3,1000],[],[]⟩ ⟨[(0, .ptr 1000 0),(2,I (lenI (mReading a0e.Claim.Readings))),(3, .ptr 3 0),(4, .fn (.func 73) [] [.ptr 3 0]),(5,I l4_1),(41,B (ltI l4_1 (lenI (mReading a0e.Claim.Readings))))],[(3, .box 35 [I x1.Minute,I x2.Minute,I l4_2, .vnil]),(1000, .box 67 (List.set (List.set (bxc (GAE.cs ⟨a0e.Claim,(⟨a0e.follows.From,a0e.follows.To,a0e.follows.End,[]⟩:GSs),(⟨[],a0e.bill.Net,a0e.bill.Tax,a0e.bill.Total⟩:GBill),a0e.rate⟩)) 18 (zS)) 19 (zS)))]⟩ krf (sC (ltI l4_1 (lenI (mReading a0e.Claim.Readings))) krf ?_ ?_))
   ·refine sK (sN ⟨[0,2,3,4,5],[3,1000],[],[]⟩ ⟨[(0, .ptr 1000 0),(2,I (lenI (mReading a0e.Claim.Readings))),(3, .ptr 3 0),(4, .fn (.func 73) [] [.ptr 3 0]),(5,I l4_1)],[(3, .box 35 [I x1.Minute,I x2.Minute,I l4_2, .vnil]),(1000, .box 67 (List.set (List.set (bxc (GAE.cs ⟨a0e.Claim,(⟨a0e.follows.From,a0e.follows.To,a0e.follows.End,[]⟩:GSs),(⟨[],a0e.bill.Net,a0e.bill.Tax,a0e.bill.Total⟩:GBill),a0e.rate⟩)) 18 (zS)) 19 (zS)))]⟩ krf (sS (sB (sS (sim_drw tfm rfl (xR 7 krf ?_))))))
    refine xG krf krf (aop_idx (e:=85) (S:=5) (enc:=GReading.cs) (l:=a0e.Claim.Readings) (k:=.i64) (n:=wi (l4_1 - 1)) (sv:=.p (.sl 5 (mReading a0e.Claim.Readings))) rfl krf krf krf krf krf) (fun x5=>?_)
    refine xR 7 krf ?_
    refine xG krf krf (aop_idx (e:=85) (S:=5) (enc:=GReading.cs) (l:=a0e.Claim.Readings) (k:=.i64) (n:=l4_1) (sv:=.p (.sl 5 (mReading a0e.Claim.Readings))) rfl krf krf krf krf krf) (fun x6=>?_)
    refine xR 5 krf (xs_endD krf (sN ⟨[0,2,3,4,5,6,7],[3,6,7,1000],[],[]⟩ ⟨[(0, .ptr 1000 0),(2,I (lenI (mReading a0e.Claim.Readings))),(3, .ptr 3 0),(4, .fn (.func 73) [] [.ptr 3 0]),(5,I l4_1),(6, .ptr 6 0),(7, .ptr 7 0)],[(3, .box 35 [I x1.Minute,I x2.Minute,I l4_2, .vnil]),(6, .box 85 (bxc (GReading.cs x5))),(7, .box 85 (bxc (GReading.cs x6))),(1000, .box 67 (List.set (List.set (bxc (GAE.cs ⟨a0e.Claim,(⟨a0e.follows.From,a0e.follows.To,a0e.follows.End,[]⟩:GSs),(⟨[],a0e.bill.Net,a0e.bill.Tax,a0e.bill.Total⟩:GBill),a0e.rate⟩)) 18 (zS)) 19 (zS)))]⟩ krf (sim_bind (fun j7=>⟨[(0, .ptr 1000 0),(2,I (lenI (mReading a0e.Claim.Readings))),(3, .ptr 3 0),(4, .fn (.func 73) [] [.ptr 3 0]),(5,I l4_1),(6, .ptr 6 0),(7, .ptr 7 0),(72,B j7)],[(3, .box 35 [I x1.Minute,I x2.Minute,I l4_2, .vnil]),(6, .box 85 (bxc (GReading.cs x5))),(7, .box 85 (bxc (GReading.cs x6))),(1000, .box 67 (List.set (List.set (bxc (GAE.cs ⟨a0e.Claim,(⟨a0e.follows.From,a0e.follows.To,a0e.follows.End,[]⟩:GSs),(⟨[],a0e.bill.Net,a0e.bill.Tax,a0e.bill.Total⟩:GBill),a0e.rate⟩)) 18 (zS)) 19 (zS)))]⟩:Bool→St) ?_ ?_)))
    ·refine sG (xR 6 krf ?_)
     refine xS (eqI x6.Serial x5.Serial) (fun h8=>?_) (fun h8=>?_)
     ·refine xO (want_tt krf h8) krf (xR 5 krf (xE ?_))
      exact nq_n (ltI x1.Minute x6.Minute) ⟨[0,2,3,4,5,6,7,72],[3,6,7,1000],[],[]⟩ krf
     ·refine xN (want_tf krf h8) krf (xR 5 krf (xE ?_))
      exact nq_n false ⟨[0,2,3,4,5,6,7,72],[3,6,7,1000],[],[]⟩ krf
    ·rintro j7
     refine sC j7 krf ?_ ?_
     ·refine sG (xR 9 krf (xs_inline [(1000, .box 35 [I x1.Minute,I x2.Minute,I l4_2, .vnil])] [I (wi (x6.Minute - 1)),I (wi (x6.Register - x5.Register)), .ptr 1000 0] [(1000,3),(41,441)] [] [] krf Tryz.func73 rfl Tryz.ntmps73 rfl krf krf krf (sS (sR tfm ⟨[0,1,2,7],[1000],[],[]⟩ ⟨[(0,I (wi (x6.Minute - 1))),(1,I (wi (x6.Register - x5.Register))),(2, .ptr 1000 0),(7,B (eqI (wi (x6.Register - x5.Register)) 0))],[(1000, .box 35 [I x1.Minute,I x2.Minute,I l4_2, .vnil])]⟩ krf (sC (eqI (wi (x6.Register - x5.Register)) 0) krf ?_ ?_)))))
      ·refine sT (sq_r (iq_ret (.id) [1000] [] (.tup []) krf krf (kr0 (xE (bq_n (sN ⟨[0,2,3,4,5],[3,1000],[],[]⟩ ⟨[(0, .ptr 1000 0),(2,I (lenI (mReading a0e.Claim.Readings))),(3, .ptr 3 0),(4, .fn (.func 73) [] [.ptr 3 0]),(5,I l4_1)],[(3, .box 35 [I x1.Minute,I x2.Minute,I l4_2, .vnil]),(1000, .box 67 (List.set (List.set (bxc (GAE.cs ⟨a0e.Claim,(⟨a0e.follows.From,a0e.follows.To,a0e.follows.End,[]⟩:GSs),(⟨[],a0e.bill.Net,a0e.bill.Tax,a0e.bill.Total⟩:GBill),a0e.rate⟩)) 18 (zS)) 19 (zS)))]⟩ krf (sL tfm krf ?_)))))))
       exact kq_n (wi (l4_1+1),l4_2,OL.nil) ⟨[0,2,3,4,5],[3,1000],[],[]⟩ krf
      ·refine sK (sN ⟨[0,1,2],[1000],[],[]⟩ ⟨[(0,I (wi (x6.Minute - 1))),(1,I (wi (x6.Register - x5.Register))),(2, .ptr 1000 0)],[(1000, .box 35 [I x1.Minute,I x2.Minute,I l4_2, .vnil])]⟩ krf (sS (sR tfm ⟨[0,1,2,5],[1000],[],[]⟩ ⟨[(0,I (wi (x6.Minute - 1))),(1,I (wi (x6.Register - x5.Register))),(2, .ptr 1000 0),(5,I (lenI (mSl OL.nil.toL)))],[(1000, .box 35 [I x1.Minute,I x2.Minute,I l4_2, .vnil])]⟩ krf (sim_bind (fun j9=>⟨[(0,I (wi (x6.Minute - 1))),(1,I (wi (x6.Register - x5.Register))),(2, .ptr 1000 0),(5,I (lenI (mSl OL.nil.toL))),(23,B j9)],[(1000, .box 35 [I x1.Minute,I x2.Minute,I l4_2, .vnil])]⟩:Bool→St) ?_ ?_))))
       ·refine sG (xR 3 krf ?_)
        refine xS (ltI 0 (lenI (mSl OL.nil.toL))) (fun h10=>?_) (fun h10=>?_)
        ·refine xO (want_tt krf h10) krf (xR 3 krf ?_)
         exact xs_dead (getI_nil _)
        ·refine xN (want_tf krf h10) krf (xR 9 krf (xE ?_))
         exact nq_n false ⟨[0,1,2,5,23],[1000],[],[]⟩ krf
       ·rintro j9
        refine sC j9 krf ?_ ?_
        ·refine sS (sG (xR 4 krf ?_))
         exact xs_dead (getI_nil _)
        ·refine sK (sN ⟨[0,1,2,5],[1000],[],[]⟩ ⟨[(0,I (wi (x6.Minute - 1))),(1,I (wi (x6.Register - x5.Register))),(2, .ptr 1000 0),(5,I (lenI (mSl OL.nil.toL)))],[(1000, .box 35 [I x1.Minute,I x2.Minute,I l4_2, .vnil])]⟩ krf (sS (sG (xR 6 krf (xF krf krf (aop_vapp0 (e:=62) (S:=2) (by_:=16) (enc:=GSl.cs) (d:=41) (l2:=[(⟨wi (x6.Minute - 1),wi (x6.Register - x5.Register)⟩:GSl)]) (xv:=.tsl 2 (mSl [(⟨wi (x6.Minute - 1),wi (x6.Register - x5.Register)⟩:GSl)]) 40) rfl rfl krf krf rfl krf krf krf rfl krf) (xR 2 krf (xE ?_)))))))
         refine sN ⟨[0,2,5],[41,1000],[],[]⟩ ⟨[(0,I (wi (x6.Minute - 1))),(2, .ptr 1000 0),(5,I (lenI (mSl OL.nil.toL)))],[(41, .vec 62 2 (mSl (OL.nil.toL++[(⟨wi (x6.Minute - 1),wi (x6.Register - x5.Register)⟩:GSl)]))),(1000, .box 35 [I x1.Minute,I x2.Minute,I l4_2, .vsl 2 41 (mSl (OL.nil.toL++[(⟨wi (x6.Minute - 1),wi (x6.Register - x5.Register)⟩:GSl)])).length])]⟩ krf (sL tfm krf (iq_n (.id) [41,1000] [] (.tup []) krf krf (kr0 (xE (bq_n (sN ⟨[0,2,3,4,5],[3,441,1000],[],[]⟩ ⟨[(0, .ptr 1000 0),(2,I (lenI (mReading a0e.Claim.Readings))),(3, .ptr 3 0),(4, .fn (.func 73) [] [.ptr 3 0]),(5,I l4_1)],[(3, .box 35 [I x1.Minute,I x2.Minute,I (wi ((wi (x6.Minute - 1))+1)), .vsl 2 441 (mSl (OL.nil.toL++[(⟨wi (x6.Minute - 1),wi (x6.Register - x5.Register)⟩:GSl)])).length]),(441, .vec 62 2 (mSl (OL.nil.toL++[(⟨wi (x6.Minute - 1),wi (x6.Register - x5.Register)⟩:GSl)]))),(1000, .box 67 (List.set (List.set (bxc (GAE.cs ⟨a0e.Claim,(⟨a0e.follows.From,a0e.follows.To,a0e.follows.End,[]⟩:GSs),(⟨[],a0e.bill.Net,a0e.bill.Tax,a0e.bill.Total⟩:GBill),a0e.rate⟩)) 18 (zS)) 19 (zS)))]⟩ krf (sL tfm krf ?_)))))))
         exact kq_n (wi (l4_1+1),wi ((wi (x6.Minute - 1))+1),OL.own (OL.nil.toL++[(⟨wi (x6.Minute - 1),wi (x6.Register - x5.Register)⟩:GSl)])) ⟨[0,2,3,4,5],[3,1000,441],[],[]⟩ krf
     ·refine sK (bq_n (sN ⟨[0,2,3,4,5],[3,1000],[],[]⟩ ⟨[(0, .ptr 1000 0),(2,I (lenI (mReading a0e.Claim.Readings))),(3, .ptr 3 0),(4, .fn (.func 73) [] [.ptr 3 0]),(5,I l4_1)],[(3, .box 35 [I x1.Minute,I x2.Minute,I l4_2, .vnil]),(1000, .box 67 (List.set (List.set (bxc (GAE.cs ⟨a0e.Claim,(⟨a0e.follows.From,a0e.follows.To,a0e.follows.End,[]⟩:GSs),(⟨[],a0e.bill.Net,a0e.bill.Tax,a0e.bill.Total⟩:GBill),a0e.rate⟩)) 18 (zS)) 19 (zS)))]⟩ krf (sL tfm krf ?_)))
      exact kq_n (wi (l4_1+1),l4_2,OL.nil) ⟨[0,2,3,4,5],[3,1000],[],[]⟩ krf
   ·refine sim_exit (sq_x (kq_x (bq_hit ?_)))
    exact nq_n (l4_1,l4_2,OL.nil.toL) ⟨[0,3,4,5],[3,1000],[],[(3,[.id, .id, .id, .sl 2])]⟩ krf
  ·refine sS (sR tfm ⟨[0,2,3,4,5,41],[3,441,1000],[],[]⟩ ⟨[(0, .ptr 1000 0),(2,I (lenI (mReading a0e.Claim.Readings))),(3, .ptr 3 0),(4, .fn (.func 73) [] [.ptr 3 0]),(5,I l4_1),(41,B (ltI l4_1 (lenI (mReading a0e.Claim.Readings))))],[(3, .box 35 [I x1.Minute,I x2.Minute,I l4_2, .vsl 2 441 (mSl (OL.own ow_l4_3).toL).length]),(441, .vec 62 2 (mSl (OL.own ow_l4_3).toL)),(1000, .box 67 (List.set (List.set (bxc (GAE.cs ⟨a0e.Claim,(⟨a0e.follows.From,a0e.follows.To,a0e.follows.End,[]⟩:GSs),(⟨[],a0e.bill.Net,a0e.bill.Tax,a0e.bill.Total⟩:GBill),a0e.rate⟩)) 18 (zS)) 19 (zS)))]⟩ krf (sC (ltI l4_1 (lenI (mReading a0e.Claim.Readings))) krf ?_ ?_))
   ·refine sK (sN ⟨[0,2,3,4,5],[3,441,1000],[],[]⟩ ⟨[(0, .ptr 1000 0),(2,I (lenI (mReading a0e.Claim.Readings))),(3, .ptr 3 0),(4, .fn (.func 73) [] [.ptr 3 0]),(5,I l4_1)],[(3, .box 35 [I x1.Minute,I x2.Minute,I l4_2, .vsl 2 441 (mSl (OL.own ow_l4_3).toL).length]),(441, .vec 62 2 (mSl (OL.own ow_l4_3).toL)),(1000, .box 67 (List.set (List.set (bxc (GAE.cs ⟨a0e.Claim,(⟨a0e.follows.From,a0e.follows.To,a0e.follows.End,[]⟩:GSs),(⟨[],a0e.bill.Net,a0e.bill.Tax,a0e.bill.Total⟩:GBill),a0e.rate⟩)) 18 (zS)) 19 (zS)))]⟩ krf (sS (sB (sS (sim_drw tfm rfl (xR 7 krf ?_))))))
    refine xG krf krf (aop_idx (e:=85) (S:=5) (enc:=GReading.cs) (l:=a0e.Claim.Readings) (k:=.i64) (n:=wi (l4_1 - 1)) (sv:=.p (.sl 5 (mReading a0e.Claim.Readings))) rfl krf krf krf krf krf) (fun x5=>?_)
    refine xR 7 krf ?_
    refine xG krf krf (aop_idx (e:=85) (S:=5) (enc:=GReading.cs) (l:=a0e.Claim.Readings) (k:=.i64) (n:=l4_1) (sv:=.p (.sl 5 (mReading a0e.Claim.Readings))) rfl krf krf krf krf krf) (fun x6=>?_)
    refine xR 5 krf (xs_endD krf (sN ⟨[0,2,3,4,5,6,7],[3,6,7,441,1000],[],[]⟩ ⟨[(0, .ptr 1000 0),(2,I (lenI (mReading a0e.Claim.Readings))),(3, .ptr 3 0),(4, .fn (.func 73) [] [.ptr 3 0]),(5,I l4_1),(6, .ptr 6 0),(7, .ptr 7 0)],[(3, .box 35 [I x1.Minute,I x2.Minute,I l4_2, .vsl 2 441 (mSl (OL.own ow_l4_3).toL).length]),(6, .box 85 (bxc (GReading.cs x5))),(7, .box 85 (bxc (GReading.cs x6))),(441, .vec 62 2 (mSl (OL.own ow_l4_3).toL)),(1000, .box 67 (List.set (List.set (bxc (GAE.cs ⟨a0e.Claim,(⟨a0e.follows.From,a0e.follows.To,a0e.follows.End,[]⟩:GSs),(⟨[],a0e.bill.Net,a0e.bill.Tax,a0e.bill.Total⟩:GBill),a0e.rate⟩)) 18 (zS)) 19 (zS)))]⟩ krf (sim_bind (fun j7=>⟨[(0, .ptr 1000 0),(2,I (lenI (mReading a0e.Claim.Readings))),(3, .ptr 3 0),(4, .fn (.func 73) [] [.ptr 3 0]),(5,I l4_1),(6, .ptr 6 0),(7, .ptr 7 0),(72,B j7)],[(3, .box 35 [I x1.Minute,I x2.Minute,I l4_2, .vsl 2 441 (mSl (OL.own ow_l4_3).toL).length]),(6, .box 85 (bxc (GReading.cs x5))),(7, .box 85 (bxc (GReading.cs x6))),(441, .vec 62 2 (mSl (OL.own ow_l4_3).toL)),(1000, .box 67 (List.set (List.set (bxc (GAE.cs ⟨a0e.Claim,(⟨a0e.follows.From,a0e.follows.To,a0e.follows.End,[]⟩:GSs),(⟨[],a0e.bill.Net,a0e.bill.Tax,a0e.bill.Total⟩:GBill),a0e.rate⟩)) 18 (zS)) 19 (zS)))]⟩:Bool→St) ?_ ?_)))
    ·refine sG (xR 6 krf ?_)
     refine xS (eqI x6.Serial x5.Serial) (fun h8=>?_) (fun h8=>?_)
     ·refine xO (want_tt krf h8) krf (xR 5 krf (xE ?_))
      exact nq_n (ltI x1.Minute x6.Minute) ⟨[0,2,3,4,5,6,7,72],[3,6,7,441,1000],[],[]⟩ krf
     ·refine xN (want_tf krf h8) krf (xR 5 krf (xE ?_))
      exact nq_n false ⟨[0,2,3,4,5,6,7,72],[3,6,7,441,1000],[],[]⟩ krf
    ·rintro j7
     refine sC j7 krf ?_ ?_
     ·refine sG (xR 9 krf (xs_inline [(1000, .box 35 [I x1.Minute,I x2.Minute,I l4_2, .vsl 2 1001 (mSl (OL.own ow_l4_3).toL).length]),(1001, .vec 62 2 (mSl (OL.own ow_l4_3).toL))] [I (wi (x6.Minute - 1)),I (wi (x6.Register - x5.Register)), .ptr 1000 0] [(1000,3),(1001,441)] [] [] krf Tryz.func73 rfl Tryz.ntmps73 rfl krf krf krf (sS (sR tfm ⟨[0,1,2,7],[1000,1001],[],[]⟩ ⟨[(0,I (wi (x6.Minute - 1))),(1,I (wi (x6.Register - x5.Register))),(2, .ptr 1000 0),(7,B (eqI (wi (x6.Register - x5.Register)) 0))],[(1000, .box 35 [I x1.Minute,I x2.Minute,I l4_2, .vsl 2 1001 (mSl (OL.own ow_l4_3).toL).length]),(1001, .vec 62 2 (mSl (OL.own ow_l4_3).toL))]⟩ krf (sC (eqI (wi (x6.Register - x5.Register)) 0) krf ?_ ?_)))))
      ·refine sT (sq_r (iq_ret (.id) [1000,1001] [] (.tup []) krf krf (kr0 (xE (bq_n (sN ⟨[0,2,3,4,5],[3,441,1000],[],[]⟩ ⟨[(0, .ptr 1000 0),(2,I (lenI (mReading a0e.Claim.Readings))),(3, .ptr 3 0),(4, .fn (.func 73) [] [.ptr 3 0]),(5,I l4_1)],[(3, .box 35 [I x1.Minute,I x2.Minute,I l4_2, .vsl 2 441 (mSl (OL.own ow_l4_3).toL).length]),(441, .vec 62 2 (mSl (OL.own ow_l4_3).toL)),(1000, .box 67 (List.set (List.set (bxc (GAE.cs ⟨a0e.Claim,(⟨a0e.follows.From,a0e.follows.To,a0e.follows.End,[]⟩:GSs),(⟨[],a0e.bill.Net,a0e.bill.Tax,a0e.bill.Total⟩:GBill),a0e.rate⟩)) 18 (zS)) 19 (zS)))]⟩ krf (sL tfm krf ?_)))))))
       exact kq_n (wi (l4_1+1),l4_2,(OL.own ow_l4_3)) ⟨[0,2,3,4,5],[3,1000,441],[],[]⟩ krf
      ·refine sK (sN ⟨[0,1,2],[1000,1001],[],[]⟩ ⟨[(0,I (wi (x6.Minute - 1))),(1,I (wi (x6.Register - x5.Register))),(2, .ptr 1000 0)],[(1000, .box 35 [I x1.Minute,I x2.Minute,I l4_2, .vsl 2 1001 (mSl (OL.own ow_l4_3).toL).length]),(1001, .vec 62 2 (mSl (OL.own ow_l4_3).toL))]⟩ krf (sS (sS (sG (xR 2 krf ?_)))))
       refine xs_u krf krf (aop_vlen (tk:=1001) (es:=mSl (OL.own ow_l4_3).toL) (S:=2) (n:=(mSl (OL.own ow_l4_3).toL).length) (e:=62) (ty:=62) rfl krf krf krf (by simp)) ?_
       refine xR 1 krf (xE (sN ⟨[0,1,2,5],[1000,1001],[],[]⟩ ⟨[(0,I (wi (x6.Minute - 1))),(1,I (wi (x6.Register - x5.Register))),(2, .ptr 1000 0),(5,I (lenI (mSl (OL.own ow_l4_3).toL)))],[(1000, .box 35 [I x1.Minute,I x2.Minute,I l4_2, .vsl 2 1001 (mSl (OL.own ow_l4_3).toL).length]),(1001, .vec 62 2 (mSl (OL.own ow_l4_3).toL))]⟩ krf (sim_bind (fun j9=>⟨[(0,I (wi (x6.Minute - 1))),(1,I (wi (x6.Register - x5.Register))),(2, .ptr 1000 0),(5,I (lenI (mSl (OL.own ow_l4_3).toL))),(23,B j9)],[(1000, .box 35 [I x1.Minute,I x2.Minute,I l4_2, .vsl 2 1001 (mSl (OL.own ow_l4_3).toL).length]),(1001, .vec 62 2 (mSl (OL.own ow_l4_3).toL))]⟩:Bool→St) ?_ ?_)))
       ·refine sG (xR 3 krf ?_)
        refine xS (ltI 0 (lenI (mSl (OL.own ow_l4_3).toL))) (fun h10=>?_) (fun h10=>?_)
        ·refine xO (want_tt krf h10) krf (xR 3 krf ?_)
         refine xs_getH krf krf (aop_vidx (e:=62) (S:=2) (tk:=1001) (ty:=62) (enc:=GSl.cs) (l:=(OL.own ow_l4_3).toL) (k:=.i64) (n:=wi ((lenI (mSl (OL.own ow_l4_3).toL)) - 1)) (nn:=(mSl (OL.own ow_l4_3).toL).length) rfl krf krf krf krf krf (by simp)) (fun x11 hx11=>?_)
         refine xs_u krf krf (aop_vfld (S:=2) (ty:=62) (tk:=1001) (k:=Int.toNat (wi ((lenI (mSl (OL.own ow_l4_3).toL)) - 1))) (g:=0) (off:=0) (es:=mSl (OL.own ow_l4_3).toL) rfl krf krf krf) (xs_u krf krf (aop_vld (S:=2) (tb:=62) (tk:=1001) (n:=Int.toNat (wi ((lenI (mSl (OL.own ow_l4_3).toL)) - 1))) (f:=0) (enc:=GSl.cs) (l:=(OL.own ow_l4_3).toL) (v:=x11) (c:=I x11.Minute) rfl krf krf (getI_at hx11) krf) (xR 3 krf (xE ?_)))
         exact nq_n (eqI x11.Minute (wi (x6.Minute - 1))) ⟨[0,1,2,5,23],[1000,1001],[],[]⟩ krf
        ·refine xN (want_tf krf h10) krf (xR 9 krf (xE ?_))
         exact nq_n false ⟨[0,1,2,5,23],[1000,1001],[],[]⟩ krf
       ·rintro j9
        refine sC j9 krf ?_ ?_
        ·refine sS (sG (xR 4 krf ?_))
         refine xs_getH krf krf (aop_vidx (e:=62) (S:=2) (tk:=1001) (ty:=62) (enc:=GSl.cs) (l:=(OL.own ow_l4_3).toL) (k:=.i64) (n:=wi ((lenI (mSl (OL.own ow_l4_3).toL)) - 1)) (nn:=(mSl (OL.own ow_l4_3).toL).length) rfl krf krf krf krf krf (by simp)) (fun x12 hx12=>?_)
         refine xs_u krf krf (aop_vfld (S:=2) (ty:=62) (tk:=1001) (k:=Int.toNat (wi ((lenI (mSl (OL.own ow_l4_3).toL)) - 1))) (g:=0) (off:=1) (es:=mSl (OL.own ow_l4_3).toL) rfl krf krf krf) (xs_u krf krf (aop_vld (S:=2) (tb:=62) (tk:=1001) (n:=Int.toNat (wi ((lenI (mSl (OL.own ow_l4_3).toL)) - 1))) (f:=1) (enc:=GSl.cs) (l:=(OL.own ow_l4_3).toL) (v:=x12) (c:=I x12.Energy) rfl krf krf (getI_at hx12) krf) (xR 2 krf ?_))
         refine xs_getH krf krf (aop_vidx (e:=62) (S:=2) (tk:=1001) (ty:=62) (enc:=GSl.cs) (l:=(OL.own ow_l4_3).toL) (k:=.i64) (n:=wi ((lenI (mSl (OL.own ow_l4_3).toL)) - 1)) (nn:=(mSl (OL.own ow_l4_3).toL).length) rfl krf krf krf krf krf (by simp)) (fun x13 hx13=>?_)
         refine xs_u krf krf (aop_vfld (S:=2) (ty:=62) (tk:=1001) (k:=Int.toNat (wi ((lenI (mSl (OL.own ow_l4_3).toL)) - 1))) (g:=0) (off:=1) (es:=mSl (OL.own ow_l4_3).toL) rfl krf krf krf) (xs_u krf krf (aop_vst (S:=2) (tb:=62) (tk:=1001) (n:=Int.toNat (wi ((lenI (mSl (OL.own ow_l4_3).toL)) - 1))) (f:=1) (enc:=GSl.cs) (l:=(OL.own ow_l4_3).toL) (v:=x13) (v':=(⟨x13.Minute,wi (x12.Energy+(wi (x6.Register - x5.Register)))⟩:GSl)) (xv:=I (wi (x12.Energy+(wi (x6.Register - x5.Register))))) rfl krf krf krf (getI_at hx13) krf) (xE (sN ⟨[],[1000,1001],[],[]⟩ ⟨[],[(1000, .box 35 [I x1.Minute,I x2.Minute,I l4_2, .vsl 2 1001 (mSl (OL.own ow_l4_3).toL).length]),(1001, .vec 62 2 (mSl (List.set (OL.own ow_l4_3).toL (Int.toNat (wi ((lenI (mSl (OL.own ow_l4_3).toL)) - 1))) (⟨x13.Minute,wi (x12.Energy+(wi (x6.Register - x5.Register)))⟩:GSl))))]⟩ krf (sT (sq_r (iq_ret (.id) [1000,1001] [] (.tup []) krf krf (kr0 ?_)))))))
         refine xE (bq_n (sN ⟨[0,2,3,4,5],[3,441,1000],[],[]⟩ ⟨[(0, .ptr 1000 0),(2,I (lenI (mReading a0e.Claim.Readings))),(3, .ptr 3 0),(4, .fn (.func 73) [] [.ptr 3 0]),(5,I l4_1)],[(3, .box 35 [I x1.Minute,I x2.Minute,I l4_2, .vsl 2 441 (mSl (OL.own ow_l4_3).toL).length]),(441, .vec 62 2 (mSl (List.set (OL.own ow_l4_3).toL (Int.toNat (wi ((lenI (mSl (OL.own ow_l4_3).toL)) - 1))) (⟨x13.Minute,wi (x12.Energy+(wi (x6.Register - x5.Register)))⟩:GSl)))),(1000, .box 67 (List.set (List.set (bxc (GAE.cs ⟨a0e.Claim,(⟨a0e.follows.From,a0e.follows.To,a0e.follows.End,[]⟩:GSs),(⟨[],a0e.bill.Net,a0e.bill.Tax,a0e.bill.Total⟩:GBill),a0e.rate⟩)) 18 (zS)) 19 (zS)))]⟩ krf (sL tfm krf ?_)))
         exact kq_e  (wi (l4_1+1),l4_2,OL.own (List.set (OL.own ow_l4_3).toL (Int.toNat (wi ((lenI (mSl (OL.own ow_l4_3).toL)) - 1))) (⟨x13.Minute,wi (x12.Energy+(wi (x6.Register - x5.Register)))⟩:GSl))) ⟨[0,2,3,4,5],[3,1000,441],[],[]⟩ ⟨[(0, .ptr 1000 0),(2,I (lenI (mReading a0e.Claim.Readings))),(3, .ptr 3 0),(4, .fn (.func 73) [] [.ptr 3 0]),(5,I (wi (l4_1+1)))],[(3, .box 35 [I x1.Minute,I x2.Minute,I l4_2, .vsl 2 441 (mSl (OL.own ow_l4_3).toL).length]),(1000, .box 67 (List.set (List.set (bxc (GAE.cs ⟨a0e.Claim,(⟨a0e.follows.From,a0e.follows.To,a0e.follows.End,[]⟩:GSs),(⟨[],a0e.bill.Net,a0e.bill.Tax,a0e.bill.Total⟩:GBill),a0e.rate⟩)) 18 (zS)) 19 (zS))),(441, .vec 62 2 (mSl (List.set (OL.own ow_l4_3).toL (Int.toNat (wi ((lenI (mSl (OL.own ow_l4_3).toL)) - 1))) (⟨x13.Minute,wi (x12.Energy+(wi (x6.Register - x5.Register)))⟩:GSl))))]⟩ krf (by simp)
        ·refine sK (sN ⟨[0,1,2,5],[1000,1001],[],[]⟩ ⟨[(0,I (wi (x6.Minute - 1))),(1,I (wi (x6.Register - x5.Register))),(2, .ptr 1000 0),(5,I (lenI (mSl (OL.own ow_l4_3).toL)))],[(1000, .box 35 [I x1.Minute,I x2.Minute,I l4_2, .vsl 2 1001 (mSl (OL.own ow_l4_3).toL).length]),(1001, .vec 62 2 (mSl (OL.own ow_l4_3).toL))]⟩ krf (sS (sG (xR 6 krf ?_))))
         refine xF krf krf (aop_vapp (e:=62) (S:=2) (by_:=16) (enc:=GSl.cs) (tk:=1001) (l:=(OL.own ow_l4_3).toL) (l2:=[(⟨wi (x6.Minute - 1),wi (x6.Register - x5.Register)⟩:GSl)]) (xv:=.tsl 2 (mSl [(⟨wi (x6.Minute - 1),wi (x6.Register - x5.Register)⟩:GSl)]) 40) (n:=(mSl (OL.own ow_l4_3).toL).length) rfl krf krf rfl krf krf krf krf (by simp)) ?_
         refine xR 2 krf (xE (sN ⟨[0,2,5],[1000,1001],[],[]⟩ ⟨[(0,I (wi (x6.Minute - 1))),(2, .ptr 1000 0),(5,I (lenI (mSl (OL.own ow_l4_3).toL)))],[(1000, .box 35 [I x1.Minute,I x2.Minute,I l4_2, .vsl 2 1001 (mSl ((OL.own ow_l4_3).toL++[(⟨wi (x6.Minute - 1),wi (x6.Register - x5.Register)⟩:GSl)])).length]),(1001, .vec 62 2 (mSl ((OL.own ow_l4_3).toL++[(⟨wi (x6.Minute - 1),wi (x6.Register - x5.Register)⟩:GSl)])))]⟩ krf (sL tfm krf (iq_n (.id) [1000,1001] [] (.tup []) krf krf (kr0 (xE (bq_n ?_)))))))
         refine sN ⟨[0,2,3,4,5],[3,441,1000],[],[]⟩ ⟨[(0, .ptr 1000 0),(2,I (lenI (mReading a0e.Claim.Readings))),(3, .ptr 3 0),(4, .fn (.func 73) [] [.ptr 3 0]),(5,I l4_1)],[(3, .box 35 [I x1.Minute,I x2.Minute,I (wi ((wi (x6.Minute - 1))+1)), .vsl 2 441 (mSl ((OL.own ow_l4_3).toL++[(⟨wi (x6.Minute - 1),wi (x6.Register - x5.Register)⟩:GSl)])).length]),(441, .vec 62 2 (mSl ((OL.own ow_l4_3).toL++[(⟨wi (x6.Minute - 1),wi (x6.Register - x5.Register)⟩:GSl)]))),(1000, .box 67 (List.set (List.set (bxc (GAE.cs ⟨a0e.Claim,(⟨a0e.follows.From,a0e.follows.To,a0e.follows.End,[]⟩:GSs),(⟨[],a0e.bill.Net,a0e.bill.Tax,a0e.bill.Total⟩:GBill),a0e.rate⟩)) 18 (zS)) 19 (zS)))]⟩ krf (sL tfm krf ?_)
         exact kq_n (wi (l4_1+1),wi ((wi (x6.Minute - 1))+1),OL.own ((OL.own ow_l4_3).toL++[(⟨wi (x6.Minute - 1),wi (x6.Register - x5.Register)⟩:GSl)])) ⟨[0,2,3,4,5],[3,1000,441],[],[]⟩ krf
     ·refine sK (bq_n (sN ⟨[0,2,3,4,5],[3,441,1000],[],[]⟩ ⟨[(0, .ptr 1000 0),(2,I (lenI (mReading a0e.Claim.Readings))),(3, .ptr 3 0),(4, .fn (.func 73) [] [.ptr 3 0]),(5,I l4_1)],[(3, .box 35 [I x1.Minute,I x2.Minute,I l4_2, .vsl 2 441 (mSl (OL.own ow_l4_3).toL).length]),(441, .vec 62 2 (mSl (OL.own ow_l4_3).toL)),(1000, .box 67 (List.set (List.set (bxc (GAE.cs ⟨a0e.Claim,(⟨a0e.follows.From,a0e.follows.To,a0e.follows.End,[]⟩:GSs),(⟨[],a0e.bill.Net,a0e.bill.Tax,a0e.bill.Total⟩:GBill),a0e.rate⟩)) 18 (zS)) 19 (zS)))]⟩ krf (sL tfm krf ?_)))
      exact kq_n (wi (l4_1+1),l4_2,(OL.own ow_l4_3)) ⟨[0,2,3,4,5],[3,1000,441],[],[]⟩ krf
   ·refine sim_exit (sq_x (kq_x (bq_hit ?_)))
    exact nq_f (l4_1,l4_2,(OL.own ow_l4_3).toL) ⟨[0,3,4,5],[3,441,1000],[],[]⟩ ⟨[(0, .ptr 1000 0),(3, .ptr 3 0),(4, .fn (.func 73) [] [.ptr 3 0]),(5,I l4_1)],[(3, .box 35 [I x1.Minute,I x2.Minute,I l4_2, .vsl 2 441 (mSl (OL.own ow_l4_3).toL).length]),(441, .vec 62 2 (mSl (OL.own ow_l4_3).toL)),(1000, .box 67 (List.set (List.set (bxc (GAE.cs ⟨a0e.Claim,(⟨a0e.follows.From,a0e.follows.To,a0e.follows.End,[]⟩:GSs),(⟨[],a0e.bill.Net,a0e.bill.Tax,a0e.bill.Total⟩:GBill),a0e.rate⟩)) 18 (zS)) 19 (zS)))]⟩ krf (weak_vfz 441 62 2 (mSl (OL.own ow_l4_3).toL) [(mSl (OL.own ow_l4_3).toL).length] krf krf (by simp) krf krf) ⟨[0,3,4,5],[3,1000],[],[]⟩ krf
 ·rintro ⟨j3_1,j3_2,j3_3⟩
  refine sim_cps (fun _=>⟨[(0, .ptr 1000 0),(3, .ptr 3 0),(4, .fn (.func 73) [] [.ptr 3 0]),(5,I j3_1)],[(3, .box 35 (bxc (GSs.cs ⟨x1.Minute,x2.Minute,j3_2,j3_3⟩))),(1000, .box 67 (List.set (List.set (bxc (GAE.cs ⟨a0e.Claim,(⟨a0e.follows.From,a0e.follows.To,a0e.follows.End,[]⟩:GSs),(⟨[],a0e.bill.Net,a0e.bill.Tax,a0e.bill.Total⟩:GBill),a0e.rate⟩)) 18 (zS)) 19 (zS)))]⟩:Unit→St) (fun _=>g_ae_derive_j14 n a0e x1 x2 j3_2 j3_3) ?_ ?_
  ·rintro _
   show SimE (g_ae_derive_j14 n a0e x1 x2 j3_2 j3_3) _ _ _ _ _ _
   unfold g_ae_derive_j14
   refine sS (sR tfm ⟨[0,3,4,5,104,105,106],[3,1000],[],[]⟩ ⟨[(0, .ptr 1000 0),(3, .ptr 3 0),(4, .fn (.func 73) [] [.ptr 3 0]),(5,I j3_1),(104, .p (.sl 2 (mSl j3_3))),(105,I (lenI (mSl j3_3))),(106,I 0)],[(3, .box 35 (bxc (GSs.cs ⟨x1.Minute,x2.Minute,j3_2,j3_3⟩))),(1000, .box 67 (List.set (List.set (bxc (GAE.cs ⟨a0e.Claim,(⟨a0e.follows.From,a0e.follows.To,a0e.follows.End,[]⟩:GSs),(⟨[],a0e.bill.Net,a0e.bill.Tax,a0e.bill.Total⟩:GBill),a0e.rate⟩)) 18 (zS)) 19 (zS)))]⟩ krf (sB (sim_loop (fun l15=>⟨[(0, .ptr 1000 0),(3, .ptr 3 0),(4, .fn (.func 73) [] [.ptr 3 0]),(5,I j3_1),(104, .p (.sl 2 (mSl j3_3))),(105,I (lenI (mSl j3_3))),(106,I l15)],[(3, .box 35 (bxc (GSs.cs ⟨x1.Minute,x2.Minute,j3_2,j3_3⟩))),(1000, .box 67 (List.set (List.set (bxc (GAE.cs ⟨a0e.Claim,(⟨a0e.follows.From,a0e.follows.To,a0e.follows.End,[]⟩:GSs),(⟨[],a0e.bill.Net,a0e.bill.Tax,a0e.bill.Total⟩:GBill),a0e.rate⟩)) 18 (zS)) 19 (zS)))]⟩:Int→St) (weak_shr (K:=⟨[0,3,4,5,104,105,106],[3,1000],[],[]⟩) krf) ?_)))
   rintro recl15 l15
   show SimE (g_ae_derive_l15 n a0e x1 x2 j3_2 j3_3 recl15 l15) _ _ _ _ _ _
   unfold g_ae_derive_l15
   refine sR tfm ⟨[0,3,4,5,104,105,106,107],[3,1000],[],[]⟩ ⟨[(0, .ptr 1000 0),(3, .ptr 3 0),(4, .fn (.func 73) [] [.ptr 3 0]),(5,I j3_1),(104, .p (.sl 2 (mSl j3_3))),(105,I (lenI (mSl j3_3))),(106,I l15),(107,B (ltI l15 (lenI (mSl j3_3))))],[(3, .box 35 (bxc (GSs.cs ⟨x1.Minute,x2.Minute,j3_2,j3_3⟩))),(1000, .box 67 (List.set (List.set (bxc (GAE.cs ⟨a0e.Claim,(⟨a0e.follows.From,a0e.follows.To,a0e.follows.End,[]⟩:GSs),(⟨[],a0e.bill.Net,a0e.bill.Tax,a0e.bill.Total⟩:GBill),a0e.rate⟩)) 18 (zS)) 19 (zS)))]⟩ krf (sS (sC (ltI l15 (lenI (mSl j3_3))) krf ?_ ?_))
   ·refine sK (sN ⟨[0,3,4,5,104,105,106],[3,1000],[],[]⟩ ⟨[(0, .ptr 1000 0),(3, .ptr 3 0),(4, .fn (.func 73) [] [.ptr 3 0]),(5,I j3_1),(104, .p (.sl 2 (mSl j3_3))),(105,I (lenI (mSl j3_3))),(106,I l15)],[(3, .box 35 (bxc (GSs.cs ⟨x1.Minute,x2.Minute,j3_2,j3_3⟩))),(1000, .box 67 (List.set (List.set (bxc (GAE.cs ⟨a0e.Claim,(⟨a0e.follows.From,a0e.follows.To,a0e.follows.End,[]⟩:GSs),(⟨[],a0e.bill.Net,a0e.bill.Tax,a0e.bill.Total⟩:GBill),a0e.rate⟩)) 18 (zS)) 19 (zS)))]⟩ krf (sS (sB (sS (sG ?_)))))
    refine xG krf krf (aop_idx (e:=62) (S:=2) (enc:=GSl.cs) (l:=j3_3) (k:=.i64) (n:=l15) (sv:=.p (.sl 2 (mSl j3_3))) rfl krf krf krf krf krf) (fun x16=>?_)
    refine xR 3 krf (xE (sN ⟨[0,3,4,5,9,104,105,106],[3,9,1000],[],[]⟩ ⟨[(0, .ptr 1000 0),(3, .ptr 3 0),(4, .fn (.func 73) [] [.ptr 3 0]),(5,I j3_1),(9, .ptr 9 0),(104, .p (.sl 2 (mSl j3_3))),(105,I (lenI (mSl j3_3))),(106,I l15)],[(3, .box 35 (bxc (GSs.cs ⟨x1.Minute,x2.Minute,j3_2,j3_3⟩))),(9, .box 62 (bxc (GSl.cs x16))),(1000, .box 67 (List.set (List.set (bxc (GAE.cs ⟨a0e.Claim,(⟨a0e.follows.From,a0e.follows.To,a0e.follows.End,[]⟩:GSs),(⟨[],a0e.bill.Net,a0e.bill.Tax,a0e.bill.Total⟩:GBill),a0e.rate⟩)) 18 (zS)) 19 (zS)))]⟩ krf (sG (xR 3 krf ?_))))
    refine xs_exc [] krf (g_a_need_ok n (leI x16.Energy 10000) 3) krf krf (fun _=>by kernel_rfl) (fun _=>by kernel_rfl) (fun r17=>?_) (fun e18=>?_)
    ·refine xE (bq_n (sN ⟨[0,3,4,5,104,105,106],[3,1000],[],[]⟩ ⟨[(0, .ptr 1000 0),(3, .ptr 3 0),(4, .fn (.func 73) [] [.ptr 3 0]),(5,I j3_1),(104, .p (.sl 2 (mSl j3_3))),(105,I (lenI (mSl j3_3))),(106,I l15)],[(3, .box 35 (bxc (GSs.cs ⟨x1.Minute,x2.Minute,j3_2,j3_3⟩))),(1000, .box 67 (List.set (List.set (bxc (GAE.cs ⟨a0e.Claim,(⟨a0e.follows.From,a0e.follows.To,a0e.follows.End,[]⟩:GSs),(⟨[],a0e.bill.Net,a0e.bill.Tax,a0e.bill.Total⟩:GBill),a0e.rate⟩)) 18 (zS)) 19 (zS)))]⟩ krf (sL tfm krf ?_)))
     exact kq_n (wi (l15+1)) ⟨[0,3,4,5,104,105,106],[3,1000],[],[]⟩ krf
    ·refine bq_p (sq_p (kq_p (bq_p (sq_p ?_))))
     exact hq_p [1000] [(1000,[.id, .id, .id, .id, .id, .id, .id, .id, .id, .id, .id, .id, .id, .id, .id, .id, .id, .id, .sl 2, .id, .id, .id, .id, .id])] krf krf krf
   ·refine sim_exit (sq_x (kq_x (bq_hit (sN ⟨[0,3,4,5],[3,1000],[],[]⟩ ⟨[(0, .ptr 1000 0),(3, .ptr 3 0),(4, .fn (.func 73) [] [.ptr 3 0]),(5,I j3_1)],[(3, .box 35 (bxc (GSs.cs ⟨x1.Minute,x2.Minute,j3_2,j3_3⟩))),(1000, .box 67 (List.set (List.set (bxc (GAE.cs ⟨a0e.Claim,(⟨a0e.follows.From,a0e.follows.To,a0e.follows.End,[]⟩:GSs),(⟨[],a0e.bill.Net,a0e.bill.Tax,a0e.bill.Total⟩:GBill),a0e.rate⟩)) 18 (zS)) 19 (zS)))]⟩ krf (sL tfm krf ?_)))))
    exact hq_n (.id) [1000] [] krf krf krf krf
  ·refine sG (xR 6 krf ?_)
   refine xS (ltI x1.Minute x2.Minute) (fun h19=>?_) (fun h19=>?_)
   ·refine xO (want_tt krf h19) krf (xR 7 krf ?_)
    refine xS (leI (wi (x2.Minute - x1.Minute)) 2880) (fun h20=>?_) (fun h20=>?_)
    ·refine xO (want_tt krf h20) krf (xR 4 krf ?_)
     refine xs_exc [] krf (g_a_need_ok n (leI (lenI (mSl j3_3)) 48) 3) krf krf (fun _=>by kernel_rfl) (fun _=>by kernel_rfl) (fun r21=>?_) (fun e22=>?_)
     ·refine xE ?_
      exact kq_n (k:=fun _=>g_ae_derive_j14 n a0e x1 x2 j3_2 j3_3) () ⟨[0,3,4,5],[3,1000],[],[]⟩ krf
     ·refine kq_p ?_
      exact hq_p [1000] [(1000,[.id, .id, .id, .id, .id, .id, .id, .id, .id, .id, .id, .id, .id, .id, .id, .id, .id, .id, .sl 2, .id, .id, .id, .id, .id])] krf krf krf
    ·refine xN (want_tf krf h20) krf (xR 4 krf ?_)
     refine xs_exc [] krf (g_a_need_ok n false 3) krf krf (fun _=>by kernel_rfl) (fun _=>by kernel_rfl) (fun r23=>?_) (fun e24=>?_)
     ·refine xE ?_
      exact kq_n (k:=fun _=>g_ae_derive_j14 n a0e x1 x2 j3_2 j3_3) () ⟨[0,3,4,5],[3,1000],[],[]⟩ krf
     ·refine kq_p ?_
      exact hq_p [1000] [(1000,[.id, .id, .id, .id, .id, .id, .id, .id, .id, .id, .id, .id, .id, .id, .id, .id, .id, .id, .sl 2, .id, .id, .id, .id, .id])] krf krf krf
   ·refine xN (want_tf krf h19) krf (xR 12 krf ?_)
    refine xs_exc [] krf (g_a_need_ok n false 3) krf krf (fun _=>by kernel_rfl) (fun _=>by kernel_rfl) (fun r25=>?_) (fun e26=>?_)
    ·refine xE ?_
     exact kq_n (k:=fun _=>g_ae_derive_j14 n a0e x1 x2 j3_2 j3_3) () ⟨[0,3,4,5],[3,1000],[],[]⟩ krf
    ·refine kq_p ?_
     exact hq_p [1000] [(1000,[.id, .id, .id, .id, .id, .id, .id, .id, .id, .id, .id, .id, .id, .id, .id, .id, .id, .id, .sl 2, .id, .id, .id, .id, .id])] krf krf krf
def g_a_same_api_Slice_l1 (a0a:List GSl) (a1b:List GSl) (recl1:Int→Option Bool) (l1:Int):Option Bool :=
 cond (ltI l1 (lenI (List.map GSl.cs a0a)))
  ((getI a0a l1).bind fun x2 =>
  (getI a1b l1).bind fun x3 =>
  cond (!opq ((eqI x2.Minute x3.Minute)&&((eqI x2.Energy x3.Energy)&&true)))
   (some false)
   (recl1 (wi (l1+1))))
  (some true)
def g_a_same_api_Slice (n:Nat) (a0a:List GSl) (a1b:List GSl):Option Bool :=
 cond (!eqI (lenI (List.map GSl.cs a0a)) (lenI (List.map GSl.cs a1b)))
  (some false)
  (loopN (fun recl1 l1=>g_a_same_api_Slice_l1 a0a a1b recl1 l1) n 0)
theorem g_a_same_api_Slice_ok (n:Nat) (a0a:List GSl) (a1b:List GSl):∀ r,g_a_same_api_Slice n a0a a1b=some r→PCall Tryz.prog 74 [.p (.sl 2 (mSl a0a)), .p (.sl 2 (mSl a1b))] (.ret (B r)):=by
 refine pcall_sim (X:=fun r:Bool=>AEnd.ret (B r)) Tryz.func74 rfl Tryz.ntmps74 rfl ?_
 unfold g_a_same_api_Slice
 refine sR tfm ⟨[0,1,4],[],[],[]⟩ ⟨[(0, .p (.sl 2 (mSl a0a))),(1, .p (.sl 2 (mSl a1b))),(4,B false)],[]⟩ krf (sS (sR tfm ⟨[0,1,4,10],[],[],[]⟩ ⟨[(0, .p (.sl 2 (mSl a0a))),(1, .p (.sl 2 (mSl a1b))),(4,B false),(10,B (!eqI (lenI (mSl a0a)) (lenI (mSl a1b))))],[]⟩ krf (sC (!eqI (lenI (mSl a0a)) (lenI (mSl a1b))) krf ?_ ?_)))
 ·refine sR tfm ⟨[4],[],[],[]⟩ ⟨[(4,B false)],[]⟩ krf (sT (sq_r ?_))
  exact qR (.id) krf krf krf
 ·refine sK (sN ⟨[0,1,4],[],[],[]⟩ ⟨[(0, .p (.sl 2 (mSl a0a))),(1, .p (.sl 2 (mSl a1b))),(4,B false)],[]⟩ krf (sS (sR tfm ⟨[0,1,4,12,13],[],[],[]⟩ ⟨[(0, .p (.sl 2 (mSl a0a))),(1, .p (.sl 2 (mSl a1b))),(4,B false),(12,I (lenI (mSl a0a))),(13,I 0)],[]⟩ krf (sB (sim_loop (fun l1=>⟨[(0, .p (.sl 2 (mSl a0a))),(1, .p (.sl 2 (mSl a1b))),(4,B false),(12,I (lenI (mSl a0a))),(13,I l1)],[]⟩:Int→St) (weak_shr (K:=⟨[0,1,4,12,13],[],[],[]⟩) krf) ?_)))))
  rintro recl1 l1
  show SimE (g_a_same_api_Slice_l1 a0a a1b recl1 l1) _ _ _ _ _ _
  unfold g_a_same_api_Slice_l1
  refine sR tfm ⟨[0,1,4,12,13,14],[],[],[]⟩ ⟨[(0, .p (.sl 2 (mSl a0a))),(1, .p (.sl 2 (mSl a1b))),(4,B false),(12,I (lenI (mSl a0a))),(13,I l1),(14,B (ltI l1 (lenI (mSl a0a))))],[]⟩ krf (sS (sC (ltI l1 (lenI (mSl a0a))) krf ?_ ?_))
  ·refine sK (sN ⟨[0,1,4,12,13],[],[],[]⟩ ⟨[(0, .p (.sl 2 (mSl a0a))),(1, .p (.sl 2 (mSl a1b))),(4,B false),(12,I (lenI (mSl a0a))),(13,I l1)],[]⟩ krf (sS (sB (sR tfm ⟨[0,1,4,5,12,13],[],[],[]⟩ ⟨[(0, .p (.sl 2 (mSl a0a))),(1, .p (.sl 2 (mSl a1b))),(4,B false),(5,I l1),(12,I (lenI (mSl a0a))),(13,I l1)],[]⟩ krf (sS (sim_drw tfm rfl (xR 2 krf ?_)))))))
   refine xG krf krf (aop_idx (e:=62) (S:=2) (enc:=GSl.cs) (l:=a0a) (k:=.i64) (n:=l1) (sv:=.p (.sl 2 (mSl a0a))) rfl krf krf krf krf krf) (fun x2=>?_)
   refine xR 3 krf ?_
   refine xG krf krf (aop_idx (e:=62) (S:=2) (enc:=GSl.cs) (l:=a1b) (k:=.i64) (n:=l1) (sv:=.p (.sl 2 (mSl a1b))) rfl krf krf krf krf krf) (fun x3=>?_)
   refine xR 1 krf (xs_u krf krf (aop_neq (xs:=[I x2.Minute,I x2.Energy]) (ys:=[I x3.Minute,I x3.Energy]) (vx:=[.int .i64 x2.Minute, .int .i64 x2.Energy]) (vy:=[.int .i64 x3.Minute, .int .i64 x3.Energy]) (b:=(eqI x2.Minute x3.Minute)&&((eqI x2.Energy x3.Energy)&&true)) rfl krf krf krf krf krf krf) (xs_endD krf (sN ⟨[0,1,4,5,12,13,24],[],[],[]⟩ ⟨[(0, .p (.sl 2 (mSl a0a))),(1, .p (.sl 2 (mSl a1b))),(4,B false),(5,I l1),(12,I (lenI (mSl a0a))),(13,I l1),(24,B (!opq ((eqI x2.Minute x3.Minute)&&((eqI x2.Energy x3.Energy)&&true))))],[]⟩ krf (sC (!opq ((eqI x2.Minute x3.Minute)&&((eqI x2.Energy x3.Energy)&&true))) krf ?_ ?_))))
   ·refine sR tfm ⟨[4],[],[],[]⟩ ⟨[(4,B false)],[]⟩ krf (sT (bq_r (sq_r (kq_r (bq_r (sq_r ?_))))))
    exact qR (.id) krf krf krf
   ·refine sK (bq_n (sN ⟨[0,1,4,5,12,13],[],[],[]⟩ ⟨[(0, .p (.sl 2 (mSl a0a))),(1, .p (.sl 2 (mSl a1b))),(4,B false),(5,I l1),(12,I (lenI (mSl a0a))),(13,I l1)],[]⟩ krf (sL tfm krf ?_)))
    exact kq_n (wi (l1+1)) ⟨[0,1,4,12,13],[],[],[]⟩ krf
  ·refine sim_exit (sq_x (kq_x (bq_hit (sN ⟨[4],[],[],[]⟩ ⟨[(4,B false)],[]⟩ krf (sR tfm ⟨[4],[],[],[]⟩ ⟨[(4,B true)],[]⟩ krf (sT ?_))))))
   exact qR (.id) krf krf krf
def g_ae_compared (n:Nat) (a0e:GAE):Option (Except Int Unit) :=
 cond (eqI a0e.Claim.Session.From a0e.follows.From)
  (cond (eqI a0e.Claim.Session.To a0e.follows.To)
   (cond (eqI a0e.Claim.Session.End a0e.follows.End)
    ((g_a_same_api_Slice n a0e.Claim.Session.Slices a0e.follows.Slices).bind fun r4 =>
    (g_a_need n r4 3).bind (exc (fun r5 =>
     some (.ok ())) fun e6=>some (.error e6)))
    ((g_a_need n false 3).bind (exc (fun r7 =>
     some (.ok ())) fun e8=>some (.error e8))))
   ((g_a_need n false 3).bind (exc (fun r9 =>
    some (.ok ())) fun e10=>some (.error e10))))
  ((g_a_need n false 3).bind (exc (fun r11 =>
   some (.ok ())) fun e12=>some (.error e12)))
theorem g_ae_compared_ok (n:Nat) (a0e:GAE):∀ r,g_ae_compared n a0e=some r→PCall Tryz.prog 45 [.eptr (GAE.cs a0e)] (excE (fun r:Unit=>(.tup []:AV)) (fun e:Int=>(.ifc 128 (.agg [I e]):AV)) r):=by
 refine pcall_sim (X:=excE (fun r:Unit=>(.tup []:AV)) (fun e:Int=>(.ifc 128 (.agg [I e]):AV))) Tryz.func45 rfl Tryz.ntmps45 rfl ?_
 unfold g_ae_compared
 refine sR tfm ⟨[2,3,4,5],[2,3],[],[]⟩ ⟨[(2, .ptr 2 0),(3, .ptr 3 0),(4, .eptr (GAE.cs a0e)),(5, .eptr (GAE.cs a0e))],[(2, .box 35 (bxc (GSs.cs a0e.Claim.Session))),(3, .box 35 (bxc (GSs.cs a0e.follows)))]⟩ krf (sG (xR 6 krf ?_))
 refine xS (eqI a0e.Claim.Session.From a0e.follows.From) (fun h1=>?_) (fun h1=>?_)
 ·refine xO (want_tt krf h1) krf (xR 6 krf ?_)
  refine xS (eqI a0e.Claim.Session.To a0e.follows.To) (fun h2=>?_) (fun h2=>?_)
  ·refine xO (want_tt krf h2) krf (xR 6 krf ?_)
   refine xS (eqI a0e.Claim.Session.End a0e.follows.End) (fun h3=>?_) (fun h3=>?_)
   ·refine xO (want_tt krf h3) krf (xR 3 krf ?_)
    refine xC [] krf (g_a_same_api_Slice_ok n a0e.Claim.Session.Slices a0e.follows.Slices) krf krf (fun _=>by kernel_rfl) (fun r4=>?_)
    refine xR 1 krf ?_
    refine xs_exc [] krf (g_a_need_ok n r4 3) krf krf (fun _=>by kernel_rfl) (fun _=>by kernel_rfl) (fun r5=>?_) (fun e6=>?_)
    ·refine xE ?_
     exact rq_n (.id) krf krf krf
    ·exact rq_p krf krf
   ·refine xN (want_tf krf h3) krf (xR 5 krf ?_)
    refine xs_exc [] krf (g_a_need_ok n false 3) krf krf (fun _=>by kernel_rfl) (fun _=>by kernel_rfl) (fun r7=>?_) (fun e8=>?_)
    ·refine xE ?_
     exact rq_n (.id) krf krf krf
    ·exact rq_p krf krf
  ·refine xN (want_tf krf h2) krf (xR 12 krf ?_)
   refine xs_exc [] krf (g_a_need_ok n false 3) krf krf (fun _=>by kernel_rfl) (fun _=>by kernel_rfl) (fun r9=>?_) (fun e10=>?_)
   ·refine xE ?_
    exact rq_n (.id) krf krf krf
   ·exact rq_p krf krf
 ·refine xN (want_tf krf h1) krf (xR 19 krf ?_)
  refine xs_exc [] krf (g_a_need_ok n false 3) krf krf (fun _=>by kernel_rfl) (fun _=>by kernel_rfl) (fun r11=>?_) (fun e12=>?_)
  ·refine xE ?_
   exact rq_n (.id) krf krf krf
  ·exact rq_p krf krf
def g_ae_offset_l1 (a0e:GAE) (a1minute:Int) (recl1:(Int × Int)→Option Int) (l1_1:Int) (l1_2:Int):Option Int :=
 cond (ltI l1_2 (lenI (List.map GCh.cs a0e.Claim.Calendar.Changes)))
  ((getI a0e.Claim.Calendar.Changes l1_2).bind fun x2 =>
  cond (leI x2.At a1minute)
   (recl1 (x2.Offset,wi (l1_2+1)))
   (recl1 (l1_1,wi (l1_2+1))))
  (some l1_1)
def g_ae_offset (n:Nat) (a0e:GAE) (a1minute:Int):Option Int :=
 loopN (fun recl1 (l1_1,l1_2)=>g_ae_offset_l1 a0e a1minute recl1 l1_1 l1_2) n (a0e.Claim.Calendar.Offset,0)
theorem g_ae_offset_ok (n:Nat) (a0e:GAE) (a1minute:Int):∀ r,g_ae_offset n a0e a1minute=some r→PCall Tryz.prog 102 [.eptr (GAE.cs a0e),I a1minute] (.ret (I r)):=by
 refine pcall_sim (X:=fun r:Int=>AEnd.ret (I r)) Tryz.func102 rfl Tryz.ntmps102 rfl ?_
 unfold g_ae_offset
 refine sR tfm ⟨[0,1,4],[],[],[]⟩ ⟨[(0, .eptr (GAE.cs a0e)),(1,I a1minute),(4,I 0)],[]⟩ krf (sR tfm ⟨[0,1,4,5],[],[],[]⟩ ⟨[(0, .eptr (GAE.cs a0e)),(1,I a1minute),(4,I 0),(5,I a0e.Claim.Calendar.Offset)],[]⟩ krf (sS (sR tfm ⟨[1,4,5,19,20,21],[],[],[]⟩ ⟨[(1,I a1minute),(4,I 0),(5,I a0e.Claim.Calendar.Offset),(19, .p (.sl 2 (mCh a0e.Claim.Calendar.Changes))),(20,I (lenI (mCh a0e.Claim.Calendar.Changes))),(21,I 0)],[]⟩ krf (sB (sim_loop (fun (l1_1,l1_2)=>⟨[(1,I a1minute),(4,I 0),(5,I l1_1),(19, .p (.sl 2 (mCh a0e.Claim.Calendar.Changes))),(20,I (lenI (mCh a0e.Claim.Calendar.Changes))),(21,I l1_2)],[]⟩:(Int × Int)→St) (weak_shr (K:=⟨[1,4,5,19,20,21],[],[],[]⟩) krf) ?_)))))
 rintro recl1 ⟨l1_1,l1_2⟩
 show SimE (g_ae_offset_l1 a0e a1minute recl1 l1_1 l1_2) _ _ _ _ _ _
 unfold g_ae_offset_l1
 refine sR tfm ⟨[1,4,5,19,20,21,22],[],[],[]⟩ ⟨[(1,I a1minute),(4,I 0),(5,I l1_1),(19, .p (.sl 2 (mCh a0e.Claim.Calendar.Changes))),(20,I (lenI (mCh a0e.Claim.Calendar.Changes))),(21,I l1_2),(22,B (ltI l1_2 (lenI (mCh a0e.Claim.Calendar.Changes))))],[]⟩ krf (sS (sC (ltI l1_2 (lenI (mCh a0e.Claim.Calendar.Changes))) krf ?_ ?_))
 ·refine sK (sN ⟨[1,4,5,19,20,21],[],[],[]⟩ ⟨[(1,I a1minute),(4,I 0),(5,I l1_1),(19, .p (.sl 2 (mCh a0e.Claim.Calendar.Changes))),(20,I (lenI (mCh a0e.Claim.Calendar.Changes))),(21,I l1_2)],[]⟩ krf (sS (sB (sS (sG ?_)))))
  refine xG krf krf (aop_idx (e:=76) (S:=2) (enc:=GCh.cs) (l:=a0e.Claim.Calendar.Changes) (k:=.i64) (n:=l1_2) (sv:=.p (.sl 2 (mCh a0e.Claim.Calendar.Changes))) rfl krf krf krf krf krf) (fun x2=>?_)
  refine xR 3 krf (xE (sN ⟨[1,4,5,7,19,20,21],[7],[],[]⟩ ⟨[(1,I a1minute),(4,I 0),(5,I l1_1),(7, .ptr 7 0),(19, .p (.sl 2 (mCh a0e.Claim.Calendar.Changes))),(20,I (lenI (mCh a0e.Claim.Calendar.Changes))),(21,I l1_2)],[(7, .box 76 (bxc (GCh.cs x2)))]⟩ krf (sR tfm ⟨[1,4,5,7,19,20,21,28],[7],[],[]⟩ ⟨[(1,I a1minute),(4,I 0),(5,I l1_1),(7, .ptr 7 0),(19, .p (.sl 2 (mCh a0e.Claim.Calendar.Changes))),(20,I (lenI (mCh a0e.Claim.Calendar.Changes))),(21,I l1_2),(28,B (leI x2.At a1minute))],[(7, .box 76 (bxc (GCh.cs x2)))]⟩ krf (sC (leI x2.At a1minute) krf ?_ ?_))))
  ·refine sL tfm krf (bq_n (sN ⟨[1,4,5,19,20,21],[],[],[]⟩ ⟨[(1,I a1minute),(4,I 0),(5,I x2.Offset),(19, .p (.sl 2 (mCh a0e.Claim.Calendar.Changes))),(20,I (lenI (mCh a0e.Claim.Calendar.Changes))),(21,I l1_2)],[]⟩ krf (sL tfm krf ?_)))
   exact kq_n (x2.Offset,wi (l1_2+1)) ⟨[1,4,5,19,20,21],[],[],[]⟩ krf
  ·refine sK (bq_n (sN ⟨[1,4,5,19,20,21],[],[],[]⟩ ⟨[(1,I a1minute),(4,I 0),(5,I l1_1),(19, .p (.sl 2 (mCh a0e.Claim.Calendar.Changes))),(20,I (lenI (mCh a0e.Claim.Calendar.Changes))),(21,I l1_2)],[]⟩ krf (sL tfm krf ?_)))
   exact kq_n (l1_1,wi (l1_2+1)) ⟨[1,4,5,19,20,21],[],[],[]⟩ krf
 ·refine sim_exit (sq_x (kq_x (bq_hit (sN ⟨[4,5],[],[],[]⟩ ⟨[(4,I 0),(5,I l1_1)],[]⟩ krf (sR tfm ⟨[4],[],[],[]⟩ ⟨[(4,I l1_1)],[]⟩ krf (sT ?_))))))
  exact qR (.id) krf krf krf
def g_ae_typeOf_j1 (a1day:Int):Option Int :=
 cond (eqI (Int.tmod (wi (a1day+7)) 7) 5)
  (some 1)
  (cond (eqI (Int.tmod (wi (a1day+7)) 7) 6)
   (some 2)
   (some 0))
def g_ae_typeOf_l2 (a0e:GAE) (a1day:Int) (recl2:Int→Option Int) (l2:Int):Option Int :=
 cond (ltI l2 (lenI (List.map ci a0e.Claim.Calendar.Holidays)))
  ((getI a0e.Claim.Calendar.Holidays l2).bind fun x3 =>
  cond (eqI x3 a1day)
   (some 2)
   (recl2 (wi (l2+1))))
  (g_ae_typeOf_j1 a1day)
def g_ae_typeOf (n:Nat) (a0e:GAE) (a1day:Int):Option Int :=
 loopN (fun recl2 l2=>g_ae_typeOf_l2 a0e a1day recl2 l2) n 0
theorem g_ae_typeOf_ok (n:Nat) (a0e:GAE) (a1day:Int):∀ r,g_ae_typeOf n a0e a1day=some r→PCall Tryz.prog 103 [.eptr (GAE.cs a0e),I a1day] (.ret (I r)):=by
 refine pcall_sim (X:=fun r:Int=>AEnd.ret (I r)) Tryz.func103 rfl Tryz.ntmps103 rfl ?_
 unfold g_ae_typeOf
 refine sR tfm ⟨[0,1,4],[],[],[]⟩ ⟨[(0, .eptr (GAE.cs a0e)),(1,I a1day),(4,I 0)],[]⟩ krf (sim_cps (fun _=>⟨[(1,I a1day),(4,I 0)],[]⟩:Unit→St) (fun _=>g_ae_typeOf_j1 a1day) ?_ ?_)
 ·rintro _
  show SimE (g_ae_typeOf_j1 a1day) _ _ _ _ _ _
  unfold g_ae_typeOf_j1
  refine sS (sR tfm ⟨[4,24],[],[],[]⟩ ⟨[(4,I 0),(24,I (Int.tmod (wi (a1day+7)) 7))],[]⟩ krf (sB (sR tfm ⟨[4,24,25],[],[],[]⟩ ⟨[(4,I 0),(24,I (Int.tmod (wi (a1day+7)) 7)),(25,B (eqI (Int.tmod (wi (a1day+7)) 7) 5))],[]⟩ krf (sC (eqI (Int.tmod (wi (a1day+7)) 7) 5) krf ?_ ?_))))
  ·refine sR tfm ⟨[4],[],[],[]⟩ ⟨[(4,I 1)],[]⟩ krf (sT (bq_r (sq_r ?_)))
   exact qR (.id) krf krf krf
  ·refine sR tfm ⟨[4,27],[],[],[]⟩ ⟨[(4,I 0),(27,B (eqI (Int.tmod (wi (a1day+7)) 7) 6))],[]⟩ krf (sC (eqI (Int.tmod (wi (a1day+7)) 7) 6) krf ?_ ?_)
   ·refine sR tfm ⟨[4],[],[],[]⟩ ⟨[(4,I 2)],[]⟩ krf (sT (bq_r (sq_r ?_)))
    exact qR (.id) krf krf krf
   ·refine sK (bq_n (sN ⟨[4],[],[],[]⟩ ⟨[(4,I 0)],[]⟩ krf (sR tfm ⟨[4],[],[],[]⟩ ⟨[(4,I 0)],[]⟩ krf (sT ?_))))
    exact qR (.id) krf krf krf
 ·refine sR tfm ⟨[1,4,12,13,14],[],[],[]⟩ ⟨[(1,I a1day),(4,I 0),(12, .p (.sl 1 (List.map ci a0e.Claim.Calendar.Holidays))),(13,I (lenI (List.map ci a0e.Claim.Calendar.Holidays))),(14,I 0)],[]⟩ krf (sB (sim_loop (fun l2=>⟨[(1,I a1day),(4,I 0),(12, .p (.sl 1 (List.map ci a0e.Claim.Calendar.Holidays))),(13,I (lenI (List.map ci a0e.Claim.Calendar.Holidays))),(14,I l2)],[]⟩:Int→St) (weak_shr (K:=⟨[1,4,12,13,14],[],[],[]⟩) krf) ?_))
  rintro recl2 l2
  show SimE (g_ae_typeOf_l2 a0e a1day recl2 l2) _ _ _ _ _ _
  unfold g_ae_typeOf_l2
  refine sR tfm ⟨[1,4,12,13,14,15],[],[],[]⟩ ⟨[(1,I a1day),(4,I 0),(12, .p (.sl 1 (List.map ci a0e.Claim.Calendar.Holidays))),(13,I (lenI (List.map ci a0e.Claim.Calendar.Holidays))),(14,I l2),(15,B (ltI l2 (lenI (List.map ci a0e.Claim.Calendar.Holidays))))],[]⟩ krf (sS (sC (ltI l2 (lenI (List.map ci a0e.Claim.Calendar.Holidays))) krf ?_ ?_))
  ·refine sK (sN ⟨[1,4,12,13,14],[],[],[]⟩ ⟨[(1,I a1day),(4,I 0),(12, .p (.sl 1 (List.map ci a0e.Claim.Calendar.Holidays))),(13,I (lenI (List.map ci a0e.Claim.Calendar.Holidays))),(14,I l2)],[]⟩ krf (sS (sB (sS (sG ?_)))))
   refine xG krf krf (aop_idx (e:=3) (S:=1) (enc:=ci) (l:=a0e.Claim.Calendar.Holidays) (k:=.i64) (n:=l2) (sv:=.p (.sl 1 (List.map ci a0e.Claim.Calendar.Holidays))) rfl krf krf krf krf krf) (fun x3=>?_)
   refine xR 2 krf (xE (sN ⟨[1,4,6,12,13,14],[],[],[]⟩ ⟨[(1,I a1day),(4,I 0),(6,I x3),(12, .p (.sl 1 (List.map ci a0e.Claim.Calendar.Holidays))),(13,I (lenI (List.map ci a0e.Claim.Calendar.Holidays))),(14,I l2)],[]⟩ krf (sR tfm ⟨[1,4,12,13,14,20],[],[],[]⟩ ⟨[(1,I a1day),(4,I 0),(12, .p (.sl 1 (List.map ci a0e.Claim.Calendar.Holidays))),(13,I (lenI (List.map ci a0e.Claim.Calendar.Holidays))),(14,I l2),(20,B (eqI x3 a1day))],[]⟩ krf (sC (eqI x3 a1day) krf ?_ ?_))))
   ·refine sR tfm ⟨[4],[],[],[]⟩ ⟨[(4,I 2)],[]⟩ krf (sT (bq_r (sq_r (kq_r (bq_r (kq_r ?_))))))
    exact qR (.id) krf krf krf
   ·refine sK (bq_n (sN ⟨[1,4,12,13,14],[],[],[]⟩ ⟨[(1,I a1day),(4,I 0),(12, .p (.sl 1 (List.map ci a0e.Claim.Calendar.Holidays))),(13,I (lenI (List.map ci a0e.Claim.Calendar.Holidays))),(14,I l2)],[]⟩ krf (sL tfm krf ?_)))
    exact kq_n (wi (l2+1)) ⟨[1,4,12,13,14],[],[],[]⟩ krf
  ·refine sim_exit (sq_x (kq_x (bq_hit ?_)))
   exact kq_n (k:=fun _=>g_ae_typeOf_j1 a1day) () ⟨[1,4],[],[],[]⟩ krf
def g_ae_applies (n:Nat) (a0e:GAE) (a1a:GAr) (a2minute:Int):Option Bool :=
 (g_ae_offset n a0e a2minute).bind fun r1 =>
 cond (leI a1a.From (Int.tmod (wi ((wi (a2minute+r1))+1440)) 1440))
  (cond (ltI (Int.tmod (wi ((wi (a2minute+r1))+1440)) 1440) a1a.To)
   ((g_ae_typeOf n a0e (wi ((wi (Int.tdiv (wi ((wi (a2minute+r1))+1440)) 1440)) - 1))).bind fun r4 =>
   cond (!ltI r4 0) (
    some (!eqI (bAnd .i64 a1a.Days (shlI .i64 1 r4)) 0)) none)
   (some false))
  (some false)
theorem g_ae_applies_ok (n:Nat) (a0e:GAE) (a1a:GAr) (a2minute:Int):∀ r,g_ae_applies n a0e a1a a2minute=some r→PCall Tryz.prog 95 [.eptr (GAE.cs a0e),ag (GAr.cs a1a),I a2minute] (.ret (B r)):=by
 refine pcall_sim (X:=fun r:Bool=>AEnd.ret (B r)) Tryz.func95 rfl Tryz.ntmps95 rfl ?_
 unfold g_ae_applies
 refine sR tfm ⟨[0,2,4],[4],[],[]⟩ ⟨[(0, .eptr (GAE.cs a0e)),(2,I a2minute),(4, .ptr 4 0)],[(4, .box 73 (bxc (GAr.cs a1a)))]⟩ krf (sS (sG (xR 3 krf ?_)))
 refine xC [] krf (g_ae_offset_ok n a0e a2minute) krf krf (fun _=>by kernel_rfl) (fun r1=>?_)
 refine xR 3 krf (xE (sN ⟨[0,4,7],[4],[],[]⟩ ⟨[(0, .eptr (GAE.cs a0e)),(4, .ptr 4 0),(7,I (wi ((wi (a2minute+r1))+1440)))],[(4, .box 73 (bxc (GAr.cs a1a)))]⟩ krf (sR tfm ⟨[0,4,8,9],[4],[],[]⟩ ⟨[(0, .eptr (GAE.cs a0e)),(4, .ptr 4 0),(8,I (wi ((wi (Int.tdiv (wi ((wi (a2minute+r1))+1440)) 1440)) - 1))),(9,I (Int.tmod (wi ((wi (a2minute+r1))+1440)) 1440))],[(4, .box 73 (bxc (GAr.cs a1a)))]⟩ krf (sS (sim_drw tfm rfl (xR 5 krf ?_))))))
 refine xS (leI a1a.From (Int.tmod (wi ((wi (a2minute+r1))+1440)) 1440)) (fun h2=>?_) (fun h2=>?_)
 ·refine xO (want_tt krf h2) krf (xR 5 krf ?_)
  refine xS (ltI (Int.tmod (wi ((wi (a2minute+r1))+1440)) 1440) a1a.To) (fun h3=>?_) (fun h3=>?_)
  ·refine xO (want_tt krf h3) krf (xR 3 krf ?_)
   refine xC [] krf (g_ae_typeOf_ok n a0e (wi ((wi (Int.tdiv (wi ((wi (a2minute+r1))+1440)) 1440)) - 1))) krf krf (fun _=>by kernel_rfl) (fun r4=>?_)
   refine xF krf krf (aop_shl (k:=.i64) (k':=.i64) (a:=1) (b:=r4) rfl krf krf) (xR 4 krf (xs_endD krf (sN ⟨[6],[],[],[]⟩ ⟨[(6,B (!eqI (bAnd .i64 a1a.Days (shlI .i64 1 r4)) 0))],[]⟩ krf (sT ?_))))
   exact qR (.id) krf krf krf
  ·refine xN (want_tf krf h3) krf (xR 9 krf (xs_endD krf (sN ⟨[6],[],[],[]⟩ ⟨[(6,B false)],[]⟩ krf (sT ?_))))
   exact qR (.id) krf krf krf
 ·refine xN (want_tf krf h2) krf (xR 15 krf (xs_endD krf (sN ⟨[6],[],[],[]⟩ ⟨[(6,B false)],[]⟩ krf (sT ?_))))
  exact qR (.id) krf krf krf
def g_ae_started_l1 (n:Nat) (a0e:GAE) (a1a:GAr) (a3to:Int) (recl1:(Int × Int)→Option Int) (l1_1:Int) (l1_2:Int):Option Int :=
 cond (ltI l1_2 a3to)
  ((g_ae_applies n a0e a1a l1_2).bind fun r2 =>
  cond r2
   (recl1 (wi (l1_1+1),wi (l1_2+1)))
   (recl1 (l1_1,wi (l1_2+1))))
  (cond (!eqI a1a.Unit 0) (
   some (wi (a1a.Price * (wi (Int.tdiv (wi ((wi ((maxI 0 l1_1)+a1a.Unit)) - 1)) a1a.Unit))))) none)
def g_ae_started (n:Nat) (a0e:GAE) (a1a:GAr) (a2from:Int) (a3to:Int):Option Int :=
 loopN (fun recl1 (l1_1,l1_2)=>g_ae_started_l1 n a0e a1a a3to recl1 l1_1 l1_2) n (wi (0 - a1a.Free),a2from)
theorem g_ae_started_ok (n:Nat) (a0e:GAE) (a1a:GAr) (a2from:Int) (a3to:Int):∀ r,g_ae_started n a0e a1a a2from a3to=some r→PCall Tryz.prog 96 [.eptr (GAE.cs a0e),ag (GAr.cs a1a),I a2from,I a3to] (.ret (I r)):=by
 refine pcall_sim (X:=fun r:Int=>AEnd.ret (I r)) Tryz.func96 rfl Tryz.ntmps96 rfl ?_
 unfold g_ae_started
 refine sR tfm ⟨[0,2,3,5],[5],[],[]⟩ ⟨[(0, .eptr (GAE.cs a0e)),(2,I a2from),(3,I a3to),(5, .ptr 5 0)],[(5, .box 73 (bxc (GAr.cs a1a)))]⟩ krf (sR tfm ⟨[0,2,3,5,9],[5],[],[]⟩ ⟨[(0, .eptr (GAE.cs a0e)),(2,I a2from),(3,I a3to),(5, .ptr 5 0),(9,I (wi (0 - a1a.Free)))],[(5, .box 73 (bxc (GAr.cs a1a)))]⟩ krf (sS (sR tfm ⟨[0,3,5,9,10],[5],[],[]⟩ ⟨[(0, .eptr (GAE.cs a0e)),(3,I a3to),(5, .ptr 5 0),(9,I (wi (0 - a1a.Free))),(10,I a2from)],[(5, .box 73 (bxc (GAr.cs a1a)))]⟩ krf (sB (sim_loop (fun (l1_1,l1_2)=>⟨[(0, .eptr (GAE.cs a0e)),(3,I a3to),(5, .ptr 5 0),(9,I l1_1),(10,I l1_2)],[(5, .box 73 (bxc (GAr.cs a1a)))]⟩:(Int × Int)→St) (weak_shr (K:=⟨[0,3,5,9,10],[5],[],[]⟩) krf) ?_)))))
 rintro recl1 ⟨l1_1,l1_2⟩
 show SimE (g_ae_started_l1 n a0e a1a a3to recl1 l1_1 l1_2) _ _ _ _ _ _
 unfold g_ae_started_l1
 refine sS (sR tfm ⟨[0,3,5,9,10,17],[5],[],[]⟩ ⟨[(0, .eptr (GAE.cs a0e)),(3,I a3to),(5, .ptr 5 0),(9,I l1_1),(10,I l1_2),(17,B (ltI l1_2 a3to))],[(5, .box 73 (bxc (GAr.cs a1a)))]⟩ krf (sC (ltI l1_2 a3to) krf ?_ ?_))
 ·refine sK (sN ⟨[0,3,5,9,10],[5],[],[]⟩ ⟨[(0, .eptr (GAE.cs a0e)),(3,I a3to),(5, .ptr 5 0),(9,I l1_1),(10,I l1_2)],[(5, .box 73 (bxc (GAr.cs a1a)))]⟩ krf (sS (sB (sS (sG (xR 3 krf ?_))))))
  refine xC [] krf (g_ae_applies_ok n a0e a1a l1_2) krf krf (fun _=>by kernel_rfl) (fun r2=>?_)
  refine xE (sN ⟨[0,3,5,9,10,23],[5],[],[]⟩ ⟨[(0, .eptr (GAE.cs a0e)),(3,I a3to),(5, .ptr 5 0),(9,I l1_1),(10,I l1_2),(23,B r2)],[(5, .box 73 (bxc (GAr.cs a1a)))]⟩ krf (sC r2 krf ?_ ?_))
  ·refine sL tfm krf (bq_n (sN ⟨[0,3,5,9,10],[5],[],[]⟩ ⟨[(0, .eptr (GAE.cs a0e)),(3,I a3to),(5, .ptr 5 0),(9,I (wi (l1_1+1))),(10,I l1_2)],[(5, .box 73 (bxc (GAr.cs a1a)))]⟩ krf (sL tfm krf ?_)))
   exact kq_n (wi (l1_1+1),wi (l1_2+1)) ⟨[0,3,5,9,10],[5],[],[]⟩ krf
  ·refine sK (bq_n (sN ⟨[0,3,5,9,10],[5],[],[]⟩ ⟨[(0, .eptr (GAE.cs a0e)),(3,I a3to),(5, .ptr 5 0),(9,I l1_1),(10,I l1_2)],[(5, .box 73 (bxc (GAr.cs a1a)))]⟩ krf (sL tfm krf ?_)))
   exact kq_n (l1_1,wi (l1_2+1)) ⟨[0,3,5,9,10],[5],[],[]⟩ krf
 ·refine sim_exit (sq_x (kq_x (bq_hit (sN ⟨[5,9],[5],[],[]⟩ ⟨[(5, .ptr 5 0),(9,I l1_1)],[(5, .box 73 (bxc (GAr.cs a1a)))]⟩ krf (sS (sim_drw tfm rfl (xR 10 krf ?_)))))))
  refine xF krf krf (aop_quo (k:=.i64) (a:=wi ((wi ((maxI 0 l1_1)+a1a.Unit)) - 1)) (b:=a1a.Unit) rfl krf krf) (xR 2 krf (xs_endD krf (sN ⟨[8],[],[],[]⟩ ⟨[(8,I (wi (a1a.Price * (wi (Int.tdiv (wi ((wi ((maxI 0 l1_1)+a1a.Unit)) - 1)) a1a.Unit)))))],[]⟩ krf (sT ?_))))
  exact qR (.id) krf krf krf
def g_ae_cost_l2 (n:Nat) (a0e:GAE) (a1a:GAr) (recl2:(Int × Int)→Option Int) (l2_1:Int) (l2_2:Int):Option Int :=
 cond (ltI l2_2 (lenI (List.map GSl.cs a0e.follows.Slices)))
  ((getI a0e.follows.Slices l2_2).bind fun x3 =>
  (g_ae_applies n a0e a1a x3.Minute).bind fun r4 =>
  cond r4
   (recl2 (wi (l2_1+x3.Energy),wi (l2_2+1)))
   (recl2 (l2_1,wi (l2_2+1))))
  (some (wi (Int.tdiv (wi ((wi ((wi (2 * a1a.Price)) * l2_1))+1000)) 2000)))
def g_ae_cost (n:Nat) (a0e:GAE) (a1a:GAr):Option Int :=
 cond (eqI a1a.Kind 1)
  ((g_ae_applies n a0e a1a a0e.follows.From).bind fun r1 =>
  cond r1
   (some a1a.Price)
   (some 0))
  (cond (eqI a1a.Kind 2)
   (loopN (fun recl2 (l2_1,l2_2)=>g_ae_cost_l2 n a0e a1a recl2 l2_1 l2_2) n (0,0))
   (cond (eqI a1a.Kind 3)
    ((g_ae_started n a0e a1a a0e.follows.From a0e.follows.To).bind fun r5 =>
    some r5)
    (cond (eqI a1a.Kind 4)
     ((g_ae_started n a0e a1a a0e.follows.End a0e.follows.To).bind fun r6 =>
     some r6)
     (some 0))))
theorem g_ae_cost_ok (n:Nat) (a0e:GAE) (a1a:GAr):∀ r,g_ae_cost n a0e a1a=some r→PCall Tryz.prog 75 [.eptr (GAE.cs a0e),ag (GAr.cs a1a)] (.ret (I r)):=by
 refine pcall_sim (X:=fun r:Int=>AEnd.ret (I r)) Tryz.func75 rfl Tryz.ntmps75 rfl ?_
 unfold g_ae_cost
 refine sR tfm ⟨[0,3,4],[3],[],[]⟩ ⟨[(0, .eptr (GAE.cs a0e)),(3, .ptr 3 0),(4,I 0)],[(3, .box 73 (bxc (GAr.cs a1a)))]⟩ krf (sR tfm ⟨[0,3,4,5],[3,5],[],[]⟩ ⟨[(0, .eptr (GAE.cs a0e)),(3, .ptr 3 0),(4,I 0),(5, .ptr 5 0)],[(3, .box 73 (bxc (GAr.cs a1a))),(5, .box 35 (bxc (GSs.cs a0e.follows)))]⟩ krf (sS (sR tfm ⟨[0,3,4,5,14],[3,5],[],[]⟩ ⟨[(0, .eptr (GAE.cs a0e)),(3, .ptr 3 0),(4,I 0),(5, .ptr 5 0),(14,I a1a.Kind)],[(3, .box 73 (bxc (GAr.cs a1a))),(5, .box 35 (bxc (GSs.cs a0e.follows)))]⟩ krf (sB (sR tfm ⟨[0,3,4,5,14,15],[3,5],[],[]⟩ ⟨[(0, .eptr (GAE.cs a0e)),(3, .ptr 3 0),(4,I 0),(5, .ptr 5 0),(14,I a1a.Kind),(15,B (eqI a1a.Kind 1))],[(3, .box 73 (bxc (GAr.cs a1a))),(5, .box 35 (bxc (GSs.cs a0e.follows)))]⟩ krf (sC (eqI a1a.Kind 1) krf ?_ ?_))))))
 ·refine sS (sG (xR 4 krf ?_))
  refine xC [] krf (g_ae_applies_ok n a0e a1a a0e.follows.From) krf krf (fun _=>by kernel_rfl) (fun r1=>?_)
  refine xE (sN ⟨[3,4,5,21],[3,5],[],[]⟩ ⟨[(3, .ptr 3 0),(4,I 0),(5, .ptr 5 0),(21,B r1)],[(3, .box 73 (bxc (GAr.cs a1a))),(5, .box 35 (bxc (GSs.cs a0e.follows)))]⟩ krf (sC r1 krf ?_ ?_))
  ·refine sR tfm ⟨[4],[],[],[]⟩ ⟨[(4,I a1a.Price)],[]⟩ krf (sT (bq_r (sq_r ?_)))
   exact qR (.id) krf krf krf
  ·refine sK (bq_n (sN ⟨[4,5],[5],[],[]⟩ ⟨[(4,I 0),(5, .ptr 5 0)],[(5, .box 35 (bxc (GSs.cs a0e.follows)))]⟩ krf (sR tfm ⟨[4],[],[],[]⟩ ⟨[(4,I 0)],[]⟩ krf (sT ?_))))
   exact qR (.id) krf krf krf
 ·refine sR tfm ⟨[0,3,4,5,14,24],[3,5],[],[]⟩ ⟨[(0, .eptr (GAE.cs a0e)),(3, .ptr 3 0),(4,I 0),(5, .ptr 5 0),(14,I a1a.Kind),(24,B (eqI a1a.Kind 2))],[(3, .box 73 (bxc (GAr.cs a1a))),(5, .box 35 (bxc (GSs.cs a0e.follows)))]⟩ krf (sC (eqI a1a.Kind 2) krf ?_ ?_)
  ·refine sR tfm ⟨[0,3,4,5,6],[3,5],[],[]⟩ ⟨[(0, .eptr (GAE.cs a0e)),(3, .ptr 3 0),(4,I 0),(5, .ptr 5 0),(6,I 0)],[(3, .box 73 (bxc (GAr.cs a1a))),(5, .box 35 (bxc (GSs.cs a0e.follows)))]⟩ krf (sS (sR tfm ⟨[0,3,4,5,6,27,28,29],[3,5],[],[]⟩ ⟨[(0, .eptr (GAE.cs a0e)),(3, .ptr 3 0),(4,I 0),(5, .ptr 5 0),(6,I 0),(27, .p (.sl 2 (mSl a0e.follows.Slices))),(28,I (lenI (mSl a0e.follows.Slices))),(29,I 0)],[(3, .box 73 (bxc (GAr.cs a1a))),(5, .box 35 (bxc (GSs.cs a0e.follows)))]⟩ krf (sB (sim_loop (fun (l2_1,l2_2)=>⟨[(0, .eptr (GAE.cs a0e)),(3, .ptr 3 0),(4,I 0),(5, .ptr 5 0),(6,I l2_1),(27, .p (.sl 2 (mSl a0e.follows.Slices))),(28,I (lenI (mSl a0e.follows.Slices))),(29,I l2_2)],[(3, .box 73 (bxc (GAr.cs a1a))),(5, .box 35 (bxc (GSs.cs a0e.follows)))]⟩:(Int × Int)→St) (weak_shr (K:=⟨[0,3,4,5,6,27,28,29],[3,5],[],[]⟩) krf) ?_))))
   rintro recl2 ⟨l2_1,l2_2⟩
   show SimE (g_ae_cost_l2 n a0e a1a recl2 l2_1 l2_2) _ _ _ _ _ _
   unfold g_ae_cost_l2
   refine sR tfm ⟨[0,3,4,5,6,27,28,29,30],[3,5],[],[]⟩ ⟨[(0, .eptr (GAE.cs a0e)),(3, .ptr 3 0),(4,I 0),(5, .ptr 5 0),(6,I l2_1),(27, .p (.sl 2 (mSl a0e.follows.Slices))),(28,I (lenI (mSl a0e.follows.Slices))),(29,I l2_2),(30,B (ltI l2_2 (lenI (mSl a0e.follows.Slices))))],[(3, .box 73 (bxc (GAr.cs a1a))),(5, .box 35 (bxc (GSs.cs a0e.follows)))]⟩ krf (sS (sC (ltI l2_2 (lenI (mSl a0e.follows.Slices))) krf ?_ ?_))
   ·refine sK (sN ⟨[0,3,4,5,6,27,28,29],[3,5],[],[]⟩ ⟨[(0, .eptr (GAE.cs a0e)),(3, .ptr 3 0),(4,I 0),(5, .ptr 5 0),(6,I l2_1),(27, .p (.sl 2 (mSl a0e.follows.Slices))),(28,I (lenI (mSl a0e.follows.Slices))),(29,I l2_2)],[(3, .box 73 (bxc (GAr.cs a1a))),(5, .box 35 (bxc (GSs.cs a0e.follows)))]⟩ krf (sS (sB (sS (sG ?_)))))
    refine xG krf krf (aop_idx (e:=62) (S:=2) (enc:=GSl.cs) (l:=a0e.follows.Slices) (k:=.i64) (n:=l2_2) (sv:=.p (.sl 2 (mSl a0e.follows.Slices))) rfl krf krf krf krf krf) (fun x3=>?_)
    refine xR 3 krf (xE (sN ⟨[0,3,4,5,6,8,27,28,29],[3,5,8],[],[]⟩ ⟨[(0, .eptr (GAE.cs a0e)),(3, .ptr 3 0),(4,I 0),(5, .ptr 5 0),(6,I l2_1),(8, .ptr 8 0),(27, .p (.sl 2 (mSl a0e.follows.Slices))),(28,I (lenI (mSl a0e.follows.Slices))),(29,I l2_2)],[(3, .box 73 (bxc (GAr.cs a1a))),(5, .box 35 (bxc (GSs.cs a0e.follows))),(8, .box 62 (bxc (GSl.cs x3)))]⟩ krf (sS (sG (xR 4 krf ?_)))))
    refine xC [] krf (g_ae_applies_ok n a0e a1a x3.Minute) krf krf (fun _=>by kernel_rfl) (fun r4=>?_)
    refine xE (sN ⟨[0,3,4,5,6,8,27,28,29,37],[3,5,8],[],[]⟩ ⟨[(0, .eptr (GAE.cs a0e)),(3, .ptr 3 0),(4,I 0),(5, .ptr 5 0),(6,I l2_1),(8, .ptr 8 0),(27, .p (.sl 2 (mSl a0e.follows.Slices))),(28,I (lenI (mSl a0e.follows.Slices))),(29,I l2_2),(37,B r4)],[(3, .box 73 (bxc (GAr.cs a1a))),(5, .box 35 (bxc (GSs.cs a0e.follows))),(8, .box 62 (bxc (GSl.cs x3)))]⟩ krf (sC r4 krf ?_ ?_))
    ·refine sL tfm krf (bq_n (sN ⟨[0,3,4,5,6,27,28,29],[3,5],[],[]⟩ ⟨[(0, .eptr (GAE.cs a0e)),(3, .ptr 3 0),(4,I 0),(5, .ptr 5 0),(6,I (wi (l2_1+x3.Energy))),(27, .p (.sl 2 (mSl a0e.follows.Slices))),(28,I (lenI (mSl a0e.follows.Slices))),(29,I l2_2)],[(3, .box 73 (bxc (GAr.cs a1a))),(5, .box 35 (bxc (GSs.cs a0e.follows)))]⟩ krf (sL tfm krf ?_)))
     exact kq_n (wi (l2_1+x3.Energy),wi (l2_2+1)) ⟨[0,3,4,5,6,27,28,29],[3,5],[],[]⟩ krf
    ·refine sK (bq_n (sN ⟨[0,3,4,5,6,27,28,29],[3,5],[],[]⟩ ⟨[(0, .eptr (GAE.cs a0e)),(3, .ptr 3 0),(4,I 0),(5, .ptr 5 0),(6,I l2_1),(27, .p (.sl 2 (mSl a0e.follows.Slices))),(28,I (lenI (mSl a0e.follows.Slices))),(29,I l2_2)],[(3, .box 73 (bxc (GAr.cs a1a))),(5, .box 35 (bxc (GSs.cs a0e.follows)))]⟩ krf (sL tfm krf ?_)))
     exact kq_n (l2_1,wi (l2_2+1)) ⟨[0,3,4,5,6,27,28,29],[3,5],[],[]⟩ krf
   ·refine sim_exit (sq_x (kq_x (bq_hit (sN ⟨[3,4,5,6],[3,5],[],[]⟩ ⟨[(3, .ptr 3 0),(4,I 0),(5, .ptr 5 0),(6,I l2_1)],[(3, .box 73 (bxc (GAr.cs a1a))),(5, .box 35 (bxc (GSs.cs a0e.follows)))]⟩ krf (sR tfm ⟨[4],[],[],[]⟩ ⟨[(4,I (wi (Int.tdiv (wi ((wi ((wi (2 * a1a.Price)) * l2_1))+1000)) 2000)))],[]⟩ krf (sT (bq_r ?_)))))))
    refine sq_r ?_
    exact qR (.id) krf krf krf
  ·refine sR tfm ⟨[0,3,4,5,14,50],[3,5],[],[]⟩ ⟨[(0, .eptr (GAE.cs a0e)),(3, .ptr 3 0),(4,I 0),(5, .ptr 5 0),(14,I a1a.Kind),(50,B (eqI a1a.Kind 3))],[(3, .box 73 (bxc (GAr.cs a1a))),(5, .box 35 (bxc (GSs.cs a0e.follows)))]⟩ krf (sC (eqI a1a.Kind 3) krf ?_ ?_)
   ·refine sS (sG (xR 6 krf ?_))
    refine xC [] krf (g_ae_started_ok n a0e a1a a0e.follows.From a0e.follows.To) krf krf (fun _=>by kernel_rfl) (fun r5=>?_)
    refine xR 1 krf (xE (sN ⟨[4],[],[],[]⟩ ⟨[(4,I r5)],[]⟩ krf (sT (bq_r (sq_r ?_)))))
    exact qR (.id) krf krf krf
   ·refine sR tfm ⟨[0,3,4,5,59],[3,5],[],[]⟩ ⟨[(0, .eptr (GAE.cs a0e)),(3, .ptr 3 0),(4,I 0),(5, .ptr 5 0),(59,B (eqI a1a.Kind 4))],[(3, .box 73 (bxc (GAr.cs a1a))),(5, .box 35 (bxc (GSs.cs a0e.follows)))]⟩ krf (sC (eqI a1a.Kind 4) krf ?_ ?_)
    ·refine sS (sG (xR 6 krf ?_))
     refine xC [] krf (g_ae_started_ok n a0e a1a a0e.follows.End a0e.follows.To) krf krf (fun _=>by kernel_rfl) (fun r6=>?_)
     refine xR 1 krf (xE (sN ⟨[4],[],[],[]⟩ ⟨[(4,I r6)],[]⟩ krf (sT (bq_r (sq_r ?_)))))
     exact qR (.id) krf krf krf
    ·refine sK (bq_n (sN ⟨[4,5],[5],[],[]⟩ ⟨[(4,I 0),(5, .ptr 5 0)],[(5, .box 35 (bxc (GSs.cs a0e.follows)))]⟩ krf (sR tfm ⟨[4],[],[],[]⟩ ⟨[(4,I 0)],[]⟩ krf (sT ?_))))
     exact qR (.id) krf krf krf
def g_ae_price_l1 (n:Nat) (a0e:GAE) (recl1:(Int × (OL GLine))→Option (Except (Int × GAE) GAE)) (l1_1:Int) (l1_2:OL GLine):Option (Except (Int × GAE) GAE) :=
 cond (ltI l1_1 (lenI (List.map GAr.cs a0e.Claim.Tariff.Articles)))
  ((getI a0e.Claim.Tariff.Articles l1_1).bind fun x2 =>
  (cond (eqI x2.Kind 5)
   (some true)
   (some (eqI x2.Kind 6))).bind fun j3 =>
  cond j3
   (recl1 (wi (l1_1+1),l1_2))
   ((g_ae_cost n (⟨a0e.Claim,a0e.follows,(⟨l1_2.toL,a0e.bill.Net,a0e.bill.Tax,a0e.bill.Total⟩:GBill),a0e.rate⟩:GAE) x2).bind fun r5 =>
   (g_a_need n (leI r5 1000000000) 4).bind (exc (fun r6 =>
    cond (roomB (List.length (l1_2.toL++[(⟨l1_1,r5⟩:GLine)])) 16) (
     recl1 (wi (l1_1+1),OL.own (l1_2.toL++[(⟨l1_1,r5⟩:GLine)]))) none) fun e7=>some (.error (e7,(⟨a0e.Claim,a0e.follows,(⟨l1_2.toL,a0e.bill.Net,a0e.bill.Tax,a0e.bill.Total⟩:GBill),a0e.rate⟩:GAE))))))
  (some (.ok (⟨a0e.Claim,a0e.follows,(⟨l1_2.toL,a0e.bill.Net,a0e.bill.Tax,a0e.bill.Total⟩:GBill),a0e.rate⟩:GAE)))
def g_ae_price (n:Nat) (a0e:GAE):Option (Except (Int × GAE) GAE) :=
 loopN (fun recl1 (l1_1,l1_2)=>g_ae_price_l1 n a0e recl1 l1_1 l1_2) n (0,OL.nil)
theorem g_ae_price_ok (n:Nat) (a0e:GAE):∀ r,g_ae_price n a0e=some r→ACall Tryz.prog 46 [.ptr 1000 0] (Go.Abs.look [(1000, .box 67 (List.set (bxc (GAE.cs ⟨a0e.Claim,a0e.follows,(⟨[],a0e.bill.Net,a0e.bill.Tax,a0e.bill.Total⟩:GBill),a0e.rate⟩)) 19 (zS)))]) (heapR (excX (fun r:GAE=>((.ret (.tup []),[(1000, .box 67 (bxc (GAE.cs r)))]):AEnd × List (Nat × Blk))) (fun e:Int × GAE=>((.panic (.ifc 128 (.agg [I e.1])),[(1000, .box 67 (bxc (GAE.cs e.2)))]):AEnd × List (Nat × Blk)))) r):=by
 refine acall_sim (X:=excX (fun r:GAE=>((.ret (.tup []),[(1000, .box 67 (bxc (GAE.cs r)))]):AEnd × List (Nat × Blk))) (fun e:Int × GAE=>((.panic (.ifc 128 (.agg [I e.1])),[(1000, .box 67 (bxc (GAE.cs e.2)))]):AEnd × List (Nat × Blk)))) [(1000, .box 67 (List.set (bxc (GAE.cs ⟨a0e.Claim,a0e.follows,(⟨[],a0e.bill.Net,a0e.bill.Tax,a0e.bill.Total⟩:GBill),a0e.rate⟩)) 19 (zS)))] Tryz.func46 rfl Tryz.ntmps46 rfl ?_
 unfold g_ae_price
 refine sR tfm ⟨[0,5,10,11,12],[1000],[],[]⟩ ⟨[(0, .ptr 1000 0),(5, .ptr 1000 0),(10, .p (.sl 7 (mAr a0e.Claim.Tariff.Articles))),(11,I (lenI (mAr a0e.Claim.Tariff.Articles))),(12,I 0)],[(1000, .box 67 (List.set (bxc (GAE.cs ⟨a0e.Claim,a0e.follows,(⟨[],a0e.bill.Net,a0e.bill.Tax,a0e.bill.Total⟩:GBill),a0e.rate⟩)) 19 (zS)))]⟩ krf (sB (sim_loop (fun (l1_1,l1_2)=>⟨[(0, .ptr 1000 0),(5, .ptr 1000 0),(10, .p (.sl 7 (mAr a0e.Claim.Tariff.Articles))),(11,I (lenI (mAr a0e.Claim.Tariff.Articles))),(12,I l1_1)],[(1000, .box 67 (List.set (bxc (GAE.cs ⟨a0e.Claim,a0e.follows,(⟨[],a0e.bill.Net,a0e.bill.Tax,a0e.bill.Total⟩:GBill),a0e.rate⟩)) 19 (osl 2 GLine.cs l1_2 41)))]++oarr 69 2 GLine.cs l1_2 41⟩:(Int × (OL GLine))→St) (weak_shr (K:=⟨[0,5,10,11,12],[1000],[],[]⟩) krf) ?_))
 rintro recl1 ⟨l1_1,l1_2⟩
 show SimE (g_ae_price_l1 n a0e recl1 l1_1 l1_2) _ _ _ _ _ _
 unfold g_ae_price_l1
 rcases l1_2 with _ | ow_l1_2
 ·refine sR tfm ⟨[0,5,10,11,12,13],[1000],[],[]⟩ ⟨[(0, .ptr 1000 0),(5, .ptr 1000 0),(10, .p (.sl 7 (mAr a0e.Claim.Tariff.Articles))),(11,I (lenI (mAr a0e.Claim.Tariff.Articles))),(12,I l1_1),(13,B (ltI l1_1 (lenI (mAr a0e.Claim.Tariff.Articles))))],[(1000, .box 67 (List.set (bxc (GAE.cs ⟨a0e.Claim,a0e.follows,(⟨[],a0e.bill.Net,a0e.bill.Tax,a0e.bill.Total⟩:GBill),a0e.rate⟩)) 19 (zS)))]⟩ krf (sS (sC (ltI l1_1 (lenI (mAr a0e.Claim.Tariff.Articles))) krf ?_ ?_))
  ·refine sK (sN ⟨[0,5,10,11,12],[1000],[],[]⟩ ⟨[(0, .ptr 1000 0),(5, .ptr 1000 0),(10, .p (.sl 7 (mAr a0e.Claim.Tariff.Articles))),(11,I (lenI (mAr a0e.Claim.Tariff.Articles))),(12,I l1_1)],[(1000, .box 67 (List.set (bxc (GAE.cs ⟨a0e.Claim,a0e.follows,(⟨[],a0e.bill.Net,a0e.bill.Tax,a0e.bill.Total⟩:GBill),a0e.rate⟩)) 19 (zS)))]⟩ krf (sS (sB (sS (sG (xR 1 krf ?_))))))
   refine xG krf krf (aop_idx (e:=73) (S:=7) (enc:=GAr.cs) (l:=a0e.Claim.Tariff.Articles) (k:=.i64) (n:=l1_1) (sv:=.p (.sl 7 (mAr a0e.Claim.Tariff.Articles))) rfl krf krf krf krf krf) (fun x2=>?_)
   refine xR 4 krf (xE (sN ⟨[0,2,3,5,10,11,12],[3,1000],[],[]⟩ ⟨[(0, .ptr 1000 0),(2,I l1_1),(3, .ptr 3 0),(5, .ptr 1000 0),(10, .p (.sl 7 (mAr a0e.Claim.Tariff.Articles))),(11,I (lenI (mAr a0e.Claim.Tariff.Articles))),(12,I l1_1)],[(3, .box 73 (bxc (GAr.cs x2))),(1000, .box 67 (List.set (bxc (GAE.cs ⟨a0e.Claim,a0e.follows,(⟨[],a0e.bill.Net,a0e.bill.Tax,a0e.bill.Total⟩:GBill),a0e.rate⟩)) 19 (zS)))]⟩ krf (sS (sim_bind (fun j3=>⟨[(0, .ptr 1000 0),(2,I l1_1),(3, .ptr 3 0),(5, .ptr 1000 0),(10, .p (.sl 7 (mAr a0e.Claim.Tariff.Articles))),(11,I (lenI (mAr a0e.Claim.Tariff.Articles))),(12,I l1_1),(24,B j3)],[(3, .box 73 (bxc (GAr.cs x2))),(1000, .box 67 (List.set (bxc (GAE.cs ⟨a0e.Claim,a0e.follows,(⟨[],a0e.bill.Net,a0e.bill.Tax,a0e.bill.Total⟩:GBill),a0e.rate⟩)) 19 (zS)))]⟩:Bool→St) ?_ ?_))))
   ·refine sG (xR 4 krf ?_)
    refine xS (eqI x2.Kind 5) (fun h4=>?_) (fun h4=>?_)
    ·refine xN (want_ft krf h4) krf (xR 3 krf (xE ?_))
     exact nq_n true ⟨[0,2,3,5,10,11,12,24],[3,1000],[],[]⟩ krf
    ·refine xO (want_ff krf h4) krf (xR 3 krf (xE ?_))
     exact nq_n (eqI x2.Kind 6) ⟨[0,2,3,5,10,11,12,24],[3,1000],[],[]⟩ krf
   ·rintro j3
    refine sC j3 krf ?_ ?_
    ·refine sim_exit (sq_x (bq_hit (sN ⟨[0,5,10,11,12],[1000],[],[]⟩ ⟨[(0, .ptr 1000 0),(5, .ptr 1000 0),(10, .p (.sl 7 (mAr a0e.Claim.Tariff.Articles))),(11,I (lenI (mAr a0e.Claim.Tariff.Articles))),(12,I l1_1)],[(1000, .box 67 (List.set (bxc (GAE.cs ⟨a0e.Claim,a0e.follows,(⟨[],a0e.bill.Net,a0e.bill.Tax,a0e.bill.Total⟩:GBill),a0e.rate⟩)) 19 (zS)))]⟩ krf (sL tfm krf ?_))))
     exact kq_n (wi (l1_1+1),OL.nil) ⟨[0,5,10,11,12],[1000],[],[]⟩ krf
    ·refine sK (sN ⟨[0,2,3,5,10,11,12],[3,1000],[],[]⟩ ⟨[(0, .ptr 1000 0),(2,I l1_1),(3, .ptr 3 0),(5, .ptr 1000 0),(10, .p (.sl 7 (mAr a0e.Claim.Tariff.Articles))),(11,I (lenI (mAr a0e.Claim.Tariff.Articles))),(12,I l1_1)],[(3, .box 73 (bxc (GAr.cs x2))),(1000, .box 67 (List.set (bxc (GAE.cs ⟨a0e.Claim,a0e.follows,(⟨[],a0e.bill.Net,a0e.bill.Tax,a0e.bill.Total⟩:GBill),a0e.rate⟩)) 19 (zS)))]⟩ krf (sS (sG (xR 2 krf ?_))))
     refine xs_ro [.ro [.id, .id, .id, .id, .id, .id, .id, .id, .id, .id, .id, .id, .id, .id, .id, .id, .id, .id, .id, .sl 2, .id, .id, .id, .id], .cv (.id)] krf (g_ae_cost_ok n (⟨a0e.Claim,a0e.follows,(⟨OL.nil.toL,a0e.bill.Net,a0e.bill.Tax,a0e.bill.Total⟩:GBill),a0e.rate⟩:GAE) x2) krf krf (fun _=>by kernel_rfl) (fun r5=>?_)
     refine xR 1 krf (xE (sN ⟨[0,2,4,5,10,11,12],[1000],[],[]⟩ ⟨[(0, .ptr 1000 0),(2,I l1_1),(4,I r5),(5, .ptr 1000 0),(10, .p (.sl 7 (mAr a0e.Claim.Tariff.Articles))),(11,I (lenI (mAr a0e.Claim.Tariff.Articles))),(12,I l1_1)],[(1000, .box 67 (List.set (bxc (GAE.cs ⟨a0e.Claim,a0e.follows,(⟨[],a0e.bill.Net,a0e.bill.Tax,a0e.bill.Total⟩:GBill),a0e.rate⟩)) 19 (zS)))]⟩ krf (sS (sG (xR 2 krf ?_)))))
     refine xs_exc [] krf (g_a_need_ok n (leI r5 1000000000) 4) krf krf (fun _=>by kernel_rfl) (fun _=>by kernel_rfl) (fun r6=>?_) (fun e7=>?_)
     ·refine xE (sN ⟨[0,2,4,5,10,11,12],[1000],[],[]⟩ ⟨[(0, .ptr 1000 0),(2,I l1_1),(4,I r5),(5, .ptr 1000 0),(10, .p (.sl 7 (mAr a0e.Claim.Tariff.Articles))),(11,I (lenI (mAr a0e.Claim.Tariff.Articles))),(12,I l1_1)],[(1000, .box 67 (List.set (bxc (GAE.cs ⟨a0e.Claim,a0e.follows,(⟨[],a0e.bill.Net,a0e.bill.Tax,a0e.bill.Total⟩:GBill),a0e.rate⟩)) 19 (zS)))]⟩ krf (sG (xR 10 krf (xF krf krf (aop_app0 (e:=69) (S:=2) (by_:=16) (enc:=GLine.cs) (d:=41) (l2:=[(⟨l1_1,r5⟩:GLine)]) (xv:=.tsl 2 (mLine [(⟨l1_1,r5⟩:GLine)]) 40) rfl rfl krf krf rfl krf krf krf rfl krf) (xR 4 krf (xE (bq_n ?_)))))))
      refine sN ⟨[0,4,5,10,11,12],[41,1000],[],[]⟩ ⟨[(0, .ptr 1000 0),(4,I r5),(5, .ptr 1000 0),(10, .p (.sl 7 (mAr a0e.Claim.Tariff.Articles))),(11,I (lenI (mAr a0e.Claim.Tariff.Articles))),(12,I l1_1)],[(41, .arr 69 2 (mLine (OL.nil.toL++[(⟨l1_1,r5⟩:GLine)])).length),(1000, .box 67 (List.set (bxc (GAE.cs ⟨a0e.Claim,a0e.follows,(⟨[],a0e.bill.Net,a0e.bill.Tax,a0e.bill.Total⟩:GBill),a0e.rate⟩)) 19 (.tsl 2 (mLine (OL.nil.toL++[(⟨l1_1,r5⟩:GLine)])) 41)))]⟩ krf (sL tfm krf ?_)
      exact kq_n (wi (l1_1+1),OL.own (OL.nil.toL++[(⟨l1_1,r5⟩:GLine)])) ⟨[0,5,10,11,12],[1000,41],[],[]⟩ krf
     ·refine sq_p (bq_p (sq_p (kq_p (bq_p ?_))))
      exact hq_p [1000] [(1000,[.id, .id, .id, .id, .id, .id, .id, .id, .id, .id, .id, .id, .id, .id, .id, .id, .id, .id, .id, .sl 2, .id, .id, .id, .id])] krf krf krf
  ·refine sim_exit (sq_x (kq_x (bq_hit ?_)))
   exact hq_n (.id) [1000] [(1000,[.id, .id, .id, .id, .id, .id, .id, .id, .id, .id, .id, .id, .id, .id, .id, .id, .id, .id, .id, .sl 2, .id, .id, .id, .id])] krf krf krf krf
 ·refine sR tfm ⟨[0,5,10,11,12,13],[41,1000],[],[]⟩ ⟨[(0, .ptr 1000 0),(5, .ptr 1000 0),(10, .p (.sl 7 (mAr a0e.Claim.Tariff.Articles))),(11,I (lenI (mAr a0e.Claim.Tariff.Articles))),(12,I l1_1),(13,B (ltI l1_1 (lenI (mAr a0e.Claim.Tariff.Articles))))],[(41, .arr 69 2 (mLine (OL.own ow_l1_2).toL).length),(1000, .box 67 (List.set (bxc (GAE.cs ⟨a0e.Claim,a0e.follows,(⟨[],a0e.bill.Net,a0e.bill.Tax,a0e.bill.Total⟩:GBill),a0e.rate⟩)) 19 (.tsl 2 (mLine (OL.own ow_l1_2).toL) 41)))]⟩ krf (sS (sC (ltI l1_1 (lenI (mAr a0e.Claim.Tariff.Articles))) krf ?_ ?_))
  ·refine sK (sN ⟨[0,5,10,11,12],[41,1000],[],[]⟩ ⟨[(0, .ptr 1000 0),(5, .ptr 1000 0),(10, .p (.sl 7 (mAr a0e.Claim.Tariff.Articles))),(11,I (lenI (mAr a0e.Claim.Tariff.Articles))),(12,I l1_1)],[(41, .arr 69 2 (mLine (OL.own ow_l1_2).toL).length),(1000, .box 67 (List.set (bxc (GAE.cs ⟨a0e.Claim,a0e.follows,(⟨[],a0e.bill.Net,a0e.bill.Tax,a0e.bill.Total⟩:GBill),a0e.rate⟩)) 19 (.tsl 2 (mLine (OL.own ow_l1_2).toL) 41)))]⟩ krf (sS (sB (sS (sG (xR 1 krf ?_))))))
   refine xG krf krf (aop_idx (e:=73) (S:=7) (enc:=GAr.cs) (l:=a0e.Claim.Tariff.Articles) (k:=.i64) (n:=l1_1) (sv:=.p (.sl 7 (mAr a0e.Claim.Tariff.Articles))) rfl krf krf krf krf krf) (fun x2=>?_)
   refine xR 4 krf (xE (sN ⟨[0,2,3,5,10,11,12],[3,41,1000],[],[]⟩ ⟨[(0, .ptr 1000 0),(2,I l1_1),(3, .ptr 3 0),(5, .ptr 1000 0),(10, .p (.sl 7 (mAr a0e.Claim.Tariff.Articles))),(11,I (lenI (mAr a0e.Claim.Tariff.Articles))),(12,I l1_1)],[(3, .box 73 (bxc (GAr.cs x2))),(41, .arr 69 2 (mLine (OL.own ow_l1_2).toL).length),(1000, .box 67 (List.set (bxc (GAE.cs ⟨a0e.Claim,a0e.follows,(⟨[],a0e.bill.Net,a0e.bill.Tax,a0e.bill.Total⟩:GBill),a0e.rate⟩)) 19 (.tsl 2 (mLine (OL.own ow_l1_2).toL) 41)))]⟩ krf (sS (sim_bind (fun j3=>⟨[(0, .ptr 1000 0),(2,I l1_1),(3, .ptr 3 0),(5, .ptr 1000 0),(10, .p (.sl 7 (mAr a0e.Claim.Tariff.Articles))),(11,I (lenI (mAr a0e.Claim.Tariff.Articles))),(12,I l1_1),(24,B j3)],[(3, .box 73 (bxc (GAr.cs x2))),(41, .arr 69 2 (mLine (OL.own ow_l1_2).toL).length),(1000, .box 67 (List.set (bxc (GAE.cs ⟨a0e.Claim,a0e.follows,(⟨[],a0e.bill.Net,a0e.bill.Tax,a0e.bill.Total⟩:GBill),a0e.rate⟩)) 19 (.tsl 2 (mLine (OL.own ow_l1_2).toL) 41)))]⟩:Bool→St) ?_ ?_))))
   ·refine sG (xR 4 krf ?_)
    refine xS (eqI x2.Kind 5) (fun h4=>?_) (fun h4=>?_)
    ·refine xN (want_ft krf h4) krf (xR 3 krf (xE ?_))
     exact nq_n true ⟨[0,2,3,5,10,11,12,24],[3,41,1000],[],[]⟩ krf
    ·refine xO (want_ff krf h4) krf (xR 3 krf (xE ?_))
     exact nq_n (eqI x2.Kind 6) ⟨[0,2,3,5,10,11,12,24],[3,41,1000],[],[]⟩ krf
   ·rintro j3
    refine sC j3 krf ?_ ?_
    ·refine sim_exit (sq_x (bq_hit (sN ⟨[0,5,10,11,12],[41,1000],[],[]⟩ ⟨[(0, .ptr 1000 0),(5, .ptr 1000 0),(10, .p (.sl 7 (mAr a0e.Claim.Tariff.Articles))),(11,I (lenI (mAr a0e.Claim.Tariff.Articles))),(12,I l1_1)],[(41, .arr 69 2 (mLine (OL.own ow_l1_2).toL).length),(1000, .box 67 (List.set (bxc (GAE.cs ⟨a0e.Claim,a0e.follows,(⟨[],a0e.bill.Net,a0e.bill.Tax,a0e.bill.Total⟩:GBill),a0e.rate⟩)) 19 (.tsl 2 (mLine (OL.own ow_l1_2).toL) 41)))]⟩ krf (sL tfm krf ?_))))
     exact kq_n (wi (l1_1+1),(OL.own ow_l1_2)) ⟨[0,5,10,11,12],[1000,41],[],[]⟩ krf
    ·refine sK (sN ⟨[0,2,3,5,10,11,12],[3,41,1000],[],[]⟩ ⟨[(0, .ptr 1000 0),(2,I l1_1),(3, .ptr 3 0),(5, .ptr 1000 0),(10, .p (.sl 7 (mAr a0e.Claim.Tariff.Articles))),(11,I (lenI (mAr a0e.Claim.Tariff.Articles))),(12,I l1_1)],[(3, .box 73 (bxc (GAr.cs x2))),(41, .arr 69 2 (mLine (OL.own ow_l1_2).toL).length),(1000, .box 67 (List.set (bxc (GAE.cs ⟨a0e.Claim,a0e.follows,(⟨[],a0e.bill.Net,a0e.bill.Tax,a0e.bill.Total⟩:GBill),a0e.rate⟩)) 19 (.tsl 2 (mLine (OL.own ow_l1_2).toL) 41)))]⟩ krf (sS (sG (xR 2 krf ?_))))
     refine xs_ro [.ro [.id, .id, .id, .id, .id, .id, .id, .id, .id, .id, .id, .id, .id, .id, .id, .id, .id, .id, .id, .sl 2, .id, .id, .id, .id], .cv (.id)] krf (g_ae_cost_ok n (⟨a0e.Claim,a0e.follows,(⟨(OL.own ow_l1_2).toL,a0e.bill.Net,a0e.bill.Tax,a0e.bill.Total⟩:GBill),a0e.rate⟩:GAE) x2) krf krf (fun _=>by kernel_rfl) (fun r5=>?_)
     refine xR 1 krf (xE (sN ⟨[0,2,4,5,10,11,12],[41,1000],[],[]⟩ ⟨[(0, .ptr 1000 0),(2,I l1_1),(4,I r5),(5, .ptr 1000 0),(10, .p (.sl 7 (mAr a0e.Claim.Tariff.Articles))),(11,I (lenI (mAr a0e.Claim.Tariff.Articles))),(12,I l1_1)],[(41, .arr 69 2 (mLine (OL.own ow_l1_2).toL).length),(1000, .box 67 (List.set (bxc (GAE.cs ⟨a0e.Claim,a0e.follows,(⟨[],a0e.bill.Net,a0e.bill.Tax,a0e.bill.Total⟩:GBill),a0e.rate⟩)) 19 (.tsl 2 (mLine (OL.own ow_l1_2).toL) 41)))]⟩ krf (sS (sG (xR 2 krf ?_)))))
     refine xs_exc [] krf (g_a_need_ok n (leI r5 1000000000) 4) krf krf (fun _=>by kernel_rfl) (fun _=>by kernel_rfl) (fun r6=>?_) (fun e7=>?_)
     ·refine xE (sN ⟨[0,2,4,5,10,11,12],[41,1000],[],[]⟩ ⟨[(0, .ptr 1000 0),(2,I l1_1),(4,I r5),(5, .ptr 1000 0),(10, .p (.sl 7 (mAr a0e.Claim.Tariff.Articles))),(11,I (lenI (mAr a0e.Claim.Tariff.Articles))),(12,I l1_1)],[(41, .arr 69 2 (mLine (OL.own ow_l1_2).toL).length),(1000, .box 67 (List.set (bxc (GAE.cs ⟨a0e.Claim,a0e.follows,(⟨[],a0e.bill.Net,a0e.bill.Tax,a0e.bill.Total⟩:GBill),a0e.rate⟩)) 19 (.tsl 2 (mLine (OL.own ow_l1_2).toL) 41)))]⟩ krf (sG (xR 10 krf (xF krf krf (aop_app (e:=69) (S:=2) (by_:=16) (enc:=GLine.cs) (tk:=41) (l:=(OL.own ow_l1_2).toL) (l2:=[(⟨l1_1,r5⟩:GLine)]) (xv:=.tsl 2 (mLine [(⟨l1_1,r5⟩:GLine)]) 40) rfl krf krf rfl krf krf krf rfl krf) (xR 4 krf (xE (bq_n ?_)))))))
      refine sN ⟨[0,4,5,10,11,12],[41,1000],[],[]⟩ ⟨[(0, .ptr 1000 0),(4,I r5),(5, .ptr 1000 0),(10, .p (.sl 7 (mAr a0e.Claim.Tariff.Articles))),(11,I (lenI (mAr a0e.Claim.Tariff.Articles))),(12,I l1_1)],[(41, .arr 69 2 (mLine ((OL.own ow_l1_2).toL++[(⟨l1_1,r5⟩:GLine)])).length),(1000, .box 67 (List.set (bxc (GAE.cs ⟨a0e.Claim,a0e.follows,(⟨[],a0e.bill.Net,a0e.bill.Tax,a0e.bill.Total⟩:GBill),a0e.rate⟩)) 19 (.tsl 2 (mLine ((OL.own ow_l1_2).toL++[(⟨l1_1,r5⟩:GLine)])) 41)))]⟩ krf (sL tfm krf ?_)
      exact kq_n (wi (l1_1+1),OL.own ((OL.own ow_l1_2).toL++[(⟨l1_1,r5⟩:GLine)])) ⟨[0,5,10,11,12],[1000,41],[],[]⟩ krf
     ·refine sq_p (bq_p (sq_p (kq_p (bq_p ?_))))
      exact hq_p [1000] [(1000,[.id, .id, .id, .id, .id, .id, .id, .id, .id, .id, .id, .id, .id, .id, .id, .id, .id, .id, .id, .sl 2, .id, .id, .id, .id])] krf krf krf
  ·refine sim_exit (sq_x (kq_x (bq_hit ?_)))
   exact hq_n (.id) [1000] [(1000,[.id, .id, .id, .id, .id, .id, .id, .id, .id, .id, .id, .id, .id, .id, .id, .id, .id, .id, .id, .sl 2, .id, .id, .id, .id])] krf krf krf krf
def g_a_same_api_Line_l1 (a0a:List GLine) (a1b:List GLine) (recl1:Int→Option Bool) (l1:Int):Option Bool :=
 cond (ltI l1 (lenI (List.map GLine.cs a0a)))
  ((getI a0a l1).bind fun x2 =>
  (getI a1b l1).bind fun x3 =>
  cond (!opq ((eqI x2.Article x3.Article)&&((eqI x2.Amount x3.Amount)&&true)))
   (some false)
   (recl1 (wi (l1+1))))
  (some true)
def g_a_same_api_Line (n:Nat) (a0a:List GLine) (a1b:List GLine):Option Bool :=
 cond (!eqI (lenI (List.map GLine.cs a0a)) (lenI (List.map GLine.cs a1b)))
  (some false)
  (loopN (fun recl1 l1=>g_a_same_api_Line_l1 a0a a1b recl1 l1) n 0)
theorem g_a_same_api_Line_ok (n:Nat) (a0a:List GLine) (a1b:List GLine):∀ r,g_a_same_api_Line n a0a a1b=some r→PCall Tryz.prog 48 [.p (.sl 2 (mLine a0a)), .p (.sl 2 (mLine a1b))] (.ret (B r)):=by
 refine pcall_sim (X:=fun r:Bool=>AEnd.ret (B r)) Tryz.func48 rfl Tryz.ntmps48 rfl ?_
 unfold g_a_same_api_Line
 refine sR tfm ⟨[0,1,4],[],[],[]⟩ ⟨[(0, .p (.sl 2 (mLine a0a))),(1, .p (.sl 2 (mLine a1b))),(4,B false)],[]⟩ krf (sS (sR tfm ⟨[0,1,4,10],[],[],[]⟩ ⟨[(0, .p (.sl 2 (mLine a0a))),(1, .p (.sl 2 (mLine a1b))),(4,B false),(10,B (!eqI (lenI (mLine a0a)) (lenI (mLine a1b))))],[]⟩ krf (sC (!eqI (lenI (mLine a0a)) (lenI (mLine a1b))) krf ?_ ?_)))
 ·refine sR tfm ⟨[4],[],[],[]⟩ ⟨[(4,B false)],[]⟩ krf (sT (sq_r ?_))
  exact qR (.id) krf krf krf
 ·refine sK (sN ⟨[0,1,4],[],[],[]⟩ ⟨[(0, .p (.sl 2 (mLine a0a))),(1, .p (.sl 2 (mLine a1b))),(4,B false)],[]⟩ krf (sS (sR tfm ⟨[0,1,4,12,13],[],[],[]⟩ ⟨[(0, .p (.sl 2 (mLine a0a))),(1, .p (.sl 2 (mLine a1b))),(4,B false),(12,I (lenI (mLine a0a))),(13,I 0)],[]⟩ krf (sB (sim_loop (fun l1=>⟨[(0, .p (.sl 2 (mLine a0a))),(1, .p (.sl 2 (mLine a1b))),(4,B false),(12,I (lenI (mLine a0a))),(13,I l1)],[]⟩:Int→St) (weak_shr (K:=⟨[0,1,4,12,13],[],[],[]⟩) krf) ?_)))))
  rintro recl1 l1
  show SimE (g_a_same_api_Line_l1 a0a a1b recl1 l1) _ _ _ _ _ _
  unfold g_a_same_api_Line_l1
  refine sR tfm ⟨[0,1,4,12,13,14],[],[],[]⟩ ⟨[(0, .p (.sl 2 (mLine a0a))),(1, .p (.sl 2 (mLine a1b))),(4,B false),(12,I (lenI (mLine a0a))),(13,I l1),(14,B (ltI l1 (lenI (mLine a0a))))],[]⟩ krf (sS (sC (ltI l1 (lenI (mLine a0a))) krf ?_ ?_))
  ·refine sK (sN ⟨[0,1,4,12,13],[],[],[]⟩ ⟨[(0, .p (.sl 2 (mLine a0a))),(1, .p (.sl 2 (mLine a1b))),(4,B false),(12,I (lenI (mLine a0a))),(13,I l1)],[]⟩ krf (sS (sB (sR tfm ⟨[0,1,4,5,12,13],[],[],[]⟩ ⟨[(0, .p (.sl 2 (mLine a0a))),(1, .p (.sl 2 (mLine a1b))),(4,B false),(5,I l1),(12,I (lenI (mLine a0a))),(13,I l1)],[]⟩ krf (sS (sim_drw tfm rfl (xR 2 krf ?_)))))))
   refine xG krf krf (aop_idx (e:=69) (S:=2) (enc:=GLine.cs) (l:=a0a) (k:=.i64) (n:=l1) (sv:=.p (.sl 2 (mLine a0a))) rfl krf krf krf krf krf) (fun x2=>?_)
   refine xR 3 krf ?_
   refine xG krf krf (aop_idx (e:=69) (S:=2) (enc:=GLine.cs) (l:=a1b) (k:=.i64) (n:=l1) (sv:=.p (.sl 2 (mLine a1b))) rfl krf krf krf krf krf) (fun x3=>?_)
   refine xR 1 krf (xs_u krf krf (aop_neq (xs:=[I x2.Article,I x2.Amount]) (ys:=[I x3.Article,I x3.Amount]) (vx:=[.int .i64 x2.Article, .int .i64 x2.Amount]) (vy:=[.int .i64 x3.Article, .int .i64 x3.Amount]) (b:=(eqI x2.Article x3.Article)&&((eqI x2.Amount x3.Amount)&&true)) rfl krf krf krf krf krf krf) (xs_endD krf (sN ⟨[0,1,4,5,12,13,24],[],[],[]⟩ ⟨[(0, .p (.sl 2 (mLine a0a))),(1, .p (.sl 2 (mLine a1b))),(4,B false),(5,I l1),(12,I (lenI (mLine a0a))),(13,I l1),(24,B (!opq ((eqI x2.Article x3.Article)&&((eqI x2.Amount x3.Amount)&&true))))],[]⟩ krf (sC (!opq ((eqI x2.Article x3.Article)&&((eqI x2.Amount x3.Amount)&&true))) krf ?_ ?_))))
   ·refine sR tfm ⟨[4],[],[],[]⟩ ⟨[(4,B false)],[]⟩ krf (sT (bq_r (sq_r (kq_r (bq_r (sq_r ?_))))))
    exact qR (.id) krf krf krf
   ·refine sK (bq_n (sN ⟨[0,1,4,5,12,13],[],[],[]⟩ ⟨[(0, .p (.sl 2 (mLine a0a))),(1, .p (.sl 2 (mLine a1b))),(4,B false),(5,I l1),(12,I (lenI (mLine a0a))),(13,I l1)],[]⟩ krf (sL tfm krf ?_)))
    exact kq_n (wi (l1+1)) ⟨[0,1,4,12,13],[],[],[]⟩ krf
  ·refine sim_exit (sq_x (kq_x (bq_hit (sN ⟨[4],[],[],[]⟩ ⟨[(4,B false)],[]⟩ krf (sR tfm ⟨[4],[],[],[]⟩ ⟨[(4,B true)],[]⟩ krf (sT ?_))))))
   exact qR (.id) krf krf krf
def g_ae_add_l2 (a0e:GAE) (recl2:(Int × Int)→Option Int) (l2_1:Int) (l2_2:Int):Option Int :=
 cond (ltI l2_1 (lenI (List.map GLine.cs a0e.bill.Lines)))
  ((getI a0e.bill.Lines l2_1).bind fun x3 =>
  recl2 (wi (l2_1+1),wi (l2_2+x3.Amount)))
  (some l2_2)
def g_ae_add_l5 (a0e:GAE) (recl5:(Int × Int)→Option Int) (l5_1:Int) (l5_2:Int):Option Int :=
 cond (ltI l5_1 (lenI (List.map GAr.cs a0e.Claim.Tariff.Articles)))
  ((getI a0e.Claim.Tariff.Articles l5_1).bind fun x6 =>
  cond (eqI x6.Kind 5)
   (recl5 (wi (l5_1+1),minI l5_2 x6.Price))
   (recl5 (wi (l5_1+1),l5_2)))
  (some l5_2)
def g_ae_add (n:Nat) (a0e:GAE):Option (Except (Int × GAE) GAE) :=
 (loopN (fun recl2 (l2_1,l2_2)=>g_ae_add_l2 a0e recl2 l2_1 l2_2) n (0,a0e.bill.Net)).bind fun j1 =>
 (loopN (fun recl5 (l5_1,l5_2)=>g_ae_add_l5 a0e recl5 l5_1 l5_2) n (0,j1)).bind fun j4 =>
 (g_a_need n (leI j4 1000000000) 5).bind (exc (fun r7 =>
  (g_a_need n (leI (wi (j4+(wi (Int.tdiv (wi ((wi ((wi (2 * j4)) * a0e.rate))+10000)) 20000)))) 1000000000) 5).bind (exc (fun r9 =>
   some (.ok (⟨a0e.Claim,a0e.follows,(⟨a0e.bill.Lines,j4,wi (Int.tdiv (wi ((wi ((wi (2 * j4)) * a0e.rate))+10000)) 20000),wi (j4+(wi (Int.tdiv (wi ((wi ((wi (2 * j4)) * a0e.rate))+10000)) 20000)))⟩:GBill),a0e.rate⟩:GAE))) fun e10=>some (.error (e10,(⟨a0e.Claim,a0e.follows,(⟨a0e.bill.Lines,j4,wi (Int.tdiv (wi ((wi ((wi (2 * j4)) * a0e.rate))+10000)) 20000),wi (j4+(wi (Int.tdiv (wi ((wi ((wi (2 * j4)) * a0e.rate))+10000)) 20000)))⟩:GBill),a0e.rate⟩:GAE))))) fun e8=>some (.error (e8,(⟨a0e.Claim,a0e.follows,(⟨a0e.bill.Lines,j4,a0e.bill.Tax,a0e.bill.Total⟩:GBill),a0e.rate⟩:GAE))))
theorem g_ae_add_ok (n:Nat) (a0e:GAE):∀ r,g_ae_add n a0e=some r→ACall Tryz.prog 49 [.ptr 1000 0] (Go.Abs.look [(1000, .box 67 (bxc (GAE.cs a0e)))]) (heapR (excX (fun r:GAE=>((.ret (.tup []),[(1000, .box 67 (bxc (GAE.cs r)))]):AEnd × List (Nat × Blk))) (fun e:Int × GAE=>((.panic (.ifc 128 (.agg [I e.1])),[(1000, .box 67 (bxc (GAE.cs e.2)))]):AEnd × List (Nat × Blk)))) r):=by
 refine acall_sim (X:=excX (fun r:GAE=>((.ret (.tup []),[(1000, .box 67 (bxc (GAE.cs r)))]):AEnd × List (Nat × Blk))) (fun e:Int × GAE=>((.panic (.ifc 128 (.agg [I e.1])),[(1000, .box 67 (bxc (GAE.cs e.2)))]):AEnd × List (Nat × Blk)))) [(1000, .box 67 (bxc (GAE.cs a0e)))] Tryz.func49 rfl Tryz.ntmps49 rfl ?_
 unfold g_ae_add
 refine sim_bind (fun j1=>⟨[(0, .ptr 1000 0)],[(1000, .box 67 (bxc (GAE.cs ⟨a0e.Claim,a0e.follows,(⟨a0e.bill.Lines,j1,a0e.bill.Tax,a0e.bill.Total⟩:GBill),a0e.rate⟩)))]⟩:Int→St) ?_ ?_
 ·refine sR tfm ⟨[0,10,11,12],[1000],[],[]⟩ ⟨[(0, .ptr 1000 0),(10, .p (.sl 2 (mLine a0e.bill.Lines))),(11,I (lenI (mLine a0e.bill.Lines))),(12,I 0)],[(1000, .box 67 (bxc (GAE.cs a0e)))]⟩ krf (sB (sim_loop (fun (l2_1,l2_2)=>⟨[(0, .ptr 1000 0),(10, .p (.sl 2 (mLine a0e.bill.Lines))),(11,I (lenI (mLine a0e.bill.Lines))),(12,I l2_1)],[(1000, .box 67 (bxc (GAE.cs ⟨a0e.Claim,a0e.follows,(⟨a0e.bill.Lines,l2_2,a0e.bill.Tax,a0e.bill.Total⟩:GBill),a0e.rate⟩)))]⟩:(Int × Int)→St) (weak_shr (K:=⟨[0,10,11,12],[1000],[],[]⟩) krf) ?_))
  rintro recl2 ⟨l2_1,l2_2⟩
  show SimE (g_ae_add_l2 a0e recl2 l2_1 l2_2) _ _ _ _ _ _
  unfold g_ae_add_l2
  refine sR tfm ⟨[0,10,11,12,13],[1000],[],[]⟩ ⟨[(0, .ptr 1000 0),(10, .p (.sl 2 (mLine a0e.bill.Lines))),(11,I (lenI (mLine a0e.bill.Lines))),(12,I l2_1),(13,B (ltI l2_1 (lenI (mLine a0e.bill.Lines))))],[(1000, .box 67 (bxc (GAE.cs ⟨a0e.Claim,a0e.follows,(⟨a0e.bill.Lines,l2_2,a0e.bill.Tax,a0e.bill.Total⟩:GBill),a0e.rate⟩)))]⟩ krf (sS (sC (ltI l2_1 (lenI (mLine a0e.bill.Lines))) krf ?_ ?_))
  ·refine sK (sN ⟨[0,10,11,12],[1000],[],[]⟩ ⟨[(0, .ptr 1000 0),(10, .p (.sl 2 (mLine a0e.bill.Lines))),(11,I (lenI (mLine a0e.bill.Lines))),(12,I l2_1)],[(1000, .box 67 (bxc (GAE.cs ⟨a0e.Claim,a0e.follows,(⟨a0e.bill.Lines,l2_2,a0e.bill.Tax,a0e.bill.Total⟩:GBill),a0e.rate⟩)))]⟩ krf (sS (sB (sS (sG ?_)))))
   refine xG krf krf (aop_idx (e:=69) (S:=2) (enc:=GLine.cs) (l:=a0e.bill.Lines) (k:=.i64) (n:=l2_1) (sv:=.p (.sl 2 (mLine a0e.bill.Lines))) rfl krf krf krf krf krf) (fun x3=>?_)
   refine xR 3 krf (xE (sN ⟨[0,3,10,11,12],[3,1000],[],[]⟩ ⟨[(0, .ptr 1000 0),(3, .ptr 3 0),(10, .p (.sl 2 (mLine a0e.bill.Lines))),(11,I (lenI (mLine a0e.bill.Lines))),(12,I l2_1)],[(3, .box 69 (bxc (GLine.cs x3))),(1000, .box 67 (bxc (GAE.cs ⟨a0e.Claim,a0e.follows,(⟨a0e.bill.Lines,l2_2,a0e.bill.Tax,a0e.bill.Total⟩:GBill),a0e.rate⟩)))]⟩ krf (sL tfm krf (bq_n (sN ⟨[0,10,11,12],[1000],[],[]⟩ ⟨[(0, .ptr 1000 0),(10, .p (.sl 2 (mLine a0e.bill.Lines))),(11,I (lenI (mLine a0e.bill.Lines))),(12,I l2_1)],[(1000, .box 67 (bxc (GAE.cs ⟨a0e.Claim,a0e.follows,(⟨a0e.bill.Lines,wi (l2_2+x3.Amount),a0e.bill.Tax,a0e.bill.Total⟩:GBill),a0e.rate⟩)))]⟩ krf (sL tfm krf ?_))))))
   exact kq_n (wi (l2_1+1),wi (l2_2+x3.Amount)) ⟨[0,10,11,12],[1000],[],[]⟩ krf
  ·refine sim_exit (sq_x (kq_x (bq_hit ?_)))
   exact nq_n l2_2 ⟨[0],[1000],[],[]⟩ krf
 ·rintro j1
  refine sim_bind (fun j4=>⟨[(0, .ptr 1000 0)],[(1000, .box 67 (bxc (GAE.cs ⟨a0e.Claim,a0e.follows,(⟨a0e.bill.Lines,j4,a0e.bill.Tax,a0e.bill.Total⟩:GBill),a0e.rate⟩)))]⟩:Int→St) ?_ ?_
  ·refine sR tfm ⟨[0,33,34,35],[1000],[],[]⟩ ⟨[(0, .ptr 1000 0),(33, .p (.sl 7 (mAr a0e.Claim.Tariff.Articles))),(34,I (lenI (mAr a0e.Claim.Tariff.Articles))),(35,I 0)],[(1000, .box 67 (bxc (GAE.cs ⟨a0e.Claim,a0e.follows,(⟨a0e.bill.Lines,j1,a0e.bill.Tax,a0e.bill.Total⟩:GBill),a0e.rate⟩)))]⟩ krf (sB (sim_loop (fun (l5_1,l5_2)=>⟨[(0, .ptr 1000 0),(33, .p (.sl 7 (mAr a0e.Claim.Tariff.Articles))),(34,I (lenI (mAr a0e.Claim.Tariff.Articles))),(35,I l5_1)],[(1000, .box 67 (bxc (GAE.cs ⟨a0e.Claim,a0e.follows,(⟨a0e.bill.Lines,l5_2,a0e.bill.Tax,a0e.bill.Total⟩:GBill),a0e.rate⟩)))]⟩:(Int × Int)→St) (weak_shr (K:=⟨[0,33,34,35],[1000],[],[]⟩) krf) ?_))
   rintro recl5 ⟨l5_1,l5_2⟩
   show SimE (g_ae_add_l5 a0e recl5 l5_1 l5_2) _ _ _ _ _ _
   unfold g_ae_add_l5
   refine sR tfm ⟨[0,33,34,35,36],[1000],[],[]⟩ ⟨[(0, .ptr 1000 0),(33, .p (.sl 7 (mAr a0e.Claim.Tariff.Articles))),(34,I (lenI (mAr a0e.Claim.Tariff.Articles))),(35,I l5_1),(36,B (ltI l5_1 (lenI (mAr a0e.Claim.Tariff.Articles))))],[(1000, .box 67 (bxc (GAE.cs ⟨a0e.Claim,a0e.follows,(⟨a0e.bill.Lines,l5_2,a0e.bill.Tax,a0e.bill.Total⟩:GBill),a0e.rate⟩)))]⟩ krf (sS (sC (ltI l5_1 (lenI (mAr a0e.Claim.Tariff.Articles))) krf ?_ ?_))
   ·refine sK (sN ⟨[0,33,34,35],[1000],[],[]⟩ ⟨[(0, .ptr 1000 0),(33, .p (.sl 7 (mAr a0e.Claim.Tariff.Articles))),(34,I (lenI (mAr a0e.Claim.Tariff.Articles))),(35,I l5_1)],[(1000, .box 67 (bxc (GAE.cs ⟨a0e.Claim,a0e.follows,(⟨a0e.bill.Lines,l5_2,a0e.bill.Tax,a0e.bill.Total⟩:GBill),a0e.rate⟩)))]⟩ krf (sS (sB (sS (sG ?_)))))
    refine xG krf krf (aop_idx (e:=73) (S:=7) (enc:=GAr.cs) (l:=a0e.Claim.Tariff.Articles) (k:=.i64) (n:=l5_1) (sv:=.p (.sl 7 (mAr a0e.Claim.Tariff.Articles))) rfl krf krf krf krf krf) (fun x6=>?_)
    refine xR 3 krf (xE (sN ⟨[0,5,33,34,35],[5,1000],[],[]⟩ ⟨[(0, .ptr 1000 0),(5, .ptr 5 0),(33, .p (.sl 7 (mAr a0e.Claim.Tariff.Articles))),(34,I (lenI (mAr a0e.Claim.Tariff.Articles))),(35,I l5_1)],[(5, .box 73 (bxc (GAr.cs x6))),(1000, .box 67 (bxc (GAE.cs ⟨a0e.Claim,a0e.follows,(⟨a0e.bill.Lines,l5_2,a0e.bill.Tax,a0e.bill.Total⟩:GBill),a0e.rate⟩)))]⟩ krf (sR tfm ⟨[0,5,33,34,35,41],[5,1000],[],[]⟩ ⟨[(0, .ptr 1000 0),(5, .ptr 5 0),(33, .p (.sl 7 (mAr a0e.Claim.Tariff.Articles))),(34,I (lenI (mAr a0e.Claim.Tariff.Articles))),(35,I l5_1),(41,B (eqI x6.Kind 5))],[(5, .box 73 (bxc (GAr.cs x6))),(1000, .box 67 (bxc (GAE.cs ⟨a0e.Claim,a0e.follows,(⟨a0e.bill.Lines,l5_2,a0e.bill.Tax,a0e.bill.Total⟩:GBill),a0e.rate⟩)))]⟩ krf (sC (eqI x6.Kind 5) krf ?_ ?_))))
    ·refine sL tfm krf (bq_n (sN ⟨[0,5,33,34,35],[5,1000],[],[]⟩ ⟨[(0, .ptr 1000 0),(5, .ptr 5 0),(33, .p (.sl 7 (mAr a0e.Claim.Tariff.Articles))),(34,I (lenI (mAr a0e.Claim.Tariff.Articles))),(35,I l5_1)],[(5, .box 73 (bxc (GAr.cs x6))),(1000, .box 67 (bxc (GAE.cs ⟨a0e.Claim,a0e.follows,(⟨a0e.bill.Lines,minI l5_2 x6.Price,a0e.bill.Tax,a0e.bill.Total⟩:GBill),a0e.rate⟩)))]⟩ krf (sL tfm krf ?_)))
     exact kq_n (wi (l5_1+1),minI l5_2 x6.Price) ⟨[0,33,34,35],[1000],[],[]⟩ krf
    ·refine sK (bq_n (sN ⟨[0,5,33,34,35],[5,1000],[],[]⟩ ⟨[(0, .ptr 1000 0),(5, .ptr 5 0),(33, .p (.sl 7 (mAr a0e.Claim.Tariff.Articles))),(34,I (lenI (mAr a0e.Claim.Tariff.Articles))),(35,I l5_1)],[(5, .box 73 (bxc (GAr.cs x6))),(1000, .box 67 (bxc (GAE.cs ⟨a0e.Claim,a0e.follows,(⟨a0e.bill.Lines,l5_2,a0e.bill.Tax,a0e.bill.Total⟩:GBill),a0e.rate⟩)))]⟩ krf (sL tfm krf ?_)))
     exact kq_n (wi (l5_1+1),l5_2) ⟨[0,33,34,35],[1000],[],[]⟩ krf
   ·refine sim_exit (sq_x (kq_x (bq_hit ?_)))
    exact nq_n l5_2 ⟨[0],[1000],[],[]⟩ krf
  ·rintro j4
   refine sS (sG (xR 6 krf ?_))
   refine xs_exc [] krf (g_a_need_ok n (leI j4 1000000000) 5) krf krf (fun _=>by kernel_rfl) (fun _=>by kernel_rfl) (fun r7=>?_) (fun e8=>?_)
   ·refine xE (sN ⟨[0],[1000],[],[]⟩ ⟨[(0, .ptr 1000 0)],[(1000, .box 67 (bxc (GAE.cs ⟨a0e.Claim,a0e.follows,(⟨a0e.bill.Lines,j4,a0e.bill.Tax,a0e.bill.Total⟩:GBill),a0e.rate⟩)))]⟩ krf (sR tfm ⟨[0],[1000],[],[]⟩ ⟨[(0, .ptr 1000 0)],[(1000, .box 67 (bxc (GAE.cs ⟨a0e.Claim,a0e.follows,(⟨a0e.bill.Lines,j4,wi (Int.tdiv (wi ((wi ((wi (2 * j4)) * a0e.rate))+10000)) 20000),a0e.bill.Total⟩:GBill),a0e.rate⟩)))]⟩ krf (sR tfm ⟨[0],[1000],[],[]⟩ ⟨[(0, .ptr 1000 0)],[(1000, .box 67 (bxc (GAE.cs ⟨a0e.Claim,a0e.follows,(⟨a0e.bill.Lines,j4,wi (Int.tdiv (wi ((wi ((wi (2 * j4)) * a0e.rate))+10000)) 20000),wi (j4+(wi (Int.tdiv (wi ((wi ((wi (2 * j4)) * a0e.rate))+10000)) 20000)))⟩:GBill),a0e.rate⟩)))]⟩ krf (sG (xR 6 krf ?_)))))
    refine xs_exc [] krf (g_a_need_ok n (leI (wi (j4+(wi (Int.tdiv (wi ((wi ((wi (2 * j4)) * a0e.rate))+10000)) 20000)))) 1000000000) 5) krf krf (fun _=>by kernel_rfl) (fun _=>by kernel_rfl) (fun r9=>?_) (fun e10=>?_)
    ·refine xE ?_
     exact hq_n (.id) [1000] [] krf krf krf krf
    ·exact hq_p [1000] [] krf krf krf
   ·refine sq_p ?_
    exact hq_p [1000] [] krf krf krf
def g_a_caught (n:Nat) (a1part:Int):Option Int :=
 some a1part
theorem g_a_caught_ok (n:Nat) (a1part:Int):∀ r,g_a_caught n a1part=some r→ACall Tryz.prog 40 [.p (.val (.nilIface)), .ptr 1001 0] (Go.Abs.look [(1001, .box 3 [I a1part])]) (heapR (fun r:Int=>((.ret (.tup []),[(1001, .box 3 [I r])]):AEnd × List (Nat × Blk))) r):=by
 refine acall_sim (X:=fun r:Int=>((.ret (.tup []),[(1001, .box 3 [I r])]):AEnd × List (Nat × Blk))) [(1001, .box 3 [I a1part])] Tryz.func40 rfl Tryz.ntmps40 rfl ?_
 unfold g_a_caught
 refine sS (sR tfm ⟨[0,1,7],[1001],[],[]⟩ ⟨[(0, .p (.val (.nilIface))),(1, .ptr 1001 0),(7,B true)],[(1001, .box 3 [I a1part])]⟩ krf (sim_condT krf (sT (sq_r ?_))))
 exact hq_ret (.id) [1001] [] krf krf krf krf
def g_a_caught_2 (n:Nat) (a0x_0:Int) (a1part:Int):Option Int :=
 some a0x_0
end Go.Proofs
