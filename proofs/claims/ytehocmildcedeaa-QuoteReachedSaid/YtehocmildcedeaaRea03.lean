/-
  A part of the proof of a statement of the seat Ytehocmildcedeaa.
-/
import Derived.Test.YtehocmildcedeaaRea02
namespace Go.Abs
open Go
set_option linter.unusedVariables false
section
variable {R V E : Type} {a a1 a2 : Option R} {P : Program} {N : Nat} {ro : Option Nat} {ops : Array Oper} {o : Oper} {l : List Oper} {dr : Bool} {acc : List Foot} {s s' : St} {Q : R → AX → St → Prop} {K : R → St → Prop} {f : FuncId} {args args' : List AV} {dst : Option Tmp}
theorem exOp_call {P : Program} {N : Nat} {o : Oper} {s : St} {K : St → Prop} {Q : AX → St → Prop} {f : FuncId} {args : List AV} (hf : callOf (look s.T) o.op = some (f, args)) (hb : bodyOk P f = true) (h : CallEx P N f args o.dst s K Q) : ExOp P N o s K Q := by
 unfold ExOp
 split
 ·rename_i ho; rw [ho] at hf; simp [callOf] at hf
 ·rename_i ho; rw [ho] at hf; simp [callOf] at hf
 ·rename_i g aas ts ho
  rw [ho] at hf
  rw [hf]
  exact ⟨hb, h⟩
 ·rename_i h1 h2 h3
  have := callOf_isCall hf
  unfold isCall at this
  split at this
  ·rename_i ho; exact absurd ho (h3 _ _ _)
  ·cases this
theorem xs_enter (hw : wantA ops o (look s.T) = some true) (hf : callOf (look (gMark ops o s.T true)) o.op = some (f, args)) (hb : bodyOk P f = true) (h : SimC a P N f args o.dst (mk ops o s true) (fKr P N ops Q l) Q) : SimR a P N ops Q false acc (o :: l) s := by
 refine ⟨fun r hr => ?_⟩
 show ExOps P N ops (Q r) (o :: l) s
 simp only [ExOps, hw, splitB_true, yieldOf_callOf hf]
 exact exOp_call hf hb (h.h r hr)
theorem xs_enterL (hw : wantA ops o (look s.T) = some true) (hf : callOf (look (gMark ops o s.T true)) o.op = some (f, args)) (hb : (bodyOk P f && tailAll ops acc.length && commutes ops acc.reverse) = true)
  (h : SimC a P N f args o.dst (mk ops o s true) (fKq Q) Q) : SimR a P N ops Q true acc [o] s := by
 refine ⟨fun r hr => ?_⟩
 simp only [bae] at hb
 show ExDraw P N ops (Q r) [o] acc s
 simp only [ExDraw, hw, splitB_true]
 split
 ·rename_i ho; rw [ho] at hf; simp [callOf] at hf
 ·rename_i g aas ts ho
  exact .inr (.inl ⟨rfl, hb.1.2, hb.2, exOp_call hf hb.1.1 (h.h r hr)⟩)
 ·rename_i ho; rw [ho] at hf; simp [callOf] at hf
 ·rename_i h1 h2 h3
  have := callOf_isCall hf
  unfold isCall at this
  split at this
  ·rename_i ho; exact absurd ho (h2 _ _ _)
  ·cases this
theorem xs_seqL (hi : isCall o.op = true) (hw : wantA ops o (look s.T) = some true) (hb : (tailAll ops acc.length && commutes ops acc.reverse && tailSeq ops acc.length && (o :: l).all noTmpCall) = true) (h : SimR a P N ops Q false [] (o :: l) s) : SimR a P N ops Q true acc (o :: l) s := by
 refine ⟨fun r hr => ?_⟩
 simp only [bae] at hb
 have h1 : ExOps P N ops (Q r) (o :: l) s := h.h r hr
 show ExDraw P N ops (Q r) (o :: l) acc s
 simp only [ExDraw, hw, splitB_true]
 split
 ·rename_i ho; rw [ho] at hi; simp [isCall] at hi
 ·exact .inr (.inr (.inl ⟨hb.1.1.1, hb.1.1.2, hb.1.2, hb.2, h1⟩))
 ·rename_i ho; rw [ho] at hi; simp [isCall] at hi
 ·rename_i h1 h2 h3
  unfold isCall at hi
  split at hi
  ·rename_i ho; exact absurd ho (h2 _ _ _)
  ·cases hi
theorem xC {m : Option V} {k : V → Option R} {X : V → AV} (C : List Conv) (hw : wantA ops o (look s.T) = some true) (hc : ∀ v, m = some v → PCall P f args' (.ret (X v)))
  (hf : (callOf (look (gMark ops o s.T true)) o.op).map (fun p => (p.1, cvs C p.2)) = some (f, args')) (hb : (bodyOk P f && dstLt N o.dst && noRefs args') = true) (hx : ∀ v, noRef (X v) = true)
  (h : ∀ v, SimR (k v) P N ops Q dr ((none, []) :: acc) l (St.put (mk ops o s true) o.dst (X v))) : SimR (m.bind k) P N ops Q dr acc (o :: l) s := by
 refine ⟨fun r hr => ?_⟩
 obtain ⟨v, hv, hk⟩ := Option.bind_eq_some_iff.1 hr
 obtain ⟨⟨f0, args⟩, hcall, hp⟩ := Option.map_eq_some_iff.1 hf
 simp only [Prod.mk.injEq] at hp
 obtain ⟨rfl, rfl⟩ := hp
 simp only [bae] at hb
 cases dr with
 | false =>
  show ExOps P N ops (Q r) (o :: l) s
  simp only [ExOps, hw, splitB_true, yieldOf_callOf hcall]
  exact exOp_call hcall hb.1.1 (call_pure (hc v hv) (cvs_les C args) hb.2 (hx v) (dstLt_spec hb.1.2) ((h v).h r hk))
 | true =>
  show ExDraw P N ops (Q r) (o :: l) acc s
  simp only [ExDraw, hw, splitB_true]
  split
  ·rename_i ho; rw [ho] at hcall; simp [callOf] at hcall
  ·rename_i g aas ts ho
   rw [ho] at hcall
   exact dr_call (hc v hv) hcall hb.1.1 hb.1.2 (cvs_les C args) hb.2 (hx v) ((h v).h r hk)
  ·rename_i ho; rw [ho] at hcall; simp [callOf] at hcall
  ·rename_i h1 h2 h3
   have := callOf_isCall hcall
   unfold isCall at this
   split at this
   ·rename_i ho; exact absurd ho (h2 _ _ _)
   ·cases this
def excE (X : V → AV) (Y : E → AV) : Except E V → AEnd
 | .ok v => .ret (X v)
 | .error e => .panic (Y e)
theorem sc_exc {m : Option (Except E V)} {k : Except E V → Option R} {X : V → AV} {Y : E → AV} (C : List Conv) (hc : ∀ v, m = some v → PCall P f args' (excE X Y v)) (ha : cvs C args = args') (hb : (dstLt N dst && noRefs args') = true) (hx : ∀ v, noRef (X v) = true) (hy : ∀ e, noRef (Y e) = true)
  (h : ∀ v, SimK (k (.ok v)) K (s.put dst (X v))) (he : ∀ e, SimQ (k (.error e)) Q (.panic (Y e)) s) : SimC (m.bind k) P N f args dst s K Q := by
 refine ⟨fun r hr => ?_⟩
 obtain ⟨v, hv, hk⟩ := Option.bind_eq_some_iff.1 hr
 simp only [bae] at hb
 subst ha
 have h1 := hc v hv
 cases v with
 | ok v => exact call_pure h1 (cvs_les C args) hb.2 (hx v) (dstLt_spec hb.1) ((h v).h r hk)
 | error e => exact call_pure_panic h1 (cvs_les C args) hb.2 (hy e) ((he e).h r hk)
def exc {E V R : Type} (k : V → Option R) (e : E → Option R) : Except E V → Option R
 | .ok v => k v
 | .error x => e x
theorem xs_exc {m : Option (Except E V)} {k : V → Option R} {ke : E → Option R} {X : V → AV} {Y : E → AV} (C : List Conv) (hw : wantA ops o (look s.T) = some true) (hc : ∀ v, m = some v → PCall P f args' (excE X Y v))
  (hf : (callOf (look (gMark ops o s.T true)) o.op).map (fun p => (p.1, cvs C p.2)) = some (f, args')) (hb : (bodyOk P f && dstLt N o.dst && noRefs args') = true) (hx : ∀ v, noRef (X v) = true) (hy : ∀ e, noRef (Y e) = true)
  (h : ∀ v, SimR (k v) P N ops Q false ((none, []) :: acc) l (St.put (mk ops o s true) o.dst (X v))) (he : ∀ e, SimQ (ke e) Q (.panic (Y e)) (mk ops o s true)) : SimR (m.bind (exc k ke)) P N ops Q false acc (o :: l) s := by
 obtain ⟨⟨f0, args⟩, hcall, hp⟩ := Option.map_eq_some_iff.1 hf
 simp only [Prod.mk.injEq] at hp
 obtain ⟨rfl, hp⟩ := hp
 simp only [bae] at hb
 exact xs_enter hw hcall hb.1.1 (sc_exc C hc hp (by simp [hb]) hx hy (fun v => kr (h v)) he)
theorem xs_panic {x : Operand} (t : TypeId) (v : AV) (hw : wantA ops o (look s.T) = some true) (ho : o.op = .panic x) (hv : evO (look (gMark ops o s.T true)) x = some (.ifc t v)) (h : SimQ a Q (.panic (.ifc t v)) (mk ops o s true)) : SimR a P N ops Q false acc (o :: l) s := by
 refine ⟨fun r hr => ?_⟩
 show ExOps P N ops (Q r) (o :: l) s
 have hy : yieldOf (look (gMark ops o s.T true)) o.op = none := by simp [yieldOf, ho]
 simp only [ExOps, hw, splitB_true, hy]
 show ExOp P N o _ _ _
 unfold ExOp
 simp only [ho, hv]
 exact h.h r hr
def retQ (P : Program) (fn : Func) (X : R → AEnd) : R → AX → St → Prop := fun r => pureQ P fn (· = X r)
def retOf : AEnd → AV
 | .ret y => y
 | .panic y => y
theorem qR {X : V → AEnd} {v : V} {fn : Func} (C : Conv) (h : (resA P fn (look s.T) (look s.H)).map (cv C) = some (retOf (X v))) (hX : X v = .ret (retOf (X v))) (hn : noRef (retOf (X v)) = true) : SimQ (some v) (retQ P fn X) .ret s := by
 refine ⟨fun r hr => ?_⟩
 cases hr
 obtain ⟨x, h1, h2⟩ := Option.map_eq_some_iff.1 h
 exact ⟨x, retOf (X v), h1, h2 ▸ cv_le C x, hn, hX.symm⟩
theorem rq_n {X : V → AEnd} {v : V} {fn : Func} (C : Conv) (h : (resA P fn (look s.T) (look s.H)).map (cv C) = some (retOf (X v))) (hX : X v = .ret (retOf (X v))) (hn : noRef (retOf (X v)) = true) : SimQ (some v) (retQ P fn X) .normal s := by
 refine ⟨fun r hr => ?_⟩
 cases hr
 obtain ⟨x, h1, h2⟩ := Option.map_eq_some_iff.1 h
 exact ⟨x, retOf (X v), h1, h2 ▸ cv_le C x, hn, hX.symm⟩
theorem rq_p {X : V → AEnd} {v : V} {fn : Func} {p : AV} (hX : X v = .panic p) (hn : noRef p = true) : SimQ (some v) (retQ P fn X) (.panic p) s := by
 refine ⟨fun r hr => ?_⟩
 cases hr
 exact ⟨hn, hX.symm⟩
theorem pcall_sim {fn : Func} {c : Code} {X : R → AEnd} {n : Nat} (hf : P.funcs[f]? = some fn) (hb : fn.body = some c) (hn : fn.ntmps = n) (hl : Nat.ble args.length n = true) (h : SimE a P n none c ⟨argsT 0 args, []⟩ (retQ P fn X)) (r : R) (hr : a = some r) : PCall P f args (X r) := by
 subst hn
 exact pcall_of_ex hf hb (Nat.le_of_ble_eq_true hl) (h.h r hr)
end
def getI {α : Type} (l : List α) (i : Int) : Option α := if i < 0 then none else l[i.toNat]?
section
variable {P : Program} {o : Oper} {T : Nat → Option AV} {h : Heap}
theorem aop_quo {tx ty : TypeId} {x y : Operand} {k : IntKind} {a b : Int} (ho : o.op = .binOp .quo tx x y ty) (hx : evO T x = some (.p (.val (.int k a)))) (hy : evO T y = some (.p (.val (.int k b)))) (hc : (!eqI b 0) = true) :
  aop P o T h = some (.p (.val (.int k (k.wrap (a.tdiv b)))), none, []) := by
 have hb : ¬ b = 0 := by simpa [eqI] using hc
 simp [aop, ho, aBin, hx, hy, isShift, intRes, hb, orE]
theorem aop_rem {tx ty : TypeId} {x y : Operand} {k : IntKind} {a b : Int} (ho : o.op = .binOp .rem tx x y ty) (hx : evO T x = some (.p (.val (.int k a)))) (hy : evO T y = some (.p (.val (.int k b)))) (hc : (!eqI b 0) = true) :
  aop P o T h = some (.p (.val (.int k (a.tmod b))), none, []) := by
 have hb : ¬ b = 0 := by simpa [eqI] using hc
 simp [aop, ho, aBin, hx, hy, isShift, intRes, hb, orE]
theorem aop_shl {tx ty : TypeId} {x y : Operand} {k k' : IntKind} {a b : Int} (ho : o.op = .binOp .shl tx x y ty) (hx : evO T x = some (.p (.val (.int k a)))) (hy : evO T y = some (.p (.val (.int k' b)))) (hc : (!ltI b 0) = true) :
  aop P o T h = some (.p (.val (.int k (shlI k a b))), none, []) := by
 have hb : ¬ b < 0 := by simpa [ltI] using hc
 simp [aop, ho, aBin, hx, hy, isShift, shiftRes, hb, orE]
abbrev wi (x : Int) : Int := IntKind.i64.wrap x
abbrev wu (x : Int) : Int := IntKind.u64.wrap x
abbrev lenI {α : Type} (l : List α) : Int := (l.length : Int)
abbrev b2i (x : UInt8) : Int := (x.toNat : Int)
def maxI (a b : Int) : Int := if b > a then b else a
def minI (a b : Int) : Int := if b < a then b else a
theorem aop_idx {α : Type} {t e : TypeId} {x ix : Operand} {S : Nat} {enc : α → List PV} {l : List α} {k : IntKind} {n : Int} {sv : AV} (ho : o.op = .indexAddr t x ix) (hn : evO T ix = some (.p (.val (.int k n)))) (hx : evO T x = some sv) (hs : elems sv = some (S, List.map enc l))
  (ht : P.underlying t = some (.slice e)) (hi : (P.info? e).map (·.size) = some S) (v : α) (hv : getI l n = some v) : aop P o T h = some (.eptr (enc v), none, []) := by
 unfold getI at hv
 split at hv
 ·cases hv
 ·rename_i hneg
  obtain ⟨i, hi1, hi2⟩ := Option.map_eq_some_iff.1 hi
  have hsv : isV (some sv) = false := by
   cases sv with
   | p x => rfl
   | tsl S es t => rfl
   | _ => cases hs
  have h0 : 0 ≤ n := by omega
  simp [aop, ho, orE, hx, hsv, aIndexAddr, hn, ht, hs, hi1, hi2, h0, hv]
def idc (x : List PV) : List PV := x
theorem map_idc (l : List (List PV)) : List.map idc l = l := List.map_id l
theorem aop_idxR {α : Type} {t e : TypeId} {x ix : Operand} {S : Nat} {enc : α → List PV} {dec : List PV → Option α} {l : List (List PV)} {k : IntKind} {n : Int} {sv : AV} (hd : ∀ r v, dec r = some v → enc v = r) (ho : o.op = .indexAddr t x ix) (hn : evO T ix = some (.p (.val (.int k n)))) (hx : evO T x = some sv) (hs : elems sv = some (S, List.map idc l))
  (ht : P.underlying t = some (.slice e)) (hi : (P.info? e).map (·.size) = some S) (v : α) (hv : (getI l n).bind dec = some v) : aop P o T h = some (.eptr (enc v), none, []) := by
 obtain ⟨r, h1, h2⟩ := Option.bind_eq_some_iff.1 hv
 rw [hd r v h2]
 exact aop_idx ho hn hx hs ht hi r h1
theorem aop_sidx {t : TypeId} {x ix : Operand} {l : List UInt8} {k : IntKind} {n : Int} (ho : o.op = .index t x ix) (hn : evO T ix = some (.p (.val (.int k n)))) (hx : evO T x = some (.p (.val (.string (mkS l)))))
  (ht : P.underlying t = some .string) (v : UInt8) (hv : getI l n = some v) : aop P o T h = some (.p (.val (.int .u8 v.toNat)), none, []) := by
 unfold getI at hv
 split at hv
 ·cases hv
 ·rename_i hneg
  have h0 : 0 ≤ n := by omega
  simp [aop, ho, orE, aIndex, aIndexS, hx, hn, ht, h0, byt_mkS, hv]
end
end Go.Abs
namespace Go.Abs
open Go
set_option linter.unusedVariables false
def heapR {V : Type} (X : V → AEnd × List (Nat × Blk)) (v : V) : AEnd → Heap → Prop := fun r h' => r = (X v).1 ∧ h' = look (X v).2
theorem pcall_of {P : Program} {f : FuncId} {args : List AV} {V : Type} {X : V → AEnd × List (Nat × Blk)} {v : V} (h : ACall P f args (look []) (heapR X v)) (hx : (X v).2 = []) : PCall P f args (X v).1 := by
 have e : look ([] : List (Nat × Blk)) = emp := by funext t; rfl
 have e2 : heapR X v = fun r h' => r = (X v).1 ∧ h' = emp := by unfold heapR; rw [hx, e]
 unfold PCall
 rw [e, e2] at h
 exact h
def hQ {V : Type} (P : Program) (fn : Func) (hc : List (Nat × Blk)) (X : V → AEnd × List (Nat × Blk)) : V → AX → St → Prop := fun v => bodyR P fn hc (heapR X v)
section
variable {R V E : Type} {a a1 a2 : Option R} {P : Program} {N : Nat} {ro : Option Nat} {ops : Array Oper} {o : Oper} {l : List Oper} {dr : Bool} {acc : List Foot} {s s' : St} {Q : R → AX → St → Prop} {K : R → St → Prop} {f : FuncId} {args args' : List AV} {dst : Option Tmp}
theorem acall_sim {fn : Func} {c : Code} {X : R → AEnd × List (Nat × Blk)} {n : Nat} (hc : List (Nat × Blk)) (hf : P.funcs[f]? = some fn) (hb : fn.body = some c) (hn : fn.ntmps = n) (hl : Nat.ble args.length n = true) (h : SimE a P n none c ⟨argsT 0 args, hc⟩ (hQ P fn hc X)) (r : R) (hr : a = some r) :
  ACall P f args (look hc) (heapR X r) := by
 subst hn
 exact acall_of_ex hf hb (Nat.le_of_ble_eq_true hl) (h.h r hr)
def okOut (hc hc' : List (Nat × Blk)) (y : AV) : Bool := okRef (look hc') y && okH (look hc') hc' && keepsAll (look hc') hc
theorem hq_end {X : V → AEnd × List (Nat × Blk)} {v : V} {fn : Func} {hc : List (Nat × Blk)} (C : Conv) (bs : List Nat) (cb : List (Nat × List Conv)) (h : (resA P fn (look s.T) (look s.H)).map (cv C) = some (retOf (X v).1)) (hX : (X v).1 = .ret (retOf (X v).1))
  (hH : pickH cb s.H bs = (X v).2) (hok : okOut hc (X v).2 (retOf (X v).1) = true) : endR P fn hc (heapR X v) s := by
 obtain ⟨x, h1, h2⟩ := Option.map_eq_some_iff.1 h
 simp only [okOut, bae] at hok
 refine ⟨x, retOf (X v).1, (X v).2, h1, h2 ▸ cv_le C x, hok.1.1, ?_, hok.2, hX.symm, rfl⟩
 have h3 := hok.1.2
 rw [← hH] at h3 ⊢
 exact subH_pick h3
theorem hq_ret {X : V → AEnd × List (Nat × Blk)} {v : V} {fn : Func} {hc : List (Nat × Blk)} (C : Conv) (bs : List Nat) (cb : List (Nat × List Conv)) (h : (resA P fn (look s.T) (look s.H)).map (cv C) = some (retOf (X v).1)) (hX : (X v).1 = .ret (retOf (X v).1))
  (hH : pickH cb s.H bs = (X v).2) (hok : okOut hc (X v).2 (retOf (X v).1) = true) : SimQ (some v) (hQ P fn hc X) .ret s := ⟨fun r hr => by cases hr; exact hq_end C bs cb h hX hH hok⟩
theorem hq_n {X : V → AEnd × List (Nat × Blk)} {v : V} {fn : Func} {hc : List (Nat × Blk)} (C : Conv) (bs : List Nat) (cb : List (Nat × List Conv)) (h : (resA P fn (look s.T) (look s.H)).map (cv C) = some (retOf (X v).1)) (hX : (X v).1 = .ret (retOf (X v).1))
  (hH : pickH cb s.H bs = (X v).2) (hok : okOut hc (X v).2 (retOf (X v).1) = true) : SimQ (some v) (hQ P fn hc X) .normal s := ⟨fun r hr => by cases hr; exact hq_end C bs cb h hX hH hok⟩
def rho (L : List (Nat × Nat)) (c : Nat) : Nat := (look L c).getD c
def injB (ρ : Nat → Nat) : List Nat → Bool
 | [] => true
 | c :: l => l.all (fun d => ρ c != ρ d || c == d) && injB ρ l
theorem injB_spec {ρ : Nat → Nat} : ∀ {l : List Nat}, injB ρ l = true → ∀ c ∈ l, ∀ d ∈ l, ρ c = ρ d → c = d
 | [], _, c, hc, _, _, _ => by cases hc
 | x :: l, h, c, hc, d, hd, he => by
  simp only [injB, bae, List.all_eq_true] at h
  rcases List.mem_cons.1 hc with rfl | hc' <;> rcases List.mem_cons.1 hd with rfl | hd'
  ·rfl
  ·have := h.1 d hd'; simp [he] at this; exact this
  ·have := h.1 c hc'; simp [he] at this; exact this.symm
  ·exact injB_spec h.2 c hc' d hd' he
def frameOk (ρ : Nat → Nat) (hc hc' H : List (Nat × Blk)) : Bool :=
 (hc.map (·.1)).all (fun c => (hc'.map (·.1)).contains c) && (hc'.map (·.1)).all (fun c => (hc.map (·.1)).contains c || (look H (ρ c)).isNone) && injB ρ (hc'.map (·.1))
theorem frameOk_spec {ρ : Nat → Nat} {hc hc' H : List (Nat × Blk)} (h : frameOk ρ hc hc' H = true) : outDom ρ hc hc' H := by
 simp only [frameOk, bae] at h
 refine ⟨fun c hc => ?_, fun c hc => ?_, injB_spec h.2⟩
 ·have := List.all_eq_true.1 h.1.1 c hc; simpa using this
 ·have := List.all_eq_true.1 h.1.2 c hc
  simp only [Bool.or_eq_true, Option.isNone_iff_eq_none] at this
  rcases this with h1 | h1
  ·exact .inl (by simpa using h1)
  ·exact .inr h1
theorem okH_look {h : Heap} : ∀ {l : List (Nat × Blk)}, okH h l = true → ∀ c k, look l c = some k → okRefB h k = true
 | [], _, c, k, hk => by simp [look] at hk
 | (b, x) :: l, h1, c, k, hk => by
  simp only [okH, bae] at h1
  simp only [look] at hk
  by_cases e : b = c
  ·simp only [e, if_true, sie] at hk; subst hk; exact h1.1
  ·simp only [e, if_false] at hk; exact okH_look h1.2 c k hk
def handB (H : List (Nat × Blk)) (ρ : Nat → Nat) (cb : List (Nat × List Conv)) (hc : List (Nat × Blk)) : List (Option Blk) := hc.map fun p => (look H (ρ p.1)).map (cvB ((look cb p.1).getD []))
theorem handB_spec {H : List (Nat × Blk)} {ρ : Nat → Nat} {cb : List (Nat × List Conv)} : ∀ {hc : List (Nat × Blk)}, handB H ρ cb hc = hc.map (fun p => some (renB ρ p.2)) → ∀ c k, look hc c = some k → ∃ k0, look H (ρ c) = some k0 ∧ leB k0 (renB ρ k)
 | [], _, c, k, hk => by simp [look] at hk
 | (b, x) :: l, h1, c, k, hk => by
  simp only [handB, List.map_cons, List.cons.injEq] at h1
  simp only [look] at hk
  by_cases e : b = c
  ·simp only [e, if_true, sie] at hk
   subst hk e
   obtain ⟨k0, h2, h3⟩ := Option.map_eq_some_iff.1 h1.1
   exact ⟨k0, h2, h3 ▸ leB_cv _ _⟩
  ·simp only [e, if_false] at hk; exact handB_spec (hc := l) h1.2 c k hk
def handOk (N : Nat) (dst : Option Tmp) (ρ : Nat → Nat) (hc : List (Nat × Blk)) (args' : List AV) : Bool :=
 dstLt N dst && okRefs (look hc) args' && (hc.map (·.1)).all (fun c => decide (1000 ≤ c)) && okH (look hc) hc && injB ρ (hc.map (·.1))
def outK (K : St → Prop) (Q : AX → St → Prop) (s : St) (dst : Option Tmp) (ρ : Nat → Nat) (hc' : List (Nat × Blk)) : AEnd → Prop
 | .ret x => K (St.put ⟨s.T, backH ρ hc' s.H⟩ dst (ren ρ x))
 | .panic x => Q (.panic (ren ρ x)) ⟨s.T, backH ρ hc' s.H⟩
theorem call_heap {P : Program} {N : Nat} {s : St} {K : St → Prop} {Q : AX → St → Prop} {hc : List (Nat × Blk)} {x : AEnd} {hc' : List (Nat × Blk)} (L : List (Nat × Nat)) (C : List Conv) (cb : List (Nat × List Conv))
  (hcall : ACall P f args' (look hc) (fun r h' => r = x ∧ h' = look hc')) (hargs : cvs C args = rens (rho L) args') (hok : handOk N dst (rho L) hc args' = true) (hsub : handB s.H (rho L) cb hc = hc.map (fun p => some (renB (rho L) p.2)))
  (hfr : frameOk (rho L) hc hc' s.H = true) (hk : outK K Q s dst (rho L) hc' x) : CallEx P N f args dst s K Q := by
 simp only [handOk, bae] at hok
 obtain ⟨⟨⟨⟨h1, h2⟩, h3⟩, h4⟩, h5⟩ := hok
 refine call_frame (rho L) hcall (hargs ▸ cvs_les C args) h2 (fun c hc => by simpa using List.all_eq_true.1 h3 c hc) (okH_look h4) (handB_spec hsub) (injB_spec h5) (dstLt_spec h1) ?_
 rintro r h' ⟨rfl, rfl⟩
 refine ⟨hc', backH (rho L) hc' s.H, rfl, frameOk_spec hfr, fun _ => rfl, ?_⟩
 cases r with
 | ret x => exact hk
 | panic x => exact hk
theorem sc_heap {m : Option V} {k : V → Option R} {X : V → AEnd × List (Nat × Blk)} {hc : List (Nat × Blk)} (L : List (Nat × Nat)) (C : List Conv) (cb : List (Nat × List Conv)) (hcall : ∀ v, m = some v → ACall P f args' (look hc) (heapR X v))
  (hargs : cvs C args = rens (rho L) args') (hok : handOk N dst (rho L) hc args' = true) (hsub : handB s.H (rho L) cb hc = hc.map (fun p => some (renB (rho L) p.2))) (hfr : ∀ v, frameOk (rho L) hc (X v).2 s.H = true) (hX : ∀ v, (X v).1 = .ret (retOf (X v).1))
  (h : ∀ v, SimK (k v) K (St.put ⟨s.T, backH (rho L) (X v).2 s.H⟩ dst (ren (rho L) (retOf (X v).1)))) : SimC (m.bind k) P N f args dst s K Q := by
 refine ⟨fun r hr => ?_⟩
 obtain ⟨v, hv, hk⟩ := Option.bind_eq_some_iff.1 hr
 have h1 := hX v
 refine call_heap L C cb (hcall v hv) hargs hok hsub (hfr v) ?_
 rw [h1]
 exact (h v).h r hk
theorem xs_heap {m : Option V} {k : V → Option R} {X : V → AEnd × List (Nat × Blk)} {hc : List (Nat × Blk)} (L : List (Nat × Nat)) (C : List Conv) (cb : List (Nat × List Conv)) (hw : wantA ops o (look s.T) = some true) (hcall : ∀ v, m = some v → ACall P f args' (look hc) (heapR X v))
  (hf : (callOf (look (gMark ops o s.T true)) o.op).map (fun p => (p.1, cvs C p.2)) = some (f, rens (rho L) args')) (hok : (bodyOk P f && handOk N o.dst (rho L) hc args') = true) (hsub : handB s.H (rho L) cb hc = hc.map (fun p => some (renB (rho L) p.2)))
  (hfr : ∀ v, frameOk (rho L) hc (X v).2 s.H = true) (hX : ∀ v, (X v).1 = .ret (retOf (X v).1))
  (h : ∀ v, SimR (k v) P N ops Q false ((none, []) :: acc) l (St.put ⟨(mk ops o s true).T, backH (rho L) (X v).2 s.H⟩ o.dst (ren (rho L) (retOf (X v).1)))) : SimR (m.bind k) P N ops Q false acc (o :: l) s := by
 obtain ⟨⟨f0, args⟩, hcall0, hp⟩ := Option.map_eq_some_iff.1 hf
 simp only [Prod.mk.injEq] at hp
 obtain ⟨rfl, hp⟩ := hp
 simp only [bae] at hok
 exact xs_enter hw hcall0 hok.1 (sc_heap L C cb hcall hp hok.2 hsub hfr hX (fun v => kr (h v)))
def allP : List AV → Option (List PV)
 | [] => some []
 | .p x :: l => (allP l).map (x :: ·)
 | _ => none
theorem allP_spec : ∀ {l : List AV} {ps : List PV}, allP l = some ps → l = ps.map .p
 | [], ps, h => by simp [allP] at h; subst h; rfl
 | x :: l, ps, h => by
  cases x with
  | p x =>
   simp only [allP] at h
   obtain ⟨qs, h1, rfl⟩ := Option.map_eq_some_iff.1 h
   simp [allP_spec h1]
  | _ => simp [allP] at h
def roV (H : Heap) (cs : List Conv) : AV → Option AV
 | .ptr b off => match H b with
  | some (.box _ l) => match allP (cvs cs l) with
   | some ps => if allOne (ps.map .p) then some (.eptr (ps.drop off)) else none
   | none => none
  | _ => none
 | _ => none
inductive RoC where
 | cv (c : Conv)
 | ro (cs : List Conv)
def roA (H : Heap) : RoC → AV → Option AV
 | .cv c, x => some (cv c x)
 | .ro cs, x => roV H cs x
def roAs (H : Heap) : List RoC → List AV → Option (List AV)
 | [], [] => some []
 | c :: cs, x :: xs => match roA H c x, roAs H cs xs with | some y, some ys => some (y :: ys) | _, _ => none
 | _, _ => none
theorem roA_spec {H : Heap} {c : RoC} {x y : AV} (h : roA H c x = some y) : leR H x y := by
 cases c with
 | cv c => simp only [roA, sie] at h; subst h; exact .inl (cv_le c x)
 | ro cs =>
  simp only [roA, roV] at h
  split at h
  ·rename_i b off
   split at h
   ·rename_i ty l hb
    split at h
    ·rename_i ps hps
     split at h
     ·rename_i h1
      simp only [sie] at h
      subst h
      exact leR_ptr hb (allP_spec hps ▸ cvs_les cs l) h1 rfl
     ·cases h
    ·cases h
   ·cases h
  ·cases h
theorem roAs_spec {H : Heap} : ∀ {cs : List RoC} {xs ys : List AV}, roAs H cs xs = some ys → lesR H xs ys
 | [], [], ys, h => by simp [roAs] at h; subst h; simp [lesR]
 | [], _ :: _, ys, h => by simp [roAs] at h
 | _ :: _, [], ys, h => by simp [roAs] at h
 | c :: cs, x :: xs, ys, h => by
  simp only [roAs] at h
  split at h
  ·rename_i y ys' h1 h2
   simp only [sie] at h
   subst h
   exact ⟨y, ys', rfl, roA_spec h1, roAs_spec h2⟩
  ·cases h
theorem xs_ro {m : Option V} {k : V → Option R} {X : V → AV} (C : List RoC) (hw : wantA ops o (look s.T) = some true) (hc : ∀ v, m = some v → PCall P f args' (.ret (X v)))
  (hf : (callOf (look (gMark ops o s.T true)) o.op).bind (fun p => (roAs (look s.H) C p.2).map fun a => (p.1, a)) = some (f, args')) (hb : (bodyOk P f && dstLt N o.dst && noRefs args') = true) (hx : ∀ v, flat (X v) = true)
  (h : ∀ v, SimR (k v) P N ops Q false ((none, []) :: acc) l (St.put (mk ops o s true) o.dst (X v))) : SimR (m.bind k) P N ops Q false acc (o :: l) s := by
 refine ⟨fun r hr => ?_⟩
 obtain ⟨v, hv, hk⟩ := Option.bind_eq_some_iff.1 hr
 obtain ⟨⟨f0, args⟩, hcall, hp⟩ := Option.bind_eq_some_iff.1 hf
 obtain ⟨aas, hp1, hp2⟩ := Option.map_eq_some_iff.1 hp
 simp only [Prod.mk.injEq] at hp2
 obtain ⟨rfl, rfl⟩ := hp2
 simp only [bae] at hb
 show ExOps P N ops (Q r) (o :: l) s
 simp only [ExOps, hw, splitB_true, yieldOf_callOf hcall]
 exact exOp_call hcall hb.1.1 (call_ro (hc v hv) (roAs_spec hp1) hb.2 (dstLt_spec hb.1.2) ⟨hx v, (h v).h r hk⟩)
theorem xs_roE {m : Option (Except E V)} {k : V → Option R} {ke : E → Option R} {X : V → AV} {Y : E → AV} (C : List RoC) (hw : wantA ops o (look s.T) = some true) (hc : ∀ v, m = some v → PCall P f args' (excE X Y v))
  (hf : (callOf (look (gMark ops o s.T true)) o.op).bind (fun p => (roAs (look s.H) C p.2).map fun a => (p.1, a)) = some (f, args')) (hb : (bodyOk P f && dstLt N o.dst && noRefs args') = true) (hx : ∀ v, flat (X v) = true) (hy : ∀ v, flat (Y v) = true)
  (h : ∀ v, SimR (k v) P N ops Q false ((none, []) :: acc) l (St.put (mk ops o s true) o.dst (X v))) (he : ∀ e, SimQ (ke e) Q (.panic (Y e)) (mk ops o s true)) : SimR (m.bind (exc k ke)) P N ops Q false acc (o :: l) s := by
 refine ⟨fun r hr => ?_⟩
 obtain ⟨v, hv, hk⟩ := Option.bind_eq_some_iff.1 hr
 obtain ⟨⟨f0, args⟩, hcall, hp⟩ := Option.bind_eq_some_iff.1 hf
 obtain ⟨aas, hp1, hp2⟩ := Option.map_eq_some_iff.1 hp
 simp only [Prod.mk.injEq] at hp2
 obtain ⟨rfl, rfl⟩ := hp2
 simp only [bae] at hb
 show ExOps P N ops (Q r) (o :: l) s
 simp only [ExOps, hw, splitB_true, yieldOf_callOf hcall]
 refine exOp_call hcall hb.1.1 (call_ro (hc v hv) (roAs_spec hp1) hb.2 (dstLt_spec hb.1.2) ?_)
 cases v with
 | ok v => exact ⟨hx v, (h v).h r hk⟩
 | error e => exact ⟨hy e, (he e).h r hk⟩
end
def roomB (n bytes : Nat) : Bool := decide (n * bytes ≤ 140737488355328 ∧ n ≤ 140737488355328)
section
variable {P : Program} {o : Oper} {T : Nat → Option AV} {h : Heap}
theorem aop_app {α : Type} {t e : TypeId} {s x : Operand} {S by_ tk : Nat} {enc : α → List PV} {l l2 : List α} {xv : AV} (ho : o.op = .call ⟨.builtin .append, #[s, x], #[t, t]⟩) (ht : P.underlying t = some (.slice e))
  (hi : (P.info? e).bind (fun i => i.zero.map fun z => (i.size, i.bytes, z.cells.size)) = some (S, by_, S)) (hS : Nat.ble 1 S = true) (hs : evO T s = some (.tsl S (List.map enc l) tk)) (hx : evO T x = some xv) (he : elemsN S xv = some (List.map enc l2)) (hn : l2.isEmpty = false)
  (hb : h tk = some (.arr e S (List.map enc l).length)) (hc : roomB (l ++ l2).length by_ = true) : aop P o T h = some (.tsl S (List.map enc (l ++ l2)) tk, some (tk, .arr e S (List.map enc (l ++ l2)).length), [tk]) := by
 obtain ⟨i, hi1, hi2⟩ := Option.bind_eq_some_iff.1 hi
 obtain ⟨z, hz1, hz2⟩ := Option.map_eq_some_iff.1 hi2
 simp only [Prod.mk.injEq] at hz2
 obtain ⟨rfl, rfl, hz⟩ := hz2
 have hn' : ¬ l2 = [] := by intro e; subst e; cases hn
 have hS' : 0 < i.size := Nat.le_of_ble_eq_true hS
 simp only [roomB, decide_eq_true_eq, List.length_append] at hc
 simp [aop, ho, isV, hs, hx, aAppend, ht, hi1, hz1, he, hz, hS', isNil, hb, hn', hc]
theorem aop_appL {α : Type} {t e : TypeId} {s x : Operand} {S by_ tk : Nat} {enc : α → List PV} {l l2 : List α} {xv : AV} (ho : o.op = .call ⟨.builtin .append, #[s, x], #[t, t]⟩) (ht : P.underlying t = some (.slice e))
  (hi : (P.info? e).bind (fun i => i.zero.map fun z => (i.size, i.bytes, z.cells.size)) = some (S, by_, S)) (hS : Nat.ble 1 S = true) (hs : evO T s = some (.tsl S (List.map enc l) tk)) (hx : evO T x = some xv) (he : elemsN S xv = some (List.map enc l2))
  (hb : h tk = some (.arr e S (List.map enc l).length)) (hc : roomB (l ++ l2).length by_ = true) : aop P o T h = some (.tsl S (List.map enc (l ++ l2)) tk, some (tk, .arr e S (List.map enc (l ++ l2)).length), [tk]) := by
 obtain ⟨i, hi1, hi2⟩ := Option.bind_eq_some_iff.1 hi
 obtain ⟨z, hz1, hz2⟩ := Option.map_eq_some_iff.1 hi2
 simp only [Prod.mk.injEq] at hz2
 obtain ⟨rfl, rfl, hz⟩ := hz2
 have hS' : 0 < i.size := Nat.le_of_ble_eq_true hS
 simp only [roomB, decide_eq_true_eq, List.length_append] at hc
 by_cases hn' : l2 = []
 ·subst hn'
  simp [aop, ho, isV, hs, hx, aAppend, ht, hi1, hz1, he, hz, hS', isNil, hb]
 simp [aop, ho, isV, hs, hx, aAppend, ht, hi1, hz1, he, hz, hS', isNil, hb, hn', hc]
theorem aop_app0 {α : Type} {t e : TypeId} {s x : Operand} {S by_ d : Nat} {enc : α → List PV} {l2 : List α} {xv : AV} (ho : o.op = .call ⟨.builtin .append, #[s, x], #[t, t]⟩) (hd : o.dst = some d) (ht : P.underlying t = some (.slice e))
  (hi : (P.info? e).bind (fun i => i.zero.map fun z => (i.size, i.bytes, z.cells.size)) = some (S, by_, S)) (hS : Nat.ble 1 S = true) (hs : evO T s = some (.p (.val (.slice none 0 0)))) (hx : evO T x = some xv) (he : elemsN S xv = some (List.map enc l2)) (hn : l2.isEmpty = false)
  (hb : h d = none) (hc : roomB ([] ++ l2).length by_ = true) : aop P o T h = some (.tsl S (List.map enc ([] ++ l2)) d, some (d, .arr e S (List.map enc ([] ++ l2)).length), [d]) := by
 obtain ⟨i, hi1, hi2⟩ := Option.bind_eq_some_iff.1 hi
 obtain ⟨z, hz1, hz2⟩ := Option.map_eq_some_iff.1 hi2
 simp only [Prod.mk.injEq] at hz2
 obtain ⟨rfl, rfl, hz⟩ := hz2
 have hn' : ¬ l2 = [] := by intro e; subst e; cases hn
 have hS' : 0 < i.size := Nat.le_of_ble_eq_true hS
 simp only [roomB, decide_eq_true_eq, List.nil_append] at hc
 simp [aop, ho, isV, hs, hx, aAppend, ht, hi1, hz1, he, hz, hS', isNil, hb, hn', hc, hd]
end
inductive OL (α : Type) where
 | nil
 | own (l : List α)
def OL.toL {α : Type} : OL α → List α
 | .nil => []
 | .own l => l
@[simp] theorem OL.toL_nil {α : Type} : (OL.nil : OL α).toL = [] := rfl
@[simp] theorem OL.toL_own {α : Type} (l : List α) : (OL.own l).toL = l := rfl
def osl {α : Type} (S : Nat) (enc : α → List PV) (l : OL α) (t : Nat) : AV :=
 match l with
 | .nil => .p (.val (.slice none 0 0))
 | .own l => .tsl S (List.map enc l) t
def oarr {α : Type} (ty : TypeId) (S : Nat) (enc : α → List PV) (l : OL α) (t : Nat) : List (Nat × Blk) :=
 match l with
 | .nil => []
 | .own l => [(t, .arr ty S (List.map enc l).length)]
end Go.Abs
namespace Go.Abs
open Go
set_option linter.unusedVariables false
section
variable {R V E : Type} {a a1 a2 : Option R} {P : Program} {N : Nat} {ro : Option Nat} {ops : Array Oper} {o : Oper} {l : List Oper} {dr : Bool} {acc : List Foot} {s s' s1 : St} {Q : R → AX → St → Prop} {K : R → St → Prop} {f : FuncId} {args args' : List AV} {dst : Option Tmp}
theorem xs_getH {m : Option V} {k : V → Option R} {u : V → Res} (hw : wantA ops o (look s.T) = some true) (hp : (plain o.op && dstLt N o.dst) = true) (hu : ∀ v, m = some v → aop P o (look (gMark ops o s.T true)) (look s.H) = some (u v))
  (h : ∀ v, m = some v → SimR (k v) P N ops Q dr (footR (u v) :: acc) l (nxt ops o s (u v))) : SimR (m.bind k) P N ops Q dr acc (o :: l) s := by
 simp only [bae] at hp
 refine ⟨fun r hr => ?_⟩
 obtain ⟨v, hv, hk⟩ := Option.bind_eq_some_iff.1 hr
 exact xr_true hw hp.1 (hu v hv) hp.2 (more_dOf dr acc _ ▸ (h v hv).h r hk)
theorem getI_at {α : Type} {l : List α} {i : Int} {v : α} (h : getI l i = some v) : l[i.toNat]? = some v := by
 unfold getI at h
 split at h
 ·cases h
 ·exact h
def inlQ (P : Program) (fn : Func) (hc : List (Nat × Blk)) (ρ : Nat → Nat) (s : St) (dst : Option Tmp) (K : R → St → Prop) (Q : R → AX → St → Prop) : R → AX → St → Prop :=
 fun r => bodyR P fn hc (fun x h' => ∃ hc', h' = look hc' ∧ outDom ρ hc hc' s.H ∧ outK (K r) (Q r) s dst ρ hc' x)
theorem sc_inline {fn : Func} {c : Code} {n : Nat} {hc : List (Nat × Blk)} (L : List (Nat × Nat)) (C : List Conv) (cb : List (Nat × List Conv)) (hf : P.funcs[f]? = some fn) (hb : fn.body = some c) (hn : fn.ntmps = n) (hl : Nat.ble args'.length n = true)
  (hargs : cvs C args = rens (rho L) args') (hok : handOk N dst (rho L) hc args' = true) (hsub : handB s.H (rho L) cb hc = hc.map (fun p => some (renB (rho L) p.2)))
  (h : SimE a P n none c ⟨argsT 0 args', hc⟩ (inlQ P fn hc (rho L) s dst K Q)) : SimC a P N f args dst s K Q := by
 subst hn
 refine ⟨fun r hr => ?_⟩
 simp only [handOk, bae] at hok
 obtain ⟨⟨⟨⟨h1, h2⟩, h3⟩, h4⟩, h5⟩ := hok
 refine call_frame (rho L) (acall_of_ex hf hb (Nat.le_of_ble_eq_true hl) (h.h r hr)) (hargs ▸ cvs_les C args) h2 (fun c hc => by simpa using List.all_eq_true.1 h3 c hc) (okH_look h4) (handB_spec hsub) (injB_spec h5) (dstLt_spec h1) ?_
 rintro x h' ⟨hc', rfl, hd, hk⟩
 refine ⟨hc', backH (rho L) hc' s.H, rfl, hd, fun _ => rfl, ?_⟩
 cases x with
 | ret x => exact hk
 | panic x => exact hk
def inlOk (ρ : Nat → Nat) (hc hc' : List (Nat × Blk)) (s : St) (y : AV) : Bool := okOut hc hc' y && frameOk ρ hc hc' s.H
theorem iq_end {fn : Func} {hc : List (Nat × Blk)} {ρ : Nat → Nat} {x : AX} (hx : x = .ret ∨ x = .normal) (C : Conv) (bs : List Nat) (cb : List (Nat × List Conv)) (y : AV) (h : (resA P fn (look s1.T) (look s1.H)).map (cv C) = some y)
  (hok : inlOk ρ hc (pickH cb s1.H bs) s y = true) (hk : SimK a K (St.put ⟨s.T, backH ρ (pickH cb s1.H bs) s.H⟩ dst (ren ρ y))) : SimQ a (inlQ P fn hc ρ s dst K Q) x s1 := by
 obtain ⟨z, h1, h2⟩ := Option.map_eq_some_iff.1 h
 simp only [inlOk, okOut, bae] at hok
 refine ⟨fun r hr => ?_⟩
 have : endR P fn hc (fun x h' => ∃ hc', h' = look hc' ∧ outDom ρ hc hc' s.H ∧ outK (K r) (Q r) s dst ρ hc' x) s1 :=
  ⟨z, y, pickH cb s1.H bs, h1, h2 ▸ cv_le C z, hok.1.1.1, subH_pick hok.1.1.2, hok.1.2, _, rfl, frameOk_spec hok.2, hk.h r hr⟩
 rcases hx with rfl | rfl <;> exact this
theorem iq_ret {fn : Func} {hc : List (Nat × Blk)} {ρ : Nat → Nat} (C : Conv) (bs : List Nat) (cb : List (Nat × List Conv)) (y : AV) (h : (resA P fn (look s1.T) (look s1.H)).map (cv C) = some y)
  (hok : inlOk ρ hc (pickH cb s1.H bs) s y = true) (hk : SimK a K (St.put ⟨s.T, backH ρ (pickH cb s1.H bs) s.H⟩ dst (ren ρ y))) : SimQ a (inlQ P fn hc ρ s dst K Q) .ret s1 := iq_end (.inl rfl) C bs cb y h hok hk
theorem iq_n {fn : Func} {hc : List (Nat × Blk)} {ρ : Nat → Nat} (C : Conv) (bs : List Nat) (cb : List (Nat × List Conv)) (y : AV) (h : (resA P fn (look s1.T) (look s1.H)).map (cv C) = some y)
  (hok : inlOk ρ hc (pickH cb s1.H bs) s y = true) (hk : SimK a K (St.put ⟨s.T, backH ρ (pickH cb s1.H bs) s.H⟩ dst (ren ρ y))) : SimQ a (inlQ P fn hc ρ s dst K Q) .normal s1 := iq_end (.inr rfl) C bs cb y h hok hk
theorem iq_p {fn : Func} {hc : List (Nat × Blk)} {ρ : Nat → Nat} {p : AV} (bs : List Nat) (cb : List (Nat × List Conv)) (hok : inlOk ρ hc (pickH cb s1.H bs) s p = true) (hk : SimQ a Q (.panic (ren ρ p)) ⟨s.T, backH ρ (pickH cb s1.H bs) s.H⟩) : SimQ a (inlQ P fn hc ρ s dst K Q) (.panic p) s1 := by
 simp only [inlOk, okOut, bae] at hok
 exact ⟨fun r hr => ⟨p, pickH cb s1.H bs, le_refl p, hok.1.1.1, subH_pick hok.1.1.2, hok.1.2, _, rfl, frameOk_spec hok.2, hk.h r hr⟩⟩
theorem xs_inline {fn : Func} {c : Code} {n : Nat} (hc : List (Nat × Blk)) (args' : List AV) (L : List (Nat × Nat)) (C : List Conv) (cb : List (Nat × List Conv)) (hw : wantA ops o (look s.T) = some true) (hf : P.funcs[f]? = some fn) (hb : fn.body = some c) (hn : fn.ntmps = n) (hl : Nat.ble args'.length n = true)
  (hcall : (callOf (look (gMark ops o s.T true)) o.op).map (fun p => (p.1, cvs C p.2)) = some (f, rens (rho L) args')) (hok : (bodyOk P f && handOk N o.dst (rho L) hc args') = true) (hsub : handB s.H (rho L) cb hc = hc.map (fun p => some (renB (rho L) p.2)))
  (h : SimE a P n none c ⟨argsT 0 args', hc⟩ (inlQ P fn hc (rho L) (mk ops o s true) o.dst (fKr P N ops Q l) Q)) : SimR a P N ops Q false acc (o :: l) s := by
 obtain ⟨⟨f0, args⟩, hcall0, hp⟩ := Option.map_eq_some_iff.1 hcall
 simp only [Prod.mk.injEq] at hp
 obtain ⟨rfl, hp⟩ := hp
 simp only [bae] at hok
 exact xs_enter hw hcall0 hok.1 (sc_inline L C cb hf hb hn hl hp hok.2 hsub h)
theorem xs_inlineL {fn : Func} {c : Code} {n : Nat} (hc : List (Nat × Blk)) (args' : List AV) (L : List (Nat × Nat)) (C : List Conv) (cb : List (Nat × List Conv)) (hw : wantA ops o (look s.T) = some true) (hf : P.funcs[f]? = some fn) (hb : fn.body = some c) (hn : fn.ntmps = n) (hl : Nat.ble args'.length n = true)
  (hcall : (callOf (look (gMark ops o s.T true)) o.op).map (fun p => (p.1, cvs C p.2)) = some (f, rens (rho L) args')) (hok : (bodyOk P f && handOk N o.dst (rho L) hc args' && tailAll ops acc.length && commutes ops acc.reverse) = true) (hsub : handB s.H (rho L) cb hc = hc.map (fun p => some (renB (rho L) p.2)))
  (h : SimE a P n none c ⟨argsT 0 args', hc⟩ (inlQ P fn hc (rho L) (mk ops o s true) o.dst (fKq Q) Q)) : SimR a P N ops Q true acc [o] s := by
 obtain ⟨⟨f0, args⟩, hcall0, hp⟩ := Option.map_eq_some_iff.1 hcall
 simp only [Prod.mk.injEq] at hp
 obtain ⟨rfl, hp⟩ := hp
 simp only [bae] at hok
 exact xs_enterL hw hcall0 (by simp [hok]) (sc_inline L C cb hf hb hn hl hp hok.1.1.2 hsub h)
end
section
variable {P : Program} {o : Oper} {T : Nat → Option AV} {h : Heap}
theorem idx_ok {n : Int} {len : Nat} (hc : (leI 0 n && ltI n len) = true) : 0 ≤ n ∧ n < len ∧ n.toNat < len := by
 simp only [bae, leI, ltI, decide_eq_true_eq] at hc
 omega
theorem aop_arr {t e : TypeId} {x ix : Operand} {b : Nat} {k : IntKind} {n : Int} {len : Nat} (ho : o.op = .indexAddr t x ix) (hn : evO T ix = some (.p (.val (.int k n)))) (hx : evO T x = some (.ptr b 0))
  (ht : P.underlying t = some (.array len e)) (hi : (P.info? e).map (·.size) = some 1) (hc : (leI 0 n && ltI n len) = true) : aop P o T h = some (.ptr b n.toNat, none, []) := by
 obtain ⟨i, hi1, hi2⟩ := Option.map_eq_some_iff.1 hi
 obtain ⟨h0, h2, h3⟩ := idx_ok hc
 simp [aop, ho, orE, isV, hx, aIndexAddr, hn, ht, hi1, hi2, h0, h2]
theorem aop_arrL {α : Type} {t e : TypeId} {x ix : Operand} {b : Nat} {k : IntKind} {n : Int} {len : Nat} {l : List α} (ho : o.op = .indexAddr t x ix) (hn : evO T ix = some (.p (.val (.int k n)))) (hx : evO T x = some (.ptr b 0))
  (ht : P.underlying t = some (.array len e)) (hi : (P.info? e).map (·.size) = some 1) (hl : l.length = len) (v : α) (hv : getI l n = some v) : aop P o T h = some (.ptr b n.toNat, none, []) := by
 refine aop_arr ho hn hx ht hi ?_
 unfold getI at hv
 split at hv
 ·cases hv
 ·have := (List.getElem?_eq_some_iff.1 hv).1
  simp [leI, ltI]
  omega
theorem aop_ldL {α : Type} {ty tb : TypeId} {x0 : Operand} {g : α → AV} {l : List α} {b : Nat} {n : Int} {v : α} (ho : o.op = .load ty x0) (hx : evO T x0 = some (.ptr b n.toNat)) (hb : h b = some (.box tb (List.map g l)))
  (hi : (P.underlying ty).bind (fun d => (P.info? ty).map fun i => isAggD d) = some false) (hv : l[n.toNat]? = some v) : aop P o T h = some (g v, none, [b]) := by
 obtain ⟨d, hd, hi1⟩ := Option.bind_eq_some_iff.1 hi
 obtain ⟨i, hi2, hi3⟩ := Option.map_eq_some_iff.1 hi1
 simp [aop, ho, isV, hx, aLoad, hd, hi2, hb, hi3, hv]
end
section
variable {P : Program} {o : Oper} {T : Nat → Option AV} {h : Heap}
def sliceB (lo hi : Int) (len : Nat) : Bool := decide (0 ≤ lo ∧ lo ≤ hi ∧ hi ≤ len)
end
end Go.Abs
namespace Go.Abs
open Go
set_option linter.unusedVariables false
section
variable {R V E : Type} {a a1 a2 : Option R} {P : Program} {N : Nat} {ro : Option Nat} {ops : Array Oper} {o : Oper} {l : List Oper} {dr : Bool} {acc : List Foot} {s s' s1 : St} {Q : R → AX → St → Prop} {K : R → St → Prop} {f : FuncId} {args args' : List AV} {dst : Option Tmp}
def dQ {V : Type} (P : Program) (fn : Func) (hc : List (Nat × Blk)) (N : Nat) (cf : FuncId) (X : V → AEnd × List (Nat × Blk)) : V → AX → St → Prop := fun v => deferQ P fn hc N cf (heapR X v)
def fKe {V : Type} (P : Program) (fn : Func) (hc : List (Nat × Blk)) (X : V → AEnd × List (Nat × Blk)) : V → St → Prop := fun v s => endR P fn hc (heapR X v) s
def noQ {V : Type} : V → AX → St → Prop := fun _ _ _ => False
theorem dq_ret {X : R → AEnd × List (Nat × Blk)} {fn : Func} {hc : List (Nat × Blk)} {cf : FuncId} (h : SimC a P N cf [.p (.val .nilIface), .ptr 2000 0] none s (fKe P fn hc X) noQ) : SimQ a (dQ P fn hc N cf X) .ret s := ⟨fun r hr => h.h r hr⟩
theorem dq_p {X : R → AEnd × List (Nat × Blk)} {fn : Func} {hc : List (Nat × Blk)} {cf : FuncId} {p : AV} (h : SimC a P N cf [p, .ptr 2000 0] none s (fKe P fn hc X) noQ) : SimQ a (dQ P fn hc N cf X) (.panic p) s := ⟨fun r hr => h.h r hr⟩
theorem ke_end {X : V → AEnd × List (Nat × Blk)} {v : V} {fn : Func} {hc : List (Nat × Blk)} (C : Conv) (bs : List Nat) (cb : List (Nat × List Conv)) (h : (resA P fn (look s.T) (look s.H)).map (cv C) = some (retOf (X v).1)) (hX : (X v).1 = .ret (retOf (X v).1))
  (hH : pickH cb s.H bs = (X v).2) (hok : okOut hc (X v).2 (retOf (X v).1) = true) : SimK (some v) (fKe P fn hc X) s := ⟨fun r hr => by cases hr; exact hq_end C bs cb h hX hH hok⟩
theorem noOb_ren {H : List (Nat × Blk)} {b : Nat} (h : noOb H = true) : ∀ c k x, look H c = some k → k.ob = some x → (some x).map (renO (sig b)) = some x := by
 intro c k x h1 h2
 rw [noOb_spec h c k h1] at h2
 cases h2
theorem defer_sim {fn : Func} {X : R → AEnd × List (Nat × Blk)} {g cf : FuncId} {n : Nat} (hc : List (Nat × Blk)) (C : Catcher P g cf) (F : Deferrer fn g) (b : Nat) (hf : P.funcs[f]? = some fn) (hn : fn.ntmps = n) (hl : Nat.ble args.length n = true) (hbg : bodyOk P g = true) (hb1 : Nat.blt b 1000 = true)
  (hm : P.follows .mixedOrders = true) {id : Nat} {ops : Array Oper} (hr1 : F.r1 = .region id ops false) (h1 : (regRun P n ops false ⟨argsT 0 args, hc⟩).isSome = true) (htb : look (regSt P n ops false ⟨argsT 0 args, hc⟩).T F.tb = some (.ptr b 0))
  (h2 : ((look (regSt P n ops false ⟨argsT 0 args, hc⟩).H 2000).isNone && noOb (regSt P n ops false ⟨argsT 0 args, hc⟩).H) = true)
  (h : SimE a P n none F.rest ⟨(F.tc, AV.fn (.func g) [] [.ptr 2000 0]) :: renT b (regSt P n ops false ⟨argsT 0 args, hc⟩).T, renH b (regSt P n ops false ⟨argsT 0 args, hc⟩).H⟩ (dQ P fn hc n cf X)) (r : R) (hr : a = some r) : ACall P f args (look hc) (heapR X r) := by
 subst hn
 simp only [bae, Option.isNone_iff_eq_none] at h2
 obtain ⟨s1, hs1⟩ := Option.isSome_iff_exists.1 h1
 have e : regSt P fn.ntmps ops false ⟨argsT 0 args, hc⟩ = s1 := by simp [regSt, hs1]
 rw [e] at htb h2 h
 refine acall_defer C F b hf (Nat.le_of_ble_eq_true hl) hbg (by simpa [Nat.blt_eq] using hb1) ?_
 rw [hr1]
 exact ex_regRun hm hs1 ⟨rfl, htb, h2.1, noOb_ren h2.2, h.h r hr⟩
end
end Go.Abs
namespace Go.Abs
open Go
set_option linter.unusedVariables false
theorem ex_drop {P : Program} {N : Nat} {ro : Option Nat} {c : Code} {s : St} {Q : AX → St → Prop}
  (h : Ex P N ro c s (fun x s' => ∃ s'', subT (look s'.T) (look s''.H) s''.T ∧ subH (look s'.H) (look s''.H) s''.H ∧ keepsAll (look s''.H) s.H = true ∧ (∀ v, x = .panic v → okRef (look s''.H) v = true) ∧ Q x s'')) : Ex P N ro c s Q := by
 intro φ M0 D a w r
 refine wpIn_mono (h φ M0 D a w r) ?_
 rintro e a' w' ⟨φ', x, s', ⟨s'', h1, h2, h3, hp, h4⟩, r', E', hx⟩
 obtain ⟨k1, k2, k3⟩ := sub_conv (hc := s.H) r' E' h2 h3
 refine ⟨φ', x, s'', h4, ⟨?_, r'.siz, k1, fun t y ht => ?_⟩, k2, ?_⟩
 ·obtain ⟨h0, ms, g1, g2, g3⟩ := r'.dfs
  refine ⟨h0, ms, g1, g2, fun z hz => ⟨(g3 z hz).1, (g3 z hz).2.1, fun b hb => (g3 z hz).2.2 b ?_⟩⟩
  cases hq : look s''.H b with
  | none => exact absurd hq hb
  | some k' => obtain ⟨⟨k, e1, _⟩, _⟩ := subH_spec h2 b k' hq; rw [e1]; simp
 ·obtain ⟨z, g1, g2, g3⟩ := subT_spec h1 t y ht
  exact ⟨(r'.tm t z g1).1, k3 _ _ g3 (le_rep.1 _ _ _ g2 (r'.tm t z g1).2)⟩
 ·cases x with
  | normal => exact hx
  | exit i => exact hx
  | ret => exact hx
  | panic v => obtain ⟨u, h5, h6⟩ := hx; exact ⟨u, h5, k3 _ _ (hp v rfl) h6⟩
section
variable {R V E : Type} {a a1 a2 : Option R} {P : Program} {N : Nat} {ro : Option Nat} {ops : Array Oper} {o : Oper} {l : List Oper} {dr : Bool} {acc : List Foot} {s s' s1 : St} {Q : R → AX → St → Prop} {K : R → St → Prop} {f : FuncId} {args args' : List AV} {dst : Option Tmp}
def rgQ (N : Nat) (s : St) (Q : R → AX → St → Prop) : R → AX → St → Prop := fun r x s' => ∃ s'', subT (look s'.T) (look s''.H) s''.T ∧ subH (look s'.H) (look s''.H) s''.H ∧ keepsAll (look s''.H) s.H = true ∧ (∀ v, x = .panic v → okRef (look s''.H) v = true) ∧ Q r x s''
def fKg (D2 : Nat) (T : List (Nat × AV)) (nf : LInfo) (N : Nat) (s : St) (Q : R → AX → St → Prop) : R → St → Prop := fun r => rangeK D2 T nf (rgQ N s Q r)
theorem sim_range {fo : Operand} {ps : Array Tmp} {assign body : Code} (g : FuncId) (D2 : Nat) (l' : List AV) (m' : List AV) (hf : evO (look s.T) fo = some (.fn (.func g) l' m')) (hok : (bodyOk P g && Nat.ble 1000 D2 && (look s.H D2).isNone) = true)
  (h : ∀ nf fn, nf = LInfo.mk N fn ps assign body → SimC a P N g (l' ++ [.yv D2] ++ m') none ⟨s.T, (D2, .lp s.T nf .ready none) :: s.H⟩ (fKg D2 s.T nf N s Q) (rgQ N s Q)) : SimE a P N none (.rangeFunc fo ps assign body) s Q := by
 simp only [bae, Option.isNone_iff_eq_none] at hok
 refine ⟨fun r hr => ex_drop (ex_rangeFunc D2 (Nat.le_of_ble_eq_true hok.1.2) hf hok.1.1 hok.2 fun fn => ?_)⟩
 exact (h _ fn rfl).h r hr
theorem rg_spec {x : AX} {st : LoopState} {pd : Option Code} {D2 : Nat} {T : List (Nat × AV)} {nf : LInfo} (Kp : Keep) (s'' : St) (hx : ∀ v, x ≠ .panic v) (hs : (if okT (look (shr Kp ⟨s1.T, (D2, .lp T nf .exhausted pd) :: s1.H⟩).H) (shr Kp ⟨s1.T, (D2, .lp T nf .exhausted pd) :: s1.H⟩).T && okH (look (shr Kp ⟨s1.T, (D2, .lp T nf .exhausted pd) :: s1.H⟩).H) (shr Kp ⟨s1.T, (D2, .lp T nf .exhausted pd) :: s1.H⟩).H && keepsAll (look (shr Kp ⟨s1.T, (D2, .lp T nf .exhausted pd) :: s1.H⟩).H) s.H then some (shr Kp ⟨s1.T, (D2, .lp T nf .exhausted pd) :: s1.H⟩) else none) = some s'')
  (h : SimQ a Q x s'') (r : R) (hr : a = some r) : rgQ N s Q r x ⟨s1.T, (D2, .lp T nf .exhausted pd) :: s1.H⟩ := by
 split at hs
 ·rename_i hok
  simp only [sie] at hs
  subst hs
  simp only [bae] at hok
  exact ⟨_, subT_pick hok.1.1, subH_pick hok.1.2, hok.2, fun v hv => absurd hv (hx v), h.h r hr⟩
 ·cases hs
def rgS (Kp : Keep) (s s1 : St) : Option St := if okT (look (shr Kp s1).H) (shr Kp s1).T && okH (look (shr Kp s1).H) (shr Kp s1).H && keepsAll (look (shr Kp s1).H) s.H then some (shr Kp s1) else none
theorem kg_n {D2 : Nat} {T : List (Nat × AV)} {nf : LInfo} (st : LoopState) (Kp : Keep) (s'' : St) (hl : look s1.H D2 = some (.lp T nf st none)) (hst : st ≠ .busy) (hs : rgS Kp s ⟨s1.T, (D2, .lp T nf .exhausted none) :: s1.H⟩ = some s'') (h : SimQ a Q .normal s'') : SimK a (fKg D2 T nf N s Q) s1 :=
 ⟨fun r hr => ⟨st, none, hl, hst, rg_spec (st := st) Kp s'' (fun v e => by cases e) hs h r hr⟩⟩
def rdR (ρ : Nat → Nat) (hc : List (Nat × Blk)) (s : St) (dst : Option Tmp) (K : St → Prop) (Q : AX → St → Prop) : AEnd → Heap → Prop := fun x h' => ∃ hc', h' = look hc' ∧ outDom ρ hc hc' s.H ∧ outK K Q s dst ρ hc' x
def rnQ (ρ : Nat → Nat) (hc : List (Nat × Blk)) (b : Nat) (T : List (Nat × AV)) (nf : LInfo) (s : St) (dst : Option Tmp) (K : R → St → Prop) (Q : R → AX → St → Prop) : R → AX → St → Prop := fun r => roundQ hc b T nf (rdR ρ hc s dst (K r) (Q r))
def asQ (P : Program) (N l : Nat) (body : Code) (b : Nat) (T : List (Nat × AV)) (nf : LInfo) (Q : R → AX → St → Prop) : R → AX → St → Prop := fun r x s1 => x = .normal ∧ ∃ pd1, look s1.H b = some (.lp T nf .ready pd1) ∧ Ex P N (some l) body ⟨s1.T, (b, .lp T nf .busy pd1) :: s1.H⟩ (Q r)
theorem as_n {l b : Nat} {body : Code} {T : List (Nat × AV)} {nf : LInfo} (Kp : Keep) (s2 : St) (pd : Option Code) (hl : look s1.H b = some (.lp T nf .ready pd)) (hs : shrQ Kp ⟨s1.T, (b, .lp T nf .busy pd) :: s1.H⟩ = some s2) (h : SimE a P N (some l) body s2 Q) : SimQ a (asQ P N l body b T nf Q) .normal s1 :=
 ⟨fun r hr => ⟨rfl, pd, hl, ex_weak (weak_shr hs) (h.h r hr)⟩⟩
theorem xs_yield {N1 : Nat} {fn : FuncId} {ps : Array Tmp} {assign body : Code} {nf : LInfo} {l1 : List Oper} (L : List (Nat × Nat)) (hc : List (Nat × Blk)) (b : Nat) (T : List (Nat × AV)) (C : List Conv) (cb : List (Nat × List Conv)) (args' : List AV) (hw : wantA ops o (look s.T) = some true) (hnf : nf = LInfo.mk N1 fn ps assign body)
  (hy : (yieldOf (look (gMark ops o s.T true)) o.op).map (fun p => (p.1, cvs C p.2)) = some (rho L b, rens (rho L) args')) (hb : look hc b = some (.lp T nf .ready none)) (hps : (Nat.ble 1000 b && Nat.beq ps.size args'.length && ps.toList.all (fun p => Nat.blt p N1)) = true)
  (hok : handOk N o.dst (rho L) hc args' = true) (hsub : handB s.H (rho L) cb hc = hc.map (fun p => some (renB (rho L) p.2)))
  (h : ∀ l, SimE a P N1 (some l) assign ⟨psT ps.toList args' T, hc⟩ (asQ P N1 l body b T nf (rnQ (rho L) hc b T nf (mk ops o s true) o.dst (fKr P N ops Q l1) Q))) : SimR a P N ops Q false acc (o :: l1) s := by
 obtain ⟨⟨b0, args⟩, hy0, hp⟩ := Option.map_eq_some_iff.1 hy
 simp only [Prod.mk.injEq] at hp
 obtain ⟨hb0, hargs⟩ := hp
 have hb0 : b0 = rho L b := hb0
 subst hb0
 refine ⟨fun r hr => ?_⟩
 show ExOps P N ops (Q r) (o :: l1) s
 simp only [ExOps, hw, splitB_true, hy0]
 show YEx P N (rho L b) args o.dst (mk ops o s true) _ _
 simp only [bae] at hps
 simp only [handOk, bae] at hok
 obtain ⟨⟨⟨⟨g1, g2⟩, g3⟩, g4⟩, g5⟩ := hok
 have hY : YCall P b args' (look hc) (rdR (rho L) hc (mk ops o s true) o.dst (fKr P N ops Q l1 r) (Q r)) := by
  have hnf' := hnf
  refine ycall_of_ex (nf := nf) (Nat.le_of_ble_eq_true hps.1.1) hb ?_ ?_ fun l => ?_
  ·subst hnf'; exact Nat.eq_of_beq_eq_true hps.1.2
  ·subst hnf'; intro p hp; simpa [Nat.blt_eq] using List.all_eq_true.1 hps.2 p hp
  ·have := (h l).h r hr
   subst hnf'
   exact this
 refine yield_frame (s := mk ops o s true) (rho L) hY (by rw [← hargs]; exact cvs_les C args) g2 (fun c hc => by simpa using List.all_eq_true.1 g3 c hc) (okH_look g4) (handB_spec hsub) (injB_spec g5) (dstLt_spec g1) ?_
 rintro x h' ⟨hc', rfl, hd, hk⟩
 refine ⟨hc', backH (rho L) hc' s.H, rfl, hd, fun _ => rfl, ?_⟩
 cases x with
 | ret x => exact hk
 | panic x => exact hk
def rnOk (hc hc' : List (Nat × Blk)) (b : Nat) (s : St) : Bool := okH (look hc') hc' && keepsAll (look hc') hc
theorem rn_end {ρ : Nat → Nat} {hc : List (Nat × Blk)} {b : Nat} {T : List (Nat × AV)} {nf : LInfo} {x : AX} {yes : Bool} {st : LoopState} {pd : Option Code} (hx : ∀ r, rnQ ρ hc b T nf s dst K Q r x s1 = roundEnd hc b T nf (rdR ρ hc s dst (K r) (Q r)) yes st pd s1) (bs : List Nat) (cb : List (Nat × List Conv)) (st0 : LoopState) (pd0 : Option Code)
  (hl : look (pickH cb s1.H bs) b = some (.lp T nf st0 pd0)) (hok : (rnOk hc (pickH cb s1.H bs) b s && frameOk ρ hc ((b, .lp T nf st pd) :: pickH cb s1.H bs) s.H) = true)
  (hk : SimK a K (St.put ⟨s.T, backH ρ ((b, .lp T nf st pd) :: pickH cb s1.H bs) s.H⟩ dst (ren ρ (.p (.val (.bool yes)))))) : SimQ a (rnQ ρ hc b T nf s dst K Q) x s1 := by
 refine ⟨fun r hr => ?_⟩
 rw [hx r]
 simp only [rnOk, bae] at hok
 exact ⟨_, st0, pd0, subH_pick hok.1.1, hok.1.2, hl, _, rfl, frameOk_spec hok.2, hk.h r hr⟩
theorem rn_n {ρ : Nat → Nat} {hc : List (Nat × Blk)} {b : Nat} {T : List (Nat × AV)} {nf : LInfo} (bs : List Nat) (cb : List (Nat × List Conv)) (st0 : LoopState) (pd0 : Option Code) (hl : look (pickH cb s1.H bs) b = some (.lp T nf st0 pd0)) (hok : (rnOk hc (pickH cb s1.H bs) b s && frameOk ρ hc ((b, .lp T nf .ready none) :: pickH cb s1.H bs) s.H) = true)
  (hk : SimK a K (St.put ⟨s.T, backH ρ ((b, .lp T nf .ready none) :: pickH cb s1.H bs) s.H⟩ dst (ren ρ (.p (.val (.bool true)))))) : SimQ a (rnQ ρ hc b T nf s dst K Q) .normal s1 := rn_end (fun _ => rfl) bs cb st0 pd0 hl hok hk
end
attribute [simp] osl oarr
end Go.Abs
namespace Go.Abs
open Go
set_option linter.unusedVariables false
section
variable {P : Program} {ops : Array Oper} {Q : Exit → Act → World → Prop} {k : Nat} {ok : Oper}
theorem wpAny_monoQ {Q' : Exit → Act → World → Prop} (hQ : ∀ e a w, Q e a w → Q' e a w) : ∀ (fuel : Nat) (listed : Array Bool) (a : Act) (w : World), wpAny P .any ops Q fuel listed a w → wpAny P .any ops Q' fuel listed a w
 | 0, listed, a, w, h => ⟨h.1, hQ _ _ _ h.2⟩
 | fuel + 1, listed, a, w, h => by
  refine ⟨fun hr => hQ _ _ _ (h.1 hr), fun i hi => ?_⟩
  have h2 := h.2 i hi
  unfold wpOp at h2 ⊢
  cases ho : ops[i]? with
  | none => simp only [ho] at h2 ⊢; exact wpAny_monoQ hQ fuel _ a w h2
  | some o =>
   simp only [ho] at h2 ⊢
   split
   ·rename_i hw
    simp only [hw, if_true] at h2
    rcases h2 with h2 | ⟨h3, h4⟩
    ·exact .inl (Oper.wp_mono2 h2 (fun a w h => wpAny_monoQ hQ fuel _ a w h) hQ)
    ·exact .inr ⟨h3, _, _, hQ _ _ _ h4.choose_spec.choose_spec⟩
   ·rename_i hw
    simp only [hw] at h2
    exact wpAny_monoQ hQ fuel _ _ w h2
end
end Go.Abs
namespace Go.Abs
open Go
set_option linter.unusedVariables false
def Agree (X : Tmp → Prop) (a b : Act) : Prop := a.defers = b.defers ∧ a.tmps.size = b.tmps.size ∧ ∀ t, ¬ X t → a.tmps[t]? = b.tmps[t]?
theorem agree_refl (X : Tmp → Prop) (a : Act) : Agree X a a := ⟨rfl, rfl, fun _ _ => rfl⟩
theorem agree_put {X : Tmp → Prop} {a b : Act} (h : Agree X a b) (d : Option Tmp) (v : Value) : Agree X (a.put d v) (b.put d v) := by
 cases d with
 | none => exact h
 | some d =>
  refine ⟨h.1, by simpa [Act.put] using h.2.1, fun t ht => ?_⟩
  simp only [Act.put, Array.getElem?_setIfInBounds]
  rw [h.2.1, h.2.2 t ht]
theorem agree_eval {X : Tmp → Prop} {a b : Act} (h : Agree X a b) {x : Operand} (hx : ∀ t, x = .tmp t → ¬ X t) : a.eval x = b.eval x := by
 cases x with
 | tmp t =>
  have := h.2.2 t (hx t rfl)
  simp only [Act.eval]
  rw [Array.getD_eq_getD_getElem?, Array.getD_eq_getD_getElem?, this]
 | _ => rfl
theorem execOp_agree {X : Tmp → Prop} {ops : Array Oper} {a b : Act} (h : Agree X a b) {o : Oper} (hs : ∀ cs b, o.op ≠ .select cs b) (hl : ∀ t ∈ o.looksAt ops, ¬ X t) : execOp a.eval o = execOp b.eval o :=
 execOp_congr o hs fun x hx => agree_eval h fun t ht => hl t (by
  subst ht
  exact List.mem_append_left _ (List.mem_filterMap.2 ⟨.tmp t, by simpa using hx, rfl⟩))
theorem wp_agree {P : Program} {X : Tmp → Prop} {ops : Array Oper} {a b : Act} {o : Oper} {w : World} {K : Act → World → Prop} {Q Q' : Exit → Act → World → Prop} (h : Agree X a b) (hs : ∀ cs b, o.op ≠ .select cs b) (hl : ∀ t ∈ o.looksAt ops, ¬ X t) (hd : ∀ t, o.dst = some t → ¬ X t)
  (hp : ∀ c w, Q (.panic c) b w → Q' (.panic c) a w) (ho : ∀ a w, ¬ Q .outgrown a w) (hh : o.wp P b w K Q) : o.wp P a w (fun a' w' => ∃ b', Agree X a' b' ∧ (∀ t, o.dst ≠ some t → b'.tmps[t]? = b.tmps[t]?) ∧ K b' w') Q' := by
 have hput : ∀ (b : Act) (v : Value) (t : Tmp), o.dst ≠ some t → (b.put o.dst v).tmps[t]? = b.tmps[t]? := by
  intro b v t ht
  cases hdst : o.dst with
  | none => rfl
  | some d =>
   have : d ≠ t := fun e => ht (by rw [hdst, e])
   simp [Act.put, Array.getElem?_setIfInBounds_ne this]
 unfold Oper.wp at *
 rw [execOp_agree (ops := ops) h hs hl]
 generalize (execOp b.eval o).run P w = r at *
 cases r with
 | ok n w' =>
  cases n <;> simp only [Oper.upon] at hh ⊢
  case value u => exact ⟨_, agree_put h _ u, hput b u, hh⟩
  case skip => exact ⟨_, agree_put h _ _, hput b _, hh⟩
  case defer d =>
   refine ⟨_, agree_put (X := X) (a := { a with defers := d :: a.defers }) (b := { b with defers := d :: b.defers }) ⟨by simp [h.1], h.2.1, h.2.2⟩ _ _, fun t ht => ?_, hh⟩
   exact hput { b with defers := d :: b.defers } _ t ht
  case enter f args =>
   refine Calls.mono hh fun e w'' he => ?_
   cases e with
   | returned u => exact ⟨_, agree_put h _ u, hput b u, he⟩
   | panicked c => exact hp _ _ he
   | outgrown => obtain ⟨a0, w0, he⟩ := he; exact absurd he (ho _ _)
  case row row args => exact Rows.mono hh fun u w'' he => ⟨_, agree_put h _ u, hput b u, he⟩
 | halt x w' =>
  cases x <;> simp only [Oper.upon] at hh ⊢
  case panic u => exact hp _ _ hh
def aRead (P : Program) (o : Oper) (T : Nat → Option AV) (h : Heap) : Option AV :=
 match o.op with
 | .move x => evO T x
 | .load ty x => (aLoad P T h ty x).map (·.1)
 | .fieldAddr s x f => (aFieldAddr P T s x f).map (·.1)
 | .nilCheck x => (aNilCheck T x).map (·.1)
 | .binOp op _ x y _ => match evO T x, evO T y with
  | some (.p (.val (.int k a))), some (.p (.val (.int k' b))) => if isShift op then none else if k = k' then (intRes op k a b).map fun v => .p (.val v) else none
  | _, _ => none
 | _ => none
section
variable {P : Program} {N : Nat} {D : DB} {φ : Nat → Nat} {M0 : Mset} {T : Nat → Option AV} {h : Heap} {a : Act} {w : World}
theorem aRead_ok {o : Oper} (r : Rel φ M0 N D T h a w) {x : AV} (he : aRead P o T h = some x) : ∃ v, (execOp a.eval o).run P w = .ok (.value v) w ∧ RepA φ h w (MM φ h M0) x v := by
 unfold aRead at he
 split at he
 ·rename_i y ho
  exact ⟨a.eval y, by simp [execOp, ho], r.ev he⟩
 ·rename_i ty y ho
  obtain ⟨u, hu, rfl⟩ := Option.map_eq_some_iff.1 he
  obtain ⟨_, v, h2, h3⟩ := load_run (P := P) r hu
  exact ⟨v, by simp [execOp, ho, h2], h3⟩
 ·rename_i s y f ho
  obtain ⟨u, hu, rfl⟩ := Option.map_eq_some_iff.1 he
  unfold aFieldAddr at hu
  split at hu
  ·rename_i fields hs
   split at hu
   ·rename_i fl hf
    split at hu
    ·rename_i i hi
     split at hu
     ·cases hu
     ·rename_i hsz
      split at hu
      ·rename_i b off hx
       simp only [sie] at hu
       subst hu
       have h2 := r.ev hx
       simp only [RepA] at h2
       refine ⟨.pointer (some ⟨φ b, off + fl.offset, none⟩), ?_, ?_⟩
       ·simp [execOp, ho, Instr.fieldAt, run_underlying hs, hf, h2.1, Instr.sureAddr, fieldPlace, run_sizeOf' hi, hsz, Addr.add_lit]
       ·simp only [RepA]; exact ⟨trivial, h2.2⟩
      ·rename_i cs hx
       split at hu
       ·rename_i hle
        simp only [sie] at hu
        subst hu
        have h2 := r.ev hx
        simp only [RepA] at h2
        obtain ⟨rr, oo, h3, h4⟩ := h2
        refine ⟨.pointer (some ⟨rr, oo + fl.offset, none⟩), ?_, ?_⟩
        ·simp [execOp, ho, Instr.fieldAt, run_underlying hs, hf, h3, Instr.sureAddr, fieldPlace, run_sizeOf' hi, hsz, Addr.add_lit]
        ·simp only [RepA]; exact ⟨rr, oo + fl.offset, rfl, repCs_drop _ hle h4⟩
       ·cases hu
      ·cases hu
    ·cases hu
   ·cases hu
  ·cases hu
 ·rename_i y ho
  obtain ⟨u, hu, rfl⟩ := Option.map_eq_some_iff.1 he
  unfold aNilCheck at hu
  split at hu
  ·rename_i b off hx
   simp only [sie] at hu
   subst hu
   have h2 := r.ev hx
   refine ⟨a.eval y, ?_, h2⟩
   simp only [RepA] at h2
   simp [execOp, ho, h2.1]
  ·rename_i cs hx
   simp only [sie] at hu
   subst hu
   have h2 := r.ev hx
   refine ⟨a.eval y, ?_, h2⟩
   simp only [RepA] at h2
   obtain ⟨rr, oo, h3, _⟩ := h2
   simp [execOp, ho, h3]
  ·rename_i f l m hx
   simp only [sie] at hu
   subst hu
   have h2 := r.ev hx
   refine ⟨a.eval y, ?_, h2⟩
   simp only [RepA] at h2
   obtain ⟨l', m', h3, _⟩ := h2
   simp [execOp, ho, h3]
  ·cases hu
 ·rename_i op tx y z ty ho
  split at he
  ·rename_i k n k' m hx hy
   have h1 := r.ev hx
   have h2 := r.ev hy
   simp only [RepA, RepP] at h1 h2
   split at he
   ·cases he
   rename_i hs
   split at he
   ·rename_i hk
    subst hk
    obtain ⟨v, hv, rfl⟩ := Option.map_eq_some_iff.1 he
    refine ⟨v, ?_, by simp [RepA, RepP]⟩
    cases op <;> first | (simp [isShift] at hs; done) | (simp only [intRes] at hv; first | (cases hv; done) | (simp only [sie] at hv; subst hv; simp [execOp, ho, h1, h2, eqGuard, binOp, Op.intArith, Op.intBits, Op.intCmp, bAnd, bOr, bXor, bAndNot, ltI, leI, eqI, bne]; done) | (by_cases hz : m = 0 <;> simp only [hz, if_true, if_false] at hv <;> first | (cases hv; done) | (simp only [sie] at hv; subst hv; simp [execOp, ho, h1, h2, eqGuard, binOp, Op.intDiv, hz])))
   ·cases he
  ·cases he
 ·cases he
end
def exactA : AV → Bool
 | .p (.val _) => true
 | .ptr _ _ => true
 | _ => false
theorem exactA_one {φ : Nat → Nat} {h : Heap} {w : World} {M : Mset} {x : AV} {v v' : Value} (hx : exactA x = true) (h1 : RepA φ h w M x v) (h2 : RepA φ h w M x v') : v = v' := by
 unfold exactA at hx
 split at hx
 ·simp only [RepA, RepP] at h1 h2
  rw [h1, h2]
 ·simp only [RepA] at h1 h2
  rw [h1.1, h2.1]
 ·cases hx
def Exact (h : Heap) (x : AV) : Prop := exactA x = true ∨ ∃ S es t ty, x = .tsl S es t ∧ h t = some (.arr ty S es.length) ∧ 0 < S
theorem exact_one {φ : Nat → Nat} {h : Heap} {w : World} {M : Mset} {x : AV} {v v' : Value} (hx : Exact h x) (h1 : RepA φ h w M x v) (h2 : RepA φ h w M x v') : v = v' := by
 rcases hx with hx | ⟨S, es, t, ty, rfl, ht, hS⟩
 ·exact exactA_one hx h1 h2
 ·simp only [RepA] at h1 h2
  obtain ⟨_, ty1, n1, a1, a2, a3⟩ := h1
  obtain ⟨_, ty2, n2, b1, b2, b3⟩ := h2
  rw [ht] at a1 b1
  cases a1
  cases b1
  rcases a3 rfl with ⟨_, e1, e2⟩ | ⟨cap, c, e1, e2, e3, _⟩ <;> rcases b3 rfl with ⟨_, f1, f2⟩ | ⟨cap', c', f1, f2, f3, _⟩
  ·exact e1.trans f1.symm
  ·rw [e2] at f2; cases f2
  ·rw [e2] at f2; cases f2
  rw [e2] at f2
  cases f2
  rw [e3] at f3
  have : cap = cap' := Nat.eq_of_mul_eq_mul_right hS f3
  rw [e1, f1, this]
def runH (P : Program) (N : Nat) (ops : Array Oper) : List Nat → St → Option St
 | [], s => some s
 | i :: l, s => match ops[i]? with
  | some o => match aRead P o (look s.T) (look s.H), o.dst with
   | some x, some d => if d < N then runH P N ops l (s.put (some d) x) else none
   | _, _ => none
  | none => none
def pairH (ops : Array Oper) : List Nat → Bool
 | [] => true
 | i :: l => (match ops[i]? with
  | some o => match o.dst with
   | some d => !(o.looksAt ops).contains d && l.all (fun j => match (ops[j]?).bind (·.dst) with | some e => !(o.looksAt ops).contains e && e != d | none => false)
   | none => false
  | none => false) && pairH ops l
def dstX (ops : Array Oper) (H : List Nat) (t : Tmp) : Prop := ∃ i ∈ H, (ops[i]?).bind (·.dst) = some t
theorem runH_ok {P : Program} {N : Nat} {D : DB} {φ : Nat → Nat} {M0 : Mset} {ops : Array Oper} (hns : Region.noSelect ops = true) : ∀ (H : List Nat) (s s1 : St) (a : Act) (w : World), pairH ops H = true → runH P N ops H s = some s1 → Rel φ M0 N D (look s.T) (look s.H) a w →
  ∃ b, Rel φ M0 N D (look s1.T) (look s1.H) b w ∧ look s1.H = look s.H ∧ Agree (dstX ops H) a b ∧ ∀ i ∈ H, ∃ o d v, ops[i]? = some o ∧ o.dst = some d ∧ b.tmps[d]? = some v ∧ (execOp b.eval o).run P w = .ok (.value v) w
 | [], s, s1, a, w, _, h, r => by
  simp only [runH, sie] at h
  subst h
  exact ⟨a, r, rfl, agree_refl _ a, fun i hi => by cases hi⟩
 | i :: H, s, s1, a, w, hp, h, r => by
  simp only [runH] at h
  cases ho : ops[i]? with
  | none => rw [ho] at h; cases h
  | some o =>
   simp only [ho] at h
   split at h
   ·rename_i x d hx hd
    split at h
    rotate_left
    ·cases h
    rename_i hdN
    simp only [pairH, ho, hd, bae, Bool.not_eq_true'] at hp
    obtain ⟨⟨hself, hlater⟩, hp'⟩ := hp
    obtain ⟨v, hrun, hrep⟩ := aRead_ok r hx
    have r1 := r.put (d := some d) (fun t ht => by cases ht; exact hdN) hrep
    obtain ⟨b, rb, hH, hag, hall⟩ := runH_ok hns H (s.put (some d) x) s1 (a.put (some d) v) w hp' h r1
    have hnl : ∀ t ∈ o.looksAt ops, t ≠ d ∧ ¬ dstX ops H t := by
     intro t ht
     refine ⟨fun e => ?_, ?_⟩
     ·subst e; simp [ht] at hself
     ·rintro ⟨j, hj, hje⟩
      have := List.all_eq_true.1 hlater j hj
      rw [hje] at this
      simp [ht] at this
    have hdl : ¬ dstX ops H d := by
     rintro ⟨j, hj, hje⟩
     have := List.all_eq_true.1 hlater j hj
     rw [hje] at this
     simp at this
    have hds : d < a.tmps.size := by rw [r.siz]; exact hdN
    refine ⟨b, rb, by rw [hH]; rfl, ?_, ?_⟩
    ·refine ⟨by rw [← hag.1]; rfl, by rw [← hag.2.1]; simp [Act.put], fun t ht => ?_⟩
     rw [← hag.2.2 t (fun hc => ht (by obtain ⟨j, hj, hje⟩ := hc; exact ⟨j, List.mem_cons_of_mem _ hj, hje⟩))]
     have : d ≠ t := fun e => ht ⟨i, List.mem_cons_self, by rw [ho]; exact hd.trans (by rw [e])⟩
     simp [Act.put, Array.getElem?_setIfInBounds_ne this]
    ·intro j hj
     rcases List.mem_cons.1 hj with rfl | hj
     ·refine ⟨o, d, v, ho, hd, ?_, ?_⟩
      ·rw [← hag.2.2 d hdl]
       simp [Act.put, hds]
      ·rw [← hrun]
       congr 1
       have h1 : execOp (a.put (some d) v).eval o = execOp a.eval o := execOp_put o (fun cs b => Region.noSelect_spec hns j o cs b ho) a (some d) v (fun t ht hc => by cases ht; exact (hnl d hc).1 rfl)
       rw [← h1]
       exact (execOp_agree (ops := ops) hag (fun cs b => Region.noSelect_spec hns j o cs b ho) (fun t ht => (hnl t ht).2)).symm
     ·exact hall j hj
   ·cases h
def lateI (P : Program) (ops : Array Oper) (i : Nat) (s : St) : Prop :=
 match ops[i]? with
 | some o => match o.op, o.dst with
  | .move x, some d => True
  | _, some d => ∃ x, aRead P o (look s.T) (look s.H) = some x ∧ look s.T d = some x ∧ Exact (look s.H) x
  | _, none => False
 | none => False
def lates (P : Program) (ops : Array Oper) (L : List Nat) (s : St) : Prop := ∀ i ∈ L, lateI P ops i s
def waitsT : Nat → Array Oper → Nat → Nat → Bool
 | 0, _, _, _ => false
 | n + 1, ops, j, i => match ops[j]? with
  | some o => o.after.toList.any fun e => Region.binds .any e && (e.on == i || waitsT n ops e.on i)
  | none => false
def lateL (ops : Array Oper) (L : List Nat) (c : Nat) : List Nat := L.filter fun i => !waitsT ops.size ops c i && !waitsT ops.size ops i c
def ExC (P : Program) (N : Nat) (ops : Array Oper) (Q : AX → St → Prop) (L : List Nat) : List (Nat × List Nat) → St → Prop
 | [], s => Q .normal s
 | (c, hs) :: rest, s => match ops[c]? with
  | some o => ExOp P N o s (fun s' => lates P ops (lateL ops L c) s' ∧ ∃ s'', runH P N ops hs s' = some s'' ∧ ExC P N ops Q L rest s'') Q
  | none => False
theorem waitsT_spec {ops : Array Oper} {listed : Array Bool} (hcl : ∀ (j : Nat) o, ops[j]? = some o → listed.getD j false = true → ∀ e ∈ o.after, Region.binds .any e = true → listed.getD e.on false = true) : ∀ (n j i : Nat) (o : Oper), ops[j]? = some o → (∀ e ∈ o.after, Region.binds .any e = true → listed.getD e.on false = true) → waitsT n ops j i = true → listed.getD i false = true
 | 0, j, i, o, ho, hr, h => by cases h
 | n + 1, j, i, o, ho, hr, h => by
  simp only [waitsT, ho, List.any_eq_true, bae, Bool.or_eq_true, beq_iff_eq] at h
  obtain ⟨e, he, hb, h1⟩ := h
  have hl := hr e (by simpa using he) hb
  rcases h1 with h1 | h1
  ·rw [← h1]; exact hl
  ·cases ho2 : ops[e.on]? with
   | none => cases n <;> simp [waitsT, ho2] at h1
   | some o2 => exact waitsT_spec hcl n e.on i o2 ho2 (fun e2 he2 hb2 => hcl e.on o2 ho2 hl e2 he2 hb2) h1
def chainOk (ops : Array Oper) : List Nat → Bool
 | [] => true
 | [_] => true
 | c :: c' :: r => (ops[c']?).any (waits · c) && chainOk ops (c' :: r)
def stageOk (ops : Array Oper) (L : List Nat) : List Nat → List Nat → List (Nat × List Nat) → Bool
 | _, _, [] => true
 | hv, cur, (c, hs) :: r => cur.all (fun i => L.contains i || waitsT ops.size ops c i) && hs.all (fun i => waitsT ops.size ops i c) && hv.all (fun i => !waitsT ops.size ops i c) && stageOk ops L (hv ++ hs) hs r
def allH (H : List Nat) (Ch : List (Nat × List Nat)) : List Nat := H ++ (Ch.map (·.2)).flatten
def hstOk (H L : List Nat) (Ch : List (Nat × List Nat)) (ops : Array Oper) : Bool :=
 (List.range ops.size).all (fun i => (allH H Ch).contains i || (Ch.map (·.1)).contains i) && Region.noSelect ops && pairH ops (allH H Ch) && chainOk ops (Ch.map (·.1)) && decide (Ch.map (·.1)).Nodup && (allH H Ch).all (fun i => !(Ch.map (·.1)).contains i) &&
 stageOk ops L H H Ch && ops.toList.all (fun o => o.guard.isNone) && edgesDown 0 ops.toList &&
 (allH H Ch).all (fun i => match (ops[i]?).bind (·.dst) with
  | some d => (List.range ops.size).all fun j => i == j || (match ops[j]? with | some oj => oj.dst != some d && (waits oj i || !(oj.looksAt ops).contains d) | none => true)
  | none => false) &&
 L.all (fun i => match ops[i]? with | some o => (match o.op with | .move _ => true | _ => false) && (Ch.map (·.1)).all (fun c => match (ops[c]?).bind (·.dst) with | some e => !(o.looksAt ops).contains e | none => true) || !(match o.op with | .move _ => true | _ => false) | none => false)
theorem waits_spec {o : Oper} {i : Nat} (h : waits o i = true) : ∃ e ∈ o.after, Region.binds .any e = true ∧ e.on = i := by
 simp only [waits, List.any_eq_true, bae, beq_iff_eq] at h
 obtain ⟨e, h1, h2, h3⟩ := h
 exact ⟨e, by simpa using h1, h2, h3⟩
theorem act_ext {a b : Act} {X : Tmp → Prop} (h : Agree X a b) (hx : ∀ t, ¬ X t) : a = b := by
 obtain ⟨h1, h2, h3⟩ := h
 cases a with
 | mk ta da =>
  cases b with
  | mk tb db =>
   simp only at h1 h3
   subst h1
   congr 1
   exact Array.ext_getElem? (fun i => h3 i (hx i))
def lateX (ops : Array Oper) (H : List Nat) (listed : Array Bool) (t : Tmp) : Prop := ∃ i ∈ H, listed.getD i false = false ∧ (ops[i]?).bind (·.dst) = some t
theorem chain_waits {ops : Array Oper} : ∀ (l1 : List Nat) (c c' : Nat) (l2 : List Nat), chainOk ops (l1 ++ c :: c' :: l2) = true → (ops[c']?).any (waits · c) = true
 | [], c, c', l2, h => by
  simp only [List.nil_append, chainOk, bae] at h
  exact h.1
 | [x], c, c', l2, h => by
  simp only [List.cons_append, List.nil_append, chainOk, bae] at h
  exact h.2.1
 | x :: y :: l1, c, c', l2, h => by
  simp only [List.cons_append, chainOk, bae] at h
  exact chain_waits (y :: l1) c c' l2 h.2
theorem pairH_spec {ops : Array Oper} : ∀ (l1 l2 : List Nat), pairH ops (l1 ++ l2) = true → (∀ i ∈ l1, ∀ j ∈ l2, ∃ o d, ops[i]? = some o ∧ o.dst = some d ∧ ∀ e, (ops[j]?).bind (·.dst) = some e → e ∉ o.looksAt ops ∧ e ≠ d) ∧ pairH ops l2 = true
 | [], l2, h => ⟨(fun i hi => by cases hi), h⟩
 | x :: l1, l2, h => by
  simp only [List.cons_append, pairH, bae] at h
  obtain ⟨g1, g2⟩ := pairH_spec l1 l2 h.2
  refine ⟨fun i hi j hj => ?_, g2⟩
  rcases List.mem_cons.1 hi with rfl | hi
  ·have h1 := h.1
   cases ho : ops[i]? with
   | none => rw [ho] at h1; cases h1
   | some o =>
    rw [ho] at h1
    dsimp only at h1
    cases hd : o.dst with
    | none => rw [hd] at h1; cases h1
    | some d =>
     rw [hd] at h1
     simp only [bae] at h1
     refine ⟨o, d, rfl, hd, fun e he => ?_⟩
     have h2 := List.all_eq_true.1 h1.2 j (List.mem_append_right _ hj)
     rw [he] at h2
     simp only [bae, Bool.not_eq_true', bne_iff_ne] at h2
     refine ⟨fun hc => ?_, h2.2⟩
     have := h2.1
     simp [hc] at this
  ·exact g1 i hi j hj
theorem pairH_self {ops : Array Oper} {j d : Nat} {o : Oper} (ho : ops[j]? = some o) (hd : o.dst = some d) : ∀ (l : List Nat), pairH ops l = true → j ∈ l → d ∉ o.looksAt ops := by
 intro l
 induction l with
 | nil => intro _ h; cases h
 | cons x l ihl =>
  intro hp hm
  simp only [pairH, bae] at hp
  rcases List.mem_cons.1 hm with rfl | hm
  ·have := hp.1
   simp only [ho, hd, bae, Bool.not_eq_true'] at this
   intro hc
   simp [hc] at this
  ·exact ihl hp.2 hm
theorem pairH_left {ops : Array Oper} : ∀ (l1 l2 : List Nat), pairH ops (l1 ++ l2) = true → pairH ops l1 = true
 | [], _, _ => rfl
 | x :: l1, l2, h => by
  simp only [List.cons_append, pairH, bae] at h ⊢
  refine ⟨?_, pairH_left l1 l2 h.2⟩
  have h1 := h.1
  cases ho : ops[x]? with
  | none => rw [ho] at h1; cases h1
  | some o =>
   rw [ho] at h1
   dsimp only at h1 ⊢
   cases hd : o.dst with
   | none => rw [hd] at h1; cases h1
   | some d =>
    rw [hd] at h1
    simp only [bae, List.all_append] at h1 ⊢
    exact ⟨h1.1, h1.2.1⟩
theorem stageOk_mem {ops : Array Oper} {L : List Nat} : ∀ (hv cur : List Nat) (ch : List (Nat × List Nat)), stageOk ops L hv cur ch = true → ∀ c hs, (c, hs) ∈ ch → ∀ i ∈ hs, waitsT ops.size ops i c = true
 | _, _, [], _, c, hs, h, _, _ => by cases h
 | hv, cur, (c0, hs0) :: r, h, c, hs, hm, i, hi => by
  simp only [stageOk, bae] at h
  rcases List.mem_cons.1 hm with e | hm
  ·cases e
   exact List.all_eq_true.1 h.1.1.2 i hi
  ·exact stageOk_mem (hv ++ hs0) hs0 r h.2 c hs hm i hi
def dstsOf (ops : Array Oper) : List Tmp := ops.toList.filterMap (·.dst)
def dropS (ops : Array Oper) (s : St) : St := ⟨s.T.filter (fun p => !(dstsOf ops).contains p.1), s.H⟩
theorem look_filter (f : Nat → Bool) : ∀ (T : List (Nat × AV)) (t : Nat) (x : AV), look (T.filter (fun p => f p.1)) t = some x → look T t = some x ∧ f t = true
 | [], t, x, h => by cases h
 | (k, v) :: T, t, x, h => by
  simp only [List.filter_cons] at h
  by_cases hk : f k = true
  ·simp only [hk, if_true, look] at h
   simp only [look]
   by_cases e : k = t
   ·subst e; simp only [if_true] at h ⊢; exact ⟨h, hk⟩
   ·simp only [e, if_false] at h ⊢; exact look_filter f T t x h
  ·simp only [hk] at h
   obtain ⟨h1, h2⟩ := look_filter f T t x (by simpa using h)
   simp only [look]
   have : k ≠ t := fun e => hk (e ▸ h2)
   simp only [this, if_false]
   exact ⟨h1, h2⟩
def qh {R : Type} (ops : Array Oper) (Q : R → AX → St → Prop) : R → AX → St → Prop := fun r x s => match x with | .normal => Q r .normal s | .panic v => Q r (.panic v) (dropS ops s) | _ => False
theorem rel_agree {N : Nat} {D : DB} {φ : Nat → Nat} {M0 : Mset} {ops : Array Oper} {a b : Act} {w : World} {s : St} {X : Tmp → Prop} (h : Agree X a b) (hX : ∀ t, X t → t ∈ dstsOf ops) (r : Rel φ M0 N D (look s.T) (look s.H) b w) : Rel φ M0 N D (look (dropS ops s).T) (look (dropS ops s).H) a w := by
 refine ⟨?_, by rw [h.2.1]; exact r.siz, r.hp, fun t x ht => ?_⟩
 ·have := r.dfs
  unfold Marks at this ⊢
  rw [h.1]
  exact this
 ·obtain ⟨h1, h2⟩ := look_filter (fun t => !(dstsOf ops).contains t) s.T t x ht
  obtain ⟨g1, g2⟩ := r.tm t x h1
  refine ⟨g1, ?_⟩
  have : a.tmps[t]? = b.tmps[t]? := h.2.2 t (fun hc => by
   have := hX t hc
   simp [this] at h2)
  rw [Array.getD_eq_getD_getElem?, this, ← Array.getD_eq_getD_getElem?]
  exact g2
theorem hst_run {P : Program} {N : Nat} {D : DB} {ops : Array Oper} {Q Qh : AX → St → Prop} {H L : List Nat} {Ch : List (Nat × List Nat)} {φ0 : Nat → Nat} {h0 : Heap} {w0 : World} {M0 : Mset} (hok : hstOk H L Ch ops = true) (hqn : ∀ s, Qh .normal s → Q .normal s) (hqp : ∀ v s, Qh (.panic v) s → Q (.panic v) (dropS ops s)) :
  ∀ (fuel : Nat) (done ch : List (Nat × List Nat)) (cur Hv : List Nat) (listed : Array Bool) (a b : Act) (w : World) (s : St) (φ : Nat → Nat), Ch = done ++ ch → Hv = H ++ (done.map (·.2)).flatten → (∀ i ∈ Hv, i ∉ L → i ∉ cur → listed.getD i false = true) → (∀ i ∈ cur, i ∈ Hv) → stageOk ops L Hv cur ch = true → listed.size = ops.size → unl listed ops.size ≤ fuel →
   (∀ (j : Nat) o, ops[j]? = some o → listed.getD j false = true → ∀ e ∈ o.after, Region.binds .any e = true → listed.getD e.on false = true) →
   (∀ c ∈ done, listed.getD c.1 false = true) → (∀ c ∈ ch, listed.getD c.1 false = false) → Agree (lateX ops Hv listed) a b → Rel φ M0 N D (look s.T) (look s.H) b w → Evol φ0 h0 w0 φ (look s.H) w →
   (∀ i ∈ Hv, listed.getD i false = false → ∃ o d v, ops[i]? = some o ∧ o.dst = some d ∧ b.tmps[d]? = some v ∧ (execOp b.eval o).run P w = .ok (.value v) w) →
   ExC P N ops Qh L ch s → wpAny P .any ops (Post N D Q φ0 M0 h0 w0) fuel listed a w := by
 simp only [hstOk, bae, decide_eq_true_eq] at hok
 obtain ⟨⟨⟨⟨⟨⟨⟨⟨⟨⟨hcov, hns⟩, hpair⟩, hchain⟩, hnd⟩, hdis⟩, hstage⟩, hgu⟩, hdown⟩, hreg⟩, hLr⟩ := hok
 have hgd : ∀ (listed : Array Bool) (i : Nat), i < listed.size → listed.getD i true = listed.getD i false := fun listed i hi => by simp [hi]
 have hpan : ∀ (X : Tmp → Prop) (a b : Act), Agree X a b → (∀ t, X t → t ∈ dstsOf ops) → ∀ c w, Post N D Qh φ0 M0 h0 w0 (.panic c) b w → Post N D Q φ0 M0 h0 w0 (.panic c) a w := by
  rintro X a b hag hX c w' ⟨φ', x, s', g1, g2, g3, g4⟩
  cases x with
  | normal => cases g4
  | exit i => cases g4
  | ret => cases g4
  | panic v => exact ⟨φ', .panic v, dropS ops s', hqp _ _ g1, rel_agree hag hX g2, g3, g4⟩
 have hout : ∀ a w, ¬ Post N D Qh φ0 M0 h0 w0 .outgrown a w := fun a w h => post_not_out ⟨a, w, h⟩
 have hXm : ∀ (Hv : List Nat) (listed : Array Bool) (t : Tmp), lateX ops Hv listed t → t ∈ dstsOf ops := by
  rintro Hv listed t ⟨i, _, _, hd⟩
  cases ho : ops[i]? with
  | none => rw [ho] at hd; cases hd
  | some o =>
   rw [ho] at hd
   exact List.mem_filterMap.2 ⟨o, by have := Array.mem_of_getElem? ho; simpa using this, hd⟩
 have hgn : ∀ (j : Nat) o, ops[j]? = some o → o.guard = none := by
  intro j o ho
  have := List.all_eq_true.1 hgu o (by have := Array.mem_of_getElem? ho; simpa using this)
  simpa using this
 have hready : ∀ (listed : Array Bool), listed.size = ops.size → Region.ready .any ops listed = [] → ∀ i, i < ops.size → listed.getD i false = true := by
  intro listed hsz hr i
  induction i using Nat.strongRecOn with
  | _ i ih =>
   intro hi
   cases hq : listed.getD i false with
   | true => rfl
   | false =>
    have : i ∈ Region.ready .any ops listed := by
     rw [mem_ready]
     refine ⟨by rw [hgd listed i (by omega)]; exact hq, ops[i], Array.getElem?_eq_getElem hi, fun e he hb => ?_⟩
     have h1 := edgesDown_spec hdown i ops[i] (by simp [hi]) e he hb
     exact ih e.on (by omega) (by omega)
    rw [hr] at this
    cases this
 have hfin : ∀ (listed : Array Bool) (ch : List (Nat × List Nat)) (Hv : List Nat) (a b : Act) (w : World) (s : St) (φ : Nat → Nat), (∀ i, i < ops.size → listed.getD i false = true) → (∀ c ∈ ch, listed.getD c.1 false = false) → Agree (lateX ops Hv listed) a b →
   Rel φ M0 N D (look s.T) (look s.H) b w → Evol φ0 h0 w0 φ (look s.H) w → ExC P N ops Qh L ch s → Post N D Q φ0 M0 h0 w0 .normal a w := by
  intro listed ch Hv a b w s φ hall hch hag r E hx
  have hab : a = b := act_ext hag (by
   rintro t ⟨i, hi, hl, hd⟩
   cases ho : ops[i]? with
   | none => rw [ho] at hd; cases hd
   | some o => rw [hall i (Array.getElem?_eq_some_iff.1 ho).1] at hl; cases hl)
  subst hab
  cases ch with
  | nil => exact ⟨φ, .normal, s, hqn _ hx, r, E, rfl⟩
  | cons c ch =>
   exfalso
   obtain ⟨c, hs⟩ := c
   simp only [ExC] at hx
   cases ho : ops[c]? with
   | none => rw [ho] at hx; exact hx
   | some o =>
    have := hch (c, hs) List.mem_cons_self
    rw [hall c (Array.getElem?_eq_some_iff.1 ho).1] at this
    cases this
 intro fuel
 induction fuel with
 | zero =>
  intro done ch cur Hv listed a b w s φ hCh hHv hnl hcur hst hsz hu hcl hdo hch hag r E J hx
  have hall : ∀ i, i < ops.size → listed.getD i false = true := fun i hi => by rw [← hgd listed i (by omega)]; exact unl_zero (n := ops.size) (by omega) i hi
  refine ⟨List.eq_nil_iff_forall_not_mem.2 fun i hi => ?_, hfin listed ch Hv a b w s φ hall hch hag r E hx⟩
  obtain ⟨h1, o, ho, _⟩ := mem_ready.1 hi
  have hilt := (Array.getElem?_eq_some_iff.1 ho).1
  rw [hgd listed i (by omega), hall i hilt] at h1
  cases h1
 | succ fuel ih =>
  intro done ch cur Hv listed a b w s φ hCh hHv hnl hcur hst hsz hu hcl hdo hch hag r E J hx
  refine ⟨fun hr => hfin listed ch Hv a b w s φ (hready listed hsz hr) hch hag r E hx, fun j hj => ?_⟩
  obtain ⟨hun, o, ho, hall⟩ := mem_ready.1 hj
  have hjlt : j < ops.size := (Array.getElem?_eq_some_iff.1 ho).1
  have hun' : listed.getD j false = false := by rw [← hgd listed j (by omega)]; exact hun
  have hsel : ∀ cs b, o.op ≠ .select cs b := fun cs b => Region.noSelect_spec hns j o cs b ho
  have hwant : ∀ tm, Region.wanted o (yielded ops tm) = true := fun tm => by simp [Region.wanted, hgn j o ho]
  have hsubH : ∀ i ∈ Hv, i ∈ allH H Ch := by
   intro i hi
   rw [hHv] at hi
   unfold allH
   rw [hCh, List.map_append, List.flatten_append, ← List.append_assoc]
   exact List.mem_append_left _ hi
  have eL : ∀ k, (listed.setIfInBounds j true).getD k false = (listed.getD k false || decide (k = j)) := by
   intro k
   by_cases hkj : k = j
   ·subst hkj
    have : k < listed.size := by omega
    simp [this]
   ·rw [getD_set_ne false (Ne.symm hkj)]
    simp [hkj]
  have hu' : unl (listed.setIfInBounds j true) ops.size ≤ fuel := by
   have := unl_set hun ops.size
   rw [if_pos hjlt] at this
   omega
  have hcl' : ∀ (k : Nat) ok, ops[k]? = some ok → (listed.setIfInBounds j true).getD k false = true → ∀ e ∈ ok.after, Region.binds .any e = true → (listed.setIfInBounds j true).getD e.on false = true := by
   intro k ok hk hl e he hb
   rw [eL] at hl ⊢
   simp only [Bool.or_eq_true, decide_eq_true_eq] at hl ⊢
   rcases hl with hl | hl
   ·exact .inl (hcl k ok hk hl e he hb)
   ·subst hl
    rw [ho] at hk
    cases hk
    exact .inl (hall e he hb)
  have hsee : ∀ t ∈ o.looksAt ops, ¬ lateX ops Hv listed t ∨ ∃ d, o.dst = some d ∧ t = d ∧ j ∈ Hv := by
   intro t ht
   by_cases hc : lateX ops Hv listed t
   rotate_left
   ·exact .inl hc
   obtain ⟨i, hi, hl, hd⟩ := hc
   have h1 := List.all_eq_true.1 hreg i (hsubH i hi)
   rw [hd] at h1
   have h2 := List.all_eq_true.1 h1 j (by simp [hjlt])
   simp only [ho, Bool.or_eq_true, beq_iff_eq, bae, Bool.not_eq_true', bne_iff_ne] at h2
   rcases h2 with rfl | ⟨_, h2 | h2⟩
   ·rw [ho] at hd
    exact .inr ⟨t, hd, rfl, hi⟩
   ·obtain ⟨e, he, hb, hon⟩ := waits_spec h2
    have := hall e he hb
    rw [hon, hl] at this
    cases this
   ·simp [ht] at h2
  have hcase := List.all_eq_true.1 hcov j (by simp [hjlt])
  simp only [Bool.or_eq_true, List.contains_iff_mem] at hcase
  by_cases hjA : j ∈ allH H Ch
  ·
   have hjC : j ∉ Ch.map (·.1) := by
    have := List.all_eq_true.1 hdis j hjA
    simpa using this
   have hjH : j ∈ Hv := by
    unfold allH at hjA
    rw [hCh, List.map_append, List.flatten_append, ← List.append_assoc] at hjA
    rcases List.mem_append.1 hjA with h1 | h1
    ·rw [hHv]; exact h1
    ·exfalso
     obtain ⟨hs, h2, h3⟩ := List.mem_flatten.1 h1
     obtain ⟨⟨c, hs'⟩, h4, h5⟩ := List.mem_map.1 h2
     simp only at h5
     subst h5
     have hw := stageOk_mem Hv cur ch hst c hs' h4 j h3
     have := waitsT_spec hcl _ j c o ho hall hw
     rw [hch (c, hs') h4] at this
     cases this
   obtain ⟨o', d, v, ho', hd, hv, hrun⟩ := J j hjH hun'
   rw [ho] at ho'
   cases ho'
   have hself : d ∉ o.looksAt ops := pairH_self ho hd (allH H Ch) hpair hjA
   have hsee' : ∀ t ∈ o.looksAt ops, ¬ lateX ops Hv listed t := by
    intro t ht
    rcases hsee t ht with h1 | ⟨d', h1, rfl, _⟩
    ·exact h1
    ·rw [hd] at h1
     cases h1
     exact absurd ht hself
   unfold wpOp
   simp only [ho, hwant, if_true]
   refine .inl ?_
   unfold Oper.wp
   rw [execOp_agree (ops := ops) hag hsel hsee', hrun]
   simp only [Oper.upon]
   refine ih done ch cur Hv (listed.setIfInBounds j true) (a.put o.dst v) b w s φ hCh hHv (fun i hi h1 h2 => by rw [eL, hnl i hi h1 h2]; rfl) hcur hst (by simpa using hsz) hu' hcl' (fun c hc => by rw [eL, hdo c hc]; rfl) ?_ ?_ r E ?_ hx
   ·intro c hc
    rw [eL, hch c hc]
    have : c.1 ≠ j := fun e => hjC (by rw [hCh, ← e]; exact List.mem_map.2 ⟨c, List.mem_append_right _ hc, rfl⟩)
    simp [this]
   ·refine ⟨by rw [← hag.1, hd]; rfl, by rw [← hag.2.1, hd]; simp [Act.put], fun t ht => ?_⟩
    rw [hd]
    by_cases htd : d = t
    ·subst htd
     have hds : d < a.tmps.size := by
      rw [hag.2.1]
      exact (Array.getElem?_eq_some_iff.1 hv).1
     rw [hv]
     simp [Act.put, hds]
    ·rw [← hag.2.2 t (fun hc => ht (by
      obtain ⟨i, hi, hl, hdi⟩ := hc
      refine ⟨i, hi, ?_, hdi⟩
      rw [eL, hl]
      have : i ≠ j := fun e => htd (by rw [e, ho] at hdi; exact Option.some.inj (hd.symm.trans hdi))
      simp [this]))]
     simp [Act.put, Array.getElem?_setIfInBounds_ne htd]
   ·intro i hi hl
    refine J i hi ?_
    rw [eL] at hl
    simp only [Bool.or_eq_false_iff] at hl
    exact hl.1
  ·
   have hjC : j ∈ Ch.map (·.1) := hcase.resolve_left hjA
   have hjH : j ∉ Hv := fun h => hjA (hsubH j h)
   have hjch : ∃ hs r, ch = (j, hs) :: r := by
    have hjC2 := hjC
    rw [hCh, List.map_append] at hjC2
    have hj1 : j ∈ ch.map (·.1) := by
     rcases List.mem_append.1 hjC2 with h1 | h1
     ·obtain ⟨c, hc, rfl⟩ := List.mem_map.1 h1
      rw [hdo c hc] at hun'; cases hun'
     ·exact h1
    cases ch with
    | nil => cases hj1
    | cons c r =>
     obtain ⟨c, hs⟩ := c
     by_cases hjc : j = c
     ·exact ⟨hs, r, by rw [hjc]⟩
     ·exfalso
      have hjr : j ∈ r.map (·.1) := (List.mem_cons.1 hj1).resolve_left hjc
      obtain ⟨r1, r2, hr12⟩ := List.append_of_mem hjr
      obtain ⟨q, x, hqx⟩ : ∃ q x, c :: r1 = q ++ [x] := ⟨(c :: r1).dropLast, (c :: r1).getLast (by simp), (List.dropLast_concat_getLast (by simp)).symm⟩
      have hsp : Ch.map (·.1) = (done.map (·.1) ++ q) ++ x :: j :: r2 := by
       rw [hCh, List.map_append, List.map_cons, hr12, show c :: (r1 ++ j :: r2) = (c :: r1) ++ j :: r2 from rfl, hqx]
       simp
      rw [hsp] at hchain
      have h1 := chain_waits _ _ _ _ hchain
      rw [ho] at h1
      obtain ⟨e, he, hb, hon⟩ := waits_spec (o := o) (i := x) h1
      have h2 := hall e he hb
      have hxm : x ∈ ((c, hs) :: r).map (·.1) := by
       rw [List.map_cons, hr12, show c :: (r1 ++ j :: r2) = (c :: r1) ++ j :: r2 from rfl, hqx]; simp
      obtain ⟨y, hy, rfl⟩ := List.mem_map.1 hxm
      have h3 := hch y hy
      rw [hon, h3] at h2
      cases h2
   obtain ⟨hs, rest, rfl⟩ := hjch
   have hseeC : ∀ t ∈ o.looksAt ops, ¬ lateX ops Hv listed t := by
    intro t ht
    rcases hsee t ht with h1 | ⟨d', _, _, h1⟩
    ·exact h1
    ·exact absurd h1 hjH
   have hdst : ∀ t, o.dst = some t → ¬ lateX ops Hv listed t := by
    rintro t ht ⟨i, hi, hl, hd⟩
    have h1 := List.all_eq_true.1 hreg i (hsubH i hi)
    rw [hd] at h1
    have h2 := List.all_eq_true.1 h1 j (by simp [hjlt])
    simp only [ho, Bool.or_eq_true, beq_iff_eq, bae, Bool.not_eq_true', bne_iff_ne] at h2
    rcases h2 with rfl | ⟨h2, _⟩
    ·exact hjH hi
    ·exact h2 ht
   simp only [ExC, ho] at hx
   simp only [stageOk, bae] at hst
   unfold wpOp
   simp only [ho, hwant, if_true]
   refine .inl ?_
   have hw := exOp_ok hx r
   have hw2 := Go.Abs.Oper.wp_mono2 (K' := fun a' w' => ∃ φ' s', (lates P ops (lateL ops L j) s' ∧ ∃ s'', runH P N ops hs s' = some s'' ∧ ExC P N ops Qh L rest s'') ∧ Rel φ' M0 N D (look s'.T) (look s'.H) a' w' ∧ Evol φ (look s.H) w φ' (look s'.H) w') (Q' := Post N D Qh φ0 M0 h0 w0) hw (fun _ _ h => h) (fun e a' w' p => p.trans E)
   refine Oper.wp_mono ?_ (wp_agree (ops := ops) hag hsel hseeC hdst (hpan _ _ _ hag (hXm _ _)) hout hw2)
   rintro a' w' ⟨b', hag', hbX, φ', s', ⟨hl', s'', hrunH, hx'⟩, r', E'⟩
   have hdone : ∀ i ∈ Hv, i ∉ L → listed.getD i false = true := by
    intro i hi hiL
    by_cases hic : i ∈ cur
    ·have h1 := List.all_eq_true.1 hst.1.1.1 i hic
     simp only [Bool.or_eq_true, List.contains_iff_mem] at h1
     rcases h1 with h1 | h1
     ·exact absurd h1 hiL
     ·exact waitsT_spec hcl _ j i o ho hall h1
    ·exact hnl i hi hiL hic
   have hall2 : allH H Ch = Hv ++ (hs ++ (rest.map (·.2)).flatten) := by
    unfold allH
    rw [hCh, hHv, List.map_append, List.flatten_append, List.map_cons, List.flatten_cons, List.append_assoc]
   have hpair2 := hpair
   rw [hall2] at hpair2
   obtain ⟨pp1, pp2⟩ := pairH_spec Hv _ hpair2
   have pp3 := pairH_left _ _ pp2
   obtain ⟨b2, rb, hH2, hag2, hJ2⟩ := runH_ok hns hs s' s'' b' w' pp3 hrunH r'
   have hhs : ∀ i ∈ hs, listed.getD i false = false ∧ i ≠ j := by
    intro i hi
    have hw := List.all_eq_true.1 hst.1.1.2 i hi
    refine ⟨?_, fun e => hjA (by rw [hall2, ← e]; exact List.mem_append_right _ (List.mem_append_left _ hi))⟩
    cases hq : listed.getD i false with
    | false => rfl
    | true =>
     exfalso
     obtain ⟨oi, _, _, hoi, _⟩ := hJ2 i hi
     have := waitsT_spec hcl _ i j oi hoi (fun e he hb => hcl i oi hoi hq e he hb) hw
     rw [hun'] at this
     cases this
   have hxs : ∀ t, dstX ops hs t → lateX ops (Hv ++ hs) (listed.setIfInBounds j true) t := by
    rintro t ⟨i, hi, hd⟩
    refine ⟨i, List.mem_append_right _ hi, ?_, hd⟩
    rw [eL, (hhs i hi).1]
    simp [(hhs i hi).2]
   have hxo : ∀ t, lateX ops Hv listed t → lateX ops (Hv ++ hs) (listed.setIfInBounds j true) t := by
    rintro t ⟨i, hi, hl, hd⟩
    refine ⟨i, List.mem_append_left _ hi, ?_, hd⟩
    rw [eL, hl]
    have : i ≠ j := fun e => hjH (e ▸ hi)
    simp [this]
   refine ih (done ++ [(j, hs)]) rest hs (Hv ++ hs) (listed.setIfInBounds j true) a' b2 w' s'' φ' (by rw [hCh]; simp) (by rw [hHv, List.map_append, List.flatten_append]; simp) ?_ (fun i hi => List.mem_append_right _ hi) hst.2 (by simpa using hsz) hu' hcl' (fun c hc => by
    rw [eL]
    rcases List.mem_append.1 hc with h1 | h1
    ·rw [hdo c h1]; rfl
    ·rw [List.mem_singleton] at h1
     simp [h1]) ?_ ⟨hag'.1.trans hag2.1, hag'.2.1.trans hag2.2.1, fun t ht => (hag'.2.2 t (fun hc => ht (hxo t hc))).trans (hag2.2.2 t (fun hc => ht (hxs t hc)))⟩ rb (by rw [hH2]; exact E.trans E') ?_ hx'
   ·intro i hi hiL hic
    rcases List.mem_append.1 hi with hi | hi
    ·rw [eL, hdone i hi hiL]; rfl
    ·exact absurd hi hic
   ·intro c hc
    rw [eL, hch c (List.mem_cons_of_mem _ hc)]
    have : c.1 ≠ j := by
     intro e
     rw [hCh, List.map_append, List.map_cons] at hnd
     have h2 := (List.nodup_append.1 hnd).2.1
     exact (List.nodup_cons.1 h2).1 (List.mem_map.2 ⟨c, hc, e⟩)
    simp [this]
   ·intro i hi hl
    rcases List.mem_append.1 hi with hiv | hih
    rotate_left
    ·exact hJ2 i hih
    rw [eL] at hl
    simp only [Bool.or_eq_false_iff] at hl
    have hiL : i ∈ L := by
     apply Classical.byContradiction
     intro hc
     rw [hdone i hiv hc] at hl
     cases hl.1
    obtain ⟨oi, d, v, hoi, hdi, hvi, hri⟩ := J i hiv hl.1
    have hvb : b'.tmps[d]? = some v := by rw [hbX d (fun e => hdst d e ⟨i, hiv, hl.1, by rw [hoi]; exact hdi⟩)]; exact hvi
    have hnX : ∀ t, t ∈ oi.looksAt ops ∨ t = d → ¬ dstX ops hs t := by
     rintro t ht ⟨k, hk, hkd⟩
     obtain ⟨o2, d2, h1, h2, h3⟩ := pp1 i hiv k (List.mem_append_left _ hk)
     rw [hoi] at h1
     cases h1
     rw [hdi] at h2
     cases h2
     obtain ⟨h4, h5⟩ := h3 t hkd
     rcases ht with ht | ht
     ·exact h4 ht
     ·exact h5 ht
    have hseli : ∀ cs b, oi.op ≠ .select cs b := fun cs b => Region.noSelect_spec hns i oi cs b hoi
    refine ⟨oi, d, v, hoi, hdi, by rw [← hag2.2.2 d (hnX d (.inr rfl))]; exact hvb, ?_⟩
    rw [← execOp_agree (ops := ops) hag2 hseli (fun t ht => hnX t (.inl ht))]
    have hnw : waitsT ops.size ops j i = false := by
     cases hq : waitsT ops.size ops j i with
     | false => rfl
     | true =>
      have := waitsT_spec hcl _ j i o ho hall hq
      rw [hl.1] at this
      cases this
    have hnw2 : waitsT ops.size ops i j = false := by
     have := List.all_eq_true.1 hst.1.2 i hiv
     simpa using this
    have h1 := hl' i (List.mem_filter.2 ⟨hiL, by rw [hnw, hnw2]; rfl⟩)
    unfold lateI at h1
    simp only [hoi] at h1
    split at h1
    ·rename_i x d' hop hd'
     have hri' : b.eval x = v := by
      simp [execOp, hop] at hri
      exact hri
     have hxe : b'.eval x = b.eval x := by
      cases x with
      | tmp t =>
       have hne : o.dst ≠ some t := by
        intro e
        have h2 := List.all_eq_true.1 hLr i hiL
        simp only [hoi, hop, Bool.true_and, Bool.not_true, Bool.or_false] at h2
        have h3 := List.all_eq_true.1 h2 j hjC
        simp only [ho, obs, e, Bool.not_eq_true'] at h3
        have : t ∈ oi.looksAt ops := List.mem_append_left _ (List.mem_filterMap.2 ⟨.tmp t, by simp [hop, Op.operands], rfl⟩)
        simp [this] at h3
       simp only [Act.eval]
       rw [Array.getD_eq_getD_getElem?, Array.getD_eq_getD_getElem?, hbX t hne]
      | _ => rfl
     simp [execOp, hop, hxe, hri']
    ·rename_i d' hd' hop
     obtain ⟨x, h2, h3, h4⟩ := h1
     obtain ⟨v', h5, h6⟩ := aRead_ok r' h2
     rw [hdi] at hd'
     cases hd'
     have h7 := (r'.tm d x h3).2
     rw [Array.getD_eq_getD_getElem?, hvb] at h7
     have := exact_one h4 h6 h7
     rw [h5, this]
     rfl
    ·cases h1
theorem ex_hst {P : Program} {N : Nat} {ro : Option Nat} {id : Nat} {ops : Array Oper} {s s1 : St} {R : Type} {r0 : R} {Q : R → AX → St → Prop} (H L : List Nat) (Ch : List (Nat × List Nat)) (hm : P.follows .mixedOrders = true) (hnd : noDefer ops = true) (hok : hstOk H L Ch ops = true) (h1 : runH P N ops H s = some s1)
  (h : ExC P N ops (qh ops Q r0) L Ch s1) : Ex P N ro (.region id ops true) s (Q r0) := by
 intro φ M0 D a w r
 refine wpIn_region_any hm (any_in hnd post_not_out _ _ _ _ ?_)
 have hd : Evol φ (look s.H) w φ (look s.H) { w with drawn := w.drawn + 1 } := evol_heap rfl rfl rfl rfl
 have r1 : Rel φ M0 N D (look s.T) (look s.H) a { w with drawn := w.drawn + 1 } := r.keep hd (hext_heap rfl) (relH_heap (w := w) rfl hd r.hp)
 have hok' := hok
 simp only [hstOk, bae, decide_eq_true_eq] at hok'
 obtain ⟨⟨⟨⟨⟨⟨⟨⟨⟨⟨hcov, hns⟩, hpair⟩, hchain⟩, hnd'⟩, hdis⟩, hstage⟩, hgu⟩, hdown⟩, hreg⟩, hLr⟩ := hok'
 obtain ⟨b, rb, hH, hag, hJ⟩ := runH_ok hns H s s1 a _ (pairH_left H _ hpair) h1 r1
 have hlf : ∀ (j : Nat), (Array.replicate ops.size false).getD j false = false := by
  intro j
  rcases Nat.lt_or_ge j ops.size with h | h
  ·simp [h]
  ·simp [h]
 have hunl : ∀ n, unl (Array.replicate ops.size false) n ≤ n := by
  intro n
  induction n with
  | zero => simp [unl]
  | succ n ih => simp only [unl]; split <;> omega
 have h2 := hst_run (D := D) (φ0 := φ) (h0 := look s.H) (w0 := w) (M0 := M0) hok (Q := Q r0) (Qh := qh ops Q r0) (fun _ h => h) (fun _ _ h => h) ops.size [] Ch H H (Array.replicate ops.size false) a b { w with drawn := w.drawn + 1 } s1 φ rfl (by simp) (fun i hi _ hc => absurd hi hc) (fun i hi => hi) hstage (by simp) (hunl _) (fun j o _ hj => by rw [hlf] at hj; cases hj) (fun c hc => by cases hc) (fun c _ => hlf c.1)
  ⟨hag.1, hag.2.1, fun t ht => hag.2.2 t (fun hc => ht (by obtain ⟨i, hi, hdi⟩ := hc; exact ⟨i, hi, hlf i, hdi⟩))⟩ rb (by rw [hH]; exact hd) (fun i hi _ => hJ i hi) h
 refine wpAny_monoQ ?_ _ _ _ _ h2
 exact fun e a' w' h => h
structure SimH {R : Type} (a : Option R) (P : Program) (N : Nat) (ops : Array Oper) (Q : R → AX → St → Prop) (L : List Nat) (Ch : List (Nat × List Nat)) (s : St) : Prop where
 intro ::
 h : ∀ r, a = some r → ExC P N ops (qh ops Q r) L Ch s
def fKh {R : Type} (P : Program) (N : Nat) (ops : Array Oper) (Q : R → AX → St → Prop) (L : List Nat) (Ch : List (Nat × List Nat)) (c : Nat) (hs : List Nat) : R → St → Prop := fun r s => lates P ops (lateL ops L c) s ∧ ∃ s'', runH P N ops hs s = some s'' ∧ ExC P N ops (qh ops Q r) L Ch s''
section
variable {R V E : Type} {a a1 a2 : Option R} {P : Program} {N : Nat} {ro : Option Nat} {id : Nat} {ops : Array Oper} {o : Oper} {s s1 s' : St} {Q : R → AX → St → Prop} {f : FuncId} {args args' : List AV} {dst : Option Tmp} {L hs : List Nat} {Ch : List (Nat × List Nat)} {c i : Nat}
theorem sim_hst (H L : List Nat) (Ch : List (Nat × List Nat)) (hm : P.follows .mixedOrders = true) (hd : noDefer ops = true) (hok : hstOk H L Ch ops = true) (h1 : (runH P N ops H s).isSome = true) (h : SimH a P N ops Q L Ch ((runH P N ops H s).getD s)) : SimE a P N ro (.region id ops true) s Q := by
 obtain ⟨s1, e⟩ := Option.isSome_iff_exists.1 h1
 rw [e] at h
 exact ⟨fun r hr => ex_hst H L Ch hm hd hok e (h.h r hr)⟩
theorem lates_nil : lates P ops [] s := fun i hi => by cases hi
theorem lates_cons (h1 : lateI P ops i s) (h2 : lates P ops L s) : lates P ops (i :: L) s := fun j hj => by
 rcases List.mem_cons.1 hj with rfl | hj
 ·exact h1
 ·exact h2 j hj
def moveAt (ops : Array Oper) (i : Nat) : Bool := match ops[i]? with | some o => (match o.op, o.dst with | .move _, some _ => true | _, _ => false) | none => false
theorem late_move (h : moveAt ops i = true) : lateI P ops i s := by
 unfold moveAt at h
 unfold lateI
 cases ho : ops[i]? with
 | none => rw [ho] at h; cases h
 | some o =>
  rw [ho] at h
  dsimp only at h ⊢
  cases h1 : o.op <;> rw [h1] at h <;> cases h2 : o.dst <;> rw [h2] at h <;> first | (cases h; done) | trivial
theorem late_readE (x : AV) (h : (ops[i]?).bind (fun o => o.dst.bind fun d => (aRead P o (look s.T) (look s.H)).bind fun y => (look s.T d).map fun z => (y, z)) = some (x, x)) (hx : Exact (look s.H) x) : lateI P ops i s := by
 unfold lateI
 cases ho : ops[i]? with
 | none => rw [ho] at h; cases h
 | some o =>
  rw [ho, obs] at h
  cases hd : o.dst with
  | none => rw [hd] at h; cases h
  | some d =>
   rw [hd, obs] at h
   obtain ⟨y, hy, h2⟩ := Option.bind_eq_some_iff.1 h
   obtain ⟨z, hz, h3⟩ := Option.map_eq_some_iff.1 h2
   simp only [Prod.mk.injEq] at h3
   obtain ⟨rfl, rfl⟩ := h3
   dsimp only
   rw [hd]
   split
   ·trivial
   ·rename_i he hop
    cases he
    exact ⟨_, hy, hz, hx⟩
   ·rename_i he; cases he
theorem late_read (x : AV) (h : (ops[i]?).bind (fun o => o.dst.bind fun d => (aRead P o (look s.T) (look s.H)).bind fun y => (look s.T d).map fun z => (y, z)) = some (x, x)) (hx : exactA x = true) : lateI P ops i s := late_readE x h (.inl hx)
theorem h_end (h : SimQ a Q .normal s) : SimH a P N ops Q L [] s := ⟨fun r hr => h.h r hr⟩
theorem kh (L' : List Nat) (hL : lateL ops L c = L') (hl : lates P ops L' s) (h1 : (runH P N ops hs s).isSome = true) (h : SimH a P N ops Q L Ch ((runH P N ops hs s).getD s)) : SimK a (fKh P N ops Q L Ch c hs) s := by
 obtain ⟨s1, e⟩ := Option.isSome_iff_exists.1 h1
 rw [e] at h
 exact ⟨fun r hr => ⟨hL ▸ hl, s1, e, h.h r hr⟩⟩
def stepC (P : Program) (N : Nat) (ops : Array Oper) (c : Nat) (s : St) : Option St := (ops[c]?).bind (fun o => match o.op with | .pick .. => none | .panic _ => none | .call ⟨.value _, _, _⟩ => none | _ => if dstLt N o.dst then (aop P o (look s.T) (look s.H)).map (fun u => put' s o.dst u) else none)
theorem h_op (L' : List Nat) (hL : lateL ops L c = L') (h0 : (stepC P N ops c s).isSome = true) (hl : lates P ops L' ((stepC P N ops c s).getD s)) (h : SimH a P N ops Q L Ch ((stepC P N ops c s).getD s)) : SimH a P N ops Q L ((c, []) :: Ch) s := by
 obtain ⟨s', h1⟩ := Option.isSome_iff_exists.1 h0
 rw [h1] at hl h
 simp only [Option.getD_some] at hl h
 unfold stepC at h1
 refine ⟨fun r hr => ?_⟩
 simp only [ExC]
 cases ho : ops[c]? with
 | none => rw [ho] at h1; cases h1
 | some o =>
  simp only [ho, obs] at h1 ⊢
  unfold ExOp
  split at h1
  ·cases h1
  ·cases h1
  ·cases h1
  ·rename_i n1 n2 n3
   split at h1
   rotate_left
   ·cases h1
   rename_i hdl
   obtain ⟨u, hu, rfl⟩ := Option.map_eq_some_iff.1 h1
   have key : ExRes N o s (fun s' => lates P ops (lateL ops L c) s' ∧ ∃ s'', runH P N ops [] s' = some s'' ∧ ExC P N ops (qh ops Q r) L Ch s'') (aop P o (look s.T) (look s.H)) := by
    rw [hu]
    exact ⟨hdl, hL ▸ hl, _, rfl, h.h r hr⟩
   split
   ·rename_i he; exact absurd he (n1 _ _ _)
   ·rename_i he; exact absurd he (n2 _)
   ·rename_i he; exact absurd he (n3 _ _ _)
   ·exact .inl key
theorem h_enter (hf : (ops[c]?).bind (fun o => (callOf (look s.T) o.op).map fun p => (p.1, p.2, o.dst)) = some (f, args, dst)) (hb : bodyOk P f = true) (h : SimC a P N f args dst s (fKh P N ops Q L Ch c hs) (qh ops Q)) : SimH a P N ops Q L ((c, hs) :: Ch) s := by
 refine ⟨fun r hr => ?_⟩
 simp only [ExC]
 cases ho : ops[c]? with
 | none => rw [ho] at hf; cases hf
 | some o =>
  simp only [ho, obs] at hf ⊢
  obtain ⟨⟨f0, args0⟩, h1, h2⟩ := Option.map_eq_some_iff.1 hf
  simp only [Prod.mk.injEq] at h2
  obtain ⟨rfl, rfl, rfl⟩ := h2
  exact exOp_call h1 hb (h.h r hr)
end
end Go.Abs
namespace Go.Abs
open Go Go.ChangeShapes Go.WideShapes
set_option linter.unusedVariables false
def tilesOk (P : Program) (total : Nat) : Nat → List Field → Bool
 | off, [] => off == total
 | off, f :: r => f.offset == off && tilesOk P total (off + P.cellsOf f.type) r
def pureT (P : Program) : Nat → TypeId → Bool
 | 0, _ => false
 | d + 1, t => match P.underlying t with
  | some .bool => P.cellsOf t == 1
  | some (.int _) => P.cellsOf t == 1
  | some .string => P.cellsOf t == 1
  | some (.slice e) => P.cellsOf t == 1 && Nat.blt 0 (P.cellsOf e) && pureT P d e
  | some (.struct fs) => tilesOk P (P.cellsOf t) 0 fs.toList && fs.toList.all (fun f => pureT P d f.type)
  | some (.array n e) => n * P.cellsOf e == P.cellsOf t && pureT P d e
  | _ => false
def ShFs (S : TypeId → List PV → Prop) : List Field → List PV → Prop
 | [], cs => cs = []
 | f :: r, cs => ∃ a b, cs = a ++ b ∧ S f.type a ∧ ShFs S r b
def ShN (S : List PV → Prop) : Nat → List PV → Prop
 | 0, cs => cs = []
 | n + 1, cs => ∃ a b, cs = a ++ b ∧ S a ∧ ShN S n b
def Sh (P : Program) : Nat → TypeId → List PV → Prop
 | 0, _, _ => False
 | d + 1, t, cs => match P.underlying t with
  | some .bool => ∃ b, cs = [.val (.bool b)]
  | some (.int k) => ∃ n, cs = [.val (.int k n)] ∧ (Lit.int k n).wf = true
  | some .string => ∃ s : List UInt8, cs = [.val (.string (mkS s))] ∧ s.length ≤ maxLen
  | some (.slice e) => ∃ es, cs = [.sl (P.cellsOf e) es] ∧ es.length ≤ maxLen ∧ ∀ x ∈ es, Sh P d e x
  | some (.struct fs) => ShFs (Sh P d) fs.toList cs
  | some (.array n e) => ShN (Sh P d e) n cs
  | _ => False
section
variable {H : Type} {enc : TypeId × Value → H} {P : Program} {w : World} {held : Bool} {φ : Nat → Nat} {M : Mset}
theorem cells?_get {base : Nat} {a : Addr} {n : Nat} {vs : List Value} (h : w.cells? base a n = some vs) : vs.length = n ∧ ∀ i, i < n → w.cell? (a.add i) = vs[i]? := by
 unfold World.cells? at h
 split at h
 ·have h1 := mapM_some_length h
  refine ⟨by simpa using h1, fun i hi => ?_⟩
  exact mapM_some_get h i i (by simp [hi])
 ·cases h
def Got (P : Program) (w : World) (φ : Nat → Nat) (M : Mset) (d : Nat) (t : TypeId) (vs : List Value) : Prop :=
 ∃ cs : List PV, Sh P d t cs ∧ RepAs φ emp w M (cs.map .p) vs ∧ (∀ v ∈ vs, v.oneCell' = true)
theorem got_one {d : Nat} {t : TypeId} {c : PV} {v : Value} (h1 : Sh P d t [c]) (h2 : RepP w M c v) (h3 : v.oneCell' = true) : Got P w φ M d t [v] :=
 ⟨[c], h1, by simp only [List.map_cons, List.map_nil, RepAs, RepA]; exact ⟨v, [], rfl, h2, rfl⟩, by simpa using h3⟩
theorem repAs_app {φ : Nat → Nat} {h : Heap} {w : World} {M : Mset} {a b : List AV} {l m : List Value} (h1 : RepAs φ h w M a l) (h2 : RepAs φ h w M b m) : RepAs φ h w M (a ++ b) (l ++ m) := repAs_append h1 h2
theorem add_zero (a : Addr) : a.add 0 = a := rfl
theorem add_some {b off n : Nat} : (⟨b, off, none⟩ : Addr).add n = ⟨b, off + n, none⟩ := by
 unfold Addr.add
 split
 ·rename_i h; subst h; rfl
 ·rfl
theorem cell?_spot {a : Addr} {v : Value} (h : w.cell? a = some v) : a.spot = none := by
 unfold World.cell? at h
 split at h
 ·split at h
  ·cases h
  ·rename_i h2; cases hs : a.spot with
   | none => rfl
   | some s => simp [hs] at h2
 ·cases h
theorem pick_list {Q : Nat → List PV → Prop} : ∀ (n : Nat), (∀ i, i < n → ∃ c, Q i c) → ∃ es : List (List PV), es.length = n ∧ ∀ i c, es[i]? = some c → Q i c
 | 0, _ => ⟨[], rfl, by simp⟩
 | n + 1, h => by
  obtain ⟨es, h1, h2⟩ := pick_list n (fun i hi => h i (by omega))
  obtain ⟨c, hc⟩ := h n (by omega)
  refine ⟨es ++ [c], by simp [h1], fun i c' hi => ?_⟩
  rcases Nat.lt_or_ge i n with hlt | hge
  ·rw [List.getElem?_append_left (by omega)] at hi
   exact h2 i c' hi
  ·have : i < n + 1 := by have := (List.getElem?_eq_some_iff.1 hi).1; simp [h1] at this; omega
   obtain rfl : i = n := by omega
   rw [List.getElem?_append_right (by omega)] at hi
   simp [h1] at hi
   subst hi
   exact hc
theorem repEs_mk {S r : Nat} : ∀ (es : List (List PV)) (o : Nat), (∀ i e, es[i]? = some e → e.length = S ∧ RepCs w M r (o + i * S) e) → RepEs w M S r o es
 | [], o, _ => by simp [RepEs]
 | e :: es, o, h => by
  simp only [RepEs]
  refine ⟨by have := h 0 e (by simp); simpa using this, repEs_mk es (o + S) fun i e' he => ?_⟩
  have := h (i + 1) e' (by simpa using he)
  rwa [show o + (i + 1) * S = o + S + i * S from by rw [Nat.add_mul]; omega] at this
theorem trod_got (hM : ∀ r o, ¬ M r o) : ∀ (d fuel : Nat) (t : TypeId) (vs : List Value) (x : DataW H × List MemPlace), pureT P d t = true → DataW.trod enc P w 0 (fun _ => true) held fuel t vs = some x → Got P w φ M d t vs ∧ vs.length = P.cellsOf t := by
 intro d
 induction d with
 | zero => intro fuel t vs x hp; cases hp
 | succ d ih =>
  intro fuel t vs x hp h
  have hfs : ∀ (fs : List Field) (off total : Nat) (vs : List Value), vs.length = total → tilesOk P total off fs = true → fs.all (fun f => pureT P d f.type) = true →
    (∀ f ∈ fs, ∃ n y, DataW.trod enc P w 0 (fun _ => true) held n f.type ((vs.drop f.offset).take (P.cellsOf f.type)) = some y) → ∃ cs, ShFs (Sh P d) fs cs ∧ RepAs φ emp w M (cs.map .p) (vs.drop off) ∧ (∀ v ∈ vs.drop off, v.oneCell' = true) := by
   intro fs
   induction fs with
   | nil =>
    intro off total vs hl ht _ _
    simp only [tilesOk, beq_iff_eq] at ht
    have : vs.drop off = [] := List.drop_eq_nil_of_le (by omega)
    exact ⟨[], rfl, by rw [this]; simp [RepAs], by rw [this]; simp⟩
   | cons f fs ihf =>
    intro off total vs hl ht ha hm
    simp only [tilesOk, bae, beq_iff_eq] at ht
    simp only [List.all_cons, bae] at ha
    obtain ⟨n, y, hy⟩ := hm f (by simp)
    rw [ht.1] at hy
    obtain ⟨⟨c1, g1, g2, g3⟩, _⟩ := ih n f.type _ y ha.1 hy
    obtain ⟨c2, k1, k2, k3⟩ := ihf (off + P.cellsOf f.type) total vs hl ht.2 ha.2 (fun f hf => hm f (by simp [hf]))
    have e : vs.drop off = (vs.drop off).take (P.cellsOf f.type) ++ vs.drop (off + P.cellsOf f.type) := by
     rw [← List.drop_drop]; exact (List.take_append_drop _ _).symm
    refine ⟨c1 ++ c2, ⟨c1, c2, rfl, g1, k1⟩, ?_, ?_⟩
    ·rw [e, List.map_append]; exact repAs_app g2 k2
    ·rw [e]; intro v hv
     rcases List.mem_append.1 hv with hv | hv
     ·exact g3 v hv
     ·exact k3 v hv
  have har : ∀ (e : TypeId) (n k : Nat) (vs : List Value), vs.length = (k + n) * P.cellsOf e → pureT P d e = true →
    (∀ i, k ≤ i → i < k + n → ∃ m y, DataW.trod enc P w 0 (fun _ => true) held m e ((vs.drop (i * P.cellsOf e)).take (P.cellsOf e)) = some y) → ∃ cs, ShN (Sh P d e) n cs ∧ RepAs φ emp w M (cs.map .p) (vs.drop (k * P.cellsOf e)) ∧ (∀ v ∈ vs.drop (k * P.cellsOf e), v.oneCell' = true) := by
   intro e n
   induction n with
   | zero =>
    intro k vs hl _ _
    have : vs.drop (k * P.cellsOf e) = [] := List.drop_eq_nil_of_le (by simp at hl; omega)
    exact ⟨[], rfl, by rw [this]; simp [RepAs], by rw [this]; simp⟩
   | succ n ihn =>
    intro k vs hl hpe hm
    obtain ⟨m, y, hy⟩ := hm k (by omega) (by omega)
    obtain ⟨⟨c1, g1, g2, g3⟩, _⟩ := ih m e _ y hpe hy
    obtain ⟨c2, k1, k2, k3⟩ := ihn (k + 1) vs (by rw [hl]; congr 1; omega) hpe (fun i h1 h2 => hm i (by omega) (by omega))
    have e' : vs.drop (k * P.cellsOf e) = (vs.drop (k * P.cellsOf e)).take (P.cellsOf e) ++ vs.drop ((k + 1) * P.cellsOf e) := by
     rw [Nat.add_mul, Nat.one_mul, ← List.drop_drop]; exact (List.take_append_drop _ _).symm
    refine ⟨c1 ++ c2, ⟨c1, c2, rfl, g1, k1⟩, ?_, ?_⟩
    ·rw [e', List.map_append]; exact repAs_app g2 k2
    ·rw [e']; intro v hv
     rcases List.mem_append.1 hv with hv | hv
     ·exact g3 v hv
     ·exact k3 v hv
  unfold pureT at hp
  cases hu : P.underlying t with
  | none => rw [hu] at hp; cases hp
  | some td =>
   rw [hu] at hp
   cases td with
   | bool =>
    obtain ⟨b, rfl, _⟩ := DataW.trod_bool hu h
    simp only [beq_iff_eq] at hp
    exact ⟨got_one (c := .val (.bool b)) (by simp only [Sh, hu]; exact ⟨b, rfl⟩) (by simp [RepP]) rfl, by simp [hp]⟩
   | int k =>
    obtain ⟨n, rfl, _, hw⟩ := DataW.trod_int hu h
    simp only [beq_iff_eq] at hp
    exact ⟨got_one (c := .val (.int k n)) (by simp only [Sh, hu]; exact ⟨n, rfl, hw⟩) (by simp [RepP]) rfl, by simp [hp]⟩
   | string =>
    obtain ⟨b, rfl, _, hw⟩ := DataW.trod_string hu h
    simp only [beq_iff_eq] at hp
    refine ⟨got_one (c := .val (.string b)) ?_ (by simp [RepP]) rfl, by simp [hp]⟩
    simp only [Sh, hu]
    exact ⟨b.data.toList, by simp [mkS], by simpa using hw⟩
   | slice e =>
    simp only [bae, beq_iff_eq, Nat.blt_eq] at hp
    rcases DataW.trod_slice hu h with ⟨rfl, _⟩ | ⟨a, len, cap, elems, rest, n, _, rfl, _, _, hlc, hcm, hel, hrest⟩
    ·refine ⟨got_one (c := .sl (P.cellsOf e) []) ?_ (by simp only [RepP]; exact .inr ⟨trivial, none, 0, rfl⟩) rfl, by simp [hp.1.1]⟩
     simp only [Sh, hu]
     exact ⟨[], rfl, by simp, by simp⟩
    ·have hget := hrest.1
     have hone : ∀ i, i < len → ∃ (vs : List Value) (cs : List PV), w.cells? 0 (a.add (i * P.cellsOf e)) (P.cellsOf e) = some vs ∧ Sh P d e cs ∧ RepAs φ emp w M (cs.map .p) vs ∧ (∀ v ∈ vs, v.oneCell' = true) := by
      intro i hi
      have h1 : elems[i]? = some elems[i] := List.getElem?_eq_getElem (by omega)
      have h2 := hget i hi
      rw [h1] at h2
      obtain ⟨vs, h3, h4⟩ := Option.bind_eq_some_iff.1 h2
      obtain ⟨⟨cs, g1, g2, g3⟩, _⟩ := ih _ e vs _ hp.2 h4
      exact ⟨vs, cs, h3, g1, g2, g3⟩
     obtain ⟨es, hes, hq⟩ := pick_list (Q := fun i cs => ∃ vs, w.cells? 0 (a.add (i * P.cellsOf e)) (P.cellsOf e) = some vs ∧ Sh P d e cs ∧ RepAs φ emp w M (cs.map .p) vs ∧ (∀ v ∈ vs, v.oneCell' = true)) len (fun i hi => by
      obtain ⟨vs, cs, h1, h2⟩ := hone i hi
      exact ⟨cs, vs, h1, h2⟩)
     refine ⟨got_one (c := .sl (P.cellsOf e) es) ?_ ?_ rfl, by simp [hp.1.1]⟩
     ·simp only [Sh, hu]
      refine ⟨es, rfl, by omega, fun x hx => ?_⟩
      obtain ⟨i, hi, rfl⟩ := List.getElem_of_mem hx
      obtain ⟨vs, _, h2, _⟩ := hq i es[i] (List.getElem?_eq_getElem hi)
      exact h2
     ·simp only [RepP]
      by_cases h0 : len = 0
      ·subst h0
       exact .inr ⟨List.eq_nil_of_length_eq_zero hes, some a, cap, rfl⟩
      ·have hspot : a.spot = none := by
        obtain ⟨vs, h1, _⟩ := hq 0 es[0] (List.getElem?_eq_getElem (by omega))
        obtain ⟨g1, g2⟩ := cells?_get h1
        have h3 := g2 0 hp.1.2
        simp only [Nat.zero_mul, add_zero] at h3
        rw [List.getElem?_eq_getElem (by omega)] at h3
        exact cell?_spot h3
       obtain ⟨ab, ao, aas⟩ := a
       simp only at hspot
       subst hspot
       refine .inl ⟨ab, ao, cap, by rw [hes], by omega, repEs_mk es ao fun i c hi => ?_⟩
       obtain ⟨vs, h1, h2, h3, h4⟩ := hq i c hi
       obtain ⟨g1, g2⟩ := cells?_get h1
       have hlen := repAs_length h3
       refine ⟨by simp at hlen; omega, ?_⟩
       rw [repCs_iff]
       intro j q hj
       obtain ⟨v, k1, k2⟩ := repAs_getP h3 j q hj
       have hj' : j < P.cellsOf e := by have := (List.getElem?_eq_some_iff.1 k1).1; omega
       have k3 := g2 j hj'
       rw [add_some, add_some, k1] at k3
       exact ⟨v, k3, hM _ _, h4 v (List.mem_of_getElem? k1), k2⟩
   | struct fs =>
    simp only [bae] at hp
    obtain ⟨xs, n, _, _, hl, hx, hall⟩ := DataW.trod_struct hu h
    obtain ⟨cs, g1, g2, g3⟩ := hfs fs.toList 0 (P.cellsOf t) vs hl hp.1 hp.2 (by
     intro f hf
     obtain ⟨i, hi, rfl⟩ := List.getElem_of_mem hf
     have h1 : fs[i]? = some fs.toList[i] := by simp
     have h2 := hall i _ h1
     have h3 : i < xs.length := by rw [hx]; simpa using hi
     exact ⟨n, xs[i], by rw [h2]; exact List.getElem?_eq_getElem h3⟩)
    simp only [List.drop_zero] at g2 g3
    exact ⟨⟨cs, by simp only [Sh, hu]; exact g1, g2, g3⟩, hl⟩
   | array n e =>
    simp only [bae, beq_iff_eq] at hp
    obtain ⟨xs, m, _, _, hl, hx, hall⟩ := DataW.trod_array hu h
    obtain ⟨cs, g1, g2, g3⟩ := har e n 0 vs (by rw [hl, Nat.zero_add, hp.1]) hp.2 (by
     intro i _ hi
     have hi' : i < n := by omega
     have h3 : i < xs.length := by omega
     exact ⟨m, xs[i], by rw [hall i hi']; exact List.getElem?_eq_getElem h3⟩)
    simp only [Nat.zero_mul, List.drop_zero] at g2 g3
    exact ⟨⟨cs, by simp only [Sh, hu]; exact g1, g2, g3⟩, hl⟩
   | _ => cases hp
end
end Go.Abs
namespace Go.Abs
open Go Go.ChangeShapes Go.WideShapes Go.ChangeAt Go.RowKit
set_option linter.unusedVariables false
def one1 : List PV → AV
 | [c] => .p c
 | cs => ag cs
def avOf (P : Program) (t : TypeId) (cs : List PV) : AV :=
 match P.underlying t with
 | some (.struct _) => ag cs
 | some (.array _ _) => ag cs
 | _ => one1 cs
def ArgsSh (P : Program) (d : Nat) : List TypeId → List AV → Prop
 | [], aas => aas = []
 | t :: ts, aas => ∃ cs r, aas = avOf P t cs :: r ∧ Sh P d t cs ∧ ArgsSh P d ts r
section
variable {H : Type} {enc : TypeId × Value → H} {P : Program} {w : World} {φ : Nat → Nat} {M : Mset}
theorem arg_got (hM : ∀ r o, ¬ M r o) {d base : Nat} {t : TypeId} {v : Value} {x : DataW H} {ps : List MemPlace} (hp : pureT P d t = true) (hv : Value.okWide P w .any base t v)
  (h : DataW.Trod enc P w 0 (fun _ => true) true t v x ps) : ∃ cs, Sh P d t cs ∧ RepA φ emp w M (avOf P t cs) v := by
 obtain ⟨fuel, h⟩ := h
 obtain ⟨⟨cs, h1, h2, h3⟩, hl⟩ := trod_got (φ := φ) hM d fuel t _ _ hp h
 refine ⟨cs, h1, ?_⟩
 cases d with
 | zero => cases hp
 | succ d =>
  unfold Value.okWide at hv
  unfold avOf
  cases hu : P.underlying t with
  | none => simp [pureT, hu] at hp
  | some td =>
   rw [hu] at hv
   have one : (∀ c, v ≠ .agg c) → P.cellsOf t = 1 → RepA φ emp w M (one1 cs) v := by
    intro ha hc
    have e : v.cells = #[v] := by cases v <;> first | rfl | exact absurd rfl (ha _)
    rw [e] at h2
    match cs, h2 with
    | [c], h2 =>
     simp only [List.map_cons, List.map_nil, RepAs] at h2
     obtain ⟨y, ys, e1, e2, e3⟩ := h2
     simp at e1
     obtain ⟨rfl, rfl⟩ := e1
     exact e2
    | [], h2 => simp [RepAs] at h2
    | _ :: _ :: _, h2 =>
     simp only [List.map_cons, RepAs] at h2
     obtain ⟨y, ys, e1, _, z, zs, e2, _⟩ := h2
     subst e2
     simp at e1
   have agg : (∃ c, v = .agg c) → RepA φ emp w M (ag cs) v := by
    rintro ⟨c, rfl⟩
    exact ⟨c.toList, by simp, h2⟩
   cases td with
   | bool =>
    simp only [pureT, hu, beq_iff_eq] at hp
    exact one (fun c hc => by subst hc; simp [Cell.okWide, Cell.ok, hu] at hv) hp
   | int k =>
    simp only [pureT, hu, beq_iff_eq] at hp
    exact one (fun c hc => by subst hc; simp [Cell.okWide, Cell.ok, hu] at hv) hp
   | string =>
    simp only [pureT, hu, beq_iff_eq] at hp
    exact one (fun c hc => by subst hc; simp [Cell.okWide, Cell.ok, hu] at hv) hp
   | slice e =>
    simp only [pureT, hu, bae, beq_iff_eq] at hp
    exact one (fun c hc => by subst hc; simp [Cell.okWide, Cell.ok, hu] at hv) hp.1.1
   | struct fs =>
    obtain ⟨c, rfl, _⟩ := hv
    exact agg ⟨c, rfl⟩
   | array n e =>
    obtain ⟨c, rfl, _⟩ := hv
    exact agg ⟨c, rfl⟩
   | _ => simp [pureT, hu] at hp
theorem args_got (hM : ∀ r o, ¬ M r o) {d base : Nat} : ∀ {ts : List TypeId} {vs : List Value} {ds : List (DataW H)} {ps : List MemPlace}, ts.all (pureT P d) = true →
  (∀ (j : Nat) t v, ts[j]? = some t → vs[j]? = some v → Value.okWide P w .any base t v) → DataW.TrodAll enc P w 0 (fun _ => true) true ts vs ds ps → ∃ aas, ArgsSh P d ts aas ∧ RepAs φ emp w M aas vs
 | [], vs, ds, ps, _, _, h => by
  obtain ⟨rfl, _, _⟩ := trodAll_nil h
  exact ⟨[], rfl, rfl⟩
 | t :: ts, vs, ds, ps, hp, hv, h => by
  obtain ⟨v, vs', d', ds', p, q, rfl, rfl, rfl, h1, h2⟩ := trodAll_cons h
  simp only [List.all_cons, bae] at hp
  obtain ⟨cs, g1, g2⟩ := arg_got (φ := φ) hM hp.1 (hv 0 t v rfl rfl) h1
  obtain ⟨aas, g3, g4⟩ := args_got hM hp.2 (fun j t v a b => hv (j + 1) t v (by simpa using a) (by simpa using b)) h2
  exact ⟨_, ⟨cs, aas, rfl, g1, g3⟩, v, vs', rfl, g2, g4⟩
structure Over (w w' : World) : Prop where
 os : w'.os = w.os
 output : w'.output = w.output
 same : ∀ r, r < w.heap.size → w'.heap[r]? = w.heap[r]?
theorem over_of_evol {φ φ' : Nat → Nat} {h' : Heap} {w w' : World} (E : Evol φ emp w φ' h' w') : Over w w' :=
 ⟨E.os, E.output, fun r hr => E.same r hr (fun b hb => absurd rfl hb)⟩
theorem Over.kept {w w' : World} (o : Over w w') (may : MemPlace → Prop) : w.keptBut w' may := by
 refine ⟨o.os, o.output, fun i hi => ?_⟩
 rw [o.same i hi]
 cases h : w.heap[i]? with
 | none => rfl
 | some x => cases x <;> simp
theorem Over.at {w w' : World} (o : Over w w') {p : MemPlace} (h : p.block < w.heap.size) : w.sameAt w' p := by
 cases p with
 | cell b off => simp only [World.sameAt, World.cell?]; rw [o.same b h]
 | map b => exact o.same b h
theorem Over.frozen {w w' : World} (o : Over w w') {a : Addr} (h : a.block < w.heap.size) : w'.frozen? a = w.frozen? a := by
 simp only [World.frozen?]; rw [o.same _ h]
theorem trodAll_over {w w' : World} (hl : laidOutB P = true) {sp : Nat → Bool} (hsp : ∀ b, b < w.heap.size → sp b = true) (o : Over w w') : ∀ {ts : List TypeId} {vs : List Value} {ds : List (DataW H)} {ps : List MemPlace}, ts.all (fun t => P.readableRec t && Nat.blt t P.types.size) = true → (∀ p ∈ ps, p.block < w.heap.size) →
  DataW.TrodAll enc P w 0 (fun _ => true) true ts vs ds ps → DataW.TrodAll enc P w' 0 sp true ts vs ds ps
 | [], vs, ds, ps, _, _, h => by
  obtain ⟨rfl, rfl, rfl⟩ := trodAll_nil h
  exact rfl
 | t :: ts, vs, ds, ps, hp, hb, h => by
  obtain ⟨v, vs', d', ds', p, q, rfl, rfl, rfl, h1, h2⟩ := trodAll_cons h
  simp only [List.all_cons, bae, Nat.blt_eq] at hp
  refine ⟨p, q, Go.WideElems.Trod_stays hl hp.1.1 hp.1.2 h1 (fun p hp => o.at (hb p (by simp [hp]))) (fun p hp => hsp _ (hb p (by simp [hp]))), trodAll_over hl hsp o (by simpa using hp.2) (fun p hp => hb p (by simp [hp])) h2, rfl⟩
theorem law_contractW {f : FuncId} {fn : Func} {s : ChangeSpec} {tb : TypeId} {d : Nat} {apart fresh handsOn again : Bool}
  (hl : laidOutB P = true) (hpure : fn.params.toList.all (pureT P d) = true) (hread : fn.params.toList.all (fun t => P.readableRec t && Nat.blt t P.types.size) = true)
  (hres : fn.resultTypes = #[tb]) (htb : P.underlying tb = some .bool) (hvars : s.vars = [])
  (hspec : ∀ ds : List (DataW H), ds.length = fn.params.size → s.fn H ds = { results := [.lit (.bool true)], args := ds })
  {W : World} {base : Nat} {args : Array Value} {ds gs : List (DataW H)} {before : List MemPlace}
  (hval : ∀ (j : Nat) t v, fn.params[j]? = some t → args[j]? = some v → Value.okWide P W .any base t v)
  (hW : DataW.Whole enc P fn.params.toList s.vars apart W args.toList ds gs before)
  (hcall : ∀ aas, ArgsSh P d fn.params.toList aas → RepAs (fun x => x) emp W (MM (fun x => x) emp (fun _ _ => False)) aas args.toList → PCall P f aas (.ret (.p (.val (.bool true))))) (hg : gmW W := by exact trivial) :
  Calls P f args W fun e W' => ∃ v, e = .returned v ∧ s.post enc P fn apart fresh handsOn again W args v W' := by
 have hW' := hW
 obtain ⟨p, q, hA, hV, rfl, hfz, hnd⟩ := hW
 rw [hvars] at hV
 obtain ⟨rfl, rfl⟩ := trodVars_none hV
 have hlen : ds.length = fn.params.size := by
  have : ∀ {ts : List TypeId} {vs : List Value} {ds : List (DataW H)} {ps : List MemPlace}, DataW.TrodAll enc P W 0 (fun _ => true) true ts vs ds ps → ds.length = ts.length := by
   intro ts
   induction ts with
   | nil => intro vs ds ps h; obtain ⟨_, rfl, _⟩ := trodAll_nil h; rfl
   | cons t ts ih => intro vs ds ps h; obtain ⟨v, vs', d', ds', p, q, rfl, rfl, rfl, h1, h2⟩ := trodAll_cons h; simp [ih h2]
  simpa using this hA
 obtain ⟨aas, g1, g2⟩ := args_got (φ := fun x => x) (M := MM (fun x => x) emp (fun _ _ => False)) (base := base) (fun r o h => h.elim not_mut_emp id) hpure
  (fun j t v a b => hval j t v (by simpa using a) (by simpa using b)) hA
 have hc := hcall aas g1 g2 (fun x => x) (fun _ _ => False) W args.toList (relH_emp (fun _ _ h => h.elim) hg (fun _ _ _ h => h)) g2
 simp only [Array.toArray_toList] at hc
 refine hc.mono ?_
 rintro e w' ⟨φ', r', h', ⟨rfl, rfl⟩, hH', E, hv⟩
 obtain ⟨v, rfl, hv⟩ := hv
 simp only [RepA, RepP] at hv
 subst hv
 have o := over_of_evol E
 have hlt : ∀ x ∈ p, x.block < W.heap.size := fun x hx => hW'.lt x (by simpa using hx)
 refine ⟨_, rfl, ?_⟩
 have hsp : s.fn H (ds ++ []) = { results := [.lit (.bool true)], args := ds } := by rw [List.append_nil]; exact hspec ds hlen
 have hr : ∀ (b : Nat) (sp : Nat → Bool) (hd : Bool), DataW.TrodAll enc P w' b sp hd fn.resultTypes.toList ((Value.bool true).resultList fn.resultTypes.size) [.lit (.bool true)] [] := fun b sp hd => by
  rw [hres]; exact trodAll_cons_mk (shut_bool htb _) trodAll_mk0
 refine ⟨ds, [], p ++ [], [], p, [], hW', by rw [hsp]; exact hr _ _ _, by rw [hsp]; exact trodAll_over hl (fun b hb => by simpa using hb) o hread hlt hA, by rw [hsp, hvars]; rfl, o.kept _, fun _ => ?_⟩
 refine ⟨ok_one hres rfl (okWide_bool_mk htb _), [.lit (.bool true)] ++ ds, [], ([] ++ p) ++ [], ⟨[] ++ p, [], ?_, ?_, rfl, ?_, ?_⟩, ?_⟩
 ·exact trodAll_append (trodAll_over hl (fun b hb => rfl) o hread hlt hA) (hr _ _ _)
 ·rw [hvars]; rfl
 ·intro b off hp
  rw [o.frozen (by exact hlt (.cell b off) (by simpa using hp))]
  exact hfz b off (by simpa using hp)
 ·intro ha; simpa using hnd ha
 ·intro x hx _; simpa using hx
end
def i64b (x : Int) : Prop := -9223372036854775808 ≤ x ∧ x ≤ 9223372036854775807
def strb (l : List UInt8) : Prop := l.length ≤ maxLen
def listb {α : Type} (W : α → Prop) (l : List α) : Prop := l.length ≤ maxLen ∧ ∀ x ∈ l, W x
section
variable {P : Program} {d : Nat} {t : TypeId} {cs : List PV}
theorem sh_i64 (hu : P.underlying t = some (.int .i64)) (h : Sh P (d + 1) t cs) : ∃ n, cs = [.val (.int .i64 n)] ∧ i64b n := by
 simp only [Sh, hu] at h
 obtain ⟨n, rfl, hw⟩ := h
 exact ⟨n, rfl, by simpa [Lit.wf, IntKind.min, IntKind.max, IntKind.signed, IntKind.bits, i64b] using hw⟩
theorem sh_str (hu : P.underlying t = some .string) (h : Sh P (d + 1) t cs) : ∃ s : List UInt8, cs = [.val (.string (mkS s))] ∧ strb s := by
 simp only [Sh, hu] at h
 exact h
theorem sh_struct {fs : Array Field} (hu : P.underlying t = some (.struct fs)) (h : Sh P (d + 1) t cs) : ShFs (Sh P d) fs.toList cs := by
 simpa only [Sh, hu] using h
theorem sh_list {e : TypeId} {S : Nat} {α : Type} {f : α → List PV} {W : α → Prop} (hu : P.underlying t = some (.slice e)) (hS : P.cellsOf e = S) (he : ∀ c, Sh P d e c → ∃ r, c = f r ∧ W r) (h : Sh P (d + 1) t cs) :
  ∃ l : List α, cs = [.sl S (List.map f l)] ∧ listb W l := by
 simp only [Sh, hu] at h
 obtain ⟨es, rfl, hl, hx⟩ := h
 have : ∃ l : List α, es = List.map f l ∧ ∀ x ∈ l, W x := by
  clear hl
  induction es with
  | nil => exact ⟨[], rfl, by simp⟩
  | cons e es ih =>
   obtain ⟨r, rfl, hr⟩ := he e (hx e (by simp))
   obtain ⟨l, rfl, hl⟩ := ih (fun x h => hx x (by simp [h]))
   exact ⟨r :: l, rfl, by simpa using ⟨hr, hl⟩⟩
 obtain ⟨l, rfl, hw⟩ := this
 exact ⟨l, by rw [hS], by simpa using hl, hw⟩
theorem avOf_struct {fs : Array Field} (hu : P.underlying t = some (.struct fs)) : avOf P t cs = ag cs := by simp only [avOf, hu]
theorem avOf_int {k : IntKind} {c : PV} (hu : P.underlying t = some (.int k)) : avOf P t [c] = .p c := by simp only [avOf, hu, one1]
end
end Go.Abs
namespace Go.Proofs
open Go Go.Abs
set_option maxRecDepth 100000
set_option linter.unusedVariables false
abbrev VI (n : Int) : PV := .val (.int .i64 n)
abbrev VU (n : Int) : PV := .val (.int .u64 n)
abbrev V8 (n : Int) : PV := .val (.int .u8 n)
abbrev VB (b : Bool) : PV := .val (.bool b)
abbrev VS (s : List UInt8) : PV := .val (.string (mkS s))
abbrev I (n : Int) : AV := .p (.val (.int .i64 n))
abbrev B8 (n : Int) : AV := .p (.val (.int .u8 n))
abbrev B (b : Bool) : AV := .p (.val (.bool b))
abbrev S (s : List UInt8) : AV := .p (.val (.string (mkS s)))
def ci (n : Int) : List PV := [VI n]
def c8 (n : Int) : List PV := [V8 n]
def cb (n : Bool) : List PV := [VB n]
def cstr (n : List UInt8) : List PV := [VS n]
theorem tfm : Try.prog.follows .mixedOrders = true := by kernel_rfl
structure GAr where
 Kind : Int
 Days : Int
 From : Int
 To : Int
 Price : Int
 Unit : Int
 Free : Int
deriving DecidableEq
def GAr.cs (x : GAr) : List PV := [VI x.Kind, VI x.Days, VI x.From, VI x.To, VI x.Price, VI x.Unit, VI x.Free]
structure GTf where
 Name : List UInt8
 Articles : List GAr
deriving DecidableEq
def GTf.cs (x : GTf) : List PV := [VS x.Name, .sl 7 (List.map GAr.cs x.Articles)]
structure GCh where
 At : Int
 Offset : Int
deriving DecidableEq
def GCh.cs (x : GCh) : List PV := [VI x.At, VI x.Offset]
structure GCl where
 Offset : Int
 Changes : List GCh
 Holidays : List Int
deriving DecidableEq
def GCl.cs (x : GCl) : List PV := [VI x.Offset, .sl 2 (List.map GCh.cs x.Changes), .sl 1 (List.map ci x.Holidays)]
structure GNode where
 Kind : Int
 Name : List UInt8
 N : Int
 At : Int
 Kids : List (List PV)
def GNode.cs (x : GNode) : List PV := [VI x.Kind, VS x.Name, VI x.N, VI x.At, .sl 5 (List.map idc x.Kids)]
def GNode.of : List PV → Option GNode
 | [.val (.int .i64 v0), .val (.string v1), .val (.int .i64 v2), .val (.int .i64 v3), .sl s4 v4] => if s4 = 5 then some ⟨v0, byt v1, v2, v3, v4⟩ else none
 | _ => none
theorem GNode.of_cs (r : List PV) (x : GNode) (h : GNode.of r = some x) : GNode.cs x = r := by
 unfold GNode.of at h
 split at h
 ·split at h
  ·rename_i hs
   cases h
   simp [GNode.cs, mkS_byt, map_idc, hs]
  ·cases h
 ·cases h
structure GQuoteQuoted where
 Tariff : GTf
 calendar : GCl
 from_ : Int
 to_ : Int
deriving DecidableEq
def GQuoteQuoted.cs (x : GQuoteQuoted) : List PV := [VS x.Tariff.Name, .sl 7 (List.map GAr.cs x.Tariff.Articles), VI x.calendar.Offset, .sl 2 (List.map GCh.cs x.calendar.Changes), .sl 1 (List.map ci x.calendar.Holidays), VI x.from_, VI x.to_]
structure GSl where
 Minute : Int
 Energy : Int
deriving DecidableEq
def GSl.cs (x : GSl) : List PV := [VI x.Minute, VI x.Energy]
structure GSs where
 From : Int
 To : Int
 End : Int
 Slices : List GSl
deriving DecidableEq
def GSs.cs (x : GSs) : List PV := [VI x.From, VI x.To, VI x.End, .sl 2 (List.map GSl.cs x.Slices)]
structure GLine where
 Article : Int
 Amount : Int
deriving DecidableEq
def GLine.cs (x : GLine) : List PV := [VI x.Article, VI x.Amount]
structure GBill where
 Lines : List GLine
 Net : Int
 Tax : Int
 Total : Int
deriving DecidableEq
def GBill.cs (x : GBill) : List PV := [.sl 2 (List.map GLine.cs x.Lines), VI x.Net, VI x.Tax, VI x.Total]
structure GBB where
 article : GAr
 calendar : GCl
 session : GSs
deriving DecidableEq
def GBB.cs (x : GBB) : List PV := [VI x.article.Kind, VI x.article.Days, VI x.article.From, VI x.article.To, VI x.article.Price, VI x.article.Unit, VI x.article.Free, VI x.calendar.Offset, .sl 2 (List.map GCh.cs x.calendar.Changes), .sl 1 (List.map ci x.calendar.Holidays), VI x.session.From, VI x.session.To, VI x.session.End, .sl 2 (List.map GSl.cs x.session.Slices)]
def g_law35_bench (n : Nat) (a0more : List GAr) : Option GTf :=
 cond (roomB (List.length ([(⟨2, 1, 0, 1440, 3000, 0, 0⟩ : GAr), (⟨2, 4, 0, 1440, 2000, 0, 0⟩ : GAr), (⟨3, 7, 0, 1440, 10, 15, 30⟩ : GAr)] ++ a0more)) 56) (
  some (⟨[116], [(⟨2, 1, 0, 1440, 3000, 0, 0⟩ : GAr), (⟨2, 4, 0, 1440, 2000, 0, 0⟩ : GAr), (⟨3, 7, 0, 1440, 10, 15, 30⟩ : GAr)] ++ a0more⟩ : GTf)) none
theorem g_law35_bench_ok (n : Nat) (a0more : List GAr) : ∀ r, g_law35_bench n a0more = some r → PCall Try.prog 23 [.p (.sl 7 (List.map GAr.cs a0more))] (.ret (ag (GTf.cs r))) := by
 refine pcall_sim (X := fun r : GTf => AEnd.ret (ag (GTf.cs r))) Try.func23 rfl Try.ntmps23 rfl ?_
 unfold g_law35_bench
 refine sR tfm ⟨[0, 2], [2], [], []⟩ ⟨[(0, .p (.sl 7 (List.map GAr.cs a0more))), (2, .ptr 2 0)], [(2, .box 24 [S [], .p (.val (.slice none 0 0))])]⟩ krf ?_
 refine sS ?_
 refine sG ?_
 refine xR 5 krf ?_
 refine xF krf krf (aop_appL (e := 44) (S := 7) (by_ := 56) (enc := GAr.cs) (tk := 6) (l := [(⟨2, 1, 0, 1440, 3000, 0, 0⟩ : GAr), (⟨2, 4, 0, 1440, 2000, 0, 0⟩ : GAr), (⟨3, 7, 0, 1440, 10, 15, 30⟩ : GAr)]) (l2 := a0more) (xv := .p (.sl 7 (List.map GAr.cs a0more))) rfl krf krf rfl krf krf krf krf) ?_
 refine xR 2 krf ?_
 refine xE ?_
 refine sN ⟨[2], [2, 6], [], []⟩ ⟨[(2, .ptr 2 0)], [(2, .box 24 [S [116], .tsl 7 (List.map GAr.cs ([(⟨2, 1, 0, 1440, 3000, 0, 0⟩ : GAr), (⟨2, 4, 0, 1440, 2000, 0, 0⟩ : GAr), (⟨3, 7, 0, 1440, 10, 15, 30⟩ : GAr)] ++ a0more)) 6]), (6, .arr 44 7 (List.map GAr.cs ([(⟨2, 1, 0, 1440, 3000, 0, 0⟩ : GAr), (⟨2, 4, 0, 1440, 2000, 0, 0⟩ : GAr), (⟨3, 7, 0, 1440, 10, 15, 30⟩ : GAr)] ++ a0more)).length)]⟩ krf ?_
 refine sT ?_
 exact qR (.agg [.id, .sl 7]) krf krf krf
def g_p_goodWord_l7 (a0text : List UInt8) (recl7 : Int → Option Bool) (l7 : Int) : Option Bool :=
 cond (ltI l7 (lenI a0text))
  ((getI a0text l7).bind fun x8 =>
  (cond (leI 97 (b2i x8))
   (cond (leI (b2i x8) 122)
    (some false)
    (cond (leI 48 (b2i x8))
     (cond (leI (b2i x8) 57)
      (some false)
      (some (!(eqI (b2i x8) 95))))
     (some (!(eqI (b2i x8) 95)))))
   (cond (leI 48 (b2i x8))
    (cond (leI (b2i x8) 57)
     (some false)
     (some (!(eqI (b2i x8) 95))))
    (some (!(eqI (b2i x8) 95))))).bind fun j9 =>
  cond j9
   (some false)
   (recl7 (wi (l7 + 1))))
  (some true)
def g_p_goodWord (n : Nat) (a0text : List UInt8) : Option Bool :=
 (cond (ltI (lenI a0text) 1)
  (some true)
  (cond (ltI 12 (lenI a0text))
   (some true)
   ((getI a0text 0).bind fun x4 =>
   cond (ltI (b2i x4) 97)
    (some true)
    ((getI a0text 0).bind fun x6 =>
    some (ltI 122 (b2i x6)))))).bind fun j1 =>
 cond j1
  (some false)
  (loopN (fun recl7 l7 => g_p_goodWord_l7 a0text recl7 l7) n 1)
theorem g_p_goodWord_ok (n : Nat) (a0text : List UInt8) : ∀ r, g_p_goodWord n a0text = some r → PCall Try.prog 101 [S a0text] (.ret (B r)) := by
 refine pcall_sim (X := fun r : Bool => AEnd.ret (B r)) Try.func101 rfl Try.ntmps101 rfl ?_
 unfold g_p_goodWord
 refine sR tfm ⟨[0], [], [], []⟩ ⟨[(0, S a0text)], []⟩ krf ?_
 refine sS ?_
 refine sim_bind (fun j1 => ⟨[(0, S a0text), (22, B j1)], []⟩ : Bool → St) ?_ ?_
 ·refine sG ?_
  refine xR 4 krf ?_
  refine xS (ltI (lenI a0text) 1) (fun h2 => ?_) (fun h2 => ?_)
  ·refine xN (want_ft krf h2) krf ?_
   refine xR 13 krf ?_
   refine xE ?_
   exact nq_n true ⟨[0, 22], [], [], []⟩ krf
  ·refine xO (want_ff krf h2) krf ?_
   refine xR 4 krf ?_
   refine xS (ltI 12 (lenI a0text)) (fun h3 => ?_) (fun h3 => ?_)
   ·refine xN (want_ft krf h3) krf ?_
    refine xR 8 krf ?_
    refine xE ?_
    exact nq_n true ⟨[0, 22], [], [], []⟩ krf
   ·refine xO (want_ff krf h3) krf ?_
    refine xG krf krf (aop_sidx (l := a0text) (k := .i64) (n := 0) rfl krf krf krf) (fun x4 => ?_)
    refine xR 3 krf ?_
    refine xS (ltI (b2i x4) 97) (fun h5 => ?_) (fun h5 => ?_)
    ·refine xN (want_ft krf h5) krf ?_
     refine xR 3 krf ?_
     refine xE ?_
     exact nq_n true ⟨[0, 22], [], [], []⟩ krf
    ·refine xO (want_ff krf h5) krf ?_
     refine xG krf krf (aop_sidx (l := a0text) (k := .i64) (n := 0) rfl krf krf krf) (fun x6 => ?_)
     refine xR 2 krf ?_
     refine xE ?_
     exact nq_n (ltI 122 (b2i x6)) ⟨[0, 22], [], [], []⟩ krf
 ·rintro j1
  refine sC j1 krf ?_ ?_
  ·refine sR tfm ⟨[2], [], [], []⟩ ⟨[(2, B false)], []⟩ krf ?_
   refine sT ?_
   refine sq_r ?_
   exact qR (.id) krf krf krf
  ·refine sK ?_
   refine sN ⟨[0], [], [], []⟩ ⟨[(0, S a0text)], []⟩ krf ?_
   refine sS ?_
   refine sR tfm ⟨[0, 3], [], [], []⟩ ⟨[(0, S a0text), (3, I 1)], []⟩ krf ?_
   refine sB ?_
   refine sim_loop (fun l7 => ⟨[(0, S a0text), (3, I l7)], []⟩ : Int → St) (weak_shr (K := ⟨[0, 3], [], [], []⟩) krf) ?_
   rintro recl7 l7
   show SimE (g_p_goodWord_l7 a0text recl7 l7) _ _ _ _ _ _
   unfold g_p_goodWord_l7
   refine sS ?_
   refine sR tfm ⟨[0, 3, 26], [], [], []⟩ ⟨[(0, S a0text), (3, I l7), (26, B (ltI l7 (lenI a0text)))], []⟩ krf ?_
   refine sC (ltI l7 (lenI a0text)) krf ?_ ?_
   ·refine sK ?_
    refine sN ⟨[0, 3], [], [], []⟩ ⟨[(0, S a0text), (3, I l7)], []⟩ krf ?_
    refine sS ?_
    refine sB ?_
    refine sS ?_
    refine sG ?_
    refine xR 2 krf ?_
    refine xG krf krf (aop_sidx (l := a0text) (k := .i64) (n := l7) rfl krf krf krf) (fun x8 => ?_)
    refine xR 1 krf ?_
    refine xE ?_
    refine sN ⟨[0, 3, 4], [], [], []⟩ ⟨[(0, S a0text), (3, I l7), (4, B8 (b2i x8))], []⟩ krf ?_
    refine sim_bind (fun j9 => ⟨[(0, S a0text), (3, I l7), (50, B j9)], []⟩ : Bool → St) ?_ ?_
    ·refine sG ?_
     refine xR 3 krf ?_
     refine xS (leI 97 (b2i x8)) (fun h10 => ?_) (fun h10 => ?_)
     ·refine xO (want_tt krf h10) krf ?_
      refine xR 3 krf ?_
      refine xS (leI (b2i x8) 122) (fun h11 => ?_) (fun h11 => ?_)
      ·refine xN (want_ft krf h11) krf ?_
       refine xR 11 krf ?_
       refine xE ?_
       exact nq_n false ⟨[0, 3, 50], [], [], []⟩ krf
      ·refine xO (want_ff krf h11) krf ?_
       refine xR 2 krf ?_
       refine xS (leI 48 (b2i x8)) (fun h12 => ?_) (fun h12 => ?_)
       ·refine xO (want_tt krf h12) krf ?_
        refine xR 4 krf ?_
        refine xS (leI (b2i x8) 57) (fun h13 => ?_) (fun h13 => ?_)
        ·refine xN (want_ft krf h13) krf ?_
         refine xR 3 krf ?_
         refine xE ?_
         exact nq_n false ⟨[0, 3, 50], [], [], []⟩ krf
        ·refine xO (want_ff krf h13) krf ?_
         refine xR 3 krf ?_
         refine xE ?_
         exact nq_n (!(eqI (b2i x8) 95)) ⟨[0, 3, 50], [], [], []⟩ krf
       ·refine xN (want_tf krf h12) krf ?_
        refine xR 8 krf ?_
        refine xE ?_
        exact nq_n (!(eqI (b2i x8) 95)) ⟨[0, 3, 50], [], [], []⟩ krf
     ·refine xN (want_tf krf h10) krf ?_
      refine xR 6 krf ?_
      refine xS (leI 48 (b2i x8)) (fun h14 => ?_) (fun h14 => ?_)
      ·refine xO (want_tt krf h14) krf ?_
       refine xR 4 krf ?_
       refine xS (leI (b2i x8) 57) (fun h15 => ?_) (fun h15 => ?_)
       ·refine xN (want_ft krf h15) krf ?_
        refine xR 3 krf ?_
        refine xE ?_
        exact nq_n false ⟨[0, 3, 50], [], [], []⟩ krf
       ·refine xO (want_ff krf h15) krf ?_
        refine xR 3 krf ?_
        refine xE ?_
        exact nq_n (!(eqI (b2i x8) 95)) ⟨[0, 3, 50], [], [], []⟩ krf
      ·refine xN (want_tf krf h14) krf ?_
       refine xR 8 krf ?_
       refine xE ?_
       exact nq_n (!(eqI (b2i x8) 95)) ⟨[0, 3, 50], [], [], []⟩ krf
    ·rintro j9
     refine sC j9 krf ?_ ?_
     ·refine sR tfm ⟨[2], [], [], []⟩ ⟨[(2, B false)], []⟩ krf ?_
      refine sT ?_
      refine bq_r ?_
      refine sq_r ?_
      refine kq_r ?_
      refine bq_r ?_
      refine sq_r ?_
      exact qR (.id) krf krf krf
     ·refine sK ?_
      refine bq_n ?_
      refine sN ⟨[0, 3], [], [], []⟩ ⟨[(0, S a0text), (3, I l7)], []⟩ krf ?_
      refine sL tfm krf ?_
      exact kq_n (wi (l7 + 1)) ⟨[0, 3], [], [], []⟩ krf
   ·refine sim_exit ?_
    refine sq_x ?_
    refine kq_x ?_
    refine bq_hit ?_
    refine sN ⟨[], [], [], []⟩ ⟨[], []⟩ krf ?_
    refine sR tfm ⟨[2], [], [], []⟩ ⟨[(2, B true)], []⟩ krf ?_
    refine sT ?_
    exact qR (.id) krf krf krf
def g_p_kindOf (n : Nat) (a0w : List UInt8) : Option Int :=
 cond (eqS a0w [102, 101, 101, 100, 101, 114])
  (some 1)
  (cond (eqS a0w [99, 97, 98, 108, 101])
   (some 2)
   (cond (eqS a0w [111, 119, 110, 101, 114])
    (some 3)
    (cond (eqS a0w [99, 111, 110, 116, 114, 97, 99, 116])
     (some 4)
     (cond (eqS a0w [99, 104, 97, 114, 103, 101, 114])
      (some 5)
      (cond (eqS a0w [98, 97, 121])
       (some 6)
       (cond (eqS a0w [116, 97, 114, 105, 102, 102])
        (some 7)
        (some 0)))))))
theorem g_p_kindOf_ok (n : Nat) (a0w : List UInt8) : ∀ r, g_p_kindOf n a0w = some r → PCall Try.prog 112 [S a0w] (.ret (I r)) := by
 refine pcall_sim (X := fun r : Int => AEnd.ret (I r)) Try.func112 rfl Try.ntmps112 rfl ?_
 unfold g_p_kindOf
 refine sR tfm ⟨[0], [], [], []⟩ ⟨[(0, S a0w)], []⟩ krf ?_
 refine sS ?_
 refine sR tfm ⟨[3], [], [], []⟩ ⟨[(3, S a0w)], []⟩ krf ?_
 refine sB ?_
 refine sR tfm ⟨[3, 4], [], [], []⟩ ⟨[(3, S a0w), (4, B (eqS a0w [102, 101, 101, 100, 101, 114]))], []⟩ krf ?_
 refine sC (eqS a0w [102, 101, 101, 100, 101, 114]) krf ?_ ?_
 ·refine sR tfm ⟨[2], [], [], []⟩ ⟨[(2, I 1)], []⟩ krf ?_
  refine sT ?_
  refine bq_r ?_
  refine sq_r ?_
  exact qR (.id) krf krf krf
 ·refine sR tfm ⟨[3, 6], [], [], []⟩ ⟨[(3, S a0w), (6, B (eqS a0w [99, 97, 98, 108, 101]))], []⟩ krf ?_
  refine sC (eqS a0w [99, 97, 98, 108, 101]) krf ?_ ?_
  ·refine sR tfm ⟨[2], [], [], []⟩ ⟨[(2, I 2)], []⟩ krf ?_
   refine sT ?_
   refine bq_r ?_
   refine sq_r ?_
   exact qR (.id) krf krf krf
  ·refine sR tfm ⟨[3, 8], [], [], []⟩ ⟨[(3, S a0w), (8, B (eqS a0w [111, 119, 110, 101, 114]))], []⟩ krf ?_
   refine sC (eqS a0w [111, 119, 110, 101, 114]) krf ?_ ?_
   ·refine sR tfm ⟨[2], [], [], []⟩ ⟨[(2, I 3)], []⟩ krf ?_
    refine sT ?_
    refine bq_r ?_
    refine sq_r ?_
    exact qR (.id) krf krf krf
   ·refine sR tfm ⟨[3, 10], [], [], []⟩ ⟨[(3, S a0w), (10, B (eqS a0w [99, 111, 110, 116, 114, 97, 99, 116]))], []⟩ krf ?_
    refine sC (eqS a0w [99, 111, 110, 116, 114, 97, 99, 116]) krf ?_ ?_
    ·refine sR tfm ⟨[2], [], [], []⟩ ⟨[(2, I 4)], []⟩ krf ?_
     refine sT ?_
     refine bq_r ?_
     refine sq_r ?_
     exact qR (.id) krf krf krf
    ·refine sR tfm ⟨[3, 12], [], [], []⟩ ⟨[(3, S a0w), (12, B (eqS a0w [99, 104, 97, 114, 103, 101, 114]))], []⟩ krf ?_
     refine sC (eqS a0w [99, 104, 97, 114, 103, 101, 114]) krf ?_ ?_
     ·refine sR tfm ⟨[2], [], [], []⟩ ⟨[(2, I 5)], []⟩ krf ?_
      refine sT ?_
      refine bq_r ?_
      refine sq_r ?_
      exact qR (.id) krf krf krf
     ·refine sR tfm ⟨[3, 14], [], [], []⟩ ⟨[(3, S a0w), (14, B (eqS a0w [98, 97, 121]))], []⟩ krf ?_
      refine sC (eqS a0w [98, 97, 121]) krf ?_ ?_
      ·refine sR tfm ⟨[2], [], [], []⟩ ⟨[(2, I 6)], []⟩ krf ?_
       refine sT ?_
       refine bq_r ?_
       refine sq_r ?_
       exact qR (.id) krf krf krf
      ·refine sR tfm ⟨[16], [], [], []⟩ ⟨[(16, B (eqS a0w [116, 97, 114, 105, 102, 102]))], []⟩ krf ?_
       refine sC (eqS a0w [116, 97, 114, 105, 102, 102]) krf ?_ ?_
       ·refine sR tfm ⟨[2], [], [], []⟩ ⟨[(2, I 7)], []⟩ krf ?_
        refine sT ?_
        refine bq_r ?_
        refine sq_r ?_
        exact qR (.id) krf krf krf
       ·refine sK ?_
        refine bq_n ?_
        refine sN ⟨[], [], [], []⟩ ⟨[], []⟩ krf ?_
        refine sR tfm ⟨[2], [], [], []⟩ ⟨[(2, I 0)], []⟩ krf ?_
        refine sT ?_
        exact qR (.id) krf krf krf
def g_p_isAttr (n : Nat) (a0w : List UInt8) : Option Bool :=
 (cond (eqS a0w [108, 105, 109, 105, 116])
  (some (eqS a0w [108, 105, 109, 105, 116]))
  (cond (eqS a0w [110, 101, 117, 116, 114, 97, 108])
   (some (eqS a0w [110, 101, 117, 116, 114, 97, 108]))
   (cond (eqS a0w [102, 117, 115, 101])
    (some (eqS a0w [102, 117, 115, 101]))
    (cond (eqS a0w [116, 104, 101, 114, 109, 97, 108])
     (some (eqS a0w [116, 104, 101, 114, 109, 97, 108]))
     (cond (eqS a0w [102, 114, 111, 109])
      (some (eqS a0w [102, 114, 111, 109]))
      (cond (eqS a0w [97, 116])
       (some (eqS a0w [97, 116]))
       (cond (eqS a0w [112, 104, 97, 115, 101, 115])
        (some (eqS a0w [112, 104, 97, 115, 101, 115]))
        (cond (eqS a0w [97, 109, 112, 115])
         (some (eqS a0w [97, 109, 112, 115]))
         (cond (eqS a0w [102, 97, 108, 108, 98, 97, 99, 107])
          (some (eqS a0w [102, 97, 108, 108, 98, 97, 99, 107]))
          (cond (eqS a0w [111, 119, 110, 101, 114])
           (some (eqS a0w [111, 119, 110, 101, 114]))
           (cond (eqS a0w [99, 97, 114, 100])
            (some (eqS a0w [99, 97, 114, 100]))
            (cond (eqS a0w [114, 97, 110, 107])
             (some (eqS a0w [114, 97, 110, 107]))
             (some (eqS a0w [99, 104, 97, 114, 103, 101, 114])))))))))))))).bind fun j1 =>
 cond j1
  (some true)
  (some false)
theorem g_p_isAttr_ok (n : Nat) (a0w : List UInt8) : ∀ r, g_p_isAttr n a0w = some r → PCall Try.prog 103 [S a0w] (.ret (B r)) := by
 refine pcall_sim (X := fun r : Bool => AEnd.ret (B r)) Try.func103 rfl Try.ntmps103 rfl ?_
 unfold g_p_isAttr
 refine sR tfm ⟨[0], [], [], []⟩ ⟨[(0, S a0w)], []⟩ krf ?_
 refine sS ?_
 refine sR tfm ⟨[3], [], [], []⟩ ⟨[(3, S a0w)], []⟩ krf ?_
 refine sB ?_
 refine sim_bind (fun j1 => ⟨[(4, B j1)], []⟩ : Bool → St) ?_ ?_
 ·refine sR tfm ⟨[3, 4], [], [], []⟩ ⟨[(3, S a0w), (4, B (eqS a0w [108, 105, 109, 105, 116]))], []⟩ krf ?_
  refine sC (eqS a0w [108, 105, 109, 105, 116]) krf ?_ ?_
  ·refine sK ?_
   exact nq_n (eqS a0w [108, 105, 109, 105, 116]) ⟨[4], [], [], []⟩ krf
  ·refine sR tfm ⟨[3, 4], [], [], []⟩ ⟨[(3, S a0w), (4, B (eqS a0w [110, 101, 117, 116, 114, 97, 108]))], []⟩ krf ?_
   refine sC (eqS a0w [110, 101, 117, 116, 114, 97, 108]) krf ?_ ?_
   ·refine sK ?_
    exact nq_n (eqS a0w [110, 101, 117, 116, 114, 97, 108]) ⟨[4], [], [], []⟩ krf
   ·refine sR tfm ⟨[3, 4], [], [], []⟩ ⟨[(3, S a0w), (4, B (eqS a0w [102, 117, 115, 101]))], []⟩ krf ?_
    refine sC (eqS a0w [102, 117, 115, 101]) krf ?_ ?_
    ·refine sK ?_
     exact nq_n (eqS a0w [102, 117, 115, 101]) ⟨[4], [], [], []⟩ krf
    ·refine sR tfm ⟨[3, 4], [], [], []⟩ ⟨[(3, S a0w), (4, B (eqS a0w [116, 104, 101, 114, 109, 97, 108]))], []⟩ krf ?_
     refine sC (eqS a0w [116, 104, 101, 114, 109, 97, 108]) krf ?_ ?_
     ·refine sK ?_
      exact nq_n (eqS a0w [116, 104, 101, 114, 109, 97, 108]) ⟨[4], [], [], []⟩ krf
     ·refine sR tfm ⟨[3, 4], [], [], []⟩ ⟨[(3, S a0w), (4, B (eqS a0w [102, 114, 111, 109]))], []⟩ krf ?_
      refine sC (eqS a0w [102, 114, 111, 109]) krf ?_ ?_
      ·refine sK ?_
       exact nq_n (eqS a0w [102, 114, 111, 109]) ⟨[4], [], [], []⟩ krf
      ·refine sR tfm ⟨[3, 4], [], [], []⟩ ⟨[(3, S a0w), (4, B (eqS a0w [97, 116]))], []⟩ krf ?_
       refine sC (eqS a0w [97, 116]) krf ?_ ?_
       ·refine sK ?_
        exact nq_n (eqS a0w [97, 116]) ⟨[4], [], [], []⟩ krf
       ·refine sR tfm ⟨[3, 4], [], [], []⟩ ⟨[(3, S a0w), (4, B (eqS a0w [112, 104, 97, 115, 101, 115]))], []⟩ krf ?_
        refine sC (eqS a0w [112, 104, 97, 115, 101, 115]) krf ?_ ?_
        ·refine sK ?_
         exact nq_n (eqS a0w [112, 104, 97, 115, 101, 115]) ⟨[4], [], [], []⟩ krf
        ·refine sR tfm ⟨[3, 4], [], [], []⟩ ⟨[(3, S a0w), (4, B (eqS a0w [97, 109, 112, 115]))], []⟩ krf ?_
         refine sC (eqS a0w [97, 109, 112, 115]) krf ?_ ?_
         ·refine sK ?_
          exact nq_n (eqS a0w [97, 109, 112, 115]) ⟨[4], [], [], []⟩ krf
         ·refine sR tfm ⟨[3, 4], [], [], []⟩ ⟨[(3, S a0w), (4, B (eqS a0w [102, 97, 108, 108, 98, 97, 99, 107]))], []⟩ krf ?_
          refine sC (eqS a0w [102, 97, 108, 108, 98, 97, 99, 107]) krf ?_ ?_
          ·refine sK ?_
           exact nq_n (eqS a0w [102, 97, 108, 108, 98, 97, 99, 107]) ⟨[4], [], [], []⟩ krf
          ·refine sR tfm ⟨[3, 4], [], [], []⟩ ⟨[(3, S a0w), (4, B (eqS a0w [111, 119, 110, 101, 114]))], []⟩ krf ?_
           refine sC (eqS a0w [111, 119, 110, 101, 114]) krf ?_ ?_
           ·refine sK ?_
            exact nq_n (eqS a0w [111, 119, 110, 101, 114]) ⟨[4], [], [], []⟩ krf
           ·refine sR tfm ⟨[3, 4], [], [], []⟩ ⟨[(3, S a0w), (4, B (eqS a0w [99, 97, 114, 100]))], []⟩ krf ?_
            refine sC (eqS a0w [99, 97, 114, 100]) krf ?_ ?_
            ·refine sK ?_
             exact nq_n (eqS a0w [99, 97, 114, 100]) ⟨[4], [], [], []⟩ krf
            ·refine sR tfm ⟨[3, 4], [], [], []⟩ ⟨[(3, S a0w), (4, B (eqS a0w [114, 97, 110, 107]))], []⟩ krf ?_
             refine sC (eqS a0w [114, 97, 110, 107]) krf ?_ ?_
             ·refine sK ?_
              exact nq_n (eqS a0w [114, 97, 110, 107]) ⟨[4], [], [], []⟩ krf
             ·refine sL tfm krf ?_
              exact nq_n (eqS a0w [99, 104, 97, 114, 103, 101, 114]) ⟨[4], [], [], []⟩ krf
 ·rintro j1
  refine sC j1 krf ?_ ?_
  ·refine sR tfm ⟨[2], [], [], []⟩ ⟨[(2, B true)], []⟩ krf ?_
   refine sT ?_
   refine bq_r ?_
   refine sq_r ?_
   exact qR (.id) krf krf krf
  ·refine sK ?_
   refine bq_n ?_
   refine sN ⟨[], [], [], []⟩ ⟨[], []⟩ krf ?_
   refine sR tfm ⟨[2], [], [], []⟩ ⟨[(2, B false)], []⟩ krf ?_
   refine sT ?_
   exact qR (.id) krf krf krf
def g_p_isArticle (n : Nat) (a0w : List UInt8) : Option Bool :=
 (cond (eqS a0w [115, 116, 97, 114, 116])
  (some (eqS a0w [115, 116, 97, 114, 116]))
  (cond (eqS a0w [101, 110, 101, 114, 103, 121])
   (some (eqS a0w [101, 110, 101, 114, 103, 121]))
   (cond (eqS a0w [116, 105, 109, 101])
    (some (eqS a0w [116, 105, 109, 101]))
    (cond (eqS a0w [105, 100, 108, 101])
     (some (eqS a0w [105, 100, 108, 101]))
     (cond (eqS a0w [99, 97, 112])
      (some (eqS a0w [99, 97, 112]))
      (some (eqS a0w [116, 97, 120]))))))).bind fun j1 =>
 cond j1
  (some true)
  (some false)
theorem g_p_isArticle_ok (n : Nat) (a0w : List UInt8) : ∀ r, g_p_isArticle n a0w = some r → PCall Try.prog 104 [S a0w] (.ret (B r)) := by
 refine pcall_sim (X := fun r : Bool => AEnd.ret (B r)) Try.func104 rfl Try.ntmps104 rfl ?_
 unfold g_p_isArticle
 refine sR tfm ⟨[0], [], [], []⟩ ⟨[(0, S a0w)], []⟩ krf ?_
 refine sS ?_
 refine sR tfm ⟨[3], [], [], []⟩ ⟨[(3, S a0w)], []⟩ krf ?_
 refine sB ?_
 refine sim_bind (fun j1 => ⟨[(4, B j1)], []⟩ : Bool → St) ?_ ?_
 ·refine sR tfm ⟨[3, 4], [], [], []⟩ ⟨[(3, S a0w), (4, B (eqS a0w [115, 116, 97, 114, 116]))], []⟩ krf ?_
  refine sC (eqS a0w [115, 116, 97, 114, 116]) krf ?_ ?_
  ·refine sK ?_
   exact nq_n (eqS a0w [115, 116, 97, 114, 116]) ⟨[4], [], [], []⟩ krf
  ·refine sR tfm ⟨[3, 4], [], [], []⟩ ⟨[(3, S a0w), (4, B (eqS a0w [101, 110, 101, 114, 103, 121]))], []⟩ krf ?_
   refine sC (eqS a0w [101, 110, 101, 114, 103, 121]) krf ?_ ?_
   ·refine sK ?_
    exact nq_n (eqS a0w [101, 110, 101, 114, 103, 121]) ⟨[4], [], [], []⟩ krf
   ·refine sR tfm ⟨[3, 4], [], [], []⟩ ⟨[(3, S a0w), (4, B (eqS a0w [116, 105, 109, 101]))], []⟩ krf ?_
    refine sC (eqS a0w [116, 105, 109, 101]) krf ?_ ?_
    ·refine sK ?_
     exact nq_n (eqS a0w [116, 105, 109, 101]) ⟨[4], [], [], []⟩ krf
    ·refine sR tfm ⟨[3, 4], [], [], []⟩ ⟨[(3, S a0w), (4, B (eqS a0w [105, 100, 108, 101]))], []⟩ krf ?_
     refine sC (eqS a0w [105, 100, 108, 101]) krf ?_ ?_
     ·refine sK ?_
      exact nq_n (eqS a0w [105, 100, 108, 101]) ⟨[4], [], [], []⟩ krf
     ·refine sR tfm ⟨[3, 4], [], [], []⟩ ⟨[(3, S a0w), (4, B (eqS a0w [99, 97, 112]))], []⟩ krf ?_
      refine sC (eqS a0w [99, 97, 112]) krf ?_ ?_
      ·refine sK ?_
       exact nq_n (eqS a0w [99, 97, 112]) ⟨[4], [], [], []⟩ krf
      ·refine sL tfm krf ?_
       exact nq_n (eqS a0w [116, 97, 120]) ⟨[4], [], [], []⟩ krf
 ·rintro j1
  refine sC j1 krf ?_ ?_
  ·refine sR tfm ⟨[2], [], [], []⟩ ⟨[(2, B true)], []⟩ krf ?_
   refine sT ?_
   refine bq_r ?_
   refine sq_r ?_
   exact qR (.id) krf krf krf
  ·refine sK ?_
   refine bq_n ?_
   refine sN ⟨[], [], [], []⟩ ⟨[], []⟩ krf ?_
   refine sR tfm ⟨[2], [], [], []⟩ ⟨[(2, B false)], []⟩ krf ?_
   refine sT ?_
   exact qR (.id) krf krf krf
def g_p_isWord (n : Nat) (a0w : List UInt8) : Option Bool :=
 (cond (eqS a0w [111, 110])
  (some (eqS a0w [111, 110]))
  (cond (eqS a0w [119, 111, 114, 107])
   (some (eqS a0w [119, 111, 114, 107]))
   (cond (eqS a0w [115, 97, 116, 117, 114, 100, 97, 121])
    (some (eqS a0w [115, 97, 116, 117, 114, 100, 97, 121]))
    (cond (eqS a0w [115, 117, 110, 100, 97, 121])
     (some (eqS a0w [115, 117, 110, 100, 97, 121]))
     (cond (eqS a0w [98, 101, 116, 119, 101, 101, 110])
      (some (eqS a0w [98, 101, 116, 119, 101, 101, 110]))
      (cond (eqS a0w [112, 101, 114])
       (some (eqS a0w [112, 101, 114]))
       (some (eqS a0w [102, 114, 101, 101])))))))).bind fun j1 =>
 cond j1
  (some true)
  (some false)
theorem g_p_isWord_ok (n : Nat) (a0w : List UInt8) : ∀ r, g_p_isWord n a0w = some r → PCall Try.prog 113 [S a0w] (.ret (B r)) := by
 refine pcall_sim (X := fun r : Bool => AEnd.ret (B r)) Try.func113 rfl Try.ntmps113 rfl ?_
 unfold g_p_isWord
 refine sR tfm ⟨[0], [], [], []⟩ ⟨[(0, S a0w)], []⟩ krf ?_
 refine sS ?_
 refine sR tfm ⟨[3], [], [], []⟩ ⟨[(3, S a0w)], []⟩ krf ?_
 refine sB ?_
 refine sim_bind (fun j1 => ⟨[(4, B j1)], []⟩ : Bool → St) ?_ ?_
 ·refine sR tfm ⟨[3, 4], [], [], []⟩ ⟨[(3, S a0w), (4, B (eqS a0w [111, 110]))], []⟩ krf ?_
  refine sC (eqS a0w [111, 110]) krf ?_ ?_
  ·refine sK ?_
   exact nq_n (eqS a0w [111, 110]) ⟨[4], [], [], []⟩ krf
  ·refine sR tfm ⟨[3, 4], [], [], []⟩ ⟨[(3, S a0w), (4, B (eqS a0w [119, 111, 114, 107]))], []⟩ krf ?_
   refine sC (eqS a0w [119, 111, 114, 107]) krf ?_ ?_
   ·refine sK ?_
    exact nq_n (eqS a0w [119, 111, 114, 107]) ⟨[4], [], [], []⟩ krf
   ·refine sR tfm ⟨[3, 4], [], [], []⟩ ⟨[(3, S a0w), (4, B (eqS a0w [115, 97, 116, 117, 114, 100, 97, 121]))], []⟩ krf ?_
    refine sC (eqS a0w [115, 97, 116, 117, 114, 100, 97, 121]) krf ?_ ?_
    ·refine sK ?_
     exact nq_n (eqS a0w [115, 97, 116, 117, 114, 100, 97, 121]) ⟨[4], [], [], []⟩ krf
    ·refine sR tfm ⟨[3, 4], [], [], []⟩ ⟨[(3, S a0w), (4, B (eqS a0w [115, 117, 110, 100, 97, 121]))], []⟩ krf ?_
     refine sC (eqS a0w [115, 117, 110, 100, 97, 121]) krf ?_ ?_
     ·refine sK ?_
      exact nq_n (eqS a0w [115, 117, 110, 100, 97, 121]) ⟨[4], [], [], []⟩ krf
     ·refine sR tfm ⟨[3, 4], [], [], []⟩ ⟨[(3, S a0w), (4, B (eqS a0w [98, 101, 116, 119, 101, 101, 110]))], []⟩ krf ?_
      refine sC (eqS a0w [98, 101, 116, 119, 101, 101, 110]) krf ?_ ?_
      ·refine sK ?_
       exact nq_n (eqS a0w [98, 101, 116, 119, 101, 101, 110]) ⟨[4], [], [], []⟩ krf
      ·refine sR tfm ⟨[3, 4], [], [], []⟩ ⟨[(3, S a0w), (4, B (eqS a0w [112, 101, 114]))], []⟩ krf ?_
       refine sC (eqS a0w [112, 101, 114]) krf ?_ ?_
       ·refine sK ?_
        exact nq_n (eqS a0w [112, 101, 114]) ⟨[4], [], [], []⟩ krf
       ·refine sL tfm krf ?_
        exact nq_n (eqS a0w [102, 114, 101, 101]) ⟨[4], [], [], []⟩ krf
 ·rintro j1
  refine sC j1 krf ?_ ?_
  ·refine sR tfm ⟨[2], [], [], []⟩ ⟨[(2, B true)], []⟩ krf ?_
   refine sT ?_
   refine bq_r ?_
   refine sq_r ?_
   exact qR (.id) krf krf krf
  ·refine sK ?_
   refine bq_n ?_
   refine sN ⟨[], [], [], []⟩ ⟨[], []⟩ krf ?_
   refine sR tfm ⟨[2], [], [], []⟩ ⟨[(2, B false)], []⟩ krf ?_
   refine sT ?_
   exact qR (.id) krf krf krf
def g_p_isKey (n : Nat) (a0w : List UInt8) : Option Bool :=
 (g_p_kindOf n a0w).bind fun r1 =>
 cond (!eqI r1 0)
  (some true)
  ((g_p_isAttr n a0w).bind fun r3 =>
  cond r3
   (some true)
   ((g_p_isArticle n a0w).bind fun r5 =>
   cond r5
    (some true)
    ((g_p_isWord n a0w).bind fun r7 =>
    some r7)))
theorem g_p_isKey_ok (n : Nat) (a0w : List UInt8) : ∀ r, g_p_isKey n a0w = some r → PCall Try.prog 102 [S a0w] (.ret (B r)) := by
 refine pcall_sim (X := fun r : Bool => AEnd.ret (B r)) Try.func102 rfl Try.ntmps102 rfl ?_
 unfold g_p_isKey
 refine sR tfm ⟨[0], [], [], []⟩ ⟨[(0, S a0w)], []⟩ krf ?_
 refine sS ?_
 refine sG ?_
 refine xR 1 krf ?_
 refine xC [] krf (g_p_kindOf_ok n a0w) krf krf (fun _ => by kernel_rfl) (fun r1 => ?_)
 refine xR 2 krf ?_
 refine xS (!eqI r1 0) (fun h2 => ?_) (fun h2 => ?_)
 ·refine xN (want_ft krf h2) krf ?_
  refine xR 11 krf ?_
  refine xE ?_
  refine sN ⟨[2], [], [], []⟩ ⟨[(2, B true)], []⟩ krf ?_
  refine sT ?_
  exact qR (.id) krf krf krf
 ·refine xO (want_ff krf h2) krf ?_
  refine xC [] krf (g_p_isAttr_ok n a0w) krf krf (fun _ => by kernel_rfl) (fun r3 => ?_)
  refine xR 2 krf ?_
  refine xS r3 (fun h4 => ?_) (fun h4 => ?_)
  ·refine xN (want_ft krf h4) krf ?_
   refine xR 7 krf ?_
   refine xE ?_
   refine sN ⟨[2], [], [], []⟩ ⟨[(2, B true)], []⟩ krf ?_
   refine sT ?_
   exact qR (.id) krf krf krf
  ·refine xO (want_ff krf h4) krf ?_
   refine xC [] krf (g_p_isArticle_ok n a0w) krf krf (fun _ => by kernel_rfl) (fun r5 => ?_)
   refine xR 2 krf ?_
   refine xS r5 (fun h6 => ?_) (fun h6 => ?_)
   ·refine xN (want_ft krf h6) krf ?_
    refine xR 3 krf ?_
    refine xE ?_
    refine sN ⟨[2], [], [], []⟩ ⟨[(2, B true)], []⟩ krf ?_
    refine sT ?_
    exact qR (.id) krf krf krf
   ·refine xO (want_ff krf h6) krf ?_
    refine xC [] krf (g_p_isWord_ok n a0w) krf krf (fun _ => by kernel_rfl) (fun r7 => ?_)
    refine xR 2 krf ?_
    refine xE ?_
    refine sN ⟨[2], [], [], []⟩ ⟨[(2, B r7)], []⟩ krf ?_
    refine sT ?_
    exact qR (.id) krf krf krf
def g_p_goodName (n : Nat) (a0text : List UInt8) : Option Bool :=
 (g_p_goodWord n a0text).bind fun r1 =>
 cond r1
  ((g_p_isKey n a0text).bind fun r3 =>
  some (!r3))
  (some false)
theorem g_p_goodName_ok (n : Nat) (a0text : List UInt8) : ∀ r, g_p_goodName n a0text = some r → PCall Try.prog 92 [S a0text] (.ret (B r)) := by
 refine pcall_sim (X := fun r : Bool => AEnd.ret (B r)) Try.func92 rfl Try.ntmps92 rfl ?_
 unfold g_p_goodName
 refine sR tfm ⟨[0], [], [], []⟩ ⟨[(0, S a0text)], []⟩ krf ?_
 refine sS ?_
 refine sG ?_
 refine xR 1 krf ?_
 refine xC [] krf (g_p_goodWord_ok n a0text) krf krf (fun _ => by kernel_rfl) (fun r1 => ?_)
 refine xR 1 krf ?_
 refine xS r1 (fun h2 => ?_) (fun h2 => ?_)
 ·refine xO (want_tt krf h2) krf ?_
  refine xC [] krf (g_p_isKey_ok n a0text) krf krf (fun _ => by kernel_rfl) (fun r3 => ?_)
  refine xR 3 krf ?_
  refine xE ?_
  refine sN ⟨[2], [], [], []⟩ ⟨[(2, B (!r3))], []⟩ krf ?_
  refine sT ?_
  exact qR (.id) krf krf krf
 ·refine xN (want_tf krf h2) krf ?_
  refine xR 4 krf ?_
  refine xE ?_
  refine sN ⟨[2], [], [], []⟩ ⟨[(2, B false)], []⟩ krf ?_
  refine sT ?_
  exact qR (.id) krf krf krf
def g_p_validValue (n : Nat) (a0n : GNode) (a1words : Bool) : Option Bool :=
 cond (!eqI (lenI (List.map idc a0n.Kids)) 0)
  (some false)
  (cond (eqI a0n.Kind 5)
   (cond (eqI a0n.N 0)
    ((g_p_goodName n a0n.Name).bind fun r2 =>
    cond r2
     (some true)
     (cond a1words
      ((g_p_isWord n a0n.Name).bind fun r5 =>
      some r5)
      (some false)))
    (some false))
   (cond (eqI a0n.Kind 6)
    (cond (eqS a0n.Name [])
     (cond (leI 0 a0n.N)
      (some (leI a0n.N 1000000))
      (some false))
     (some false))
    (some false)))
theorem g_p_validValue_ok (n : Nat) (a0n : GNode) (a1words : Bool) : ∀ r, g_p_validValue n a0n a1words = some r → PCall Try.prog 105 [ag (GNode.cs a0n), B a1words] (.ret (B r)) := by
 refine pcall_sim (X := fun r : Bool => AEnd.ret (B r)) Try.func105 rfl Try.ntmps105 rfl ?_
 unfold g_p_validValue
 refine sR tfm ⟨[1, 2], [2], [], []⟩ ⟨[(1, B a1words), (2, .ptr 2 0)], [(2, .box 74 (bxc (GNode.cs a0n)))]⟩ krf ?_
 refine sS ?_
 refine sR tfm ⟨[1, 2, 8], [2], [], []⟩ ⟨[(1, B a1words), (2, .ptr 2 0), (8, B (!eqI (lenI (List.map idc a0n.Kids)) 0))], [(2, .box 74 (bxc (GNode.cs a0n)))]⟩ krf ?_
 refine sC (!eqI (lenI (List.map idc a0n.Kids)) 0) krf ?_ ?_
 ·refine sR tfm ⟨[4], [], [], []⟩ ⟨[(4, B false)], []⟩ krf ?_
  refine sT ?_
  refine sq_r ?_
  exact qR (.id) krf krf krf
 ·refine sK ?_
  refine sN ⟨[1, 2], [2], [], []⟩ ⟨[(1, B a1words), (2, .ptr 2 0)], [(2, .box 74 (bxc (GNode.cs a0n)))]⟩ krf ?_
  refine sS ?_
  refine sR tfm ⟨[1, 2, 10], [2], [], []⟩ ⟨[(1, B a1words), (2, .ptr 2 0), (10, I a0n.Kind)], [(2, .box 74 (bxc (GNode.cs a0n)))]⟩ krf ?_
  refine sB ?_
  refine sR tfm ⟨[1, 2, 10, 11], [2], [], []⟩ ⟨[(1, B a1words), (2, .ptr 2 0), (10, I a0n.Kind), (11, B (eqI a0n.Kind 5))], [(2, .box 74 (bxc (GNode.cs a0n)))]⟩ krf ?_
  refine sC (eqI a0n.Kind 5) krf ?_ ?_
  ·refine sS ?_
   refine sG ?_
   refine xR 4 krf ?_
   refine xS (eqI a0n.N 0) (fun h1 => ?_) (fun h1 => ?_)
   ·refine xO (want_tt krf h1) krf ?_
    refine xR 1 krf ?_
    refine xC [] krf (g_p_goodName_ok n a0n.Name) krf krf (fun _ => by kernel_rfl) (fun r2 => ?_)
    refine xR 1 krf ?_
    refine xS r2 (fun h3 => ?_) (fun h3 => ?_)
    ·refine xN (want_ft krf h3) krf ?_
     refine xR 8 krf ?_
     refine xE ?_
     refine sN ⟨[4], [], [], []⟩ ⟨[(4, B true)], []⟩ krf ?_
     refine sT ?_
     refine bq_r ?_
     refine sq_r ?_
     exact qR (.id) krf krf krf
    ·refine xO (want_ff krf h3) krf ?_
     refine xR 1 krf ?_
     refine xS a1words (fun h4 => ?_) (fun h4 => ?_)
     ·refine xO (want_tt krf h4) krf ?_
      refine xR 1 krf ?_
      refine xC [] krf (g_p_isWord_ok n a0n.Name) krf krf (fun _ => by kernel_rfl) (fun r5 => ?_)
      refine xR 4 krf ?_
      refine xE ?_
      refine sN ⟨[4], [], [], []⟩ ⟨[(4, B r5)], []⟩ krf ?_
      refine sT ?_
      refine bq_r ?_
      refine sq_r ?_
      exact qR (.id) krf krf krf
     ·refine xN (want_tf krf h4) krf ?_
      refine xR 6 krf ?_
      refine xE ?_
      refine sN ⟨[4], [], [], []⟩ ⟨[(4, B false)], []⟩ krf ?_
      refine sT ?_
      refine bq_r ?_
      refine sq_r ?_
      exact qR (.id) krf krf krf
   ·refine xN (want_tf krf h1) krf ?_
    refine xR 12 krf ?_
    refine xE ?_
    refine sN ⟨[4], [], [], []⟩ ⟨[(4, B false)], []⟩ krf ?_
    refine sT ?_
    refine bq_r ?_
    refine sq_r ?_
    exact qR (.id) krf krf krf
  ·refine sR tfm ⟨[2, 29], [2], [], []⟩ ⟨[(2, .ptr 2 0), (29, B (eqI a0n.Kind 6))], [(2, .box 74 (bxc (GNode.cs a0n)))]⟩ krf ?_
   refine sC (eqI a0n.Kind 6) krf ?_ ?_
   ·refine sS ?_
    refine sG ?_
    refine xR 4 krf ?_
    refine xS (eqS a0n.Name []) (fun h6 => ?_) (fun h6 => ?_)
    ·refine xO (want_tt krf h6) krf ?_
     refine xR 4 krf ?_
     refine xS (leI 0 a0n.N) (fun h7 => ?_) (fun h7 => ?_)
     ·refine xO (want_tt krf h7) krf ?_
      refine xR 4 krf ?_
      refine xE ?_
      refine sN ⟨[4], [], [], []⟩ ⟨[(4, B (leI a0n.N 1000000))], []⟩ krf ?_
      refine sT ?_
      refine bq_r ?_
      refine sq_r ?_
      exact qR (.id) krf krf krf
     ·refine xN (want_tf krf h7) krf ?_
      refine xR 4 krf ?_
      refine xE ?_
      refine sN ⟨[4], [], [], []⟩ ⟨[(4, B false)], []⟩ krf ?_
      refine sT ?_
      refine bq_r ?_
      refine sq_r ?_
      exact qR (.id) krf krf krf
    ·refine xN (want_tf krf h6) krf ?_
     refine xR 9 krf ?_
     refine xE ?_
     refine sN ⟨[4], [], [], []⟩ ⟨[(4, B false)], []⟩ krf ?_
     refine sT ?_
     refine bq_r ?_
     refine sq_r ?_
     exact qR (.id) krf krf krf
   ·refine sK ?_
    refine bq_n ?_
    refine sN ⟨[], [], [], []⟩ ⟨[], []⟩ krf ?_
    refine sR tfm ⟨[4], [], [], []⟩ ⟨[(4, B false)], []⟩ krf ?_
    refine sT ?_
    exact qR (.id) krf krf krf
def g_p_validPart_l9 (n : Nat) (a0n : GNode) (a1left : Int) (recl9 : Int → Option (Bool × Int)) (l9 : Int) : Option (Bool × Int) :=
 cond (ltI l9 (lenI (List.map idc a0n.Kids)))
  ((Option.bind (getI a0n.Kids l9) GNode.of).bind fun x10 =>
  (g_p_validValue n x10 (eqI a0n.Kind 4)).bind fun r11 =>
  cond (!r11)
   (some (false, wi (a1left - (lenI (List.map idc a0n.Kids)))))
   (recl9 (wi (l9 + 1))))
  (some (true, wi (a1left - (lenI (List.map idc a0n.Kids)))))
def g_p_validPart (n : Nat) (a0n : GNode) (a1left : Int) : Option (Bool × Int) :=
 cond (!eqI a0n.N 0)
  (some (false, a1left))
  ((cond (eqI a0n.Kind 3)
   ((g_p_isAttr n a0n.Name).bind fun r3 =>
   some (!r3))
   (some false)).bind fun j1 =>
  cond j1
   (some (false, a1left))
   ((cond (eqI a0n.Kind 4)
    ((g_p_isArticle n a0n.Name).bind fun r6 =>
    some (!r6))
    (some false)).bind fun j4 =>
   cond j4
    (some (false, a1left))
    ((cond (!eqI a0n.Kind 3)
     (some (!eqI a0n.Kind 4))
     (some false)).bind fun j7 =>
    cond j7
     (some (false, a1left))
     (cond (ltI (wi (a1left - (lenI (List.map idc a0n.Kids)))) 0)
      (some (false, wi (a1left - (lenI (List.map idc a0n.Kids)))))
      (loopN (fun recl9 l9 => g_p_validPart_l9 n a0n a1left recl9 l9) n 0)))))
theorem g_p_validPart_ok (n : Nat) (a0n : GNode) (a1left : Int) : ∀ r, g_p_validPart n a0n a1left = some r → ACall Try.prog 93 [ag (GNode.cs a0n), .ptr 1001 0] (Go.Abs.look [(1001, .box 3 [I a1left])]) (heapR (fun r : Bool × Int => ((.ret (B r.1), [(1001, .box 3 [I r.2])]) : AEnd × List (Nat × Blk))) r) := by
 refine acall_sim (X := fun r : Bool × Int => ((.ret (B r.1), [(1001, .box 3 [I r.2])]) : AEnd × List (Nat × Blk))) [(1001, .box 3 [I a1left])] Try.func93 rfl Try.ntmps93 rfl ?_
 unfold g_p_validPart
 refine sR tfm ⟨[1, 2], [2, 1001], [], []⟩ ⟨[(1, .ptr 1001 0), (2, .ptr 2 0)], [(2, .box 74 (bxc (GNode.cs a0n))), (1001, .box 3 [I a1left])]⟩ krf ?_
 refine sR tfm ⟨[1, 2, 5], [2, 1001], [], []⟩ ⟨[(1, .ptr 1001 0), (2, .ptr 2 0), (5, B (eqI a0n.Kind 4))], [(2, .box 74 (bxc (GNode.cs a0n))), (1001, .box 3 [I a1left])]⟩ krf ?_
 refine sS ?_
 refine sB ?_
 refine sR tfm ⟨[1, 2, 5, 11], [2, 1001], [], []⟩ ⟨[(1, .ptr 1001 0), (2, .ptr 2 0), (5, B (eqI a0n.Kind 4)), (11, B (!eqI a0n.N 0))], [(2, .box 74 (bxc (GNode.cs a0n))), (1001, .box 3 [I a1left])]⟩ krf ?_
 refine sC (!eqI a0n.N 0) krf ?_ ?_
 ·refine sR tfm ⟨[4], [1001], [], []⟩ ⟨[(4, B false)], [(1001, .box 3 [I a1left])]⟩ krf ?_
  refine sT ?_
  refine bq_r ?_
  refine sq_r ?_
  exact hq_ret (.id) [1001] [] krf krf krf krf
 ·refine sim_bind (fun j1 => ⟨[(1, .ptr 1001 0), (2, .ptr 2 0), (5, B (eqI a0n.Kind 4)), (15, B j1)], [(2, .box 74 (bxc (GNode.cs a0n))), (1001, .box 3 [I a1left])]⟩ : Bool → St) ?_ ?_
  ·refine sG ?_
   refine xR 4 krf ?_
   refine xS (eqI a0n.Kind 3) (fun h2 => ?_) (fun h2 => ?_)
   ·refine xO (want_tt krf h2) krf ?_
    refine xR 1 krf ?_
    refine xC [] krf (g_p_isAttr_ok n a0n.Name) krf krf (fun _ => by kernel_rfl) (fun r3 => ?_)
    refine xR 3 krf ?_
    refine xE ?_
    exact nq_n (!r3) ⟨[1, 2, 5, 15], [2, 1001], [], []⟩ krf
   ·refine xN (want_tf krf h2) krf ?_
    refine xR 5 krf ?_
    refine xE ?_
    exact nq_n false ⟨[1, 2, 5, 15], [2, 1001], [], []⟩ krf
  ·rintro j1
   refine sC j1 krf ?_ ?_
   ·refine sR tfm ⟨[4], [1001], [], []⟩ ⟨[(4, B false)], [(1001, .box 3 [I a1left])]⟩ krf ?_
    refine sT ?_
    refine bq_r ?_
    refine sq_r ?_
    exact hq_ret (.id) [1001] [] krf krf krf krf
   ·refine sim_bind (fun j4 => ⟨[(1, .ptr 1001 0), (2, .ptr 2 0), (5, B (eqI a0n.Kind 4)), (25, B j4)], [(2, .box 74 (bxc (GNode.cs a0n))), (1001, .box 3 [I a1left])]⟩ : Bool → St) ?_ ?_
    ·refine sG ?_
     refine xR 4 krf ?_
     refine xS (eqI a0n.Kind 4) (fun h5 => ?_) (fun h5 => ?_)
     ·refine xO (want_tt krf h5) krf ?_
      refine xR 1 krf ?_
      refine xC [] krf (g_p_isArticle_ok n a0n.Name) krf krf (fun _ => by kernel_rfl) (fun r6 => ?_)
      refine xR 3 krf ?_
      refine xE ?_
      exact nq_n (!r6) ⟨[1, 2, 5, 25], [2, 1001], [], []⟩ krf
     ·refine xN (want_tf krf h5) krf ?_
      refine xR 5 krf ?_
      refine xE ?_
      exact nq_n false ⟨[1, 2, 5, 25], [2, 1001], [], []⟩ krf
    ·rintro j4
     refine sC j4 krf ?_ ?_
     ·refine sR tfm ⟨[4], [1001], [], []⟩ ⟨[(4, B false)], [(1001, .box 3 [I a1left])]⟩ krf ?_
      refine sT ?_
      refine bq_r ?_
      refine sq_r ?_
      exact hq_ret (.id) [1001] [] krf krf krf krf
     ·refine sim_bind (fun j7 => ⟨[(1, .ptr 1001 0), (2, .ptr 2 0), (5, B (eqI a0n.Kind 4)), (35, B j7)], [(2, .box 74 (bxc (GNode.cs a0n))), (1001, .box 3 [I a1left])]⟩ : Bool → St) ?_ ?_
      ·refine sG ?_
       refine xR 4 krf ?_
       refine xS (!eqI a0n.Kind 3) (fun h8 => ?_) (fun h8 => ?_)
       ·refine xO (want_tt krf h8) krf ?_
        refine xR 4 krf ?_
        refine xE ?_
        exact nq_n (!eqI a0n.Kind 4) ⟨[1, 2, 5, 35], [2, 1001], [], []⟩ krf
       ·refine xN (want_tf krf h8) krf ?_
        refine xR 4 krf ?_
        refine xE ?_
        exact nq_n false ⟨[1, 2, 5, 35], [2, 1001], [], []⟩ krf
      ·rintro j7
       refine sC j7 krf ?_ ?_
       ·refine sR tfm ⟨[4], [1001], [], []⟩ ⟨[(4, B false)], [(1001, .box 3 [I a1left])]⟩ krf ?_
        refine sT ?_
        refine bq_r ?_
        refine sq_r ?_
        exact hq_ret (.id) [1001] [] krf krf krf krf
       ·refine sK ?_
        refine bq_n ?_
        refine sN ⟨[1, 2, 5], [2, 1001], [], []⟩ ⟨[(1, .ptr 1001 0), (2, .ptr 2 0), (5, B (eqI a0n.Kind 4))], [(2, .box 74 (bxc (GNode.cs a0n))), (1001, .box 3 [I a1left])]⟩ krf ?_
        refine sR tfm ⟨[1, 2, 5], [2, 1001], [], []⟩ ⟨[(1, .ptr 1001 0), (2, .ptr 2 0), (5, B (eqI a0n.Kind 4))], [(2, .box 74 (bxc (GNode.cs a0n))), (1001, .box 3 [I (wi (a1left - (lenI (List.map idc a0n.Kids))))])]⟩ krf ?_
        refine sS ?_
        refine sR tfm ⟨[2, 5, 55], [2, 1001], [], []⟩ ⟨[(2, .ptr 2 0), (5, B (eqI a0n.Kind 4)), (55, B (ltI (wi (a1left - (lenI (List.map idc a0n.Kids)))) 0))], [(2, .box 74 (bxc (GNode.cs a0n))), (1001, .box 3 [I (wi (a1left - (lenI (List.map idc a0n.Kids))))])]⟩ krf ?_
        refine sC (ltI (wi (a1left - (lenI (List.map idc a0n.Kids)))) 0) krf ?_ ?_
        ·refine sR tfm ⟨[4], [1001], [], []⟩ ⟨[(4, B false)], [(1001, .box 3 [I (wi (a1left - (lenI (List.map idc a0n.Kids))))])]⟩ krf ?_
         refine sT ?_
         refine sq_r ?_
         exact hq_ret (.id) [1001] [] krf krf krf krf
        ·refine sK ?_
         refine sN ⟨[2, 5], [2, 1001], [], []⟩ ⟨[(2, .ptr 2 0), (5, B (eqI a0n.Kind 4))], [(2, .box 74 (bxc (GNode.cs a0n))), (1001, .box 3 [I (wi (a1left - (lenI (List.map idc a0n.Kids))))])]⟩ krf ?_
         refine sS ?_
         refine sR tfm ⟨[5, 57, 58, 59], [1001], [], []⟩ ⟨[(5, B (eqI a0n.Kind 4)), (57, .p (.sl 5 (List.map idc a0n.Kids))), (58, I (lenI (List.map idc a0n.Kids))), (59, I 0)], [(1001, .box 3 [I (wi (a1left - (lenI (List.map idc a0n.Kids))))])]⟩ krf ?_
         refine sB ?_
         refine sim_loop (fun l9 => ⟨[(5, B (eqI a0n.Kind 4)), (57, .p (.sl 5 (List.map idc a0n.Kids))), (58, I (lenI (List.map idc a0n.Kids))), (59, I l9)], [(1001, .box 3 [I (wi (a1left - (lenI (List.map idc a0n.Kids))))])]⟩ : Int → St) (weak_shr (K := ⟨[5, 57, 58, 59], [1001], [], []⟩) krf) ?_
         rintro recl9 l9
         show SimE (g_p_validPart_l9 n a0n a1left recl9 l9) _ _ _ _ _ _
         unfold g_p_validPart_l9
         refine sR tfm ⟨[5, 57, 58, 59, 60], [1001], [], []⟩ ⟨[(5, B (eqI a0n.Kind 4)), (57, .p (.sl 5 (List.map idc a0n.Kids))), (58, I (lenI (List.map idc a0n.Kids))), (59, I l9), (60, B (ltI l9 (lenI (List.map idc a0n.Kids))))], [(1001, .box 3 [I (wi (a1left - (lenI (List.map idc a0n.Kids))))])]⟩ krf ?_
         refine sS ?_
         refine sC (ltI l9 (lenI (List.map idc a0n.Kids))) krf ?_ ?_
         ·refine sK ?_
          refine sN ⟨[5, 57, 58, 59], [1001], [], []⟩ ⟨[(5, B (eqI a0n.Kind 4)), (57, .p (.sl 5 (List.map idc a0n.Kids))), (58, I (lenI (List.map idc a0n.Kids))), (59, I l9)], [(1001, .box 3 [I (wi (a1left - (lenI (List.map idc a0n.Kids))))])]⟩ krf ?_
          refine sS ?_
          refine sB ?_
          refine sS ?_
          refine sG ?_
          refine xG krf krf (aop_idxR (e := 74) (S := 5) (enc := GNode.cs) (dec := GNode.of) (l := a0n.Kids) (k := .i64) (n := l9) (sv := .p (.sl 5 (List.map idc a0n.Kids))) GNode.of_cs rfl krf krf krf krf krf) (fun x10 => ?_)
          refine xR 3 krf ?_
          refine xE ?_
          refine sN ⟨[5, 7, 57, 58, 59], [7, 1001], [], []⟩ ⟨[(5, B (eqI a0n.Kind 4)), (7, .ptr 7 0), (57, .p (.sl 5 (List.map idc a0n.Kids))), (58, I (lenI (List.map idc a0n.Kids))), (59, I l9)], [(7, .box 74 (bxc (GNode.cs x10))), (1001, .box 3 [I (wi (a1left - (lenI (List.map idc a0n.Kids))))])]⟩ krf ?_
          refine sS ?_
          refine sG ?_
          refine xR 2 krf ?_
          refine xC [] krf (g_p_validValue_ok n x10 (eqI a0n.Kind 4)) krf krf (fun _ => by kernel_rfl) (fun r11 => ?_)
          refine xR 1 krf ?_
          refine xE ?_
          refine sN ⟨[5, 57, 58, 59, 66], [1001], [], []⟩ ⟨[(5, B (eqI a0n.Kind 4)), (57, .p (.sl 5 (List.map idc a0n.Kids))), (58, I (lenI (List.map idc a0n.Kids))), (59, I l9), (66, B (!r11))], [(1001, .box 3 [I (wi (a1left - (lenI (List.map idc a0n.Kids))))])]⟩ krf ?_
          refine sC (!r11) krf ?_ ?_
          ·refine sR tfm ⟨[4], [1001], [], []⟩ ⟨[(4, B false)], [(1001, .box 3 [I (wi (a1left - (lenI (List.map idc a0n.Kids))))])]⟩ krf ?_
           refine sT ?_
           refine bq_r ?_
           refine sq_r ?_
           refine kq_r ?_
           refine bq_r ?_
           refine sq_r ?_
           exact hq_ret (.id) [1001] [] krf krf krf krf
          ·refine sK ?_
           refine bq_n ?_
           refine sN ⟨[5, 57, 58, 59], [1001], [], []⟩ ⟨[(5, B (eqI a0n.Kind 4)), (57, .p (.sl 5 (List.map idc a0n.Kids))), (58, I (lenI (List.map idc a0n.Kids))), (59, I l9)], [(1001, .box 3 [I (wi (a1left - (lenI (List.map idc a0n.Kids))))])]⟩ krf ?_
           refine sL tfm krf ?_
           exact kq_n (wi (l9 + 1)) ⟨[5, 57, 58, 59], [1001], [], []⟩ krf
         ·refine sim_exit ?_
          refine sq_x ?_
          refine kq_x ?_
          refine bq_hit ?_
          refine sN ⟨[], [1001], [], []⟩ ⟨[], [(1001, .box 3 [I (wi (a1left - (lenI (List.map idc a0n.Kids))))])]⟩ krf ?_
          refine sR tfm ⟨[4], [1001], [], []⟩ ⟨[(4, B true)], [(1001, .box 3 [I (wi (a1left - (lenI (List.map idc a0n.Kids))))])]⟩ krf ?_
          refine sT ?_
          exact hq_ret (.id) [1001] [] krf krf krf krf
def g_p_validItem_j6 (a0n : GNode) (j6_1 : Bool) (j6_2 : Int) : Option (Bool × Int) :=
 cond (!j6_1)
  (some (true, j6_2))
  (some (eqI a0n.N 7, j6_2))
def g_p_validItem_j10 (n : Nat) (l8_2 : Int) (l8_3 : Int) (recl8 : (Bool × Int × Int) → Option (Bool × Int)) (x9 : GNode) (j10 : Bool) : Option (Bool × Int) :=
 (g_p_validPart n x9 l8_3).bind fun r11 =>
 cond (!r11.1)
  (some (false, r11.2))
  (recl8 (j10, wi (l8_2 + 1), r11.2))
def g_p_validItem_l8 (n : Nat) (a0n : GNode) (recl8 : (Bool × Int × Int) → Option (Bool × Int)) (l8_1 : Bool) (l8_2 : Int) (l8_3 : Int) : Option (Bool × Int) :=
 cond (ltI l8_2 (lenI (List.map idc a0n.Kids)))
  ((Option.bind (getI a0n.Kids l8_2) GNode.of).bind fun x9 =>
  cond (eqI x9.Kind 4)
   (g_p_validItem_j10 n l8_2 l8_3 recl8 x9 true)
   (cond l8_1
    (some (false, l8_3))
    (g_p_validItem_j10 n l8_2 l8_3 recl8 x9 l8_1)))
  (g_p_validItem_j6 a0n l8_1 l8_3)
def g_p_validItem (n : Nat) (a0n : GNode) (a1left : Int) : Option (Bool × Int) :=
 (cond (!eqI a0n.Kind 2)
  (some true)
  (cond (ltI a0n.N 1)
   (some true)
   (cond (ltI 7 a0n.N)
    (some true)
    ((g_p_goodName n a0n.Name).bind fun r5 =>
    some (!r5))))).bind fun j1 =>
 cond j1
  (some (false, a1left))
  (cond (ltI (wi (a1left - (lenI (List.map idc a0n.Kids)))) 0)
   (some (false, wi (a1left - (lenI (List.map idc a0n.Kids)))))
   (loopN (fun recl8 (l8_1, l8_2, l8_3) => g_p_validItem_l8 n a0n recl8 l8_1 l8_2 l8_3) n (false, 0, wi (a1left - (lenI (List.map idc a0n.Kids))))))
theorem g_p_validItem_ok (n : Nat) (a0n : GNode) (a1left : Int) : ∀ r, g_p_validItem n a0n a1left = some r → ACall Try.prog 70 [ag (GNode.cs a0n), .ptr 1001 0] (Go.Abs.look [(1001, .box 3 [I a1left])]) (heapR (fun r : Bool × Int => ((.ret (B r.1), [(1001, .box 3 [I r.2])]) : AEnd × List (Nat × Blk))) r) := by
 refine acall_sim (X := fun r : Bool × Int => ((.ret (B r.1), [(1001, .box 3 [I r.2])]) : AEnd × List (Nat × Blk))) [(1001, .box 3 [I a1left])] Try.func70 rfl Try.ntmps70 rfl ?_
 unfold g_p_validItem
 refine sR tfm ⟨[1, 2], [2, 1001], [], []⟩ ⟨[(1, .ptr 1001 0), (2, .ptr 2 0)], [(2, .box 74 (bxc (GNode.cs a0n))), (1001, .box 3 [I a1left])]⟩ krf ?_
 refine sS ?_
 refine sim_bind (fun j1 => ⟨[(1, .ptr 1001 0), (2, .ptr 2 0), (26, B j1)], [(2, .box 74 (bxc (GNode.cs a0n))), (1001, .box 3 [I a1left])]⟩ : Bool → St) ?_ ?_
 ·refine sG ?_
  refine xR 4 krf ?_
  refine xS (!eqI a0n.Kind 2) (fun h2 => ?_) (fun h2 => ?_)
  ·refine xN (want_ft krf h2) krf ?_
   refine xR 14 krf ?_
   refine xE ?_
   exact nq_n true ⟨[1, 2, 26], [2, 1001], [], []⟩ krf
  ·refine xO (want_ff krf h2) krf ?_
   refine xR 4 krf ?_
   refine xS (ltI a0n.N 1) (fun h3 => ?_) (fun h3 => ?_)
   ·refine xN (want_ft krf h3) krf ?_
    refine xR 9 krf ?_
    refine xE ?_
    exact nq_n true ⟨[1, 2, 26], [2, 1001], [], []⟩ krf
   ·refine xO (want_ff krf h3) krf ?_
    refine xR 4 krf ?_
    refine xS (ltI 7 a0n.N) (fun h4 => ?_) (fun h4 => ?_)
    ·refine xN (want_ft krf h4) krf ?_
     refine xR 4 krf ?_
     refine xE ?_
     exact nq_n true ⟨[1, 2, 26], [2, 1001], [], []⟩ krf
    ·refine xO (want_ff krf h4) krf ?_
     refine xR 1 krf ?_
     refine xC [] krf (g_p_goodName_ok n a0n.Name) krf krf (fun _ => by kernel_rfl) (fun r5 => ?_)
     refine xR 2 krf ?_
     refine xE ?_
     exact nq_n (!r5) ⟨[1, 2, 26], [2, 1001], [], []⟩ krf
 ·rintro j1
  refine sC j1 krf ?_ ?_
  ·refine sR tfm ⟨[4], [1001], [], []⟩ ⟨[(4, B false)], [(1001, .box 3 [I a1left])]⟩ krf ?_
   refine sT ?_
   refine sq_r ?_
   exact hq_ret (.id) [1001] [] krf krf krf krf
  ·refine sK ?_
   refine sN ⟨[1, 2], [2, 1001], [], []⟩ ⟨[(1, .ptr 1001 0), (2, .ptr 2 0)], [(2, .box 74 (bxc (GNode.cs a0n))), (1001, .box 3 [I a1left])]⟩ krf ?_
   refine sR tfm ⟨[1, 2], [2, 1001], [], []⟩ ⟨[(1, .ptr 1001 0), (2, .ptr 2 0)], [(2, .box 74 (bxc (GNode.cs a0n))), (1001, .box 3 [I (wi (a1left - (lenI (List.map idc a0n.Kids))))])]⟩ krf ?_
   refine sS ?_
   refine sR tfm ⟨[1, 2, 38], [2, 1001], [], []⟩ ⟨[(1, .ptr 1001 0), (2, .ptr 2 0), (38, B (ltI (wi (a1left - (lenI (List.map idc a0n.Kids)))) 0))], [(2, .box 74 (bxc (GNode.cs a0n))), (1001, .box 3 [I (wi (a1left - (lenI (List.map idc a0n.Kids))))])]⟩ krf ?_
   refine sC (ltI (wi (a1left - (lenI (List.map idc a0n.Kids)))) 0) krf ?_ ?_
   ·refine sR tfm ⟨[4], [1001], [], []⟩ ⟨[(4, B false)], [(1001, .box 3 [I (wi (a1left - (lenI (List.map idc a0n.Kids))))])]⟩ krf ?_
    refine sT ?_
    refine sq_r ?_
    exact hq_ret (.id) [1001] [] krf krf krf krf
   ·refine sK ?_
    refine sN ⟨[1, 2], [2, 1001], [], []⟩ ⟨[(1, .ptr 1001 0), (2, .ptr 2 0)], [(2, .box 74 (bxc (GNode.cs a0n))), (1001, .box 3 [I (wi (a1left - (lenI (List.map idc a0n.Kids))))])]⟩ krf ?_
    refine sR tfm ⟨[1, 2, 5], [2, 1001], [], []⟩ ⟨[(1, .ptr 1001 0), (2, .ptr 2 0), (5, B false)], [(2, .box 74 (bxc (GNode.cs a0n))), (1001, .box 3 [I (wi (a1left - (lenI (List.map idc a0n.Kids))))])]⟩ krf ?_
    refine sim_cps (fun (j6_1, j6_2) => ⟨[(2, .ptr 2 0), (5, B j6_1)], [(2, .box 74 (bxc (GNode.cs a0n))), (1001, .box 3 [I j6_2])]⟩ : (Bool × Int) → St) (fun (j6_1, j6_2) => g_p_validItem_j6 a0n j6_1 j6_2) ?_ ?_
    ·rintro ⟨j6_1, j6_2⟩
     show SimE (g_p_validItem_j6 a0n j6_1 j6_2) _ _ _ _ _ _
     unfold g_p_validItem_j6
     refine sS ?_
     refine sG ?_
     refine xR 3 krf ?_
     refine xS (!j6_1) (fun h7 => ?_) (fun h7 => ?_)
     ·refine xN (want_ft krf h7) krf ?_
      refine xR 4 krf ?_
      refine xE ?_
      refine sN ⟨[4], [1001], [], []⟩ ⟨[(4, B true)], [(1001, .box 3 [I j6_2])]⟩ krf ?_
      refine sT ?_
      exact hq_ret (.id) [1001] [] krf krf krf krf
     ·refine xO (want_ff krf h7) krf ?_
      refine xR 4 krf ?_
      refine xE ?_
      refine sN ⟨[4], [1001], [], []⟩ ⟨[(4, B (eqI a0n.N 7))], [(1001, .box 3 [I j6_2])]⟩ krf ?_
      refine sT ?_
      exact hq_ret (.id) [1001] [] krf krf krf krf
    ·refine sR tfm ⟨[1, 2, 5, 40, 41, 42], [2, 1001], [], []⟩ ⟨[(1, .ptr 1001 0), (2, .ptr 2 0), (5, B false), (40, .p (.sl 5 (List.map idc a0n.Kids))), (41, I (lenI (List.map idc a0n.Kids))), (42, I 0)], [(2, .box 74 (bxc (GNode.cs a0n))), (1001, .box 3 [I (wi (a1left - (lenI (List.map idc a0n.Kids))))])]⟩ krf ?_
     refine sB ?_
     refine sim_loop (fun (l8_1, l8_2, l8_3) => ⟨[(1, .ptr 1001 0), (2, .ptr 2 0), (5, B l8_1), (40, .p (.sl 5 (List.map idc a0n.Kids))), (41, I (lenI (List.map idc a0n.Kids))), (42, I l8_2)], [(2, .box 74 (bxc (GNode.cs a0n))), (1001, .box 3 [I l8_3])]⟩ : (Bool × Int × Int) → St) (weak_shr (K := ⟨[1, 2, 5, 40, 41, 42], [2, 1001], [], []⟩) krf) ?_
     rintro recl8 ⟨l8_1, l8_2, l8_3⟩
     show SimE (g_p_validItem_l8 n a0n recl8 l8_1 l8_2 l8_3) _ _ _ _ _ _
     unfold g_p_validItem_l8
     refine sR tfm ⟨[1, 2, 5, 40, 41, 42, 43], [2, 1001], [], []⟩ ⟨[(1, .ptr 1001 0), (2, .ptr 2 0), (5, B l8_1), (40, .p (.sl 5 (List.map idc a0n.Kids))), (41, I (lenI (List.map idc a0n.Kids))), (42, I l8_2), (43, B (ltI l8_2 (lenI (List.map idc a0n.Kids))))], [(2, .box 74 (bxc (GNode.cs a0n))), (1001, .box 3 [I l8_3])]⟩ krf ?_
     refine sS ?_
     refine sC (ltI l8_2 (lenI (List.map idc a0n.Kids))) krf ?_ ?_
     ·refine sK ?_
      refine sN ⟨[1, 2, 5, 40, 41, 42], [2, 1001], [], []⟩ ⟨[(1, .ptr 1001 0), (2, .ptr 2 0), (5, B l8_1), (40, .p (.sl 5 (List.map idc a0n.Kids))), (41, I (lenI (List.map idc a0n.Kids))), (42, I l8_2)], [(2, .box 74 (bxc (GNode.cs a0n))), (1001, .box 3 [I l8_3])]⟩ krf ?_
      refine sS ?_
      refine sB ?_
      refine sS ?_
      refine sG ?_
      refine xG krf krf (aop_idxR (e := 74) (S := 5) (enc := GNode.cs) (dec := GNode.of) (l := a0n.Kids) (k := .i64) (n := l8_2) (sv := .p (.sl 5 (List.map idc a0n.Kids))) GNode.of_cs rfl krf krf krf krf krf) (fun x9 => ?_)
      refine xR 3 krf ?_
      refine xE ?_
      refine sN ⟨[1, 2, 5, 7, 40, 41, 42], [2, 7, 1001], [], []⟩ ⟨[(1, .ptr 1001 0), (2, .ptr 2 0), (5, B l8_1), (7, .ptr 7 0), (40, .p (.sl 5 (List.map idc a0n.Kids))), (41, I (lenI (List.map idc a0n.Kids))), (42, I l8_2)], [(2, .box 74 (bxc (GNode.cs a0n))), (7, .box 74 (bxc (GNode.cs x9))), (1001, .box 3 [I l8_3])]⟩ krf ?_
      refine sim_cps (fun j10 => ⟨[(1, .ptr 1001 0), (2, .ptr 2 0), (5, B j10), (7, .ptr 7 0), (40, .p (.sl 5 (List.map idc a0n.Kids))), (41, I (lenI (List.map idc a0n.Kids))), (42, I l8_2)], [(2, .box 74 (bxc (GNode.cs a0n))), (7, .box 74 (bxc (GNode.cs x9))), (1001, .box 3 [I l8_3])]⟩ : Bool → St) (fun j10 => g_p_validItem_j10 n l8_2 l8_3 recl8 x9 j10) ?_ ?_
      ·rintro j10
       show SimE (g_p_validItem_j10 n l8_2 l8_3 recl8 x9 j10) _ _ _ _ _ _
       unfold g_p_validItem_j10
       refine sS ?_
       refine sG ?_
       refine xR 2 krf ?_
       refine xs_heap [(1001, 1001)] [] [] krf (g_p_validPart_ok n x9 l8_3) krf krf krf (fun _ => by kernel_rfl) (fun _ => by kernel_rfl) (fun r11 => ?_)
       refine xR 1 krf ?_
       refine xE ?_
       refine sN ⟨[1, 2, 5, 40, 41, 42, 53], [2, 1001], [], []⟩ ⟨[(1, .ptr 1001 0), (2, .ptr 2 0), (5, B j10), (40, .p (.sl 5 (List.map idc a0n.Kids))), (41, I (lenI (List.map idc a0n.Kids))), (42, I l8_2), (53, B (!r11.1))], [(2, .box 74 (bxc (GNode.cs a0n))), (1001, .box 3 [I r11.2])]⟩ krf ?_
       refine sC (!r11.1) krf ?_ ?_
       ·refine sR tfm ⟨[4], [1001], [], []⟩ ⟨[(4, B false)], [(1001, .box 3 [I r11.2])]⟩ krf ?_
        refine sT ?_
        refine bq_r ?_
        refine sq_r ?_
        refine kq_r ?_
        refine bq_r ?_
        refine kq_r ?_
        exact hq_ret (.id) [1001] [] krf krf krf krf
       ·refine sK ?_
        refine bq_n ?_
        refine sN ⟨[1, 2, 5, 40, 41, 42], [2, 1001], [], []⟩ ⟨[(1, .ptr 1001 0), (2, .ptr 2 0), (5, B j10), (40, .p (.sl 5 (List.map idc a0n.Kids))), (41, I (lenI (List.map idc a0n.Kids))), (42, I l8_2)], [(2, .box 74 (bxc (GNode.cs a0n))), (1001, .box 3 [I r11.2])]⟩ krf ?_
        refine sL tfm krf ?_
        exact kq_n (j10, wi (l8_2 + 1), r11.2) ⟨[1, 2, 5, 40, 41, 42], [2, 1001], [], []⟩ krf
      ·refine sR tfm ⟨[1, 2, 5, 7, 40, 41, 42, 48], [2, 7, 1001], [], []⟩ ⟨[(1, .ptr 1001 0), (2, .ptr 2 0), (5, B l8_1), (7, .ptr 7 0), (40, .p (.sl 5 (List.map idc a0n.Kids))), (41, I (lenI (List.map idc a0n.Kids))), (42, I l8_2), (48, B (eqI x9.Kind 4))], [(2, .box 74 (bxc (GNode.cs a0n))), (7, .box 74 (bxc (GNode.cs x9))), (1001, .box 3 [I l8_3])]⟩ krf ?_
       refine sC (eqI x9.Kind 4) krf ?_ ?_
       ·refine sL tfm krf ?_
        exact kq_n (k := fun j10 => g_p_validItem_j10 n l8_2 l8_3 recl8 x9 j10) true ⟨[1, 2, 5, 7, 40, 41, 42], [2, 7, 1001], [], []⟩ krf
       ·refine sR tfm ⟨[1, 2, 5, 7, 40, 41, 42, 49], [2, 7, 1001], [], []⟩ ⟨[(1, .ptr 1001 0), (2, .ptr 2 0), (5, B l8_1), (7, .ptr 7 0), (40, .p (.sl 5 (List.map idc a0n.Kids))), (41, I (lenI (List.map idc a0n.Kids))), (42, I l8_2), (49, B l8_1)], [(2, .box 74 (bxc (GNode.cs a0n))), (7, .box 74 (bxc (GNode.cs x9))), (1001, .box 3 [I l8_3])]⟩ krf ?_
        refine sC l8_1 krf ?_ ?_
        ·refine sR tfm ⟨[4], [1001], [], []⟩ ⟨[(4, B false)], [(1001, .box 3 [I l8_3])]⟩ krf ?_
         refine sT ?_
         refine kq_r ?_
         refine bq_r ?_
         refine sq_r ?_
         refine kq_r ?_
         refine bq_r ?_
         refine kq_r ?_
         exact hq_ret (.id) [1001] [] krf krf krf krf
        ·refine sK ?_
         exact kq_n (k := fun j10 => g_p_validItem_j10 n l8_2 l8_3 recl8 x9 j10) l8_1 ⟨[1, 2, 5, 7, 40, 41, 42], [2, 7, 1001], [], []⟩ krf
     ·refine sim_exit ?_
      refine sq_x ?_
      refine kq_x ?_
      refine bq_hit ?_
      exact kq_n (k := fun (j6_1, j6_2) => g_p_validItem_j6 a0n j6_1 j6_2) (l8_1, l8_3) ⟨[2, 5], [2, 1001], [], []⟩ krf
def g_p_Valid_l5 (n : Nat) (a0n : GNode) (recl5 : (Int × Int) → Option Bool) (l5_1 : Int) (l5_2 : Int) : Option Bool :=
 cond (ltI l5_1 (lenI (List.map idc a0n.Kids)))
  ((Option.bind (getI a0n.Kids l5_1) GNode.of).bind fun x6 =>
  (g_p_validItem n x6 l5_2).bind fun r7 =>
  cond (!r7.1)
   (some false)
   (recl5 (wi (l5_1 + 1), r7.2)))
  (some true)
def g_p_Valid (n : Nat) (a0n : GNode) : Option Bool :=
 (cond (!eqI a0n.Kind 1)
  (some true)
  (cond (!eqS a0n.Name [])
   (some true)
   (cond (!eqI a0n.N 0)
    (some true)
    (some (ltI (wi (1499 - (lenI (List.map idc a0n.Kids)))) 0))))).bind fun j1 =>
 cond j1
  (some false)
  (loopN (fun recl5 (l5_1, l5_2) => g_p_Valid_l5 n a0n recl5 l5_1 l5_2) n (0, wi (1499 - (lenI (List.map idc a0n.Kids)))))
theorem g_p_Valid_ok (n : Nat) (a0n : GNode) : ∀ r, g_p_Valid n a0n = some r → PCall Try.prog 39 [ag (GNode.cs a0n)] (.ret (B r)) := by
 refine pcall_sim (X := fun r : Bool => AEnd.ret (B r)) Try.func39 rfl Try.ntmps39 rfl ?_
 unfold g_p_Valid
 refine sR tfm ⟨[1], [1], [], []⟩ ⟨[(1, .ptr 1 0)], [(1, .box 74 (bxc (GNode.cs a0n)))]⟩ krf ?_
 refine sR tfm ⟨[1, 3], [1, 3], [], []⟩ ⟨[(1, .ptr 1 0), (3, .ptr 3 0)], [(1, .box 74 (bxc (GNode.cs a0n))), (3, .box 3 [I (wi (1499 - (lenI (List.map idc a0n.Kids))))])]⟩ krf ?_
 refine sS ?_
 refine sim_bind (fun j1 => ⟨[(1, .ptr 1 0), (3, .ptr 3 0), (26, B j1)], [(1, .box 74 (bxc (GNode.cs a0n))), (3, .box 3 [I (wi (1499 - (lenI (List.map idc a0n.Kids))))])]⟩ : Bool → St) ?_ ?_
 ·refine sG ?_
  refine xR 4 krf ?_
  refine xS (!eqI a0n.Kind 1) (fun h2 => ?_) (fun h2 => ?_)
  ·refine xN (want_ft krf h2) krf ?_
   refine xR 12 krf ?_
   refine xE ?_
   exact nq_n true ⟨[1, 3, 26], [1, 3], [], []⟩ krf
  ·refine xO (want_ff krf h2) krf ?_
   refine xR 4 krf ?_
   refine xS (!eqS a0n.Name []) (fun h3 => ?_) (fun h3 => ?_)
   ·refine xN (want_ft krf h3) krf ?_
    refine xR 7 krf ?_
    refine xE ?_
    exact nq_n true ⟨[1, 3, 26], [1, 3], [], []⟩ krf
   ·refine xO (want_ff krf h3) krf ?_
    refine xR 4 krf ?_
    refine xS (!eqI a0n.N 0) (fun h4 => ?_) (fun h4 => ?_)
    ·refine xN (want_ft krf h4) krf ?_
     refine xR 2 krf ?_
     refine xE ?_
     exact nq_n true ⟨[1, 3, 26], [1, 3], [], []⟩ krf
    ·refine xO (want_ff krf h4) krf ?_
     refine xR 2 krf ?_
     refine xE ?_
     exact nq_n (ltI (wi (1499 - (lenI (List.map idc a0n.Kids)))) 0) ⟨[1, 3, 26], [1, 3], [], []⟩ krf
 ·rintro j1
  refine sC j1 krf ?_ ?_
  ·refine sR tfm ⟨[2], [], [], []⟩ ⟨[(2, B false)], []⟩ krf ?_
   refine sT ?_
   refine sq_r ?_
   exact qR (.id) krf krf krf
  ·refine sK ?_
   refine sN ⟨[1, 3], [1, 3], [], []⟩ ⟨[(1, .ptr 1 0), (3, .ptr 3 0)], [(1, .box 74 (bxc (GNode.cs a0n))), (3, .box 3 [I (wi (1499 - (lenI (List.map idc a0n.Kids))))])]⟩ krf ?_
   refine sS ?_
   refine sR tfm ⟨[3, 28, 29, 30], [3], [], []⟩ ⟨[(3, .ptr 3 0), (28, .p (.sl 5 (List.map idc a0n.Kids))), (29, I (lenI (List.map idc a0n.Kids))), (30, I 0)], [(3, .box 3 [I (wi (1499 - (lenI (List.map idc a0n.Kids))))])]⟩ krf ?_
   refine sB ?_
   refine sim_loop (fun (l5_1, l5_2) => ⟨[(3, .ptr 3 0), (28, .p (.sl 5 (List.map idc a0n.Kids))), (29, I (lenI (List.map idc a0n.Kids))), (30, I l5_1)], [(3, .box 3 [I l5_2])]⟩ : (Int × Int) → St) (weak_shr (K := ⟨[3, 28, 29, 30], [3], [], []⟩) krf) ?_
   rintro recl5 ⟨l5_1, l5_2⟩
   show SimE (g_p_Valid_l5 n a0n recl5 l5_1 l5_2) _ _ _ _ _ _
   unfold g_p_Valid_l5
   refine sR tfm ⟨[3, 28, 29, 30, 31], [3], [], []⟩ ⟨[(3, .ptr 3 0), (28, .p (.sl 5 (List.map idc a0n.Kids))), (29, I (lenI (List.map idc a0n.Kids))), (30, I l5_1), (31, B (ltI l5_1 (lenI (List.map idc a0n.Kids))))], [(3, .box 3 [I l5_2])]⟩ krf ?_
   refine sS ?_
   refine sC (ltI l5_1 (lenI (List.map idc a0n.Kids))) krf ?_ ?_
   ·refine sK ?_
    refine sN ⟨[3, 28, 29, 30], [3], [], []⟩ ⟨[(3, .ptr 3 0), (28, .p (.sl 5 (List.map idc a0n.Kids))), (29, I (lenI (List.map idc a0n.Kids))), (30, I l5_1)], [(3, .box 3 [I l5_2])]⟩ krf ?_
    refine sS ?_
    refine sB ?_
    refine sS ?_
    refine sG ?_
    refine xG krf krf (aop_idxR (e := 74) (S := 5) (enc := GNode.cs) (dec := GNode.of) (l := a0n.Kids) (k := .i64) (n := l5_1) (sv := .p (.sl 5 (List.map idc a0n.Kids))) GNode.of_cs rfl krf krf krf krf krf) (fun x6 => ?_)
    refine xR 3 krf ?_
    refine xE ?_
    refine sN ⟨[3, 5, 28, 29, 30], [3, 5], [], []⟩ ⟨[(3, .ptr 3 0), (5, .ptr 5 0), (28, .p (.sl 5 (List.map idc a0n.Kids))), (29, I (lenI (List.map idc a0n.Kids))), (30, I l5_1)], [(3, .box 3 [I l5_2]), (5, .box 74 (bxc (GNode.cs x6)))]⟩ krf ?_
    refine sS ?_
    refine sG ?_
    refine xR 1 krf ?_
    refine xs_heap [(1001, 3)] [] [] krf (g_p_validItem_ok n x6 l5_2) krf krf krf (fun _ => by kernel_rfl) (fun _ => by kernel_rfl) (fun r7 => ?_)
    refine xR 1 krf ?_
    refine xE ?_
    refine sN ⟨[3, 28, 29, 30, 36], [3], [], []⟩ ⟨[(3, .ptr 3 0), (28, .p (.sl 5 (List.map idc a0n.Kids))), (29, I (lenI (List.map idc a0n.Kids))), (30, I l5_1), (36, B (!r7.1))], [(3, .box 3 [I r7.2])]⟩ krf ?_
    refine sC (!r7.1) krf ?_ ?_
    ·refine sR tfm ⟨[2], [], [], []⟩ ⟨[(2, B false)], []⟩ krf ?_
     refine sT ?_
     refine bq_r ?_
     refine sq_r ?_
     refine kq_r ?_
     refine bq_r ?_
     refine sq_r ?_
     exact qR (.id) krf krf krf
    ·refine sK ?_
     refine bq_n ?_
     refine sN ⟨[3, 28, 29, 30], [3], [], []⟩ ⟨[(3, .ptr 3 0), (28, .p (.sl 5 (List.map idc a0n.Kids))), (29, I (lenI (List.map idc a0n.Kids))), (30, I l5_1)], [(3, .box 3 [I r7.2])]⟩ krf ?_
     refine sL tfm krf ?_
     exact kq_n (wi (l5_1 + 1), r7.2) ⟨[3, 28, 29, 30], [3], [], []⟩ krf
   ·refine sim_exit ?_
    refine sq_x ?_
    refine kq_x ?_
    refine bq_hit ?_
    refine sN ⟨[], [], [], []⟩ ⟨[], []⟩ krf ?_
    refine sR tfm ⟨[2], [], [], []⟩ ⟨[(2, B true)], []⟩ krf ?_
    refine sT ?_
    exact qR (.id) krf krf krf
def g_t_inside (n : Nat) (a0n : Int) (a1least : Int) (a2greatest : Int) : Option Bool :=
 cond (leI a1least a0n)
  (some (leI a0n a2greatest))
  (some false)
theorem g_t_inside_ok (n : Nat) (a0n : Int) (a1least : Int) (a2greatest : Int) : ∀ r, g_t_inside n a0n a1least a2greatest = some r → PCall Try.prog 71 [I a0n, I a1least, I a2greatest] (.ret (B r)) := by
 refine pcall_sim (X := fun r : Bool => AEnd.ret (B r)) Try.func71 rfl Try.ntmps71 rfl ?_
 unfold g_t_inside
 refine sR tfm ⟨[0, 1, 2], [], [], []⟩ ⟨[(0, I a0n), (1, I a1least), (2, I a2greatest)], []⟩ krf ?_
 refine sS ?_
 refine sG ?_
 refine xR 4 krf ?_
 refine xS (leI a1least a0n) (fun h1 => ?_) (fun h1 => ?_)
 ·refine xO (want_tt krf h1) krf ?_
  refine xR 4 krf ?_
  refine xE ?_
  refine sN ⟨[6], [], [], []⟩ ⟨[(6, B (leI a0n a2greatest))], []⟩ krf ?_
  refine sT ?_
  exact qR (.id) krf krf krf
 ·refine xN (want_tf krf h1) krf ?_
  refine xR 4 krf ?_
  refine xE ?_
  refine sN ⟨[6], [], [], []⟩ ⟨[(6, B false)], []⟩ krf ?_
  refine sT ?_
  exact qR (.id) krf krf krf
def g_t_isWhole (n : Nat) (a0kind : Int) : Option Bool :=
 cond (eqI a0kind 5)
  (some true)
  (some (eqI a0kind 6))
theorem g_t_isWhole_ok (n : Nat) (a0kind : Int) : ∀ r, g_t_isWhole n a0kind = some r → PCall Try.prog 72 [I a0kind] (.ret (B r)) := by
 refine pcall_sim (X := fun r : Bool => AEnd.ret (B r)) Try.func72 rfl Try.ntmps72 rfl ?_
 unfold g_t_isWhole
 refine sR tfm ⟨[0], [], [], []⟩ ⟨[(0, I a0kind)], []⟩ krf ?_
 refine sS ?_
 refine sG ?_
 refine xR 3 krf ?_
 refine xS (eqI a0kind 5) (fun h1 => ?_) (fun h1 => ?_)
 ·refine xN (want_ft krf h1) krf ?_
  refine xR 3 krf ?_
  refine xE ?_
  refine sN ⟨[2], [], [], []⟩ ⟨[(2, B true)], []⟩ krf ?_
  refine sT ?_
  exact qR (.id) krf krf krf
 ·refine xO (want_ff krf h1) krf ?_
  refine xR 3 krf ?_
  refine xE ?_
  refine sN ⟨[2], [], [], []⟩ ⟨[(2, B (eqI a0kind 6))], []⟩ krf ?_
  refine sT ?_
  exact qR (.id) krf krf krf
def g_t_isTime (n : Nat) (a0kind : Int) : Option Bool :=
 cond (eqI a0kind 3)
  (some true)
  (some (eqI a0kind 4))
theorem g_t_isTime_ok (n : Nat) (a0kind : Int) : ∀ r, g_t_isTime n a0kind = some r → PCall Try.prog 73 [I a0kind] (.ret (B r)) := by
 refine pcall_sim (X := fun r : Bool => AEnd.ret (B r)) Try.func73 rfl Try.ntmps73 rfl ?_
 unfold g_t_isTime
 refine sR tfm ⟨[0], [], [], []⟩ ⟨[(0, I a0kind)], []⟩ krf ?_
 refine sS ?_
 refine sG ?_
 refine xR 3 krf ?_
 refine xS (eqI a0kind 3) (fun h1 => ?_) (fun h1 => ?_)
 ·refine xN (want_ft krf h1) krf ?_
  refine xR 3 krf ?_
  refine xE ?_
  refine sN ⟨[2], [], [], []⟩ ⟨[(2, B true)], []⟩ krf ?_
  refine sT ?_
  exact qR (.id) krf krf krf
 ·refine xO (want_ff krf h1) krf ?_
  refine xR 3 krf ?_
  refine xE ?_
  refine sN ⟨[2], [], [], []⟩ ⟨[(2, B (eqI a0kind 4))], []⟩ krf ?_
  refine sT ?_
  exact qR (.id) krf krf krf
def g_t_validArticle (n : Nat) (a0a : GAr) : Option Bool :=
 ((g_t_inside n a0a.Kind 1 6).bind fun r2 =>
 cond (!r2)
  (some true)
  ((g_t_inside n a0a.From 0 1439).bind fun r4 =>
  cond (!r4)
   (some true)
   ((g_t_inside n a0a.To (wi (a0a.From + 1)) 1440).bind fun r6 =>
   cond (!r6)
    (some true)
    ((g_t_inside n a0a.Days 1 7).bind fun r8 =>
    some (!r8))))).bind fun j1 =>
 cond j1
  (some false)
  (((g_t_isWhole n a0a.Kind).bind fun r10 =>
  cond r10
   (cond (!eqI a0a.From 0)
    (some true)
    (cond (!eqI a0a.To 1440)
     (some true)
     (some (!eqI a0a.Days 7))))
   (some false)).bind fun j9 =>
  cond j9
   (some false)
   ((cond (eqI a0a.Kind 6)
    (some 10000)
    (some 1000000)).bind fun j14 =>
   (g_t_inside n a0a.Price 0 j14).bind fun r15 =>
   cond (!r15)
    (some false)
    ((g_t_isTime n a0a.Kind).bind fun r16 =>
    cond r16
     (((g_t_inside n a0a.Unit 1 1440).bind fun r18 =>
     cond r18
      ((g_t_inside n a0a.Free 0 1440).bind fun r20 =>
      some r20)
      (some false)).bind fun j17 =>
     some j17)
     (cond (eqI a0a.Unit 0)
      (some (eqI a0a.Free 0))
      (some false)))))
theorem g_t_validArticle_ok (n : Nat) (a0a : GAr) : ∀ r, g_t_validArticle n a0a = some r → PCall Try.prog 40 [ag (GAr.cs a0a)] (.ret (B r)) := by
 refine pcall_sim (X := fun r : Bool => AEnd.ret (B r)) Try.func40 rfl Try.ntmps40 rfl ?_
 unfold g_t_validArticle
 refine sR tfm ⟨[1], [1], [], []⟩ ⟨[(1, .ptr 1 0)], [(1, .box 44 (bxc (GAr.cs a0a)))]⟩ krf ?_
 refine sS ?_
 refine sim_bind (fun j1 => ⟨[(1, .ptr 1 0), (28, B j1)], [(1, .box 44 (bxc (GAr.cs a0a)))]⟩ : Bool → St) ?_ ?_
 ·refine sG ?_
  refine xR 2 krf ?_
  refine xC [] krf (g_t_inside_ok n a0a.Kind 1 6) krf krf (fun _ => by kernel_rfl) (fun r2 => ?_)
  refine xR 2 krf ?_
  refine xS (!r2) (fun h3 => ?_) (fun h3 => ?_)
  ·refine xN (want_ft krf h3) krf ?_
   refine xR 19 krf ?_
   refine xE ?_
   exact nq_n true ⟨[1, 28], [1], [], []⟩ krf
  ·refine xO (want_ff krf h3) krf ?_
   refine xR 1 krf ?_
   refine xC [] krf (g_t_inside_ok n a0a.From 0 1439) krf krf (fun _ => by kernel_rfl) (fun r4 => ?_)
   refine xR 3 krf ?_
   refine xS (!r4) (fun h5 => ?_) (fun h5 => ?_)
   ·refine xN (want_ft krf h5) krf ?_
    refine xR 13 krf ?_
    refine xE ?_
    exact nq_n true ⟨[1, 28], [1], [], []⟩ krf
   ·refine xO (want_ff krf h5) krf ?_
    refine xR 4 krf ?_
    refine xC [] krf (g_t_inside_ok n a0a.To (wi (a0a.From + 1)) 1440) krf krf (fun _ => by kernel_rfl) (fun r6 => ?_)
    refine xR 3 krf ?_
    refine xS (!r6) (fun h7 => ?_) (fun h7 => ?_)
    ·refine xN (want_ft krf h7) krf ?_
     refine xR 4 krf ?_
     refine xE ?_
     exact nq_n true ⟨[1, 28], [1], [], []⟩ krf
    ·refine xO (want_ff krf h7) krf ?_
     refine xR 1 krf ?_
     refine xC [] krf (g_t_inside_ok n a0a.Days 1 7) krf krf (fun _ => by kernel_rfl) (fun r8 => ?_)
     refine xR 2 krf ?_
     refine xE ?_
     exact nq_n (!r8) ⟨[1, 28], [1], [], []⟩ krf
 ·rintro j1
  refine sC j1 krf ?_ ?_
  ·refine sR tfm ⟨[2], [], [], []⟩ ⟨[(2, B false)], []⟩ krf ?_
   refine sT ?_
   refine sq_r ?_
   exact qR (.id) krf krf krf
  ·refine sK ?_
   refine sN ⟨[1], [1], [], []⟩ ⟨[(1, .ptr 1 0)], [(1, .box 44 (bxc (GAr.cs a0a)))]⟩ krf ?_
   refine sS ?_
   refine sim_bind (fun j9 => ⟨[(1, .ptr 1 0), (46, B j9)], [(1, .box 44 (bxc (GAr.cs a0a)))]⟩ : Bool → St) ?_ ?_
   ·refine sG ?_
    refine xR 2 krf ?_
    refine xC [] krf (g_t_isWhole_ok n a0a.Kind) krf krf (fun _ => by kernel_rfl) (fun r10 => ?_)
    refine xR 1 krf ?_
    refine xS r10 (fun h11 => ?_) (fun h11 => ?_)
    ·refine xO (want_tt krf h11) krf ?_
     refine xR 3 krf ?_
     refine xS (!eqI a0a.From 0) (fun h12 => ?_) (fun h12 => ?_)
     ·refine xN (want_ft krf h12) krf ?_
      refine xR 9 krf ?_
      refine xE ?_
      exact nq_n true ⟨[1, 46], [1], [], []⟩ krf
     ·refine xO (want_ff krf h12) krf ?_
      refine xR 4 krf ?_
      refine xS (!eqI a0a.To 1440) (fun h13 => ?_) (fun h13 => ?_)
      ·refine xN (want_ft krf h13) krf ?_
       refine xR 4 krf ?_
       refine xE ?_
       exact nq_n true ⟨[1, 46], [1], [], []⟩ krf
      ·refine xO (want_ff krf h13) krf ?_
       refine xR 4 krf ?_
       refine xE ?_
       exact nq_n (!eqI a0a.Days 7) ⟨[1, 46], [1], [], []⟩ krf
    ·refine xN (want_tf krf h11) krf ?_
     refine xR 13 krf ?_
     refine xE ?_
     exact nq_n false ⟨[1, 46], [1], [], []⟩ krf
   ·rintro j9
    refine sC j9 krf ?_ ?_
    ·refine sR tfm ⟨[2], [], [], []⟩ ⟨[(2, B false)], []⟩ krf ?_
     refine sT ?_
     refine sq_r ?_
     exact qR (.id) krf krf krf
    ·refine sK ?_
     refine sN ⟨[1], [1], [], []⟩ ⟨[(1, .ptr 1 0)], [(1, .box 44 (bxc (GAr.cs a0a)))]⟩ krf ?_
     refine sR tfm ⟨[1, 3], [1], [], []⟩ ⟨[(1, .ptr 1 0), (3, I 1000000)], [(1, .box 44 (bxc (GAr.cs a0a)))]⟩ krf ?_
     refine sim_bind (fun j14 => ⟨[(1, .ptr 1 0), (3, I j14)], [(1, .box 44 (bxc (GAr.cs a0a)))]⟩ : Int → St) ?_ ?_
     ·refine sR tfm ⟨[1, 3, 49], [1], [], []⟩ ⟨[(1, .ptr 1 0), (3, I 1000000), (49, B (eqI a0a.Kind 6))], [(1, .box 44 (bxc (GAr.cs a0a)))]⟩ krf ?_
      refine sC (eqI a0a.Kind 6) krf ?_ ?_
      ·refine sL tfm krf ?_
       exact nq_n 10000 ⟨[1, 3], [1], [], []⟩ krf
      ·refine sK ?_
       exact nq_n 1000000 ⟨[1, 3], [1], [], []⟩ krf
     ·rintro j14
      refine sS ?_
      refine sS ?_
      refine sG ?_
      refine xR 3 krf ?_
      refine xC [] krf (g_t_inside_ok n a0a.Price 0 j14) krf krf (fun _ => by kernel_rfl) (fun r15 => ?_)
      refine xR 1 krf ?_
      refine xE ?_
      refine sN ⟨[1, 54], [1], [], []⟩ ⟨[(1, .ptr 1 0), (54, B (!r15))], [(1, .box 44 (bxc (GAr.cs a0a)))]⟩ krf ?_
      refine sC (!r15) krf ?_ ?_
      ·refine sR tfm ⟨[2], [], [], []⟩ ⟨[(2, B false)], []⟩ krf ?_
       refine sT ?_
       refine sq_r ?_
       exact qR (.id) krf krf krf
      ·refine sK ?_
       refine sN ⟨[1], [1], [], []⟩ ⟨[(1, .ptr 1 0)], [(1, .box 44 (bxc (GAr.cs a0a)))]⟩ krf ?_
       refine sS ?_
       refine sS ?_
       refine sG ?_
       refine xR 2 krf ?_
       refine xC [] krf (g_t_isTime_ok n a0a.Kind) krf krf (fun _ => by kernel_rfl) (fun r16 => ?_)
       refine xE ?_
       refine sN ⟨[1, 57], [1], [], []⟩ ⟨[(1, .ptr 1 0), (57, B r16)], [(1, .box 44 (bxc (GAr.cs a0a)))]⟩ krf ?_
       refine sC r16 krf ?_ ?_
       ·refine sim_bind (fun j17 => ⟨[(2, B j17)], []⟩ : Bool → St) ?_ ?_
        ·refine sG ?_
         refine xR 2 krf ?_
         refine xC [] krf (g_t_inside_ok n a0a.Unit 1 1440) krf krf (fun _ => by kernel_rfl) (fun r18 => ?_)
         refine xR 1 krf ?_
         refine xS r18 (fun h19 => ?_) (fun h19 => ?_)
         ·refine xO (want_tt krf h19) krf ?_
          refine xR 1 krf ?_
          refine xC [] krf (g_t_inside_ok n a0a.Free 0 1440) krf krf (fun _ => by kernel_rfl) (fun r20 => ?_)
          refine xR 2 krf ?_
          refine xE ?_
          exact nq_n r20 ⟨[2], [], [], []⟩ krf
         ·refine xN (want_tf krf h19) krf ?_
          refine xR 4 krf ?_
          refine xE ?_
          exact nq_n false ⟨[2], [], [], []⟩ krf
        ·rintro j17
         refine sT ?_
         refine sq_r ?_
         exact qR (.id) krf krf krf
       ·refine sK ?_
        refine sN ⟨[1], [1], [], []⟩ ⟨[(1, .ptr 1 0)], [(1, .box 44 (bxc (GAr.cs a0a)))]⟩ krf ?_
        refine sS ?_
        refine sG ?_
        refine xR 4 krf ?_
        refine xS (eqI a0a.Unit 0) (fun h21 => ?_) (fun h21 => ?_)
        ·refine xO (want_tt krf h21) krf ?_
         refine xR 4 krf ?_
         refine xE ?_
         refine sN ⟨[2], [], [], []⟩ ⟨[(2, B (eqI a0a.Free 0))], []⟩ krf ?_
         refine sT ?_
         exact qR (.id) krf krf krf
        ·refine xN (want_tf krf h21) krf ?_
         refine xR 4 krf ?_
         refine xE ?_
         refine sN ⟨[2], [], [], []⟩ ⟨[(2, B false)], []⟩ krf ?_
         refine sT ?_
         exact qR (.id) krf krf krf
def g_t_Valid_l4 (n : Nat) (a0t : GTf) (recl4 : (Int × Int) → Option Bool) (l4_1 : Int) (l4_2 : Int) : Option Bool :=
 cond (ltI l4_2 (lenI (List.map GAr.cs a0t.Articles)))
  ((getI a0t.Articles l4_2).bind fun x5 =>
  (g_t_validArticle n x5).bind fun r6 =>
  cond (!r6)
   (some false)
   (cond (eqI x5.Kind 6)
    (recl4 (wi (l4_1 + 1), wi (l4_2 + 1)))
    (recl4 (l4_1, wi (l4_2 + 1)))))
  (some (leI l4_1 1))
def g_t_Valid (n : Nat) (a0t : GTf) : Option Bool :=
 ((g_p_Valid n (⟨1, [], 0, 0, [GNode.cs (⟨2, a0t.Name, 3, 0, []⟩ : GNode)]⟩ : GNode)).bind fun r2 =>
 cond (!r2)
  (some true)
  (some (ltI 12 (lenI (List.map GAr.cs a0t.Articles))))).bind fun j1 =>
 cond j1
  (some false)
  (loopN (fun recl4 (l4_1, l4_2) => g_t_Valid_l4 n a0t recl4 l4_1 l4_2) n (0, 0))
theorem g_t_Valid_ok (n : Nat) (a0t : GTf) : ∀ r, g_t_Valid n a0t = some r → PCall Try.prog 26 [ag (GTf.cs a0t)] (.ret (B r)) := by
 refine pcall_sim (X := fun r : Bool => AEnd.ret (B r)) Try.func26 rfl Try.ntmps26 rfl ?_
 unfold g_t_Valid
 refine sR tfm ⟨[1], [1], [], []⟩ ⟨[(1, .ptr 1 0)], [(1, .box 24 (bxc (GTf.cs a0t)))]⟩ krf ?_
 refine sR tfm ⟨[1, 3], [1, 3], [], [(3, [.id, .id, .id, .id, .sl 5])]⟩ ⟨[(1, .ptr 1 0), (3, .ptr 3 0)], [(1, .box 24 (bxc (GTf.cs a0t))), (3, .box 74 (bxc (GNode.cs ⟨2, a0t.Name, 3, 0, []⟩)))]⟩ krf ?_
 refine sS ?_
 refine sim_bind (fun j1 => ⟨[(1, .ptr 1 0), (20, B j1)], [(1, .box 24 (bxc (GTf.cs a0t)))]⟩ : Bool → St) ?_ ?_
 ·refine sG ?_
  refine xR 3 krf ?_
  refine xC [.agg [.id, .id, .id, .id, .sl 5]] krf (g_p_Valid_ok n (⟨1, [], 0, 0, [GNode.cs (⟨2, a0t.Name, 3, 0, []⟩ : GNode)]⟩ : GNode)) krf krf (fun _ => by kernel_rfl) (fun r2 => ?_)
  refine xR 2 krf ?_
  refine xS (!r2) (fun h3 => ?_) (fun h3 => ?_)
  ·refine xN (want_ft krf h3) krf ?_
   refine xR 4 krf ?_
   refine xE ?_
   exact nq_n true ⟨[1, 20], [1], [], []⟩ krf
  ·refine xO (want_ff krf h3) krf ?_
   refine xR 4 krf ?_
   refine xE ?_
   exact nq_n (ltI 12 (lenI (List.map GAr.cs a0t.Articles))) ⟨[1, 20], [1], [], []⟩ krf
 ·rintro j1
  refine sC j1 krf ?_ ?_
  ·refine sR tfm ⟨[2], [], [], []⟩ ⟨[(2, B false)], []⟩ krf ?_
   refine sT ?_
   refine sq_r ?_
   exact qR (.id) krf krf krf
  ·refine sK ?_
   refine sN ⟨[1], [1], [], []⟩ ⟨[(1, .ptr 1 0)], [(1, .box 24 (bxc (GTf.cs a0t)))]⟩ krf ?_
   refine sR tfm ⟨[1, 4], [1], [], []⟩ ⟨[(1, .ptr 1 0), (4, I 0)], [(1, .box 24 (bxc (GTf.cs a0t)))]⟩ krf ?_
   refine sS ?_
   refine sR tfm ⟨[4, 22, 23, 24], [], [], []⟩ ⟨[(4, I 0), (22, .p (.sl 7 (List.map GAr.cs a0t.Articles))), (23, I (lenI (List.map GAr.cs a0t.Articles))), (24, I 0)], []⟩ krf ?_
   refine sB ?_
   refine sim_loop (fun (l4_1, l4_2) => ⟨[(4, I l4_1), (22, .p (.sl 7 (List.map GAr.cs a0t.Articles))), (23, I (lenI (List.map GAr.cs a0t.Articles))), (24, I l4_2)], []⟩ : (Int × Int) → St) (weak_shr (K := ⟨[4, 22, 23, 24], [], [], []⟩) krf) ?_
   rintro recl4 ⟨l4_1, l4_2⟩
   show SimE (g_t_Valid_l4 n a0t recl4 l4_1 l4_2) _ _ _ _ _ _
   unfold g_t_Valid_l4
   refine sR tfm ⟨[4, 22, 23, 24, 25], [], [], []⟩ ⟨[(4, I l4_1), (22, .p (.sl 7 (List.map GAr.cs a0t.Articles))), (23, I (lenI (List.map GAr.cs a0t.Articles))), (24, I l4_2), (25, B (ltI l4_2 (lenI (List.map GAr.cs a0t.Articles))))], []⟩ krf ?_
   refine sS ?_
   refine sC (ltI l4_2 (lenI (List.map GAr.cs a0t.Articles))) krf ?_ ?_
   ·refine sK ?_
    refine sN ⟨[4, 22, 23, 24], [], [], []⟩ ⟨[(4, I l4_1), (22, .p (.sl 7 (List.map GAr.cs a0t.Articles))), (23, I (lenI (List.map GAr.cs a0t.Articles))), (24, I l4_2)], []⟩ krf ?_
    refine sS ?_
    refine sB ?_
    refine sS ?_
    refine sG ?_
    refine xG krf krf (aop_idx (e := 44) (S := 7) (enc := GAr.cs) (l := a0t.Articles) (k := .i64) (n := l4_2) (sv := .p (.sl 7 (List.map GAr.cs a0t.Articles))) rfl krf krf krf krf krf) (fun x5 => ?_)
    refine xR 3 krf ?_
    refine xE ?_
    refine sN ⟨[4, 6, 22, 23, 24], [6], [], []⟩ ⟨[(4, I l4_1), (6, .ptr 6 0), (22, .p (.sl 7 (List.map GAr.cs a0t.Articles))), (23, I (lenI (List.map GAr.cs a0t.Articles))), (24, I l4_2)], [(6, .box 44 (bxc (GAr.cs x5)))]⟩ krf ?_
    refine sS ?_
    refine sS ?_
    refine sG ?_
    refine xR 1 krf ?_
    refine xC [] krf (g_t_validArticle_ok n x5) krf krf (fun _ => by kernel_rfl) (fun r6 => ?_)
    refine xR 1 krf ?_
    refine xE ?_
    refine sN ⟨[4, 6, 22, 23, 24, 30], [6], [], []⟩ ⟨[(4, I l4_1), (6, .ptr 6 0), (22, .p (.sl 7 (List.map GAr.cs a0t.Articles))), (23, I (lenI (List.map GAr.cs a0t.Articles))), (24, I l4_2), (30, B (!r6))], [(6, .box 44 (bxc (GAr.cs x5)))]⟩ krf ?_
    refine sC (!r6) krf ?_ ?_
    ·refine sR tfm ⟨[2], [], [], []⟩ ⟨[(2, B false)], []⟩ krf ?_
     refine sT ?_
     refine sq_r ?_
     refine bq_r ?_
     refine sq_r ?_
     refine kq_r ?_
     refine bq_r ?_
     refine sq_r ?_
     exact qR (.id) krf krf krf
    ·refine sK ?_
     refine sN ⟨[4, 6, 22, 23, 24], [6], [], []⟩ ⟨[(4, I l4_1), (6, .ptr 6 0), (22, .p (.sl 7 (List.map GAr.cs a0t.Articles))), (23, I (lenI (List.map GAr.cs a0t.Articles))), (24, I l4_2)], [(6, .box 44 (bxc (GAr.cs x5)))]⟩ krf ?_
     refine sR tfm ⟨[4, 22, 23, 24, 33], [], [], []⟩ ⟨[(4, I l4_1), (22, .p (.sl 7 (List.map GAr.cs a0t.Articles))), (23, I (lenI (List.map GAr.cs a0t.Articles))), (24, I l4_2), (33, B (eqI x5.Kind 6))], []⟩ krf ?_
     refine sC (eqI x5.Kind 6) krf ?_ ?_
     ·refine sL tfm krf ?_
      refine bq_n ?_
      refine sN ⟨[4, 22, 23, 24], [], [], []⟩ ⟨[(4, I (wi (l4_1 + 1))), (22, .p (.sl 7 (List.map GAr.cs a0t.Articles))), (23, I (lenI (List.map GAr.cs a0t.Articles))), (24, I l4_2)], []⟩ krf ?_
      refine sL tfm krf ?_
      exact kq_n (wi (l4_1 + 1), wi (l4_2 + 1)) ⟨[4, 22, 23, 24], [], [], []⟩ krf
     ·refine sK ?_
      refine bq_n ?_
      refine sN ⟨[4, 22, 23, 24], [], [], []⟩ ⟨[(4, I l4_1), (22, .p (.sl 7 (List.map GAr.cs a0t.Articles))), (23, I (lenI (List.map GAr.cs a0t.Articles))), (24, I l4_2)], []⟩ krf ?_
      refine sL tfm krf ?_
      exact kq_n (l4_1, wi (l4_2 + 1)) ⟨[4, 22, 23, 24], [], [], []⟩ krf
   ·refine sim_exit ?_
    refine sq_x ?_
    refine kq_x ?_
    refine bq_hit ?_
    refine sN ⟨[4], [], [], []⟩ ⟨[(4, I l4_1)], []⟩ krf ?_
    refine sR tfm ⟨[2], [], [], []⟩ ⟨[(2, B (leI l4_1 1))], []⟩ krf ?_
    refine sT ?_
    exact qR (.id) krf krf krf
def g_days_inside (n : Nat) (a0n : Int) (a1least : Int) (a2greatest : Int) : Option Bool :=
 cond (leI a1least a0n)
  (some (leI a0n a2greatest))
  (some false)
theorem g_days_inside_ok (n : Nat) (a0n : Int) (a1least : Int) (a2greatest : Int) : ∀ r, g_days_inside n a0n a1least a2greatest = some r → PCall Try.prog 41 [I a0n, I a1least, I a2greatest] (.ret (B r)) := by
 refine pcall_sim (X := fun r : Bool => AEnd.ret (B r)) Try.func41 rfl Try.ntmps41 rfl ?_
 unfold g_days_inside
 refine sR tfm ⟨[0, 1, 2], [], [], []⟩ ⟨[(0, I a0n), (1, I a1least), (2, I a2greatest)], []⟩ krf ?_
 refine sS ?_
 refine sG ?_
 refine xR 4 krf ?_
 refine xS (leI a1least a0n) (fun h1 => ?_) (fun h1 => ?_)
 ·refine xO (want_tt krf h1) krf ?_
  refine xR 4 krf ?_
  refine xE ?_
  refine sN ⟨[6], [], [], []⟩ ⟨[(6, B (leI a0n a2greatest))], []⟩ krf ?_
  refine sT ?_
  exact qR (.id) krf krf krf
 ·refine xN (want_tf krf h1) krf ?_
  refine xR 4 krf ?_
  refine xE ?_
  refine sN ⟨[6], [], [], []⟩ ⟨[(6, B false)], []⟩ krf ?_
  refine sT ?_
  exact qR (.id) krf krf krf
def g_days_keys_1 (n : Nat) (a0c : GCh) : Option Int :=
 some a0c.At
theorem g_days_keys_1_ok (n : Nat) (a0c : GCh) : ∀ r, g_days_keys_1 n a0c = some r → PCall Try.prog 74 [ag (GCh.cs a0c)] (.ret (I r)) := by
 refine pcall_sim (X := fun r : Int => AEnd.ret (I r)) Try.func74 rfl Try.ntmps74 rfl ?_
 unfold g_days_keys_1
 refine sR tfm ⟨[1], [1], [], []⟩ ⟨[(1, .ptr 1 0)], [(1, .box 78 (bxc (GCh.cs a0c)))]⟩ krf ?_
 refine sR tfm ⟨[2], [], [], []⟩ ⟨[(2, I a0c.At)], []⟩ krf ?_
 refine sT ?_
 exact qR (.id) krf krf krf
def g_dv_api_Change_l1 (n : Nat) (a0list : List GCh) (a1most : Int) (recl1 : (Int × Int) → Option Bool) (l1_1 : Int) (l1_2 : Int) : Option Bool :=
 cond (ltI l1_2 (lenI (List.map GCh.cs a0list)))
  ((getI a0list l1_2).bind fun x2 =>
  (g_days_keys_1 n x2).bind fun r3 =>
  (cond (leI r3 l1_1)
   (some true)
   (some (ltI a1most r3))).bind fun j4 =>
  cond j4
   (some false)
   ((g_days_keys_1 n x2).bind fun r6 =>
   recl1 (r6, wi (l1_2 + 1))))
  (some true)
def g_dv_api_Change (n : Nat) (a0list : List GCh) (a1most : Int) : Option Bool :=
 loopN (fun recl1 (l1_1, l1_2) => g_dv_api_Change_l1 n a0list a1most recl1 l1_1 l1_2) n ((-1), 0)
theorem g_dv_api_Change_ok (n : Nat) (a0list : List GCh) (a1most : Int) : ∀ r, g_dv_api_Change n a0list a1most = some r → PCall Try.prog 43 [.p (.sl 2 (List.map GCh.cs a0list)), I a1most, .p (.val (.func (.func 74) #[] #[]))] (.ret (B r)) := by
 refine pcall_sim (X := fun r : Bool => AEnd.ret (B r)) Try.func43 rfl Try.ntmps43 rfl ?_
 unfold g_dv_api_Change
 refine sR tfm ⟨[0, 1, 2], [], [], []⟩ ⟨[(0, .p (.sl 2 (List.map GCh.cs a0list))), (1, I a1most), (2, .p (.val (.func (.func 74) #[] #[])))], []⟩ krf ?_
 refine sR tfm ⟨[0, 1, 2, 7], [], [], []⟩ ⟨[(0, .p (.sl 2 (List.map GCh.cs a0list))), (1, I a1most), (2, .p (.val (.func (.func 74) #[] #[]))), (7, I (-1))], []⟩ krf ?_
 refine sS ?_
 refine sR tfm ⟨[1, 2, 7, 11, 12, 13], [], [], []⟩ ⟨[(1, I a1most), (2, .p (.val (.func (.func 74) #[] #[]))), (7, I (-1)), (11, .p (.sl 2 (List.map GCh.cs a0list))), (12, I (lenI (List.map GCh.cs a0list))), (13, I 0)], []⟩ krf ?_
 refine sB ?_
 refine sim_loop (fun (l1_1, l1_2) => ⟨[(1, I a1most), (2, .p (.val (.func (.func 74) #[] #[]))), (7, I l1_1), (11, .p (.sl 2 (List.map GCh.cs a0list))), (12, I (lenI (List.map GCh.cs a0list))), (13, I l1_2)], []⟩ : (Int × Int) → St) (weak_shr (K := ⟨[1, 2, 7, 11, 12, 13], [], [], []⟩) krf) ?_
 rintro recl1 ⟨l1_1, l1_2⟩
 show SimE (g_dv_api_Change_l1 n a0list a1most recl1 l1_1 l1_2) _ _ _ _ _ _
 unfold g_dv_api_Change_l1
 refine sR tfm ⟨[1, 2, 7, 11, 12, 13, 14], [], [], []⟩ ⟨[(1, I a1most), (2, .p (.val (.func (.func 74) #[] #[]))), (7, I l1_1), (11, .p (.sl 2 (List.map GCh.cs a0list))), (12, I (lenI (List.map GCh.cs a0list))), (13, I l1_2), (14, B (ltI l1_2 (lenI (List.map GCh.cs a0list))))], []⟩ krf ?_
 refine sS ?_
 refine sC (ltI l1_2 (lenI (List.map GCh.cs a0list))) krf ?_ ?_
 ·refine sK ?_
  refine sN ⟨[1, 2, 7, 11, 12, 13], [], [], []⟩ ⟨[(1, I a1most), (2, .p (.val (.func (.func 74) #[] #[]))), (7, I l1_1), (11, .p (.sl 2 (List.map GCh.cs a0list))), (12, I (lenI (List.map GCh.cs a0list))), (13, I l1_2)], []⟩ krf ?_
  refine sS ?_
  refine sB ?_
  refine sS ?_
  refine sG ?_
  refine xG krf krf (aop_idx (e := 78) (S := 2) (enc := GCh.cs) (l := a0list) (k := .i64) (n := l1_2) (sv := .p (.sl 2 (List.map GCh.cs a0list))) rfl krf krf krf krf krf) (fun x2 => ?_)
  refine xR 3 krf ?_
  refine xE ?_
  refine sN ⟨[1, 2, 7, 9, 11, 12, 13], [9], [], []⟩ ⟨[(1, I a1most), (2, .p (.val (.func (.func 74) #[] #[]))), (7, I l1_1), (9, .ptr 9 0), (11, .p (.sl 2 (List.map GCh.cs a0list))), (12, I (lenI (List.map GCh.cs a0list))), (13, I l1_2)], [(9, .box 78 (bxc (GCh.cs x2)))]⟩ krf ?_
  refine sS ?_
  refine sS ?_
  refine sG ?_
  refine xR 2 krf ?_
  refine xC [] krf (g_days_keys_1_ok n x2) krf krf (fun _ => by kernel_rfl) (fun r3 => ?_)
  refine xR 1 krf ?_
  refine xE ?_
  refine sN ⟨[1, 2, 7, 9, 10, 11, 12, 13], [9], [], []⟩ ⟨[(1, I a1most), (2, .p (.val (.func (.func 74) #[] #[]))), (7, I l1_1), (9, .ptr 9 0), (10, I r3), (11, .p (.sl 2 (List.map GCh.cs a0list))), (12, I (lenI (List.map GCh.cs a0list))), (13, I l1_2)], [(9, .box 78 (bxc (GCh.cs x2)))]⟩ krf ?_
  refine sim_bind (fun j4 => ⟨[(1, I a1most), (2, .p (.val (.func (.func 74) #[] #[]))), (9, .ptr 9 0), (11, .p (.sl 2 (List.map GCh.cs a0list))), (12, I (lenI (List.map GCh.cs a0list))), (13, I l1_2), (27, B j4)], [(9, .box 78 (bxc (GCh.cs x2)))]⟩ : Bool → St) ?_ ?_
  ·refine sG ?_
   refine xR 4 krf ?_
   refine xS (leI r3 l1_1) (fun h5 => ?_) (fun h5 => ?_)
   ·refine xN (want_ft krf h5) krf ?_
    refine xR 3 krf ?_
    refine xE ?_
    exact nq_n true ⟨[1, 2, 9, 11, 12, 13, 27], [9], [], []⟩ krf
   ·refine xO (want_ff krf h5) krf ?_
    refine xR 3 krf ?_
    refine xE ?_
    exact nq_n (ltI a1most r3) ⟨[1, 2, 9, 11, 12, 13, 27], [9], [], []⟩ krf
  ·rintro j4
   refine sC j4 krf ?_ ?_
   ·refine sR tfm ⟨[6], [], [], []⟩ ⟨[(6, B false)], []⟩ krf ?_
    refine sT ?_
    refine sq_r ?_
    refine bq_r ?_
    refine sq_r ?_
    refine kq_r ?_
    refine bq_r ?_
    refine sq_r ?_
    exact qR (.id) krf krf krf
   ·refine sK ?_
    refine sN ⟨[1, 2, 9, 11, 12, 13], [9], [], []⟩ ⟨[(1, I a1most), (2, .p (.val (.func (.func 74) #[] #[]))), (9, .ptr 9 0), (11, .p (.sl 2 (List.map GCh.cs a0list))), (12, I (lenI (List.map GCh.cs a0list))), (13, I l1_2)], [(9, .box 78 (bxc (GCh.cs x2)))]⟩ krf ?_
    refine sG ?_
    refine xR 2 krf ?_
    refine xC [] krf (g_days_keys_1_ok n x2) krf krf (fun _ => by kernel_rfl) (fun r6 => ?_)
    refine xR 1 krf ?_
    refine xE ?_
    refine bq_n ?_
    refine sN ⟨[1, 2, 7, 11, 12, 13], [], [], []⟩ ⟨[(1, I a1most), (2, .p (.val (.func (.func 74) #[] #[]))), (7, I r6), (11, .p (.sl 2 (List.map GCh.cs a0list))), (12, I (lenI (List.map GCh.cs a0list))), (13, I l1_2)], []⟩ krf ?_
    refine sL tfm krf ?_
    exact kq_n (r6, wi (l1_2 + 1)) ⟨[1, 2, 7, 11, 12, 13], [], [], []⟩ krf
 ·refine sim_exit ?_
  refine sq_x ?_
  refine kq_x ?_
  refine bq_hit ?_
  refine sN ⟨[], [], [], []⟩ ⟨[], []⟩ krf ?_
  refine sR tfm ⟨[6], [], [], []⟩ ⟨[(6, B true)], []⟩ krf ?_
  refine sT ?_
  exact qR (.id) krf krf krf
def g_days_keys_2 (n : Nat) (a0day : Int) : Option Int :=
 some a0day
theorem g_days_keys_2_ok (n : Nat) (a0day : Int) : ∀ r, g_days_keys_2 n a0day = some r → PCall Try.prog 75 [I a0day] (.ret (I r)) := by
 refine pcall_sim (X := fun r : Int => AEnd.ret (I r)) Try.func75 rfl Try.ntmps75 rfl ?_
 unfold g_days_keys_2
 refine sR tfm ⟨[0], [], [], []⟩ ⟨[(0, I a0day)], []⟩ krf ?_
 refine sR tfm ⟨[2], [], [], []⟩ ⟨[(2, I a0day)], []⟩ krf ?_
 refine sT ?_
 exact qR (.id) krf krf krf
def g_dv_int_l1 (n : Nat) (a0list : List Int) (a1most : Int) (recl1 : (Int × Int) → Option Bool) (l1_1 : Int) (l1_2 : Int) : Option Bool :=
 cond (ltI l1_2 (lenI (List.map ci a0list)))
  ((getI a0list l1_2).bind fun x2 =>
  (g_days_keys_2 n x2).bind fun r3 =>
  (cond (leI r3 l1_1)
   (some true)
   (some (ltI a1most r3))).bind fun j4 =>
  cond j4
   (some false)
   ((g_days_keys_2 n x2).bind fun r6 =>
   recl1 (r6, wi (l1_2 + 1))))
  (some true)
def g_dv_int (n : Nat) (a0list : List Int) (a1most : Int) : Option Bool :=
 loopN (fun recl1 (l1_1, l1_2) => g_dv_int_l1 n a0list a1most recl1 l1_1 l1_2) n ((-1), 0)
theorem g_dv_int_ok (n : Nat) (a0list : List Int) (a1most : Int) : ∀ r, g_dv_int n a0list a1most = some r → PCall Try.prog 44 [.p (.sl 1 (List.map ci a0list)), I a1most, .p (.val (.func (.func 75) #[] #[]))] (.ret (B r)) := by
 refine pcall_sim (X := fun r : Bool => AEnd.ret (B r)) Try.func44 rfl Try.ntmps44 rfl ?_
 unfold g_dv_int
 refine sR tfm ⟨[0, 1, 2], [], [], []⟩ ⟨[(0, .p (.sl 1 (List.map ci a0list))), (1, I a1most), (2, .p (.val (.func (.func 75) #[] #[])))], []⟩ krf ?_
 refine sR tfm ⟨[0, 1, 2, 7], [], [], []⟩ ⟨[(0, .p (.sl 1 (List.map ci a0list))), (1, I a1most), (2, .p (.val (.func (.func 75) #[] #[]))), (7, I (-1))], []⟩ krf ?_
 refine sS ?_
 refine sR tfm ⟨[1, 2, 7, 11, 12, 13], [], [], []⟩ ⟨[(1, I a1most), (2, .p (.val (.func (.func 75) #[] #[]))), (7, I (-1)), (11, .p (.sl 1 (List.map ci a0list))), (12, I (lenI (List.map ci a0list))), (13, I 0)], []⟩ krf ?_
 refine sB ?_
 refine sim_loop (fun (l1_1, l1_2) => ⟨[(1, I a1most), (2, .p (.val (.func (.func 75) #[] #[]))), (7, I l1_1), (11, .p (.sl 1 (List.map ci a0list))), (12, I (lenI (List.map ci a0list))), (13, I l1_2)], []⟩ : (Int × Int) → St) (weak_shr (K := ⟨[1, 2, 7, 11, 12, 13], [], [], []⟩) krf) ?_
 rintro recl1 ⟨l1_1, l1_2⟩
 show SimE (g_dv_int_l1 n a0list a1most recl1 l1_1 l1_2) _ _ _ _ _ _
 unfold g_dv_int_l1
 refine sR tfm ⟨[1, 2, 7, 11, 12, 13, 14], [], [], []⟩ ⟨[(1, I a1most), (2, .p (.val (.func (.func 75) #[] #[]))), (7, I l1_1), (11, .p (.sl 1 (List.map ci a0list))), (12, I (lenI (List.map ci a0list))), (13, I l1_2), (14, B (ltI l1_2 (lenI (List.map ci a0list))))], []⟩ krf ?_
 refine sS ?_
 refine sC (ltI l1_2 (lenI (List.map ci a0list))) krf ?_ ?_
 ·refine sK ?_
  refine sN ⟨[1, 2, 7, 11, 12, 13], [], [], []⟩ ⟨[(1, I a1most), (2, .p (.val (.func (.func 75) #[] #[]))), (7, I l1_1), (11, .p (.sl 1 (List.map ci a0list))), (12, I (lenI (List.map ci a0list))), (13, I l1_2)], []⟩ krf ?_
  refine sS ?_
  refine sB ?_
  refine sS ?_
  refine sG ?_
  refine xG krf krf (aop_idx (e := 3) (S := 1) (enc := ci) (l := a0list) (k := .i64) (n := l1_2) (sv := .p (.sl 1 (List.map ci a0list))) rfl krf krf krf krf krf) (fun x2 => ?_)
  refine xR 2 krf ?_
  refine xE ?_
  refine sN ⟨[1, 2, 7, 9, 11, 12, 13], [], [], []⟩ ⟨[(1, I a1most), (2, .p (.val (.func (.func 75) #[] #[]))), (7, I l1_1), (9, I x2), (11, .p (.sl 1 (List.map ci a0list))), (12, I (lenI (List.map ci a0list))), (13, I l1_2)], []⟩ krf ?_
  refine sS ?_
  refine sS ?_
  refine sG ?_
  refine xR 2 krf ?_
  refine xC [] krf (g_days_keys_2_ok n x2) krf krf (fun _ => by kernel_rfl) (fun r3 => ?_)
  refine xR 1 krf ?_
  refine xE ?_
  refine sN ⟨[1, 2, 7, 9, 10, 11, 12, 13], [], [], []⟩ ⟨[(1, I a1most), (2, .p (.val (.func (.func 75) #[] #[]))), (7, I l1_1), (9, I x2), (10, I r3), (11, .p (.sl 1 (List.map ci a0list))), (12, I (lenI (List.map ci a0list))), (13, I l1_2)], []⟩ krf ?_
  refine sim_bind (fun j4 => ⟨[(1, I a1most), (2, .p (.val (.func (.func 75) #[] #[]))), (9, I x2), (11, .p (.sl 1 (List.map ci a0list))), (12, I (lenI (List.map ci a0list))), (13, I l1_2), (27, B j4)], []⟩ : Bool → St) ?_ ?_
  ·refine sG ?_
   refine xR 4 krf ?_
   refine xS (leI r3 l1_1) (fun h5 => ?_) (fun h5 => ?_)
   ·refine xN (want_ft krf h5) krf ?_
    refine xR 3 krf ?_
    refine xE ?_
    exact nq_n true ⟨[1, 2, 9, 11, 12, 13, 27], [], [], []⟩ krf
   ·refine xO (want_ff krf h5) krf ?_
    refine xR 3 krf ?_
    refine xE ?_
    exact nq_n (ltI a1most r3) ⟨[1, 2, 9, 11, 12, 13, 27], [], [], []⟩ krf
  ·rintro j4
   refine sC j4 krf ?_ ?_
   ·refine sR tfm ⟨[6], [], [], []⟩ ⟨[(6, B false)], []⟩ krf ?_
    refine sT ?_
    refine sq_r ?_
    refine bq_r ?_
    refine sq_r ?_
    refine kq_r ?_
    refine bq_r ?_
    refine sq_r ?_
    exact qR (.id) krf krf krf
   ·refine sK ?_
    refine sN ⟨[1, 2, 9, 11, 12, 13], [], [], []⟩ ⟨[(1, I a1most), (2, .p (.val (.func (.func 75) #[] #[]))), (9, I x2), (11, .p (.sl 1 (List.map ci a0list))), (12, I (lenI (List.map ci a0list))), (13, I l1_2)], []⟩ krf ?_
    refine sG ?_
    refine xR 2 krf ?_
    refine xC [] krf (g_days_keys_2_ok n x2) krf krf (fun _ => by kernel_rfl) (fun r6 => ?_)
    refine xR 1 krf ?_
    refine xE ?_
    refine bq_n ?_
    refine sN ⟨[1, 2, 7, 11, 12, 13], [], [], []⟩ ⟨[(1, I a1most), (2, .p (.val (.func (.func 75) #[] #[]))), (7, I r6), (11, .p (.sl 1 (List.map ci a0list))), (12, I (lenI (List.map ci a0list))), (13, I l1_2)], []⟩ krf ?_
    refine sL tfm krf ?_
    exact kq_n (r6, wi (l1_2 + 1)) ⟨[1, 2, 7, 11, 12, 13], [], [], []⟩ krf
 ·refine sim_exit ?_
  refine sq_x ?_
  refine kq_x ?_
  refine bq_hit ?_
  refine sN ⟨[], [], [], []⟩ ⟨[], []⟩ krf ?_
  refine sR tfm ⟨[6], [], [], []⟩ ⟨[(6, B true)], []⟩ krf ?_
  refine sT ?_
  exact qR (.id) krf krf krf
def g_days_Valid_j5 (n : Nat) (a0c : GCl) : Option Bool :=
 (g_dv_api_Change n a0c.Changes 52560000).bind fun r6 =>
 cond r6
  ((g_dv_int n a0c.Holidays 36500).bind fun r8 =>
  some r8)
  (some false)
def g_days_Valid_l9 (n : Nat) (a0c : GCl) (recl9 : Int → Option Bool) (l9 : Int) : Option Bool :=
 cond (ltI l9 (lenI (List.map GCh.cs a0c.Changes)))
  ((getI a0c.Changes l9).bind fun x10 =>
  (g_days_inside n x10.Offset (-1440) 1440).bind fun r11 =>
  cond (!r11)
   (some false)
   (recl9 (wi (l9 + 1))))
  (g_days_Valid_j5 n a0c)
def g_days_Valid (n : Nat) (a0c : GCl) : Option Bool :=
 (cond (ltI 16 (lenI (List.map GCh.cs a0c.Changes)))
  (some true)
  (cond (ltI 32 (lenI (List.map ci a0c.Holidays)))
   (some true)
   ((g_days_inside n a0c.Offset (-1440) 1440).bind fun r4 =>
   some (!r4)))).bind fun j1 =>
 cond j1
  (some false)
  (loopN (fun recl9 l9 => g_days_Valid_l9 n a0c recl9 l9) n 0)
theorem g_days_Valid_ok (n : Nat) (a0c : GCl) : ∀ r, g_days_Valid n a0c = some r → PCall Try.prog 27 [ag (GCl.cs a0c)] (.ret (B r)) := by
 refine pcall_sim (X := fun r : Bool => AEnd.ret (B r)) Try.func27 rfl Try.ntmps27 rfl ?_
 unfold g_days_Valid
 refine sR tfm ⟨[1], [1], [], []⟩ ⟨[(1, .ptr 1 0)], [(1, .box 28 (bxc (GCl.cs a0c)))]⟩ krf ?_
 refine sS ?_
 refine sim_bind (fun j1 => ⟨[(1, .ptr 1 0), (22, B j1)], [(1, .box 28 (bxc (GCl.cs a0c)))]⟩ : Bool → St) ?_ ?_
 ·refine sG ?_
  refine xR 5 krf ?_
  refine xS (ltI 16 (lenI (List.map GCh.cs a0c.Changes))) (fun h2 => ?_) (fun h2 => ?_)
  ·refine xN (want_ft krf h2) krf ?_
   refine xR 10 krf ?_
   refine xE ?_
   exact nq_n true ⟨[1, 22], [1], [], []⟩ krf
  ·refine xO (want_ff krf h2) krf ?_
   refine xR 5 krf ?_
   refine xS (ltI 32 (lenI (List.map ci a0c.Holidays))) (fun h3 => ?_) (fun h3 => ?_)
   ·refine xN (want_ft krf h3) krf ?_
    refine xR 4 krf ?_
    refine xE ?_
    exact nq_n true ⟨[1, 22], [1], [], []⟩ krf
   ·refine xO (want_ff krf h3) krf ?_
    refine xR 1 krf ?_
    refine xC [] krf (g_days_inside_ok n a0c.Offset (-1440) 1440) krf krf (fun _ => by kernel_rfl) (fun r4 => ?_)
    refine xR 2 krf ?_
    refine xE ?_
    exact nq_n (!r4) ⟨[1, 22], [1], [], []⟩ krf
 ·rintro j1
  refine sC j1 krf ?_ ?_
  ·refine sR tfm ⟨[2], [], [], []⟩ ⟨[(2, B false)], []⟩ krf ?_
   refine sT ?_
   refine sq_r ?_
   exact qR (.id) krf krf krf
  ·refine sK ?_
   refine sN ⟨[1], [1], [], []⟩ ⟨[(1, .ptr 1 0)], [(1, .box 28 (bxc (GCl.cs a0c)))]⟩ krf ?_
   refine sim_cps (fun _ => ⟨[(1, .ptr 1 0)], [(1, .box 28 (bxc (GCl.cs a0c)))]⟩ : Unit → St) (fun _ => g_days_Valid_j5 n a0c) ?_ ?_
   ·rintro _
    show SimE (g_days_Valid_j5 n a0c) _ _ _ _ _ _
    unfold g_days_Valid_j5
    refine sS ?_
    refine sG ?_
    refine xs_inline [] [] [] [] [] krf Try.func42 rfl Try.ntmps42 rfl krf krf krf ?_
    refine sR tfm ⟨[], [], [], []⟩ ⟨[], []⟩ krf ?_
    refine sR tfm ⟨[0, 1], [], [], []⟩ ⟨[(0, .p (.val (.func (.func 74) #[] #[]))), (1, .p (.val (.func (.func 75) #[] #[])))], []⟩ krf ?_
    refine sT ?_
    refine iq_ret (.id) [] [] (.tup [.p (.val (.func (.func 74) #[] #[])), .p (.val (.func (.func 75) #[] #[]))]) krf krf ?_
    refine kr0 ?_
    refine xR 5 krf ?_
    refine xE ?_
    refine sN ⟨[1, 5, 6], [1], [], []⟩ ⟨[(1, .ptr 1 0), (5, .p (.val (.func (.func 74) #[] #[]))), (6, .p (.val (.func (.func 75) #[] #[])))], [(1, .box 28 (bxc (GCl.cs a0c)))]⟩ krf ?_
    refine sS ?_
    refine sG ?_
    refine xR 3 krf ?_
    refine xC [] krf (g_dv_api_Change_ok n a0c.Changes 52560000) krf krf (fun _ => by kernel_rfl) (fun r6 => ?_)
    refine xR 1 krf ?_
    refine xS r6 (fun h7 => ?_) (fun h7 => ?_)
    ·refine xO (want_tt krf h7) krf ?_
     refine xR 2 krf ?_
     refine xC [] krf (g_dv_int_ok n a0c.Holidays 36500) krf krf (fun _ => by kernel_rfl) (fun r8 => ?_)
     refine xR 2 krf ?_
     refine xE ?_
     refine sN ⟨[2], [], [], []⟩ ⟨[(2, B r8)], []⟩ krf ?_
     refine sT ?_
     exact qR (.id) krf krf krf
    ·refine xN (want_tf krf h7) krf ?_
     refine xR 5 krf ?_
     refine xE ?_
     refine sN ⟨[2], [], [], []⟩ ⟨[(2, B false)], []⟩ krf ?_
     refine sT ?_
     exact qR (.id) krf krf krf
   ·refine sR tfm ⟨[1, 24, 25, 26], [1], [], []⟩ ⟨[(1, .ptr 1 0), (24, .p (.sl 2 (List.map GCh.cs a0c.Changes))), (25, I (lenI (List.map GCh.cs a0c.Changes))), (26, I 0)], [(1, .box 28 (bxc (GCl.cs a0c)))]⟩ krf ?_
    refine sB ?_
    refine sim_loop (fun l9 => ⟨[(1, .ptr 1 0), (24, .p (.sl 2 (List.map GCh.cs a0c.Changes))), (25, I (lenI (List.map GCh.cs a0c.Changes))), (26, I l9)], [(1, .box 28 (bxc (GCl.cs a0c)))]⟩ : Int → St) (weak_shr (K := ⟨[1, 24, 25, 26], [1], [], []⟩) krf) ?_
    rintro recl9 l9
    show SimE (g_days_Valid_l9 n a0c recl9 l9) _ _ _ _ _ _
    unfold g_days_Valid_l9
    refine sR tfm ⟨[1, 24, 25, 26, 27], [1], [], []⟩ ⟨[(1, .ptr 1 0), (24, .p (.sl 2 (List.map GCh.cs a0c.Changes))), (25, I (lenI (List.map GCh.cs a0c.Changes))), (26, I l9), (27, B (ltI l9 (lenI (List.map GCh.cs a0c.Changes))))], [(1, .box 28 (bxc (GCl.cs a0c)))]⟩ krf ?_
    refine sS ?_
    refine sC (ltI l9 (lenI (List.map GCh.cs a0c.Changes))) krf ?_ ?_
    ·refine sK ?_
     refine sN ⟨[1, 24, 25, 26], [1], [], []⟩ ⟨[(1, .ptr 1 0), (24, .p (.sl 2 (List.map GCh.cs a0c.Changes))), (25, I (lenI (List.map GCh.cs a0c.Changes))), (26, I l9)], [(1, .box 28 (bxc (GCl.cs a0c)))]⟩ krf ?_
     refine sS ?_
     refine sB ?_
     refine sS ?_
     refine sG ?_
     refine xG krf krf (aop_idx (e := 78) (S := 2) (enc := GCh.cs) (l := a0c.Changes) (k := .i64) (n := l9) (sv := .p (.sl 2 (List.map GCh.cs a0c.Changes))) rfl krf krf krf krf krf) (fun x10 => ?_)
     refine xR 3 krf ?_
     refine xE ?_
     refine sN ⟨[1, 4, 24, 25, 26], [1, 4], [], []⟩ ⟨[(1, .ptr 1 0), (4, .ptr 4 0), (24, .p (.sl 2 (List.map GCh.cs a0c.Changes))), (25, I (lenI (List.map GCh.cs a0c.Changes))), (26, I l9)], [(1, .box 28 (bxc (GCl.cs a0c))), (4, .box 78 (bxc (GCh.cs x10)))]⟩ krf ?_
     refine sS ?_
     refine sG ?_
     refine xR 2 krf ?_
     refine xC [] krf (g_days_inside_ok n x10.Offset (-1440) 1440) krf krf (fun _ => by kernel_rfl) (fun r11 => ?_)
     refine xR 1 krf ?_
     refine xE ?_
     refine sN ⟨[1, 24, 25, 26, 33], [1], [], []⟩ ⟨[(1, .ptr 1 0), (24, .p (.sl 2 (List.map GCh.cs a0c.Changes))), (25, I (lenI (List.map GCh.cs a0c.Changes))), (26, I l9), (33, B (!r11))], [(1, .box 28 (bxc (GCl.cs a0c)))]⟩ krf ?_
     refine sC (!r11) krf ?_ ?_
     ·refine sR tfm ⟨[2], [], [], []⟩ ⟨[(2, B false)], []⟩ krf ?_
      refine sT ?_
      refine bq_r ?_
      refine sq_r ?_
      refine kq_r ?_
      refine bq_r ?_
      refine kq_r ?_
      exact qR (.id) krf krf krf
     ·refine sK ?_
      refine bq_n ?_
      refine sN ⟨[1, 24, 25, 26], [1], [], []⟩ ⟨[(1, .ptr 1 0), (24, .p (.sl 2 (List.map GCh.cs a0c.Changes))), (25, I (lenI (List.map GCh.cs a0c.Changes))), (26, I l9)], [(1, .box 28 (bxc (GCl.cs a0c)))]⟩ krf ?_
      refine sL tfm krf ?_
      exact kq_n (wi (l9 + 1)) ⟨[1, 24, 25, 26], [1], [], []⟩ krf
    ·refine sim_exit ?_
     refine sq_x ?_
     refine kq_x ?_
     refine bq_hit ?_
     exact kq_n (k := fun _ => g_days_Valid_j5 n a0c) () ⟨[1], [1], [], []⟩ krf
def g_quote_validLimits (n : Nat) (a0from : Int) (a1to : Int) (a2energy : Int) : Option Bool :=
 (cond (leI 0 a0from)
  (cond (ltI a0from a1to)
   (cond (leI (wi (a1to - a0from)) 2880)
    (cond (leI a1to 52560000)
     (cond (leI 0 a2energy)
      (some (leI a2energy 480000))
      (some false))
     (some false))
    (some false))
   (some false))
  (some false)).bind fun j1 =>
 some j1
theorem g_quote_validLimits_ok (n : Nat) (a0from : Int) (a1to : Int) (a2energy : Int) : ∀ r, g_quote_validLimits n a0from a1to a2energy = some r → PCall Try.prog 28 [I a0from, I a1to, I a2energy] (.ret (B r)) := by
 refine pcall_sim (X := fun r : Bool => AEnd.ret (B r)) Try.func28 rfl Try.ntmps28 rfl ?_
 unfold g_quote_validLimits
 refine sR tfm ⟨[0, 1, 2], [], [], []⟩ ⟨[(0, I a0from), (1, I a1to), (2, I a2energy)], []⟩ krf ?_
 refine sim_bind (fun j1 => ⟨[(6, B j1)], []⟩ : Bool → St) ?_ ?_
 ·refine sG ?_
  refine xR 3 krf ?_
  refine xS (leI 0 a0from) (fun h2 => ?_) (fun h2 => ?_)
  ·refine xO (want_tt krf h2) krf ?_
   refine xR 4 krf ?_
   refine xS (ltI a0from a1to) (fun h3 => ?_) (fun h3 => ?_)
   ·refine xO (want_tt krf h3) krf ?_
    refine xR 5 krf ?_
    refine xS (leI (wi (a1to - a0from)) 2880) (fun h4 => ?_) (fun h4 => ?_)
    ·refine xO (want_tt krf h4) krf ?_
     refine xR 3 krf ?_
     refine xS (leI a1to 52560000) (fun h5 => ?_) (fun h5 => ?_)
     ·refine xO (want_tt krf h5) krf ?_
      refine xR 3 krf ?_
      refine xS (leI 0 a2energy) (fun h6 => ?_) (fun h6 => ?_)
      ·refine xO (want_tt krf h6) krf ?_
       refine xR 3 krf ?_
       refine xE ?_
       exact nq_n (leI a2energy 480000) ⟨[6], [], [], []⟩ krf
      ·refine xN (want_tf krf h6) krf ?_
       refine xR 3 krf ?_
       refine xE ?_
       exact nq_n false ⟨[6], [], [], []⟩ krf
     ·refine xN (want_tf krf h5) krf ?_
      refine xR 7 krf ?_
      refine xE ?_
      exact nq_n false ⟨[6], [], [], []⟩ krf
    ·refine xN (want_tf krf h4) krf ?_
     refine xR 11 krf ?_
     refine xE ?_
     exact nq_n false ⟨[6], [], [], []⟩ krf
   ·refine xN (want_tf krf h3) krf ?_
    refine xR 17 krf ?_
    refine xE ?_
    exact nq_n false ⟨[6], [], [], []⟩ krf
  ·refine xN (want_tf krf h2) krf ?_
   refine xR 22 krf ?_
   refine xE ?_
   exact nq_n false ⟨[6], [], [], []⟩ krf
 ·rintro j1
  refine sT ?_
  exact qR (.id) krf krf krf
def g_days_last_api_Change_l1 (n : Nat) (a0list : List GCh) (a1number : Int) (recl1 : (Int × Int) → Option Int) (l1_1 : Int) (l1_2 : Int) : Option Int :=
 cond (ltI l1_1 l1_2)
  ((getI a0list (wi (l1_1 + (wi (Int.tdiv (wi ((wi (l1_2 - l1_1)) + 1)) 2))))).bind fun x2 =>
  (g_days_keys_1 n x2).bind fun r3 =>
  cond (leI r3 a1number)
   (recl1 (wi (l1_1 + (wi (Int.tdiv (wi ((wi (l1_2 - l1_1)) + 1)) 2))), l1_2))
   (recl1 (l1_1, wi ((wi (l1_1 + (wi (Int.tdiv (wi ((wi (l1_2 - l1_1)) + 1)) 2)))) - 1))))
  (some l1_1)
def g_days_last_api_Change (n : Nat) (a0list : List GCh) (a1number : Int) : Option Int :=
 loopN (fun recl1 (l1_1, l1_2) => g_days_last_api_Change_l1 n a0list a1number recl1 l1_1 l1_2) n ((-1), wi ((lenI (List.map GCh.cs a0list)) - 1))
theorem g_days_last_api_Change_ok (n : Nat) (a0list : List GCh) (a1number : Int) : ∀ r, g_days_last_api_Change n a0list a1number = some r → PCall Try.prog 106 [.p (.sl 2 (List.map GCh.cs a0list)), I a1number, .p (.val (.func (.func 74) #[] #[]))] (.ret (I r)) := by
 refine pcall_sim (X := fun r : Int => AEnd.ret (I r)) Try.func106 rfl Try.ntmps106 rfl ?_
 unfold g_days_last_api_Change
 refine sR tfm ⟨[0, 1, 2], [], [], []⟩ ⟨[(0, .p (.sl 2 (List.map GCh.cs a0list))), (1, I a1number), (2, .p (.val (.func (.func 74) #[] #[])))], []⟩ krf ?_
 refine sR tfm ⟨[0, 1, 2, 7, 8], [], [], []⟩ ⟨[(0, .p (.sl 2 (List.map GCh.cs a0list))), (1, I a1number), (2, .p (.val (.func (.func 74) #[] #[]))), (7, I (-1)), (8, I (wi ((lenI (List.map GCh.cs a0list)) - 1)))], []⟩ krf ?_
 refine sS ?_
 refine sB ?_
 refine sim_loop (fun (l1_1, l1_2) => ⟨[(0, .p (.sl 2 (List.map GCh.cs a0list))), (1, I a1number), (2, .p (.val (.func (.func 74) #[] #[]))), (7, I l1_1), (8, I l1_2)], []⟩ : (Int × Int) → St) (weak_shr (K := ⟨[0, 1, 2, 7, 8], [], [], []⟩) krf) ?_
 rintro recl1 ⟨l1_1, l1_2⟩
 show SimE (g_days_last_api_Change_l1 n a0list a1number recl1 l1_1 l1_2) _ _ _ _ _ _
 unfold g_days_last_api_Change_l1
 refine sS ?_
 refine sR tfm ⟨[0, 1, 2, 7, 8, 15], [], [], []⟩ ⟨[(0, .p (.sl 2 (List.map GCh.cs a0list))), (1, I a1number), (2, .p (.val (.func (.func 74) #[] #[]))), (7, I l1_1), (8, I l1_2), (15, B (ltI l1_1 l1_2))], []⟩ krf ?_
 refine sC (ltI l1_1 l1_2) krf ?_ ?_
 ·refine sK ?_
  refine sN ⟨[0, 1, 2, 7, 8], [], [], []⟩ ⟨[(0, .p (.sl 2 (List.map GCh.cs a0list))), (1, I a1number), (2, .p (.val (.func (.func 74) #[] #[]))), (7, I l1_1), (8, I l1_2)], []⟩ krf ?_
  refine sB ?_
  refine sR tfm ⟨[0, 1, 2, 7, 8, 9], [], [], []⟩ ⟨[(0, .p (.sl 2 (List.map GCh.cs a0list))), (1, I a1number), (2, .p (.val (.func (.func 74) #[] #[]))), (7, I l1_1), (8, I l1_2), (9, I (wi (l1_1 + (wi (Int.tdiv (wi ((wi (l1_2 - l1_1)) + 1)) 2)))))], []⟩ krf ?_
  refine sS ?_
  refine sG ?_
  refine xR 3 krf ?_
  refine xG krf krf (aop_idx (e := 78) (S := 2) (enc := GCh.cs) (l := a0list) (k := .i64) (n := wi (l1_1 + (wi (Int.tdiv (wi ((wi (l1_2 - l1_1)) + 1)) 2)))) (sv := .p (.sl 2 (List.map GCh.cs a0list))) rfl krf krf krf krf krf) (fun x2 => ?_)
  refine xR 1 krf ?_
  refine xC [] krf (g_days_keys_1_ok n x2) krf krf (fun _ => by kernel_rfl) (fun r3 => ?_)
  refine xR 2 krf ?_
  refine xE ?_
  refine sN ⟨[0, 1, 2, 7, 8, 9, 30], [], [], []⟩ ⟨[(0, .p (.sl 2 (List.map GCh.cs a0list))), (1, I a1number), (2, .p (.val (.func (.func 74) #[] #[]))), (7, I l1_1), (8, I l1_2), (9, I (wi (l1_1 + (wi (Int.tdiv (wi ((wi (l1_2 - l1_1)) + 1)) 2))))), (30, B (leI r3 a1number))], []⟩ krf ?_
  refine sC (leI r3 a1number) krf ?_ ?_
  ·refine sL tfm krf ?_
   refine bq_n ?_
   exact kq_n (wi (l1_1 + (wi (Int.tdiv (wi ((wi (l1_2 - l1_1)) + 1)) 2))), l1_2) ⟨[0, 1, 2, 7, 8], [], [], []⟩ krf
  ·refine sL tfm krf ?_
   refine bq_n ?_
   exact kq_n (l1_1, wi ((wi (l1_1 + (wi (Int.tdiv (wi ((wi (l1_2 - l1_1)) + 1)) 2)))) - 1)) ⟨[0, 1, 2, 7, 8], [], [], []⟩ krf
 ·refine sim_exit ?_
  refine sq_x ?_
  refine kq_x ?_
  refine bq_hit ?_
  refine sN ⟨[7], [], [], []⟩ ⟨[(7, I l1_1)], []⟩ krf ?_
  refine sR tfm ⟨[6], [], [], []⟩ ⟨[(6, I l1_1)], []⟩ krf ?_
  refine sT ?_
  exact qR (.id) krf krf krf
def g_days_split (n : Nat) (a0n : Int) (a1by : Int) : Option (Int × Int) :=
 cond (!eqI a1by 0) (
  cond (!eqI a1by 0) (
   cond (ltI (Int.tmod a0n a1by) 0)
    (some (wi ((wi (Int.tdiv a0n a1by)) - 1), wi ((Int.tmod a0n a1by) + a1by)))
    (some (wi (Int.tdiv a0n a1by), Int.tmod a0n a1by))) none) none
theorem g_days_split_ok (n : Nat) (a0n : Int) (a1by : Int) : ∀ r, g_days_split n a0n a1by = some r → PCall Try.prog 107 [I a0n, I a1by] (.ret (.tup [I r.1, I r.2])) := by
 refine pcall_sim (X := fun r : Int × Int => AEnd.ret (.tup [I r.1, I r.2])) Try.func107 rfl Try.ntmps107 rfl ?_
 unfold g_days_split
 refine sR tfm ⟨[0, 1], [], [], []⟩ ⟨[(0, I a0n), (1, I a1by)], []⟩ krf ?_
 refine sS ?_
 refine sim_drw tfm rfl ?_
 refine xR 2 krf ?_
 refine xF krf krf (aop_quo (k := .i64) (a := a0n) (b := a1by) rfl krf krf) ?_
 refine xR 2 krf ?_
 refine xF krf krf (aop_rem (k := .i64) (a := a0n) (b := a1by) rfl krf krf) ?_
 refine xR 2 krf ?_
 refine xs_endD krf ?_
 refine sN ⟨[1, 6, 7], [], [], []⟩ ⟨[(1, I a1by), (6, I (wi (Int.tdiv a0n a1by))), (7, I (Int.tmod a0n a1by))], []⟩ krf ?_
 refine sS ?_
 refine sR tfm ⟨[1, 6, 7, 15], [], [], []⟩ ⟨[(1, I a1by), (6, I (wi (Int.tdiv a0n a1by))), (7, I (Int.tmod a0n a1by)), (15, B (ltI (Int.tmod a0n a1by) 0))], []⟩ krf ?_
 refine sC (ltI (Int.tmod a0n a1by) 0) krf ?_ ?_
 ·refine sL tfm krf ?_
  refine sN ⟨[6, 7], [], [], []⟩ ⟨[(6, I (wi ((wi (Int.tdiv a0n a1by)) - 1))), (7, I (wi ((Int.tmod a0n a1by) + a1by)))], []⟩ krf ?_
  refine sR tfm ⟨[4, 5], [], [], []⟩ ⟨[(4, I (wi ((wi (Int.tdiv a0n a1by)) - 1))), (5, I (wi ((Int.tmod a0n a1by) + a1by)))], []⟩ krf ?_
  refine sT ?_
  exact qR (.id) krf krf krf
 ·refine sK ?_
  refine sN ⟨[6, 7], [], [], []⟩ ⟨[(6, I (wi (Int.tdiv a0n a1by))), (7, I (Int.tmod a0n a1by))], []⟩ krf ?_
  refine sR tfm ⟨[4, 5], [], [], []⟩ ⟨[(4, I (wi (Int.tdiv a0n a1by))), (5, I (Int.tmod a0n a1by))], []⟩ krf ?_
  refine sT ?_
  exact qR (.id) krf krf krf
def g_days_Local (n : Nat) (a0c : GCl) (a1minute : Int) : Option (Int × Int × Int) :=
 ((g_days_Valid n a0c).bind fun r2 =>
 cond (!r2)
  (some true)
  ((g_days_inside n a1minute 0 52560000).bind fun r4 =>
  some (!r4))).bind fun j1 =>
 cond j1
  (some (0, 0, 1))
  (((g_days_last_api_Change n a0c.Changes a1minute).bind fun r6 =>
  cond (leI 0 r6)
   ((getI a0c.Changes r6).bind fun x7 =>
   some x7.Offset)
   (some a0c.Offset)).bind fun j5 =>
  (g_days_split n (wi (a1minute + j5)) 1440).bind fun r8 =>
  some (r8.1, r8.2, 0))
theorem g_days_Local_ok (n : Nat) (a0c : GCl) (a1minute : Int) : ∀ r, g_days_Local n a0c a1minute = some r → PCall Try.prog 95 [ag (GCl.cs a0c), I a1minute] (.ret (.tup [I r.1, I r.2.1, I r.2.2])) := by
 refine pcall_sim (X := fun r : Int × Int × Int => AEnd.ret (.tup [I r.1, I r.2.1, I r.2.2])) Try.func95 rfl Try.ntmps95 rfl ?_
 unfold g_days_Local
 refine sR tfm ⟨[1, 2], [2], [], []⟩ ⟨[(1, I a1minute), (2, .ptr 2 0)], [(2, .box 28 (bxc (GCl.cs a0c)))]⟩ krf ?_
 refine sS ?_
 refine sim_bind (fun j1 => ⟨[(1, I a1minute), (2, .ptr 2 0), (20, B j1)], [(2, .box 28 (bxc (GCl.cs a0c)))]⟩ : Bool → St) ?_ ?_
 ·refine sG ?_
  refine xR 1 krf ?_
  refine xC [] krf (g_days_Valid_ok n a0c) krf krf (fun _ => by kernel_rfl) (fun r2 => ?_)
  refine xR 2 krf ?_
  refine xS (!r2) (fun h3 => ?_) (fun h3 => ?_)
  ·refine xN (want_ft krf h3) krf ?_
   refine xR 3 krf ?_
   refine xE ?_
   exact nq_n true ⟨[1, 2, 20], [2], [], []⟩ krf
  ·refine xO (want_ff krf h3) krf ?_
   refine xC [] krf (g_days_inside_ok n a1minute 0 52560000) krf krf (fun _ => by kernel_rfl) (fun r4 => ?_)
   refine xR 2 krf ?_
   refine xE ?_
   exact nq_n (!r4) ⟨[1, 2, 20], [2], [], []⟩ krf
 ·rintro j1
  refine sC j1 krf ?_ ?_
  ·refine sR tfm ⟨[4, 5, 6], [], [], []⟩ ⟨[(4, I 0), (5, I 0), (6, I 1)], []⟩ krf ?_
   refine sT ?_
   refine sq_r ?_
   exact qR (.id) krf krf krf
  ·refine sK ?_
   refine sN ⟨[1, 2], [2], [], []⟩ ⟨[(1, I a1minute), (2, .ptr 2 0)], [(2, .box 28 (bxc (GCl.cs a0c)))]⟩ krf ?_
   refine sR tfm ⟨[1, 2, 7], [2], [], []⟩ ⟨[(1, I a1minute), (2, .ptr 2 0), (7, I a0c.Offset)], [(2, .box 28 (bxc (GCl.cs a0c)))]⟩ krf ?_
   refine sS ?_
   refine sG ?_
   refine xs_inline [] [] [] [] [] krf Try.func42 rfl Try.ntmps42 rfl krf krf krf ?_
   refine sR tfm ⟨[], [], [], []⟩ ⟨[], []⟩ krf ?_
   refine sR tfm ⟨[0, 1], [], [], []⟩ ⟨[(0, .p (.val (.func (.func 74) #[] #[]))), (1, .p (.val (.func (.func 75) #[] #[])))], []⟩ krf ?_
   refine sT ?_
   refine iq_ret (.id) [] [] (.tup [.p (.val (.func (.func 74) #[] #[])), .p (.val (.func (.func 75) #[] #[]))]) krf krf ?_
   refine kr0 ?_
   refine xR 5 krf ?_
   refine xE ?_
   refine sN ⟨[1, 2, 7, 8], [2], [], []⟩ ⟨[(1, I a1minute), (2, .ptr 2 0), (7, I a0c.Offset), (8, .p (.val (.func (.func 74) #[] #[])))], [(2, .box 28 (bxc (GCl.cs a0c)))]⟩ krf ?_
   refine sim_bind (fun j5 => ⟨[(1, I a1minute), (7, I j5)], []⟩ : Int → St) ?_ ?_
   ·refine sS ?_
    refine sG ?_
    refine xR 4 krf ?_
    refine xC [] krf (g_days_last_api_Change_ok n a0c.Changes a1minute) krf krf (fun _ => by kernel_rfl) (fun r6 => ?_)
    refine xR 1 krf ?_
    refine xE ?_
    refine sN ⟨[1, 2, 7, 10], [2], [], []⟩ ⟨[(1, I a1minute), (2, .ptr 2 0), (7, I a0c.Offset), (10, I r6)], [(2, .box 28 (bxc (GCl.cs a0c)))]⟩ krf ?_
    refine sR tfm ⟨[1, 2, 7, 10, 33], [2], [], []⟩ ⟨[(1, I a1minute), (2, .ptr 2 0), (7, I a0c.Offset), (10, I r6), (33, B (leI 0 r6))], [(2, .box 28 (bxc (GCl.cs a0c)))]⟩ krf ?_
    refine sC (leI 0 r6) krf ?_ ?_
    ·refine sG ?_
     refine xR 3 krf ?_
     refine xG krf krf (aop_idx (e := 78) (S := 2) (enc := GCh.cs) (l := a0c.Changes) (k := .i64) (n := r6) (sv := .p (.sl 2 (List.map GCh.cs a0c.Changes))) rfl krf krf krf krf krf) (fun x7 => ?_)
     refine xR 3 krf ?_
     refine xE ?_
     exact nq_n x7.Offset ⟨[1, 7], [], [], []⟩ krf
    ·refine sK ?_
     exact nq_n a0c.Offset ⟨[1, 7], [], [], []⟩ krf
   ·rintro j5
    refine sS ?_
    refine sG ?_
    refine xR 3 krf ?_
    refine xC [] krf (g_days_split_ok n (wi (a1minute + j5)) 1440) krf krf (fun _ => by kernel_rfl) (fun r8 => ?_)
    refine xR 5 krf ?_
    refine xE ?_
    refine sN ⟨[11, 12], [], [], []⟩ ⟨[(11, I r8.1), (12, I r8.2)], []⟩ krf ?_
    refine sR tfm ⟨[4, 5, 6], [], [], []⟩ ⟨[(4, I r8.1), (5, I r8.2), (6, I 0)], []⟩ krf ?_
    refine sT ?_
    exact qR (.id) krf krf krf
def g_days_last_int_l1 (n : Nat) (a0list : List Int) (a1number : Int) (recl1 : (Int × Int) → Option Int) (l1_1 : Int) (l1_2 : Int) : Option Int :=
 cond (ltI l1_1 l1_2)
  ((getI a0list (wi (l1_1 + (wi (Int.tdiv (wi ((wi (l1_2 - l1_1)) + 1)) 2))))).bind fun x2 =>
  (g_days_keys_2 n x2).bind fun r3 =>
  cond (leI r3 a1number)
   (recl1 (wi (l1_1 + (wi (Int.tdiv (wi ((wi (l1_2 - l1_1)) + 1)) 2))), l1_2))
   (recl1 (l1_1, wi ((wi (l1_1 + (wi (Int.tdiv (wi ((wi (l1_2 - l1_1)) + 1)) 2)))) - 1))))
  (some l1_1)
def g_days_last_int (n : Nat) (a0list : List Int) (a1number : Int) : Option Int :=
 loopN (fun recl1 (l1_1, l1_2) => g_days_last_int_l1 n a0list a1number recl1 l1_1 l1_2) n ((-1), wi ((lenI (List.map ci a0list)) - 1))
theorem g_days_last_int_ok (n : Nat) (a0list : List Int) (a1number : Int) : ∀ r, g_days_last_int n a0list a1number = some r → PCall Try.prog 108 [.p (.sl 1 (List.map ci a0list)), I a1number, .p (.val (.func (.func 75) #[] #[]))] (.ret (I r)) := by
 refine pcall_sim (X := fun r : Int => AEnd.ret (I r)) Try.func108 rfl Try.ntmps108 rfl ?_
 unfold g_days_last_int
 refine sR tfm ⟨[0, 1, 2], [], [], []⟩ ⟨[(0, .p (.sl 1 (List.map ci a0list))), (1, I a1number), (2, .p (.val (.func (.func 75) #[] #[])))], []⟩ krf ?_
 refine sR tfm ⟨[0, 1, 2, 7, 8], [], [], []⟩ ⟨[(0, .p (.sl 1 (List.map ci a0list))), (1, I a1number), (2, .p (.val (.func (.func 75) #[] #[]))), (7, I (-1)), (8, I (wi ((lenI (List.map ci a0list)) - 1)))], []⟩ krf ?_
 refine sS ?_
 refine sB ?_
 refine sim_loop (fun (l1_1, l1_2) => ⟨[(0, .p (.sl 1 (List.map ci a0list))), (1, I a1number), (2, .p (.val (.func (.func 75) #[] #[]))), (7, I l1_1), (8, I l1_2)], []⟩ : (Int × Int) → St) (weak_shr (K := ⟨[0, 1, 2, 7, 8], [], [], []⟩) krf) ?_
 rintro recl1 ⟨l1_1, l1_2⟩
 show SimE (g_days_last_int_l1 n a0list a1number recl1 l1_1 l1_2) _ _ _ _ _ _
 unfold g_days_last_int_l1
 refine sS ?_
 refine sR tfm ⟨[0, 1, 2, 7, 8, 15], [], [], []⟩ ⟨[(0, .p (.sl 1 (List.map ci a0list))), (1, I a1number), (2, .p (.val (.func (.func 75) #[] #[]))), (7, I l1_1), (8, I l1_2), (15, B (ltI l1_1 l1_2))], []⟩ krf ?_
 refine sC (ltI l1_1 l1_2) krf ?_ ?_
 ·refine sK ?_
  refine sN ⟨[0, 1, 2, 7, 8], [], [], []⟩ ⟨[(0, .p (.sl 1 (List.map ci a0list))), (1, I a1number), (2, .p (.val (.func (.func 75) #[] #[]))), (7, I l1_1), (8, I l1_2)], []⟩ krf ?_
  refine sB ?_
  refine sR tfm ⟨[0, 1, 2, 7, 8, 9], [], [], []⟩ ⟨[(0, .p (.sl 1 (List.map ci a0list))), (1, I a1number), (2, .p (.val (.func (.func 75) #[] #[]))), (7, I l1_1), (8, I l1_2), (9, I (wi (l1_1 + (wi (Int.tdiv (wi ((wi (l1_2 - l1_1)) + 1)) 2)))))], []⟩ krf ?_
  refine sS ?_
  refine sG ?_
  refine xR 3 krf ?_
  refine xG krf krf (aop_idx (e := 3) (S := 1) (enc := ci) (l := a0list) (k := .i64) (n := wi (l1_1 + (wi (Int.tdiv (wi ((wi (l1_2 - l1_1)) + 1)) 2)))) (sv := .p (.sl 1 (List.map ci a0list))) rfl krf krf krf krf krf) (fun x2 => ?_)
  refine xR 1 krf ?_
  refine xC [] krf (g_days_keys_2_ok n x2) krf krf (fun _ => by kernel_rfl) (fun r3 => ?_)
  refine xR 2 krf ?_
  refine xE ?_
  refine sN ⟨[0, 1, 2, 7, 8, 9, 30], [], [], []⟩ ⟨[(0, .p (.sl 1 (List.map ci a0list))), (1, I a1number), (2, .p (.val (.func (.func 75) #[] #[]))), (7, I l1_1), (8, I l1_2), (9, I (wi (l1_1 + (wi (Int.tdiv (wi ((wi (l1_2 - l1_1)) + 1)) 2))))), (30, B (leI r3 a1number))], []⟩ krf ?_
  refine sC (leI r3 a1number) krf ?_ ?_
  ·refine sL tfm krf ?_
   refine bq_n ?_
   exact kq_n (wi (l1_1 + (wi (Int.tdiv (wi ((wi (l1_2 - l1_1)) + 1)) 2))), l1_2) ⟨[0, 1, 2, 7, 8], [], [], []⟩ krf
  ·refine sL tfm krf ?_
   refine bq_n ?_
   exact kq_n (l1_1, wi ((wi (l1_1 + (wi (Int.tdiv (wi ((wi (l1_2 - l1_1)) + 1)) 2)))) - 1)) ⟨[0, 1, 2, 7, 8], [], [], []⟩ krf
 ·refine sim_exit ?_
  refine sq_x ?_
  refine kq_x ?_
  refine bq_hit ?_
  refine sN ⟨[7], [], [], []⟩ ⟨[(7, I l1_1)], []⟩ krf ?_
  refine sR tfm ⟨[6], [], [], []⟩ ⟨[(6, I l1_1)], []⟩ krf ?_
  refine sT ?_
  exact qR (.id) krf krf krf
def g_days_week (n : Nat) : Option (Int × Int × Int × Int × Int × Int × Int) :=
 some (0, 0, 0, 0, 0, 1, 2)
theorem g_days_week_ok (n : Nat) : ∀ r, g_days_week n = some r → PCall Try.prog 109 [] (.ret (.agg [I r.1, I r.2.1, I r.2.2.1, I r.2.2.2.1, I r.2.2.2.2.1, I r.2.2.2.2.2.1, I r.2.2.2.2.2.2])) := by
 refine pcall_sim (X := fun r : Int × Int × Int × Int × Int × Int × Int => AEnd.ret (.agg [I r.1, I r.2.1, I r.2.2.1, I r.2.2.2.1, I r.2.2.2.2.1, I r.2.2.2.2.2.1, I r.2.2.2.2.2.2])) Try.func109 rfl Try.ntmps109 rfl ?_
 unfold g_days_week
 refine sR tfm ⟨[0], [0], [], []⟩ ⟨[(0, .ptr 0 0)], [(0, .box 126 [I 0, I 0, I 0, I 0, I 0, I 0, I 0])]⟩ krf ?_
 refine sR tfm ⟨[0], [0], [], []⟩ ⟨[(0, .ptr 0 0)], [(0, .box 126 [I 0, I 0, I 0, I 0, I 0, I 1, I 2])]⟩ krf ?_
 refine sT ?_
 exact qR (.id) krf krf krf
def g_days_Type (n : Nat) (a0c : GCl) (a1day : Int) : Option (Int × Int) :=
 ((g_days_Valid n a0c).bind fun r2 =>
 cond (!r2)
  (some true)
  ((g_days_inside n a1day (-1) 36501).bind fun r4 =>
  some (!r4))).bind fun j1 =>
 cond j1
  (some (0, 1))
  ((g_days_last_int n a0c.Holidays a1day).bind fun r5 =>
  (cond (leI 0 r5)
   ((getI a0c.Holidays r5).bind fun x8 =>
   some (eqI x8 a1day))
   (some false)).bind fun j6 =>
  cond j6
   (some (2, 0))
   ((g_days_week n).bind fun r9 =>
   (g_days_split n a1day 7).bind fun r10 =>
   (getI [r9.1, r9.2.1, r9.2.2.1, r9.2.2.2.1, r9.2.2.2.2.1, r9.2.2.2.2.2.1, r9.2.2.2.2.2.2] r10.2).bind fun x11 =>
   some (x11, 0)))
theorem g_days_Type_ok (n : Nat) (a0c : GCl) (a1day : Int) : ∀ r, g_days_Type n a0c a1day = some r → PCall Try.prog 96 [ag (GCl.cs a0c), I a1day] (.ret (.tup [I r.1, I r.2])) := by
 refine pcall_sim (X := fun r : Int × Int => AEnd.ret (.tup [I r.1, I r.2])) Try.func96 rfl Try.ntmps96 rfl ?_
 unfold g_days_Type
 refine sR tfm ⟨[1, 2], [2], [], []⟩ ⟨[(1, I a1day), (2, .ptr 2 0)], [(2, .box 28 (bxc (GCl.cs a0c)))]⟩ krf ?_
 refine sS ?_
 refine sim_bind (fun j1 => ⟨[(1, I a1day), (2, .ptr 2 0), (19, B j1)], [(2, .box 28 (bxc (GCl.cs a0c)))]⟩ : Bool → St) ?_ ?_
 ·refine sG ?_
  refine xR 1 krf ?_
  refine xC [] krf (g_days_Valid_ok n a0c) krf krf (fun _ => by kernel_rfl) (fun r2 => ?_)
  refine xR 2 krf ?_
  refine xS (!r2) (fun h3 => ?_) (fun h3 => ?_)
  ·refine xN (want_ft krf h3) krf ?_
   refine xR 3 krf ?_
   refine xE ?_
   exact nq_n true ⟨[1, 2, 19], [2], [], []⟩ krf
  ·refine xO (want_ff krf h3) krf ?_
   refine xC [] krf (g_days_inside_ok n a1day (-1) 36501) krf krf (fun _ => by kernel_rfl) (fun r4 => ?_)
   refine xR 2 krf ?_
   refine xE ?_
   exact nq_n (!r4) ⟨[1, 2, 19], [2], [], []⟩ krf
 ·rintro j1
  refine sC j1 krf ?_ ?_
  ·refine sR tfm ⟨[4, 5], [], [], []⟩ ⟨[(4, I 0), (5, I 1)], []⟩ krf ?_
   refine sT ?_
   refine sq_r ?_
   exact qR (.id) krf krf krf
  ·refine sK ?_
   refine sN ⟨[1, 2], [2], [], []⟩ ⟨[(1, I a1day), (2, .ptr 2 0)], [(2, .box 28 (bxc (GCl.cs a0c)))]⟩ krf ?_
   refine sS ?_
   refine sG ?_
   refine xs_inline [] [] [] [] [] krf Try.func42 rfl Try.ntmps42 rfl krf krf krf ?_
   refine sR tfm ⟨[], [], [], []⟩ ⟨[], []⟩ krf ?_
   refine sR tfm ⟨[0, 1], [], [], []⟩ ⟨[(0, .p (.val (.func (.func 74) #[] #[]))), (1, .p (.val (.func (.func 75) #[] #[])))], []⟩ krf ?_
   refine sT ?_
   refine iq_ret (.id) [] [] (.tup [.p (.val (.func (.func 74) #[] #[])), .p (.val (.func (.func 75) #[] #[]))]) krf krf ?_
   refine kr0 ?_
   refine xR 5 krf ?_
   refine xE ?_
   refine sN ⟨[1, 2, 7], [2], [], []⟩ ⟨[(1, I a1day), (2, .ptr 2 0), (7, .p (.val (.func (.func 75) #[] #[])))], [(2, .box 28 (bxc (GCl.cs a0c)))]⟩ krf ?_
   refine sS ?_
   refine sS ?_
   refine sG ?_
   refine xR 4 krf ?_
   refine xC [] krf (g_days_last_int_ok n a0c.Holidays a1day) krf krf (fun _ => by kernel_rfl) (fun r5 => ?_)
   refine xR 1 krf ?_
   refine xE ?_
   refine sN ⟨[1, 2, 8], [2], [], []⟩ ⟨[(1, I a1day), (2, .ptr 2 0), (8, I r5)], [(2, .box 28 (bxc (GCl.cs a0c)))]⟩ krf ?_
   refine sim_bind (fun j6 => ⟨[(1, I a1day), (39, B j6)], []⟩ : Bool → St) ?_ ?_
   ·refine sG ?_
    refine xR 3 krf ?_
    refine xS (leI 0 r5) (fun h7 => ?_) (fun h7 => ?_)
    ·refine xO (want_tt krf h7) krf ?_
     refine xR 2 krf ?_
     refine xG krf krf (aop_idx (e := 3) (S := 1) (enc := ci) (l := a0c.Holidays) (k := .i64) (n := r5) (sv := .p (.sl 1 (List.map ci a0c.Holidays))) rfl krf krf krf krf krf) (fun x8 => ?_)
     refine xR 4 krf ?_
     refine xE ?_
     exact nq_n (eqI x8 a1day) ⟨[1, 39], [], [], []⟩ krf
    ·refine xN (want_tf krf h7) krf ?_
     refine xR 7 krf ?_
     refine xE ?_
     exact nq_n false ⟨[1, 39], [], [], []⟩ krf
   ·rintro j6
    refine sC j6 krf ?_ ?_
    ·refine sR tfm ⟨[4, 5], [], [], []⟩ ⟨[(4, I 2), (5, I 0)], []⟩ krf ?_
     refine sT ?_
     refine sq_r ?_
     exact qR (.id) krf krf krf
    ·refine sK ?_
     refine sN ⟨[1], [], [], []⟩ ⟨[(1, I a1day)], []⟩ krf ?_
     refine sS ?_
     refine sG ?_
     refine xC [] krf (g_days_week_ok n) krf krf (fun _ => by kernel_rfl) (fun r9 => ?_)
     refine xR 2 krf ?_
     refine xE ?_
     refine sN ⟨[1, 9], [9], [], []⟩ ⟨[(1, I a1day), (9, .ptr 9 0)], [(9, .box 126 [I r9.1, I r9.2.1, I r9.2.2.1, I r9.2.2.2.1, I r9.2.2.2.2.1, I r9.2.2.2.2.2.1, I r9.2.2.2.2.2.2])]⟩ krf ?_
     refine sS ?_
     refine sG ?_
     refine xR 1 krf ?_
     refine xC [] krf (g_days_split_ok n a1day 7) krf krf (fun _ => by kernel_rfl) (fun r10 => ?_)
     refine xR 5 krf ?_
     refine xE ?_
     refine sN ⟨[9, 11], [9], [], []⟩ ⟨[(9, .ptr 9 0), (11, I r10.2)], [(9, .box 126 [I r9.1, I r9.2.1, I r9.2.2.1, I r9.2.2.2.1, I r9.2.2.2.2.1, I r9.2.2.2.2.2.1, I r9.2.2.2.2.2.2])]⟩ krf ?_
     refine sS ?_
     refine sG ?_
     refine xR 1 krf ?_
     refine xs_getH krf krf (aop_arrL (b := 9) (k := .i64) (n := r10.2) (len := 7) (e := 3) (l := [r9.1, r9.2.1, r9.2.2.1, r9.2.2.2.1, r9.2.2.2.2.1, r9.2.2.2.2.2.1, r9.2.2.2.2.2.2]) rfl krf krf krf krf rfl) (fun x11 hx11 => ?_)
     refine xs_u krf krf (aop_ldL (g := I) (l := [r9.1, r9.2.1, r9.2.2.1, r9.2.2.2.1, r9.2.2.2.2.1, r9.2.2.2.2.2.1, r9.2.2.2.2.2.2]) (tb := 126) (b := 9) (n := r10.2) (v := x11) rfl krf krf krf (getI_at hx11)) ?_
     refine xR 2 krf ?_
     refine xE ?_
     refine sN ⟨[4, 5], [], [], []⟩ ⟨[(4, I x11), (5, I 0)], []⟩ krf ?_
     refine sT ?_
     exact qR (.id) krf krf krf
def g_t_Applies (n : Nat) (a0a : GAr) (a1c : GCl) (a2minute : Int) : Option Bool :=
 (g_t_validArticle n a0a).bind fun r1 =>
 cond (!r1)
  (some false)
  ((g_days_Local n a1c a2minute).bind fun r2 =>
  (cond (!eqI r2.2.2 0)
   (some true)
   (cond (ltI r2.2.1 a0a.From)
    (some true)
    (some (leI a0a.To r2.2.1)))).bind fun j3 =>
  cond j3
   (some false)
   ((g_days_Type n a1c r2.1).bind fun r6 =>
   cond (eqI r6.2 0)
    (cond (!ltI r6.1 0) (
     some (!eqI (bAnd .i64 a0a.Days (shlI .i64 1 r6.1)) 0)) none)
    (some false)))
theorem g_t_Applies_ok (n : Nat) (a0a : GAr) (a1c : GCl) (a2minute : Int) : ∀ r, g_t_Applies n a0a a1c a2minute = some r → PCall Try.prog 79 [ag (GAr.cs a0a), ag (GCl.cs a1c), I a2minute] (.ret (B r)) := by
 refine pcall_sim (X := fun r : Bool => AEnd.ret (B r)) Try.func79 rfl Try.ntmps79 rfl ?_
 unfold g_t_Applies
 refine sR tfm ⟨[2, 3, 4], [3, 4], [], []⟩ ⟨[(2, I a2minute), (3, .ptr 3 0), (4, .ptr 4 0)], [(3, .box 44 (bxc (GAr.cs a0a))), (4, .box 28 (bxc (GCl.cs a1c)))]⟩ krf ?_
 refine sS ?_
 refine sS ?_
 refine sG ?_
 refine xR 1 krf ?_
 refine xC [] krf (g_t_validArticle_ok n a0a) krf krf (fun _ => by kernel_rfl) (fun r1 => ?_)
 refine xR 1 krf ?_
 refine xE ?_
 refine sN ⟨[2, 3, 4, 13], [3, 4], [], []⟩ ⟨[(2, I a2minute), (3, .ptr 3 0), (4, .ptr 4 0), (13, B (!r1))], [(3, .box 44 (bxc (GAr.cs a0a))), (4, .box 28 (bxc (GCl.cs a1c)))]⟩ krf ?_
 refine sC (!r1) krf ?_ ?_
 ·refine sR tfm ⟨[6], [], [], []⟩ ⟨[(6, B false)], []⟩ krf ?_
  refine sT ?_
  refine sq_r ?_
  exact qR (.id) krf krf krf
 ·refine sK ?_
  refine sN ⟨[2, 3, 4], [3, 4], [], []⟩ ⟨[(2, I a2minute), (3, .ptr 3 0), (4, .ptr 4 0)], [(3, .box 44 (bxc (GAr.cs a0a))), (4, .box 28 (bxc (GCl.cs a1c)))]⟩ krf ?_
  refine sS ?_
  refine sG ?_
  refine xR 2 krf ?_
  refine xC [] krf (g_days_Local_ok n a1c a2minute) krf krf (fun _ => by kernel_rfl) (fun r2 => ?_)
  refine xR 7 krf ?_
  refine xE ?_
  refine sN ⟨[3, 4, 7, 8, 9], [3, 4], [], []⟩ ⟨[(3, .ptr 3 0), (4, .ptr 4 0), (7, I r2.1), (8, I r2.2.1), (9, I r2.2.2)], [(3, .box 44 (bxc (GAr.cs a0a))), (4, .box 28 (bxc (GCl.cs a1c)))]⟩ krf ?_
  refine sS ?_
  refine sim_bind (fun j3 => ⟨[(3, .ptr 3 0), (4, .ptr 4 0), (7, I r2.1), (34, B j3)], [(3, .box 44 (bxc (GAr.cs a0a))), (4, .box 28 (bxc (GCl.cs a1c)))]⟩ : Bool → St) ?_ ?_
  ·refine sG ?_
   refine xR 3 krf ?_
   refine xS (!eqI r2.2.2 0) (fun h4 => ?_) (fun h4 => ?_)
   ·refine xN (want_ft krf h4) krf ?_
    refine xR 10 krf ?_
    refine xE ?_
    exact nq_n true ⟨[3, 4, 7, 34], [3, 4], [], []⟩ krf
   ·refine xO (want_ff krf h4) krf ?_
    refine xR 5 krf ?_
    refine xS (ltI r2.2.1 a0a.From) (fun h5 => ?_) (fun h5 => ?_)
    ·refine xN (want_ft krf h5) krf ?_
     refine xR 4 krf ?_
     refine xE ?_
     exact nq_n true ⟨[3, 4, 7, 34], [3, 4], [], []⟩ krf
    ·refine xO (want_ff krf h5) krf ?_
     refine xR 4 krf ?_
     refine xE ?_
     exact nq_n (leI a0a.To r2.2.1) ⟨[3, 4, 7, 34], [3, 4], [], []⟩ krf
  ·rintro j3
   refine sC j3 krf ?_ ?_
   ·refine sR tfm ⟨[6], [], [], []⟩ ⟨[(6, B false)], []⟩ krf ?_
    refine sT ?_
    refine sq_r ?_
    exact qR (.id) krf krf krf
   ·refine sK ?_
    refine sN ⟨[3, 4, 7], [3, 4], [], []⟩ ⟨[(3, .ptr 3 0), (4, .ptr 4 0), (7, I r2.1)], [(3, .box 44 (bxc (GAr.cs a0a))), (4, .box 28 (bxc (GCl.cs a1c)))]⟩ krf ?_
    refine sS ?_
    refine sG ?_
    refine xR 2 krf ?_
    refine xC [] krf (g_days_Type_ok n a1c r2.1) krf krf (fun _ => by kernel_rfl) (fun r6 => ?_)
    refine xR 5 krf ?_
    refine xE ?_
    refine sN ⟨[3, 9, 10], [3], [], []⟩ ⟨[(3, .ptr 3 0), (9, I r6.2), (10, I r6.1)], [(3, .box 44 (bxc (GAr.cs a0a)))]⟩ krf ?_
    refine sS ?_
    refine sim_drw tfm rfl ?_
    refine xR 3 krf ?_
    refine xS (eqI r6.2 0) (fun h7 => ?_) (fun h7 => ?_)
    ·refine xO (want_tt krf h7) krf ?_
     refine xR 2 krf ?_
     refine xF krf krf (aop_shl (k := .i64) (k' := .i64) (a := 1) (b := r6.1) rfl krf krf) ?_
     refine xR 4 krf ?_
     refine xs_endD krf ?_
     refine sN ⟨[6], [], [], []⟩ ⟨[(6, B (!eqI (bAnd .i64 a0a.Days (shlI .i64 1 r6.1)) 0))], []⟩ krf ?_
     refine sT ?_
     exact qR (.id) krf krf krf
    ·refine xN (want_tf krf h7) krf ?_
     refine xR 7 krf ?_
     refine xs_endD krf ?_
     refine sN ⟨[6], [], [], []⟩ ⟨[(6, B false)], []⟩ krf ?_
     refine sT ?_
     exact qR (.id) krf krf krf
def g_money_inside (n : Nat) (a0n : Int) (a1least : Int) (a2greatest : Int) : Option Bool :=
 cond (leI a1least a0n)
  (some (leI a0n a2greatest))
  (some false)
theorem g_money_inside_ok (n : Nat) (a0n : Int) (a1least : Int) (a2greatest : Int) : ∀ r, g_money_inside n a0n a1least a2greatest = some r → PCall Try.prog 55 [I a0n, I a1least, I a2greatest] (.ret (B r)) := by
 refine pcall_sim (X := fun r : Bool => AEnd.ret (B r)) Try.func55 rfl Try.ntmps55 rfl ?_
 unfold g_money_inside
 refine sR tfm ⟨[0, 1, 2, 6], [], [], []⟩ ⟨[(0, I a0n), (1, I a1least), (2, I a2greatest), (6, B false)], []⟩ krf ?_
 refine sS ?_
 refine sG ?_
 refine xR 4 krf ?_
 refine xS (leI a1least a0n) (fun h1 => ?_) (fun h1 => ?_)
 ·refine xO (want_tt krf h1) krf ?_
  refine xR 4 krf ?_
  refine xE ?_
  refine sN ⟨[6], [], [], []⟩ ⟨[(6, B (leI a0n a2greatest))], []⟩ krf ?_
  refine sT ?_
  exact qR (.id) krf krf krf
 ·refine xN (want_tf krf h1) krf ?_
  refine xR 4 krf ?_
  refine xE ?_
  refine sN ⟨[6], [], [], []⟩ ⟨[(6, B false)], []⟩ krf ?_
  refine sT ?_
  exact qR (.id) krf krf krf
def g_money_isAmount (n : Nat) (a0n : Int) : Option Bool :=
 (g_money_inside n a0n 0 1000000000).bind fun r1 =>
 some r1
theorem g_money_isAmount_ok (n : Nat) (a0n : Int) : ∀ r, g_money_isAmount n a0n = some r → PCall Try.prog 54 [I a0n] (.ret (B r)) := by
 refine pcall_sim (X := fun r : Bool => AEnd.ret (B r)) Try.func54 rfl Try.ntmps54 rfl ?_
 unfold g_money_isAmount
 refine sR tfm ⟨[0], [], [], []⟩ ⟨[(0, I a0n)], []⟩ krf ?_
 refine sS ?_
 refine sG ?_
 refine xR 1 krf ?_
 refine xC [] krf (g_money_inside_ok n a0n 0 1000000000) krf krf (fun _ => by kernel_rfl) (fun r1 => ?_)
 refine xR 1 krf ?_
 refine xE ?_
 refine sN ⟨[2], [], [], []⟩ ⟨[(2, B r1)], []⟩ krf ?_
 refine sT ?_
 exact qR (.id) krf krf krf
def g_money_need (n : Nat) (a0holds : Bool) (a1err : Int) : Option (Except Int Unit) :=
 cond (!a0holds)
  (some (.error a1err))
  (some (.ok ()))
theorem g_money_need_ok (n : Nat) (a0holds : Bool) (a1err : Int) : ∀ r, g_money_need n a0holds a1err = some r → PCall Try.prog 53 [B a0holds, I a1err] (excE (fun r : Unit => (.tup [] : AV)) (fun e : Int => (.ifc 113 (.agg [I e]) : AV)) r) := by
 refine pcall_sim (X := excE (fun r : Unit => (.tup [] : AV)) (fun e : Int => (.ifc 113 (.agg [I e]) : AV))) Try.func53 rfl Try.ntmps53 rfl ?_
 unfold g_money_need
 refine sR tfm ⟨[1, 5], [], [], []⟩ ⟨[(1, I a1err), (5, B (!a0holds))], []⟩ krf ?_
 refine sC (!a0holds) krf ?_ ?_
 ·refine sG ?_
  refine xR 3 krf ?_
  refine xs_panic 113 (.agg [I a1err]) krf rfl krf ?_
  exact rq_p krf krf
 ·refine sK ?_
  exact rq_n (.id) krf krf krf
def g_money_half (n : Nat) (a0n : Int) (a1by : Int) : Option Int :=
 cond (!eqI (wi (2 * a1by)) 0) (
  some (wi (Int.tdiv (wi ((wi (2 * a0n)) + a1by)) (wi (2 * a1by))))) none
theorem g_money_half_ok (n : Nat) (a0n : Int) (a1by : Int) : ∀ r, g_money_half n a0n a1by = some r → PCall Try.prog 57 [I a0n, I a1by] (.ret (I r)) := by
 refine pcall_sim (X := fun r : Int => AEnd.ret (I r)) Try.func57 rfl Try.ntmps57 rfl ?_
 unfold g_money_half
 refine sR tfm ⟨[0, 1], [], [], []⟩ ⟨[(0, I a0n), (1, I a1by)], []⟩ krf ?_
 refine sS ?_
 refine sG ?_
 refine xR 6 krf ?_
 refine xF krf krf (aop_quo (k := .i64) (a := wi ((wi (2 * a0n)) + a1by)) (b := wi (2 * a1by)) rfl krf krf) ?_
 refine xR 1 krf ?_
 refine xE ?_
 refine sN ⟨[4], [], [], []⟩ ⟨[(4, I (wi (Int.tdiv (wi ((wi (2 * a0n)) + a1by)) (wi (2 * a1by)))))], []⟩ krf ?_
 refine sT ?_
 exact qR (.id) krf krf krf
def g_money_checked (n : Nat) (a0n : Int) : Option (Except Int Int) :=
 (g_money_isAmount n a0n).bind fun r1 =>
 (g_money_need n r1 3).bind (exc (fun r2 =>
  some (.ok a0n)) fun e3 => some (.error e3))
theorem g_money_checked_ok (n : Nat) (a0n : Int) : ∀ r, g_money_checked n a0n = some r → PCall Try.prog 56 [I a0n] (excE (fun r : Int => (I r : AV)) (fun e : Int => (.ifc 113 (.agg [I e]) : AV)) r) := by
 refine pcall_sim (X := excE (fun r : Int => (I r : AV)) (fun e : Int => (.ifc 113 (.agg [I e]) : AV))) Try.func56 rfl Try.ntmps56 rfl ?_
 unfold g_money_checked
 refine sR tfm ⟨[0], [], [], []⟩ ⟨[(0, I a0n)], []⟩ krf ?_
 refine sS ?_
 refine sG ?_
 refine xR 1 krf ?_
 refine xC [] krf (g_money_isAmount_ok n a0n) krf krf (fun _ => by kernel_rfl) (fun r1 => ?_)
 refine xs_exc [] krf (g_money_need_ok n r1 3) krf krf (fun _ => by kernel_rfl) (fun _ => by kernel_rfl) (fun r2 => ?_) (fun e3 => ?_)
 ·refine xE ?_
  refine sN ⟨[0], [], [], []⟩ ⟨[(0, I a0n)], []⟩ krf ?_
  refine sR tfm ⟨[2], [], [], []⟩ ⟨[(2, I a0n)], []⟩ krf ?_
  refine sT ?_
  exact qR (.id) krf krf krf
 ·refine sq_p ?_
  exact rq_p krf krf
def g_money_caught (n : Nat) (a1err : Int) : Option Int :=
 some a1err
theorem g_money_caught_ok (n : Nat) (a1err : Int) : ∀ r, g_money_caught n a1err = some r → ACall Try.prog 52 [.p (.val (.nilIface)), .ptr 1001 0] (Go.Abs.look [(1001, .box 34 [I a1err])]) (heapR (fun r : Int => ((.ret (.tup []), [(1001, .box 34 [I r])]) : AEnd × List (Nat × Blk))) r) := by
 refine acall_sim (X := fun r : Int => ((.ret (.tup []), [(1001, .box 34 [I r])]) : AEnd × List (Nat × Blk))) [(1001, .box 34 [I a1err])] Try.func52 rfl Try.ntmps52 rfl ?_
 unfold g_money_caught
 refine sS ?_
 refine sR tfm ⟨[0, 1, 6, 7], [1001], [], []⟩ ⟨[(0, .p (.val (.nilIface))), (1, .ptr 1001 0), (6, .p (.val (.nilIface))), (7, B true)], [(1001, .box 34 [I a1err])]⟩ krf ?_
 refine sim_condT krf ?_
 refine sT ?_
 refine sq_r ?_
 exact hq_ret (.id) [1001] [] krf krf krf krf
def g_money_caught_2 (n : Nat) (a0x_0 : Int) (a1err : Int) : Option Int :=
 some a0x_0
theorem g_money_caught_2_ok (n : Nat) (a0x_0 : Int) (a1err : Int) : ∀ r, g_money_caught_2 n a0x_0 a1err = some r → ACall Try.prog 52 [.ifc 113 (.agg [I a0x_0]), .ptr 1001 0] (Go.Abs.look [(1001, .box 34 [I a1err])]) (heapR (fun r : Int => ((.ret (.tup []), [(1001, .box 34 [I r])]) : AEnd × List (Nat × Blk))) r) := by
 refine acall_sim (X := fun r : Int => ((.ret (.tup []), [(1001, .box 34 [I r])]) : AEnd × List (Nat × Blk))) [(1001, .box 34 [I a1err])] Try.func52 rfl Try.ntmps52 rfl ?_
 unfold g_money_caught_2
 refine sS ?_
 refine sR tfm ⟨[0, 1, 6, 7], [1001], [], []⟩ ⟨[(0, .ifc 113 (.agg [I a0x_0])), (1, .ptr 1001 0), (6, .ifc 113 (.agg [I a0x_0])), (7, B false)], [(1001, .box 34 [I a1err])]⟩ krf ?_
 refine sim_condF krf ?_
 refine sK ?_
 refine sN ⟨[0, 1, 6, 7], [1001], [], []⟩ ⟨[(0, .ifc 113 (.agg [I a0x_0])), (1, .ptr 1001 0), (6, .ifc 113 (.agg [I a0x_0])), (7, B false)], [(1001, .box 34 [I a1err])]⟩ krf ?_
 refine sR tfm ⟨[0, 1, 4, 5, 6, 7], [4, 1001], [], []⟩ ⟨[(0, .ifc 113 (.agg [I a0x_0])), (1, .ptr 1001 0), (4, .ptr 4 0), (5, B true), (6, .ifc 113 (.agg [I a0x_0])), (7, B false)], [(4, .box 113 [I a0x_0]), (1001, .box 34 [I a1err])]⟩ krf ?_
 refine sS ?_
 refine sR tfm ⟨[0, 1, 4, 6, 7, 14], [4, 1001], [], []⟩ ⟨[(0, .ifc 113 (.agg [I a0x_0])), (1, .ptr 1001 0), (4, .ptr 4 0), (6, .ifc 113 (.agg [I a0x_0])), (7, B false), (14, B false)], [(4, .box 113 [I a0x_0]), (1001, .box 34 [I a1err])]⟩ krf ?_
 refine sim_condF krf ?_
 refine sK ?_
 refine sN ⟨[1, 4, 6, 7], [4, 1001], [], []⟩ ⟨[(1, .ptr 1001 0), (4, .ptr 4 0), (6, .ifc 113 (.agg [I a0x_0])), (7, B false)], [(4, .box 113 [I a0x_0]), (1001, .box 34 [I a1err])]⟩ krf ?_
 refine sL tfm krf ?_
 exact hq_n (.id) [1001] [] krf krf krf krf
def g_money_Times_j1 (n : Nat) (a0price : Int) (a1quantity : Int) (a2per : Int) : Option (Int × Int) :=
 (g_money_half n (wi (a0price * a1quantity)) a2per).bind fun r2 =>
 (g_money_checked n r2).bind (exc (fun r3 =>
  (g_money_caught n 0).bind fun r5 =>
  some (r3, r5)) fun e4 => (g_money_caught_2 n e4 0).bind fun r6 =>
 some (0, r6))
def g_money_Times (n : Nat) (a0price : Int) (a1quantity : Int) (a2per : Int) : Option (Int × Int) :=
 (g_money_isAmount n a0price).bind fun r7 =>
 cond r7
  ((g_money_inside n a1quantity 0 1000000000).bind fun r9 =>
  cond r9
   ((g_money_inside n a2per 1 1000000000).bind fun r11 =>
   (g_money_need n r11 1).bind (exc (fun r12 =>
    g_money_Times_j1 n a0price a1quantity a2per) fun e13 => (g_money_caught_2 n e13 0).bind fun r14 =>
   some (0, r14)))
   ((g_money_need n false 1).bind (exc (fun r15 =>
    g_money_Times_j1 n a0price a1quantity a2per) fun e16 => (g_money_caught_2 n e16 0).bind fun r17 =>
   some (0, r17))))
  ((g_money_need n false 1).bind (exc (fun r18 =>
   g_money_Times_j1 n a0price a1quantity a2per) fun e19 => (g_money_caught_2 n e19 0).bind fun r20 =>
  some (0, r20)))
theorem g_money_Times_okH (n : Nat) (a0price : Int) (a1quantity : Int) (a2per : Int) : ∀ r, g_money_Times n a0price a1quantity a2per = some r → ACall Try.prog 76 [I a0price, I a1quantity, I a2per] (Go.Abs.look []) (heapR (fun r : Int × Int => ((.ret (.tup [I r.1, I r.2]), []) : AEnd × List (Nat × Blk))) r) := by
 refine defer_sim (X := fun r : Int × Int => ((.ret (.tup [I r.1, I r.2]), []) : AEnd × List (Nat × Blk))) [] (⟨Try.f94, _, _, _, 1, _, _, Try.func94, rfl, rfl, rfl, rfl, rfl, rfl, by decide, by decide, rfl, by kernel_rfl⟩ : Catcher Try.prog 94 52) (⟨_, _, _, _, _, 7, 8, _, rfl, rfl, rfl, rfl, rfl, rfl, rfl, by decide⟩ : Deferrer Try.f76 94) 7 Try.func76 Try.ntmps76 rfl krf rfl tfm rfl krf krf krf ?_
 unfold g_money_Times
 refine sP ⟨[0, 1, 2, 6, 7], [2000], [], []⟩ ⟨[(0, I a0price), (1, I a1quantity), (2, I a2per), (6, I 0), (7, .ptr 2000 0)], [(2000, .box 34 [I 0])]⟩ krf ?_
 refine sim_cps (fun _ => ⟨[(0, I a0price), (1, I a1quantity), (2, I a2per), (6, I 0), (7, .ptr 2000 0)], [(2000, .box 34 [I 0])]⟩ : Unit → St) (fun _ => g_money_Times_j1 n a0price a1quantity a2per) ?_ ?_
 ·rintro _
  show SimE (g_money_Times_j1 n a0price a1quantity a2per) _ _ _ _ _ _
  unfold g_money_Times_j1
  refine sS ?_
  refine sG ?_
  refine xR 4 krf ?_
  refine xC [] krf (g_money_half_ok n (wi (a0price * a1quantity)) a2per) krf krf (fun _ => by kernel_rfl) (fun r2 => ?_)
  refine xs_exc [] krf (g_money_checked_ok n r2) krf krf (fun _ => by kernel_rfl) (fun _ => by kernel_rfl) (fun r3 => ?_) (fun e4 => ?_)
  ·refine xR 2 krf ?_
   refine xE ?_
   refine sN ⟨[6, 7], [2000], [], []⟩ ⟨[(6, I r3), (7, .ptr 2000 0)], [(2000, .box 34 [I 0])]⟩ krf ?_
   refine sT ?_
   refine dq_ret ?_
   refine sc_heap [(1001, 2000)] [] [] (g_money_caught_ok n 0) krf krf krf (fun _ => by kernel_rfl) (fun _ => by kernel_rfl) (fun r5 => ?_)
   exact ke_end (.id) [] [] krf krf krf krf
  ·refine sq_p ?_
   refine dq_p ?_
   refine sc_heap [(1001, 2000)] [] [] (g_money_caught_2_ok n e4 0) krf krf krf (fun _ => by kernel_rfl) (fun _ => by kernel_rfl) (fun r6 => ?_)
   exact ke_end (.id) [] [] krf krf krf krf
 ·refine sG ?_
  refine xR 1 krf ?_
  refine xC [] krf (g_money_isAmount_ok n a0price) krf krf (fun _ => by kernel_rfl) (fun r7 => ?_)
  refine xR 1 krf ?_
  refine xS r7 (fun h8 => ?_) (fun h8 => ?_)
  ·refine xO (want_tt krf h8) krf ?_
   refine xC [] krf (g_money_inside_ok n a1quantity 0 1000000000) krf krf (fun _ => by kernel_rfl) (fun r9 => ?_)
   refine xR 2 krf ?_
   refine xS r9 (fun h10 => ?_) (fun h10 => ?_)
   ·refine xO (want_tt krf h10) krf ?_
    refine xC [] krf (g_money_inside_ok n a2per 1 1000000000) krf krf (fun _ => by kernel_rfl) (fun r11 => ?_)
    refine xR 1 krf ?_
    refine xs_exc [] krf (g_money_need_ok n r11 1) krf krf (fun _ => by kernel_rfl) (fun _ => by kernel_rfl) (fun r12 => ?_) (fun e13 => ?_)
    ·refine xE ?_
     exact kq_n (k := fun _ => g_money_Times_j1 n a0price a1quantity a2per) () ⟨[0, 1, 2, 6, 7], [2000], [], []⟩ krf
    ·refine kq_p ?_
     refine dq_p ?_
     refine sc_heap [(1001, 2000)] [] [] (g_money_caught_2_ok n e13 0) krf krf krf (fun _ => by kernel_rfl) (fun _ => by kernel_rfl) (fun r14 => ?_)
     exact ke_end (.id) [] [] krf krf krf krf
   ·refine xN (want_tf krf h10) krf ?_
    refine xR 2 krf ?_
    refine xs_exc [] krf (g_money_need_ok n false 1) krf krf (fun _ => by kernel_rfl) (fun _ => by kernel_rfl) (fun r15 => ?_) (fun e16 => ?_)
    ·refine xE ?_
     exact kq_n (k := fun _ => g_money_Times_j1 n a0price a1quantity a2per) () ⟨[0, 1, 2, 6, 7], [2000], [], []⟩ krf
    ·refine kq_p ?_
     refine dq_p ?_
     refine sc_heap [(1001, 2000)] [] [] (g_money_caught_2_ok n e16 0) krf krf krf (fun _ => by kernel_rfl) (fun _ => by kernel_rfl) (fun r17 => ?_)
     exact ke_end (.id) [] [] krf krf krf krf
  ·refine xN (want_tf krf h8) krf ?_
   refine xR 6 krf ?_
   refine xs_exc [] krf (g_money_need_ok n false 1) krf krf (fun _ => by kernel_rfl) (fun _ => by kernel_rfl) (fun r18 => ?_) (fun e19 => ?_)
   ·refine xE ?_
    exact kq_n (k := fun _ => g_money_Times_j1 n a0price a1quantity a2per) () ⟨[0, 1, 2, 6, 7], [2000], [], []⟩ krf
   ·refine kq_p ?_
    refine dq_p ?_
    refine sc_heap [(1001, 2000)] [] [] (g_money_caught_2_ok n e19 0) krf krf krf (fun _ => by kernel_rfl) (fun _ => by kernel_rfl) (fun r20 => ?_)
    exact ke_end (.id) [] [] krf krf krf krf
theorem g_money_Times_ok (n : Nat) (a0price : Int) (a1quantity : Int) (a2per : Int) : ∀ r, g_money_Times n a0price a1quantity a2per = some r → PCall Try.prog 76 [I a0price, I a1quantity, I a2per] (.ret (.tup [I r.1, I r.2])) := fun r h => pcall_of (g_money_Times_okH n a0price a1quantity a2per r h) rfl
def g_quote_quoted_count_l2 (n : Nat) (a0q : GQuoteQuoted) (a1a : GAr) (recl2 : (Int × Int) → Option Int) (l2_1 : Int) (l2_2 : Int) : Option Int :=
 cond (ltI l2_1 a0q.to_)
  (((g_t_Applies n a1a a0q.calendar l2_1).bind fun r4 =>
  cond r4
   (some (wi (l2_2 + 1)))
   (some l2_2)).bind fun j3 =>
  recl2 (wi (l2_1 + 1), j3))
  (some l2_2)
def g_quote_quoted_count (n : Nat) (a0q : GQuoteQuoted) (a1a : GAr) : Option Int :=
 loopN (fun recl2 (l2_1, l2_2) => g_quote_quoted_count_l2 n a0q a1a recl2 l2_1 l2_2) n (a0q.from_, 0)
theorem g_quote_quoted_count_ok (n : Nat) (a0q : GQuoteQuoted) (a1a : GAr) : ∀ r, g_quote_quoted_count n a0q a1a = some r → PCall Try.prog 50 [.eptr (GQuoteQuoted.cs a0q), ag (GAr.cs a1a)] (.ret (I r)) := by
 refine pcall_sim (X := fun r : Int => AEnd.ret (I r)) Try.func50 rfl Try.ntmps50 rfl ?_
 unfold g_quote_quoted_count
 refine sR tfm ⟨[2, 3], [2, 3], [], []⟩ ⟨[(2, .ptr 2 0), (3, .ptr 3 0)], [(2, .box 62 [.eptr (GQuoteQuoted.cs a0q)]), (3, .box 44 (bxc (GAr.cs a1a)))]⟩ krf ?_
 refine sR tfm ⟨[2, 3, 5], [2, 3, 5], [], []⟩ ⟨[(2, .ptr 2 0), (3, .ptr 3 0), (5, .ptr 5 0)], [(2, .box 62 [.eptr (GQuoteQuoted.cs a0q)]), (3, .box 44 (bxc (GAr.cs a1a))), (5, .box 3 [I 0])]⟩ krf ?_
 refine sS ?_
 refine sS ?_
 refine sim_drw tfm rfl ?_
 refine xR 8 krf ?_
 refine xs_inlineL [] [I a0q.from_, I a0q.to_] [(2, 402), (3, 403)] [] [] krf Try.func47 rfl Try.ntmps47 rfl krf krf krf ?_
 refine sR tfm ⟨[2, 3], [2, 3], [], []⟩ ⟨[(2, .ptr 2 0), (3, .ptr 3 0)], [(2, .box 3 [I a0q.from_]), (3, .box 3 [I a0q.to_])]⟩ krf ?_
 refine sR tfm ⟨[4], [2, 3], [], []⟩ ⟨[(4, .fn (.func 77) [] [.ptr 2 0, .ptr 3 0])], [(2, .box 3 [I a0q.from_]), (3, .box 3 [I a0q.to_])]⟩ krf ?_
 refine sT ?_
 refine iq_ret (.id) [2, 3] [] (.fn (.func 77) [] [.ptr 2 0, .ptr 3 0]) krf krf ?_
 refine kqn ?_
 refine sN ⟨[2, 3, 5, 15], [2, 3, 5, 402, 403], [], []⟩ ⟨[(2, .ptr 2 0), (3, .ptr 3 0), (5, .ptr 5 0), (15, .fn (.func 77) [] [.ptr 402 0, .ptr 403 0])], [(2, .box 62 [.eptr (GQuoteQuoted.cs a0q)]), (3, .box 44 (bxc (GAr.cs a1a))), (5, .box 3 [I 0]), (402, .box 3 [I a0q.from_]), (403, .box 3 [I a0q.to_])]⟩ krf ?_
 refine sB ?_
 refine sP ⟨[2, 3, 5, 15], [2, 3, 5, 402, 403], [], []⟩ ⟨[(2, .ptr 2 0), (3, .ptr 3 0), (5, .ptr 5 0), (15, .fn (.func 77) [] [.ptr 402 0, .ptr 403 0])], [(2, .box 62 [.eptr (GQuoteQuoted.cs a0q)]), (3, .box 44 (bxc (GAr.cs a1a))), (5, .box 3 [I 0]), (402, .box 3 [I a0q.from_]), (403, .box 3 [I a0q.to_])]⟩ krf ?_
 refine sim_range 77 3000 [] [.ptr 402 0, .ptr 403 0] krf krf (fun nf1 _ hnf1 => ?_)
 refine sc_inline (hc := [(1002, .box 62 [.eptr (GQuoteQuoted.cs a0q)]), (1003, .box 44 (bxc (GAr.cs a1a))), (1005, .box 3 [I 0]), (1402, .box 3 [I a0q.from_]), (1403, .box 3 [I a0q.to_]), (4000, .lp [(2, .ptr 1002 0), (3, .ptr 1003 0), (5, .ptr 1005 0), (15, .fn (.func 77) [] [.ptr 1402 0, .ptr 1403 0])] nf1 .ready none)]) (args' := [.yv 4000, .ptr 1402 0, .ptr 1403 0]) [(1002, 2), (1003, 3), (1005, 5), (1402, 402), (1403, 403), (4000, 3000)] [] [] Try.func77 rfl Try.ntmps77 rfl krf krf krf ?_
 refine sR tfm ⟨[0, 2, 4], [1002, 1003, 1005, 1402, 1403, 4000], [], []⟩ ⟨[(0, .yv 4000), (2, .ptr 1403 0), (4, I a0q.from_)], [(1002, .box 62 [.eptr (GQuoteQuoted.cs a0q)]), (1003, .box 44 (bxc (GAr.cs a1a))), (1005, .box 3 [I 0]), (1402, .box 3 [I a0q.from_]), (1403, .box 3 [I a0q.to_]), (4000, .lp [(2, .ptr 1002 0), (3, .ptr 1003 0), (5, .ptr 1005 0), (15, .fn (.func 77) [] [.ptr 1402 0, .ptr 1403 0])] nf1 .ready none)]⟩ krf ?_
 refine sB ?_
 refine sim_loop (fun (l2_1, l2_2) => ⟨[(0, .yv 4000), (2, .ptr 1403 0), (4, I l2_1)], [(1002, .box 62 [.eptr (GQuoteQuoted.cs a0q)]), (1003, .box 44 (bxc (GAr.cs a1a))), (1005, .box 3 [I l2_2]), (1402, .box 3 [I a0q.from_]), (1403, .box 3 [I a0q.to_]), (4000, .lp [(2, .ptr 1002 0), (3, .ptr 1003 0), (5, .ptr 1005 0), (15, .fn (.func 77) [] [.ptr 1402 0, .ptr 1403 0])] nf1 .ready none)]⟩ : (Int × Int) → St) (weak_shr (K := ⟨[0, 2, 4], [1002, 1003, 1005, 1402, 1403, 4000], [], []⟩) krf) ?_
 rintro recl2 ⟨l2_1, l2_2⟩
 show SimE (g_quote_quoted_count_l2 n a0q a1a recl2 l2_1 l2_2) _ _ _ _ _ _
 unfold g_quote_quoted_count_l2
 refine sS ?_
 refine sR tfm ⟨[0, 2, 4, 8], [1002, 1003, 1005, 1402, 1403, 4000], [], []⟩ ⟨[(0, .yv 4000), (2, .ptr 1403 0), (4, I l2_1), (8, B (ltI l2_1 a0q.to_))], [(1002, .box 62 [.eptr (GQuoteQuoted.cs a0q)]), (1003, .box 44 (bxc (GAr.cs a1a))), (1005, .box 3 [I l2_2]), (1402, .box 3 [I a0q.from_]), (1403, .box 3 [I a0q.to_]), (4000, .lp [(2, .ptr 1002 0), (3, .ptr 1003 0), (5, .ptr 1005 0), (15, .fn (.func 77) [] [.ptr 1402 0, .ptr 1403 0])] nf1 .ready none)]⟩ krf ?_
 refine sC (ltI l2_1 a0q.to_) krf ?_ ?_
 ·refine sK ?_
  refine sN ⟨[0, 2, 4], [1002, 1003, 1005, 1402, 1403, 4000], [], []⟩ ⟨[(0, .yv 4000), (2, .ptr 1403 0), (4, I l2_1)], [(1002, .box 62 [.eptr (GQuoteQuoted.cs a0q)]), (1003, .box 44 (bxc (GAr.cs a1a))), (1005, .box 3 [I l2_2]), (1402, .box 3 [I a0q.from_]), (1403, .box 3 [I a0q.to_]), (4000, .lp [(2, .ptr 1002 0), (3, .ptr 1003 0), (5, .ptr 1005 0), (15, .fn (.func 77) [] [.ptr 1402 0, .ptr 1403 0])] nf1 .ready none)]⟩ krf ?_
  refine sS ?_
  refine sB ?_
  refine sim_bind (fun j3 => ⟨[(0, .yv 4000), (2, .ptr 1403 0), (4, I l2_1), (14, B false)], [(1002, .box 62 [.eptr (GQuoteQuoted.cs a0q)]), (1003, .box 44 (bxc (GAr.cs a1a))), (1005, .box 3 [I j3]), (1402, .box 3 [I a0q.from_]), (1403, .box 3 [I a0q.to_]), (4000, .lp [(2, .ptr 1002 0), (3, .ptr 1003 0), (5, .ptr 1005 0), (15, .fn (.func 77) [] [.ptr 1402 0, .ptr 1403 0])] nf1 .ready none)]⟩ : Int → St) ?_ ?_
  ·refine sG ?_
   refine xR 2 krf ?_
   refine xs_yield [] [(1002, .box 62 [.eptr (GQuoteQuoted.cs a0q)]), (1003, .box 44 (bxc (GAr.cs a1a))), (1005, .box 3 [I l2_2]), (1402, .box 3 [I a0q.from_]), (1403, .box 3 [I a0q.to_]), (4000, .lp [(2, .ptr 1002 0), (3, .ptr 1003 0), (5, .ptr 1005 0), (15, .fn (.func 77) [] [.ptr 1402 0, .ptr 1403 0])] nf1 .ready none)] 4000 [(2, .ptr 1002 0), (3, .ptr 1003 0), (5, .ptr 1005 0), (15, .fn (.func 77) [] [.ptr 1402 0, .ptr 1403 0])] [] [] [I l2_1] krf hnf1 krf krf krf krf krf (fun _ => ?_)
   refine sL tfm krf ?_
   refine as_n ⟨[2, 3, 5, 6], [1002, 1003, 1005, 1402, 1403, 4000], [], []⟩ ⟨[(2, .ptr 1002 0), (3, .ptr 1003 0), (5, .ptr 1005 0), (6, I l2_1)], [(1002, .box 62 [.eptr (GQuoteQuoted.cs a0q)]), (1003, .box 44 (bxc (GAr.cs a1a))), (1005, .box 3 [I l2_2]), (1402, .box 3 [I a0q.from_]), (1403, .box 3 [I a0q.to_]), (4000, .lp [(2, .ptr 1002 0), (3, .ptr 1003 0), (5, .ptr 1005 0), (15, .fn (.func 77) [] [.ptr 1402 0, .ptr 1403 0])] nf1 .busy none)]⟩ none krf krf ?_
   refine sB ?_
   refine sS ?_
   refine sim_drw tfm rfl ?_
   refine xR 6 krf ?_
   refine xC [] krf (g_t_Applies_ok n a1a a0q.calendar l2_1) krf krf (fun _ => by kernel_rfl) (fun r4 => ?_)
   refine xs_endD krf ?_
   refine sN ⟨[5, 23], [1002, 1003, 1005, 1402, 1403, 4000], [], []⟩ ⟨[(5, .ptr 1005 0), (23, B r4)], [(1002, .box 62 [.eptr (GQuoteQuoted.cs a0q)]), (1003, .box 44 (bxc (GAr.cs a1a))), (1005, .box 3 [I l2_2]), (1402, .box 3 [I a0q.from_]), (1403, .box 3 [I a0q.to_]), (4000, .lp [(2, .ptr 1002 0), (3, .ptr 1003 0), (5, .ptr 1005 0), (15, .fn (.func 77) [] [.ptr 1402 0, .ptr 1403 0])] nf1 .busy none)]⟩ krf ?_
   refine sC r4 krf ?_ ?_
   ·refine sL tfm krf ?_
    refine bq_n ?_
    refine rn_n [1002, 1003, 1005, 1402, 1403, 4000] [] .busy none krf krf ?_
    refine kr0 ?_
    refine xR 1 krf ?_
    refine xE ?_
    exact nq_n (wi (l2_2 + 1)) ⟨[0, 2, 4, 14], [1002, 1003, 1005, 1402, 1403, 4000], [], []⟩ krf
   ·refine sK ?_
    refine bq_n ?_
    refine rn_n [1002, 1003, 1005, 1402, 1403, 4000] [] .busy none krf krf ?_
    refine kr0 ?_
    refine xR 1 krf ?_
    refine xE ?_
    exact nq_n l2_2 ⟨[0, 2, 4, 14], [1002, 1003, 1005, 1402, 1403, 4000], [], []⟩ krf
  ·rintro j3
   refine sim_condF krf ?_
   refine sK ?_
   refine bq_n ?_
   refine sN ⟨[0, 2, 4], [1002, 1003, 1005, 1402, 1403, 4000], [], []⟩ ⟨[(0, .yv 4000), (2, .ptr 1403 0), (4, I l2_1)], [(1002, .box 62 [.eptr (GQuoteQuoted.cs a0q)]), (1003, .box 44 (bxc (GAr.cs a1a))), (1005, .box 3 [I j3]), (1402, .box 3 [I a0q.from_]), (1403, .box 3 [I a0q.to_]), (4000, .lp [(2, .ptr 1002 0), (3, .ptr 1003 0), (5, .ptr 1005 0), (15, .fn (.func 77) [] [.ptr 1402 0, .ptr 1403 0])] nf1 .ready none)]⟩ krf ?_
   refine sL tfm krf ?_
   exact kq_n (wi (l2_1 + 1), j3) ⟨[0, 2, 4], [1002, 1003, 1005, 1402, 1403, 4000], [], []⟩ krf
 ·refine sim_exit ?_
  refine sq_x ?_
  refine kq_x ?_
  refine bq_hit ?_
  refine iq_n .id [1002, 1003, 1005, 1402, 1403, 4000] [] (.tup []) krf krf ?_
  refine kg_n .ready ⟨[5], [5], [], []⟩ ⟨[(5, .ptr 5 0)], [(5, .box 3 [I l2_2])]⟩ krf (by intro h; cases h) krf ?_
  refine bq_n ?_
  refine sN ⟨[5], [5], [], []⟩ ⟨[(5, .ptr 5 0)], [(5, .box 3 [I l2_2])]⟩ krf ?_
  refine sR tfm ⟨[4], [], [], []⟩ ⟨[(4, I l2_2)], []⟩ krf ?_
  refine sT ?_
  exact qR (.id) krf krf krf
def g_quote_quoted_energy_l5 (n : Nat) (a0q : GQuoteQuoted) (l3_1 : Int) (recl5 : (Int × Int) → Option Int) (l5_1 : Int) (l5_2 : Int) : Option Int :=
 cond (ltI l5_2 (lenI (List.map GAr.cs a0q.Tariff.Articles)))
  ((getI a0q.Tariff.Articles l5_2).bind fun x6 =>
  (cond (eqI x6.Kind 2)
   ((g_t_Applies n x6 a0q.calendar l3_1).bind fun r9 =>
   some r9)
   (some false)).bind fun j7 =>
  cond j7
   (recl5 (wi (l5_1 + x6.Price), wi (l5_2 + 1)))
   (recl5 (l5_1, wi (l5_2 + 1))))
  (some l5_1)
def g_quote_quoted_energy_l3 (n : Nat) (a0q : GQuoteQuoted) (recl3 : (Int × Int) → Option Int) (l3_1 : Int) (l3_2 : Int) : Option Int :=
 cond (ltI l3_1 a0q.to_)
  ((loopN (fun recl5 (l5_1, l5_2) => g_quote_quoted_energy_l5 n a0q l3_1 recl5 l5_1 l5_2) n (0, 0)).bind fun j4 =>
  recl3 (wi (l3_1 + 1), maxI l3_2 j4))
  (some l3_2)
def g_quote_quoted_energy_l12 (n : Nat) (a0q : GQuoteQuoted) (recl12 : (Int × Int) → Option Int) (l12_1 : Int) (l12_2 : Int) : Option Int :=
 cond (ltI l12_2 (lenI (List.map GAr.cs a0q.Tariff.Articles)))
  ((getI a0q.Tariff.Articles l12_2).bind fun x13 =>
  (cond (eqI x13.Kind 2)
   ((g_quote_quoted_count n a0q x13).bind fun r16 =>
   some (ltI 0 r16))
   (some false)).bind fun j14 =>
  cond j14
   (recl12 (wi (l12_1 + 1), wi (l12_2 + 1)))
   (recl12 (l12_1, wi (l12_2 + 1))))
  (some l12_1)
def g_quote_quoted_energy (n : Nat) (a0q : GQuoteQuoted) (a1energy : Int) : Option (Int × Int) :=
 cond (eqI a1energy 0)
  (some (0, 0))
  ((loopN (fun recl3 (l3_1, l3_2) => g_quote_quoted_energy_l3 n a0q recl3 l3_1 l3_2) n (a0q.from_, 0)).bind fun j1 =>
  (g_money_Times n j1 a1energy 1000).bind fun r10 =>
  cond (!eqI r10.2 0)
   (some (0, 3))
   ((loopN (fun recl12 (l12_1, l12_2) => g_quote_quoted_energy_l12 n a0q recl12 l12_1 l12_2) n (r10.1, 0)).bind fun j11 =>
   cond (ltI 1000000000 j11)
    (some (0, 3))
    (some (j11, 0))))
end Go.Proofs
