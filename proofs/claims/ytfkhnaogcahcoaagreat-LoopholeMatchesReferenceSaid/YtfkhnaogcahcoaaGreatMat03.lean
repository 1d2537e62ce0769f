/-
  A part of the proof of a statement of the seat YtfkhnaogcahcoaaGreat.
-/
import Derived.Test.YtfkhnaogcahcoaaGreatMat02
namespace Go.Abs
open Go
set_option linter.unusedVariables false
theorem wp_agree {P : Program} {X : Tmp → Prop} {ops : Array Oper} {a b : Act} {o : Oper} {w : World} {K : Act → World → Prop} {Q : Exit → Act → World → Prop} (h : Agree X a b) (hs : ∀ cs b, o.op ≠ .select cs b) (hl : ∀ t ∈ o.looksAt ops, ¬ X t) (hd : ∀ t, o.dst = some t → ¬ X t)
  (hp : ∀ c a w, ¬ Q (.panic c) a w) (hh : o.wp P b w K Q) : o.wp P a w (fun a' w' => ∃ b', Agree X a' b' ∧ (∀ t, o.dst ≠ some t → b'.tmps[t]? = b.tmps[t]?) ∧ K b' w') Q := by
 have hput : ∀ (b : Act) (v : Value) (t : Tmp), o.dst ≠ some t → (b.put o.dst v).tmps[t]? = b.tmps[t]? := by
  intro b v t ht
  cases hdst : o.dst with
  | none => rfl
  | some d =>
   have : d ≠ t := fun e => ht (by rw [hdst, e])
   simp [Act.put, Array.getElem?_setIfInBounds_ne this]
 unfold Oper.wp at *
 rw [execOp_agree (ops := ops) h hs hl]
 generalize (execOp b.eval o).run P w = r at *
 cases r with
 | ok n w' =>
  cases n <;> simp only [Oper.upon] at hh ⊢
  case value u => exact ⟨_, agree_put h _ u, hput b u, hh⟩
  case skip => exact ⟨_, agree_put h _ _, hput b _, hh⟩
  case defer d =>
   refine ⟨_, agree_put (X := X) (a := { a with defers := d :: a.defers }) (b := { b with defers := d :: b.defers }) ⟨by simp [h.1], h.2.1, h.2.2⟩ _ _, fun t ht => ?_, hh⟩
   exact hput { b with defers := d :: b.defers } _ t ht
  case enter f args =>
   refine Calls.mono hh fun e w'' he => ?_
   cases e with
   | returned u => exact ⟨_, agree_put h _ u, hput b u, he⟩
   | panicked c => exact absurd he (hp _ _ _)
   | outgrown => exact he
  case row row args => exact Rows.mono hh fun u w'' he => ⟨_, agree_put h _ u, hput b u, he⟩
 | halt x w' =>
  cases x <;> simp only [Oper.upon] at hh ⊢
  case panic u => exact absurd hh (hp _ _ _)
def aRead (P : Program) (o : Oper) (T : Nat → Option AV) (h : Heap) : Option AV :=
 match o.op with
 | .move x => evO T x
 | .load ty x => (aLoad P T h ty x).map (·.1)
 | .fieldAddr s x f => (aFieldAddr P T s x f).map (·.1)
 | .nilCheck x => (aNilCheck T x).map (·.1)
 | .binOp op _ x y _ => match evO T x, evO T y with
  | some (.p (.val (.int k a))), some (.p (.val (.int k' b))) => if isShift op then none else if k = k' then (intRes op k a b).map fun v => .p (.val v) else none
  | _, _ => none
 | _ => none
section
variable {P : Program} {N : Nat} {D : DB} {φ : Nat → Nat} {M0 : Mset} {T : Nat → Option AV} {h : Heap} {a : Act} {w : World}
theorem aRead_ok {o : Oper} (r : Rel φ M0 N D T h a w) {x : AV} (he : aRead P o T h = some x) : ∃ v, (execOp a.eval o).run P w = .ok (.value v) w ∧ RepA φ h w (MM φ h M0) x v := by
 unfold aRead at he
 split at he
 ·rename_i y ho
  exact ⟨a.eval y, by simp [execOp, ho], r.ev he⟩
 ·rename_i ty y ho
  obtain ⟨u, hu, rfl⟩ := Option.map_eq_some_iff.1 he
  obtain ⟨_, v, h2, h3⟩ := load_run (P := P) r hu
  exact ⟨v, by simp [execOp, ho, h2], h3⟩
 ·rename_i s y f ho
  obtain ⟨u, hu, rfl⟩ := Option.map_eq_some_iff.1 he
  unfold aFieldAddr at hu
  split at hu
  ·rename_i fields hs
   split at hu
   ·rename_i fl hf
    split at hu
    ·rename_i i hi
     split at hu
     ·cases hu
     ·rename_i hsz
      split at hu
      ·rename_i b off hx
       simp only [sie] at hu
       subst hu
       have h2 := r.ev hx
       simp only [RepA] at h2
       refine ⟨.pointer (some ⟨φ b, off + fl.offset, none⟩), ?_, ?_⟩
       ·simp [execOp, ho, Instr.fieldAt, run_underlying hs, hf, h2.1, Instr.sureAddr, fieldPlace, run_sizeOf' hi, hsz, Addr.add_lit]
       ·simp only [RepA]; exact ⟨trivial, h2.2⟩
      ·rename_i cs hx
       split at hu
       ·rename_i hle
        simp only [sie] at hu
        subst hu
        have h2 := r.ev hx
        simp only [RepA] at h2
        obtain ⟨rr, oo, h3, h4⟩ := h2
        refine ⟨.pointer (some ⟨rr, oo + fl.offset, none⟩), ?_, ?_⟩
        ·simp [execOp, ho, Instr.fieldAt, run_underlying hs, hf, h3, Instr.sureAddr, fieldPlace, run_sizeOf' hi, hsz, Addr.add_lit]
        ·simp only [RepA]; exact ⟨rr, oo + fl.offset, rfl, repCs_drop _ hle h4⟩
       ·cases hu
      ·cases hu
    ·cases hu
   ·cases hu
  ·cases hu
 ·rename_i y ho
  obtain ⟨u, hu, rfl⟩ := Option.map_eq_some_iff.1 he
  unfold aNilCheck at hu
  split at hu
  ·rename_i b off hx
   simp only [sie] at hu
   subst hu
   have h2 := r.ev hx
   refine ⟨a.eval y, ?_, h2⟩
   simp only [RepA] at h2
   simp [execOp, ho, h2.1]
  ·rename_i cs hx
   simp only [sie] at hu
   subst hu
   have h2 := r.ev hx
   refine ⟨a.eval y, ?_, h2⟩
   simp only [RepA] at h2
   obtain ⟨rr, oo, h3, _⟩ := h2
   simp [execOp, ho, h3]
  ·rename_i f l m hx
   simp only [sie] at hu
   subst hu
   have h2 := r.ev hx
   refine ⟨a.eval y, ?_, h2⟩
   simp only [RepA] at h2
   obtain ⟨l', m', h3, _⟩ := h2
   simp [execOp, ho, h3]
  ·cases hu
 ·rename_i op tx y z ty ho
  split at he
  ·rename_i k n k' m hx hy
   have h1 := r.ev hx
   have h2 := r.ev hy
   simp only [RepA, RepP] at h1 h2
   split at he
   ·cases he
   rename_i hs
   split at he
   ·rename_i hk
    subst hk
    obtain ⟨v, hv, rfl⟩ := Option.map_eq_some_iff.1 he
    refine ⟨v, ?_, by simp [RepA, RepP]⟩
    cases op <;> first | (simp [isShift] at hs; done) | (simp only [intRes] at hv; first | (cases hv; done) | (simp only [sie] at hv; subst hv; simp [execOp, ho, h1, h2, eqGuard, binOp, Op.intArith, Op.intBits, Op.intCmp, bAnd, bOr, bXor, bAndNot, ltI, leI, eqI, bne]; done) | (by_cases hz : m = 0 <;> simp only [hz, if_true, if_false] at hv <;> first | (cases hv; done) | (simp only [sie] at hv; subst hv; simp [execOp, ho, h1, h2, eqGuard, binOp, Op.intDiv, hz])))
   ·cases he
  ·cases he
 ·cases he
end
def exactA : AV → Bool
 | .p (.val _) => true
 | .ptr _ _ => true
 | _ => false
theorem exactA_one {φ : Nat → Nat} {h : Heap} {w : World} {M : Mset} {x : AV} {v v' : Value} (hx : exactA x = true) (h1 : RepA φ h w M x v) (h2 : RepA φ h w M x v') : v = v' := by
 unfold exactA at hx
 split at hx
 ·simp only [RepA, RepP] at h1 h2
  rw [h1, h2]
 ·simp only [RepA] at h1 h2
  rw [h1.1, h2.1]
 ·cases hx
def runH (P : Program) (N : Nat) (ops : Array Oper) : List Nat → St → Option St
 | [], s => some s
 | i :: l, s => match ops[i]? with
  | some o => match aRead P o (look s.T) (look s.H), o.dst with
   | some x, some d => if d < N then runH P N ops l (s.put (some d) x) else none
   | _, _ => none
  | none => none
def pairH (ops : Array Oper) : List Nat → Bool
 | [] => true
 | i :: l => (match ops[i]? with
  | some o => match o.dst with
   | some d => !(o.looksAt ops).contains d && l.all (fun j => match (ops[j]?).bind (·.dst) with | some e => !(o.looksAt ops).contains e && e != d | none => false)
   | none => false
  | none => false) && pairH ops l
def dstX (ops : Array Oper) (H : List Nat) (t : Tmp) : Prop := ∃ i ∈ H, (ops[i]?).bind (·.dst) = some t
theorem runH_ok {P : Program} {N : Nat} {D : DB} {φ : Nat → Nat} {M0 : Mset} {ops : Array Oper} (hns : Region.noSelect ops = true) : ∀ (H : List Nat) (s s1 : St) (a : Act) (w : World), pairH ops H = true → runH P N ops H s = some s1 → Rel φ M0 N D (look s.T) (look s.H) a w →
  ∃ b, Rel φ M0 N D (look s1.T) (look s1.H) b w ∧ look s1.H = look s.H ∧ Agree (dstX ops H) a b ∧ ∀ i ∈ H, ∃ o d v, ops[i]? = some o ∧ o.dst = some d ∧ b.tmps[d]? = some v ∧ (execOp b.eval o).run P w = .ok (.value v) w
 | [], s, s1, a, w, _, h, r => by
  simp only [runH, sie] at h
  subst h
  exact ⟨a, r, rfl, agree_refl _ a, fun i hi => by cases hi⟩
 | i :: H, s, s1, a, w, hp, h, r => by
  simp only [runH] at h
  cases ho : ops[i]? with
  | none => rw [ho] at h; cases h
  | some o =>
   simp only [ho] at h
   split at h
   ·rename_i x d hx hd
    split at h
    rotate_left
    ·cases h
    rename_i hdN
    simp only [pairH, ho, hd, bae, Bool.not_eq_true'] at hp
    obtain ⟨⟨hself, hlater⟩, hp'⟩ := hp
    obtain ⟨v, hrun, hrep⟩ := aRead_ok r hx
    have r1 := r.put (d := some d) (fun t ht => by cases ht; exact hdN) hrep
    obtain ⟨b, rb, hH, hag, hall⟩ := runH_ok hns H (s.put (some d) x) s1 (a.put (some d) v) w hp' h r1
    have hnl : ∀ t ∈ o.looksAt ops, t ≠ d ∧ ¬ dstX ops H t := by
     intro t ht
     refine ⟨fun e => ?_, ?_⟩
     ·subst e; simp [ht] at hself
     ·rintro ⟨j, hj, hje⟩
      have := List.all_eq_true.1 hlater j hj
      rw [hje] at this
      simp [ht] at this
    have hdl : ¬ dstX ops H d := by
     rintro ⟨j, hj, hje⟩
     have := List.all_eq_true.1 hlater j hj
     rw [hje] at this
     simp at this
    have hds : d < a.tmps.size := by rw [r.siz]; exact hdN
    refine ⟨b, rb, by rw [hH]; rfl, ?_, ?_⟩
    ·refine ⟨by rw [← hag.1]; rfl, by rw [← hag.2.1]; simp [Act.put], fun t ht => ?_⟩
     rw [← hag.2.2 t (fun hc => ht (by obtain ⟨j, hj, hje⟩ := hc; exact ⟨j, List.mem_cons_of_mem _ hj, hje⟩))]
     have : d ≠ t := fun e => ht ⟨i, List.mem_cons_self, by rw [ho]; exact hd.trans (by rw [e])⟩
     simp [Act.put, Array.getElem?_setIfInBounds_ne this]
    ·intro j hj
     rcases List.mem_cons.1 hj with rfl | hj
     ·refine ⟨o, d, v, ho, hd, ?_, ?_⟩
      ·rw [← hag.2.2 d hdl]
       simp [Act.put, hds]
      ·rw [← hrun]
       congr 1
       have h1 : execOp (a.put (some d) v).eval o = execOp a.eval o := execOp_put o (fun cs b => Region.noSelect_spec hns j o cs b ho) a (some d) v (fun t ht hc => by cases ht; exact (hnl d hc).1 rfl)
       rw [← h1]
       exact (execOp_agree (ops := ops) hag (fun cs b => Region.noSelect_spec hns j o cs b ho) (fun t ht => (hnl t ht).2)).symm
     ·exact hall j hj
   ·cases h
def lateI (P : Program) (ops : Array Oper) (i : Nat) (s : St) : Prop :=
 match ops[i]? with
 | some o => match o.op, o.dst with
  | .move x, some d => True
  | _, some d => ∃ x, aRead P o (look s.T) (look s.H) = some x ∧ look s.T d = some x ∧ exactA x = true
  | _, none => False
 | none => False
def lates (P : Program) (ops : Array Oper) (L : List Nat) (s : St) : Prop := ∀ i ∈ L, lateI P ops i s
def waitsT : Nat → Array Oper → Nat → Nat → Bool
 | 0, _, _, _ => false
 | n + 1, ops, j, i => match ops[j]? with
  | some o => o.after.toList.any fun e => Region.binds .any e && (e.on == i || waitsT n ops e.on i)
  | none => false
def lateL (ops : Array Oper) (L : List Nat) (c : Nat) : List Nat := L.filter fun i => !waitsT ops.size ops c i && !waitsT ops.size ops i c
def ExC (P : Program) (N : Nat) (ops : Array Oper) (Q : AX → St → Prop) (L : List Nat) : List (Nat × List Nat) → St → Prop
 | [], s => Q .normal s
 | (c, hs) :: rest, s => match ops[c]? with
  | some o => ExOp P N o s (fun s' => lates P ops (lateL ops L c) s' ∧ ∃ s'', runH P N ops hs s' = some s'' ∧ ExC P N ops Q L rest s'') Q
  | none => False
theorem waitsT_spec {ops : Array Oper} {listed : Array Bool} (hcl : ∀ (j : Nat) o, ops[j]? = some o → listed.getD j false = true → ∀ e ∈ o.after, Region.binds .any e = true → listed.getD e.on false = true) : ∀ (n j i : Nat) (o : Oper), ops[j]? = some o → (∀ e ∈ o.after, Region.binds .any e = true → listed.getD e.on false = true) → waitsT n ops j i = true → listed.getD i false = true
 | 0, j, i, o, ho, hr, h => by cases h
 | n + 1, j, i, o, ho, hr, h => by
  simp only [waitsT, ho, List.any_eq_true, bae, Bool.or_eq_true, beq_iff_eq] at h
  obtain ⟨e, he, hb, h1⟩ := h
  have hl := hr e (by simpa using he) hb
  rcases h1 with h1 | h1
  ·rw [← h1]; exact hl
  ·cases ho2 : ops[e.on]? with
   | none => cases n <;> simp [waitsT, ho2] at h1
   | some o2 => exact waitsT_spec hcl n e.on i o2 ho2 (fun e2 he2 hb2 => hcl e.on o2 ho2 hl e2 he2 hb2) h1
def chainOk (ops : Array Oper) : List Nat → Bool
 | [] => true
 | [_] => true
 | c :: c' :: r => (ops[c']?).any (waits · c) && chainOk ops (c' :: r)
def stageOk (ops : Array Oper) (L : List Nat) : List Nat → List Nat → List (Nat × List Nat) → Bool
 | _, _, [] => true
 | hv, cur, (c, hs) :: r => cur.all (fun i => L.contains i || waitsT ops.size ops c i) && hs.all (fun i => waitsT ops.size ops i c) && hv.all (fun i => !waitsT ops.size ops i c) && stageOk ops L (hv ++ hs) hs r
def allH (H : List Nat) (Ch : List (Nat × List Nat)) : List Nat := H ++ (Ch.map (·.2)).flatten
def hstOk (H L : List Nat) (Ch : List (Nat × List Nat)) (ops : Array Oper) : Bool :=
 (List.range ops.size).all (fun i => (allH H Ch).contains i || (Ch.map (·.1)).contains i) && Region.noSelect ops && pairH ops (allH H Ch) && chainOk ops (Ch.map (·.1)) && decide (Ch.map (·.1)).Nodup && (allH H Ch).all (fun i => !(Ch.map (·.1)).contains i) &&
 stageOk ops L H H Ch && ops.toList.all (fun o => o.guard.isNone) && edgesDown 0 ops.toList &&
 (allH H Ch).all (fun i => match (ops[i]?).bind (·.dst) with
  | some d => (List.range ops.size).all fun j => i == j || (match ops[j]? with | some oj => oj.dst != some d && (waits oj i || !(oj.looksAt ops).contains d) | none => true)
  | none => false) &&
 L.all (fun i => match ops[i]? with | some o => (match o.op with | .move _ => true | _ => false) && (Ch.map (·.1)).all (fun c => match (ops[c]?).bind (·.dst) with | some e => !(o.looksAt ops).contains e | none => true) || !(match o.op with | .move _ => true | _ => false) | none => false)
theorem waits_spec {o : Oper} {i : Nat} (h : waits o i = true) : ∃ e ∈ o.after, Region.binds .any e = true ∧ e.on = i := by
 simp only [waits, List.any_eq_true, bae, beq_iff_eq] at h
 obtain ⟨e, h1, h2, h3⟩ := h
 exact ⟨e, by simpa using h1, h2, h3⟩
theorem act_ext {a b : Act} {X : Tmp → Prop} (h : Agree X a b) (hx : ∀ t, ¬ X t) : a = b := by
 obtain ⟨h1, h2, h3⟩ := h
 cases a with
 | mk ta da =>
  cases b with
  | mk tb db =>
   simp only at h1 h3
   subst h1
   congr 1
   exact Array.ext_getElem? (fun i => h3 i (hx i))
def lateX (ops : Array Oper) (H : List Nat) (listed : Array Bool) (t : Tmp) : Prop := ∃ i ∈ H, listed.getD i false = false ∧ (ops[i]?).bind (·.dst) = some t
theorem chain_waits {ops : Array Oper} : ∀ (l1 : List Nat) (c c' : Nat) (l2 : List Nat), chainOk ops (l1 ++ c :: c' :: l2) = true → (ops[c']?).any (waits · c) = true
 | [], c, c', l2, h => by
  simp only [List.nil_append, chainOk, bae] at h
  exact h.1
 | [x], c, c', l2, h => by
  simp only [List.cons_append, List.nil_append, chainOk, bae] at h
  exact h.2.1
 | x :: y :: l1, c, c', l2, h => by
  simp only [List.cons_append, chainOk, bae] at h
  exact chain_waits (y :: l1) c c' l2 h.2
theorem pairH_spec {ops : Array Oper} : ∀ (l1 l2 : List Nat), pairH ops (l1 ++ l2) = true → (∀ i ∈ l1, ∀ j ∈ l2, ∃ o d, ops[i]? = some o ∧ o.dst = some d ∧ ∀ e, (ops[j]?).bind (·.dst) = some e → e ∉ o.looksAt ops ∧ e ≠ d) ∧ pairH ops l2 = true
 | [], l2, h => ⟨(fun i hi => by cases hi), h⟩
 | x :: l1, l2, h => by
  simp only [List.cons_append, pairH, bae] at h
  obtain ⟨g1, g2⟩ := pairH_spec l1 l2 h.2
  refine ⟨fun i hi j hj => ?_, g2⟩
  rcases List.mem_cons.1 hi with rfl | hi
  ·have h1 := h.1
   cases ho : ops[i]? with
   | none => rw [ho] at h1; cases h1
   | some o =>
    rw [ho] at h1
    dsimp only at h1
    cases hd : o.dst with
    | none => rw [hd] at h1; cases h1
    | some d =>
     rw [hd] at h1
     simp only [bae] at h1
     refine ⟨o, d, rfl, hd, fun e he => ?_⟩
     have h2 := List.all_eq_true.1 h1.2 j (List.mem_append_right _ hj)
     rw [he] at h2
     simp only [bae, Bool.not_eq_true', bne_iff_ne] at h2
     refine ⟨fun hc => ?_, h2.2⟩
     have := h2.1
     simp [hc] at this
  ·exact g1 i hi j hj
theorem pairH_self {ops : Array Oper} {j d : Nat} {o : Oper} (ho : ops[j]? = some o) (hd : o.dst = some d) : ∀ (l : List Nat), pairH ops l = true → j ∈ l → d ∉ o.looksAt ops := by
 intro l
 induction l with
 | nil => intro _ h; cases h
 | cons x l ihl =>
  intro hp hm
  simp only [pairH, bae] at hp
  rcases List.mem_cons.1 hm with rfl | hm
  ·have := hp.1
   simp only [ho, hd, bae, Bool.not_eq_true'] at this
   intro hc
   simp [hc] at this
  ·exact ihl hp.2 hm
theorem pairH_left {ops : Array Oper} : ∀ (l1 l2 : List Nat), pairH ops (l1 ++ l2) = true → pairH ops l1 = true
 | [], _, _ => rfl
 | x :: l1, l2, h => by
  simp only [List.cons_append, pairH, bae] at h ⊢
  refine ⟨?_, pairH_left l1 l2 h.2⟩
  have h1 := h.1
  cases ho : ops[x]? with
  | none => rw [ho] at h1; cases h1
  | some o =>
   rw [ho] at h1
   dsimp only at h1 ⊢
   cases hd : o.dst with
   | none => rw [hd] at h1; cases h1
   | some d =>
    rw [hd] at h1
    simp only [bae, List.all_append] at h1 ⊢
    exact ⟨h1.1, h1.2.1⟩
theorem stageOk_mem {ops : Array Oper} {L : List Nat} : ∀ (hv cur : List Nat) (ch : List (Nat × List Nat)), stageOk ops L hv cur ch = true → ∀ c hs, (c, hs) ∈ ch → ∀ i ∈ hs, waitsT ops.size ops i c = true
 | _, _, [], _, c, hs, h, _, _ => by cases h
 | hv, cur, (c0, hs0) :: r, h, c, hs, hm, i, hi => by
  simp only [stageOk, bae] at h
  rcases List.mem_cons.1 hm with e | hm
  ·cases e
   exact List.all_eq_true.1 h.1.1.2 i hi
  ·exact stageOk_mem (hv ++ hs0) hs0 r h.2 c hs hm i hi
theorem hst_run {P : Program} {N : Nat} {D : DB} {ops : Array Oper} {Q : AX → St → Prop} {H L : List Nat} {Ch : List (Nat × List Nat)} {φ0 : Nat → Nat} {h0 : Heap} {w0 : World} {M0 : Mset} (hok : hstOk H L Ch ops = true) (hq : ∀ v s, ¬ Q (.panic v) s) :
  ∀ (fuel : Nat) (done ch : List (Nat × List Nat)) (cur Hv : List Nat) (listed : Array Bool) (a b : Act) (w : World) (s : St) (φ : Nat → Nat), Ch = done ++ ch → Hv = H ++ (done.map (·.2)).flatten → (∀ i ∈ Hv, i ∉ L → i ∉ cur → listed.getD i false = true) → (∀ i ∈ cur, i ∈ Hv) → stageOk ops L Hv cur ch = true → listed.size = ops.size → unl listed ops.size ≤ fuel →
   (∀ (j : Nat) o, ops[j]? = some o → listed.getD j false = true → ∀ e ∈ o.after, Region.binds .any e = true → listed.getD e.on false = true) →
   (∀ c ∈ done, listed.getD c.1 false = true) → (∀ c ∈ ch, listed.getD c.1 false = false) → Agree (lateX ops Hv listed) a b → Rel φ M0 N D (look s.T) (look s.H) b w → Evol φ0 h0 w0 φ (look s.H) w →
   (∀ i ∈ Hv, listed.getD i false = false → ∃ o d v, ops[i]? = some o ∧ o.dst = some d ∧ b.tmps[d]? = some v ∧ (execOp b.eval o).run P w = .ok (.value v) w) →
   ExC P N ops Q L ch s → wpAny P .any ops (Post N D Q φ0 M0 h0 w0) fuel listed a w := by
 simp only [hstOk, bae, decide_eq_true_eq] at hok
 obtain ⟨⟨⟨⟨⟨⟨⟨⟨⟨⟨hcov, hns⟩, hpair⟩, hchain⟩, hnd⟩, hdis⟩, hstage⟩, hgu⟩, hdown⟩, hreg⟩, hLr⟩ := hok
 have hgd : ∀ (listed : Array Bool) (i : Nat), i < listed.size → listed.getD i true = listed.getD i false := fun listed i hi => by simp [hi]
 have hpan : ∀ c a w, ¬ Post N D Q φ0 M0 h0 w0 (.panic c) a w := by
  rintro c a' w' ⟨φ', x, s', g1, g2, g3, g4⟩
  cases x with
  | normal => cases g4
  | exit i => cases g4
  | ret => cases g4
  | panic v => exact hq _ _ g1
 have hgn : ∀ (j : Nat) o, ops[j]? = some o → o.guard = none := by
  intro j o ho
  have := List.all_eq_true.1 hgu o (by have := Array.mem_of_getElem? ho; simpa using this)
  simpa using this
 have hready : ∀ (listed : Array Bool), listed.size = ops.size → Region.ready .any ops listed = [] → ∀ i, i < ops.size → listed.getD i false = true := by
  intro listed hsz hr i
  induction i using Nat.strongRecOn with
  | _ i ih =>
   intro hi
   cases hq : listed.getD i false with
   | true => rfl
   | false =>
    have : i ∈ Region.ready .any ops listed := by
     rw [mem_ready]
     refine ⟨by rw [hgd listed i (by omega)]; exact hq, ops[i], Array.getElem?_eq_getElem hi, fun e he hb => ?_⟩
     have h1 := edgesDown_spec hdown i ops[i] (by simp [hi]) e he hb
     exact ih e.on (by omega) (by omega)
    rw [hr] at this
    cases this
 have hfin : ∀ (listed : Array Bool) (ch : List (Nat × List Nat)) (Hv : List Nat) (a b : Act) (w : World) (s : St) (φ : Nat → Nat), (∀ i, i < ops.size → listed.getD i false = true) → (∀ c ∈ ch, listed.getD c.1 false = false) → Agree (lateX ops Hv listed) a b →
   Rel φ M0 N D (look s.T) (look s.H) b w → Evol φ0 h0 w0 φ (look s.H) w → ExC P N ops Q L ch s → Post N D Q φ0 M0 h0 w0 .normal a w := by
  intro listed ch Hv a b w s φ hall hch hag r E hx
  have hab : a = b := act_ext hag (by
   rintro t ⟨i, hi, hl, hd⟩
   cases ho : ops[i]? with
   | none => rw [ho] at hd; cases hd
   | some o => rw [hall i (Array.getElem?_eq_some_iff.1 ho).1] at hl; cases hl)
  subst hab
  cases ch with
  | nil => exact ⟨φ, .normal, s, hx, r, E, rfl⟩
  | cons c ch =>
   exfalso
   obtain ⟨c, hs⟩ := c
   simp only [ExC] at hx
   cases ho : ops[c]? with
   | none => rw [ho] at hx; exact hx
   | some o =>
    have := hch (c, hs) List.mem_cons_self
    rw [hall c (Array.getElem?_eq_some_iff.1 ho).1] at this
    cases this
 intro fuel
 induction fuel with
 | zero =>
  intro done ch cur Hv listed a b w s φ hCh hHv hnl hcur hst hsz hu hcl hdo hch hag r E J hx
  have hall : ∀ i, i < ops.size → listed.getD i false = true := fun i hi => by rw [← hgd listed i (by omega)]; exact unl_zero (n := ops.size) (by omega) i hi
  refine ⟨List.eq_nil_iff_forall_not_mem.2 fun i hi => ?_, hfin listed ch Hv a b w s φ hall hch hag r E hx⟩
  obtain ⟨h1, o, ho, _⟩ := mem_ready.1 hi
  have hilt := (Array.getElem?_eq_some_iff.1 ho).1
  rw [hgd listed i (by omega), hall i hilt] at h1
  cases h1
 | succ fuel ih =>
  intro done ch cur Hv listed a b w s φ hCh hHv hnl hcur hst hsz hu hcl hdo hch hag r E J hx
  refine ⟨fun hr => hfin listed ch Hv a b w s φ (hready listed hsz hr) hch hag r E hx, fun j hj => ?_⟩
  obtain ⟨hun, o, ho, hall⟩ := mem_ready.1 hj
  have hjlt : j < ops.size := (Array.getElem?_eq_some_iff.1 ho).1
  have hun' : listed.getD j false = false := by rw [← hgd listed j (by omega)]; exact hun
  have hsel : ∀ cs b, o.op ≠ .select cs b := fun cs b => Region.noSelect_spec hns j o cs b ho
  have hwant : ∀ tm, Region.wanted o (yielded ops tm) = true := fun tm => by simp [Region.wanted, hgn j o ho]
  have hsubH : ∀ i ∈ Hv, i ∈ allH H Ch := by
   intro i hi
   rw [hHv] at hi
   unfold allH
   rw [hCh, List.map_append, List.flatten_append, ← List.append_assoc]
   exact List.mem_append_left _ hi
  have eL : ∀ k, (listed.setIfInBounds j true).getD k false = (listed.getD k false || decide (k = j)) := by
   intro k
   by_cases hkj : k = j
   ·subst hkj
    have : k < listed.size := by omega
    simp [this]
   ·rw [getD_set_ne false (Ne.symm hkj)]
    simp [hkj]
  have hu' : unl (listed.setIfInBounds j true) ops.size ≤ fuel := by
   have := unl_set hun ops.size
   rw [if_pos hjlt] at this
   omega
  have hcl' : ∀ (k : Nat) ok, ops[k]? = some ok → (listed.setIfInBounds j true).getD k false = true → ∀ e ∈ ok.after, Region.binds .any e = true → (listed.setIfInBounds j true).getD e.on false = true := by
   intro k ok hk hl e he hb
   rw [eL] at hl ⊢
   simp only [Bool.or_eq_true, decide_eq_true_eq] at hl ⊢
   rcases hl with hl | hl
   ·exact .inl (hcl k ok hk hl e he hb)
   ·subst hl
    rw [ho] at hk
    cases hk
    exact .inl (hall e he hb)
  have hsee : ∀ t ∈ o.looksAt ops, ¬ lateX ops Hv listed t ∨ ∃ d, o.dst = some d ∧ t = d ∧ j ∈ Hv := by
   intro t ht
   by_cases hc : lateX ops Hv listed t
   rotate_left
   ·exact .inl hc
   obtain ⟨i, hi, hl, hd⟩ := hc
   have h1 := List.all_eq_true.1 hreg i (hsubH i hi)
   rw [hd] at h1
   have h2 := List.all_eq_true.1 h1 j (by simp [hjlt])
   simp only [ho, Bool.or_eq_true, beq_iff_eq, bae, Bool.not_eq_true', bne_iff_ne] at h2
   rcases h2 with rfl | ⟨_, h2 | h2⟩
   ·rw [ho] at hd
    exact .inr ⟨t, hd, rfl, hi⟩
   ·obtain ⟨e, he, hb, hon⟩ := waits_spec h2
    have := hall e he hb
    rw [hon, hl] at this
    cases this
   ·simp [ht] at h2
  have hcase := List.all_eq_true.1 hcov j (by simp [hjlt])
  simp only [Bool.or_eq_true, List.contains_iff_mem] at hcase
  by_cases hjA : j ∈ allH H Ch
  ·
   have hjC : j ∉ Ch.map (·.1) := by
    have := List.all_eq_true.1 hdis j hjA
    simpa using this
   have hjH : j ∈ Hv := by
    unfold allH at hjA
    rw [hCh, List.map_append, List.flatten_append, ← List.append_assoc] at hjA
    rcases List.mem_append.1 hjA with h1 | h1
    ·rw [hHv]; exact h1
    ·exfalso
     obtain ⟨hs, h2, h3⟩ := List.mem_flatten.1 h1
     obtain ⟨⟨c, hs'⟩, h4, h5⟩ := List.mem_map.1 h2
     simp only at h5
     subst h5
     have hw := stageOk_mem Hv cur ch hst c hs' h4 j h3
     have := waitsT_spec hcl _ j c o ho hall hw
     rw [hch (c, hs') h4] at this
     cases this
   obtain ⟨o', d, v, ho', hd, hv, hrun⟩ := J j hjH hun'
   rw [ho] at ho'
   cases ho'
   have hself : d ∉ o.looksAt ops := pairH_self ho hd (allH H Ch) hpair hjA
   have hsee' : ∀ t ∈ o.looksAt ops, ¬ lateX ops Hv listed t := by
    intro t ht
    rcases hsee t ht with h1 | ⟨d', h1, rfl, _⟩
    ·exact h1
    ·rw [hd] at h1
     cases h1
     exact absurd ht hself
   unfold wpOp
   simp only [ho, hwant, if_true]
   refine .inl ?_
   unfold Oper.wp
   rw [execOp_agree (ops := ops) hag hsel hsee', hrun]
   simp only [Oper.upon]
   refine ih done ch cur Hv (listed.setIfInBounds j true) (a.put o.dst v) b w s φ hCh hHv (fun i hi h1 h2 => by rw [eL, hnl i hi h1 h2]; rfl) hcur hst (by simpa using hsz) hu' hcl' (fun c hc => by rw [eL, hdo c hc]; rfl) ?_ ?_ r E ?_ hx
   ·intro c hc
    rw [eL, hch c hc]
    have : c.1 ≠ j := fun e => hjC (by rw [hCh, ← e]; exact List.mem_map.2 ⟨c, List.mem_append_right _ hc, rfl⟩)
    simp [this]
   ·refine ⟨by rw [← hag.1, hd]; rfl, by rw [← hag.2.1, hd]; simp [Act.put], fun t ht => ?_⟩
    rw [hd]
    by_cases htd : d = t
    ·subst htd
     have hds : d < a.tmps.size := by
      rw [hag.2.1]
      exact (Array.getElem?_eq_some_iff.1 hv).1
     rw [hv]
     simp [Act.put, hds]
    ·rw [← hag.2.2 t (fun hc => ht (by
      obtain ⟨i, hi, hl, hdi⟩ := hc
      refine ⟨i, hi, ?_, hdi⟩
      rw [eL, hl]
      have : i ≠ j := fun e => htd (by rw [e, ho] at hdi; exact Option.some.inj (hd.symm.trans hdi))
      simp [this]))]
     simp [Act.put, Array.getElem?_setIfInBounds_ne htd]
   ·intro i hi hl
    refine J i hi ?_
    rw [eL] at hl
    simp only [Bool.or_eq_false_iff] at hl
    exact hl.1
  ·
   have hjC : j ∈ Ch.map (·.1) := hcase.resolve_left hjA
   have hjH : j ∉ Hv := fun h => hjA (hsubH j h)
   have hjch : ∃ hs r, ch = (j, hs) :: r := by
    have hjC2 := hjC
    rw [hCh, List.map_append] at hjC2
    have hj1 : j ∈ ch.map (·.1) := by
     rcases List.mem_append.1 hjC2 with h1 | h1
     ·obtain ⟨c, hc, rfl⟩ := List.mem_map.1 h1
      rw [hdo c hc] at hun'; cases hun'
     ·exact h1
    cases ch with
    | nil => cases hj1
    | cons c r =>
     obtain ⟨c, hs⟩ := c
     by_cases hjc : j = c
     ·exact ⟨hs, r, by rw [hjc]⟩
     ·exfalso
      have hjr : j ∈ r.map (·.1) := (List.mem_cons.1 hj1).resolve_left hjc
      obtain ⟨r1, r2, hr12⟩ := List.append_of_mem hjr
      obtain ⟨q, x, hqx⟩ : ∃ q x, c :: r1 = q ++ [x] := ⟨(c :: r1).dropLast, (c :: r1).getLast (by simp), (List.dropLast_concat_getLast (by simp)).symm⟩
      have hsp : Ch.map (·.1) = (done.map (·.1) ++ q) ++ x :: j :: r2 := by
       rw [hCh, List.map_append, List.map_cons, hr12, show c :: (r1 ++ j :: r2) = (c :: r1) ++ j :: r2 from rfl, hqx]
       simp
      rw [hsp] at hchain
      have h1 := chain_waits _ _ _ _ hchain
      rw [ho] at h1
      obtain ⟨e, he, hb, hon⟩ := waits_spec (o := o) (i := x) h1
      have h2 := hall e he hb
      have hxm : x ∈ ((c, hs) :: r).map (·.1) := by
       rw [List.map_cons, hr12, show c :: (r1 ++ j :: r2) = (c :: r1) ++ j :: r2 from rfl, hqx]; simp
      obtain ⟨y, hy, rfl⟩ := List.mem_map.1 hxm
      have h3 := hch y hy
      rw [hon, h3] at h2
      cases h2
   obtain ⟨hs, rest, rfl⟩ := hjch
   have hseeC : ∀ t ∈ o.looksAt ops, ¬ lateX ops Hv listed t := by
    intro t ht
    rcases hsee t ht with h1 | ⟨d', _, _, h1⟩
    ·exact h1
    ·exact absurd h1 hjH
   have hdst : ∀ t, o.dst = some t → ¬ lateX ops Hv listed t := by
    rintro t ht ⟨i, hi, hl, hd⟩
    have h1 := List.all_eq_true.1 hreg i (hsubH i hi)
    rw [hd] at h1
    have h2 := List.all_eq_true.1 h1 j (by simp [hjlt])
    simp only [ho, Bool.or_eq_true, beq_iff_eq, bae, Bool.not_eq_true', bne_iff_ne] at h2
    rcases h2 with rfl | ⟨h2, _⟩
    ·exact hjH hi
    ·exact h2 ht
   simp only [ExC, ho] at hx
   simp only [stageOk, bae] at hst
   unfold wpOp
   simp only [ho, hwant, if_true]
   refine .inl ?_
   have hw := exOp_ok hx r
   have hw2 := Go.Abs.Oper.wp_mono2 (K' := fun a' w' => ∃ φ' s', (lates P ops (lateL ops L j) s' ∧ ∃ s'', runH P N ops hs s' = some s'' ∧ ExC P N ops Q L rest s'') ∧ Rel φ' M0 N D (look s'.T) (look s'.H) a' w' ∧ Evol φ (look s.H) w φ' (look s'.H) w') (Q' := Post N D Q φ0 M0 h0 w0) hw (fun _ _ h => h) (fun e a' w' p => p.trans E)
   refine Oper.wp_mono ?_ (wp_agree (ops := ops) hag hsel hseeC hdst hpan hw2)
   rintro a' w' ⟨b', hag', hbX, φ', s', ⟨hl', s'', hrunH, hx'⟩, r', E'⟩
   have hdone : ∀ i ∈ Hv, i ∉ L → listed.getD i false = true := by
    intro i hi hiL
    by_cases hic : i ∈ cur
    ·have h1 := List.all_eq_true.1 hst.1.1.1 i hic
     simp only [Bool.or_eq_true, List.contains_iff_mem] at h1
     rcases h1 with h1 | h1
     ·exact absurd h1 hiL
     ·exact waitsT_spec hcl _ j i o ho hall h1
    ·exact hnl i hi hiL hic
   have hall2 : allH H Ch = Hv ++ (hs ++ (rest.map (·.2)).flatten) := by
    unfold allH
    rw [hCh, hHv, List.map_append, List.flatten_append, List.map_cons, List.flatten_cons, List.append_assoc]
   have hpair2 := hpair
   rw [hall2] at hpair2
   obtain ⟨pp1, pp2⟩ := pairH_spec Hv _ hpair2
   have pp3 := pairH_left _ _ pp2
   obtain ⟨b2, rb, hH2, hag2, hJ2⟩ := runH_ok hns hs s' s'' b' w' pp3 hrunH r'
   have hhs : ∀ i ∈ hs, listed.getD i false = false ∧ i ≠ j := by
    intro i hi
    have hw := List.all_eq_true.1 hst.1.1.2 i hi
    refine ⟨?_, fun e => hjA (by rw [hall2, ← e]; exact List.mem_append_right _ (List.mem_append_left _ hi))⟩
    cases hq : listed.getD i false with
    | false => rfl
    | true =>
     exfalso
     obtain ⟨oi, _, _, hoi, _⟩ := hJ2 i hi
     have := waitsT_spec hcl _ i j oi hoi (fun e he hb => hcl i oi hoi hq e he hb) hw
     rw [hun'] at this
     cases this
   have hxs : ∀ t, dstX ops hs t → lateX ops (Hv ++ hs) (listed.setIfInBounds j true) t := by
    rintro t ⟨i, hi, hd⟩
    refine ⟨i, List.mem_append_right _ hi, ?_, hd⟩
    rw [eL, (hhs i hi).1]
    simp [(hhs i hi).2]
   have hxo : ∀ t, lateX ops Hv listed t → lateX ops (Hv ++ hs) (listed.setIfInBounds j true) t := by
    rintro t ⟨i, hi, hl, hd⟩
    refine ⟨i, List.mem_append_left _ hi, ?_, hd⟩
    rw [eL, hl]
    have : i ≠ j := fun e => hjH (e ▸ hi)
    simp [this]
   refine ih (done ++ [(j, hs)]) rest hs (Hv ++ hs) (listed.setIfInBounds j true) a' b2 w' s'' φ' (by rw [hCh]; simp) (by rw [hHv, List.map_append, List.flatten_append]; simp) ?_ (fun i hi => List.mem_append_right _ hi) hst.2 (by simpa using hsz) hu' hcl' (fun c hc => by
    rw [eL]
    rcases List.mem_append.1 hc with h1 | h1
    ·rw [hdo c h1]; rfl
    ·rw [List.mem_singleton] at h1
     simp [h1]) ?_ ⟨hag'.1.trans hag2.1, hag'.2.1.trans hag2.2.1, fun t ht => (hag'.2.2 t (fun hc => ht (hxo t hc))).trans (hag2.2.2 t (fun hc => ht (hxs t hc)))⟩ rb (by rw [hH2]; exact E.trans E') ?_ hx'
   ·intro i hi hiL hic
    rcases List.mem_append.1 hi with hi | hi
    ·rw [eL, hdone i hi hiL]; rfl
    ·exact absurd hi hic
   ·intro c hc
    rw [eL, hch c (List.mem_cons_of_mem _ hc)]
    have : c.1 ≠ j := by
     intro e
     rw [hCh, List.map_append, List.map_cons] at hnd
     have h2 := (List.nodup_append.1 hnd).2.1
     exact (List.nodup_cons.1 h2).1 (List.mem_map.2 ⟨c, hc, e⟩)
    simp [this]
   ·intro i hi hl
    rcases List.mem_append.1 hi with hiv | hih
    rotate_left
    ·exact hJ2 i hih
    rw [eL] at hl
    simp only [Bool.or_eq_false_iff] at hl
    have hiL : i ∈ L := by
     apply Classical.byContradiction
     intro hc
     rw [hdone i hiv hc] at hl
     cases hl.1
    obtain ⟨oi, d, v, hoi, hdi, hvi, hri⟩ := J i hiv hl.1
    have hvb : b'.tmps[d]? = some v := by rw [hbX d (fun e => hdst d e ⟨i, hiv, hl.1, by rw [hoi]; exact hdi⟩)]; exact hvi
    have hnX : ∀ t, t ∈ oi.looksAt ops ∨ t = d → ¬ dstX ops hs t := by
     rintro t ht ⟨k, hk, hkd⟩
     obtain ⟨o2, d2, h1, h2, h3⟩ := pp1 i hiv k (List.mem_append_left _ hk)
     rw [hoi] at h1
     cases h1
     rw [hdi] at h2
     cases h2
     obtain ⟨h4, h5⟩ := h3 t hkd
     rcases ht with ht | ht
     ·exact h4 ht
     ·exact h5 ht
    have hseli : ∀ cs b, oi.op ≠ .select cs b := fun cs b => Region.noSelect_spec hns i oi cs b hoi
    refine ⟨oi, d, v, hoi, hdi, by rw [← hag2.2.2 d (hnX d (.inr rfl))]; exact hvb, ?_⟩
    rw [← execOp_agree (ops := ops) hag2 hseli (fun t ht => hnX t (.inl ht))]
    have hnw : waitsT ops.size ops j i = false := by
     cases hq : waitsT ops.size ops j i with
     | false => rfl
     | true =>
      have := waitsT_spec hcl _ j i o ho hall hq
      rw [hl.1] at this
      cases this
    have hnw2 : waitsT ops.size ops i j = false := by
     have := List.all_eq_true.1 hst.1.2 i hiv
     simpa using this
    have h1 := hl' i (List.mem_filter.2 ⟨hiL, by rw [hnw, hnw2]; rfl⟩)
    unfold lateI at h1
    simp only [hoi] at h1
    split at h1
    ·rename_i x d' hop hd'
     have hri' : b.eval x = v := by
      simp [execOp, hop] at hri
      exact hri
     have hxe : b'.eval x = b.eval x := by
      cases x with
      | tmp t =>
       have hne : o.dst ≠ some t := by
        intro e
        have h2 := List.all_eq_true.1 hLr i hiL
        simp only [hoi, hop, Bool.true_and, Bool.not_true, Bool.or_false] at h2
        have h3 := List.all_eq_true.1 h2 j hjC
        simp only [ho, obs, e, Bool.not_eq_true'] at h3
        have : t ∈ oi.looksAt ops := List.mem_append_left _ (List.mem_filterMap.2 ⟨.tmp t, by simp [hop, Op.operands], rfl⟩)
        simp [this] at h3
       simp only [Act.eval]
       rw [Array.getD_eq_getD_getElem?, Array.getD_eq_getD_getElem?, hbX t hne]
      | _ => rfl
     simp [execOp, hop, hxe, hri']
    ·rename_i d' hd' hop
     obtain ⟨x, h2, h3, h4⟩ := h1
     obtain ⟨v', h5, h6⟩ := aRead_ok r' h2
     rw [hdi] at hd'
     cases hd'
     have h7 := (r'.tm d x h3).2
     rw [Array.getD_eq_getD_getElem?, hvb] at h7
     have := exactA_one h4 h6 h7
     rw [h5, this]
     rfl
    ·cases h1
theorem ex_hst {P : Program} {N : Nat} {ro : Option Nat} {id : Nat} {ops : Array Oper} {s s1 : St} {R : Type} {r0 : R} {Q : R → AX → St → Prop} (H L : List Nat) (Ch : List (Nat × List Nat)) (hm : P.follows .mixedOrders = true) (hnd : noDefer ops = true) (hok : hstOk H L Ch ops = true) (h1 : runH P N ops H s = some s1)
  (h : ExC P N ops (qn Q r0) L Ch s1) : Ex P N ro (.region id ops true) s (Q r0) := by
 intro φ M0 D a w r
 refine wpIn_region_any hm (any_in hnd post_not_out _ _ _ _ ?_)
 have hd : Evol φ (look s.H) w φ (look s.H) { w with drawn := w.drawn + 1 } := evol_heap rfl rfl rfl rfl
 have r1 : Rel φ M0 N D (look s.T) (look s.H) a { w with drawn := w.drawn + 1 } := r.keep hd (hext_heap rfl) (relH_heap (w := w) rfl hd r.hp)
 have hok' := hok
 simp only [hstOk, bae, decide_eq_true_eq] at hok'
 obtain ⟨⟨⟨⟨⟨⟨⟨⟨⟨⟨hcov, hns⟩, hpair⟩, hchain⟩, hnd'⟩, hdis⟩, hstage⟩, hgu⟩, hdown⟩, hreg⟩, hLr⟩ := hok'
 obtain ⟨b, rb, hH, hag, hJ⟩ := runH_ok hns H s s1 a _ (pairH_left H _ hpair) h1 r1
 have hlf : ∀ (j : Nat), (Array.replicate ops.size false).getD j false = false := by
  intro j
  rcases Nat.lt_or_ge j ops.size with h | h
  ·simp [h]
  ·simp [h]
 have hunl : ∀ n, unl (Array.replicate ops.size false) n ≤ n := by
  intro n
  induction n with
  | zero => simp [unl]
  | succ n ih => simp only [unl]; split <;> omega
 have h2 := hst_run (D := D) (φ0 := φ) (h0 := look s.H) (w0 := w) (M0 := M0) hok (fun v s hc => hc) ops.size [] Ch H H (Array.replicate ops.size false) a b { w with drawn := w.drawn + 1 } s1 φ rfl (by simp) (fun i hi _ hc => absurd hi hc) (fun i hi => hi) hstage (by simp) (hunl _) (fun j o _ hj => by rw [hlf] at hj; cases hj) (fun c hc => by cases hc) (fun c _ => hlf c.1)
  ⟨hag.1, hag.2.1, fun t ht => hag.2.2 t (fun hc => ht (by obtain ⟨i, hi, hdi⟩ := hc; exact ⟨i, hi, hlf i, hdi⟩))⟩ rb (by rw [hH]; exact hd) (fun i hi _ => hJ i hi) h
 refine wpAny_monoQ ?_ _ _ _ _ h2
 rintro e a' w' ⟨φ', x, s', g1, g2, g3, g4⟩
 refine ⟨φ', x, s', ?_, g2, g3, g4⟩
 cases x with
 | normal => exact g1
 | exit i => exact g1.elim
 | ret => exact g1.elim
 | panic v => exact g1.elim
structure SimH {R : Type} (a : Option R) (P : Program) (N : Nat) (ops : Array Oper) (Q : R → AX → St → Prop) (L : List Nat) (Ch : List (Nat × List Nat)) (s : St) : Prop where
 intro ::
 h : ∀ r, a = some r → ExC P N ops (qn Q r) L Ch s
def fKh {R : Type} (P : Program) (N : Nat) (ops : Array Oper) (Q : R → AX → St → Prop) (L : List Nat) (Ch : List (Nat × List Nat)) (c : Nat) (hs : List Nat) : R → St → Prop := fun r s => lates P ops (lateL ops L c) s ∧ ∃ s'', runH P N ops hs s = some s'' ∧ ExC P N ops (qn Q r) L Ch s''
section
variable {R V E : Type} {a a1 a2 : Option R} {P : Program} {N : Nat} {ro : Option Nat} {id : Nat} {ops : Array Oper} {o : Oper} {s s1 s' : St} {Q : R → AX → St → Prop} {f : FuncId} {args args' : List AV} {dst : Option Tmp} {L hs : List Nat} {Ch : List (Nat × List Nat)} {c i : Nat}
theorem sim_hst (H L : List Nat) (Ch : List (Nat × List Nat)) (hm : P.follows .mixedOrders = true) (hd : noDefer ops = true) (hok : hstOk H L Ch ops = true) (h1 : (runH P N ops H s).isSome = true) (h : SimH a P N ops Q L Ch ((runH P N ops H s).getD s)) : SimE a P N ro (.region id ops true) s Q := by
 obtain ⟨s1, e⟩ := Option.isSome_iff_exists.1 h1
 rw [e] at h
 exact ⟨fun r hr => ex_hst H L Ch hm hd hok e (h.h r hr)⟩
theorem lates_nil : lates P ops [] s := fun i hi => by cases hi
theorem lates_cons (h1 : lateI P ops i s) (h2 : lates P ops L s) : lates P ops (i :: L) s := fun j hj => by
 rcases List.mem_cons.1 hj with rfl | hj
 ·exact h1
 ·exact h2 j hj
def moveAt (ops : Array Oper) (i : Nat) : Bool := match ops[i]? with | some o => (match o.op, o.dst with | .move _, some _ => true | _, _ => false) | none => false
theorem late_move (h : moveAt ops i = true) : lateI P ops i s := by
 unfold moveAt at h
 unfold lateI
 cases ho : ops[i]? with
 | none => rw [ho] at h; cases h
 | some o =>
  rw [ho] at h
  dsimp only at h ⊢
  cases h1 : o.op <;> rw [h1] at h <;> cases h2 : o.dst <;> rw [h2] at h <;> first | (cases h; done) | trivial
theorem late_read (x : AV) (h : (ops[i]?).bind (fun o => o.dst.bind fun d => (aRead P o (look s.T) (look s.H)).bind fun y => (look s.T d).map fun z => (y, z)) = some (x, x)) (hx : exactA x = true) : lateI P ops i s := by
 unfold lateI
 cases ho : ops[i]? with
 | none => rw [ho] at h; cases h
 | some o =>
  rw [ho, obs] at h
  cases hd : o.dst with
  | none => rw [hd] at h; cases h
  | some d =>
   rw [hd, obs] at h
   obtain ⟨y, hy, h2⟩ := Option.bind_eq_some_iff.1 h
   obtain ⟨z, hz, h3⟩ := Option.map_eq_some_iff.1 h2
   simp only [Prod.mk.injEq] at h3
   obtain ⟨rfl, rfl⟩ := h3
   dsimp only
   rw [hd]
   split
   ·trivial
   ·rename_i he hop
    cases he
    exact ⟨_, hy, hz, hx⟩
   ·rename_i he; cases he
theorem h_end (h : SimQ a Q .normal s) : SimH a P N ops Q L [] s := ⟨fun r hr => h.h r hr⟩
theorem kh (L' : List Nat) (hL : lateL ops L c = L') (hl : lates P ops L' s) (h1 : (runH P N ops hs s).isSome = true) (h : SimH a P N ops Q L Ch ((runH P N ops hs s).getD s)) : SimK a (fKh P N ops Q L Ch c hs) s := by
 obtain ⟨s1, e⟩ := Option.isSome_iff_exists.1 h1
 rw [e] at h
 exact ⟨fun r hr => ⟨hL ▸ hl, s1, e, h.h r hr⟩⟩
def stepC (P : Program) (N : Nat) (ops : Array Oper) (c : Nat) (s : St) : Option St := (ops[c]?).bind (fun o => match o.op with | .pick .. => none | .panic _ => none | .call ⟨.value _, _, _⟩ => none | _ => if dstLt N o.dst then (aop P o (look s.T) (look s.H)).map (fun u => put' s o.dst u) else none)
theorem h_op (L' : List Nat) (hL : lateL ops L c = L') (h0 : (stepC P N ops c s).isSome = true) (hl : lates P ops L' ((stepC P N ops c s).getD s)) (h : SimH a P N ops Q L Ch ((stepC P N ops c s).getD s)) : SimH a P N ops Q L ((c, []) :: Ch) s := by
 obtain ⟨s', h1⟩ := Option.isSome_iff_exists.1 h0
 rw [h1] at hl h
 simp only [Option.getD_some] at hl h
 unfold stepC at h1
 refine ⟨fun r hr => ?_⟩
 simp only [ExC]
 cases ho : ops[c]? with
 | none => rw [ho] at h1; cases h1
 | some o =>
  simp only [ho, obs] at h1 ⊢
  unfold ExOp
  split at h1
  ·cases h1
  ·cases h1
  ·cases h1
  ·rename_i n1 n2 n3
   split at h1
   rotate_left
   ·cases h1
   rename_i hdl
   obtain ⟨u, hu, rfl⟩ := Option.map_eq_some_iff.1 h1
   have key : ExRes N o s (fun s' => lates P ops (lateL ops L c) s' ∧ ∃ s'', runH P N ops [] s' = some s'' ∧ ExC P N ops (qn Q r) L Ch s'') (aop P o (look s.T) (look s.H)) := by
    rw [hu]
    exact ⟨hdl, hL ▸ hl, _, rfl, h.h r hr⟩
   split
   ·rename_i he; exact absurd he (n1 _ _ _)
   ·rename_i he; exact absurd he (n2 _)
   ·rename_i he; exact absurd he (n3 _ _ _)
   ·exact key
theorem h_enter (hf : (ops[c]?).bind (fun o => (callOf (look s.T) o.op).map fun p => (p.1, p.2, o.dst)) = some (f, args, dst)) (hb : bodyOk P f = true) (h : SimC a P N f args dst s (fKh P N ops Q L Ch c hs) (qn Q)) : SimH a P N ops Q L ((c, hs) :: Ch) s := by
 refine ⟨fun r hr => ?_⟩
 simp only [ExC]
 cases ho : ops[c]? with
 | none => rw [ho] at hf; cases hf
 | some o =>
  simp only [ho, obs] at hf ⊢
  obtain ⟨⟨f0, args0⟩, h1, h2⟩ := Option.map_eq_some_iff.1 hf
  simp only [Prod.mk.injEq] at h2
  obtain ⟨rfl, rfl, rfl⟩ := h2
  exact exOp_call h1 hb (h.h r hr)
end
end Go.Abs
namespace Go.Abs
open Go
set_option linter.unusedVariables false
def mget {K V : Type} (eq : K → K → Bool) (k : K) : List (K × V) → Option V
 | [] => none
 | (k', v) :: r => bif eq k k' then some v else mget eq k r
def mset {K V : Type} (eq : K → K → Bool) (k : K) (v : V) : List (K × V) → List (K × V)
 | [] => [(k, v)]
 | (k', v') :: r => bif eq k k' then (k, v) :: r else (k', v') :: mset eq k v r
def mgetD {K V : Type} (eq : K → K → Bool) (k : K) (z : V) (m : List (K × V)) : V := (mget eq k m).getD z
def mhas {K V : Type} (eq : K → K → Bool) (k : K) (m : List (K × V)) : Bool := (mget eq k m).isSome
def mpL {K V : Type} (ke : K → Value) (ve : V → PV) (m : List (K × V)) : List (Value × PV) := m.map fun p => (ke p.1, ve p.2)
section
variable {P : Program} {o : Oper} {T : Nat → Option AV} {h : Heap} {K V : Type} {kt e t : TypeId} {ke : K → Value} {ve : V → PV} {eq : K → K → Bool}
theorem findM_L (hk : ∀ k, keyV P kt (ke k) = true) (he : ∀ a b, eqV P 4 kt (ke a) (ke b) = some (eq a b)) (k : K) : ∀ (m : List (K × V)) (i : Nat),
  (∃ j, findM P kt (ke k) i (mpL ke ve m) = some ((mget eq k m).map fun v => (j, ve v)) ∧ (mget eq k m ≠ none → ∀ v, mpL ke ve (mset eq k v m) = (mpL ke ve m).set (j - i) (ke k, ve v) ∧ i ≤ j)) ∧ (mget eq k m = none → ∀ v, mpL ke ve (mset eq k v m) = mpL ke ve m ++ [(ke k, ve v)])
 | [], i => ⟨⟨0, rfl, fun h => absurd rfl h⟩, fun _ v => rfl⟩
 | (k', v') :: m, i => by
  obtain ⟨⟨j, h1, h2⟩, h3⟩ := findM_L hk he k m (i + 1)
  have e1 : findM P kt (ke k) i (mpL ke ve ((k', v') :: m)) = match (if keyV P kt (ke k') then eqV P 4 kt (ke k) (ke k') else none) with | some true => some (some (i, ve v')) | some false => findM P kt (ke k) (i + 1) (mpL ke ve m) | none => none := rfl
  have e2 : mget eq k ((k', v') :: m) = bif eq k k' then some v' else mget eq k m := rfl
  have e3 : ∀ v, mset eq k v ((k', v') :: m) = bif eq k k' then (k, v) :: m else (k', v') :: mset eq k v m := fun _ => rfl
  rw [hk k', if_pos rfl, he] at e1
  cases hq : eq k k'
  ·rw [hq] at e1 e2
   simp only [hq, cond_false] at e1 e2 e3
   rw [e2]
   refine ⟨⟨j, by rw [e1, h1], fun hn v => ?_⟩, fun hn v => ?_⟩
   ·obtain ⟨g1, g2⟩ := h2 hn v
    refine ⟨?_, by omega⟩
    rw [e3, show mpL ke ve ((k', v') :: mset eq k v m) = (ke k', ve v') :: mpL ke ve (mset eq k v m) from rfl, g1, show mpL ke ve ((k', v') :: m) = (ke k', ve v') :: mpL ke ve m from rfl, show j - i = (j - (i + 1)) + 1 from by omega]
    rfl
   ·rw [e3, show mpL ke ve ((k', v') :: mset eq k v m) = (ke k', ve v') :: mpL ke ve (mset eq k v m) from rfl, h3 hn v]
    rfl
  ·rw [hq] at e1 e2
   simp only [hq, cond_true] at e1 e2 e3
   rw [e2]
   refine ⟨⟨i, e1, fun _ v => ⟨?_, Nat.le_refl _⟩⟩, fun hn => by cases hn⟩
   rw [e3, Nat.sub_self]
   rfl
theorem aop_mk {d : Nat} {rsv : Option Operand} (ho : o.op = .makeMap t none) (hd : o.dst = some d) (hb : h d = none) : aop P o T h = some (.mv d, some (d, .mp []), [d]) := by
 simp [aop, ho, aMakeMap, hd, hb]
theorem aop_look {x ix : Operand} {ok : Bool} {b : Nat} {m : List (K × V)} {k : K} {z0 : V} (ho : o.op = .lookup t x ix ok) (ht : P.underlying t = some (.map kt e)) (hx : evO T x = some (.mv b)) (hi : (evO T ix).bind toV = some (ke k)) (hb : h b = some (.mp (mpL ke ve m))) (hkt : (P.underlying kt).isSome = true)
  (hk : ∀ k, keyV P kt (ke k) = true) (he : ∀ a b, eqV P 4 kt (ke a) (ke b) = some (eq a b)) (hz : ((P.info? e).bind (·.zero)).map ofV = some (.p (ve z0))) : aop P o T h = some (tupOk ok (.p (ve (mgetD eq k z0 m))) (mhas eq k m), none, [b]) := by
 obtain ⟨kv, hi1, hi2⟩ := Option.bind_eq_some_iff.1 hi
 obtain ⟨kd, hkd⟩ := Option.isSome_iff_exists.1 hkt
 obtain ⟨z, hz1, hz2⟩ := Option.map_eq_some_iff.1 hz
 obtain ⟨⟨j, h1, h2⟩, h3⟩ := findM_L (P := P) (kt := kt) (ke := ke) (ve := ve) (eq := eq) hk he k m 0
 unfold mgetD mhas
 cases hg : mget eq k m with
 | none =>
  rw [hg] at h1
  simp only [Option.map_none] at h1
  simp [aop, ho, aLookup, ht, hx, hi1, hb, hi2, hkd, hk, h1, hz1, hz2]
 | some v =>
  rw [hg] at h1
  simp only [Option.map_some] at h1
  simp [aop, ho, aLookup, ht, hx, hi1, hb, hi2, hkd, hk, h1]
theorem aop_mset {x ix y : Operand} {b : Nat} {m : List (K × V)} {k : K} {v : V} (ho : o.op = .mapUpdate t x ix y) (ht : P.underlying t = some (.map kt e)) (hx : evO T x = some (.mv b)) (hi : (evO T ix).bind toV = some (ke k)) (hy : evO T y = some (.p (ve v))) (hb : h b = some (.mp (mpL ke ve m))) (hkt : (P.underlying kt).isSome = true)
  (hk : ∀ k, keyV P kt (ke k) = true) (he : ∀ a b, eqV P 4 kt (ke a) (ke b) = some (eq a b)) : aop P o T h = some (.p (.val undef), some (b, .mp (mpL ke ve (mset eq k v m))), [b]) := by
 obtain ⟨kv, hi1, hi2⟩ := Option.bind_eq_some_iff.1 hi
 obtain ⟨kd, hkd⟩ := Option.isSome_iff_exists.1 hkt
 obtain ⟨⟨j, h1, h2⟩, h3⟩ := findM_L (P := P) (kt := kt) (ke := ke) (ve := ve) (eq := eq) hk he k m 0
 cases hg : mget eq k m with
 | none =>
  rw [hg] at h1
  simp only [Option.map_none] at h1
  rw [h3 hg v]
  simp [aop, ho, aMapUpdate, ht, hx, hi1, hy, hb, hi2, hkd, hk, h1]
 | some v0 =>
  rw [hg] at h1
  simp only [Option.map_some] at h1
  rw [(h2 (by rw [hg]; simp) v).1]
  simp [aop, ho, aMapUpdate, ht, hx, hi1, hy, hb, hi2, hkd, hk, h1]
theorem aop_nilNe {α : Type} {x y : Operand} {S tk ta : Nat} {ty te : TypeId} {enc : α → List PV} {l : List α} (ho : o.op = .binOp .neq t x y ty) (ht : P.underlying t = some (.slice e)) (hx : evO T x = some (.tsl S (List.map enc l) tk)) (hy : evO T y = some (.p (.val (.slice none 0 0))))
  (hb : h tk = some (.arr te S (List.map enc l).length)) (hp : (aPure P T o).isNone = true) (hq : (aEq P T .neq t x y).isNone = true) : aop P o T h = some (.p (.val (.bool true)), none, [tk]) := by
 have h1 : aPure P T o = none := by simpa using hp
 have h2 : aEq P T .neq t x y = none := by simpa using hq
 simp [aop, ho, aBin, hx, hy, h1, h2, orE, aEqNil, ht, hb]
end
end Go.Abs
namespace Go.Abs
open Go Go.ChangeShapes Go.WideShapes
set_option linter.unusedVariables false
def tilesOk (P : Program) (total : Nat) : Nat → List Field → Bool
 | off, [] => off == total
 | off, f :: r => f.offset == off && tilesOk P total (off + P.cellsOf f.type) r
def pureT (P : Program) : Nat → TypeId → Bool
 | 0, _ => false
 | d + 1, t => match P.underlying t with
  | some .bool => P.cellsOf t == 1
  | some (.int _) => P.cellsOf t == 1
  | some .string => P.cellsOf t == 1
  | some (.slice e) => P.cellsOf t == 1 && Nat.blt 0 (P.cellsOf e) && pureT P d e
  | some (.struct fs) => tilesOk P (P.cellsOf t) 0 fs.toList && fs.toList.all (fun f => pureT P d f.type)
  | some (.array n e) => n * P.cellsOf e == P.cellsOf t && pureT P d e
  | _ => false
def ShFs (S : TypeId → List PV → Prop) : List Field → List PV → Prop
 | [], cs => cs = []
 | f :: r, cs => ∃ a b, cs = a ++ b ∧ S f.type a ∧ ShFs S r b
def ShN (S : List PV → Prop) : Nat → List PV → Prop
 | 0, cs => cs = []
 | n + 1, cs => ∃ a b, cs = a ++ b ∧ S a ∧ ShN S n b
def Sh (P : Program) : Nat → TypeId → List PV → Prop
 | 0, _, _ => False
 | d + 1, t, cs => match P.underlying t with
  | some .bool => ∃ b, cs = [.val (.bool b)]
  | some (.int k) => ∃ n, cs = [.val (.int k n)] ∧ (Lit.int k n).wf = true
  | some .string => ∃ s : List UInt8, cs = [.val (.string (mkS s))] ∧ s.length ≤ maxLen
  | some (.slice e) => ∃ es, cs = [.sl (P.cellsOf e) es] ∧ es.length ≤ maxLen ∧ ∀ x ∈ es, Sh P d e x
  | some (.struct fs) => ShFs (Sh P d) fs.toList cs
  | some (.array n e) => ShN (Sh P d e) n cs
  | _ => False
section
variable {H : Type} {enc : TypeId × Value → H} {P : Program} {w : World} {held : Bool} {φ : Nat → Nat} {M : Mset}
theorem cells?_get {base : Nat} {a : Addr} {n : Nat} {vs : List Value} (h : w.cells? base a n = some vs) : vs.length = n ∧ ∀ i, i < n → w.cell? (a.add i) = vs[i]? := by
 unfold World.cells? at h
 split at h
 ·have h1 := mapM_some_length h
  refine ⟨by simpa using h1, fun i hi => ?_⟩
  exact mapM_some_get h i i (by simp [hi])
 ·cases h
def Got (P : Program) (w : World) (φ : Nat → Nat) (M : Mset) (d : Nat) (t : TypeId) (vs : List Value) : Prop :=
 ∃ cs : List PV, Sh P d t cs ∧ RepAs φ emp w M (cs.map .p) vs ∧ (∀ v ∈ vs, v.oneCell' = true)
theorem got_one {d : Nat} {t : TypeId} {c : PV} {v : Value} (h1 : Sh P d t [c]) (h2 : RepP w M c v) (h3 : v.oneCell' = true) : Got P w φ M d t [v] :=
 ⟨[c], h1, by simp only [List.map_cons, List.map_nil, RepAs, RepA]; exact ⟨v, [], rfl, h2, rfl⟩, by simpa using h3⟩
theorem repAs_app {φ : Nat → Nat} {h : Heap} {w : World} {M : Mset} {a b : List AV} {l m : List Value} (h1 : RepAs φ h w M a l) (h2 : RepAs φ h w M b m) : RepAs φ h w M (a ++ b) (l ++ m) := repAs_append h1 h2
theorem add_zero (a : Addr) : a.add 0 = a := rfl
theorem add_some {b off n : Nat} : (⟨b, off, none⟩ : Addr).add n = ⟨b, off + n, none⟩ := by
 unfold Addr.add
 split
 ·rename_i h; subst h; rfl
 ·rfl
theorem cell?_spot {a : Addr} {v : Value} (h : w.cell? a = some v) : a.spot = none := by
 unfold World.cell? at h
 split at h
 ·split at h
  ·cases h
  ·rename_i h2; cases hs : a.spot with
   | none => rfl
   | some s => simp [hs] at h2
 ·cases h
theorem pick_list {Q : Nat → List PV → Prop} : ∀ (n : Nat), (∀ i, i < n → ∃ c, Q i c) → ∃ es : List (List PV), es.length = n ∧ ∀ i c, es[i]? = some c → Q i c
 | 0, _ => ⟨[], rfl, by simp⟩
 | n + 1, h => by
  obtain ⟨es, h1, h2⟩ := pick_list n (fun i hi => h i (by omega))
  obtain ⟨c, hc⟩ := h n (by omega)
  refine ⟨es ++ [c], by simp [h1], fun i c' hi => ?_⟩
  rcases Nat.lt_or_ge i n with hlt | hge
  ·rw [List.getElem?_append_left (by omega)] at hi
   exact h2 i c' hi
  ·have : i < n + 1 := by have := (List.getElem?_eq_some_iff.1 hi).1; simp [h1] at this; omega
   obtain rfl : i = n := by omega
   rw [List.getElem?_append_right (by omega)] at hi
   simp [h1] at hi
   subst hi
   exact hc
theorem repEs_mk {S r : Nat} : ∀ (es : List (List PV)) (o : Nat), (∀ i e, es[i]? = some e → e.length = S ∧ RepCs w M r (o + i * S) e) → RepEs w M S r o es
 | [], o, _ => by simp [RepEs]
 | e :: es, o, h => by
  simp only [RepEs]
  refine ⟨by have := h 0 e (by simp); simpa using this, repEs_mk es (o + S) fun i e' he => ?_⟩
  have := h (i + 1) e' (by simpa using he)
  rwa [show o + (i + 1) * S = o + S + i * S from by rw [Nat.add_mul]; omega] at this
theorem trod_got (hM : ∀ r o, ¬ M r o) : ∀ (d fuel : Nat) (t : TypeId) (vs : List Value) (x : DataW H × List MemPlace), pureT P d t = true → DataW.trod enc P w 0 (fun _ => true) held fuel t vs = some x → Got P w φ M d t vs ∧ vs.length = P.cellsOf t := by
 intro d
 induction d with
 | zero => intro fuel t vs x hp; cases hp
 | succ d ih =>
  intro fuel t vs x hp h
  have hfs : ∀ (fs : List Field) (off total : Nat) (vs : List Value), vs.length = total → tilesOk P total off fs = true → fs.all (fun f => pureT P d f.type) = true →
    (∀ f ∈ fs, ∃ n y, DataW.trod enc P w 0 (fun _ => true) held n f.type ((vs.drop f.offset).take (P.cellsOf f.type)) = some y) → ∃ cs, ShFs (Sh P d) fs cs ∧ RepAs φ emp w M (cs.map .p) (vs.drop off) ∧ (∀ v ∈ vs.drop off, v.oneCell' = true) := by
   intro fs
   induction fs with
   | nil =>
    intro off total vs hl ht _ _
    simp only [tilesOk, beq_iff_eq] at ht
    have : vs.drop off = [] := List.drop_eq_nil_of_le (by omega)
    exact ⟨[], rfl, by rw [this]; simp [RepAs], by rw [this]; simp⟩
   | cons f fs ihf =>
    intro off total vs hl ht ha hm
    simp only [tilesOk, bae, beq_iff_eq] at ht
    simp only [List.all_cons, bae] at ha
    obtain ⟨n, y, hy⟩ := hm f (by simp)
    rw [ht.1] at hy
    obtain ⟨⟨c1, g1, g2, g3⟩, _⟩ := ih n f.type _ y ha.1 hy
    obtain ⟨c2, k1, k2, k3⟩ := ihf (off + P.cellsOf f.type) total vs hl ht.2 ha.2 (fun f hf => hm f (by simp [hf]))
    have e : vs.drop off = (vs.drop off).take (P.cellsOf f.type) ++ vs.drop (off + P.cellsOf f.type) := by
     rw [← List.drop_drop]; exact (List.take_append_drop _ _).symm
    refine ⟨c1 ++ c2, ⟨c1, c2, rfl, g1, k1⟩, ?_, ?_⟩
    ·rw [e, List.map_append]; exact repAs_app g2 k2
    ·rw [e]; intro v hv
     rcases List.mem_append.1 hv with hv | hv
     ·exact g3 v hv
     ·exact k3 v hv
  have har : ∀ (e : TypeId) (n k : Nat) (vs : List Value), vs.length = (k + n) * P.cellsOf e → pureT P d e = true →
    (∀ i, k ≤ i → i < k + n → ∃ m y, DataW.trod enc P w 0 (fun _ => true) held m e ((vs.drop (i * P.cellsOf e)).take (P.cellsOf e)) = some y) → ∃ cs, ShN (Sh P d e) n cs ∧ RepAs φ emp w M (cs.map .p) (vs.drop (k * P.cellsOf e)) ∧ (∀ v ∈ vs.drop (k * P.cellsOf e), v.oneCell' = true) := by
   intro e n
   induction n with
   | zero =>
    intro k vs hl _ _
    have : vs.drop (k * P.cellsOf e) = [] := List.drop_eq_nil_of_le (by simp at hl; omega)
    exact ⟨[], rfl, by rw [this]; simp [RepAs], by rw [this]; simp⟩
   | succ n ihn =>
    intro k vs hl hpe hm
    obtain ⟨m, y, hy⟩ := hm k (by omega) (by omega)
    obtain ⟨⟨c1, g1, g2, g3⟩, _⟩ := ih m e _ y hpe hy
    obtain ⟨c2, k1, k2, k3⟩ := ihn (k + 1) vs (by rw [hl]; congr 1; omega) hpe (fun i h1 h2 => hm i (by omega) (by omega))
    have e' : vs.drop (k * P.cellsOf e) = (vs.drop (k * P.cellsOf e)).take (P.cellsOf e) ++ vs.drop ((k + 1) * P.cellsOf e) := by
     rw [Nat.add_mul, Nat.one_mul, ← List.drop_drop]; exact (List.take_append_drop _ _).symm
    refine ⟨c1 ++ c2, ⟨c1, c2, rfl, g1, k1⟩, ?_, ?_⟩
    ·rw [e', List.map_append]; exact repAs_app g2 k2
    ·rw [e']; intro v hv
     rcases List.mem_append.1 hv with hv | hv
     ·exact g3 v hv
     ·exact k3 v hv
  unfold pureT at hp
  cases hu : P.underlying t with
  | none => rw [hu] at hp; cases hp
  | some td =>
   rw [hu] at hp
   cases td with
   | bool =>
    obtain ⟨b, rfl, _⟩ := DataW.trod_bool hu h
    simp only [beq_iff_eq] at hp
    exact ⟨got_one (c := .val (.bool b)) (by simp only [Sh, hu]; exact ⟨b, rfl⟩) (by simp [RepP]) rfl, by simp [hp]⟩
   | int k =>
    obtain ⟨n, rfl, _, hw⟩ := DataW.trod_int hu h
    simp only [beq_iff_eq] at hp
    exact ⟨got_one (c := .val (.int k n)) (by simp only [Sh, hu]; exact ⟨n, rfl, hw⟩) (by simp [RepP]) rfl, by simp [hp]⟩
   | string =>
    obtain ⟨b, rfl, _, hw⟩ := DataW.trod_string hu h
    simp only [beq_iff_eq] at hp
    refine ⟨got_one (c := .val (.string b)) ?_ (by simp [RepP]) rfl, by simp [hp]⟩
    simp only [Sh, hu]
    exact ⟨b.data.toList, by simp [mkS], by simpa using hw⟩
   | slice e =>
    simp only [bae, beq_iff_eq, Nat.blt_eq] at hp
    rcases DataW.trod_slice hu h with ⟨rfl, _⟩ | ⟨a, len, cap, elems, rest, n, _, rfl, _, _, hlc, hcm, hel, hrest⟩
    ·refine ⟨got_one (c := .sl (P.cellsOf e) []) ?_ (by simp only [RepP]; exact .inr ⟨trivial, none, 0, rfl⟩) rfl, by simp [hp.1.1]⟩
     simp only [Sh, hu]
     exact ⟨[], rfl, by simp, by simp⟩
    ·have hget := hrest.1
     have hone : ∀ i, i < len → ∃ (vs : List Value) (cs : List PV), w.cells? 0 (a.add (i * P.cellsOf e)) (P.cellsOf e) = some vs ∧ Sh P d e cs ∧ RepAs φ emp w M (cs.map .p) vs ∧ (∀ v ∈ vs, v.oneCell' = true) := by
      intro i hi
      have h1 : elems[i]? = some elems[i] := List.getElem?_eq_getElem (by omega)
      have h2 := hget i hi
      rw [h1] at h2
      obtain ⟨vs, h3, h4⟩ := Option.bind_eq_some_iff.1 h2
      obtain ⟨⟨cs, g1, g2, g3⟩, _⟩ := ih _ e vs _ hp.2 h4
      exact ⟨vs, cs, h3, g1, g2, g3⟩
     obtain ⟨es, hes, hq⟩ := pick_list (Q := fun i cs => ∃ vs, w.cells? 0 (a.add (i * P.cellsOf e)) (P.cellsOf e) = some vs ∧ Sh P d e cs ∧ RepAs φ emp w M (cs.map .p) vs ∧ (∀ v ∈ vs, v.oneCell' = true)) len (fun i hi => by
      obtain ⟨vs, cs, h1, h2⟩ := hone i hi
      exact ⟨cs, vs, h1, h2⟩)
     refine ⟨got_one (c := .sl (P.cellsOf e) es) ?_ ?_ rfl, by simp [hp.1.1]⟩
     ·simp only [Sh, hu]
      refine ⟨es, rfl, by omega, fun x hx => ?_⟩
      obtain ⟨i, hi, rfl⟩ := List.getElem_of_mem hx
      obtain ⟨vs, _, h2, _⟩ := hq i es[i] (List.getElem?_eq_getElem hi)
      exact h2
     ·simp only [RepP]
      by_cases h0 : len = 0
      ·subst h0
       exact .inr ⟨List.eq_nil_of_length_eq_zero hes, some a, cap, rfl⟩
      ·have hspot : a.spot = none := by
        obtain ⟨vs, h1, _⟩ := hq 0 es[0] (List.getElem?_eq_getElem (by omega))
        obtain ⟨g1, g2⟩ := cells?_get h1
        have h3 := g2 0 hp.1.2
        simp only [Nat.zero_mul, add_zero] at h3
        rw [List.getElem?_eq_getElem (by omega)] at h3
        exact cell?_spot h3
       obtain ⟨ab, ao, aas⟩ := a
       simp only at hspot
       subst hspot
       refine .inl ⟨ab, ao, cap, by rw [hes], by omega, repEs_mk es ao fun i c hi => ?_⟩
       obtain ⟨vs, h1, h2, h3, h4⟩ := hq i c hi
       obtain ⟨g1, g2⟩ := cells?_get h1
       have hlen := repAs_length h3
       refine ⟨by simp at hlen; omega, ?_⟩
       rw [repCs_iff]
       intro j q hj
       obtain ⟨v, k1, k2⟩ := repAs_getP h3 j q hj
       have hj' : j < P.cellsOf e := by have := (List.getElem?_eq_some_iff.1 k1).1; omega
       have k3 := g2 j hj'
       rw [add_some, add_some, k1] at k3
       exact ⟨v, k3, hM _ _, h4 v (List.mem_of_getElem? k1), k2⟩
   | struct fs =>
    simp only [bae] at hp
    obtain ⟨xs, n, _, _, hl, hx, hall⟩ := DataW.trod_struct hu h
    obtain ⟨cs, g1, g2, g3⟩ := hfs fs.toList 0 (P.cellsOf t) vs hl hp.1 hp.2 (by
     intro f hf
     obtain ⟨i, hi, rfl⟩ := List.getElem_of_mem hf
     have h1 : fs[i]? = some fs.toList[i] := by simp
     have h2 := hall i _ h1
     have h3 : i < xs.length := by rw [hx]; simpa using hi
     exact ⟨n, xs[i], by rw [h2]; exact List.getElem?_eq_getElem h3⟩)
    simp only [List.drop_zero] at g2 g3
    exact ⟨⟨cs, by simp only [Sh, hu]; exact g1, g2, g3⟩, hl⟩
   | array n e =>
    simp only [bae, beq_iff_eq] at hp
    obtain ⟨xs, m, _, _, hl, hx, hall⟩ := DataW.trod_array hu h
    obtain ⟨cs, g1, g2, g3⟩ := har e n 0 vs (by rw [hl, Nat.zero_add, hp.1]) hp.2 (by
     intro i _ hi
     have hi' : i < n := by omega
     have h3 : i < xs.length := by omega
     exact ⟨m, xs[i], by rw [hall i hi']; exact List.getElem?_eq_getElem h3⟩)
    simp only [Nat.zero_mul, List.drop_zero] at g2 g3
    exact ⟨⟨cs, by simp only [Sh, hu]; exact g1, g2, g3⟩, hl⟩
   | _ => cases hp
end
end Go.Abs
namespace Go.Abs
open Go Go.ChangeShapes Go.WideShapes Go.ChangeAt Go.RowKit
set_option linter.unusedVariables false
def one1 : List PV → AV
 | [c] => .p c
 | cs => ag cs
def avOf (P : Program) (t : TypeId) (cs : List PV) : AV :=
 match P.underlying t with
 | some (.struct _) => ag cs
 | some (.array _ _) => ag cs
 | _ => one1 cs
def ArgsSh (P : Program) (d : Nat) : List TypeId → List AV → Prop
 | [], aas => aas = []
 | t :: ts, aas => ∃ cs r, aas = avOf P t cs :: r ∧ Sh P d t cs ∧ ArgsSh P d ts r
section
variable {H : Type} {enc : TypeId × Value → H} {P : Program} {w : World} {φ : Nat → Nat} {M : Mset}
theorem arg_got (hM : ∀ r o, ¬ M r o) {d base : Nat} {t : TypeId} {v : Value} {x : DataW H} {ps : List MemPlace} (hp : pureT P d t = true) (hv : Value.okWide P w .any base t v)
  (h : DataW.Trod enc P w 0 (fun _ => true) true t v x ps) : ∃ cs, Sh P d t cs ∧ RepA φ emp w M (avOf P t cs) v := by
 obtain ⟨fuel, h⟩ := h
 obtain ⟨⟨cs, h1, h2, h3⟩, hl⟩ := trod_got (φ := φ) hM d fuel t _ _ hp h
 refine ⟨cs, h1, ?_⟩
 cases d with
 | zero => cases hp
 | succ d =>
  unfold Value.okWide at hv
  unfold avOf
  cases hu : P.underlying t with
  | none => simp [pureT, hu] at hp
  | some td =>
   rw [hu] at hv
   have one : (∀ c, v ≠ .agg c) → P.cellsOf t = 1 → RepA φ emp w M (one1 cs) v := by
    intro ha hc
    have e : v.cells = #[v] := by cases v <;> first | rfl | exact absurd rfl (ha _)
    rw [e] at h2
    match cs, h2 with
    | [c], h2 =>
     simp only [List.map_cons, List.map_nil, RepAs] at h2
     obtain ⟨y, ys, e1, e2, e3⟩ := h2
     simp at e1
     obtain ⟨rfl, rfl⟩ := e1
     exact e2
    | [], h2 => simp [RepAs] at h2
    | _ :: _ :: _, h2 =>
     simp only [List.map_cons, RepAs] at h2
     obtain ⟨y, ys, e1, _, z, zs, e2, _⟩ := h2
     subst e2
     simp at e1
   have agg : (∃ c, v = .agg c) → RepA φ emp w M (ag cs) v := by
    rintro ⟨c, rfl⟩
    exact ⟨c.toList, by simp, h2⟩
   cases td with
   | bool =>
    simp only [pureT, hu, beq_iff_eq] at hp
    exact one (fun c hc => by subst hc; simp [Cell.okWide, Cell.ok, hu] at hv) hp
   | int k =>
    simp only [pureT, hu, beq_iff_eq] at hp
    exact one (fun c hc => by subst hc; simp [Cell.okWide, Cell.ok, hu] at hv) hp
   | string =>
    simp only [pureT, hu, beq_iff_eq] at hp
    exact one (fun c hc => by subst hc; simp [Cell.okWide, Cell.ok, hu] at hv) hp
   | slice e =>
    simp only [pureT, hu, bae, beq_iff_eq] at hp
    exact one (fun c hc => by subst hc; simp [Cell.okWide, Cell.ok, hu] at hv) hp.1.1
   | struct fs =>
    obtain ⟨c, rfl, _⟩ := hv
    exact agg ⟨c, rfl⟩
   | array n e =>
    obtain ⟨c, rfl, _⟩ := hv
    exact agg ⟨c, rfl⟩
   | _ => simp [pureT, hu] at hp
theorem args_got (hM : ∀ r o, ¬ M r o) {d base : Nat} : ∀ {ts : List TypeId} {vs : List Value} {ds : List (DataW H)} {ps : List MemPlace}, ts.all (pureT P d) = true →
  (∀ (j : Nat) t v, ts[j]? = some t → vs[j]? = some v → Value.okWide P w .any base t v) → DataW.TrodAll enc P w 0 (fun _ => true) true ts vs ds ps → ∃ aas, ArgsSh P d ts aas ∧ RepAs φ emp w M aas vs
 | [], vs, ds, ps, _, _, h => by
  obtain ⟨rfl, _, _⟩ := trodAll_nil h
  exact ⟨[], rfl, rfl⟩
 | t :: ts, vs, ds, ps, hp, hv, h => by
  obtain ⟨v, vs', d', ds', p, q, rfl, rfl, rfl, h1, h2⟩ := trodAll_cons h
  simp only [List.all_cons, bae] at hp
  obtain ⟨cs, g1, g2⟩ := arg_got (φ := φ) hM hp.1 (hv 0 t v rfl rfl) h1
  obtain ⟨aas, g3, g4⟩ := args_got hM hp.2 (fun j t v a b => hv (j + 1) t v (by simpa using a) (by simpa using b)) h2
  exact ⟨_, ⟨cs, aas, rfl, g1, g3⟩, v, vs', rfl, g2, g4⟩
structure Over (w w' : World) : Prop where
 os : w'.os = w.os
 output : w'.output = w.output
 same : ∀ r, r < w.heap.size → w'.heap[r]? = w.heap[r]?
theorem over_of_evol {φ φ' : Nat → Nat} {h' : Heap} {w w' : World} (E : Evol φ emp w φ' h' w') : Over w w' :=
 ⟨E.os, E.output, fun r hr => E.same r hr (fun b hb => absurd rfl hb)⟩
theorem Over.kept {w w' : World} (o : Over w w') (may : MemPlace → Prop) : w.keptBut w' may := by
 refine ⟨o.os, o.output, fun i hi => ?_⟩
 rw [o.same i hi]
 cases h : w.heap[i]? with
 | none => rfl
 | some x => cases x <;> simp
theorem Over.at {w w' : World} (o : Over w w') {p : MemPlace} (h : p.block < w.heap.size) : w.sameAt w' p := by
 cases p with
 | cell b off => simp only [World.sameAt, World.cell?]; rw [o.same b h]
 | map b => exact o.same b h
theorem Over.frozen {w w' : World} (o : Over w w') {a : Addr} (h : a.block < w.heap.size) : w'.frozen? a = w.frozen? a := by
 simp only [World.frozen?]; rw [o.same _ h]
theorem trodAll_over {w w' : World} (hl : laidOutB P = true) {sp : Nat → Bool} (hsp : ∀ b, b < w.heap.size → sp b = true) (o : Over w w') : ∀ {ts : List TypeId} {vs : List Value} {ds : List (DataW H)} {ps : List MemPlace}, ts.all (fun t => P.readableRec t && Nat.blt t P.types.size) = true → (∀ p ∈ ps, p.block < w.heap.size) →
  DataW.TrodAll enc P w 0 (fun _ => true) true ts vs ds ps → DataW.TrodAll enc P w' 0 sp true ts vs ds ps
 | [], vs, ds, ps, _, _, h => by
  obtain ⟨rfl, rfl, rfl⟩ := trodAll_nil h
  exact rfl
 | t :: ts, vs, ds, ps, hp, hb, h => by
  obtain ⟨v, vs', d', ds', p, q, rfl, rfl, rfl, h1, h2⟩ := trodAll_cons h
  simp only [List.all_cons, bae, Nat.blt_eq] at hp
  refine ⟨p, q, Go.WideElems.Trod_stays hl hp.1.1 hp.1.2 h1 (fun p hp => o.at (hb p (by simp [hp]))) (fun p hp => hsp _ (hb p (by simp [hp]))), trodAll_over hl hsp o (by simpa using hp.2) (fun p hp => hb p (by simp [hp])) h2, rfl⟩
theorem law_contract {f : FuncId} {fn : Func} {s : ChangeSpec} {tb : TypeId} {d : Nat} {apart fresh handsOn again : Bool}
  (hl : laidOutB P = true) (hpure : fn.params.toList.all (pureT P d) = true) (hread : fn.params.toList.all (fun t => P.readableRec t && Nat.blt t P.types.size) = true)
  (hres : fn.resultTypes = #[tb]) (htb : P.underlying tb = some .bool) (hvars : s.vars = [])
  (hspec : ∀ ds : List (DataW H), ds.length = fn.params.size → s.fn H ds = { results := [.lit (.bool true)], args := ds })
  (hcall : ∀ aas, ArgsSh P d fn.params.toList aas → PCall P f aas (.ret (.p (.val (.bool true)))))
  {W : World} {base : Nat} {args : Array Value} {ds gs : List (DataW H)} {before : List MemPlace}
  (hval : ∀ (j : Nat) t v, fn.params[j]? = some t → args[j]? = some v → Value.okWide P W .any base t v)
  (hW : DataW.Whole enc P fn.params.toList s.vars apart W args.toList ds gs before) :
  Calls P f args W fun e W' => ∃ v, e = .returned v ∧ s.post enc P fn apart fresh handsOn again W args v W' := by
 have hW' := hW
 obtain ⟨p, q, hA, hV, rfl, hfz, hnd⟩ := hW
 rw [hvars] at hV
 obtain ⟨rfl, rfl⟩ := trodVars_none hV
 have hlen : ds.length = fn.params.size := by
  have : ∀ {ts : List TypeId} {vs : List Value} {ds : List (DataW H)} {ps : List MemPlace}, DataW.TrodAll enc P W 0 (fun _ => true) true ts vs ds ps → ds.length = ts.length := by
   intro ts
   induction ts with
   | nil => intro vs ds ps h; obtain ⟨_, rfl, _⟩ := trodAll_nil h; rfl
   | cons t ts ih => intro vs ds ps h; obtain ⟨v, vs', d', ds', p, q, rfl, rfl, rfl, h1, h2⟩ := trodAll_cons h; simp [ih h2]
  simpa using this hA
 obtain ⟨aas, g1, g2⟩ := args_got (φ := fun x => x) (M := MM (fun x => x) emp (fun _ _ => False)) (base := base) (fun r o h => h.elim not_mut_emp id) hpure
  (fun j t v a b => hval j t v (by simpa using a) (by simpa using b)) hA
 have hc := hcall aas g1 (fun x => x) (fun _ _ => False) W args.toList (relH_emp (fun _ _ h => h.elim)) g2
 simp only [Array.toArray_toList] at hc
 refine hc.mono ?_
 rintro e w' ⟨φ', r', h', ⟨rfl, rfl⟩, hH', E, hv⟩
 obtain ⟨v, rfl, hv⟩ := hv
 simp only [RepA, RepP] at hv
 subst hv
 have o := over_of_evol E
 have hlt : ∀ x ∈ p, x.block < W.heap.size := fun x hx => hW'.lt x (by simpa using hx)
 refine ⟨_, rfl, ?_⟩
 have hsp : s.fn H (ds ++ []) = { results := [.lit (.bool true)], args := ds } := by rw [List.append_nil]; exact hspec ds hlen
 have hr : ∀ (b : Nat) (sp : Nat → Bool) (hd : Bool), DataW.TrodAll enc P w' b sp hd fn.resultTypes.toList ((Value.bool true).resultList fn.resultTypes.size) [.lit (.bool true)] [] := fun b sp hd => by
  rw [hres]; exact trodAll_cons_mk (shut_bool htb _) trodAll_mk0
 refine ⟨ds, [], p ++ [], [], p, [], hW', by rw [hsp]; exact hr _ _ _, by rw [hsp]; exact trodAll_over hl (fun b hb => by simpa using hb) o hread hlt hA, by rw [hsp, hvars]; rfl, o.kept _, fun _ => ?_⟩
 refine ⟨ok_one hres rfl (okWide_bool_mk htb _), [.lit (.bool true)] ++ ds, [], ([] ++ p) ++ [], ⟨[] ++ p, [], ?_, ?_, rfl, ?_, ?_⟩, ?_⟩
 ·exact trodAll_append (trodAll_over hl (fun b hb => rfl) o hread hlt hA) (hr _ _ _)
 ·rw [hvars]; rfl
 ·intro b off hp
  rw [o.frozen (by exact hlt (.cell b off) (by simpa using hp))]
  exact hfz b off (by simpa using hp)
 ·intro ha; simpa using hnd ha
 ·intro x hx _; simpa using hx
end
def i64b (x : Int) : Prop := -9223372036854775808 ≤ x ∧ x ≤ 9223372036854775807
def strb (l : List UInt8) : Prop := l.length ≤ maxLen
def listb {α : Type} (W : α → Prop) (l : List α) : Prop := l.length ≤ maxLen ∧ ∀ x ∈ l, W x
section
variable {P : Program} {d : Nat} {t : TypeId} {cs : List PV}
theorem sh_i64 (hu : P.underlying t = some (.int .i64)) (h : Sh P (d + 1) t cs) : ∃ n, cs = [.val (.int .i64 n)] ∧ i64b n := by
 simp only [Sh, hu] at h
 obtain ⟨n, rfl, hw⟩ := h
 exact ⟨n, rfl, by simpa [Lit.wf, IntKind.min, IntKind.max, IntKind.signed, IntKind.bits, i64b] using hw⟩
theorem sh_str (hu : P.underlying t = some .string) (h : Sh P (d + 1) t cs) : ∃ s : List UInt8, cs = [.val (.string (mkS s))] ∧ strb s := by
 simp only [Sh, hu] at h
 exact h
theorem sh_struct {fs : Array Field} (hu : P.underlying t = some (.struct fs)) (h : Sh P (d + 1) t cs) : ShFs (Sh P d) fs.toList cs := by
 simpa only [Sh, hu] using h
theorem sh_list {e : TypeId} {S : Nat} {α : Type} {f : α → List PV} {W : α → Prop} (hu : P.underlying t = some (.slice e)) (hS : P.cellsOf e = S) (he : ∀ c, Sh P d e c → ∃ r, c = f r ∧ W r) (h : Sh P (d + 1) t cs) :
  ∃ l : List α, cs = [.sl S (List.map f l)] ∧ listb W l := by
 simp only [Sh, hu] at h
 obtain ⟨es, rfl, hl, hx⟩ := h
 have : ∃ l : List α, es = List.map f l ∧ ∀ x ∈ l, W x := by
  clear hl
  induction es with
  | nil => exact ⟨[], rfl, by simp⟩
  | cons e es ih =>
   obtain ⟨r, rfl, hr⟩ := he e (hx e (by simp))
   obtain ⟨l, rfl, hl⟩ := ih (fun x h => hx x (by simp [h]))
   exact ⟨r :: l, rfl, by simpa using ⟨hr, hl⟩⟩
 obtain ⟨l, rfl, hw⟩ := this
 exact ⟨l, by rw [hS], by simpa using hl, hw⟩
theorem avOf_struct {fs : Array Field} (hu : P.underlying t = some (.struct fs)) : avOf P t cs = ag cs := by simp only [avOf, hu]
theorem avOf_int {k : IntKind} {c : PV} (hu : P.underlying t = some (.int k)) : avOf P t [c] = .p c := by simp only [avOf, hu, one1]
theorem avOf_slice {e : TypeId} {c : PV} (hu : P.underlying t = some (.slice e)) : avOf P t [c] = .p c := by simp only [avOf, hu, one1]
end
end Go.Abs
namespace Go.Proofs
open Go Go.Abs
set_option maxRecDepth 100000
set_option linter.unusedVariables false
abbrev VI (n : Int) : PV := .val (.int .i64 n)
abbrev VU (n : Int) : PV := .val (.int .u64 n)
abbrev V8 (n : Int) : PV := .val (.int .u8 n)
abbrev VB (b : Bool) : PV := .val (.bool b)
abbrev VS (s : List UInt8) : PV := .val (.string (mkS s))
abbrev I (n : Int) : AV := .p (.val (.int .i64 n))
abbrev B8 (n : Int) : AV := .p (.val (.int .u8 n))
abbrev B (b : Bool) : AV := .p (.val (.bool b))
abbrev S (s : List UInt8) : AV := .p (.val (.string (mkS s)))
def ci (n : Int) : List PV := [VI n]
def c8 (n : Int) : List PV := [V8 n]
def cb (n : Bool) : List PV := [VB n]
def cstr (n : List UInt8) : List PV := [VS n]
theorem tfm : Tryz.prog.follows .mixedOrders = true := by kernel_rfl
structure GAr where
 Kind : Int
 Days : Int
 From : Int
 To : Int
 Price : Int
 Unit : Int
 Free : Int
deriving DecidableEq
def GAr.cs (x : GAr) : List PV := [VI x.Kind, VI x.Days, VI x.From, VI x.To, VI x.Price, VI x.Unit, VI x.Free]
structure GSl where
 Minute : Int
 Energy : Int
deriving DecidableEq
def GSl.cs (x : GSl) : List PV := [VI x.Minute, VI x.Energy]
structure GTf where
 Name : List UInt8
 Articles : List GAr
deriving DecidableEq
def GTf.cs (x : GTf) : List PV := [VS x.Name, .sl 7 (List.map GAr.cs x.Articles)]
structure GCh where
 At : Int
 Offset : Int
deriving DecidableEq
def GCh.cs (x : GCh) : List PV := [VI x.At, VI x.Offset]
structure GCl where
 Offset : Int
 Changes : List GCh
 Holidays : List Int
deriving DecidableEq
def GCl.cs (x : GCl) : List PV := [VI x.Offset, .sl 2 (List.map GCh.cs x.Changes), .sl 1 (List.map ci x.Holidays)]
structure GSs where
 From : Int
 To : Int
 End : Int
 Slices : List GSl
deriving DecidableEq
def GSs.cs (x : GSs) : List PV := [VI x.From, VI x.To, VI x.End, .sl 2 (List.map GSl.cs x.Slices)]
structure GNode where
 Kind : Int
 Name : List UInt8
 N : Int
 At : Int
 Kids : List (List PV)
def GNode.cs (x : GNode) : List PV := [VI x.Kind, VS x.Name, VI x.N, VI x.At, .sl 5 (List.map idc x.Kids)]
def GNode.of : List PV → Option GNode
 | [.val (.int .i64 v0), .val (.string v1), .val (.int .i64 v2), .val (.int .i64 v3), .sl s4 v4] => if s4 = 5 then some ⟨v0, byt v1, v2, v3, v4⟩ else none
 | _ => none
theorem GNode.of_cs (r : List PV) (x : GNode) (h : GNode.of r = some x) : GNode.cs x = r := by
 unfold GNode.of at h
 split at h
 ·split at h
  ·rename_i hs
   cases h
   simp [GNode.cs, mkS_byt, map_idc, hs]
  ·cases h
 ·cases h
structure GLine where
 Article : Int
 Amount : Int
deriving DecidableEq
def GLine.cs (x : GLine) : List PV := [VI x.Article, VI x.Amount]
structure GBill where
 Lines : List GLine
 Net : Int
 Tax : Int
 Total : Int
deriving DecidableEq
def GBill.cs (x : GBill) : List PV := [.sl 2 (List.map GLine.cs x.Lines), VI x.Net, VI x.Tax, VI x.Total]
structure GBB where
 article : GAr
 calendar : GCl
 session : GSs
deriving DecidableEq
def GBB.cs (x : GBB) : List PV := [VI x.article.Kind, VI x.article.Days, VI x.article.From, VI x.article.To, VI x.article.Price, VI x.article.Unit, VI x.article.Free, VI x.calendar.Offset, .sl 2 (List.map GCh.cs x.calendar.Changes), .sl 1 (List.map ci x.calendar.Holidays), VI x.session.From, VI x.session.To, VI x.session.End, .sl 2 (List.map GSl.cs x.session.Slices)]
structure GLs where
 from_ : Int
 to_ : Int
deriving DecidableEq
def GLs.cs (x : GLs) : List PV := [VI x.from_, VI x.to_]
def mk_mls (x : GLs) : Value := .agg #[.int .i64 x.from_, .int .i64 x.to_]
def mv_mls (x : Int) : PV := VI x
def me_mls (x y : GLs) : Bool := (eqI x.from_ y.from_) && ((eqI x.to_ y.to_) && true)
def enc_s_int (x : List Int) : List PV := [.sl 1 (List.map ci x)]
def g_law34_always (n : Nat) (a0kind : Int) (a1price : Int) (a2unit : Int) (a3free : Int) : Option GAr :=
 some (⟨a0kind, 7, 0, 1440, a1price, a2unit, a3free⟩ : GAr)
theorem g_law34_always_ok (n : Nat) (a0kind : Int) (a1price : Int) (a2unit : Int) (a3free : Int) : ∀ r, g_law34_always n a0kind a1price a2unit a3free = some r → PCall Tryz.prog 14 [I a0kind, I a1price, I a2unit, I a3free] (.ret (ag (GAr.cs r))) := by
 refine pcall_sim (X := fun r : GAr => AEnd.ret (ag (GAr.cs r))) Tryz.func14 rfl Tryz.ntmps14 rfl ?_
 unfold g_law34_always
 refine sR tfm ⟨[0, 1, 2, 3, 8], [8], [], []⟩ ⟨[(0, I a0kind), (1, I a1price), (2, I a2unit), (3, I a3free), (8, .ptr 8 0)], [(8, .box 45 [I 0, I 0, I 0, I 0, I 0, I 0, I 0])]⟩ krf ?_
 refine sR tfm ⟨[8], [8], [], []⟩ ⟨[(8, .ptr 8 0)], [(8, .box 45 [I a0kind, I 7, I 0, I 1440, I a1price, I a2unit, I a3free])]⟩ krf ?_
 refine sT ?_
 exact qR (.id) krf krf krf
def g_p_goodWord_l7 (a0text : List UInt8) (recl7 : Int → Option Bool) (l7 : Int) : Option Bool :=
 cond (ltI l7 (lenI a0text))
  ((getI a0text l7).bind fun x8 =>
  (cond (leI 97 (b2i x8))
   (cond (leI (b2i x8) 122)
    (some false)
    (cond (leI 48 (b2i x8))
     (cond (leI (b2i x8) 57)
      (some false)
      (some (!(eqI (b2i x8) 95))))
     (some (!(eqI (b2i x8) 95)))))
   (cond (leI 48 (b2i x8))
    (cond (leI (b2i x8) 57)
     (some false)
     (some (!(eqI (b2i x8) 95))))
    (some (!(eqI (b2i x8) 95))))).bind fun j9 =>
  cond j9
   (some false)
   (recl7 (wi (l7 + 1))))
  (some true)
def g_p_goodWord (n : Nat) (a0text : List UInt8) : Option Bool :=
 (cond (ltI (lenI a0text) 1)
  (some true)
  (cond (ltI 12 (lenI a0text))
   (some true)
   ((getI a0text 0).bind fun x4 =>
   cond (ltI (b2i x4) 97)
    (some true)
    ((getI a0text 0).bind fun x6 =>
    some (ltI 122 (b2i x6)))))).bind fun j1 =>
 cond j1
  (some false)
  (loopN (fun recl7 l7 => g_p_goodWord_l7 a0text recl7 l7) n 1)
theorem g_p_goodWord_ok (n : Nat) (a0text : List UInt8) : ∀ r, g_p_goodWord n a0text = some r → PCall Tryz.prog 87 [S a0text] (.ret (B r)) := by
 refine pcall_sim (X := fun r : Bool => AEnd.ret (B r)) Tryz.func87 rfl Tryz.ntmps87 rfl ?_
 unfold g_p_goodWord
 refine sR tfm ⟨[0], [], [], []⟩ ⟨[(0, S a0text)], []⟩ krf ?_
 refine sS ?_
 refine sim_bind (fun j1 => ⟨[(0, S a0text), (22, B j1)], []⟩ : Bool → St) ?_ ?_
 ·refine sG ?_
  refine xR 4 krf ?_
  refine xS (ltI (lenI a0text) 1) (fun h2 => ?_) (fun h2 => ?_)
  ·refine xN (want_ft krf h2) krf ?_
   refine xR 13 krf ?_
   refine xE ?_
   exact nq_n true ⟨[0, 22], [], [], []⟩ krf
  ·refine xO (want_ff krf h2) krf ?_
   refine xR 4 krf ?_
   refine xS (ltI 12 (lenI a0text)) (fun h3 => ?_) (fun h3 => ?_)
   ·refine xN (want_ft krf h3) krf ?_
    refine xR 8 krf ?_
    refine xE ?_
    exact nq_n true ⟨[0, 22], [], [], []⟩ krf
   ·refine xO (want_ff krf h3) krf ?_
    refine xG krf krf (aop_sidx (l := a0text) (k := .i64) (n := 0) rfl krf krf krf) (fun x4 => ?_)
    refine xR 3 krf ?_
    refine xS (ltI (b2i x4) 97) (fun h5 => ?_) (fun h5 => ?_)
    ·refine xN (want_ft krf h5) krf ?_
     refine xR 3 krf ?_
     refine xE ?_
     exact nq_n true ⟨[0, 22], [], [], []⟩ krf
    ·refine xO (want_ff krf h5) krf ?_
     refine xG krf krf (aop_sidx (l := a0text) (k := .i64) (n := 0) rfl krf krf krf) (fun x6 => ?_)
     refine xR 2 krf ?_
     refine xE ?_
     exact nq_n (ltI 122 (b2i x6)) ⟨[0, 22], [], [], []⟩ krf
 ·rintro j1
  refine sC j1 krf ?_ ?_
  ·refine sR tfm ⟨[2], [], [], []⟩ ⟨[(2, B false)], []⟩ krf ?_
   refine sT ?_
   refine sq_r ?_
   exact qR (.id) krf krf krf
  ·refine sK ?_
   refine sN ⟨[0], [], [], []⟩ ⟨[(0, S a0text)], []⟩ krf ?_
   refine sS ?_
   refine sR tfm ⟨[0, 3], [], [], []⟩ ⟨[(0, S a0text), (3, I 1)], []⟩ krf ?_
   refine sB ?_
   refine sim_loop (fun l7 => ⟨[(0, S a0text), (3, I l7)], []⟩ : Int → St) (weak_shr (K := ⟨[0, 3], [], [], []⟩) krf) ?_
   rintro recl7 l7
   show SimE (g_p_goodWord_l7 a0text recl7 l7) _ _ _ _ _ _
   unfold g_p_goodWord_l7
   refine sS ?_
   refine sR tfm ⟨[0, 3, 26], [], [], []⟩ ⟨[(0, S a0text), (3, I l7), (26, B (ltI l7 (lenI a0text)))], []⟩ krf ?_
   refine sC (ltI l7 (lenI a0text)) krf ?_ ?_
   ·refine sK ?_
    refine sN ⟨[0, 3], [], [], []⟩ ⟨[(0, S a0text), (3, I l7)], []⟩ krf ?_
    refine sS ?_
    refine sB ?_
    refine sS ?_
    refine sG ?_
    refine xR 2 krf ?_
    refine xG krf krf (aop_sidx (l := a0text) (k := .i64) (n := l7) rfl krf krf krf) (fun x8 => ?_)
    refine xR 1 krf ?_
    refine xE ?_
    refine sN ⟨[0, 3, 4], [], [], []⟩ ⟨[(0, S a0text), (3, I l7), (4, B8 (b2i x8))], []⟩ krf ?_
    refine sim_bind (fun j9 => ⟨[(0, S a0text), (3, I l7), (50, B j9)], []⟩ : Bool → St) ?_ ?_
    ·refine sG ?_
     refine xR 3 krf ?_
     refine xS (leI 97 (b2i x8)) (fun h10 => ?_) (fun h10 => ?_)
     ·refine xO (want_tt krf h10) krf ?_
      refine xR 3 krf ?_
      refine xS (leI (b2i x8) 122) (fun h11 => ?_) (fun h11 => ?_)
      ·refine xN (want_ft krf h11) krf ?_
       refine xR 11 krf ?_
       refine xE ?_
       exact nq_n false ⟨[0, 3, 50], [], [], []⟩ krf
      ·refine xO (want_ff krf h11) krf ?_
       refine xR 2 krf ?_
       refine xS (leI 48 (b2i x8)) (fun h12 => ?_) (fun h12 => ?_)
       ·refine xO (want_tt krf h12) krf ?_
        refine xR 4 krf ?_
        refine xS (leI (b2i x8) 57) (fun h13 => ?_) (fun h13 => ?_)
        ·refine xN (want_ft krf h13) krf ?_
         refine xR 3 krf ?_
         refine xE ?_
         exact nq_n false ⟨[0, 3, 50], [], [], []⟩ krf
        ·refine xO (want_ff krf h13) krf ?_
         refine xR 3 krf ?_
         refine xE ?_
         exact nq_n (!(eqI (b2i x8) 95)) ⟨[0, 3, 50], [], [], []⟩ krf
       ·refine xN (want_tf krf h12) krf ?_
        refine xR 8 krf ?_
        refine xE ?_
        exact nq_n (!(eqI (b2i x8) 95)) ⟨[0, 3, 50], [], [], []⟩ krf
     ·refine xN (want_tf krf h10) krf ?_
      refine xR 6 krf ?_
      refine xS (leI 48 (b2i x8)) (fun h14 => ?_) (fun h14 => ?_)
      ·refine xO (want_tt krf h14) krf ?_
       refine xR 4 krf ?_
       refine xS (leI (b2i x8) 57) (fun h15 => ?_) (fun h15 => ?_)
       ·refine xN (want_ft krf h15) krf ?_
        refine xR 3 krf ?_
        refine xE ?_
        exact nq_n false ⟨[0, 3, 50], [], [], []⟩ krf
       ·refine xO (want_ff krf h15) krf ?_
        refine xR 3 krf ?_
        refine xE ?_
        exact nq_n (!(eqI (b2i x8) 95)) ⟨[0, 3, 50], [], [], []⟩ krf
      ·refine xN (want_tf krf h14) krf ?_
       refine xR 8 krf ?_
       refine xE ?_
       exact nq_n (!(eqI (b2i x8) 95)) ⟨[0, 3, 50], [], [], []⟩ krf
    ·rintro j9
     refine sC j9 krf ?_ ?_
     ·refine sR tfm ⟨[2], [], [], []⟩ ⟨[(2, B false)], []⟩ krf ?_
      refine sT ?_
      refine bq_r ?_
      refine sq_r ?_
      refine kq_r ?_
      refine bq_r ?_
      refine sq_r ?_
      exact qR (.id) krf krf krf
     ·refine sK ?_
      refine bq_n ?_
      refine sN ⟨[0, 3], [], [], []⟩ ⟨[(0, S a0text), (3, I l7)], []⟩ krf ?_
      refine sL tfm krf ?_
      exact kq_n (wi (l7 + 1)) ⟨[0, 3], [], [], []⟩ krf
   ·refine sim_exit ?_
    refine sq_x ?_
    refine kq_x ?_
    refine bq_hit ?_
    refine sN ⟨[], [], [], []⟩ ⟨[], []⟩ krf ?_
    refine sR tfm ⟨[2], [], [], []⟩ ⟨[(2, B true)], []⟩ krf ?_
    refine sT ?_
    exact qR (.id) krf krf krf
def g_p_kindOf (n : Nat) (a0word : List UInt8) : Option Int :=
 cond (eqS a0word [102, 101, 101, 100, 101, 114])
  (some 1)
  (cond (eqS a0word [99, 97, 98, 108, 101])
   (some 2)
   (cond (eqS a0word [111, 119, 110, 101, 114])
    (some 3)
    (cond (eqS a0word [99, 111, 110, 116, 114, 97, 99, 116])
     (some 4)
     (cond (eqS a0word [99, 104, 97, 114, 103, 101, 114])
      (some 5)
      (cond (eqS a0word [98, 97, 121])
       (some 6)
       (cond (eqS a0word [116, 97, 114, 105, 102, 102])
        (some 7)
        (some 0)))))))
theorem g_p_kindOf_ok (n : Nat) (a0word : List UInt8) : ∀ r, g_p_kindOf n a0word = some r → PCall Tryz.prog 97 [S a0word] (.ret (I r)) := by
 refine pcall_sim (X := fun r : Int => AEnd.ret (I r)) Tryz.func97 rfl Tryz.ntmps97 rfl ?_
 unfold g_p_kindOf
 refine sR tfm ⟨[0], [], [], []⟩ ⟨[(0, S a0word)], []⟩ krf ?_
 refine sS ?_
 refine sR tfm ⟨[3], [], [], []⟩ ⟨[(3, S a0word)], []⟩ krf ?_
 refine sB ?_
 refine sR tfm ⟨[3, 4], [], [], []⟩ ⟨[(3, S a0word), (4, B (eqS a0word [102, 101, 101, 100, 101, 114]))], []⟩ krf ?_
 refine sC (eqS a0word [102, 101, 101, 100, 101, 114]) krf ?_ ?_
 ·refine sR tfm ⟨[2], [], [], []⟩ ⟨[(2, I 1)], []⟩ krf ?_
  refine sT ?_
  refine bq_r ?_
  refine sq_r ?_
  exact qR (.id) krf krf krf
 ·refine sR tfm ⟨[3, 6], [], [], []⟩ ⟨[(3, S a0word), (6, B (eqS a0word [99, 97, 98, 108, 101]))], []⟩ krf ?_
  refine sC (eqS a0word [99, 97, 98, 108, 101]) krf ?_ ?_
  ·refine sR tfm ⟨[2], [], [], []⟩ ⟨[(2, I 2)], []⟩ krf ?_
   refine sT ?_
   refine bq_r ?_
   refine sq_r ?_
   exact qR (.id) krf krf krf
  ·refine sR tfm ⟨[3, 8], [], [], []⟩ ⟨[(3, S a0word), (8, B (eqS a0word [111, 119, 110, 101, 114]))], []⟩ krf ?_
   refine sC (eqS a0word [111, 119, 110, 101, 114]) krf ?_ ?_
   ·refine sR tfm ⟨[2], [], [], []⟩ ⟨[(2, I 3)], []⟩ krf ?_
    refine sT ?_
    refine bq_r ?_
    refine sq_r ?_
    exact qR (.id) krf krf krf
   ·refine sR tfm ⟨[3, 10], [], [], []⟩ ⟨[(3, S a0word), (10, B (eqS a0word [99, 111, 110, 116, 114, 97, 99, 116]))], []⟩ krf ?_
    refine sC (eqS a0word [99, 111, 110, 116, 114, 97, 99, 116]) krf ?_ ?_
    ·refine sR tfm ⟨[2], [], [], []⟩ ⟨[(2, I 4)], []⟩ krf ?_
     refine sT ?_
     refine bq_r ?_
     refine sq_r ?_
     exact qR (.id) krf krf krf
    ·refine sR tfm ⟨[3, 12], [], [], []⟩ ⟨[(3, S a0word), (12, B (eqS a0word [99, 104, 97, 114, 103, 101, 114]))], []⟩ krf ?_
     refine sC (eqS a0word [99, 104, 97, 114, 103, 101, 114]) krf ?_ ?_
     ·refine sR tfm ⟨[2], [], [], []⟩ ⟨[(2, I 5)], []⟩ krf ?_
      refine sT ?_
      refine bq_r ?_
      refine sq_r ?_
      exact qR (.id) krf krf krf
     ·refine sR tfm ⟨[3, 14], [], [], []⟩ ⟨[(3, S a0word), (14, B (eqS a0word [98, 97, 121]))], []⟩ krf ?_
      refine sC (eqS a0word [98, 97, 121]) krf ?_ ?_
      ·refine sR tfm ⟨[2], [], [], []⟩ ⟨[(2, I 6)], []⟩ krf ?_
       refine sT ?_
       refine bq_r ?_
       refine sq_r ?_
       exact qR (.id) krf krf krf
      ·refine sR tfm ⟨[16], [], [], []⟩ ⟨[(16, B (eqS a0word [116, 97, 114, 105, 102, 102]))], []⟩ krf ?_
       refine sC (eqS a0word [116, 97, 114, 105, 102, 102]) krf ?_ ?_
       ·refine sR tfm ⟨[2], [], [], []⟩ ⟨[(2, I 7)], []⟩ krf ?_
        refine sT ?_
        refine bq_r ?_
        refine sq_r ?_
        exact qR (.id) krf krf krf
       ·refine sK ?_
        refine bq_n ?_
        refine sN ⟨[], [], [], []⟩ ⟨[], []⟩ krf ?_
        refine sR tfm ⟨[2], [], [], []⟩ ⟨[(2, I 0)], []⟩ krf ?_
        refine sT ?_
        exact qR (.id) krf krf krf
def g_p_isAttr (n : Nat) (a0word : List UInt8) : Option Bool :=
 (cond (eqS a0word [108, 105, 109, 105, 116])
  (some (eqS a0word [108, 105, 109, 105, 116]))
  (cond (eqS a0word [110, 101, 117, 116, 114, 97, 108])
   (some (eqS a0word [110, 101, 117, 116, 114, 97, 108]))
   (cond (eqS a0word [102, 117, 115, 101])
    (some (eqS a0word [102, 117, 115, 101]))
    (cond (eqS a0word [116, 104, 101, 114, 109, 97, 108])
     (some (eqS a0word [116, 104, 101, 114, 109, 97, 108]))
     (cond (eqS a0word [102, 114, 111, 109])
      (some (eqS a0word [102, 114, 111, 109]))
      (cond (eqS a0word [97, 116])
       (some (eqS a0word [97, 116]))
       (cond (eqS a0word [112, 104, 97, 115, 101, 115])
        (some (eqS a0word [112, 104, 97, 115, 101, 115]))
        (cond (eqS a0word [97, 109, 112, 115])
         (some (eqS a0word [97, 109, 112, 115]))
         (cond (eqS a0word [102, 97, 108, 108, 98, 97, 99, 107])
          (some (eqS a0word [102, 97, 108, 108, 98, 97, 99, 107]))
          (cond (eqS a0word [111, 119, 110, 101, 114])
           (some (eqS a0word [111, 119, 110, 101, 114]))
           (cond (eqS a0word [99, 97, 114, 100])
            (some (eqS a0word [99, 97, 114, 100]))
            (cond (eqS a0word [114, 97, 110, 107])
             (some (eqS a0word [114, 97, 110, 107]))
             (some (eqS a0word [99, 104, 97, 114, 103, 101, 114])))))))))))))).bind fun j1 =>
 cond j1
  (some true)
  (some false)
theorem g_p_isAttr_ok (n : Nat) (a0word : List UInt8) : ∀ r, g_p_isAttr n a0word = some r → PCall Tryz.prog 89 [S a0word] (.ret (B r)) := by
 refine pcall_sim (X := fun r : Bool => AEnd.ret (B r)) Tryz.func89 rfl Tryz.ntmps89 rfl ?_
 unfold g_p_isAttr
 refine sR tfm ⟨[0], [], [], []⟩ ⟨[(0, S a0word)], []⟩ krf ?_
 refine sS ?_
 refine sR tfm ⟨[3], [], [], []⟩ ⟨[(3, S a0word)], []⟩ krf ?_
 refine sB ?_
 refine sim_bind (fun j1 => ⟨[(4, B j1)], []⟩ : Bool → St) ?_ ?_
 ·refine sR tfm ⟨[3, 4], [], [], []⟩ ⟨[(3, S a0word), (4, B (eqS a0word [108, 105, 109, 105, 116]))], []⟩ krf ?_
  refine sC (eqS a0word [108, 105, 109, 105, 116]) krf ?_ ?_
  ·refine sK ?_
   exact nq_n (eqS a0word [108, 105, 109, 105, 116]) ⟨[4], [], [], []⟩ krf
  ·refine sR tfm ⟨[3, 4], [], [], []⟩ ⟨[(3, S a0word), (4, B (eqS a0word [110, 101, 117, 116, 114, 97, 108]))], []⟩ krf ?_
   refine sC (eqS a0word [110, 101, 117, 116, 114, 97, 108]) krf ?_ ?_
   ·refine sK ?_
    exact nq_n (eqS a0word [110, 101, 117, 116, 114, 97, 108]) ⟨[4], [], [], []⟩ krf
   ·refine sR tfm ⟨[3, 4], [], [], []⟩ ⟨[(3, S a0word), (4, B (eqS a0word [102, 117, 115, 101]))], []⟩ krf ?_
    refine sC (eqS a0word [102, 117, 115, 101]) krf ?_ ?_
    ·refine sK ?_
     exact nq_n (eqS a0word [102, 117, 115, 101]) ⟨[4], [], [], []⟩ krf
    ·refine sR tfm ⟨[3, 4], [], [], []⟩ ⟨[(3, S a0word), (4, B (eqS a0word [116, 104, 101, 114, 109, 97, 108]))], []⟩ krf ?_
     refine sC (eqS a0word [116, 104, 101, 114, 109, 97, 108]) krf ?_ ?_
     ·refine sK ?_
      exact nq_n (eqS a0word [116, 104, 101, 114, 109, 97, 108]) ⟨[4], [], [], []⟩ krf
     ·refine sR tfm ⟨[3, 4], [], [], []⟩ ⟨[(3, S a0word), (4, B (eqS a0word [102, 114, 111, 109]))], []⟩ krf ?_
      refine sC (eqS a0word [102, 114, 111, 109]) krf ?_ ?_
      ·refine sK ?_
       exact nq_n (eqS a0word [102, 114, 111, 109]) ⟨[4], [], [], []⟩ krf
      ·refine sR tfm ⟨[3, 4], [], [], []⟩ ⟨[(3, S a0word), (4, B (eqS a0word [97, 116]))], []⟩ krf ?_
       refine sC (eqS a0word [97, 116]) krf ?_ ?_
       ·refine sK ?_
        exact nq_n (eqS a0word [97, 116]) ⟨[4], [], [], []⟩ krf
       ·refine sR tfm ⟨[3, 4], [], [], []⟩ ⟨[(3, S a0word), (4, B (eqS a0word [112, 104, 97, 115, 101, 115]))], []⟩ krf ?_
        refine sC (eqS a0word [112, 104, 97, 115, 101, 115]) krf ?_ ?_
        ·refine sK ?_
         exact nq_n (eqS a0word [112, 104, 97, 115, 101, 115]) ⟨[4], [], [], []⟩ krf
        ·refine sR tfm ⟨[3, 4], [], [], []⟩ ⟨[(3, S a0word), (4, B (eqS a0word [97, 109, 112, 115]))], []⟩ krf ?_
         refine sC (eqS a0word [97, 109, 112, 115]) krf ?_ ?_
         ·refine sK ?_
          exact nq_n (eqS a0word [97, 109, 112, 115]) ⟨[4], [], [], []⟩ krf
         ·refine sR tfm ⟨[3, 4], [], [], []⟩ ⟨[(3, S a0word), (4, B (eqS a0word [102, 97, 108, 108, 98, 97, 99, 107]))], []⟩ krf ?_
          refine sC (eqS a0word [102, 97, 108, 108, 98, 97, 99, 107]) krf ?_ ?_
          ·refine sK ?_
           exact nq_n (eqS a0word [102, 97, 108, 108, 98, 97, 99, 107]) ⟨[4], [], [], []⟩ krf
          ·refine sR tfm ⟨[3, 4], [], [], []⟩ ⟨[(3, S a0word), (4, B (eqS a0word [111, 119, 110, 101, 114]))], []⟩ krf ?_
           refine sC (eqS a0word [111, 119, 110, 101, 114]) krf ?_ ?_
           ·refine sK ?_
            exact nq_n (eqS a0word [111, 119, 110, 101, 114]) ⟨[4], [], [], []⟩ krf
           ·refine sR tfm ⟨[3, 4], [], [], []⟩ ⟨[(3, S a0word), (4, B (eqS a0word [99, 97, 114, 100]))], []⟩ krf ?_
            refine sC (eqS a0word [99, 97, 114, 100]) krf ?_ ?_
            ·refine sK ?_
             exact nq_n (eqS a0word [99, 97, 114, 100]) ⟨[4], [], [], []⟩ krf
            ·refine sR tfm ⟨[3, 4], [], [], []⟩ ⟨[(3, S a0word), (4, B (eqS a0word [114, 97, 110, 107]))], []⟩ krf ?_
             refine sC (eqS a0word [114, 97, 110, 107]) krf ?_ ?_
             ·refine sK ?_
              exact nq_n (eqS a0word [114, 97, 110, 107]) ⟨[4], [], [], []⟩ krf
             ·refine sL tfm krf ?_
              exact nq_n (eqS a0word [99, 104, 97, 114, 103, 101, 114]) ⟨[4], [], [], []⟩ krf
 ·rintro j1
  refine sC j1 krf ?_ ?_
  ·refine sR tfm ⟨[2], [], [], []⟩ ⟨[(2, B true)], []⟩ krf ?_
   refine sT ?_
   refine bq_r ?_
   refine sq_r ?_
   exact qR (.id) krf krf krf
  ·refine sK ?_
   refine bq_n ?_
   refine sN ⟨[], [], [], []⟩ ⟨[], []⟩ krf ?_
   refine sR tfm ⟨[2], [], [], []⟩ ⟨[(2, B false)], []⟩ krf ?_
   refine sT ?_
   exact qR (.id) krf krf krf
def g_p_isArticle (n : Nat) (a0word : List UInt8) : Option Bool :=
 (cond (eqS a0word [115, 116, 97, 114, 116])
  (some (eqS a0word [115, 116, 97, 114, 116]))
  (cond (eqS a0word [101, 110, 101, 114, 103, 121])
   (some (eqS a0word [101, 110, 101, 114, 103, 121]))
   (cond (eqS a0word [116, 105, 109, 101])
    (some (eqS a0word [116, 105, 109, 101]))
    (cond (eqS a0word [105, 100, 108, 101])
     (some (eqS a0word [105, 100, 108, 101]))
     (cond (eqS a0word [99, 97, 112])
      (some (eqS a0word [99, 97, 112]))
      (some (eqS a0word [116, 97, 120]))))))).bind fun j1 =>
 cond j1
  (some true)
  (some false)
theorem g_p_isArticle_ok (n : Nat) (a0word : List UInt8) : ∀ r, g_p_isArticle n a0word = some r → PCall Tryz.prog 90 [S a0word] (.ret (B r)) := by
 refine pcall_sim (X := fun r : Bool => AEnd.ret (B r)) Tryz.func90 rfl Tryz.ntmps90 rfl ?_
 unfold g_p_isArticle
 refine sR tfm ⟨[0], [], [], []⟩ ⟨[(0, S a0word)], []⟩ krf ?_
 refine sS ?_
 refine sR tfm ⟨[3], [], [], []⟩ ⟨[(3, S a0word)], []⟩ krf ?_
 refine sB ?_
 refine sim_bind (fun j1 => ⟨[(4, B j1)], []⟩ : Bool → St) ?_ ?_
 ·refine sR tfm ⟨[3, 4], [], [], []⟩ ⟨[(3, S a0word), (4, B (eqS a0word [115, 116, 97, 114, 116]))], []⟩ krf ?_
  refine sC (eqS a0word [115, 116, 97, 114, 116]) krf ?_ ?_
  ·refine sK ?_
   exact nq_n (eqS a0word [115, 116, 97, 114, 116]) ⟨[4], [], [], []⟩ krf
  ·refine sR tfm ⟨[3, 4], [], [], []⟩ ⟨[(3, S a0word), (4, B (eqS a0word [101, 110, 101, 114, 103, 121]))], []⟩ krf ?_
   refine sC (eqS a0word [101, 110, 101, 114, 103, 121]) krf ?_ ?_
   ·refine sK ?_
    exact nq_n (eqS a0word [101, 110, 101, 114, 103, 121]) ⟨[4], [], [], []⟩ krf
   ·refine sR tfm ⟨[3, 4], [], [], []⟩ ⟨[(3, S a0word), (4, B (eqS a0word [116, 105, 109, 101]))], []⟩ krf ?_
    refine sC (eqS a0word [116, 105, 109, 101]) krf ?_ ?_
    ·refine sK ?_
     exact nq_n (eqS a0word [116, 105, 109, 101]) ⟨[4], [], [], []⟩ krf
    ·refine sR tfm ⟨[3, 4], [], [], []⟩ ⟨[(3, S a0word), (4, B (eqS a0word [105, 100, 108, 101]))], []⟩ krf ?_
     refine sC (eqS a0word [105, 100, 108, 101]) krf ?_ ?_
     ·refine sK ?_
      exact nq_n (eqS a0word [105, 100, 108, 101]) ⟨[4], [], [], []⟩ krf
     ·refine sR tfm ⟨[3, 4], [], [], []⟩ ⟨[(3, S a0word), (4, B (eqS a0word [99, 97, 112]))], []⟩ krf ?_
      refine sC (eqS a0word [99, 97, 112]) krf ?_ ?_
      ·refine sK ?_
       exact nq_n (eqS a0word [99, 97, 112]) ⟨[4], [], [], []⟩ krf
      ·refine sL tfm krf ?_
       exact nq_n (eqS a0word [116, 97, 120]) ⟨[4], [], [], []⟩ krf
 ·rintro j1
  refine sC j1 krf ?_ ?_
  ·refine sR tfm ⟨[2], [], [], []⟩ ⟨[(2, B true)], []⟩ krf ?_
   refine sT ?_
   refine bq_r ?_
   refine sq_r ?_
   exact qR (.id) krf krf krf
  ·refine sK ?_
   refine bq_n ?_
   refine sN ⟨[], [], [], []⟩ ⟨[], []⟩ krf ?_
   refine sR tfm ⟨[2], [], [], []⟩ ⟨[(2, B false)], []⟩ krf ?_
   refine sT ?_
   exact qR (.id) krf krf krf
def g_p_isWord (n : Nat) (a0word : List UInt8) : Option Bool :=
 (cond (eqS a0word [111, 110])
  (some (eqS a0word [111, 110]))
  (cond (eqS a0word [119, 111, 114, 107])
   (some (eqS a0word [119, 111, 114, 107]))
   (cond (eqS a0word [115, 97, 116, 117, 114, 100, 97, 121])
    (some (eqS a0word [115, 97, 116, 117, 114, 100, 97, 121]))
    (cond (eqS a0word [115, 117, 110, 100, 97, 121])
     (some (eqS a0word [115, 117, 110, 100, 97, 121]))
     (cond (eqS a0word [98, 101, 116, 119, 101, 101, 110])
      (some (eqS a0word [98, 101, 116, 119, 101, 101, 110]))
      (cond (eqS a0word [112, 101, 114])
       (some (eqS a0word [112, 101, 114]))
       (some (eqS a0word [102, 114, 101, 101])))))))).bind fun j1 =>
 cond j1
  (some true)
  (some false)
theorem g_p_isWord_ok (n : Nat) (a0word : List UInt8) : ∀ r, g_p_isWord n a0word = some r → PCall Tryz.prog 98 [S a0word] (.ret (B r)) := by
 refine pcall_sim (X := fun r : Bool => AEnd.ret (B r)) Tryz.func98 rfl Tryz.ntmps98 rfl ?_
 unfold g_p_isWord
 refine sR tfm ⟨[0], [], [], []⟩ ⟨[(0, S a0word)], []⟩ krf ?_
 refine sS ?_
 refine sR tfm ⟨[3], [], [], []⟩ ⟨[(3, S a0word)], []⟩ krf ?_
 refine sB ?_
 refine sim_bind (fun j1 => ⟨[(4, B j1)], []⟩ : Bool → St) ?_ ?_
 ·refine sR tfm ⟨[3, 4], [], [], []⟩ ⟨[(3, S a0word), (4, B (eqS a0word [111, 110]))], []⟩ krf ?_
  refine sC (eqS a0word [111, 110]) krf ?_ ?_
  ·refine sK ?_
   exact nq_n (eqS a0word [111, 110]) ⟨[4], [], [], []⟩ krf
  ·refine sR tfm ⟨[3, 4], [], [], []⟩ ⟨[(3, S a0word), (4, B (eqS a0word [119, 111, 114, 107]))], []⟩ krf ?_
   refine sC (eqS a0word [119, 111, 114, 107]) krf ?_ ?_
   ·refine sK ?_
    exact nq_n (eqS a0word [119, 111, 114, 107]) ⟨[4], [], [], []⟩ krf
   ·refine sR tfm ⟨[3, 4], [], [], []⟩ ⟨[(3, S a0word), (4, B (eqS a0word [115, 97, 116, 117, 114, 100, 97, 121]))], []⟩ krf ?_
    refine sC (eqS a0word [115, 97, 116, 117, 114, 100, 97, 121]) krf ?_ ?_
    ·refine sK ?_
     exact nq_n (eqS a0word [115, 97, 116, 117, 114, 100, 97, 121]) ⟨[4], [], [], []⟩ krf
    ·refine sR tfm ⟨[3, 4], [], [], []⟩ ⟨[(3, S a0word), (4, B (eqS a0word [115, 117, 110, 100, 97, 121]))], []⟩ krf ?_
     refine sC (eqS a0word [115, 117, 110, 100, 97, 121]) krf ?_ ?_
     ·refine sK ?_
      exact nq_n (eqS a0word [115, 117, 110, 100, 97, 121]) ⟨[4], [], [], []⟩ krf
     ·refine sR tfm ⟨[3, 4], [], [], []⟩ ⟨[(3, S a0word), (4, B (eqS a0word [98, 101, 116, 119, 101, 101, 110]))], []⟩ krf ?_
      refine sC (eqS a0word [98, 101, 116, 119, 101, 101, 110]) krf ?_ ?_
      ·refine sK ?_
       exact nq_n (eqS a0word [98, 101, 116, 119, 101, 101, 110]) ⟨[4], [], [], []⟩ krf
      ·refine sR tfm ⟨[3, 4], [], [], []⟩ ⟨[(3, S a0word), (4, B (eqS a0word [112, 101, 114]))], []⟩ krf ?_
       refine sC (eqS a0word [112, 101, 114]) krf ?_ ?_
       ·refine sK ?_
        exact nq_n (eqS a0word [112, 101, 114]) ⟨[4], [], [], []⟩ krf
       ·refine sL tfm krf ?_
        exact nq_n (eqS a0word [102, 114, 101, 101]) ⟨[4], [], [], []⟩ krf
 ·rintro j1
  refine sC j1 krf ?_ ?_
  ·refine sR tfm ⟨[2], [], [], []⟩ ⟨[(2, B true)], []⟩ krf ?_
   refine sT ?_
   refine bq_r ?_
   refine sq_r ?_
   exact qR (.id) krf krf krf
  ·refine sK ?_
   refine bq_n ?_
   refine sN ⟨[], [], [], []⟩ ⟨[], []⟩ krf ?_
   refine sR tfm ⟨[2], [], [], []⟩ ⟨[(2, B false)], []⟩ krf ?_
   refine sT ?_
   exact qR (.id) krf krf krf
def g_p_isKey (n : Nat) (a0word : List UInt8) : Option Bool :=
 (g_p_kindOf n a0word).bind fun r1 =>
 cond (!eqI r1 0)
  (some true)
  ((g_p_isAttr n a0word).bind fun r3 =>
  cond r3
   (some true)
   ((g_p_isArticle n a0word).bind fun r5 =>
   cond r5
    (some true)
    ((g_p_isWord n a0word).bind fun r7 =>
    some r7)))
theorem g_p_isKey_ok (n : Nat) (a0word : List UInt8) : ∀ r, g_p_isKey n a0word = some r → PCall Tryz.prog 88 [S a0word] (.ret (B r)) := by
 refine pcall_sim (X := fun r : Bool => AEnd.ret (B r)) Tryz.func88 rfl Tryz.ntmps88 rfl ?_
 unfold g_p_isKey
 refine sR tfm ⟨[0], [], [], []⟩ ⟨[(0, S a0word)], []⟩ krf ?_
 refine sS ?_
 refine sG ?_
 refine xR 1 krf ?_
 refine xC [] krf (g_p_kindOf_ok n a0word) krf krf (fun _ => by kernel_rfl) (fun r1 => ?_)
 refine xR 2 krf ?_
 refine xS (!eqI r1 0) (fun h2 => ?_) (fun h2 => ?_)
 ·refine xN (want_ft krf h2) krf ?_
  refine xR 11 krf ?_
  refine xE ?_
  refine sN ⟨[2], [], [], []⟩ ⟨[(2, B true)], []⟩ krf ?_
  refine sT ?_
  exact qR (.id) krf krf krf
 ·refine xO (want_ff krf h2) krf ?_
  refine xC [] krf (g_p_isAttr_ok n a0word) krf krf (fun _ => by kernel_rfl) (fun r3 => ?_)
  refine xR 2 krf ?_
  refine xS r3 (fun h4 => ?_) (fun h4 => ?_)
  ·refine xN (want_ft krf h4) krf ?_
   refine xR 7 krf ?_
   refine xE ?_
   refine sN ⟨[2], [], [], []⟩ ⟨[(2, B true)], []⟩ krf ?_
   refine sT ?_
   exact qR (.id) krf krf krf
  ·refine xO (want_ff krf h4) krf ?_
   refine xC [] krf (g_p_isArticle_ok n a0word) krf krf (fun _ => by kernel_rfl) (fun r5 => ?_)
   refine xR 2 krf ?_
   refine xS r5 (fun h6 => ?_) (fun h6 => ?_)
   ·refine xN (want_ft krf h6) krf ?_
    refine xR 3 krf ?_
    refine xE ?_
    refine sN ⟨[2], [], [], []⟩ ⟨[(2, B true)], []⟩ krf ?_
    refine sT ?_
    exact qR (.id) krf krf krf
   ·refine xO (want_ff krf h6) krf ?_
    refine xC [] krf (g_p_isWord_ok n a0word) krf krf (fun _ => by kernel_rfl) (fun r7 => ?_)
    refine xR 2 krf ?_
    refine xE ?_
    refine sN ⟨[2], [], [], []⟩ ⟨[(2, B r7)], []⟩ krf ?_
    refine sT ?_
    exact qR (.id) krf krf krf
def g_p_goodName (n : Nat) (a0text : List UInt8) : Option Bool :=
 (g_p_goodWord n a0text).bind fun r1 =>
 cond r1
  ((g_p_isKey n a0text).bind fun r3 =>
  some (!r3))
  (some false)
theorem g_p_goodName_ok (n : Nat) (a0text : List UInt8) : ∀ r, g_p_goodName n a0text = some r → PCall Tryz.prog 80 [S a0text] (.ret (B r)) := by
 refine pcall_sim (X := fun r : Bool => AEnd.ret (B r)) Tryz.func80 rfl Tryz.ntmps80 rfl ?_
 unfold g_p_goodName
 refine sR tfm ⟨[0], [], [], []⟩ ⟨[(0, S a0text)], []⟩ krf ?_
 refine sS ?_
 refine sG ?_
 refine xR 1 krf ?_
 refine xC [] krf (g_p_goodWord_ok n a0text) krf krf (fun _ => by kernel_rfl) (fun r1 => ?_)
 refine xR 1 krf ?_
 refine xS r1 (fun h2 => ?_) (fun h2 => ?_)
 ·refine xO (want_tt krf h2) krf ?_
  refine xC [] krf (g_p_isKey_ok n a0text) krf krf (fun _ => by kernel_rfl) (fun r3 => ?_)
  refine xR 3 krf ?_
  refine xE ?_
  refine sN ⟨[2], [], [], []⟩ ⟨[(2, B (!r3))], []⟩ krf ?_
  refine sT ?_
  exact qR (.id) krf krf krf
 ·refine xN (want_tf krf h2) krf ?_
  refine xR 4 krf ?_
  refine xE ?_
  refine sN ⟨[2], [], [], []⟩ ⟨[(2, B false)], []⟩ krf ?_
  refine sT ?_
  exact qR (.id) krf krf krf
def g_p_validValue (n : Nat) (a0n : GNode) (a1words : Bool) : Option Bool :=
 cond (!eqI (lenI (List.map idc a0n.Kids)) 0)
  (some false)
  (cond (eqI a0n.Kind 5)
   (cond (eqI a0n.N 0)
    ((g_p_goodName n a0n.Name).bind fun r2 =>
    cond r2
     (some true)
     (cond a1words
      ((g_p_isWord n a0n.Name).bind fun r5 =>
      some r5)
      (some false)))
    (some false))
   (cond (eqI a0n.Kind 6)
    (cond (eqS a0n.Name [])
     (cond (leI 0 a0n.N)
      (some (leI a0n.N 1000000))
      (some false))
     (some false))
    (some false)))
theorem g_p_validValue_ok (n : Nat) (a0n : GNode) (a1words : Bool) : ∀ r, g_p_validValue n a0n a1words = some r → PCall Tryz.prog 91 [ag (GNode.cs a0n), B a1words] (.ret (B r)) := by
 refine pcall_sim (X := fun r : Bool => AEnd.ret (B r)) Tryz.func91 rfl Tryz.ntmps91 rfl ?_
 unfold g_p_validValue
 refine sR tfm ⟨[1, 2], [2], [], []⟩ ⟨[(1, B a1words), (2, .ptr 2 0)], [(2, .box 76 (bxc (GNode.cs a0n)))]⟩ krf ?_
 refine sS ?_
 refine sR tfm ⟨[1, 2, 8], [2], [], []⟩ ⟨[(1, B a1words), (2, .ptr 2 0), (8, B (!eqI (lenI (List.map idc a0n.Kids)) 0))], [(2, .box 76 (bxc (GNode.cs a0n)))]⟩ krf ?_
 refine sC (!eqI (lenI (List.map idc a0n.Kids)) 0) krf ?_ ?_
 ·refine sR tfm ⟨[4], [], [], []⟩ ⟨[(4, B false)], []⟩ krf ?_
  refine sT ?_
  refine sq_r ?_
  exact qR (.id) krf krf krf
 ·refine sK ?_
  refine sN ⟨[1, 2], [2], [], []⟩ ⟨[(1, B a1words), (2, .ptr 2 0)], [(2, .box 76 (bxc (GNode.cs a0n)))]⟩ krf ?_
  refine sS ?_
  refine sR tfm ⟨[1, 2, 10], [2], [], []⟩ ⟨[(1, B a1words), (2, .ptr 2 0), (10, I a0n.Kind)], [(2, .box 76 (bxc (GNode.cs a0n)))]⟩ krf ?_
  refine sB ?_
  refine sR tfm ⟨[1, 2, 10, 11], [2], [], []⟩ ⟨[(1, B a1words), (2, .ptr 2 0), (10, I a0n.Kind), (11, B (eqI a0n.Kind 5))], [(2, .box 76 (bxc (GNode.cs a0n)))]⟩ krf ?_
  refine sC (eqI a0n.Kind 5) krf ?_ ?_
  ·refine sS ?_
   refine sG ?_
   refine xR 4 krf ?_
   refine xS (eqI a0n.N 0) (fun h1 => ?_) (fun h1 => ?_)
   ·refine xO (want_tt krf h1) krf ?_
    refine xR 1 krf ?_
    refine xC [] krf (g_p_goodName_ok n a0n.Name) krf krf (fun _ => by kernel_rfl) (fun r2 => ?_)
    refine xR 1 krf ?_
    refine xS r2 (fun h3 => ?_) (fun h3 => ?_)
    ·refine xN (want_ft krf h3) krf ?_
     refine xR 8 krf ?_
     refine xE ?_
     refine sN ⟨[4], [], [], []⟩ ⟨[(4, B true)], []⟩ krf ?_
     refine sT ?_
     refine bq_r ?_
     refine sq_r ?_
     exact qR (.id) krf krf krf
    ·refine xO (want_ff krf h3) krf ?_
     refine xR 1 krf ?_
     refine xS a1words (fun h4 => ?_) (fun h4 => ?_)
     ·refine xO (want_tt krf h4) krf ?_
      refine xR 1 krf ?_
      refine xC [] krf (g_p_isWord_ok n a0n.Name) krf krf (fun _ => by kernel_rfl) (fun r5 => ?_)
      refine xR 4 krf ?_
      refine xE ?_
      refine sN ⟨[4], [], [], []⟩ ⟨[(4, B r5)], []⟩ krf ?_
      refine sT ?_
      refine bq_r ?_
      refine sq_r ?_
      exact qR (.id) krf krf krf
     ·refine xN (want_tf krf h4) krf ?_
      refine xR 6 krf ?_
      refine xE ?_
      refine sN ⟨[4], [], [], []⟩ ⟨[(4, B false)], []⟩ krf ?_
      refine sT ?_
      refine bq_r ?_
      refine sq_r ?_
      exact qR (.id) krf krf krf
   ·refine xN (want_tf krf h1) krf ?_
    refine xR 12 krf ?_
    refine xE ?_
    refine sN ⟨[4], [], [], []⟩ ⟨[(4, B false)], []⟩ krf ?_
    refine sT ?_
    refine bq_r ?_
    refine sq_r ?_
    exact qR (.id) krf krf krf
  ·refine sR tfm ⟨[2, 29], [2], [], []⟩ ⟨[(2, .ptr 2 0), (29, B (eqI a0n.Kind 6))], [(2, .box 76 (bxc (GNode.cs a0n)))]⟩ krf ?_
   refine sC (eqI a0n.Kind 6) krf ?_ ?_
   ·refine sS ?_
    refine sG ?_
    refine xR 4 krf ?_
    refine xS (eqS a0n.Name []) (fun h6 => ?_) (fun h6 => ?_)
    ·refine xO (want_tt krf h6) krf ?_
     refine xR 4 krf ?_
     refine xS (leI 0 a0n.N) (fun h7 => ?_) (fun h7 => ?_)
     ·refine xO (want_tt krf h7) krf ?_
      refine xR 4 krf ?_
      refine xE ?_
      refine sN ⟨[4], [], [], []⟩ ⟨[(4, B (leI a0n.N 1000000))], []⟩ krf ?_
      refine sT ?_
      refine bq_r ?_
      refine sq_r ?_
      exact qR (.id) krf krf krf
     ·refine xN (want_tf krf h7) krf ?_
      refine xR 4 krf ?_
      refine xE ?_
      refine sN ⟨[4], [], [], []⟩ ⟨[(4, B false)], []⟩ krf ?_
      refine sT ?_
      refine bq_r ?_
      refine sq_r ?_
      exact qR (.id) krf krf krf
    ·refine xN (want_tf krf h6) krf ?_
     refine xR 9 krf ?_
     refine xE ?_
     refine sN ⟨[4], [], [], []⟩ ⟨[(4, B false)], []⟩ krf ?_
     refine sT ?_
     refine bq_r ?_
     refine sq_r ?_
     exact qR (.id) krf krf krf
   ·refine sK ?_
    refine bq_n ?_
    refine sN ⟨[], [], [], []⟩ ⟨[], []⟩ krf ?_
    refine sR tfm ⟨[4], [], [], []⟩ ⟨[(4, B false)], []⟩ krf ?_
    refine sT ?_
    exact qR (.id) krf krf krf
def g_p_validPart_l9 (n : Nat) (a0n : GNode) (a1left : Int) (recl9 : Int → Option (Bool × Int)) (l9 : Int) : Option (Bool × Int) :=
 cond (ltI l9 (lenI (List.map idc a0n.Kids)))
  ((Option.bind (getI a0n.Kids l9) GNode.of).bind fun x10 =>
  (g_p_validValue n x10 (eqI a0n.Kind 4)).bind fun r11 =>
  cond (!r11)
   (some (false, wi (a1left - (lenI (List.map idc a0n.Kids)))))
   (recl9 (wi (l9 + 1))))
  (some (true, wi (a1left - (lenI (List.map idc a0n.Kids)))))
def g_p_validPart (n : Nat) (a0n : GNode) (a1left : Int) : Option (Bool × Int) :=
 cond (!eqI a0n.N 0)
  (some (false, a1left))
  ((cond (eqI a0n.Kind 3)
   ((g_p_isAttr n a0n.Name).bind fun r3 =>
   some (!r3))
   (some false)).bind fun j1 =>
  cond j1
   (some (false, a1left))
   ((cond (eqI a0n.Kind 4)
    ((g_p_isArticle n a0n.Name).bind fun r6 =>
    some (!r6))
    (some false)).bind fun j4 =>
   cond j4
    (some (false, a1left))
    ((cond (!eqI a0n.Kind 3)
     (some (!eqI a0n.Kind 4))
     (some false)).bind fun j7 =>
    cond j7
     (some (false, a1left))
     (cond (ltI (wi (a1left - (lenI (List.map idc a0n.Kids)))) 0)
      (some (false, wi (a1left - (lenI (List.map idc a0n.Kids)))))
      (loopN (fun recl9 l9 => g_p_validPart_l9 n a0n a1left recl9 l9) n 0)))))
theorem g_p_validPart_ok (n : Nat) (a0n : GNode) (a1left : Int) : ∀ r, g_p_validPart n a0n a1left = some r → ACall Tryz.prog 81 [ag (GNode.cs a0n), .ptr 1001 0] (Go.Abs.look [(1001, .box 3 [I a1left])]) (heapR (fun r : Bool × Int => ((.ret (B r.1), [(1001, .box 3 [I r.2])]) : AEnd × List (Nat × Blk))) r) := by
 refine acall_sim (X := fun r : Bool × Int => ((.ret (B r.1), [(1001, .box 3 [I r.2])]) : AEnd × List (Nat × Blk))) [(1001, .box 3 [I a1left])] Tryz.func81 rfl Tryz.ntmps81 rfl ?_
 unfold g_p_validPart
 refine sR tfm ⟨[1, 2], [2, 1001], [], []⟩ ⟨[(1, .ptr 1001 0), (2, .ptr 2 0)], [(2, .box 76 (bxc (GNode.cs a0n))), (1001, .box 3 [I a1left])]⟩ krf ?_
 refine sR tfm ⟨[1, 2, 5], [2, 1001], [], []⟩ ⟨[(1, .ptr 1001 0), (2, .ptr 2 0), (5, B (eqI a0n.Kind 4))], [(2, .box 76 (bxc (GNode.cs a0n))), (1001, .box 3 [I a1left])]⟩ krf ?_
 refine sS ?_
 refine sB ?_
 refine sR tfm ⟨[1, 2, 5, 11], [2, 1001], [], []⟩ ⟨[(1, .ptr 1001 0), (2, .ptr 2 0), (5, B (eqI a0n.Kind 4)), (11, B (!eqI a0n.N 0))], [(2, .box 76 (bxc (GNode.cs a0n))), (1001, .box 3 [I a1left])]⟩ krf ?_
 refine sC (!eqI a0n.N 0) krf ?_ ?_
 ·refine sR tfm ⟨[4], [1001], [], []⟩ ⟨[(4, B false)], [(1001, .box 3 [I a1left])]⟩ krf ?_
  refine sT ?_
  refine bq_r ?_
  refine sq_r ?_
  exact hq_ret (.id) [1001] [] krf krf krf krf
 ·refine sim_bind (fun j1 => ⟨[(1, .ptr 1001 0), (2, .ptr 2 0), (5, B (eqI a0n.Kind 4)), (15, B j1)], [(2, .box 76 (bxc (GNode.cs a0n))), (1001, .box 3 [I a1left])]⟩ : Bool → St) ?_ ?_
  ·refine sG ?_
   refine xR 4 krf ?_
   refine xS (eqI a0n.Kind 3) (fun h2 => ?_) (fun h2 => ?_)
   ·refine xO (want_tt krf h2) krf ?_
    refine xR 1 krf ?_
    refine xC [] krf (g_p_isAttr_ok n a0n.Name) krf krf (fun _ => by kernel_rfl) (fun r3 => ?_)
    refine xR 3 krf ?_
    refine xE ?_
    exact nq_n (!r3) ⟨[1, 2, 5, 15], [2, 1001], [], []⟩ krf
   ·refine xN (want_tf krf h2) krf ?_
    refine xR 5 krf ?_
    refine xE ?_
    exact nq_n false ⟨[1, 2, 5, 15], [2, 1001], [], []⟩ krf
  ·rintro j1
   refine sC j1 krf ?_ ?_
   ·refine sR tfm ⟨[4], [1001], [], []⟩ ⟨[(4, B false)], [(1001, .box 3 [I a1left])]⟩ krf ?_
    refine sT ?_
    refine bq_r ?_
    refine sq_r ?_
    exact hq_ret (.id) [1001] [] krf krf krf krf
   ·refine sim_bind (fun j4 => ⟨[(1, .ptr 1001 0), (2, .ptr 2 0), (5, B (eqI a0n.Kind 4)), (25, B j4)], [(2, .box 76 (bxc (GNode.cs a0n))), (1001, .box 3 [I a1left])]⟩ : Bool → St) ?_ ?_
    ·refine sG ?_
     refine xR 4 krf ?_
     refine xS (eqI a0n.Kind 4) (fun h5 => ?_) (fun h5 => ?_)
     ·refine xO (want_tt krf h5) krf ?_
      refine xR 1 krf ?_
      refine xC [] krf (g_p_isArticle_ok n a0n.Name) krf krf (fun _ => by kernel_rfl) (fun r6 => ?_)
      refine xR 3 krf ?_
      refine xE ?_
      exact nq_n (!r6) ⟨[1, 2, 5, 25], [2, 1001], [], []⟩ krf
     ·refine xN (want_tf krf h5) krf ?_
      refine xR 5 krf ?_
      refine xE ?_
      exact nq_n false ⟨[1, 2, 5, 25], [2, 1001], [], []⟩ krf
    ·rintro j4
     refine sC j4 krf ?_ ?_
     ·refine sR tfm ⟨[4], [1001], [], []⟩ ⟨[(4, B false)], [(1001, .box 3 [I a1left])]⟩ krf ?_
      refine sT ?_
      refine bq_r ?_
      refine sq_r ?_
      exact hq_ret (.id) [1001] [] krf krf krf krf
     ·refine sim_bind (fun j7 => ⟨[(1, .ptr 1001 0), (2, .ptr 2 0), (5, B (eqI a0n.Kind 4)), (35, B j7)], [(2, .box 76 (bxc (GNode.cs a0n))), (1001, .box 3 [I a1left])]⟩ : Bool → St) ?_ ?_
      ·refine sG ?_
       refine xR 4 krf ?_
       refine xS (!eqI a0n.Kind 3) (fun h8 => ?_) (fun h8 => ?_)
       ·refine xO (want_tt krf h8) krf ?_
        refine xR 4 krf ?_
        refine xE ?_
        exact nq_n (!eqI a0n.Kind 4) ⟨[1, 2, 5, 35], [2, 1001], [], []⟩ krf
       ·refine xN (want_tf krf h8) krf ?_
        refine xR 4 krf ?_
        refine xE ?_
        exact nq_n false ⟨[1, 2, 5, 35], [2, 1001], [], []⟩ krf
      ·rintro j7
       refine sC j7 krf ?_ ?_
       ·refine sR tfm ⟨[4], [1001], [], []⟩ ⟨[(4, B false)], [(1001, .box 3 [I a1left])]⟩ krf ?_
        refine sT ?_
        refine bq_r ?_
        refine sq_r ?_
        exact hq_ret (.id) [1001] [] krf krf krf krf
       ·refine sK ?_
        refine bq_n ?_
        refine sN ⟨[1, 2, 5], [2, 1001], [], []⟩ ⟨[(1, .ptr 1001 0), (2, .ptr 2 0), (5, B (eqI a0n.Kind 4))], [(2, .box 76 (bxc (GNode.cs a0n))), (1001, .box 3 [I a1left])]⟩ krf ?_
        refine sR tfm ⟨[1, 2, 5], [2, 1001], [], []⟩ ⟨[(1, .ptr 1001 0), (2, .ptr 2 0), (5, B (eqI a0n.Kind 4))], [(2, .box 76 (bxc (GNode.cs a0n))), (1001, .box 3 [I (wi (a1left - (lenI (List.map idc a0n.Kids))))])]⟩ krf ?_
        refine sS ?_
        refine sR tfm ⟨[2, 5, 55], [2, 1001], [], []⟩ ⟨[(2, .ptr 2 0), (5, B (eqI a0n.Kind 4)), (55, B (ltI (wi (a1left - (lenI (List.map idc a0n.Kids)))) 0))], [(2, .box 76 (bxc (GNode.cs a0n))), (1001, .box 3 [I (wi (a1left - (lenI (List.map idc a0n.Kids))))])]⟩ krf ?_
        refine sC (ltI (wi (a1left - (lenI (List.map idc a0n.Kids)))) 0) krf ?_ ?_
        ·refine sR tfm ⟨[4], [1001], [], []⟩ ⟨[(4, B false)], [(1001, .box 3 [I (wi (a1left - (lenI (List.map idc a0n.Kids))))])]⟩ krf ?_
         refine sT ?_
         refine sq_r ?_
         exact hq_ret (.id) [1001] [] krf krf krf krf
        ·refine sK ?_
         refine sN ⟨[2, 5], [2, 1001], [], []⟩ ⟨[(2, .ptr 2 0), (5, B (eqI a0n.Kind 4))], [(2, .box 76 (bxc (GNode.cs a0n))), (1001, .box 3 [I (wi (a1left - (lenI (List.map idc a0n.Kids))))])]⟩ krf ?_
         refine sS ?_
         refine sR tfm ⟨[5, 57, 58, 59], [1001], [], []⟩ ⟨[(5, B (eqI a0n.Kind 4)), (57, .p (.sl 5 (List.map idc a0n.Kids))), (58, I (lenI (List.map idc a0n.Kids))), (59, I 0)], [(1001, .box 3 [I (wi (a1left - (lenI (List.map idc a0n.Kids))))])]⟩ krf ?_
         refine sB ?_
         refine sim_loop (fun l9 => ⟨[(5, B (eqI a0n.Kind 4)), (57, .p (.sl 5 (List.map idc a0n.Kids))), (58, I (lenI (List.map idc a0n.Kids))), (59, I l9)], [(1001, .box 3 [I (wi (a1left - (lenI (List.map idc a0n.Kids))))])]⟩ : Int → St) (weak_shr (K := ⟨[5, 57, 58, 59], [1001], [], []⟩) krf) ?_
         rintro recl9 l9
         show SimE (g_p_validPart_l9 n a0n a1left recl9 l9) _ _ _ _ _ _
         unfold g_p_validPart_l9
         refine sR tfm ⟨[5, 57, 58, 59, 60], [1001], [], []⟩ ⟨[(5, B (eqI a0n.Kind 4)), (57, .p (.sl 5 (List.map idc a0n.Kids))), (58, I (lenI (List.map idc a0n.Kids))), (59, I l9), (60, B (ltI l9 (lenI (List.map idc a0n.Kids))))], [(1001, .box 3 [I (wi (a1left - (lenI (List.map idc a0n.Kids))))])]⟩ krf ?_
         refine sS ?_
         refine sC (ltI l9 (lenI (List.map idc a0n.Kids))) krf ?_ ?_
         ·refine sK ?_
          refine sN ⟨[5, 57, 58, 59], [1001], [], []⟩ ⟨[(5, B (eqI a0n.Kind 4)), (57, .p (.sl 5 (List.map idc a0n.Kids))), (58, I (lenI (List.map idc a0n.Kids))), (59, I l9)], [(1001, .box 3 [I (wi (a1left - (lenI (List.map idc a0n.Kids))))])]⟩ krf ?_
          refine sS ?_
          refine sB ?_
          refine sS ?_
          refine sG ?_
          refine xG krf krf (aop_idxR (e := 76) (S := 5) (enc := GNode.cs) (dec := GNode.of) (l := a0n.Kids) (k := .i64) (n := l9) (sv := .p (.sl 5 (List.map idc a0n.Kids))) GNode.of_cs rfl krf krf krf krf krf) (fun x10 => ?_)
          refine xR 3 krf ?_
          refine xE ?_
          refine sN ⟨[5, 7, 57, 58, 59], [7, 1001], [], []⟩ ⟨[(5, B (eqI a0n.Kind 4)), (7, .ptr 7 0), (57, .p (.sl 5 (List.map idc a0n.Kids))), (58, I (lenI (List.map idc a0n.Kids))), (59, I l9)], [(7, .box 76 (bxc (GNode.cs x10))), (1001, .box 3 [I (wi (a1left - (lenI (List.map idc a0n.Kids))))])]⟩ krf ?_
          refine sS ?_
          refine sG ?_
          refine xR 2 krf ?_
          refine xC [] krf (g_p_validValue_ok n x10 (eqI a0n.Kind 4)) krf krf (fun _ => by kernel_rfl) (fun r11 => ?_)
          refine xR 1 krf ?_
          refine xE ?_
          refine sN ⟨[5, 57, 58, 59, 66], [1001], [], []⟩ ⟨[(5, B (eqI a0n.Kind 4)), (57, .p (.sl 5 (List.map idc a0n.Kids))), (58, I (lenI (List.map idc a0n.Kids))), (59, I l9), (66, B (!r11))], [(1001, .box 3 [I (wi (a1left - (lenI (List.map idc a0n.Kids))))])]⟩ krf ?_
          refine sC (!r11) krf ?_ ?_
          ·refine sR tfm ⟨[4], [1001], [], []⟩ ⟨[(4, B false)], [(1001, .box 3 [I (wi (a1left - (lenI (List.map idc a0n.Kids))))])]⟩ krf ?_
           refine sT ?_
           refine bq_r ?_
           refine sq_r ?_
           refine kq_r ?_
           refine bq_r ?_
           refine sq_r ?_
           exact hq_ret (.id) [1001] [] krf krf krf krf
          ·refine sK ?_
           refine bq_n ?_
           refine sN ⟨[5, 57, 58, 59], [1001], [], []⟩ ⟨[(5, B (eqI a0n.Kind 4)), (57, .p (.sl 5 (List.map idc a0n.Kids))), (58, I (lenI (List.map idc a0n.Kids))), (59, I l9)], [(1001, .box 3 [I (wi (a1left - (lenI (List.map idc a0n.Kids))))])]⟩ krf ?_
           refine sL tfm krf ?_
           exact kq_n (wi (l9 + 1)) ⟨[5, 57, 58, 59], [1001], [], []⟩ krf
         ·refine sim_exit ?_
          refine sq_x ?_
          refine kq_x ?_
          refine bq_hit ?_
          refine sN ⟨[], [1001], [], []⟩ ⟨[], [(1001, .box 3 [I (wi (a1left - (lenI (List.map idc a0n.Kids))))])]⟩ krf ?_
          refine sR tfm ⟨[4], [1001], [], []⟩ ⟨[(4, B true)], [(1001, .box 3 [I (wi (a1left - (lenI (List.map idc a0n.Kids))))])]⟩ krf ?_
          refine sT ?_
          exact hq_ret (.id) [1001] [] krf krf krf krf
def g_p_validItem_j6 (a0n : GNode) (j6_1 : Bool) (j6_2 : Int) : Option (Bool × Int) :=
 cond (!j6_1)
  (some (true, j6_2))
  (some (eqI a0n.N 7, j6_2))
def g_p_validItem_j10 (n : Nat) (l8_2 : Int) (l8_3 : Int) (recl8 : (Bool × Int × Int) → Option (Bool × Int)) (x9 : GNode) (j10 : Bool) : Option (Bool × Int) :=
 (g_p_validPart n x9 l8_3).bind fun r11 =>
 cond (!r11.1)
  (some (false, r11.2))
  (recl8 (j10, wi (l8_2 + 1), r11.2))
def g_p_validItem_l8 (n : Nat) (a0n : GNode) (recl8 : (Bool × Int × Int) → Option (Bool × Int)) (l8_1 : Bool) (l8_2 : Int) (l8_3 : Int) : Option (Bool × Int) :=
 cond (ltI l8_2 (lenI (List.map idc a0n.Kids)))
  ((Option.bind (getI a0n.Kids l8_2) GNode.of).bind fun x9 =>
  cond (eqI x9.Kind 4)
   (g_p_validItem_j10 n l8_2 l8_3 recl8 x9 true)
   (cond l8_1
    (some (false, l8_3))
    (g_p_validItem_j10 n l8_2 l8_3 recl8 x9 l8_1)))
  (g_p_validItem_j6 a0n l8_1 l8_3)
def g_p_validItem (n : Nat) (a0n : GNode) (a1left : Int) : Option (Bool × Int) :=
 (cond (!eqI a0n.Kind 2)
  (some true)
  (cond (ltI a0n.N 1)
   (some true)
   (cond (ltI 7 a0n.N)
    (some true)
    ((g_p_goodName n a0n.Name).bind fun r5 =>
    some (!r5))))).bind fun j1 =>
 cond j1
  (some (false, a1left))
  (cond (ltI (wi (a1left - (lenI (List.map idc a0n.Kids)))) 0)
   (some (false, wi (a1left - (lenI (List.map idc a0n.Kids)))))
   (loopN (fun recl8 (l8_1, l8_2, l8_3) => g_p_validItem_l8 n a0n recl8 l8_1 l8_2 l8_3) n (false, 0, wi (a1left - (lenI (List.map idc a0n.Kids))))))
theorem g_p_validItem_ok (n : Nat) (a0n : GNode) (a1left : Int) : ∀ r, g_p_validItem n a0n a1left = some r → ACall Tryz.prog 56 [ag (GNode.cs a0n), .ptr 1001 0] (Go.Abs.look [(1001, .box 3 [I a1left])]) (heapR (fun r : Bool × Int => ((.ret (B r.1), [(1001, .box 3 [I r.2])]) : AEnd × List (Nat × Blk))) r) := by
 refine acall_sim (X := fun r : Bool × Int => ((.ret (B r.1), [(1001, .box 3 [I r.2])]) : AEnd × List (Nat × Blk))) [(1001, .box 3 [I a1left])] Tryz.func56 rfl Tryz.ntmps56 rfl ?_
 unfold g_p_validItem
 refine sR tfm ⟨[1, 2], [2, 1001], [], []⟩ ⟨[(1, .ptr 1001 0), (2, .ptr 2 0)], [(2, .box 76 (bxc (GNode.cs a0n))), (1001, .box 3 [I a1left])]⟩ krf ?_
 refine sS ?_
 refine sim_bind (fun j1 => ⟨[(1, .ptr 1001 0), (2, .ptr 2 0), (26, B j1)], [(2, .box 76 (bxc (GNode.cs a0n))), (1001, .box 3 [I a1left])]⟩ : Bool → St) ?_ ?_
 ·refine sG ?_
  refine xR 4 krf ?_
  refine xS (!eqI a0n.Kind 2) (fun h2 => ?_) (fun h2 => ?_)
  ·refine xN (want_ft krf h2) krf ?_
   refine xR 14 krf ?_
   refine xE ?_
   exact nq_n true ⟨[1, 2, 26], [2, 1001], [], []⟩ krf
  ·refine xO (want_ff krf h2) krf ?_
   refine xR 4 krf ?_
   refine xS (ltI a0n.N 1) (fun h3 => ?_) (fun h3 => ?_)
   ·refine xN (want_ft krf h3) krf ?_
    refine xR 9 krf ?_
    refine xE ?_
    exact nq_n true ⟨[1, 2, 26], [2, 1001], [], []⟩ krf
   ·refine xO (want_ff krf h3) krf ?_
    refine xR 4 krf ?_
    refine xS (ltI 7 a0n.N) (fun h4 => ?_) (fun h4 => ?_)
    ·refine xN (want_ft krf h4) krf ?_
     refine xR 4 krf ?_
     refine xE ?_
     exact nq_n true ⟨[1, 2, 26], [2, 1001], [], []⟩ krf
    ·refine xO (want_ff krf h4) krf ?_
     refine xR 1 krf ?_
     refine xC [] krf (g_p_goodName_ok n a0n.Name) krf krf (fun _ => by kernel_rfl) (fun r5 => ?_)
     refine xR 2 krf ?_
     refine xE ?_
     exact nq_n (!r5) ⟨[1, 2, 26], [2, 1001], [], []⟩ krf
 ·rintro j1
  refine sC j1 krf ?_ ?_
  ·refine sR tfm ⟨[4], [1001], [], []⟩ ⟨[(4, B false)], [(1001, .box 3 [I a1left])]⟩ krf ?_
   refine sT ?_
   refine sq_r ?_
   exact hq_ret (.id) [1001] [] krf krf krf krf
  ·refine sK ?_
   refine sN ⟨[1, 2], [2, 1001], [], []⟩ ⟨[(1, .ptr 1001 0), (2, .ptr 2 0)], [(2, .box 76 (bxc (GNode.cs a0n))), (1001, .box 3 [I a1left])]⟩ krf ?_
   refine sR tfm ⟨[1, 2], [2, 1001], [], []⟩ ⟨[(1, .ptr 1001 0), (2, .ptr 2 0)], [(2, .box 76 (bxc (GNode.cs a0n))), (1001, .box 3 [I (wi (a1left - (lenI (List.map idc a0n.Kids))))])]⟩ krf ?_
   refine sS ?_
   refine sR tfm ⟨[1, 2, 38], [2, 1001], [], []⟩ ⟨[(1, .ptr 1001 0), (2, .ptr 2 0), (38, B (ltI (wi (a1left - (lenI (List.map idc a0n.Kids)))) 0))], [(2, .box 76 (bxc (GNode.cs a0n))), (1001, .box 3 [I (wi (a1left - (lenI (List.map idc a0n.Kids))))])]⟩ krf ?_
   refine sC (ltI (wi (a1left - (lenI (List.map idc a0n.Kids)))) 0) krf ?_ ?_
   ·refine sR tfm ⟨[4], [1001], [], []⟩ ⟨[(4, B false)], [(1001, .box 3 [I (wi (a1left - (lenI (List.map idc a0n.Kids))))])]⟩ krf ?_
    refine sT ?_
    refine sq_r ?_
    exact hq_ret (.id) [1001] [] krf krf krf krf
   ·refine sK ?_
    refine sN ⟨[1, 2], [2, 1001], [], []⟩ ⟨[(1, .ptr 1001 0), (2, .ptr 2 0)], [(2, .box 76 (bxc (GNode.cs a0n))), (1001, .box 3 [I (wi (a1left - (lenI (List.map idc a0n.Kids))))])]⟩ krf ?_
    refine sR tfm ⟨[1, 2, 5], [2, 1001], [], []⟩ ⟨[(1, .ptr 1001 0), (2, .ptr 2 0), (5, B false)], [(2, .box 76 (bxc (GNode.cs a0n))), (1001, .box 3 [I (wi (a1left - (lenI (List.map idc a0n.Kids))))])]⟩ krf ?_
    refine sim_cps (fun (j6_1, j6_2) => ⟨[(2, .ptr 2 0), (5, B j6_1)], [(2, .box 76 (bxc (GNode.cs a0n))), (1001, .box 3 [I j6_2])]⟩ : (Bool × Int) → St) (fun (j6_1, j6_2) => g_p_validItem_j6 a0n j6_1 j6_2) ?_ ?_
    ·rintro ⟨j6_1, j6_2⟩
     show SimE (g_p_validItem_j6 a0n j6_1 j6_2) _ _ _ _ _ _
     unfold g_p_validItem_j6
     refine sS ?_
     refine sG ?_
     refine xR 3 krf ?_
     refine xS (!j6_1) (fun h7 => ?_) (fun h7 => ?_)
     ·refine xN (want_ft krf h7) krf ?_
      refine xR 4 krf ?_
      refine xE ?_
      refine sN ⟨[4], [1001], [], []⟩ ⟨[(4, B true)], [(1001, .box 3 [I j6_2])]⟩ krf ?_
      refine sT ?_
      exact hq_ret (.id) [1001] [] krf krf krf krf
     ·refine xO (want_ff krf h7) krf ?_
      refine xR 4 krf ?_
      refine xE ?_
      refine sN ⟨[4], [1001], [], []⟩ ⟨[(4, B (eqI a0n.N 7))], [(1001, .box 3 [I j6_2])]⟩ krf ?_
      refine sT ?_
      exact hq_ret (.id) [1001] [] krf krf krf krf
    ·refine sR tfm ⟨[1, 2, 5, 40, 41, 42], [2, 1001], [], []⟩ ⟨[(1, .ptr 1001 0), (2, .ptr 2 0), (5, B false), (40, .p (.sl 5 (List.map idc a0n.Kids))), (41, I (lenI (List.map idc a0n.Kids))), (42, I 0)], [(2, .box 76 (bxc (GNode.cs a0n))), (1001, .box 3 [I (wi (a1left - (lenI (List.map idc a0n.Kids))))])]⟩ krf ?_
     refine sB ?_
     refine sim_loop (fun (l8_1, l8_2, l8_3) => ⟨[(1, .ptr 1001 0), (2, .ptr 2 0), (5, B l8_1), (40, .p (.sl 5 (List.map idc a0n.Kids))), (41, I (lenI (List.map idc a0n.Kids))), (42, I l8_2)], [(2, .box 76 (bxc (GNode.cs a0n))), (1001, .box 3 [I l8_3])]⟩ : (Bool × Int × Int) → St) (weak_shr (K := ⟨[1, 2, 5, 40, 41, 42], [2, 1001], [], []⟩) krf) ?_
     rintro recl8 ⟨l8_1, l8_2, l8_3⟩
     show SimE (g_p_validItem_l8 n a0n recl8 l8_1 l8_2 l8_3) _ _ _ _ _ _
     unfold g_p_validItem_l8
     refine sR tfm ⟨[1, 2, 5, 40, 41, 42, 43], [2, 1001], [], []⟩ ⟨[(1, .ptr 1001 0), (2, .ptr 2 0), (5, B l8_1), (40, .p (.sl 5 (List.map idc a0n.Kids))), (41, I (lenI (List.map idc a0n.Kids))), (42, I l8_2), (43, B (ltI l8_2 (lenI (List.map idc a0n.Kids))))], [(2, .box 76 (bxc (GNode.cs a0n))), (1001, .box 3 [I l8_3])]⟩ krf ?_
     refine sS ?_
     refine sC (ltI l8_2 (lenI (List.map idc a0n.Kids))) krf ?_ ?_
     ·refine sK ?_
      refine sN ⟨[1, 2, 5, 40, 41, 42], [2, 1001], [], []⟩ ⟨[(1, .ptr 1001 0), (2, .ptr 2 0), (5, B l8_1), (40, .p (.sl 5 (List.map idc a0n.Kids))), (41, I (lenI (List.map idc a0n.Kids))), (42, I l8_2)], [(2, .box 76 (bxc (GNode.cs a0n))), (1001, .box 3 [I l8_3])]⟩ krf ?_
      refine sS ?_
      refine sB ?_
      refine sS ?_
      refine sG ?_
      refine xG krf krf (aop_idxR (e := 76) (S := 5) (enc := GNode.cs) (dec := GNode.of) (l := a0n.Kids) (k := .i64) (n := l8_2) (sv := .p (.sl 5 (List.map idc a0n.Kids))) GNode.of_cs rfl krf krf krf krf krf) (fun x9 => ?_)
      refine xR 3 krf ?_
      refine xE ?_
      refine sN ⟨[1, 2, 5, 7, 40, 41, 42], [2, 7, 1001], [], []⟩ ⟨[(1, .ptr 1001 0), (2, .ptr 2 0), (5, B l8_1), (7, .ptr 7 0), (40, .p (.sl 5 (List.map idc a0n.Kids))), (41, I (lenI (List.map idc a0n.Kids))), (42, I l8_2)], [(2, .box 76 (bxc (GNode.cs a0n))), (7, .box 76 (bxc (GNode.cs x9))), (1001, .box 3 [I l8_3])]⟩ krf ?_
      refine sim_cps (fun j10 => ⟨[(1, .ptr 1001 0), (2, .ptr 2 0), (5, B j10), (7, .ptr 7 0), (40, .p (.sl 5 (List.map idc a0n.Kids))), (41, I (lenI (List.map idc a0n.Kids))), (42, I l8_2)], [(2, .box 76 (bxc (GNode.cs a0n))), (7, .box 76 (bxc (GNode.cs x9))), (1001, .box 3 [I l8_3])]⟩ : Bool → St) (fun j10 => g_p_validItem_j10 n l8_2 l8_3 recl8 x9 j10) ?_ ?_
      ·rintro j10
       show SimE (g_p_validItem_j10 n l8_2 l8_3 recl8 x9 j10) _ _ _ _ _ _
       unfold g_p_validItem_j10
       refine sS ?_
       refine sG ?_
       refine xR 2 krf ?_
       refine xs_heap [(1001, 1001)] [] [] krf (g_p_validPart_ok n x9 l8_3) krf krf krf (fun _ => by kernel_rfl) (fun _ => by kernel_rfl) (fun r11 => ?_)
       refine xR 1 krf ?_
       refine xE ?_
       refine sN ⟨[1, 2, 5, 40, 41, 42, 53], [2, 1001], [], []⟩ ⟨[(1, .ptr 1001 0), (2, .ptr 2 0), (5, B j10), (40, .p (.sl 5 (List.map idc a0n.Kids))), (41, I (lenI (List.map idc a0n.Kids))), (42, I l8_2), (53, B (!r11.1))], [(2, .box 76 (bxc (GNode.cs a0n))), (1001, .box 3 [I r11.2])]⟩ krf ?_
       refine sC (!r11.1) krf ?_ ?_
       ·refine sR tfm ⟨[4], [1001], [], []⟩ ⟨[(4, B false)], [(1001, .box 3 [I r11.2])]⟩ krf ?_
        refine sT ?_
        refine bq_r ?_
        refine sq_r ?_
        refine kq_r ?_
        refine bq_r ?_
        refine kq_r ?_
        exact hq_ret (.id) [1001] [] krf krf krf krf
       ·refine sK ?_
        refine bq_n ?_
        refine sN ⟨[1, 2, 5, 40, 41, 42], [2, 1001], [], []⟩ ⟨[(1, .ptr 1001 0), (2, .ptr 2 0), (5, B j10), (40, .p (.sl 5 (List.map idc a0n.Kids))), (41, I (lenI (List.map idc a0n.Kids))), (42, I l8_2)], [(2, .box 76 (bxc (GNode.cs a0n))), (1001, .box 3 [I r11.2])]⟩ krf ?_
        refine sL tfm krf ?_
        exact kq_n (j10, wi (l8_2 + 1), r11.2) ⟨[1, 2, 5, 40, 41, 42], [2, 1001], [], []⟩ krf
      ·refine sR tfm ⟨[1, 2, 5, 7, 40, 41, 42, 48], [2, 7, 1001], [], []⟩ ⟨[(1, .ptr 1001 0), (2, .ptr 2 0), (5, B l8_1), (7, .ptr 7 0), (40, .p (.sl 5 (List.map idc a0n.Kids))), (41, I (lenI (List.map idc a0n.Kids))), (42, I l8_2), (48, B (eqI x9.Kind 4))], [(2, .box 76 (bxc (GNode.cs a0n))), (7, .box 76 (bxc (GNode.cs x9))), (1001, .box 3 [I l8_3])]⟩ krf ?_
       refine sC (eqI x9.Kind 4) krf ?_ ?_
       ·refine sL tfm krf ?_
        exact kq_n (k := fun j10 => g_p_validItem_j10 n l8_2 l8_3 recl8 x9 j10) true ⟨[1, 2, 5, 7, 40, 41, 42], [2, 7, 1001], [], []⟩ krf
       ·refine sR tfm ⟨[1, 2, 5, 7, 40, 41, 42, 49], [2, 7, 1001], [], []⟩ ⟨[(1, .ptr 1001 0), (2, .ptr 2 0), (5, B l8_1), (7, .ptr 7 0), (40, .p (.sl 5 (List.map idc a0n.Kids))), (41, I (lenI (List.map idc a0n.Kids))), (42, I l8_2), (49, B l8_1)], [(2, .box 76 (bxc (GNode.cs a0n))), (7, .box 76 (bxc (GNode.cs x9))), (1001, .box 3 [I l8_3])]⟩ krf ?_
        refine sC l8_1 krf ?_ ?_
        ·refine sR tfm ⟨[4], [1001], [], []⟩ ⟨[(4, B false)], [(1001, .box 3 [I l8_3])]⟩ krf ?_
         refine sT ?_
         refine kq_r ?_
         refine bq_r ?_
         refine sq_r ?_
         refine kq_r ?_
         refine bq_r ?_
         refine kq_r ?_
         exact hq_ret (.id) [1001] [] krf krf krf krf
        ·refine sK ?_
         exact kq_n (k := fun j10 => g_p_validItem_j10 n l8_2 l8_3 recl8 x9 j10) l8_1 ⟨[1, 2, 5, 7, 40, 41, 42], [2, 7, 1001], [], []⟩ krf
     ·refine sim_exit ?_
      refine sq_x ?_
      refine kq_x ?_
      refine bq_hit ?_
      exact kq_n (k := fun (j6_1, j6_2) => g_p_validItem_j6 a0n j6_1 j6_2) (l8_1, l8_3) ⟨[2, 5], [2, 1001], [], []⟩ krf
def g_p_Valid_l5 (n : Nat) (a0n : GNode) (recl5 : (Int × Int) → Option Bool) (l5_1 : Int) (l5_2 : Int) : Option Bool :=
 cond (ltI l5_1 (lenI (List.map idc a0n.Kids)))
  ((Option.bind (getI a0n.Kids l5_1) GNode.of).bind fun x6 =>
  (g_p_validItem n x6 l5_2).bind fun r7 =>
  cond (!r7.1)
   (some false)
   (recl5 (wi (l5_1 + 1), r7.2)))
  (some true)
def g_p_Valid (n : Nat) (a0n : GNode) : Option Bool :=
 (cond (!eqI a0n.Kind 1)
  (some true)
  (cond (!eqS a0n.Name [])
   (some true)
   (cond (!eqI a0n.N 0)
    (some true)
    (some (ltI (wi (1499 - (lenI (List.map idc a0n.Kids)))) 0))))).bind fun j1 =>
 cond j1
  (some false)
  (loopN (fun recl5 (l5_1, l5_2) => g_p_Valid_l5 n a0n recl5 l5_1 l5_2) n (0, wi (1499 - (lenI (List.map idc a0n.Kids)))))
theorem g_p_Valid_ok (n : Nat) (a0n : GNode) : ∀ r, g_p_Valid n a0n = some r → PCall Tryz.prog 37 [ag (GNode.cs a0n)] (.ret (B r)) := by
 refine pcall_sim (X := fun r : Bool => AEnd.ret (B r)) Tryz.func37 rfl Tryz.ntmps37 rfl ?_
 unfold g_p_Valid
 refine sR tfm ⟨[1], [1], [], []⟩ ⟨[(1, .ptr 1 0)], [(1, .box 76 (bxc (GNode.cs a0n)))]⟩ krf ?_
 refine sR tfm ⟨[1, 3], [1, 3], [], []⟩ ⟨[(1, .ptr 1 0), (3, .ptr 3 0)], [(1, .box 76 (bxc (GNode.cs a0n))), (3, .box 3 [I (wi (1499 - (lenI (List.map idc a0n.Kids))))])]⟩ krf ?_
 refine sS ?_
 refine sim_bind (fun j1 => ⟨[(1, .ptr 1 0), (3, .ptr 3 0), (26, B j1)], [(1, .box 76 (bxc (GNode.cs a0n))), (3, .box 3 [I (wi (1499 - (lenI (List.map idc a0n.Kids))))])]⟩ : Bool → St) ?_ ?_
 ·refine sG ?_
  refine xR 4 krf ?_
  refine xS (!eqI a0n.Kind 1) (fun h2 => ?_) (fun h2 => ?_)
  ·refine xN (want_ft krf h2) krf ?_
   refine xR 12 krf ?_
   refine xE ?_
   exact nq_n true ⟨[1, 3, 26], [1, 3], [], []⟩ krf
  ·refine xO (want_ff krf h2) krf ?_
   refine xR 4 krf ?_
   refine xS (!eqS a0n.Name []) (fun h3 => ?_) (fun h3 => ?_)
   ·refine xN (want_ft krf h3) krf ?_
    refine xR 7 krf ?_
    refine xE ?_
    exact nq_n true ⟨[1, 3, 26], [1, 3], [], []⟩ krf
   ·refine xO (want_ff krf h3) krf ?_
    refine xR 4 krf ?_
    refine xS (!eqI a0n.N 0) (fun h4 => ?_) (fun h4 => ?_)
    ·refine xN (want_ft krf h4) krf ?_
     refine xR 2 krf ?_
     refine xE ?_
     exact nq_n true ⟨[1, 3, 26], [1, 3], [], []⟩ krf
    ·refine xO (want_ff krf h4) krf ?_
     refine xR 2 krf ?_
     refine xE ?_
     exact nq_n (ltI (wi (1499 - (lenI (List.map idc a0n.Kids)))) 0) ⟨[1, 3, 26], [1, 3], [], []⟩ krf
 ·rintro j1
  refine sC j1 krf ?_ ?_
  ·refine sR tfm ⟨[2], [], [], []⟩ ⟨[(2, B false)], []⟩ krf ?_
   refine sT ?_
   refine sq_r ?_
   exact qR (.id) krf krf krf
  ·refine sK ?_
   refine sN ⟨[1, 3], [1, 3], [], []⟩ ⟨[(1, .ptr 1 0), (3, .ptr 3 0)], [(1, .box 76 (bxc (GNode.cs a0n))), (3, .box 3 [I (wi (1499 - (lenI (List.map idc a0n.Kids))))])]⟩ krf ?_
   refine sS ?_
   refine sR tfm ⟨[3, 28, 29, 30], [3], [], []⟩ ⟨[(3, .ptr 3 0), (28, .p (.sl 5 (List.map idc a0n.Kids))), (29, I (lenI (List.map idc a0n.Kids))), (30, I 0)], [(3, .box 3 [I (wi (1499 - (lenI (List.map idc a0n.Kids))))])]⟩ krf ?_
   refine sB ?_
   refine sim_loop (fun (l5_1, l5_2) => ⟨[(3, .ptr 3 0), (28, .p (.sl 5 (List.map idc a0n.Kids))), (29, I (lenI (List.map idc a0n.Kids))), (30, I l5_1)], [(3, .box 3 [I l5_2])]⟩ : (Int × Int) → St) (weak_shr (K := ⟨[3, 28, 29, 30], [3], [], []⟩) krf) ?_
   rintro recl5 ⟨l5_1, l5_2⟩
   show SimE (g_p_Valid_l5 n a0n recl5 l5_1 l5_2) _ _ _ _ _ _
   unfold g_p_Valid_l5
   refine sR tfm ⟨[3, 28, 29, 30, 31], [3], [], []⟩ ⟨[(3, .ptr 3 0), (28, .p (.sl 5 (List.map idc a0n.Kids))), (29, I (lenI (List.map idc a0n.Kids))), (30, I l5_1), (31, B (ltI l5_1 (lenI (List.map idc a0n.Kids))))], [(3, .box 3 [I l5_2])]⟩ krf ?_
   refine sS ?_
   refine sC (ltI l5_1 (lenI (List.map idc a0n.Kids))) krf ?_ ?_
   ·refine sK ?_
    refine sN ⟨[3, 28, 29, 30], [3], [], []⟩ ⟨[(3, .ptr 3 0), (28, .p (.sl 5 (List.map idc a0n.Kids))), (29, I (lenI (List.map idc a0n.Kids))), (30, I l5_1)], [(3, .box 3 [I l5_2])]⟩ krf ?_
    refine sS ?_
    refine sB ?_
    refine sS ?_
    refine sG ?_
    refine xG krf krf (aop_idxR (e := 76) (S := 5) (enc := GNode.cs) (dec := GNode.of) (l := a0n.Kids) (k := .i64) (n := l5_1) (sv := .p (.sl 5 (List.map idc a0n.Kids))) GNode.of_cs rfl krf krf krf krf krf) (fun x6 => ?_)
    refine xR 3 krf ?_
    refine xE ?_
    refine sN ⟨[3, 5, 28, 29, 30], [3, 5], [], []⟩ ⟨[(3, .ptr 3 0), (5, .ptr 5 0), (28, .p (.sl 5 (List.map idc a0n.Kids))), (29, I (lenI (List.map idc a0n.Kids))), (30, I l5_1)], [(3, .box 3 [I l5_2]), (5, .box 76 (bxc (GNode.cs x6)))]⟩ krf ?_
    refine sS ?_
    refine sG ?_
    refine xR 1 krf ?_
    refine xs_heap [(1001, 3)] [] [] krf (g_p_validItem_ok n x6 l5_2) krf krf krf (fun _ => by kernel_rfl) (fun _ => by kernel_rfl) (fun r7 => ?_)
    refine xR 1 krf ?_
    refine xE ?_
    refine sN ⟨[3, 28, 29, 30, 36], [3], [], []⟩ ⟨[(3, .ptr 3 0), (28, .p (.sl 5 (List.map idc a0n.Kids))), (29, I (lenI (List.map idc a0n.Kids))), (30, I l5_1), (36, B (!r7.1))], [(3, .box 3 [I r7.2])]⟩ krf ?_
    refine sC (!r7.1) krf ?_ ?_
    ·refine sR tfm ⟨[2], [], [], []⟩ ⟨[(2, B false)], []⟩ krf ?_
     refine sT ?_
     refine bq_r ?_
     refine sq_r ?_
     refine kq_r ?_
     refine bq_r ?_
     refine sq_r ?_
     exact qR (.id) krf krf krf
    ·refine sK ?_
     refine bq_n ?_
     refine sN ⟨[3, 28, 29, 30], [3], [], []⟩ ⟨[(3, .ptr 3 0), (28, .p (.sl 5 (List.map idc a0n.Kids))), (29, I (lenI (List.map idc a0n.Kids))), (30, I l5_1)], [(3, .box 3 [I r7.2])]⟩ krf ?_
     refine sL tfm krf ?_
     exact kq_n (wi (l5_1 + 1), r7.2) ⟨[3, 28, 29, 30], [3], [], []⟩ krf
   ·refine sim_exit ?_
    refine sq_x ?_
    refine kq_x ?_
    refine bq_hit ?_
    refine sN ⟨[], [], [], []⟩ ⟨[], []⟩ krf ?_
    refine sR tfm ⟨[2], [], [], []⟩ ⟨[(2, B true)], []⟩ krf ?_
    refine sT ?_
    exact qR (.id) krf krf krf
def g_t_inside (n : Nat) (a0n : Int) (a1least : Int) (a2greatest : Int) : Option Bool :=
 cond (leI a1least a0n)
  (some (leI a0n a2greatest))
  (some false)
theorem g_t_inside_ok (n : Nat) (a0n : Int) (a1least : Int) (a2greatest : Int) : ∀ r, g_t_inside n a0n a1least a2greatest = some r → PCall Tryz.prog 57 [I a0n, I a1least, I a2greatest] (.ret (B r)) := by
 refine pcall_sim (X := fun r : Bool => AEnd.ret (B r)) Tryz.func57 rfl Tryz.ntmps57 rfl ?_
 unfold g_t_inside
 refine sR tfm ⟨[0, 1, 2], [], [], []⟩ ⟨[(0, I a0n), (1, I a1least), (2, I a2greatest)], []⟩ krf ?_
 refine sS ?_
 refine sG ?_
 refine xR 4 krf ?_
 refine xS (leI a1least a0n) (fun h1 => ?_) (fun h1 => ?_)
 ·refine xO (want_tt krf h1) krf ?_
  refine xR 4 krf ?_
  refine xE ?_
  refine sN ⟨[6], [], [], []⟩ ⟨[(6, B (leI a0n a2greatest))], []⟩ krf ?_
  refine sT ?_
  exact qR (.id) krf krf krf
 ·refine xN (want_tf krf h1) krf ?_
  refine xR 4 krf ?_
  refine xE ?_
  refine sN ⟨[6], [], [], []⟩ ⟨[(6, B false)], []⟩ krf ?_
  refine sT ?_
  exact qR (.id) krf krf krf
def g_t_isWhole (n : Nat) (a0kind : Int) : Option Bool :=
 cond (eqI a0kind 5)
  (some true)
  (some (eqI a0kind 6))
theorem g_t_isWhole_ok (n : Nat) (a0kind : Int) : ∀ r, g_t_isWhole n a0kind = some r → PCall Tryz.prog 58 [I a0kind] (.ret (B r)) := by
 refine pcall_sim (X := fun r : Bool => AEnd.ret (B r)) Tryz.func58 rfl Tryz.ntmps58 rfl ?_
 unfold g_t_isWhole
 refine sR tfm ⟨[0], [], [], []⟩ ⟨[(0, I a0kind)], []⟩ krf ?_
 refine sS ?_
 refine sG ?_
 refine xR 3 krf ?_
 refine xS (eqI a0kind 5) (fun h1 => ?_) (fun h1 => ?_)
 ·refine xN (want_ft krf h1) krf ?_
  refine xR 3 krf ?_
  refine xE ?_
  refine sN ⟨[2], [], [], []⟩ ⟨[(2, B true)], []⟩ krf ?_
  refine sT ?_
  exact qR (.id) krf krf krf
 ·refine xO (want_ff krf h1) krf ?_
  refine xR 3 krf ?_
  refine xE ?_
  refine sN ⟨[2], [], [], []⟩ ⟨[(2, B (eqI a0kind 6))], []⟩ krf ?_
  refine sT ?_
  exact qR (.id) krf krf krf
def g_t_isTime (n : Nat) (a0kind : Int) : Option Bool :=
 cond (eqI a0kind 3)
  (some true)
  (some (eqI a0kind 4))
theorem g_t_isTime_ok (n : Nat) (a0kind : Int) : ∀ r, g_t_isTime n a0kind = some r → PCall Tryz.prog 59 [I a0kind] (.ret (B r)) := by
 refine pcall_sim (X := fun r : Bool => AEnd.ret (B r)) Tryz.func59 rfl Tryz.ntmps59 rfl ?_
 unfold g_t_isTime
 refine sR tfm ⟨[0], [], [], []⟩ ⟨[(0, I a0kind)], []⟩ krf ?_
 refine sS ?_
 refine sG ?_
 refine xR 3 krf ?_
 refine xS (eqI a0kind 3) (fun h1 => ?_) (fun h1 => ?_)
 ·refine xN (want_ft krf h1) krf ?_
  refine xR 3 krf ?_
  refine xE ?_
  refine sN ⟨[2], [], [], []⟩ ⟨[(2, B true)], []⟩ krf ?_
  refine sT ?_
  exact qR (.id) krf krf krf
 ·refine xO (want_ff krf h1) krf ?_
  refine xR 3 krf ?_
  refine xE ?_
  refine sN ⟨[2], [], [], []⟩ ⟨[(2, B (eqI a0kind 4))], []⟩ krf ?_
  refine sT ?_
  exact qR (.id) krf krf krf
def g_t_validArticle (n : Nat) (a0a : GAr) : Option Bool :=
 ((g_t_inside n a0a.Kind 1 6).bind fun r2 =>
 cond (!r2)
  (some true)
  ((g_t_inside n a0a.From 0 1439).bind fun r4 =>
  cond (!r4)
   (some true)
   ((g_t_inside n a0a.To (wi (a0a.From + 1)) 1440).bind fun r6 =>
   cond (!r6)
    (some true)
    ((g_t_inside n a0a.Days 1 7).bind fun r8 =>
    some (!r8))))).bind fun j1 =>
 cond j1
  (some false)
  (((g_t_isWhole n a0a.Kind).bind fun r10 =>
  cond r10
   (cond (!eqI a0a.From 0)
    (some true)
    (cond (!eqI a0a.To 1440)
     (some true)
     (some (!eqI a0a.Days 7))))
   (some false)).bind fun j9 =>
  cond j9
   (some false)
   ((cond (eqI a0a.Kind 6)
    (some 10000)
    (some 1000000)).bind fun j14 =>
   (g_t_inside n a0a.Price 0 j14).bind fun r15 =>
   cond (!r15)
    (some false)
    ((g_t_isTime n a0a.Kind).bind fun r16 =>
    cond r16
     (((g_t_inside n a0a.Unit 1 1440).bind fun r18 =>
     cond r18
      ((g_t_inside n a0a.Free 0 1440).bind fun r20 =>
      some r20)
      (some false)).bind fun j17 =>
     some j17)
     (cond (eqI a0a.Unit 0)
      (some (eqI a0a.Free 0))
      (some false)))))
theorem g_t_validArticle_ok (n : Nat) (a0a : GAr) : ∀ r, g_t_validArticle n a0a = some r → PCall Tryz.prog 38 [ag (GAr.cs a0a)] (.ret (B r)) := by
 refine pcall_sim (X := fun r : Bool => AEnd.ret (B r)) Tryz.func38 rfl Tryz.ntmps38 rfl ?_
 unfold g_t_validArticle
 refine sR tfm ⟨[1], [1], [], []⟩ ⟨[(1, .ptr 1 0)], [(1, .box 45 (bxc (GAr.cs a0a)))]⟩ krf ?_
 refine sS ?_
 refine sim_bind (fun j1 => ⟨[(1, .ptr 1 0), (28, B j1)], [(1, .box 45 (bxc (GAr.cs a0a)))]⟩ : Bool → St) ?_ ?_
 ·refine sG ?_
  refine xR 2 krf ?_
  refine xC [] krf (g_t_inside_ok n a0a.Kind 1 6) krf krf (fun _ => by kernel_rfl) (fun r2 => ?_)
  refine xR 2 krf ?_
  refine xS (!r2) (fun h3 => ?_) (fun h3 => ?_)
  ·refine xN (want_ft krf h3) krf ?_
   refine xR 19 krf ?_
   refine xE ?_
   exact nq_n true ⟨[1, 28], [1], [], []⟩ krf
  ·refine xO (want_ff krf h3) krf ?_
   refine xR 1 krf ?_
   refine xC [] krf (g_t_inside_ok n a0a.From 0 1439) krf krf (fun _ => by kernel_rfl) (fun r4 => ?_)
   refine xR 3 krf ?_
   refine xS (!r4) (fun h5 => ?_) (fun h5 => ?_)
   ·refine xN (want_ft krf h5) krf ?_
    refine xR 13 krf ?_
    refine xE ?_
    exact nq_n true ⟨[1, 28], [1], [], []⟩ krf
   ·refine xO (want_ff krf h5) krf ?_
    refine xR 4 krf ?_
    refine xC [] krf (g_t_inside_ok n a0a.To (wi (a0a.From + 1)) 1440) krf krf (fun _ => by kernel_rfl) (fun r6 => ?_)
    refine xR 3 krf ?_
    refine xS (!r6) (fun h7 => ?_) (fun h7 => ?_)
    ·refine xN (want_ft krf h7) krf ?_
     refine xR 4 krf ?_
     refine xE ?_
     exact nq_n true ⟨[1, 28], [1], [], []⟩ krf
    ·refine xO (want_ff krf h7) krf ?_
     refine xR 1 krf ?_
     refine xC [] krf (g_t_inside_ok n a0a.Days 1 7) krf krf (fun _ => by kernel_rfl) (fun r8 => ?_)
     refine xR 2 krf ?_
     refine xE ?_
     exact nq_n (!r8) ⟨[1, 28], [1], [], []⟩ krf
 ·rintro j1
  refine sC j1 krf ?_ ?_
  ·refine sR tfm ⟨[2], [], [], []⟩ ⟨[(2, B false)], []⟩ krf ?_
   refine sT ?_
   refine sq_r ?_
   exact qR (.id) krf krf krf
  ·refine sK ?_
   refine sN ⟨[1], [1], [], []⟩ ⟨[(1, .ptr 1 0)], [(1, .box 45 (bxc (GAr.cs a0a)))]⟩ krf ?_
   refine sS ?_
   refine sim_bind (fun j9 => ⟨[(1, .ptr 1 0), (46, B j9)], [(1, .box 45 (bxc (GAr.cs a0a)))]⟩ : Bool → St) ?_ ?_
   ·refine sG ?_
    refine xR 2 krf ?_
    refine xC [] krf (g_t_isWhole_ok n a0a.Kind) krf krf (fun _ => by kernel_rfl) (fun r10 => ?_)
    refine xR 1 krf ?_
    refine xS r10 (fun h11 => ?_) (fun h11 => ?_)
    ·refine xO (want_tt krf h11) krf ?_
     refine xR 3 krf ?_
     refine xS (!eqI a0a.From 0) (fun h12 => ?_) (fun h12 => ?_)
     ·refine xN (want_ft krf h12) krf ?_
      refine xR 9 krf ?_
      refine xE ?_
      exact nq_n true ⟨[1, 46], [1], [], []⟩ krf
     ·refine xO (want_ff krf h12) krf ?_
      refine xR 4 krf ?_
      refine xS (!eqI a0a.To 1440) (fun h13 => ?_) (fun h13 => ?_)
      ·refine xN (want_ft krf h13) krf ?_
       refine xR 4 krf ?_
       refine xE ?_
       exact nq_n true ⟨[1, 46], [1], [], []⟩ krf
      ·refine xO (want_ff krf h13) krf ?_
       refine xR 4 krf ?_
       refine xE ?_
       exact nq_n (!eqI a0a.Days 7) ⟨[1, 46], [1], [], []⟩ krf
    ·refine xN (want_tf krf h11) krf ?_
     refine xR 13 krf ?_
     refine xE ?_
     exact nq_n false ⟨[1, 46], [1], [], []⟩ krf
   ·rintro j9
    refine sC j9 krf ?_ ?_
    ·refine sR tfm ⟨[2], [], [], []⟩ ⟨[(2, B false)], []⟩ krf ?_
     refine sT ?_
     refine sq_r ?_
     exact qR (.id) krf krf krf
    ·refine sK ?_
     refine sN ⟨[1], [1], [], []⟩ ⟨[(1, .ptr 1 0)], [(1, .box 45 (bxc (GAr.cs a0a)))]⟩ krf ?_
     refine sR tfm ⟨[1, 3], [1], [], []⟩ ⟨[(1, .ptr 1 0), (3, I 1000000)], [(1, .box 45 (bxc (GAr.cs a0a)))]⟩ krf ?_
     refine sim_bind (fun j14 => ⟨[(1, .ptr 1 0), (3, I j14)], [(1, .box 45 (bxc (GAr.cs a0a)))]⟩ : Int → St) ?_ ?_
     ·refine sR tfm ⟨[1, 3, 49], [1], [], []⟩ ⟨[(1, .ptr 1 0), (3, I 1000000), (49, B (eqI a0a.Kind 6))], [(1, .box 45 (bxc (GAr.cs a0a)))]⟩ krf ?_
      refine sC (eqI a0a.Kind 6) krf ?_ ?_
      ·refine sL tfm krf ?_
       exact nq_n 10000 ⟨[1, 3], [1], [], []⟩ krf
      ·refine sK ?_
       exact nq_n 1000000 ⟨[1, 3], [1], [], []⟩ krf
     ·rintro j14
      refine sS ?_
      refine sS ?_
      refine sG ?_
      refine xR 3 krf ?_
      refine xC [] krf (g_t_inside_ok n a0a.Price 0 j14) krf krf (fun _ => by kernel_rfl) (fun r15 => ?_)
      refine xR 1 krf ?_
      refine xE ?_
      refine sN ⟨[1, 54], [1], [], []⟩ ⟨[(1, .ptr 1 0), (54, B (!r15))], [(1, .box 45 (bxc (GAr.cs a0a)))]⟩ krf ?_
      refine sC (!r15) krf ?_ ?_
      ·refine sR tfm ⟨[2], [], [], []⟩ ⟨[(2, B false)], []⟩ krf ?_
       refine sT ?_
       refine sq_r ?_
       exact qR (.id) krf krf krf
      ·refine sK ?_
       refine sN ⟨[1], [1], [], []⟩ ⟨[(1, .ptr 1 0)], [(1, .box 45 (bxc (GAr.cs a0a)))]⟩ krf ?_
       refine sS ?_
       refine sS ?_
       refine sG ?_
       refine xR 2 krf ?_
       refine xC [] krf (g_t_isTime_ok n a0a.Kind) krf krf (fun _ => by kernel_rfl) (fun r16 => ?_)
       refine xE ?_
       refine sN ⟨[1, 57], [1], [], []⟩ ⟨[(1, .ptr 1 0), (57, B r16)], [(1, .box 45 (bxc (GAr.cs a0a)))]⟩ krf ?_
       refine sC r16 krf ?_ ?_
       ·refine sim_bind (fun j17 => ⟨[(2, B j17)], []⟩ : Bool → St) ?_ ?_
        ·refine sG ?_
         refine xR 2 krf ?_
         refine xC [] krf (g_t_inside_ok n a0a.Unit 1 1440) krf krf (fun _ => by kernel_rfl) (fun r18 => ?_)
         refine xR 1 krf ?_
         refine xS r18 (fun h19 => ?_) (fun h19 => ?_)
         ·refine xO (want_tt krf h19) krf ?_
          refine xR 1 krf ?_
          refine xC [] krf (g_t_inside_ok n a0a.Free 0 1440) krf krf (fun _ => by kernel_rfl) (fun r20 => ?_)
          refine xR 2 krf ?_
          refine xE ?_
          exact nq_n r20 ⟨[2], [], [], []⟩ krf
         ·refine xN (want_tf krf h19) krf ?_
          refine xR 4 krf ?_
          refine xE ?_
          exact nq_n false ⟨[2], [], [], []⟩ krf
        ·rintro j17
         refine sT ?_
         refine sq_r ?_
         exact qR (.id) krf krf krf
       ·refine sK ?_
        refine sN ⟨[1], [1], [], []⟩ ⟨[(1, .ptr 1 0)], [(1, .box 45 (bxc (GAr.cs a0a)))]⟩ krf ?_
        refine sS ?_
        refine sG ?_
        refine xR 4 krf ?_
        refine xS (eqI a0a.Unit 0) (fun h21 => ?_) (fun h21 => ?_)
        ·refine xO (want_tt krf h21) krf ?_
         refine xR 4 krf ?_
         refine xE ?_
         refine sN ⟨[2], [], [], []⟩ ⟨[(2, B (eqI a0a.Free 0))], []⟩ krf ?_
         refine sT ?_
         exact qR (.id) krf krf krf
        ·refine xN (want_tf krf h21) krf ?_
         refine xR 4 krf ?_
         refine xE ?_
         refine sN ⟨[2], [], [], []⟩ ⟨[(2, B false)], []⟩ krf ?_
         refine sT ?_
         exact qR (.id) krf krf krf
def g_t_Valid_l4 (n : Nat) (a0t : GTf) (recl4 : (Int × Int) → Option Bool) (l4_1 : Int) (l4_2 : Int) : Option Bool :=
 cond (ltI l4_2 (lenI (List.map GAr.cs a0t.Articles)))
  ((getI a0t.Articles l4_2).bind fun x5 =>
  (g_t_validArticle n x5).bind fun r6 =>
  cond (!r6)
   (some false)
   (cond (eqI x5.Kind 6)
    (recl4 (wi (l4_1 + 1), wi (l4_2 + 1)))
    (recl4 (l4_1, wi (l4_2 + 1)))))
  (some (leI l4_1 1))
def g_t_Valid (n : Nat) (a0t : GTf) : Option Bool :=
 ((g_p_Valid n (⟨1, [], 0, 0, [GNode.cs (⟨2, a0t.Name, 3, 0, []⟩ : GNode)]⟩ : GNode)).bind fun r2 =>
 cond (!r2)
  (some true)
  (some (ltI 12 (lenI (List.map GAr.cs a0t.Articles))))).bind fun j1 =>
 cond j1
  (some false)
  (loopN (fun recl4 (l4_1, l4_2) => g_t_Valid_l4 n a0t recl4 l4_1 l4_2) n (0, 0))
theorem g_t_Valid_ok (n : Nat) (a0t : GTf) : ∀ r, g_t_Valid n a0t = some r → PCall Tryz.prog 27 [ag (GTf.cs a0t)] (.ret (B r)) := by
 refine pcall_sim (X := fun r : Bool => AEnd.ret (B r)) Tryz.func27 rfl Tryz.ntmps27 rfl ?_
 unfold g_t_Valid
 refine sR tfm ⟨[1], [1], [], []⟩ ⟨[(1, .ptr 1 0)], [(1, .box 24 (bxc (GTf.cs a0t)))]⟩ krf ?_
 refine sR tfm ⟨[1, 3], [1, 3], [], [(3, [.id, .id, .id, .id, .sl 5])]⟩ ⟨[(1, .ptr 1 0), (3, .ptr 3 0)], [(1, .box 24 (bxc (GTf.cs a0t))), (3, .box 76 (bxc (GNode.cs ⟨2, a0t.Name, 3, 0, []⟩)))]⟩ krf ?_
 refine sS ?_
 refine sim_bind (fun j1 => ⟨[(1, .ptr 1 0), (20, B j1)], [(1, .box 24 (bxc (GTf.cs a0t)))]⟩ : Bool → St) ?_ ?_
 ·refine sG ?_
  refine xR 3 krf ?_
  refine xC [.agg [.id, .id, .id, .id, .sl 5]] krf (g_p_Valid_ok n (⟨1, [], 0, 0, [GNode.cs (⟨2, a0t.Name, 3, 0, []⟩ : GNode)]⟩ : GNode)) krf krf (fun _ => by kernel_rfl) (fun r2 => ?_)
  refine xR 2 krf ?_
  refine xS (!r2) (fun h3 => ?_) (fun h3 => ?_)
  ·refine xN (want_ft krf h3) krf ?_
   refine xR 4 krf ?_
   refine xE ?_
   exact nq_n true ⟨[1, 20], [1], [], []⟩ krf
  ·refine xO (want_ff krf h3) krf ?_
   refine xR 4 krf ?_
   refine xE ?_
   exact nq_n (ltI 12 (lenI (List.map GAr.cs a0t.Articles))) ⟨[1, 20], [1], [], []⟩ krf
 ·rintro j1
  refine sC j1 krf ?_ ?_
  ·refine sR tfm ⟨[2], [], [], []⟩ ⟨[(2, B false)], []⟩ krf ?_
   refine sT ?_
   refine sq_r ?_
   exact qR (.id) krf krf krf
  ·refine sK ?_
   refine sN ⟨[1], [1], [], []⟩ ⟨[(1, .ptr 1 0)], [(1, .box 24 (bxc (GTf.cs a0t)))]⟩ krf ?_
   refine sR tfm ⟨[1, 4], [1], [], []⟩ ⟨[(1, .ptr 1 0), (4, I 0)], [(1, .box 24 (bxc (GTf.cs a0t)))]⟩ krf ?_
   refine sS ?_
   refine sR tfm ⟨[4, 22, 23, 24], [], [], []⟩ ⟨[(4, I 0), (22, .p (.sl 7 (List.map GAr.cs a0t.Articles))), (23, I (lenI (List.map GAr.cs a0t.Articles))), (24, I 0)], []⟩ krf ?_
   refine sB ?_
   refine sim_loop (fun (l4_1, l4_2) => ⟨[(4, I l4_1), (22, .p (.sl 7 (List.map GAr.cs a0t.Articles))), (23, I (lenI (List.map GAr.cs a0t.Articles))), (24, I l4_2)], []⟩ : (Int × Int) → St) (weak_shr (K := ⟨[4, 22, 23, 24], [], [], []⟩) krf) ?_
   rintro recl4 ⟨l4_1, l4_2⟩
   show SimE (g_t_Valid_l4 n a0t recl4 l4_1 l4_2) _ _ _ _ _ _
   unfold g_t_Valid_l4
   refine sR tfm ⟨[4, 22, 23, 24, 25], [], [], []⟩ ⟨[(4, I l4_1), (22, .p (.sl 7 (List.map GAr.cs a0t.Articles))), (23, I (lenI (List.map GAr.cs a0t.Articles))), (24, I l4_2), (25, B (ltI l4_2 (lenI (List.map GAr.cs a0t.Articles))))], []⟩ krf ?_
   refine sS ?_
   refine sC (ltI l4_2 (lenI (List.map GAr.cs a0t.Articles))) krf ?_ ?_
   ·refine sK ?_
    refine sN ⟨[4, 22, 23, 24], [], [], []⟩ ⟨[(4, I l4_1), (22, .p (.sl 7 (List.map GAr.cs a0t.Articles))), (23, I (lenI (List.map GAr.cs a0t.Articles))), (24, I l4_2)], []⟩ krf ?_
    refine sS ?_
    refine sB ?_
    refine sS ?_
    refine sG ?_
    refine xG krf krf (aop_idx (e := 45) (S := 7) (enc := GAr.cs) (l := a0t.Articles) (k := .i64) (n := l4_2) (sv := .p (.sl 7 (List.map GAr.cs a0t.Articles))) rfl krf krf krf krf krf) (fun x5 => ?_)
    refine xR 3 krf ?_
    refine xE ?_
    refine sN ⟨[4, 6, 22, 23, 24], [6], [], []⟩ ⟨[(4, I l4_1), (6, .ptr 6 0), (22, .p (.sl 7 (List.map GAr.cs a0t.Articles))), (23, I (lenI (List.map GAr.cs a0t.Articles))), (24, I l4_2)], [(6, .box 45 (bxc (GAr.cs x5)))]⟩ krf ?_
    refine sS ?_
    refine sS ?_
    refine sG ?_
    refine xR 1 krf ?_
    refine xC [] krf (g_t_validArticle_ok n x5) krf krf (fun _ => by kernel_rfl) (fun r6 => ?_)
    refine xR 1 krf ?_
    refine xE ?_
    refine sN ⟨[4, 6, 22, 23, 24, 30], [6], [], []⟩ ⟨[(4, I l4_1), (6, .ptr 6 0), (22, .p (.sl 7 (List.map GAr.cs a0t.Articles))), (23, I (lenI (List.map GAr.cs a0t.Articles))), (24, I l4_2), (30, B (!r6))], [(6, .box 45 (bxc (GAr.cs x5)))]⟩ krf ?_
    refine sC (!r6) krf ?_ ?_
    ·refine sR tfm ⟨[2], [], [], []⟩ ⟨[(2, B false)], []⟩ krf ?_
     refine sT ?_
     refine sq_r ?_
     refine bq_r ?_
     refine sq_r ?_
     refine kq_r ?_
     refine bq_r ?_
     refine sq_r ?_
     exact qR (.id) krf krf krf
    ·refine sK ?_
     refine sN ⟨[4, 6, 22, 23, 24], [6], [], []⟩ ⟨[(4, I l4_1), (6, .ptr 6 0), (22, .p (.sl 7 (List.map GAr.cs a0t.Articles))), (23, I (lenI (List.map GAr.cs a0t.Articles))), (24, I l4_2)], [(6, .box 45 (bxc (GAr.cs x5)))]⟩ krf ?_
     refine sR tfm ⟨[4, 22, 23, 24, 33], [], [], []⟩ ⟨[(4, I l4_1), (22, .p (.sl 7 (List.map GAr.cs a0t.Articles))), (23, I (lenI (List.map GAr.cs a0t.Articles))), (24, I l4_2), (33, B (eqI x5.Kind 6))], []⟩ krf ?_
     refine sC (eqI x5.Kind 6) krf ?_ ?_
     ·refine sL tfm krf ?_
      refine bq_n ?_
      refine sN ⟨[4, 22, 23, 24], [], [], []⟩ ⟨[(4, I (wi (l4_1 + 1))), (22, .p (.sl 7 (List.map GAr.cs a0t.Articles))), (23, I (lenI (List.map GAr.cs a0t.Articles))), (24, I l4_2)], []⟩ krf ?_
      refine sL tfm krf ?_
      exact kq_n (wi (l4_1 + 1), wi (l4_2 + 1)) ⟨[4, 22, 23, 24], [], [], []⟩ krf
     ·refine sK ?_
      refine bq_n ?_
      refine sN ⟨[4, 22, 23, 24], [], [], []⟩ ⟨[(4, I l4_1), (22, .p (.sl 7 (List.map GAr.cs a0t.Articles))), (23, I (lenI (List.map GAr.cs a0t.Articles))), (24, I l4_2)], []⟩ krf ?_
      refine sL tfm krf ?_
      exact kq_n (l4_1, wi (l4_2 + 1)) ⟨[4, 22, 23, 24], [], [], []⟩ krf
   ·refine sim_exit ?_
    refine sq_x ?_
    refine kq_x ?_
    refine bq_hit ?_
    refine sN ⟨[4], [], [], []⟩ ⟨[(4, I l4_1)], []⟩ krf ?_
    refine sR tfm ⟨[2], [], [], []⟩ ⟨[(2, B (leI l4_1 1))], []⟩ krf ?_
    refine sT ?_
    exact qR (.id) krf krf krf
def g_days_inside (n : Nat) (a0n : Int) (a1least : Int) (a2greatest : Int) : Option Bool :=
 cond (leI a1least a0n)
  (some (leI a0n a2greatest))
  (some false)
theorem g_days_inside_ok (n : Nat) (a0n : Int) (a1least : Int) (a2greatest : Int) : ∀ r, g_days_inside n a0n a1least a2greatest = some r → PCall Tryz.prog 39 [I a0n, I a1least, I a2greatest] (.ret (B r)) := by
 refine pcall_sim (X := fun r : Bool => AEnd.ret (B r)) Tryz.func39 rfl Tryz.ntmps39 rfl ?_
 unfold g_days_inside
 refine sR tfm ⟨[0, 1, 2], [], [], []⟩ ⟨[(0, I a0n), (1, I a1least), (2, I a2greatest)], []⟩ krf ?_
 refine sS ?_
 refine sG ?_
 refine xR 4 krf ?_
 refine xS (leI a1least a0n) (fun h1 => ?_) (fun h1 => ?_)
 ·refine xO (want_tt krf h1) krf ?_
  refine xR 4 krf ?_
  refine xE ?_
  refine sN ⟨[6], [], [], []⟩ ⟨[(6, B (leI a0n a2greatest))], []⟩ krf ?_
  refine sT ?_
  exact qR (.id) krf krf krf
 ·refine xN (want_tf krf h1) krf ?_
  refine xR 4 krf ?_
  refine xE ?_
  refine sN ⟨[6], [], [], []⟩ ⟨[(6, B false)], []⟩ krf ?_
  refine sT ?_
  exact qR (.id) krf krf krf
def g_days_keys_1 (n : Nat) (a0c : GCh) : Option Int :=
 some a0c.At
theorem g_days_keys_1_ok (n : Nat) (a0c : GCh) : ∀ r, g_days_keys_1 n a0c = some r → PCall Tryz.prog 60 [ag (GCh.cs a0c)] (.ret (I r)) := by
 refine pcall_sim (X := fun r : Int => AEnd.ret (I r)) Tryz.func60 rfl Tryz.ntmps60 rfl ?_
 unfold g_days_keys_1
 refine sR tfm ⟨[1], [1], [], []⟩ ⟨[(1, .ptr 1 0)], [(1, .box 81 (bxc (GCh.cs a0c)))]⟩ krf ?_
 refine sR tfm ⟨[2], [], [], []⟩ ⟨[(2, I a0c.At)], []⟩ krf ?_
 refine sT ?_
 exact qR (.id) krf krf krf
def g_dv_api_Change_l1 (n : Nat) (a0list : List GCh) (a1most : Int) (recl1 : (Int × Int) → Option Bool) (l1_1 : Int) (l1_2 : Int) : Option Bool :=
 cond (ltI l1_2 (lenI (List.map GCh.cs a0list)))
  ((getI a0list l1_2).bind fun x2 =>
  (g_days_keys_1 n x2).bind fun r3 =>
  (cond (leI r3 l1_1)
   (some true)
   (some (ltI a1most r3))).bind fun j4 =>
  cond j4
   (some false)
   ((g_days_keys_1 n x2).bind fun r6 =>
   recl1 (r6, wi (l1_2 + 1))))
  (some true)
def g_dv_api_Change (n : Nat) (a0list : List GCh) (a1most : Int) : Option Bool :=
 loopN (fun recl1 (l1_1, l1_2) => g_dv_api_Change_l1 n a0list a1most recl1 l1_1 l1_2) n ((-1), 0)
theorem g_dv_api_Change_ok (n : Nat) (a0list : List GCh) (a1most : Int) : ∀ r, g_dv_api_Change n a0list a1most = some r → PCall Tryz.prog 41 [.p (.sl 2 (List.map GCh.cs a0list)), I a1most, .p (.val (.func (.func 60) #[] #[]))] (.ret (B r)) := by
 refine pcall_sim (X := fun r : Bool => AEnd.ret (B r)) Tryz.func41 rfl Tryz.ntmps41 rfl ?_
 unfold g_dv_api_Change
 refine sR tfm ⟨[0, 1, 2], [], [], []⟩ ⟨[(0, .p (.sl 2 (List.map GCh.cs a0list))), (1, I a1most), (2, .p (.val (.func (.func 60) #[] #[])))], []⟩ krf ?_
 refine sR tfm ⟨[0, 1, 2, 7], [], [], []⟩ ⟨[(0, .p (.sl 2 (List.map GCh.cs a0list))), (1, I a1most), (2, .p (.val (.func (.func 60) #[] #[]))), (7, I (-1))], []⟩ krf ?_
 refine sS ?_
 refine sR tfm ⟨[1, 2, 7, 11, 12, 13], [], [], []⟩ ⟨[(1, I a1most), (2, .p (.val (.func (.func 60) #[] #[]))), (7, I (-1)), (11, .p (.sl 2 (List.map GCh.cs a0list))), (12, I (lenI (List.map GCh.cs a0list))), (13, I 0)], []⟩ krf ?_
 refine sB ?_
 refine sim_loop (fun (l1_1, l1_2) => ⟨[(1, I a1most), (2, .p (.val (.func (.func 60) #[] #[]))), (7, I l1_1), (11, .p (.sl 2 (List.map GCh.cs a0list))), (12, I (lenI (List.map GCh.cs a0list))), (13, I l1_2)], []⟩ : (Int × Int) → St) (weak_shr (K := ⟨[1, 2, 7, 11, 12, 13], [], [], []⟩) krf) ?_
 rintro recl1 ⟨l1_1, l1_2⟩
 show SimE (g_dv_api_Change_l1 n a0list a1most recl1 l1_1 l1_2) _ _ _ _ _ _
 unfold g_dv_api_Change_l1
 refine sR tfm ⟨[1, 2, 7, 11, 12, 13, 14], [], [], []⟩ ⟨[(1, I a1most), (2, .p (.val (.func (.func 60) #[] #[]))), (7, I l1_1), (11, .p (.sl 2 (List.map GCh.cs a0list))), (12, I (lenI (List.map GCh.cs a0list))), (13, I l1_2), (14, B (ltI l1_2 (lenI (List.map GCh.cs a0list))))], []⟩ krf ?_
 refine sS ?_
 refine sC (ltI l1_2 (lenI (List.map GCh.cs a0list))) krf ?_ ?_
 ·refine sK ?_
  refine sN ⟨[1, 2, 7, 11, 12, 13], [], [], []⟩ ⟨[(1, I a1most), (2, .p (.val (.func (.func 60) #[] #[]))), (7, I l1_1), (11, .p (.sl 2 (List.map GCh.cs a0list))), (12, I (lenI (List.map GCh.cs a0list))), (13, I l1_2)], []⟩ krf ?_
  refine sS ?_
  refine sB ?_
  refine sS ?_
  refine sG ?_
  refine xG krf krf (aop_idx (e := 81) (S := 2) (enc := GCh.cs) (l := a0list) (k := .i64) (n := l1_2) (sv := .p (.sl 2 (List.map GCh.cs a0list))) rfl krf krf krf krf krf) (fun x2 => ?_)
  refine xR 3 krf ?_
  refine xE ?_
  refine sN ⟨[1, 2, 7, 9, 11, 12, 13], [9], [], []⟩ ⟨[(1, I a1most), (2, .p (.val (.func (.func 60) #[] #[]))), (7, I l1_1), (9, .ptr 9 0), (11, .p (.sl 2 (List.map GCh.cs a0list))), (12, I (lenI (List.map GCh.cs a0list))), (13, I l1_2)], [(9, .box 81 (bxc (GCh.cs x2)))]⟩ krf ?_
  refine sS ?_
  refine sS ?_
  refine sG ?_
  refine xR 2 krf ?_
  refine xC [] krf (g_days_keys_1_ok n x2) krf krf (fun _ => by kernel_rfl) (fun r3 => ?_)
  refine xR 1 krf ?_
  refine xE ?_
  refine sN ⟨[1, 2, 7, 9, 10, 11, 12, 13], [9], [], []⟩ ⟨[(1, I a1most), (2, .p (.val (.func (.func 60) #[] #[]))), (7, I l1_1), (9, .ptr 9 0), (10, I r3), (11, .p (.sl 2 (List.map GCh.cs a0list))), (12, I (lenI (List.map GCh.cs a0list))), (13, I l1_2)], [(9, .box 81 (bxc (GCh.cs x2)))]⟩ krf ?_
  refine sim_bind (fun j4 => ⟨[(1, I a1most), (2, .p (.val (.func (.func 60) #[] #[]))), (9, .ptr 9 0), (11, .p (.sl 2 (List.map GCh.cs a0list))), (12, I (lenI (List.map GCh.cs a0list))), (13, I l1_2), (27, B j4)], [(9, .box 81 (bxc (GCh.cs x2)))]⟩ : Bool → St) ?_ ?_
  ·refine sG ?_
   refine xR 4 krf ?_
   refine xS (leI r3 l1_1) (fun h5 => ?_) (fun h5 => ?_)
   ·refine xN (want_ft krf h5) krf ?_
    refine xR 3 krf ?_
    refine xE ?_
    exact nq_n true ⟨[1, 2, 9, 11, 12, 13, 27], [9], [], []⟩ krf
   ·refine xO (want_ff krf h5) krf ?_
    refine xR 3 krf ?_
    refine xE ?_
    exact nq_n (ltI a1most r3) ⟨[1, 2, 9, 11, 12, 13, 27], [9], [], []⟩ krf
  ·rintro j4
   refine sC j4 krf ?_ ?_
   ·refine sR tfm ⟨[6], [], [], []⟩ ⟨[(6, B false)], []⟩ krf ?_
    refine sT ?_
    refine sq_r ?_
    refine bq_r ?_
    refine sq_r ?_
    refine kq_r ?_
    refine bq_r ?_
    refine sq_r ?_
    exact qR (.id) krf krf krf
   ·refine sK ?_
    refine sN ⟨[1, 2, 9, 11, 12, 13], [9], [], []⟩ ⟨[(1, I a1most), (2, .p (.val (.func (.func 60) #[] #[]))), (9, .ptr 9 0), (11, .p (.sl 2 (List.map GCh.cs a0list))), (12, I (lenI (List.map GCh.cs a0list))), (13, I l1_2)], [(9, .box 81 (bxc (GCh.cs x2)))]⟩ krf ?_
    refine sG ?_
    refine xR 2 krf ?_
    refine xC [] krf (g_days_keys_1_ok n x2) krf krf (fun _ => by kernel_rfl) (fun r6 => ?_)
    refine xR 1 krf ?_
    refine xE ?_
    refine bq_n ?_
    refine sN ⟨[1, 2, 7, 11, 12, 13], [], [], []⟩ ⟨[(1, I a1most), (2, .p (.val (.func (.func 60) #[] #[]))), (7, I r6), (11, .p (.sl 2 (List.map GCh.cs a0list))), (12, I (lenI (List.map GCh.cs a0list))), (13, I l1_2)], []⟩ krf ?_
    refine sL tfm krf ?_
    exact kq_n (r6, wi (l1_2 + 1)) ⟨[1, 2, 7, 11, 12, 13], [], [], []⟩ krf
 ·refine sim_exit ?_
  refine sq_x ?_
  refine kq_x ?_
  refine bq_hit ?_
  refine sN ⟨[], [], [], []⟩ ⟨[], []⟩ krf ?_
  refine sR tfm ⟨[6], [], [], []⟩ ⟨[(6, B true)], []⟩ krf ?_
  refine sT ?_
  exact qR (.id) krf krf krf
def g_days_keys_2 (n : Nat) (a0day : Int) : Option Int :=
 some a0day
theorem g_days_keys_2_ok (n : Nat) (a0day : Int) : ∀ r, g_days_keys_2 n a0day = some r → PCall Tryz.prog 61 [I a0day] (.ret (I r)) := by
 refine pcall_sim (X := fun r : Int => AEnd.ret (I r)) Tryz.func61 rfl Tryz.ntmps61 rfl ?_
 unfold g_days_keys_2
 refine sR tfm ⟨[0], [], [], []⟩ ⟨[(0, I a0day)], []⟩ krf ?_
 refine sR tfm ⟨[2], [], [], []⟩ ⟨[(2, I a0day)], []⟩ krf ?_
 refine sT ?_
 exact qR (.id) krf krf krf
def g_dv_int_l1 (n : Nat) (a0list : List Int) (a1most : Int) (recl1 : (Int × Int) → Option Bool) (l1_1 : Int) (l1_2 : Int) : Option Bool :=
 cond (ltI l1_2 (lenI (List.map ci a0list)))
  ((getI a0list l1_2).bind fun x2 =>
  (g_days_keys_2 n x2).bind fun r3 =>
  (cond (leI r3 l1_1)
   (some true)
   (some (ltI a1most r3))).bind fun j4 =>
  cond j4
   (some false)
   ((g_days_keys_2 n x2).bind fun r6 =>
   recl1 (r6, wi (l1_2 + 1))))
  (some true)
def g_dv_int (n : Nat) (a0list : List Int) (a1most : Int) : Option Bool :=
 loopN (fun recl1 (l1_1, l1_2) => g_dv_int_l1 n a0list a1most recl1 l1_1 l1_2) n ((-1), 0)
theorem g_dv_int_ok (n : Nat) (a0list : List Int) (a1most : Int) : ∀ r, g_dv_int n a0list a1most = some r → PCall Tryz.prog 42 [.p (.sl 1 (List.map ci a0list)), I a1most, .p (.val (.func (.func 61) #[] #[]))] (.ret (B r)) := by
 refine pcall_sim (X := fun r : Bool => AEnd.ret (B r)) Tryz.func42 rfl Tryz.ntmps42 rfl ?_
 unfold g_dv_int
 refine sR tfm ⟨[0, 1, 2], [], [], []⟩ ⟨[(0, .p (.sl 1 (List.map ci a0list))), (1, I a1most), (2, .p (.val (.func (.func 61) #[] #[])))], []⟩ krf ?_
 refine sR tfm ⟨[0, 1, 2, 7], [], [], []⟩ ⟨[(0, .p (.sl 1 (List.map ci a0list))), (1, I a1most), (2, .p (.val (.func (.func 61) #[] #[]))), (7, I (-1))], []⟩ krf ?_
 refine sS ?_
 refine sR tfm ⟨[1, 2, 7, 11, 12, 13], [], [], []⟩ ⟨[(1, I a1most), (2, .p (.val (.func (.func 61) #[] #[]))), (7, I (-1)), (11, .p (.sl 1 (List.map ci a0list))), (12, I (lenI (List.map ci a0list))), (13, I 0)], []⟩ krf ?_
 refine sB ?_
 refine sim_loop (fun (l1_1, l1_2) => ⟨[(1, I a1most), (2, .p (.val (.func (.func 61) #[] #[]))), (7, I l1_1), (11, .p (.sl 1 (List.map ci a0list))), (12, I (lenI (List.map ci a0list))), (13, I l1_2)], []⟩ : (Int × Int) → St) (weak_shr (K := ⟨[1, 2, 7, 11, 12, 13], [], [], []⟩) krf) ?_
 rintro recl1 ⟨l1_1, l1_2⟩
 show SimE (g_dv_int_l1 n a0list a1most recl1 l1_1 l1_2) _ _ _ _ _ _
 unfold g_dv_int_l1
 refine sR tfm ⟨[1, 2, 7, 11, 12, 13, 14], [], [], []⟩ ⟨[(1, I a1most), (2, .p (.val (.func (.func 61) #[] #[]))), (7, I l1_1), (11, .p (.sl 1 (List.map ci a0list))), (12, I (lenI (List.map ci a0list))), (13, I l1_2), (14, B (ltI l1_2 (lenI (List.map ci a0list))))], []⟩ krf ?_
 refine sS ?_
 refine sC (ltI l1_2 (lenI (List.map ci a0list))) krf ?_ ?_
 ·refine sK ?_
  refine sN ⟨[1, 2, 7, 11, 12, 13], [], [], []⟩ ⟨[(1, I a1most), (2, .p (.val (.func (.func 61) #[] #[]))), (7, I l1_1), (11, .p (.sl 1 (List.map ci a0list))), (12, I (lenI (List.map ci a0list))), (13, I l1_2)], []⟩ krf ?_
  refine sS ?_
  refine sB ?_
  refine sS ?_
  refine sG ?_
  refine xG krf krf (aop_idx (e := 3) (S := 1) (enc := ci) (l := a0list) (k := .i64) (n := l1_2) (sv := .p (.sl 1 (List.map ci a0list))) rfl krf krf krf krf krf) (fun x2 => ?_)
  refine xR 2 krf ?_
  refine xE ?_
  refine sN ⟨[1, 2, 7, 9, 11, 12, 13], [], [], []⟩ ⟨[(1, I a1most), (2, .p (.val (.func (.func 61) #[] #[]))), (7, I l1_1), (9, I x2), (11, .p (.sl 1 (List.map ci a0list))), (12, I (lenI (List.map ci a0list))), (13, I l1_2)], []⟩ krf ?_
  refine sS ?_
  refine sS ?_
  refine sG ?_
  refine xR 2 krf ?_
  refine xC [] krf (g_days_keys_2_ok n x2) krf krf (fun _ => by kernel_rfl) (fun r3 => ?_)
  refine xR 1 krf ?_
  refine xE ?_
  refine sN ⟨[1, 2, 7, 9, 10, 11, 12, 13], [], [], []⟩ ⟨[(1, I a1most), (2, .p (.val (.func (.func 61) #[] #[]))), (7, I l1_1), (9, I x2), (10, I r3), (11, .p (.sl 1 (List.map ci a0list))), (12, I (lenI (List.map ci a0list))), (13, I l1_2)], []⟩ krf ?_
  refine sim_bind (fun j4 => ⟨[(1, I a1most), (2, .p (.val (.func (.func 61) #[] #[]))), (9, I x2), (11, .p (.sl 1 (List.map ci a0list))), (12, I (lenI (List.map ci a0list))), (13, I l1_2), (27, B j4)], []⟩ : Bool → St) ?_ ?_
  ·refine sG ?_
   refine xR 4 krf ?_
   refine xS (leI r3 l1_1) (fun h5 => ?_) (fun h5 => ?_)
   ·refine xN (want_ft krf h5) krf ?_
    refine xR 3 krf ?_
    refine xE ?_
    exact nq_n true ⟨[1, 2, 9, 11, 12, 13, 27], [], [], []⟩ krf
   ·refine xO (want_ff krf h5) krf ?_
    refine xR 3 krf ?_
    refine xE ?_
    exact nq_n (ltI a1most r3) ⟨[1, 2, 9, 11, 12, 13, 27], [], [], []⟩ krf
  ·rintro j4
   refine sC j4 krf ?_ ?_
   ·refine sR tfm ⟨[6], [], [], []⟩ ⟨[(6, B false)], []⟩ krf ?_
    refine sT ?_
    refine sq_r ?_
    refine bq_r ?_
    refine sq_r ?_
    refine kq_r ?_
    refine bq_r ?_
    refine sq_r ?_
    exact qR (.id) krf krf krf
   ·refine sK ?_
    refine sN ⟨[1, 2, 9, 11, 12, 13], [], [], []⟩ ⟨[(1, I a1most), (2, .p (.val (.func (.func 61) #[] #[]))), (9, I x2), (11, .p (.sl 1 (List.map ci a0list))), (12, I (lenI (List.map ci a0list))), (13, I l1_2)], []⟩ krf ?_
    refine sG ?_
    refine xR 2 krf ?_
    refine xC [] krf (g_days_keys_2_ok n x2) krf krf (fun _ => by kernel_rfl) (fun r6 => ?_)
    refine xR 1 krf ?_
    refine xE ?_
    refine bq_n ?_
    refine sN ⟨[1, 2, 7, 11, 12, 13], [], [], []⟩ ⟨[(1, I a1most), (2, .p (.val (.func (.func 61) #[] #[]))), (7, I r6), (11, .p (.sl 1 (List.map ci a0list))), (12, I (lenI (List.map ci a0list))), (13, I l1_2)], []⟩ krf ?_
    refine sL tfm krf ?_
    exact kq_n (r6, wi (l1_2 + 1)) ⟨[1, 2, 7, 11, 12, 13], [], [], []⟩ krf
 ·refine sim_exit ?_
  refine sq_x ?_
  refine kq_x ?_
  refine bq_hit ?_
  refine sN ⟨[], [], [], []⟩ ⟨[], []⟩ krf ?_
  refine sR tfm ⟨[6], [], [], []⟩ ⟨[(6, B true)], []⟩ krf ?_
  refine sT ?_
  exact qR (.id) krf krf krf
def g_days_Valid_j5 (n : Nat) (a0c : GCl) : Option Bool :=
 (g_dv_api_Change n a0c.Changes 52560000).bind fun r6 =>
 cond r6
  ((g_dv_int n a0c.Holidays 36500).bind fun r8 =>
  some r8)
  (some false)
def g_days_Valid_l9 (n : Nat) (a0c : GCl) (recl9 : Int → Option Bool) (l9 : Int) : Option Bool :=
 cond (ltI l9 (lenI (List.map GCh.cs a0c.Changes)))
  ((getI a0c.Changes l9).bind fun x10 =>
  (g_days_inside n x10.Offset (-1440) 1440).bind fun r11 =>
  cond (!r11)
   (some false)
   (recl9 (wi (l9 + 1))))
  (g_days_Valid_j5 n a0c)
def g_days_Valid (n : Nat) (a0c : GCl) : Option Bool :=
 (cond (ltI 16 (lenI (List.map GCh.cs a0c.Changes)))
  (some true)
  (cond (ltI 32 (lenI (List.map ci a0c.Holidays)))
   (some true)
   ((g_days_inside n a0c.Offset (-1440) 1440).bind fun r4 =>
   some (!r4)))).bind fun j1 =>
 cond j1
  (some false)
  (loopN (fun recl9 l9 => g_days_Valid_l9 n a0c recl9 l9) n 0)
theorem g_days_Valid_ok (n : Nat) (a0c : GCl) : ∀ r, g_days_Valid n a0c = some r → PCall Tryz.prog 28 [ag (GCl.cs a0c)] (.ret (B r)) := by
 refine pcall_sim (X := fun r : Bool => AEnd.ret (B r)) Tryz.func28 rfl Tryz.ntmps28 rfl ?_
 unfold g_days_Valid
 refine sR tfm ⟨[1], [1], [], []⟩ ⟨[(1, .ptr 1 0)], [(1, .box 28 (bxc (GCl.cs a0c)))]⟩ krf ?_
 refine sS ?_
 refine sim_bind (fun j1 => ⟨[(1, .ptr 1 0), (22, B j1)], [(1, .box 28 (bxc (GCl.cs a0c)))]⟩ : Bool → St) ?_ ?_
 ·refine sG ?_
  refine xR 5 krf ?_
  refine xS (ltI 16 (lenI (List.map GCh.cs a0c.Changes))) (fun h2 => ?_) (fun h2 => ?_)
  ·refine xN (want_ft krf h2) krf ?_
   refine xR 10 krf ?_
   refine xE ?_
   exact nq_n true ⟨[1, 22], [1], [], []⟩ krf
  ·refine xO (want_ff krf h2) krf ?_
   refine xR 5 krf ?_
   refine xS (ltI 32 (lenI (List.map ci a0c.Holidays))) (fun h3 => ?_) (fun h3 => ?_)
   ·refine xN (want_ft krf h3) krf ?_
    refine xR 4 krf ?_
    refine xE ?_
    exact nq_n true ⟨[1, 22], [1], [], []⟩ krf
   ·refine xO (want_ff krf h3) krf ?_
    refine xR 1 krf ?_
    refine xC [] krf (g_days_inside_ok n a0c.Offset (-1440) 1440) krf krf (fun _ => by kernel_rfl) (fun r4 => ?_)
    refine xR 2 krf ?_
    refine xE ?_
    exact nq_n (!r4) ⟨[1, 22], [1], [], []⟩ krf
 ·rintro j1
  refine sC j1 krf ?_ ?_
  ·refine sR tfm ⟨[2], [], [], []⟩ ⟨[(2, B false)], []⟩ krf ?_
   refine sT ?_
   refine sq_r ?_
   exact qR (.id) krf krf krf
  ·refine sK ?_
   refine sN ⟨[1], [1], [], []⟩ ⟨[(1, .ptr 1 0)], [(1, .box 28 (bxc (GCl.cs a0c)))]⟩ krf ?_
   refine sim_cps (fun _ => ⟨[(1, .ptr 1 0)], [(1, .box 28 (bxc (GCl.cs a0c)))]⟩ : Unit → St) (fun _ => g_days_Valid_j5 n a0c) ?_ ?_
   ·rintro _
    show SimE (g_days_Valid_j5 n a0c) _ _ _ _ _ _
    unfold g_days_Valid_j5
    refine sS ?_
    refine sG ?_
    refine xs_inline [] [] [] [] [] krf Tryz.func40 rfl Tryz.ntmps40 rfl krf krf krf ?_
    refine sR tfm ⟨[], [], [], []⟩ ⟨[], []⟩ krf ?_
    refine sR tfm ⟨[0, 1], [], [], []⟩ ⟨[(0, .p (.val (.func (.func 60) #[] #[]))), (1, .p (.val (.func (.func 61) #[] #[])))], []⟩ krf ?_
    refine sT ?_
    refine iq_ret .id [] [] (.tup [.p (.val (.func (.func 60) #[] #[])), .p (.val (.func (.func 61) #[] #[]))]) krf krf ?_
    refine kr0 ?_
    refine xR 5 krf ?_
    refine xE ?_
    refine sN ⟨[1, 5, 6], [1], [], []⟩ ⟨[(1, .ptr 1 0), (5, .p (.val (.func (.func 60) #[] #[]))), (6, .p (.val (.func (.func 61) #[] #[])))], [(1, .box 28 (bxc (GCl.cs a0c)))]⟩ krf ?_
    refine sS ?_
    refine sG ?_
    refine xR 3 krf ?_
    refine xC [] krf (g_dv_api_Change_ok n a0c.Changes 52560000) krf krf (fun _ => by kernel_rfl) (fun r6 => ?_)
    refine xR 1 krf ?_
    refine xS r6 (fun h7 => ?_) (fun h7 => ?_)
    ·refine xO (want_tt krf h7) krf ?_
     refine xR 2 krf ?_
     refine xC [] krf (g_dv_int_ok n a0c.Holidays 36500) krf krf (fun _ => by kernel_rfl) (fun r8 => ?_)
     refine xR 2 krf ?_
     refine xE ?_
     refine sN ⟨[2], [], [], []⟩ ⟨[(2, B r8)], []⟩ krf ?_
     refine sT ?_
     exact qR (.id) krf krf krf
    ·refine xN (want_tf krf h7) krf ?_
     refine xR 5 krf ?_
     refine xE ?_
     refine sN ⟨[2], [], [], []⟩ ⟨[(2, B false)], []⟩ krf ?_
     refine sT ?_
     exact qR (.id) krf krf krf
   ·refine sR tfm ⟨[1, 24, 25, 26], [1], [], []⟩ ⟨[(1, .ptr 1 0), (24, .p (.sl 2 (List.map GCh.cs a0c.Changes))), (25, I (lenI (List.map GCh.cs a0c.Changes))), (26, I 0)], [(1, .box 28 (bxc (GCl.cs a0c)))]⟩ krf ?_
    refine sB ?_
    refine sim_loop (fun l9 => ⟨[(1, .ptr 1 0), (24, .p (.sl 2 (List.map GCh.cs a0c.Changes))), (25, I (lenI (List.map GCh.cs a0c.Changes))), (26, I l9)], [(1, .box 28 (bxc (GCl.cs a0c)))]⟩ : Int → St) (weak_shr (K := ⟨[1, 24, 25, 26], [1], [], []⟩) krf) ?_
    rintro recl9 l9
    show SimE (g_days_Valid_l9 n a0c recl9 l9) _ _ _ _ _ _
    unfold g_days_Valid_l9
    refine sR tfm ⟨[1, 24, 25, 26, 27], [1], [], []⟩ ⟨[(1, .ptr 1 0), (24, .p (.sl 2 (List.map GCh.cs a0c.Changes))), (25, I (lenI (List.map GCh.cs a0c.Changes))), (26, I l9), (27, B (ltI l9 (lenI (List.map GCh.cs a0c.Changes))))], [(1, .box 28 (bxc (GCl.cs a0c)))]⟩ krf ?_
    refine sS ?_
    refine sC (ltI l9 (lenI (List.map GCh.cs a0c.Changes))) krf ?_ ?_
    ·refine sK ?_
     refine sN ⟨[1, 24, 25, 26], [1], [], []⟩ ⟨[(1, .ptr 1 0), (24, .p (.sl 2 (List.map GCh.cs a0c.Changes))), (25, I (lenI (List.map GCh.cs a0c.Changes))), (26, I l9)], [(1, .box 28 (bxc (GCl.cs a0c)))]⟩ krf ?_
     refine sS ?_
     refine sB ?_
     refine sS ?_
     refine sG ?_
     refine xG krf krf (aop_idx (e := 81) (S := 2) (enc := GCh.cs) (l := a0c.Changes) (k := .i64) (n := l9) (sv := .p (.sl 2 (List.map GCh.cs a0c.Changes))) rfl krf krf krf krf krf) (fun x10 => ?_)
     refine xR 3 krf ?_
     refine xE ?_
     refine sN ⟨[1, 4, 24, 25, 26], [1, 4], [], []⟩ ⟨[(1, .ptr 1 0), (4, .ptr 4 0), (24, .p (.sl 2 (List.map GCh.cs a0c.Changes))), (25, I (lenI (List.map GCh.cs a0c.Changes))), (26, I l9)], [(1, .box 28 (bxc (GCl.cs a0c))), (4, .box 81 (bxc (GCh.cs x10)))]⟩ krf ?_
     refine sS ?_
     refine sG ?_
     refine xR 2 krf ?_
     refine xC [] krf (g_days_inside_ok n x10.Offset (-1440) 1440) krf krf (fun _ => by kernel_rfl) (fun r11 => ?_)
     refine xR 1 krf ?_
     refine xE ?_
     refine sN ⟨[1, 24, 25, 26, 33], [1], [], []⟩ ⟨[(1, .ptr 1 0), (24, .p (.sl 2 (List.map GCh.cs a0c.Changes))), (25, I (lenI (List.map GCh.cs a0c.Changes))), (26, I l9), (33, B (!r11))], [(1, .box 28 (bxc (GCl.cs a0c)))]⟩ krf ?_
     refine sC (!r11) krf ?_ ?_
     ·refine sR tfm ⟨[2], [], [], []⟩ ⟨[(2, B false)], []⟩ krf ?_
      refine sT ?_
      refine bq_r ?_
      refine sq_r ?_
      refine kq_r ?_
      refine bq_r ?_
      refine kq_r ?_
      exact qR (.id) krf krf krf
     ·refine sK ?_
      refine bq_n ?_
      refine sN ⟨[1, 24, 25, 26], [1], [], []⟩ ⟨[(1, .ptr 1 0), (24, .p (.sl 2 (List.map GCh.cs a0c.Changes))), (25, I (lenI (List.map GCh.cs a0c.Changes))), (26, I l9)], [(1, .box 28 (bxc (GCl.cs a0c)))]⟩ krf ?_
      refine sL tfm krf ?_
      exact kq_n (wi (l9 + 1)) ⟨[1, 24, 25, 26], [1], [], []⟩ krf
    ·refine sim_exit ?_
     refine sq_x ?_
     refine kq_x ?_
     refine bq_hit ?_
     exact kq_n (k := fun _ => g_days_Valid_j5 n a0c) () ⟨[1], [1], [], []⟩ krf
def g_bill_Valid_l8 (a0s : GSs) (recl8 : (Int × Int) → Option Bool) (l8_1 : Int) (l8_2 : Int) : Option Bool :=
 cond (ltI l8_2 (lenI (List.map GSl.cs a0s.Slices)))
  ((getI a0s.Slices l8_2).bind fun x9 =>
  (cond (leI x9.Minute l8_1)
   (some true)
   (cond (leI a0s.End x9.Minute)
    (some true)
    (cond (ltI x9.Energy 0)
     (some true)
     (some (ltI 10000 x9.Energy))))).bind fun j10 =>
  cond j10
   (some false)
   (recl8 (x9.Minute, wi (l8_2 + 1))))
  (some true)
def g_bill_Valid (n : Nat) (a0s : GSs) : Option Bool :=
 (cond (ltI a0s.From 0)
  (some true)
  (cond (leI a0s.To a0s.From)
   (some true)
   (cond (ltI 2880 (wi (a0s.To - a0s.From)))
    (some true)
    (some (ltI 52560000 a0s.To))))).bind fun j1 =>
 cond j1
  (some false)
  ((cond (ltI a0s.End a0s.From)
   (some true)
   (cond (ltI a0s.To a0s.End)
    (some true)
    (some (ltI 48 (lenI (List.map GSl.cs a0s.Slices)))))).bind fun j5 =>
  cond j5
   (some false)
   (loopN (fun recl8 (l8_1, l8_2) => g_bill_Valid_l8 a0s recl8 l8_1 l8_2) n (wi (a0s.From - 1), 0)))
theorem g_bill_Valid_ok (n : Nat) (a0s : GSs) : ∀ r, g_bill_Valid n a0s = some r → PCall Tryz.prog 16 [ag (GSs.cs a0s)] (.ret (B r)) := by
 refine pcall_sim (X := fun r : Bool => AEnd.ret (B r)) Tryz.func16 rfl Tryz.ntmps16 rfl ?_
 unfold g_bill_Valid
 refine sR tfm ⟨[1], [1], [], []⟩ ⟨[(1, .ptr 1 0)], [(1, .box 31 (bxc (GSs.cs a0s)))]⟩ krf ?_
 refine sS ?_
 refine sim_bind (fun j1 => ⟨[(1, .ptr 1 0), (28, B j1)], [(1, .box 31 (bxc (GSs.cs a0s)))]⟩ : Bool → St) ?_ ?_
 ·refine sG ?_
  refine xR 4 krf ?_
  refine xS (ltI a0s.From 0) (fun h2 => ?_) (fun h2 => ?_)
  ·refine xN (want_ft krf h2) krf ?_
   refine xR 18 krf ?_
   refine xE ?_
   exact nq_n true ⟨[1, 28], [1], [], []⟩ krf
  ·refine xO (want_ff krf h2) krf ?_
   refine xR 6 krf ?_
   refine xS (leI a0s.To a0s.From) (fun h3 => ?_) (fun h3 => ?_)
   ·refine xN (want_ft krf h3) krf ?_
    refine xR 11 krf ?_
    refine xE ?_
    exact nq_n true ⟨[1, 28], [1], [], []⟩ krf
   ·refine xO (want_ff krf h3) krf ?_
    refine xR 7 krf ?_
    refine xS (ltI 2880 (wi (a0s.To - a0s.From))) (fun h4 => ?_) (fun h4 => ?_)
    ·refine xN (want_ft krf h4) krf ?_
     refine xR 3 krf ?_
     refine xE ?_
     exact nq_n true ⟨[1, 28], [1], [], []⟩ krf
    ·refine xO (want_ff krf h4) krf ?_
     refine xR 3 krf ?_
     refine xE ?_
     exact nq_n (ltI 52560000 a0s.To) ⟨[1, 28], [1], [], []⟩ krf
 ·rintro j1
  refine sC j1 krf ?_ ?_
  ·refine sR tfm ⟨[2], [], [], []⟩ ⟨[(2, B false)], []⟩ krf ?_
   refine sT ?_
   refine sq_r ?_
   exact qR (.id) krf krf krf
  ·refine sK ?_
   refine sN ⟨[1], [1], [], []⟩ ⟨[(1, .ptr 1 0)], [(1, .box 31 (bxc (GSs.cs a0s)))]⟩ krf ?_
   refine sS ?_
   refine sim_bind (fun j5 => ⟨[(1, .ptr 1 0), (46, B j5)], [(1, .box 31 (bxc (GSs.cs a0s)))]⟩ : Bool → St) ?_ ?_
   ·refine sG ?_
    refine xR 6 krf ?_
    refine xS (ltI a0s.End a0s.From) (fun h6 => ?_) (fun h6 => ?_)
    ·refine xN (want_ft krf h6) krf ?_
     refine xR 11 krf ?_
     refine xE ?_
     exact nq_n true ⟨[1, 46], [1], [], []⟩ krf
    ·refine xO (want_ff krf h6) krf ?_
     refine xR 6 krf ?_
     refine xS (ltI a0s.To a0s.End) (fun h7 => ?_) (fun h7 => ?_)
     ·refine xN (want_ft krf h7) krf ?_
      refine xR 4 krf ?_
      refine xE ?_
      exact nq_n true ⟨[1, 46], [1], [], []⟩ krf
     ·refine xO (want_ff krf h7) krf ?_
      refine xR 4 krf ?_
      refine xE ?_
      exact nq_n (ltI 48 (lenI (List.map GSl.cs a0s.Slices))) ⟨[1, 46], [1], [], []⟩ krf
   ·rintro j5
    refine sC j5 krf ?_ ?_
    ·refine sR tfm ⟨[2], [], [], []⟩ ⟨[(2, B false)], []⟩ krf ?_
     refine sT ?_
     refine sq_r ?_
     exact qR (.id) krf krf krf
    ·refine sK ?_
     refine sN ⟨[1], [1], [], []⟩ ⟨[(1, .ptr 1 0)], [(1, .box 31 (bxc (GSs.cs a0s)))]⟩ krf ?_
     refine sR tfm ⟨[1, 3], [1], [], []⟩ ⟨[(1, .ptr 1 0), (3, I (wi (a0s.From - 1)))], [(1, .box 31 (bxc (GSs.cs a0s)))]⟩ krf ?_
     refine sS ?_
     refine sR tfm ⟨[1, 3, 51, 52, 53], [1], [], []⟩ ⟨[(1, .ptr 1 0), (3, I (wi (a0s.From - 1))), (51, .p (.sl 2 (List.map GSl.cs a0s.Slices))), (52, I (lenI (List.map GSl.cs a0s.Slices))), (53, I 0)], [(1, .box 31 (bxc (GSs.cs a0s)))]⟩ krf ?_
     refine sB ?_
     refine sim_loop (fun (l8_1, l8_2) => ⟨[(1, .ptr 1 0), (3, I l8_1), (51, .p (.sl 2 (List.map GSl.cs a0s.Slices))), (52, I (lenI (List.map GSl.cs a0s.Slices))), (53, I l8_2)], [(1, .box 31 (bxc (GSs.cs a0s)))]⟩ : (Int × Int) → St) (weak_shr (K := ⟨[1, 3, 51, 52, 53], [1], [], []⟩) krf) ?_
     rintro recl8 ⟨l8_1, l8_2⟩
     show SimE (g_bill_Valid_l8 a0s recl8 l8_1 l8_2) _ _ _ _ _ _
     unfold g_bill_Valid_l8
     refine sR tfm ⟨[1, 3, 51, 52, 53, 54], [1], [], []⟩ ⟨[(1, .ptr 1 0), (3, I l8_1), (51, .p (.sl 2 (List.map GSl.cs a0s.Slices))), (52, I (lenI (List.map GSl.cs a0s.Slices))), (53, I l8_2), (54, B (ltI l8_2 (lenI (List.map GSl.cs a0s.Slices))))], [(1, .box 31 (bxc (GSs.cs a0s)))]⟩ krf ?_
     refine sS ?_
     refine sC (ltI l8_2 (lenI (List.map GSl.cs a0s.Slices))) krf ?_ ?_
     ·refine sK ?_
      refine sN ⟨[1, 3, 51, 52, 53], [1], [], []⟩ ⟨[(1, .ptr 1 0), (3, I l8_1), (51, .p (.sl 2 (List.map GSl.cs a0s.Slices))), (52, I (lenI (List.map GSl.cs a0s.Slices))), (53, I l8_2)], [(1, .box 31 (bxc (GSs.cs a0s)))]⟩ krf ?_
      refine sS ?_
      refine sB ?_
      refine sS ?_
      refine sG ?_
      refine xG krf krf (aop_idx (e := 48) (S := 2) (enc := GSl.cs) (l := a0s.Slices) (k := .i64) (n := l8_2) (sv := .p (.sl 2 (List.map GSl.cs a0s.Slices))) rfl krf krf krf krf krf) (fun x9 => ?_)
      refine xR 3 krf ?_
      refine xE ?_
      refine sN ⟨[1, 3, 5, 51, 52, 53], [1, 5], [], []⟩ ⟨[(1, .ptr 1 0), (3, I l8_1), (5, .ptr 5 0), (51, .p (.sl 2 (List.map GSl.cs a0s.Slices))), (52, I (lenI (List.map GSl.cs a0s.Slices))), (53, I l8_2)], [(1, .box 31 (bxc (GSs.cs a0s))), (5, .box 48 (bxc (GSl.cs x9)))]⟩ krf ?_
      refine sS ?_
      refine sim_bind (fun j10 => ⟨[(1, .ptr 1 0), (5, .ptr 5 0), (51, .p (.sl 2 (List.map GSl.cs a0s.Slices))), (52, I (lenI (List.map GSl.cs a0s.Slices))), (53, I l8_2), (77, B j10)], [(1, .box 31 (bxc (GSs.cs a0s))), (5, .box 48 (bxc (GSl.cs x9)))]⟩ : Bool → St) ?_ ?_
      ·refine sG ?_
       refine xR 5 krf ?_
       refine xS (leI x9.Minute l8_1) (fun h11 => ?_) (fun h11 => ?_)
       ·refine xN (want_ft krf h11) krf ?_
        refine xR 15 krf ?_
        refine xE ?_
        exact nq_n true ⟨[1, 5, 51, 52, 53, 77], [1, 5], [], []⟩ krf
       ·refine xO (want_ff krf h11) krf ?_
        refine xR 6 krf ?_
        refine xS (leI a0s.End x9.Minute) (fun h12 => ?_) (fun h12 => ?_)
        ·refine xN (want_ft krf h12) krf ?_
         refine xR 8 krf ?_
         refine xE ?_
         exact nq_n true ⟨[1, 5, 51, 52, 53, 77], [1, 5], [], []⟩ krf
        ·refine xO (want_ff krf h12) krf ?_
         refine xR 4 krf ?_
         refine xS (ltI x9.Energy 0) (fun h13 => ?_) (fun h13 => ?_)
         ·refine xN (want_ft krf h13) krf ?_
          refine xR 3 krf ?_
          refine xE ?_
          exact nq_n true ⟨[1, 5, 51, 52, 53, 77], [1, 5], [], []⟩ krf
         ·refine xO (want_ff krf h13) krf ?_
          refine xR 3 krf ?_
          refine xE ?_
          exact nq_n (ltI 10000 x9.Energy) ⟨[1, 5, 51, 52, 53, 77], [1, 5], [], []⟩ krf
      ·rintro j10
       refine sC j10 krf ?_ ?_
       ·refine sR tfm ⟨[2], [], [], []⟩ ⟨[(2, B false)], []⟩ krf ?_
        refine sT ?_
        refine sq_r ?_
        refine bq_r ?_
        refine sq_r ?_
        refine kq_r ?_
        refine bq_r ?_
        refine sq_r ?_
        exact qR (.id) krf krf krf
       ·refine sK ?_
        refine sN ⟨[1, 5, 51, 52, 53], [1, 5], [], []⟩ ⟨[(1, .ptr 1 0), (5, .ptr 5 0), (51, .p (.sl 2 (List.map GSl.cs a0s.Slices))), (52, I (lenI (List.map GSl.cs a0s.Slices))), (53, I l8_2)], [(1, .box 31 (bxc (GSs.cs a0s))), (5, .box 48 (bxc (GSl.cs x9)))]⟩ krf ?_
        refine sL tfm krf ?_
        refine bq_n ?_
        refine sN ⟨[1, 3, 51, 52, 53], [1], [], []⟩ ⟨[(1, .ptr 1 0), (3, I x9.Minute), (51, .p (.sl 2 (List.map GSl.cs a0s.Slices))), (52, I (lenI (List.map GSl.cs a0s.Slices))), (53, I l8_2)], [(1, .box 31 (bxc (GSs.cs a0s)))]⟩ krf ?_
        refine sL tfm krf ?_
        exact kq_n (x9.Minute, wi (l8_2 + 1)) ⟨[1, 3, 51, 52, 53], [1], [], []⟩ krf
     ·refine sim_exit ?_
      refine sq_x ?_
      refine kq_x ?_
      refine bq_hit ?_
      refine sN ⟨[], [], [], []⟩ ⟨[], []⟩ krf ?_
      refine sR tfm ⟨[2], [], [], []⟩ ⟨[(2, B true)], []⟩ krf ?_
      refine sT ?_
      exact qR (.id) krf krf krf
def g_l_valid (n : Nat) (a0t : GTf) (a1c : GCl) (a2s : GSs) : Option Bool :=
 (g_t_Valid n a0t).bind fun r1 =>
 cond r1
  ((g_days_Valid n a1c).bind fun r3 =>
  cond r3
   ((g_bill_Valid n a2s).bind fun r5 =>
   some r5)
   (some false))
  (some false)
theorem g_l_valid_ok (n : Nat) (a0t : GTf) (a1c : GCl) (a2s : GSs) : ∀ r, g_l_valid n a0t a1c a2s = some r → PCall Tryz.prog 20 [ag (GTf.cs a0t), ag (GCl.cs a1c), ag (GSs.cs a2s)] (.ret (B r)) := by
 refine pcall_sim (X := fun r : Bool => AEnd.ret (B r)) Tryz.func20 rfl Tryz.ntmps20 rfl ?_
 unfold g_l_valid
 refine sR tfm ⟨[3, 4, 5], [3, 4, 5], [], []⟩ ⟨[(3, .ptr 3 0), (4, .ptr 4 0), (5, .ptr 5 0)], [(3, .box 24 (bxc (GTf.cs a0t))), (4, .box 28 (bxc (GCl.cs a1c))), (5, .box 31 (bxc (GSs.cs a2s)))]⟩ krf ?_
 refine sS ?_
 refine sG ?_
 refine xR 1 krf ?_
 refine xC [] krf (g_t_Valid_ok n a0t) krf krf (fun _ => by kernel_rfl) (fun r1 => ?_)
 refine xR 1 krf ?_
 refine xS r1 (fun h2 => ?_) (fun h2 => ?_)
 ·refine xO (want_tt krf h2) krf ?_
  refine xC [] krf (g_days_Valid_ok n a1c) krf krf (fun _ => by kernel_rfl) (fun r3 => ?_)
  refine xR 2 krf ?_
  refine xS r3 (fun h4 => ?_) (fun h4 => ?_)
  ·refine xO (want_tt krf h4) krf ?_
   refine xC [] krf (g_bill_Valid_ok n a2s) krf krf (fun _ => by kernel_rfl) (fun r5 => ?_)
   refine xR 2 krf ?_
   refine xE ?_
   refine sN ⟨[6], [], [], []⟩ ⟨[(6, B r5)], []⟩ krf ?_
   refine sT ?_
   exact qR (.id) krf krf krf
  ·refine xN (want_tf krf h4) krf ?_
   refine xR 3 krf ?_
   refine xE ?_
   refine sN ⟨[6], [], [], []⟩ ⟨[(6, B false)], []⟩ krf ?_
   refine sT ?_
   exact qR (.id) krf krf krf
 ·refine xN (want_tf krf h2) krf ?_
  refine xR 7 krf ?_
  refine xE ?_
  refine sN ⟨[6], [], [], []⟩ ⟨[(6, B false)], []⟩ krf ?_
  refine sT ?_
  exact qR (.id) krf krf krf
def g_l_validCuts_l1 (a0s : GSs) (a1cuts : List Int) (recl1 : (Int × Int) → Option Bool) (l1_1 : Int) (l1_2 : Int) : Option Bool :=
 cond (ltI l1_2 (lenI (List.map ci a1cuts)))
  ((getI a1cuts l1_2).bind fun x2 =>
  (cond (leI x2 l1_1)
   (some true)
   (some (leI a0s.To x2))).bind fun j3 =>
  cond j3
   (some false)
   (recl1 (x2, wi (l1_2 + 1))))
  (some true)
def g_l_validCuts (n : Nat) (a0s : GSs) (a1cuts : List Int) : Option Bool :=
 cond (ltI 4 (lenI (List.map ci a1cuts)))
  (some false)
  (loopN (fun recl1 (l1_1, l1_2) => g_l_validCuts_l1 a0s a1cuts recl1 l1_1 l1_2) n (a0s.From, 0))
theorem g_l_validCuts_ok (n : Nat) (a0s : GSs) (a1cuts : List Int) : ∀ r, g_l_validCuts n a0s a1cuts = some r → PCall Tryz.prog 21 [ag (GSs.cs a0s), .p (.sl 1 (List.map ci a1cuts))] (.ret (B r)) := by
 refine pcall_sim (X := fun r : Bool => AEnd.ret (B r)) Tryz.func21 rfl Tryz.ntmps21 rfl ?_
 unfold g_l_validCuts
 refine sR tfm ⟨[1, 2], [2], [], []⟩ ⟨[(1, .p (.sl 1 (List.map ci a1cuts))), (2, .ptr 2 0)], [(2, .box 31 (bxc (GSs.cs a0s)))]⟩ krf ?_
 refine sS ?_
 refine sR tfm ⟨[1, 2, 10], [2], [], []⟩ ⟨[(1, .p (.sl 1 (List.map ci a1cuts))), (2, .ptr 2 0), (10, B (ltI 4 (lenI (List.map ci a1cuts))))], [(2, .box 31 (bxc (GSs.cs a0s)))]⟩ krf ?_
 refine sC (ltI 4 (lenI (List.map ci a1cuts))) krf ?_ ?_
 ·refine sR tfm ⟨[4], [], [], []⟩ ⟨[(4, B false)], []⟩ krf ?_
  refine sT ?_
  refine sq_r ?_
  exact qR (.id) krf krf krf
 ·refine sK ?_
  refine sN ⟨[1, 2], [2], [], []⟩ ⟨[(1, .p (.sl 1 (List.map ci a1cuts))), (2, .ptr 2 0)], [(2, .box 31 (bxc (GSs.cs a0s)))]⟩ krf ?_
  refine sR tfm ⟨[1, 2, 5], [2], [], []⟩ ⟨[(1, .p (.sl 1 (List.map ci a1cuts))), (2, .ptr 2 0), (5, I a0s.From)], [(2, .box 31 (bxc (GSs.cs a0s)))]⟩ krf ?_
  refine sS ?_
  refine sR tfm ⟨[2, 5, 13, 14, 15], [2], [], []⟩ ⟨[(2, .ptr 2 0), (5, I a0s.From), (13, .p (.sl 1 (List.map ci a1cuts))), (14, I (lenI (List.map ci a1cuts))), (15, I 0)], [(2, .box 31 (bxc (GSs.cs a0s)))]⟩ krf ?_
  refine sB ?_
  refine sim_loop (fun (l1_1, l1_2) => ⟨[(2, .ptr 2 0), (5, I l1_1), (13, .p (.sl 1 (List.map ci a1cuts))), (14, I (lenI (List.map ci a1cuts))), (15, I l1_2)], [(2, .box 31 (bxc (GSs.cs a0s)))]⟩ : (Int × Int) → St) (weak_shr (K := ⟨[2, 5, 13, 14, 15], [2], [], []⟩) krf) ?_
  rintro recl1 ⟨l1_1, l1_2⟩
  show SimE (g_l_validCuts_l1 a0s a1cuts recl1 l1_1 l1_2) _ _ _ _ _ _
  unfold g_l_validCuts_l1
  refine sR tfm ⟨[2, 5, 13, 14, 15, 16], [2], [], []⟩ ⟨[(2, .ptr 2 0), (5, I l1_1), (13, .p (.sl 1 (List.map ci a1cuts))), (14, I (lenI (List.map ci a1cuts))), (15, I l1_2), (16, B (ltI l1_2 (lenI (List.map ci a1cuts))))], [(2, .box 31 (bxc (GSs.cs a0s)))]⟩ krf ?_
  refine sS ?_
  refine sC (ltI l1_2 (lenI (List.map ci a1cuts))) krf ?_ ?_
  ·refine sK ?_
   refine sN ⟨[2, 5, 13, 14, 15], [2], [], []⟩ ⟨[(2, .ptr 2 0), (5, I l1_1), (13, .p (.sl 1 (List.map ci a1cuts))), (14, I (lenI (List.map ci a1cuts))), (15, I l1_2)], [(2, .box 31 (bxc (GSs.cs a0s)))]⟩ krf ?_
   refine sS ?_
   refine sB ?_
   refine sS ?_
   refine sG ?_
   refine xG krf krf (aop_idx (e := 3) (S := 1) (enc := ci) (l := a1cuts) (k := .i64) (n := l1_2) (sv := .p (.sl 1 (List.map ci a1cuts))) rfl krf krf krf krf krf) (fun x2 => ?_)
   refine xR 2 krf ?_
   refine xE ?_
   refine sN ⟨[2, 5, 7, 13, 14, 15], [2], [], []⟩ ⟨[(2, .ptr 2 0), (5, I l1_1), (7, I x2), (13, .p (.sl 1 (List.map ci a1cuts))), (14, I (lenI (List.map ci a1cuts))), (15, I l1_2)], [(2, .box 31 (bxc (GSs.cs a0s)))]⟩ krf ?_
   refine sS ?_
   refine sim_bind (fun j3 => ⟨[(2, .ptr 2 0), (7, I x2), (13, .p (.sl 1 (List.map ci a1cuts))), (14, I (lenI (List.map ci a1cuts))), (15, I l1_2), (27, B j3)], [(2, .box 31 (bxc (GSs.cs a0s)))]⟩ : Bool → St) ?_ ?_
   ·refine sG ?_
    refine xR 4 krf ?_
    refine xS (leI x2 l1_1) (fun h4 => ?_) (fun h4 => ?_)
    ·refine xN (want_ft krf h4) krf ?_
     refine xR 4 krf ?_
     refine xE ?_
     exact nq_n true ⟨[2, 7, 13, 14, 15, 27], [2], [], []⟩ krf
    ·refine xO (want_ff krf h4) krf ?_
     refine xR 4 krf ?_
     refine xE ?_
     exact nq_n (leI a0s.To x2) ⟨[2, 7, 13, 14, 15, 27], [2], [], []⟩ krf
   ·rintro j3
    refine sC j3 krf ?_ ?_
    ·refine sR tfm ⟨[4], [], [], []⟩ ⟨[(4, B false)], []⟩ krf ?_
     refine sT ?_
     refine sq_r ?_
     refine bq_r ?_
     refine sq_r ?_
     refine kq_r ?_
     refine bq_r ?_
     refine sq_r ?_
     exact qR (.id) krf krf krf
    ·refine sK ?_
     refine sN ⟨[2, 7, 13, 14, 15], [2], [], []⟩ ⟨[(2, .ptr 2 0), (7, I x2), (13, .p (.sl 1 (List.map ci a1cuts))), (14, I (lenI (List.map ci a1cuts))), (15, I l1_2)], [(2, .box 31 (bxc (GSs.cs a0s)))]⟩ krf ?_
     refine sL tfm krf ?_
     refine bq_n ?_
     refine sN ⟨[2, 5, 13, 14, 15], [2], [], []⟩ ⟨[(2, .ptr 2 0), (5, I x2), (13, .p (.sl 1 (List.map ci a1cuts))), (14, I (lenI (List.map ci a1cuts))), (15, I l1_2)], [(2, .box 31 (bxc (GSs.cs a0s)))]⟩ krf ?_
     refine sL tfm krf ?_
     exact kq_n (x2, wi (l1_2 + 1)) ⟨[2, 5, 13, 14, 15], [2], [], []⟩ krf
  ·refine sim_exit ?_
   refine sq_x ?_
   refine kq_x ?_
   refine bq_hit ?_
   refine sN ⟨[], [], [], []⟩ ⟨[], []⟩ krf ?_
   refine sR tfm ⟨[4], [], [], []⟩ ⟨[(4, B true)], []⟩ krf ?_
   refine sT ?_
   exact qR (.id) krf krf krf
def g_l_part_l1 (a0s : GSs) (a1from : Int) (a2to : Int) (recl1 : (Int × (OL GSl)) → Option GSs) (l1_1 : Int) (l1_2 : OL GSl) : Option GSs :=
 cond (ltI l1_1 (lenI (List.map GSl.cs a0s.Slices)))
  ((getI a0s.Slices l1_1).bind fun x2 =>
  (cond (leI a1from x2.Minute)
   (some (ltI x2.Minute a2to))
   (some false)).bind fun j3 =>
  cond j3
   (cond (roomB (List.length (l1_2.toL ++ [x2])) 16) (
    recl1 (wi (l1_1 + 1), OL.own (l1_2.toL ++ [x2]))) none)
   (recl1 (wi (l1_1 + 1), l1_2)))
  (some (⟨a1from, a2to, minI (maxI a0s.End a1from) a2to, l1_2.toL⟩ : GSs))
def g_l_part (n : Nat) (a0s : GSs) (a1from : Int) (a2to : Int) : Option GSs :=
 loopN (fun recl1 (l1_1, l1_2) => g_l_part_l1 a0s a1from a2to recl1 l1_1 l1_2) n (0, OL.nil)
theorem g_l_part_ok (n : Nat) (a0s : GSs) (a1from : Int) (a2to : Int) : ∀ r, g_l_part n a0s a1from a2to = some r → PCall Tryz.prog 17 [ag (GSs.cs a0s), I a1from, I a2to] (.ret (ag (GSs.cs r))) := by
 refine pcall_sim (X := fun r : GSs => AEnd.ret (ag (GSs.cs r))) Tryz.func17 rfl Tryz.ntmps17 rfl ?_
 unfold g_l_part
 refine sR tfm ⟨[1, 2, 3, 6], [3, 6], [], []⟩ ⟨[(1, I a1from), (2, I a2to), (3, .ptr 3 0), (6, .ptr 6 0)], [(3, .box 31 (bxc (GSs.cs a0s))), (6, .box 31 [I 0, I 0, I 0, .p (.val (.slice none 0 0))])]⟩ krf ?_
 refine sR tfm ⟨[1, 2, 3, 6, 7], [3, 6, 7], [], []⟩ ⟨[(1, I a1from), (2, I a2to), (3, .ptr 3 0), (6, .ptr 6 0), (7, .ptr 7 0)], [(3, .box 31 (bxc (GSs.cs a0s))), (6, .box 31 [I 0, I 0, I 0, .p (.val (.slice none 0 0))]), (7, .box 31 [I a1from, I a2to, I (minI (maxI a0s.End a1from) a2to), .p (.val (.slice none 0 0))])]⟩ krf ?_
 refine sS ?_
 refine sR tfm ⟨[1, 2, 6, 7, 20, 21, 22], [6, 7], [], []⟩ ⟨[(1, I a1from), (2, I a2to), (6, .ptr 6 0), (7, .ptr 7 0), (20, .p (.sl 2 (List.map GSl.cs a0s.Slices))), (21, I (lenI (List.map GSl.cs a0s.Slices))), (22, I 0)], [(6, .box 31 [I 0, I 0, I 0, .p (.val (.slice none 0 0))]), (7, .box 31 [I a1from, I a2to, I (minI (maxI a0s.End a1from) a2to), .p (.val (.slice none 0 0))])]⟩ krf ?_
 refine sB ?_
 refine sim_loop (fun (l1_1, l1_2) => ⟨[(1, I a1from), (2, I a2to), (6, .ptr 6 0), (7, .ptr 7 0), (20, .p (.sl 2 (List.map GSl.cs a0s.Slices))), (21, I (lenI (List.map GSl.cs a0s.Slices))), (22, I l1_1)], [(6, .box 31 [I 0, I 0, I 0, .p (.val (.slice none 0 0))]), (7, .box 31 [I a1from, I a2to, I (minI (maxI a0s.End a1from) a2to), osl 2 GSl.cs l1_2 40])] ++ oarr 48 2 GSl.cs l1_2 40⟩ : (Int × (OL GSl)) → St) (weak_shr (K := ⟨[1, 2, 6, 7, 20, 21, 22], [6, 7], [], []⟩) krf) ?_
 rintro recl1 ⟨l1_1, l1_2⟩
 show SimE (g_l_part_l1 a0s a1from a2to recl1 l1_1 l1_2) _ _ _ _ _ _
 unfold g_l_part_l1
 rcases l1_2 with _ | ow_l1_2
 ·refine sR tfm ⟨[1, 2, 6, 7, 20, 21, 22, 23], [6, 7], [], []⟩ ⟨[(1, I a1from), (2, I a2to), (6, .ptr 6 0), (7, .ptr 7 0), (20, .p (.sl 2 (List.map GSl.cs a0s.Slices))), (21, I (lenI (List.map GSl.cs a0s.Slices))), (22, I l1_1), (23, B (ltI l1_1 (lenI (List.map GSl.cs a0s.Slices))))], [(6, .box 31 [I 0, I 0, I 0, .p (.val (.slice none 0 0))]), (7, .box 31 [I a1from, I a2to, I (minI (maxI a0s.End a1from) a2to), .p (.val (.slice none 0 0))])]⟩ krf ?_
  refine sS ?_
  refine sC (ltI l1_1 (lenI (List.map GSl.cs a0s.Slices))) krf ?_ ?_
  ·refine sK ?_
   refine sN ⟨[1, 2, 6, 7, 20, 21, 22], [6, 7], [], []⟩ ⟨[(1, I a1from), (2, I a2to), (6, .ptr 6 0), (7, .ptr 7 0), (20, .p (.sl 2 (List.map GSl.cs a0s.Slices))), (21, I (lenI (List.map GSl.cs a0s.Slices))), (22, I l1_1)], [(6, .box 31 [I 0, I 0, I 0, .p (.val (.slice none 0 0))]), (7, .box 31 [I a1from, I a2to, I (minI (maxI a0s.End a1from) a2to), .p (.val (.slice none 0 0))])]⟩ krf ?_
   refine sS ?_
   refine sB ?_
   refine sS ?_
   refine sG ?_
   refine xG krf krf (aop_idx (e := 48) (S := 2) (enc := GSl.cs) (l := a0s.Slices) (k := .i64) (n := l1_1) (sv := .p (.sl 2 (List.map GSl.cs a0s.Slices))) rfl krf krf krf krf krf) (fun x2 => ?_)
   refine xR 3 krf ?_
   refine xE ?_
   refine sN ⟨[1, 2, 6, 7, 9, 20, 21, 22], [6, 7, 9], [], []⟩ ⟨[(1, I a1from), (2, I a2to), (6, .ptr 6 0), (7, .ptr 7 0), (9, .ptr 9 0), (20, .p (.sl 2 (List.map GSl.cs a0s.Slices))), (21, I (lenI (List.map GSl.cs a0s.Slices))), (22, I l1_1)], [(6, .box 31 [I 0, I 0, I 0, .p (.val (.slice none 0 0))]), (7, .box 31 [I a1from, I a2to, I (minI (maxI a0s.End a1from) a2to), .p (.val (.slice none 0 0))]), (9, .box 48 (bxc (GSl.cs x2)))]⟩ krf ?_
   refine sim_bind (fun j3 => ⟨[(1, I a1from), (2, I a2to), (6, .ptr 6 0), (7, .ptr 7 0), (9, .ptr 9 0), (20, .p (.sl 2 (List.map GSl.cs a0s.Slices))), (21, I (lenI (List.map GSl.cs a0s.Slices))), (22, I l1_1), (35, B j3)], [(6, .box 31 [I 0, I 0, I 0, .p (.val (.slice none 0 0))]), (7, .box 31 [I a1from, I a2to, I (minI (maxI a0s.End a1from) a2to), .p (.val (.slice none 0 0))]), (9, .box 48 (bxc (GSl.cs x2)))]⟩ : Bool → St) ?_ ?_
   ·refine sG ?_
    refine xR 5 krf ?_
    refine xS (leI a1from x2.Minute) (fun h4 => ?_) (fun h4 => ?_)
    ·refine xO (want_tt krf h4) krf ?_
     refine xR 4 krf ?_
     refine xE ?_
     exact nq_n (ltI x2.Minute a2to) ⟨[1, 2, 6, 7, 9, 20, 21, 22, 35], [6, 7, 9], [], []⟩ krf
    ·refine xN (want_tf krf h4) krf ?_
     refine xR 4 krf ?_
     refine xE ?_
     exact nq_n false ⟨[1, 2, 6, 7, 9, 20, 21, 22, 35], [6, 7, 9], [], []⟩ krf
   ·rintro j3
    refine sC j3 krf ?_ ?_
    ·refine sG ?_
     refine xR 4 krf ?_
     refine xF krf krf (aop_app0 (e := 48) (S := 2) (by_ := 16) (enc := GSl.cs) (d := 40) (l2 := [x2]) (xv := .tsl 2 (List.map GSl.cs [x2]) 39) rfl rfl krf krf rfl krf krf krf rfl krf) ?_
     refine xR 2 krf ?_
     refine xE ?_
     refine bq_n ?_
     refine sN ⟨[1, 2, 6, 7, 20, 21, 22], [6, 7, 40], [], []⟩ ⟨[(1, I a1from), (2, I a2to), (6, .ptr 6 0), (7, .ptr 7 0), (20, .p (.sl 2 (List.map GSl.cs a0s.Slices))), (21, I (lenI (List.map GSl.cs a0s.Slices))), (22, I l1_1)], [(6, .box 31 [I 0, I 0, I 0, .p (.val (.slice none 0 0))]), (7, .box 31 [I a1from, I a2to, I (minI (maxI a0s.End a1from) a2to), .tsl 2 (List.map GSl.cs (OL.nil.toL ++ [x2])) 40]), (40, .arr 48 2 (List.map GSl.cs (OL.nil.toL ++ [x2])).length)]⟩ krf ?_
     refine sL tfm krf ?_
     exact kq_n (wi (l1_1 + 1), OL.own (OL.nil.toL ++ [x2])) ⟨[1, 2, 6, 7, 20, 21, 22], [6, 7, 40], [], []⟩ krf
    ·refine sK ?_
     refine bq_n ?_
     refine sN ⟨[1, 2, 6, 7, 20, 21, 22], [6, 7], [], []⟩ ⟨[(1, I a1from), (2, I a2to), (6, .ptr 6 0), (7, .ptr 7 0), (20, .p (.sl 2 (List.map GSl.cs a0s.Slices))), (21, I (lenI (List.map GSl.cs a0s.Slices))), (22, I l1_1)], [(6, .box 31 [I 0, I 0, I 0, .p (.val (.slice none 0 0))]), (7, .box 31 [I a1from, I a2to, I (minI (maxI a0s.End a1from) a2to), .p (.val (.slice none 0 0))])]⟩ krf ?_
     refine sL tfm krf ?_
     exact kq_n (wi (l1_1 + 1), OL.nil) ⟨[1, 2, 6, 7, 20, 21, 22], [6, 7], [], []⟩ krf
  ·refine sim_exit ?_
   refine sq_x ?_
   refine kq_x ?_
   refine bq_hit ?_
   refine sN ⟨[6, 7], [6, 7], [], []⟩ ⟨[(6, .ptr 6 0), (7, .ptr 7 0)], [(6, .box 31 [I 0, I 0, I 0, .p (.val (.slice none 0 0))]), (7, .box 31 [I a1from, I a2to, I (minI (maxI a0s.End a1from) a2to), .p (.val (.slice none 0 0))])]⟩ krf ?_
   refine sR tfm ⟨[6], [6], [], []⟩ ⟨[(6, .ptr 6 0)], [(6, .box 31 [I a1from, I a2to, I (minI (maxI a0s.End a1from) a2to), .p (.val (.slice none 0 0))])]⟩ krf ?_
   refine sT ?_
   exact qR (.agg [.id, .id, .id, .sl 2]) krf krf krf
 ·refine sR tfm ⟨[1, 2, 6, 7, 20, 21, 22, 23], [6, 7, 40], [], []⟩ ⟨[(1, I a1from), (2, I a2to), (6, .ptr 6 0), (7, .ptr 7 0), (20, .p (.sl 2 (List.map GSl.cs a0s.Slices))), (21, I (lenI (List.map GSl.cs a0s.Slices))), (22, I l1_1), (23, B (ltI l1_1 (lenI (List.map GSl.cs a0s.Slices))))], [(6, .box 31 [I 0, I 0, I 0, .p (.val (.slice none 0 0))]), (7, .box 31 [I a1from, I a2to, I (minI (maxI a0s.End a1from) a2to), .tsl 2 (List.map GSl.cs (OL.own ow_l1_2).toL) 40]), (40, .arr 48 2 (List.map GSl.cs (OL.own ow_l1_2).toL).length)]⟩ krf ?_
  refine sS ?_
  refine sC (ltI l1_1 (lenI (List.map GSl.cs a0s.Slices))) krf ?_ ?_
  ·refine sK ?_
   refine sN ⟨[1, 2, 6, 7, 20, 21, 22], [6, 7, 40], [], []⟩ ⟨[(1, I a1from), (2, I a2to), (6, .ptr 6 0), (7, .ptr 7 0), (20, .p (.sl 2 (List.map GSl.cs a0s.Slices))), (21, I (lenI (List.map GSl.cs a0s.Slices))), (22, I l1_1)], [(6, .box 31 [I 0, I 0, I 0, .p (.val (.slice none 0 0))]), (7, .box 31 [I a1from, I a2to, I (minI (maxI a0s.End a1from) a2to), .tsl 2 (List.map GSl.cs (OL.own ow_l1_2).toL) 40]), (40, .arr 48 2 (List.map GSl.cs (OL.own ow_l1_2).toL).length)]⟩ krf ?_
   refine sS ?_
   refine sB ?_
   refine sS ?_
   refine sG ?_
   refine xG krf krf (aop_idx (e := 48) (S := 2) (enc := GSl.cs) (l := a0s.Slices) (k := .i64) (n := l1_1) (sv := .p (.sl 2 (List.map GSl.cs a0s.Slices))) rfl krf krf krf krf krf) (fun x2 => ?_)
   refine xR 3 krf ?_
   refine xE ?_
   refine sN ⟨[1, 2, 6, 7, 9, 20, 21, 22], [6, 7, 9, 40], [], []⟩ ⟨[(1, I a1from), (2, I a2to), (6, .ptr 6 0), (7, .ptr 7 0), (9, .ptr 9 0), (20, .p (.sl 2 (List.map GSl.cs a0s.Slices))), (21, I (lenI (List.map GSl.cs a0s.Slices))), (22, I l1_1)], [(6, .box 31 [I 0, I 0, I 0, .p (.val (.slice none 0 0))]), (7, .box 31 [I a1from, I a2to, I (minI (maxI a0s.End a1from) a2to), .tsl 2 (List.map GSl.cs (OL.own ow_l1_2).toL) 40]), (9, .box 48 (bxc (GSl.cs x2))), (40, .arr 48 2 (List.map GSl.cs (OL.own ow_l1_2).toL).length)]⟩ krf ?_
   refine sim_bind (fun j3 => ⟨[(1, I a1from), (2, I a2to), (6, .ptr 6 0), (7, .ptr 7 0), (9, .ptr 9 0), (20, .p (.sl 2 (List.map GSl.cs a0s.Slices))), (21, I (lenI (List.map GSl.cs a0s.Slices))), (22, I l1_1), (35, B j3)], [(6, .box 31 [I 0, I 0, I 0, .p (.val (.slice none 0 0))]), (7, .box 31 [I a1from, I a2to, I (minI (maxI a0s.End a1from) a2to), .tsl 2 (List.map GSl.cs (OL.own ow_l1_2).toL) 40]), (9, .box 48 (bxc (GSl.cs x2))), (40, .arr 48 2 (List.map GSl.cs (OL.own ow_l1_2).toL).length)]⟩ : Bool → St) ?_ ?_
   ·refine sG ?_
    refine xR 5 krf ?_
    refine xS (leI a1from x2.Minute) (fun h4 => ?_) (fun h4 => ?_)
    ·refine xO (want_tt krf h4) krf ?_
     refine xR 4 krf ?_
     refine xE ?_
     exact nq_n (ltI x2.Minute a2to) ⟨[1, 2, 6, 7, 9, 20, 21, 22, 35], [6, 7, 9, 40], [], []⟩ krf
    ·refine xN (want_tf krf h4) krf ?_
     refine xR 4 krf ?_
     refine xE ?_
     exact nq_n false ⟨[1, 2, 6, 7, 9, 20, 21, 22, 35], [6, 7, 9, 40], [], []⟩ krf
   ·rintro j3
    refine sC j3 krf ?_ ?_
    ·refine sG ?_
     refine xR 4 krf ?_
     refine xF krf krf (aop_app (e := 48) (S := 2) (by_ := 16) (enc := GSl.cs) (tk := 40) (l := (OL.own ow_l1_2).toL) (l2 := [x2]) (xv := .tsl 2 (List.map GSl.cs [x2]) 39) rfl krf krf rfl krf krf krf rfl krf) ?_
     refine xR 2 krf ?_
     refine xE ?_
     refine bq_n ?_
     refine sN ⟨[1, 2, 6, 7, 20, 21, 22], [6, 7, 40], [], []⟩ ⟨[(1, I a1from), (2, I a2to), (6, .ptr 6 0), (7, .ptr 7 0), (20, .p (.sl 2 (List.map GSl.cs a0s.Slices))), (21, I (lenI (List.map GSl.cs a0s.Slices))), (22, I l1_1)], [(6, .box 31 [I 0, I 0, I 0, .p (.val (.slice none 0 0))]), (7, .box 31 [I a1from, I a2to, I (minI (maxI a0s.End a1from) a2to), .tsl 2 (List.map GSl.cs ((OL.own ow_l1_2).toL ++ [x2])) 40]), (40, .arr 48 2 (List.map GSl.cs ((OL.own ow_l1_2).toL ++ [x2])).length)]⟩ krf ?_
     refine sL tfm krf ?_
     exact kq_n (wi (l1_1 + 1), OL.own ((OL.own ow_l1_2).toL ++ [x2])) ⟨[1, 2, 6, 7, 20, 21, 22], [6, 7, 40], [], []⟩ krf
    ·refine sK ?_
     refine bq_n ?_
     refine sN ⟨[1, 2, 6, 7, 20, 21, 22], [6, 7, 40], [], []⟩ ⟨[(1, I a1from), (2, I a2to), (6, .ptr 6 0), (7, .ptr 7 0), (20, .p (.sl 2 (List.map GSl.cs a0s.Slices))), (21, I (lenI (List.map GSl.cs a0s.Slices))), (22, I l1_1)], [(6, .box 31 [I 0, I 0, I 0, .p (.val (.slice none 0 0))]), (7, .box 31 [I a1from, I a2to, I (minI (maxI a0s.End a1from) a2to), .tsl 2 (List.map GSl.cs (OL.own ow_l1_2).toL) 40]), (40, .arr 48 2 (List.map GSl.cs (OL.own ow_l1_2).toL).length)]⟩ krf ?_
     refine sL tfm krf ?_
     exact kq_n (wi (l1_1 + 1), (OL.own ow_l1_2)) ⟨[1, 2, 6, 7, 20, 21, 22], [6, 7, 40], [], []⟩ krf
  ·refine sim_exit ?_
   refine sq_x ?_
   refine kq_x ?_
   refine bq_hit ?_
   refine sN ⟨[6, 7], [6, 7, 40], [], []⟩ ⟨[(6, .ptr 6 0), (7, .ptr 7 0)], [(6, .box 31 [I 0, I 0, I 0, .p (.val (.slice none 0 0))]), (7, .box 31 [I a1from, I a2to, I (minI (maxI a0s.End a1from) a2to), .tsl 2 (List.map GSl.cs (OL.own ow_l1_2).toL) 40]), (40, .arr 48 2 (List.map GSl.cs (OL.own ow_l1_2).toL).length)]⟩ krf ?_
   refine sR tfm ⟨[6], [6, 40], [], []⟩ ⟨[(6, .ptr 6 0)], [(6, .box 31 [I a1from, I a2to, I (minI (maxI a0s.End a1from) a2to), .tsl 2 (List.map GSl.cs (OL.own ow_l1_2).toL) 40]), (40, .arr 48 2 (List.map GSl.cs (OL.own ow_l1_2).toL).length)]⟩ krf ?_
   refine sT ?_
   exact qR (.agg [.id, .id, .id, .sl 2]) krf krf krf
def g_bill_caught (n : Nat) (a1err : Int) : Option Int :=
 some a1err
theorem g_bill_caught_ok (n : Nat) (a1err : Int) : ∀ r, g_bill_caught n a1err = some r → ACall Tryz.prog 30 [.p (.val (.nilIface)), .ptr 1001 0] (Go.Abs.look [(1001, .box 34 [I a1err])]) (heapR (fun r : Int => ((.ret (.tup []), [(1001, .box 34 [I r])]) : AEnd × List (Nat × Blk))) r) := by
 refine acall_sim (X := fun r : Int => ((.ret (.tup []), [(1001, .box 34 [I r])]) : AEnd × List (Nat × Blk))) [(1001, .box 34 [I a1err])] Tryz.func30 rfl Tryz.ntmps30 rfl ?_
 unfold g_bill_caught
 refine sS ?_
 refine sR tfm ⟨[0, 1, 6, 7], [1001], [], []⟩ ⟨[(0, .p (.val (.nilIface))), (1, .ptr 1001 0), (6, .p (.val (.nilIface))), (7, B true)], [(1001, .box 34 [I a1err])]⟩ krf ?_
 refine sim_condT krf ?_
 refine sT ?_
 refine sq_r ?_
 exact hq_ret (.id) [1001] [] krf krf krf krf
def g_days_last_api_Change_l1 (n : Nat) (a0list : List GCh) (a1number : Int) (recl1 : (Int × Int) → Option Int) (l1_1 : Int) (l1_2 : Int) : Option Int :=
 cond (ltI l1_1 l1_2)
  ((getI a0list (wi (l1_1 + (wi (Int.tdiv (wi ((wi (l1_2 - l1_1)) + 1)) 2))))).bind fun x2 =>
  (g_days_keys_1 n x2).bind fun r3 =>
  cond (leI r3 a1number)
   (recl1 (wi (l1_1 + (wi (Int.tdiv (wi ((wi (l1_2 - l1_1)) + 1)) 2))), l1_2))
   (recl1 (l1_1, wi ((wi (l1_1 + (wi (Int.tdiv (wi ((wi (l1_2 - l1_1)) + 1)) 2)))) - 1))))
  (some l1_1)
def g_days_last_api_Change (n : Nat) (a0list : List GCh) (a1number : Int) : Option Int :=
 loopN (fun recl1 (l1_1, l1_2) => g_days_last_api_Change_l1 n a0list a1number recl1 l1_1 l1_2) n ((-1), wi ((lenI (List.map GCh.cs a0list)) - 1))
theorem g_days_last_api_Change_ok (n : Nat) (a0list : List GCh) (a1number : Int) : ∀ r, g_days_last_api_Change n a0list a1number = some r → PCall Tryz.prog 103 [.p (.sl 2 (List.map GCh.cs a0list)), I a1number, .p (.val (.func (.func 60) #[] #[]))] (.ret (I r)) := by
 refine pcall_sim (X := fun r : Int => AEnd.ret (I r)) Tryz.func103 rfl Tryz.ntmps103 rfl ?_
 unfold g_days_last_api_Change
 refine sR tfm ⟨[0, 1, 2, 6], [], [], []⟩ ⟨[(0, .p (.sl 2 (List.map GCh.cs a0list))), (1, I a1number), (2, .p (.val (.func (.func 60) #[] #[]))), (6, I 0)], []⟩ krf ?_
 refine sR tfm ⟨[0, 1, 2, 6, 7, 8], [], [], []⟩ ⟨[(0, .p (.sl 2 (List.map GCh.cs a0list))), (1, I a1number), (2, .p (.val (.func (.func 60) #[] #[]))), (6, I 0), (7, I (-1)), (8, I (wi ((lenI (List.map GCh.cs a0list)) - 1)))], []⟩ krf ?_
 refine sS ?_
 refine sB ?_
 refine sim_loop (fun (l1_1, l1_2) => ⟨[(0, .p (.sl 2 (List.map GCh.cs a0list))), (1, I a1number), (2, .p (.val (.func (.func 60) #[] #[]))), (6, I 0), (7, I l1_1), (8, I l1_2)], []⟩ : (Int × Int) → St) (weak_shr (K := ⟨[0, 1, 2, 6, 7, 8], [], [], []⟩) krf) ?_
 rintro recl1 ⟨l1_1, l1_2⟩
 show SimE (g_days_last_api_Change_l1 n a0list a1number recl1 l1_1 l1_2) _ _ _ _ _ _
 unfold g_days_last_api_Change_l1
 refine sS ?_
 refine sR tfm ⟨[0, 1, 2, 6, 7, 8, 15], [], [], []⟩ ⟨[(0, .p (.sl 2 (List.map GCh.cs a0list))), (1, I a1number), (2, .p (.val (.func (.func 60) #[] #[]))), (6, I 0), (7, I l1_1), (8, I l1_2), (15, B (ltI l1_1 l1_2))], []⟩ krf ?_
 refine sC (ltI l1_1 l1_2) krf ?_ ?_
 ·refine sK ?_
  refine sN ⟨[0, 1, 2, 6, 7, 8], [], [], []⟩ ⟨[(0, .p (.sl 2 (List.map GCh.cs a0list))), (1, I a1number), (2, .p (.val (.func (.func 60) #[] #[]))), (6, I 0), (7, I l1_1), (8, I l1_2)], []⟩ krf ?_
  refine sB ?_
  refine sR tfm ⟨[0, 1, 2, 6, 7, 8, 9], [], [], []⟩ ⟨[(0, .p (.sl 2 (List.map GCh.cs a0list))), (1, I a1number), (2, .p (.val (.func (.func 60) #[] #[]))), (6, I 0), (7, I l1_1), (8, I l1_2), (9, I (wi (l1_1 + (wi (Int.tdiv (wi ((wi (l1_2 - l1_1)) + 1)) 2)))))], []⟩ krf ?_
  refine sS ?_
  refine sG ?_
  refine xR 3 krf ?_
  refine xG krf krf (aop_idx (e := 81) (S := 2) (enc := GCh.cs) (l := a0list) (k := .i64) (n := wi (l1_1 + (wi (Int.tdiv (wi ((wi (l1_2 - l1_1)) + 1)) 2)))) (sv := .p (.sl 2 (List.map GCh.cs a0list))) rfl krf krf krf krf krf) (fun x2 => ?_)
  refine xR 1 krf ?_
  refine xC [] krf (g_days_keys_1_ok n x2) krf krf (fun _ => by kernel_rfl) (fun r3 => ?_)
  refine xR 2 krf ?_
  refine xE ?_
  refine sN ⟨[0, 1, 2, 6, 7, 8, 9, 30], [], [], []⟩ ⟨[(0, .p (.sl 2 (List.map GCh.cs a0list))), (1, I a1number), (2, .p (.val (.func (.func 60) #[] #[]))), (6, I 0), (7, I l1_1), (8, I l1_2), (9, I (wi (l1_1 + (wi (Int.tdiv (wi ((wi (l1_2 - l1_1)) + 1)) 2))))), (30, B (leI r3 a1number))], []⟩ krf ?_
  refine sC (leI r3 a1number) krf ?_ ?_
  ·refine sL tfm krf ?_
   refine bq_n ?_
   exact kq_n (wi (l1_1 + (wi (Int.tdiv (wi ((wi (l1_2 - l1_1)) + 1)) 2))), l1_2) ⟨[0, 1, 2, 6, 7, 8], [], [], []⟩ krf
  ·refine sL tfm krf ?_
   refine bq_n ?_
   exact kq_n (l1_1, wi ((wi (l1_1 + (wi (Int.tdiv (wi ((wi (l1_2 - l1_1)) + 1)) 2)))) - 1)) ⟨[0, 1, 2, 6, 7, 8], [], [], []⟩ krf
 ·refine sim_exit ?_
  refine sq_x ?_
  refine kq_x ?_
  refine bq_hit ?_
  refine sN ⟨[6, 7], [], [], []⟩ ⟨[(6, I 0), (7, I l1_1)], []⟩ krf ?_
  refine sR tfm ⟨[6], [], [], []⟩ ⟨[(6, I l1_1)], []⟩ krf ?_
  refine sT ?_
  exact qR (.id) krf krf krf
def g_days_split (n : Nat) (a0n : Int) (a1by : Int) : Option (Int × Int) :=
 cond (!eqI a1by 0) (
  cond (!eqI a1by 0) (
   cond (ltI (Int.tmod a0n a1by) 0)
    (some (wi ((wi (Int.tdiv a0n a1by)) - 1), wi ((Int.tmod a0n a1by) + a1by)))
    (some (wi (Int.tdiv a0n a1by), Int.tmod a0n a1by))) none) none
theorem g_days_split_ok (n : Nat) (a0n : Int) (a1by : Int) : ∀ r, g_days_split n a0n a1by = some r → PCall Tryz.prog 104 [I a0n, I a1by] (.ret (.tup [I r.1, I r.2])) := by
 refine pcall_sim (X := fun r : Int × Int => AEnd.ret (.tup [I r.1, I r.2])) Tryz.func104 rfl Tryz.ntmps104 rfl ?_
 unfold g_days_split
 refine sR tfm ⟨[0, 1], [], [], []⟩ ⟨[(0, I a0n), (1, I a1by)], []⟩ krf ?_
 refine sS ?_
 refine sim_drw tfm rfl ?_
 refine xR 2 krf ?_
 refine xF krf krf (aop_quo (k := .i64) (a := a0n) (b := a1by) rfl krf krf) ?_
 refine xR 2 krf ?_
 refine xF krf krf (aop_rem (k := .i64) (a := a0n) (b := a1by) rfl krf krf) ?_
 refine xR 2 krf ?_
 refine xs_endD krf ?_
 refine sN ⟨[1, 6, 7], [], [], []⟩ ⟨[(1, I a1by), (6, I (wi (Int.tdiv a0n a1by))), (7, I (Int.tmod a0n a1by))], []⟩ krf ?_
 refine sS ?_
 refine sR tfm ⟨[1, 6, 7, 15], [], [], []⟩ ⟨[(1, I a1by), (6, I (wi (Int.tdiv a0n a1by))), (7, I (Int.tmod a0n a1by)), (15, B (ltI (Int.tmod a0n a1by) 0))], []⟩ krf ?_
 refine sC (ltI (Int.tmod a0n a1by) 0) krf ?_ ?_
 ·refine sL tfm krf ?_
  refine sN ⟨[6, 7], [], [], []⟩ ⟨[(6, I (wi ((wi (Int.tdiv a0n a1by)) - 1))), (7, I (wi ((Int.tmod a0n a1by) + a1by)))], []⟩ krf ?_
  refine sR tfm ⟨[4, 5], [], [], []⟩ ⟨[(4, I (wi ((wi (Int.tdiv a0n a1by)) - 1))), (5, I (wi ((Int.tmod a0n a1by) + a1by)))], []⟩ krf ?_
  refine sT ?_
  exact qR (.id) krf krf krf
 ·refine sK ?_
  refine sN ⟨[6, 7], [], [], []⟩ ⟨[(6, I (wi (Int.tdiv a0n a1by))), (7, I (Int.tmod a0n a1by))], []⟩ krf ?_
  refine sR tfm ⟨[4, 5], [], [], []⟩ ⟨[(4, I (wi (Int.tdiv a0n a1by))), (5, I (Int.tmod a0n a1by))], []⟩ krf ?_
  refine sT ?_
  exact qR (.id) krf krf krf
def g_days_Local (n : Nat) (a0c : GCl) (a1minute : Int) : Option (Int × Int × Int) :=
 ((g_days_Valid n a0c).bind fun r2 =>
 cond (!r2)
  (some true)
  ((g_days_inside n a1minute 0 52560000).bind fun r4 =>
  some (!r4))).bind fun j1 =>
 cond j1
  (some (0, 0, 1))
  (((g_days_last_api_Change n a0c.Changes a1minute).bind fun r6 =>
  cond (leI 0 r6)
   ((getI a0c.Changes r6).bind fun x7 =>
   some x7.Offset)
   (some a0c.Offset)).bind fun j5 =>
  (g_days_split n (wi (a1minute + j5)) 1440).bind fun r8 =>
  some (r8.1, r8.2, 0))
theorem g_days_Local_ok (n : Nat) (a0c : GCl) (a1minute : Int) : ∀ r, g_days_Local n a0c a1minute = some r → PCall Tryz.prog 99 [ag (GCl.cs a0c), I a1minute] (.ret (.tup [I r.1, I r.2.1, I r.2.2])) := by
 refine pcall_sim (X := fun r : Int × Int × Int => AEnd.ret (.tup [I r.1, I r.2.1, I r.2.2])) Tryz.func99 rfl Tryz.ntmps99 rfl ?_
 unfold g_days_Local
 refine sR tfm ⟨[1, 2, 6], [2], [], []⟩ ⟨[(1, I a1minute), (2, .ptr 2 0), (6, I 0)], [(2, .box 28 (bxc (GCl.cs a0c)))]⟩ krf ?_
 refine sS ?_
 refine sim_bind (fun j1 => ⟨[(1, I a1minute), (2, .ptr 2 0), (6, I 0), (20, B j1)], [(2, .box 28 (bxc (GCl.cs a0c)))]⟩ : Bool → St) ?_ ?_
 ·refine sG ?_
  refine xR 1 krf ?_
  refine xC [] krf (g_days_Valid_ok n a0c) krf krf (fun _ => by kernel_rfl) (fun r2 => ?_)
  refine xR 2 krf ?_
  refine xS (!r2) (fun h3 => ?_) (fun h3 => ?_)
  ·refine xN (want_ft krf h3) krf ?_
   refine xR 3 krf ?_
   refine xE ?_
   exact nq_n true ⟨[1, 2, 6, 20], [2], [], []⟩ krf
  ·refine xO (want_ff krf h3) krf ?_
   refine xC [] krf (g_days_inside_ok n a1minute 0 52560000) krf krf (fun _ => by kernel_rfl) (fun r4 => ?_)
   refine xR 2 krf ?_
   refine xE ?_
   exact nq_n (!r4) ⟨[1, 2, 6, 20], [2], [], []⟩ krf
 ·rintro j1
  refine sC j1 krf ?_ ?_
  ·refine sR tfm ⟨[4, 5, 6], [], [], []⟩ ⟨[(4, I 0), (5, I 0), (6, I 1)], []⟩ krf ?_
   refine sT ?_
   refine sq_r ?_
   exact qR (.id) krf krf krf
  ·refine sK ?_
   refine sN ⟨[1, 2, 6], [2], [], []⟩ ⟨[(1, I a1minute), (2, .ptr 2 0), (6, I 0)], [(2, .box 28 (bxc (GCl.cs a0c)))]⟩ krf ?_
   refine sR tfm ⟨[1, 2, 6, 7], [2], [], []⟩ ⟨[(1, I a1minute), (2, .ptr 2 0), (6, I 0), (7, I a0c.Offset)], [(2, .box 28 (bxc (GCl.cs a0c)))]⟩ krf ?_
   refine sS ?_
   refine sG ?_
   refine xs_inline [] [] [] [] [] krf Tryz.func40 rfl Tryz.ntmps40 rfl krf krf krf ?_
   refine sR tfm ⟨[], [], [], []⟩ ⟨[], []⟩ krf ?_
   refine sR tfm ⟨[0, 1], [], [], []⟩ ⟨[(0, .p (.val (.func (.func 60) #[] #[]))), (1, .p (.val (.func (.func 61) #[] #[])))], []⟩ krf ?_
   refine sT ?_
   refine iq_ret .id [] [] (.tup [.p (.val (.func (.func 60) #[] #[])), .p (.val (.func (.func 61) #[] #[]))]) krf krf ?_
   refine kr0 ?_
   refine xR 5 krf ?_
   refine xE ?_
   refine sN ⟨[1, 2, 6, 7, 8], [2], [], []⟩ ⟨[(1, I a1minute), (2, .ptr 2 0), (6, I 0), (7, I a0c.Offset), (8, .p (.val (.func (.func 60) #[] #[])))], [(2, .box 28 (bxc (GCl.cs a0c)))]⟩ krf ?_
   refine sim_bind (fun j5 => ⟨[(1, I a1minute), (6, I 0), (7, I j5)], []⟩ : Int → St) ?_ ?_
   ·refine sS ?_
    refine sG ?_
    refine xR 4 krf ?_
    refine xC [] krf (g_days_last_api_Change_ok n a0c.Changes a1minute) krf krf (fun _ => by kernel_rfl) (fun r6 => ?_)
    refine xR 1 krf ?_
    refine xE ?_
    refine sN ⟨[1, 2, 6, 7, 10], [2], [], []⟩ ⟨[(1, I a1minute), (2, .ptr 2 0), (6, I 0), (7, I a0c.Offset), (10, I r6)], [(2, .box 28 (bxc (GCl.cs a0c)))]⟩ krf ?_
    refine sR tfm ⟨[1, 2, 6, 7, 10, 33], [2], [], []⟩ ⟨[(1, I a1minute), (2, .ptr 2 0), (6, I 0), (7, I a0c.Offset), (10, I r6), (33, B (leI 0 r6))], [(2, .box 28 (bxc (GCl.cs a0c)))]⟩ krf ?_
    refine sC (leI 0 r6) krf ?_ ?_
    ·refine sG ?_
     refine xR 3 krf ?_
     refine xG krf krf (aop_idx (e := 81) (S := 2) (enc := GCh.cs) (l := a0c.Changes) (k := .i64) (n := r6) (sv := .p (.sl 2 (List.map GCh.cs a0c.Changes))) rfl krf krf krf krf krf) (fun x7 => ?_)
     refine xR 3 krf ?_
     refine xE ?_
     exact nq_n x7.Offset ⟨[1, 6, 7], [], [], []⟩ krf
    ·refine sK ?_
     exact nq_n a0c.Offset ⟨[1, 6, 7], [], [], []⟩ krf
   ·rintro j5
    refine sS ?_
    refine sG ?_
    refine xR 3 krf ?_
    refine xC [] krf (g_days_split_ok n (wi (a1minute + j5)) 1440) krf krf (fun _ => by kernel_rfl) (fun r8 => ?_)
    refine xR 5 krf ?_
    refine xE ?_
    refine sN ⟨[6, 7, 11, 12], [], [], []⟩ ⟨[(6, I 0), (7, I j5), (11, I r8.1), (12, I r8.2)], []⟩ krf ?_
    refine sR tfm ⟨[4, 5, 6], [], [], []⟩ ⟨[(4, I r8.1), (5, I r8.2), (6, I 0)], []⟩ krf ?_
    refine sT ?_
    exact qR (.id) krf krf krf
def g_days_last_int_l1 (n : Nat) (a0list : List Int) (a1number : Int) (recl1 : (Int × Int) → Option Int) (l1_1 : Int) (l1_2 : Int) : Option Int :=
 cond (ltI l1_1 l1_2)
  ((getI a0list (wi (l1_1 + (wi (Int.tdiv (wi ((wi (l1_2 - l1_1)) + 1)) 2))))).bind fun x2 =>
  (g_days_keys_2 n x2).bind fun r3 =>
  cond (leI r3 a1number)
   (recl1 (wi (l1_1 + (wi (Int.tdiv (wi ((wi (l1_2 - l1_1)) + 1)) 2))), l1_2))
   (recl1 (l1_1, wi ((wi (l1_1 + (wi (Int.tdiv (wi ((wi (l1_2 - l1_1)) + 1)) 2)))) - 1))))
  (some l1_1)
def g_days_last_int (n : Nat) (a0list : List Int) (a1number : Int) : Option Int :=
 loopN (fun recl1 (l1_1, l1_2) => g_days_last_int_l1 n a0list a1number recl1 l1_1 l1_2) n ((-1), wi ((lenI (List.map ci a0list)) - 1))
theorem g_days_last_int_ok (n : Nat) (a0list : List Int) (a1number : Int) : ∀ r, g_days_last_int n a0list a1number = some r → PCall Tryz.prog 105 [.p (.sl 1 (List.map ci a0list)), I a1number, .p (.val (.func (.func 61) #[] #[]))] (.ret (I r)) := by
 refine pcall_sim (X := fun r : Int => AEnd.ret (I r)) Tryz.func105 rfl Tryz.ntmps105 rfl ?_
 unfold g_days_last_int
 refine sR tfm ⟨[0, 1, 2, 6], [], [], []⟩ ⟨[(0, .p (.sl 1 (List.map ci a0list))), (1, I a1number), (2, .p (.val (.func (.func 61) #[] #[]))), (6, I 0)], []⟩ krf ?_
 refine sR tfm ⟨[0, 1, 2, 6, 7, 8], [], [], []⟩ ⟨[(0, .p (.sl 1 (List.map ci a0list))), (1, I a1number), (2, .p (.val (.func (.func 61) #[] #[]))), (6, I 0), (7, I (-1)), (8, I (wi ((lenI (List.map ci a0list)) - 1)))], []⟩ krf ?_
 refine sS ?_
 refine sB ?_
 refine sim_loop (fun (l1_1, l1_2) => ⟨[(0, .p (.sl 1 (List.map ci a0list))), (1, I a1number), (2, .p (.val (.func (.func 61) #[] #[]))), (6, I 0), (7, I l1_1), (8, I l1_2)], []⟩ : (Int × Int) → St) (weak_shr (K := ⟨[0, 1, 2, 6, 7, 8], [], [], []⟩) krf) ?_
 rintro recl1 ⟨l1_1, l1_2⟩
 show SimE (g_days_last_int_l1 n a0list a1number recl1 l1_1 l1_2) _ _ _ _ _ _
 unfold g_days_last_int_l1
 refine sS ?_
 refine sR tfm ⟨[0, 1, 2, 6, 7, 8, 15], [], [], []⟩ ⟨[(0, .p (.sl 1 (List.map ci a0list))), (1, I a1number), (2, .p (.val (.func (.func 61) #[] #[]))), (6, I 0), (7, I l1_1), (8, I l1_2), (15, B (ltI l1_1 l1_2))], []⟩ krf ?_
 refine sC (ltI l1_1 l1_2) krf ?_ ?_
 ·refine sK ?_
  refine sN ⟨[0, 1, 2, 6, 7, 8], [], [], []⟩ ⟨[(0, .p (.sl 1 (List.map ci a0list))), (1, I a1number), (2, .p (.val (.func (.func 61) #[] #[]))), (6, I 0), (7, I l1_1), (8, I l1_2)], []⟩ krf ?_
  refine sB ?_
  refine sR tfm ⟨[0, 1, 2, 6, 7, 8, 9], [], [], []⟩ ⟨[(0, .p (.sl 1 (List.map ci a0list))), (1, I a1number), (2, .p (.val (.func (.func 61) #[] #[]))), (6, I 0), (7, I l1_1), (8, I l1_2), (9, I (wi (l1_1 + (wi (Int.tdiv (wi ((wi (l1_2 - l1_1)) + 1)) 2)))))], []⟩ krf ?_
  refine sS ?_
  refine sG ?_
  refine xR 3 krf ?_
  refine xG krf krf (aop_idx (e := 3) (S := 1) (enc := ci) (l := a0list) (k := .i64) (n := wi (l1_1 + (wi (Int.tdiv (wi ((wi (l1_2 - l1_1)) + 1)) 2)))) (sv := .p (.sl 1 (List.map ci a0list))) rfl krf krf krf krf krf) (fun x2 => ?_)
  refine xR 1 krf ?_
  refine xC [] krf (g_days_keys_2_ok n x2) krf krf (fun _ => by kernel_rfl) (fun r3 => ?_)
  refine xR 2 krf ?_
  refine xE ?_
  refine sN ⟨[0, 1, 2, 6, 7, 8, 9, 30], [], [], []⟩ ⟨[(0, .p (.sl 1 (List.map ci a0list))), (1, I a1number), (2, .p (.val (.func (.func 61) #[] #[]))), (6, I 0), (7, I l1_1), (8, I l1_2), (9, I (wi (l1_1 + (wi (Int.tdiv (wi ((wi (l1_2 - l1_1)) + 1)) 2))))), (30, B (leI r3 a1number))], []⟩ krf ?_
  refine sC (leI r3 a1number) krf ?_ ?_
  ·refine sL tfm krf ?_
   refine bq_n ?_
   exact kq_n (wi (l1_1 + (wi (Int.tdiv (wi ((wi (l1_2 - l1_1)) + 1)) 2))), l1_2) ⟨[0, 1, 2, 6, 7, 8], [], [], []⟩ krf
  ·refine sL tfm krf ?_
   refine bq_n ?_
   exact kq_n (l1_1, wi ((wi (l1_1 + (wi (Int.tdiv (wi ((wi (l1_2 - l1_1)) + 1)) 2)))) - 1)) ⟨[0, 1, 2, 6, 7, 8], [], [], []⟩ krf
 ·refine sim_exit ?_
  refine sq_x ?_
  refine kq_x ?_
  refine bq_hit ?_
  refine sN ⟨[6, 7], [], [], []⟩ ⟨[(6, I 0), (7, I l1_1)], []⟩ krf ?_
  refine sR tfm ⟨[6], [], [], []⟩ ⟨[(6, I l1_1)], []⟩ krf ?_
  refine sT ?_
  exact qR (.id) krf krf krf
def g_days_week (n : Nat) : Option (Int × Int × Int × Int × Int × Int × Int) :=
 some (0, 0, 0, 0, 0, 1, 2)
theorem g_days_week_ok (n : Nat) : ∀ r, g_days_week n = some r → PCall Tryz.prog 106 [] (.ret (.agg [I r.1, I r.2.1, I r.2.2.1, I r.2.2.2.1, I r.2.2.2.2.1, I r.2.2.2.2.2.1, I r.2.2.2.2.2.2])) := by
 refine pcall_sim (X := fun r : Int × Int × Int × Int × Int × Int × Int => AEnd.ret (.agg [I r.1, I r.2.1, I r.2.2.1, I r.2.2.2.1, I r.2.2.2.2.1, I r.2.2.2.2.2.1, I r.2.2.2.2.2.2])) Tryz.func106 rfl Tryz.ntmps106 rfl ?_
 unfold g_days_week
 refine sR tfm ⟨[0], [0], [], []⟩ ⟨[(0, .ptr 0 0)], [(0, .box 126 [I 0, I 0, I 0, I 0, I 0, I 0, I 0])]⟩ krf ?_
 refine sR tfm ⟨[0], [0], [], []⟩ ⟨[(0, .ptr 0 0)], [(0, .box 126 [I 0, I 0, I 0, I 0, I 0, I 1, I 2])]⟩ krf ?_
 refine sT ?_
 exact qR (.id) krf krf krf
def g_days_Type (n : Nat) (a0c : GCl) (a1day : Int) : Option (Int × Int) :=
 ((g_days_Valid n a0c).bind fun r2 =>
 cond (!r2)
  (some true)
  ((g_days_inside n a1day (-1) 36501).bind fun r4 =>
  some (!r4))).bind fun j1 =>
 cond j1
  (some (0, 1))
  ((g_days_last_int n a0c.Holidays a1day).bind fun r5 =>
  (cond (leI 0 r5)
   ((getI a0c.Holidays r5).bind fun x8 =>
   some (eqI x8 a1day))
   (some false)).bind fun j6 =>
  cond j6
   (some (2, 0))
   ((g_days_week n).bind fun r9 =>
   (g_days_split n a1day 7).bind fun r10 =>
   (getI [r9.1, r9.2.1, r9.2.2.1, r9.2.2.2.1, r9.2.2.2.2.1, r9.2.2.2.2.2.1, r9.2.2.2.2.2.2] r10.2).bind fun x11 =>
   some (x11, 0)))
theorem g_days_Type_ok (n : Nat) (a0c : GCl) (a1day : Int) : ∀ r, g_days_Type n a0c a1day = some r → PCall Tryz.prog 100 [ag (GCl.cs a0c), I a1day] (.ret (.tup [I r.1, I r.2])) := by
 refine pcall_sim (X := fun r : Int × Int => AEnd.ret (.tup [I r.1, I r.2])) Tryz.func100 rfl Tryz.ntmps100 rfl ?_
 unfold g_days_Type
 refine sR tfm ⟨[1, 2], [2], [], []⟩ ⟨[(1, I a1day), (2, .ptr 2 0)], [(2, .box 28 (bxc (GCl.cs a0c)))]⟩ krf ?_
 refine sS ?_
 refine sim_bind (fun j1 => ⟨[(1, I a1day), (2, .ptr 2 0), (19, B j1)], [(2, .box 28 (bxc (GCl.cs a0c)))]⟩ : Bool → St) ?_ ?_
 ·refine sG ?_
  refine xR 1 krf ?_
  refine xC [] krf (g_days_Valid_ok n a0c) krf krf (fun _ => by kernel_rfl) (fun r2 => ?_)
  refine xR 2 krf ?_
  refine xS (!r2) (fun h3 => ?_) (fun h3 => ?_)
  ·refine xN (want_ft krf h3) krf ?_
   refine xR 3 krf ?_
   refine xE ?_
   exact nq_n true ⟨[1, 2, 19], [2], [], []⟩ krf
  ·refine xO (want_ff krf h3) krf ?_
   refine xC [] krf (g_days_inside_ok n a1day (-1) 36501) krf krf (fun _ => by kernel_rfl) (fun r4 => ?_)
   refine xR 2 krf ?_
   refine xE ?_
   exact nq_n (!r4) ⟨[1, 2, 19], [2], [], []⟩ krf
 ·rintro j1
  refine sC j1 krf ?_ ?_
  ·refine sR tfm ⟨[4, 5], [], [], []⟩ ⟨[(4, I 0), (5, I 1)], []⟩ krf ?_
   refine sT ?_
   refine sq_r ?_
   exact qR (.id) krf krf krf
  ·refine sK ?_
   refine sN ⟨[1, 2], [2], [], []⟩ ⟨[(1, I a1day), (2, .ptr 2 0)], [(2, .box 28 (bxc (GCl.cs a0c)))]⟩ krf ?_
   refine sS ?_
   refine sG ?_
   refine xs_inline [] [] [] [] [] krf Tryz.func40 rfl Tryz.ntmps40 rfl krf krf krf ?_
   refine sR tfm ⟨[], [], [], []⟩ ⟨[], []⟩ krf ?_
   refine sR tfm ⟨[0, 1], [], [], []⟩ ⟨[(0, .p (.val (.func (.func 60) #[] #[]))), (1, .p (.val (.func (.func 61) #[] #[])))], []⟩ krf ?_
   refine sT ?_
   refine iq_ret .id [] [] (.tup [.p (.val (.func (.func 60) #[] #[])), .p (.val (.func (.func 61) #[] #[]))]) krf krf ?_
   refine kr0 ?_
   refine xR 5 krf ?_
   refine xE ?_
   refine sN ⟨[1, 2, 6, 7], [2], [], []⟩ ⟨[(1, I a1day), (2, .ptr 2 0), (6, .p (.val (.func (.func 60) #[] #[]))), (7, .p (.val (.func (.func 61) #[] #[])))], [(2, .box 28 (bxc (GCl.cs a0c)))]⟩ krf ?_
   refine sS ?_
   refine sS ?_
   refine sG ?_
   refine xR 4 krf ?_
   refine xC [] krf (g_days_last_int_ok n a0c.Holidays a1day) krf krf (fun _ => by kernel_rfl) (fun r5 => ?_)
   refine xR 1 krf ?_
   refine xE ?_
   refine sN ⟨[1, 2, 6, 7, 8], [2], [], []⟩ ⟨[(1, I a1day), (2, .ptr 2 0), (6, .p (.val (.func (.func 60) #[] #[]))), (7, .p (.val (.func (.func 61) #[] #[]))), (8, I r5)], [(2, .box 28 (bxc (GCl.cs a0c)))]⟩ krf ?_
   refine sim_bind (fun j6 => ⟨[(1, I a1day), (6, .p (.val (.func (.func 60) #[] #[]))), (7, .p (.val (.func (.func 61) #[] #[]))), (39, B j6)], []⟩ : Bool → St) ?_ ?_
   ·refine sG ?_
    refine xR 3 krf ?_
    refine xS (leI 0 r5) (fun h7 => ?_) (fun h7 => ?_)
    ·refine xO (want_tt krf h7) krf ?_
     refine xR 2 krf ?_
     refine xG krf krf (aop_idx (e := 3) (S := 1) (enc := ci) (l := a0c.Holidays) (k := .i64) (n := r5) (sv := .p (.sl 1 (List.map ci a0c.Holidays))) rfl krf krf krf krf krf) (fun x8 => ?_)
     refine xR 4 krf ?_
     refine xE ?_
     exact nq_n (eqI x8 a1day) ⟨[1, 6, 7, 39], [], [], []⟩ krf
    ·refine xN (want_tf krf h7) krf ?_
     refine xR 7 krf ?_
     refine xE ?_
     exact nq_n false ⟨[1, 6, 7, 39], [], [], []⟩ krf
   ·rintro j6
    refine sC j6 krf ?_ ?_
    ·refine sR tfm ⟨[4, 5], [], [], []⟩ ⟨[(4, I 2), (5, I 0)], []⟩ krf ?_
     refine sT ?_
     refine sq_r ?_
     exact qR (.id) krf krf krf
    ·refine sK ?_
     refine sN ⟨[1, 6, 7], [], [], []⟩ ⟨[(1, I a1day), (6, .p (.val (.func (.func 60) #[] #[]))), (7, .p (.val (.func (.func 61) #[] #[])))], []⟩ krf ?_
     refine sS ?_
     refine sG ?_
     refine xC [] krf (g_days_week_ok n) krf krf (fun _ => by kernel_rfl) (fun r9 => ?_)
     refine xR 2 krf ?_
     refine xE ?_
     refine sN ⟨[1, 6, 7, 9], [9], [], []⟩ ⟨[(1, I a1day), (6, .p (.val (.func (.func 60) #[] #[]))), (7, .p (.val (.func (.func 61) #[] #[]))), (9, .ptr 9 0)], [(9, .box 126 [I r9.1, I r9.2.1, I r9.2.2.1, I r9.2.2.2.1, I r9.2.2.2.2.1, I r9.2.2.2.2.2.1, I r9.2.2.2.2.2.2])]⟩ krf ?_
     refine sS ?_
     refine sG ?_
     refine xR 1 krf ?_
     refine xC [] krf (g_days_split_ok n a1day 7) krf krf (fun _ => by kernel_rfl) (fun r10 => ?_)
     refine xR 5 krf ?_
     refine xE ?_
     refine sN ⟨[6, 7, 9, 11], [9], [], []⟩ ⟨[(6, .p (.val (.func (.func 60) #[] #[]))), (7, .p (.val (.func (.func 61) #[] #[]))), (9, .ptr 9 0), (11, I r10.2)], [(9, .box 126 [I r9.1, I r9.2.1, I r9.2.2.1, I r9.2.2.2.1, I r9.2.2.2.2.1, I r9.2.2.2.2.2.1, I r9.2.2.2.2.2.2])]⟩ krf ?_
     refine sS ?_
     refine sG ?_
     refine xR 1 krf ?_
     refine xs_getH krf krf (aop_arrL (b := 9) (k := .i64) (n := r10.2) (len := 7) (e := 3) (l := [r9.1, r9.2.1, r9.2.2.1, r9.2.2.2.1, r9.2.2.2.2.1, r9.2.2.2.2.2.1, r9.2.2.2.2.2.2]) rfl krf krf krf krf rfl) (fun x11 hx11 => ?_)
     refine xs_u krf krf (aop_ldL (g := I) (l := [r9.1, r9.2.1, r9.2.2.1, r9.2.2.2.1, r9.2.2.2.2.1, r9.2.2.2.2.2.1, r9.2.2.2.2.2.2]) (tb := 126) (b := 9) (n := r10.2) (v := x11) rfl krf krf krf (getI_at hx11)) ?_
     refine xR 2 krf ?_
     refine xE ?_
     refine sN ⟨[4, 5], [], [], []⟩ ⟨[(4, I x11), (5, I 0)], []⟩ krf ?_
     refine sT ?_
     exact qR (.id) krf krf krf
def g_t_Applies (n : Nat) (a0a : GAr) (a1c : GCl) (a2minute : Int) : Option Bool :=
 (g_t_validArticle n a0a).bind fun r1 =>
 cond (!r1)
  (some false)
  ((g_days_Local n a1c a2minute).bind fun r2 =>
  (cond (!eqI r2.2.2 0)
   (some true)
   (cond (ltI r2.2.1 a0a.From)
    (some true)
    (some (leI a0a.To r2.2.1)))).bind fun j3 =>
  cond j3
   (some false)
   ((g_days_Type n a1c r2.1).bind fun r6 =>
   cond (eqI r6.2 0)
    (cond (!ltI r6.1 0) (
     some (!eqI (bAnd .i64 a0a.Days (shlI .i64 1 r6.1)) 0)) none)
    (some false)))
theorem g_t_Applies_ok (n : Nat) (a0a : GAr) (a1c : GCl) (a2minute : Int) : ∀ r, g_t_Applies n a0a a1c a2minute = some r → PCall Tryz.prog 92 [ag (GAr.cs a0a), ag (GCl.cs a1c), I a2minute] (.ret (B r)) := by
 refine pcall_sim (X := fun r : Bool => AEnd.ret (B r)) Tryz.func92 rfl Tryz.ntmps92 rfl ?_
 unfold g_t_Applies
 refine sR tfm ⟨[2, 3, 4, 6], [3, 4], [], []⟩ ⟨[(2, I a2minute), (3, .ptr 3 0), (4, .ptr 4 0), (6, B false)], [(3, .box 45 (bxc (GAr.cs a0a))), (4, .box 28 (bxc (GCl.cs a1c)))]⟩ krf ?_
 refine sS ?_
 refine sS ?_
 refine sG ?_
 refine xR 1 krf ?_
 refine xC [] krf (g_t_validArticle_ok n a0a) krf krf (fun _ => by kernel_rfl) (fun r1 => ?_)
 refine xR 1 krf ?_
 refine xE ?_
 refine sN ⟨[2, 3, 4, 6, 13], [3, 4], [], []⟩ ⟨[(2, I a2minute), (3, .ptr 3 0), (4, .ptr 4 0), (6, B false), (13, B (!r1))], [(3, .box 45 (bxc (GAr.cs a0a))), (4, .box 28 (bxc (GCl.cs a1c)))]⟩ krf ?_
 refine sC (!r1) krf ?_ ?_
 ·refine sR tfm ⟨[6], [], [], []⟩ ⟨[(6, B false)], []⟩ krf ?_
  refine sT ?_
  refine sq_r ?_
  exact qR (.id) krf krf krf
 ·refine sK ?_
  refine sN ⟨[2, 3, 4, 6], [3, 4], [], []⟩ ⟨[(2, I a2minute), (3, .ptr 3 0), (4, .ptr 4 0), (6, B false)], [(3, .box 45 (bxc (GAr.cs a0a))), (4, .box 28 (bxc (GCl.cs a1c)))]⟩ krf ?_
  refine sS ?_
  refine sG ?_
  refine xR 2 krf ?_
  refine xC [] krf (g_days_Local_ok n a1c a2minute) krf krf (fun _ => by kernel_rfl) (fun r2 => ?_)
  refine xR 7 krf ?_
  refine xE ?_
  refine sN ⟨[3, 4, 6, 7, 8, 9], [3, 4], [], []⟩ ⟨[(3, .ptr 3 0), (4, .ptr 4 0), (6, B false), (7, I r2.1), (8, I r2.2.1), (9, I r2.2.2)], [(3, .box 45 (bxc (GAr.cs a0a))), (4, .box 28 (bxc (GCl.cs a1c)))]⟩ krf ?_
  refine sS ?_
  refine sim_bind (fun j3 => ⟨[(3, .ptr 3 0), (4, .ptr 4 0), (6, B false), (7, I r2.1), (34, B j3)], [(3, .box 45 (bxc (GAr.cs a0a))), (4, .box 28 (bxc (GCl.cs a1c)))]⟩ : Bool → St) ?_ ?_
  ·refine sG ?_
   refine xR 3 krf ?_
   refine xS (!eqI r2.2.2 0) (fun h4 => ?_) (fun h4 => ?_)
   ·refine xN (want_ft krf h4) krf ?_
    refine xR 10 krf ?_
    refine xE ?_
    exact nq_n true ⟨[3, 4, 6, 7, 34], [3, 4], [], []⟩ krf
   ·refine xO (want_ff krf h4) krf ?_
    refine xR 5 krf ?_
    refine xS (ltI r2.2.1 a0a.From) (fun h5 => ?_) (fun h5 => ?_)
    ·refine xN (want_ft krf h5) krf ?_
     refine xR 4 krf ?_
     refine xE ?_
     exact nq_n true ⟨[3, 4, 6, 7, 34], [3, 4], [], []⟩ krf
    ·refine xO (want_ff krf h5) krf ?_
     refine xR 4 krf ?_
     refine xE ?_
     exact nq_n (leI a0a.To r2.2.1) ⟨[3, 4, 6, 7, 34], [3, 4], [], []⟩ krf
  ·rintro j3
   refine sC j3 krf ?_ ?_
   ·refine sR tfm ⟨[6], [], [], []⟩ ⟨[(6, B false)], []⟩ krf ?_
    refine sT ?_
    refine sq_r ?_
    exact qR (.id) krf krf krf
   ·refine sK ?_
    refine sN ⟨[3, 4, 6, 7], [3, 4], [], []⟩ ⟨[(3, .ptr 3 0), (4, .ptr 4 0), (6, B false), (7, I r2.1)], [(3, .box 45 (bxc (GAr.cs a0a))), (4, .box 28 (bxc (GCl.cs a1c)))]⟩ krf ?_
    refine sS ?_
    refine sG ?_
    refine xR 2 krf ?_
    refine xC [] krf (g_days_Type_ok n a1c r2.1) krf krf (fun _ => by kernel_rfl) (fun r6 => ?_)
    refine xR 5 krf ?_
    refine xE ?_
    refine sN ⟨[3, 6, 7, 9, 10], [3], [], []⟩ ⟨[(3, .ptr 3 0), (6, B false), (7, I r2.1), (9, I r6.2), (10, I r6.1)], [(3, .box 45 (bxc (GAr.cs a0a)))]⟩ krf ?_
    refine sS ?_
    refine sim_drw tfm rfl ?_
    refine xR 3 krf ?_
    refine xS (eqI r6.2 0) (fun h7 => ?_) (fun h7 => ?_)
    ·refine xO (want_tt krf h7) krf ?_
     refine xR 2 krf ?_
     refine xF krf krf (aop_shl (k := .i64) (k' := .i64) (a := 1) (b := r6.1) rfl krf krf) ?_
     refine xR 4 krf ?_
     refine xs_endD krf ?_
     refine sN ⟨[6], [], [], []⟩ ⟨[(6, B (!eqI (bAnd .i64 a0a.Days (shlI .i64 1 r6.1)) 0))], []⟩ krf ?_
     refine sT ?_
     exact qR (.id) krf krf krf
    ·refine xN (want_tf krf h7) krf ?_
     refine xR 7 krf ?_
     refine xs_endD krf ?_
     refine sN ⟨[6], [], [], []⟩ ⟨[(6, B false)], []⟩ krf ?_
     refine sT ?_
     exact qR (.id) krf krf krf
def g_bb_applies (n : Nat) (a0b : GBB) (a1minute : Int) : Option Bool :=
 (g_t_Applies n a0b.article a0b.calendar a1minute).bind fun r1 =>
 some r1
theorem g_bb_applies_ok (n : Nat) (a0b : GBB) (a1minute : Int) : ∀ r, g_bb_applies n a0b a1minute = some r → PCall Tryz.prog 82 [.eptr (GBB.cs a0b), I a1minute] (.ret (B r)) := by
 refine pcall_sim (X := fun r : Bool => AEnd.ret (B r)) Tryz.func82 rfl Tryz.ntmps82 rfl ?_
 unfold g_bb_applies
 refine sR tfm ⟨[0, 1], [], [], []⟩ ⟨[(0, .eptr (GBB.cs a0b)), (1, I a1minute)], []⟩ krf ?_
 refine sS ?_
 refine sim_drw tfm rfl ?_
 refine xR 9 krf ?_
 refine xC [] krf (g_t_Applies_ok n a0b.article a0b.calendar a1minute) krf krf (fun _ => by kernel_rfl) (fun r1 => ?_)
 refine xR 1 krf ?_
 refine xs_endD krf ?_
 refine sN ⟨[4], [], [], []⟩ ⟨[(4, B r1)], []⟩ krf ?_
 refine sT ?_
 exact qR (.id) krf krf krf
def g_money_inside (n : Nat) (a0n : Int) (a1least : Int) (a2greatest : Int) : Option Bool :=
 cond (leI a1least a0n)
  (some (leI a0n a2greatest))
  (some false)
theorem g_money_inside_ok (n : Nat) (a0n : Int) (a1least : Int) (a2greatest : Int) : ∀ r, g_money_inside n a0n a1least a2greatest = some r → PCall Tryz.prog 71 [I a0n, I a1least, I a2greatest] (.ret (B r)) := by
 refine pcall_sim (X := fun r : Bool => AEnd.ret (B r)) Tryz.func71 rfl Tryz.ntmps71 rfl ?_
 unfold g_money_inside
 refine sR tfm ⟨[0, 1, 2, 6], [], [], []⟩ ⟨[(0, I a0n), (1, I a1least), (2, I a2greatest), (6, B false)], []⟩ krf ?_
 refine sS ?_
 refine sG ?_
 refine xR 4 krf ?_
 refine xS (leI a1least a0n) (fun h1 => ?_) (fun h1 => ?_)
 ·refine xO (want_tt krf h1) krf ?_
  refine xR 4 krf ?_
  refine xE ?_
  refine sN ⟨[6], [], [], []⟩ ⟨[(6, B (leI a0n a2greatest))], []⟩ krf ?_
  refine sT ?_
  exact qR (.id) krf krf krf
 ·refine xN (want_tf krf h1) krf ?_
  refine xR 4 krf ?_
  refine xE ?_
  refine sN ⟨[6], [], [], []⟩ ⟨[(6, B false)], []⟩ krf ?_
  refine sT ?_
  exact qR (.id) krf krf krf
def g_money_isAmount (n : Nat) (a0n : Int) : Option Bool :=
 (g_money_inside n a0n 0 1000000000).bind fun r1 =>
 some r1
theorem g_money_isAmount_ok (n : Nat) (a0n : Int) : ∀ r, g_money_isAmount n a0n = some r → PCall Tryz.prog 70 [I a0n] (.ret (B r)) := by
 refine pcall_sim (X := fun r : Bool => AEnd.ret (B r)) Tryz.func70 rfl Tryz.ntmps70 rfl ?_
 unfold g_money_isAmount
 refine sR tfm ⟨[0], [], [], []⟩ ⟨[(0, I a0n)], []⟩ krf ?_
 refine sS ?_
 refine sG ?_
 refine xR 1 krf ?_
 refine xC [] krf (g_money_inside_ok n a0n 0 1000000000) krf krf (fun _ => by kernel_rfl) (fun r1 => ?_)
 refine xR 1 krf ?_
 refine xE ?_
 refine sN ⟨[2], [], [], []⟩ ⟨[(2, B r1)], []⟩ krf ?_
 refine sT ?_
 exact qR (.id) krf krf krf
def g_money_need (n : Nat) (a0holds : Bool) (a1err : Int) : Option (Except Int Unit) :=
 cond (!a0holds)
  (some (.error a1err))
  (some (.ok ()))
theorem g_money_need_ok (n : Nat) (a0holds : Bool) (a1err : Int) : ∀ r, g_money_need n a0holds a1err = some r → PCall Tryz.prog 69 [B a0holds, I a1err] (excE (fun r : Unit => (.tup [] : AV)) (fun e : Int => (.ifc 111 (.agg [I e]) : AV)) r) := by
 refine pcall_sim (X := excE (fun r : Unit => (.tup [] : AV)) (fun e : Int => (.ifc 111 (.agg [I e]) : AV))) Tryz.func69 rfl Tryz.ntmps69 rfl ?_
 unfold g_money_need
 refine sR tfm ⟨[1, 5], [], [], []⟩ ⟨[(1, I a1err), (5, B (!a0holds))], []⟩ krf ?_
 refine sC (!a0holds) krf ?_ ?_
 ·refine sG ?_
  refine xR 3 krf ?_
  refine xs_panic 111 (.agg [I a1err]) krf rfl krf ?_
  exact rq_p krf krf
 ·refine sK ?_
  exact rq_n (.id) krf krf krf
def g_money_half (n : Nat) (a0n : Int) (a1by : Int) : Option Int :=
 cond (!eqI (wi (2 * a1by)) 0) (
  some (wi (Int.tdiv (wi ((wi (2 * a0n)) + a1by)) (wi (2 * a1by))))) none
theorem g_money_half_ok (n : Nat) (a0n : Int) (a1by : Int) : ∀ r, g_money_half n a0n a1by = some r → PCall Tryz.prog 73 [I a0n, I a1by] (.ret (I r)) := by
 refine pcall_sim (X := fun r : Int => AEnd.ret (I r)) Tryz.func73 rfl Tryz.ntmps73 rfl ?_
 unfold g_money_half
 refine sR tfm ⟨[0, 1], [], [], []⟩ ⟨[(0, I a0n), (1, I a1by)], []⟩ krf ?_
 refine sS ?_
 refine sG ?_
 refine xR 6 krf ?_
 refine xF krf krf (aop_quo (k := .i64) (a := wi ((wi (2 * a0n)) + a1by)) (b := wi (2 * a1by)) rfl krf krf) ?_
 refine xR 1 krf ?_
 refine xE ?_
 refine sN ⟨[4], [], [], []⟩ ⟨[(4, I (wi (Int.tdiv (wi ((wi (2 * a0n)) + a1by)) (wi (2 * a1by)))))], []⟩ krf ?_
 refine sT ?_
 exact qR (.id) krf krf krf
def g_money_checked (n : Nat) (a0n : Int) : Option (Except Int Int) :=
 (g_money_isAmount n a0n).bind fun r1 =>
 (g_money_need n r1 3).bind (exc (fun r2 =>
  some (.ok a0n)) fun e3 => some (.error e3))
theorem g_money_checked_ok (n : Nat) (a0n : Int) : ∀ r, g_money_checked n a0n = some r → PCall Tryz.prog 72 [I a0n] (excE (fun r : Int => (I r : AV)) (fun e : Int => (.ifc 111 (.agg [I e]) : AV)) r) := by
 refine pcall_sim (X := excE (fun r : Int => (I r : AV)) (fun e : Int => (.ifc 111 (.agg [I e]) : AV))) Tryz.func72 rfl Tryz.ntmps72 rfl ?_
 unfold g_money_checked
 refine sR tfm ⟨[0], [], [], []⟩ ⟨[(0, I a0n)], []⟩ krf ?_
 refine sS ?_
 refine sG ?_
 refine xR 1 krf ?_
 refine xC [] krf (g_money_isAmount_ok n a0n) krf krf (fun _ => by kernel_rfl) (fun r1 => ?_)
 refine xs_exc [] krf (g_money_need_ok n r1 3) krf krf (fun _ => by kernel_rfl) (fun _ => by kernel_rfl) (fun r2 => ?_) (fun e3 => ?_)
 ·refine xE ?_
  refine sN ⟨[0], [], [], []⟩ ⟨[(0, I a0n)], []⟩ krf ?_
  refine sR tfm ⟨[2], [], [], []⟩ ⟨[(2, I a0n)], []⟩ krf ?_
  refine sT ?_
  exact qR (.id) krf krf krf
 ·refine sq_p ?_
  exact rq_p krf krf
def g_money_caught (n : Nat) (a1err : Int) : Option Int :=
 some a1err
theorem g_money_caught_ok (n : Nat) (a1err : Int) : ∀ r, g_money_caught n a1err = some r → ACall Tryz.prog 68 [.p (.val (.nilIface)), .ptr 1001 0] (Go.Abs.look [(1001, .box 34 [I a1err])]) (heapR (fun r : Int => ((.ret (.tup []), [(1001, .box 34 [I r])]) : AEnd × List (Nat × Blk))) r) := by
 refine acall_sim (X := fun r : Int => ((.ret (.tup []), [(1001, .box 34 [I r])]) : AEnd × List (Nat × Blk))) [(1001, .box 34 [I a1err])] Tryz.func68 rfl Tryz.ntmps68 rfl ?_
 unfold g_money_caught
 refine sS ?_
 refine sR tfm ⟨[0, 1, 6, 7], [1001], [], []⟩ ⟨[(0, .p (.val (.nilIface))), (1, .ptr 1001 0), (6, .p (.val (.nilIface))), (7, B true)], [(1001, .box 34 [I a1err])]⟩ krf ?_
 refine sim_condT krf ?_
 refine sT ?_
 refine sq_r ?_
 exact hq_ret (.id) [1001] [] krf krf krf krf
def g_money_caught_2 (n : Nat) (a0x_0 : Int) (a1err : Int) : Option Int :=
 some a0x_0
theorem g_money_caught_2_ok (n : Nat) (a0x_0 : Int) (a1err : Int) : ∀ r, g_money_caught_2 n a0x_0 a1err = some r → ACall Tryz.prog 68 [.ifc 111 (.agg [I a0x_0]), .ptr 1001 0] (Go.Abs.look [(1001, .box 34 [I a1err])]) (heapR (fun r : Int => ((.ret (.tup []), [(1001, .box 34 [I r])]) : AEnd × List (Nat × Blk))) r) := by
 refine acall_sim (X := fun r : Int => ((.ret (.tup []), [(1001, .box 34 [I r])]) : AEnd × List (Nat × Blk))) [(1001, .box 34 [I a1err])] Tryz.func68 rfl Tryz.ntmps68 rfl ?_
 unfold g_money_caught_2
 refine sS ?_
 refine sR tfm ⟨[0, 1, 6, 7], [1001], [], []⟩ ⟨[(0, .ifc 111 (.agg [I a0x_0])), (1, .ptr 1001 0), (6, .ifc 111 (.agg [I a0x_0])), (7, B false)], [(1001, .box 34 [I a1err])]⟩ krf ?_
 refine sim_condF krf ?_
 refine sK ?_
 refine sN ⟨[0, 1, 6, 7], [1001], [], []⟩ ⟨[(0, .ifc 111 (.agg [I a0x_0])), (1, .ptr 1001 0), (6, .ifc 111 (.agg [I a0x_0])), (7, B false)], [(1001, .box 34 [I a1err])]⟩ krf ?_
 refine sR tfm ⟨[0, 1, 4, 5, 6, 7], [4, 1001], [], []⟩ ⟨[(0, .ifc 111 (.agg [I a0x_0])), (1, .ptr 1001 0), (4, .ptr 4 0), (5, B true), (6, .ifc 111 (.agg [I a0x_0])), (7, B false)], [(4, .box 111 [I a0x_0]), (1001, .box 34 [I a1err])]⟩ krf ?_
 refine sS ?_
 refine sR tfm ⟨[0, 1, 4, 6, 7, 14], [4, 1001], [], []⟩ ⟨[(0, .ifc 111 (.agg [I a0x_0])), (1, .ptr 1001 0), (4, .ptr 4 0), (6, .ifc 111 (.agg [I a0x_0])), (7, B false), (14, B false)], [(4, .box 111 [I a0x_0]), (1001, .box 34 [I a1err])]⟩ krf ?_
 refine sim_condF krf ?_
 refine sK ?_
 refine sN ⟨[1, 4, 6, 7], [4, 1001], [], []⟩ ⟨[(1, .ptr 1001 0), (4, .ptr 4 0), (6, .ifc 111 (.agg [I a0x_0])), (7, B false)], [(4, .box 111 [I a0x_0]), (1001, .box 34 [I a1err])]⟩ krf ?_
 refine sL tfm krf ?_
 exact hq_n (.id) [1001] [] krf krf krf krf
def g_money_Times_j1 (n : Nat) (a0price : Int) (a1quantity : Int) (a2per : Int) : Option (Int × Int) :=
 (g_money_half n (wi (a0price * a1quantity)) a2per).bind fun r2 =>
 (g_money_checked n r2).bind (exc (fun r3 =>
  (g_money_caught n 0).bind fun r5 =>
  some (r3, r5)) fun e4 => (g_money_caught_2 n e4 0).bind fun r6 =>
 some (0, r6))
def g_money_Times (n : Nat) (a0price : Int) (a1quantity : Int) (a2per : Int) : Option (Int × Int) :=
 (g_money_isAmount n a0price).bind fun r7 =>
 cond r7
  ((g_money_inside n a1quantity 0 1000000000).bind fun r9 =>
  cond r9
   ((g_money_inside n a2per 1 1000000000).bind fun r11 =>
   (g_money_need n r11 1).bind (exc (fun r12 =>
    g_money_Times_j1 n a0price a1quantity a2per) fun e13 => (g_money_caught_2 n e13 0).bind fun r14 =>
   some (0, r14)))
   ((g_money_need n false 1).bind (exc (fun r15 =>
    g_money_Times_j1 n a0price a1quantity a2per) fun e16 => (g_money_caught_2 n e16 0).bind fun r17 =>
   some (0, r17))))
  ((g_money_need n false 1).bind (exc (fun r18 =>
   g_money_Times_j1 n a0price a1quantity a2per) fun e19 => (g_money_caught_2 n e19 0).bind fun r20 =>
  some (0, r20)))
theorem g_money_Times_okH (n : Nat) (a0price : Int) (a1quantity : Int) (a2per : Int) : ∀ r, g_money_Times n a0price a1quantity a2per = some r → ACall Tryz.prog 83 [I a0price, I a1quantity, I a2per] (Go.Abs.look []) (heapR (fun r : Int × Int => ((.ret (.tup [I r.1, I r.2]), []) : AEnd × List (Nat × Blk))) r) := by
 refine defer_sim (X := fun r : Int × Int => ((.ret (.tup [I r.1, I r.2]), []) : AEnd × List (Nat × Blk))) [] (⟨Tryz.f93, _, _, _, 1, _, _, Tryz.func93, rfl, rfl, rfl, rfl, rfl, rfl, by decide, by decide, rfl, by kernel_rfl⟩ : Catcher Tryz.prog 93 68) (⟨_, _, _, _, _, 7, 8, _, rfl, rfl, rfl, rfl, rfl, rfl, rfl, by decide⟩ : Deferrer Tryz.f83 93) 7 Tryz.func83 Tryz.ntmps83 rfl krf rfl tfm rfl krf krf krf ?_
 unfold g_money_Times
 refine sP ⟨[0, 1, 2, 6, 7], [2000], [], []⟩ ⟨[(0, I a0price), (1, I a1quantity), (2, I a2per), (6, I 0), (7, .ptr 2000 0)], [(2000, .box 34 [I 0])]⟩ krf ?_
 refine sim_cps (fun _ => ⟨[(0, I a0price), (1, I a1quantity), (2, I a2per), (6, I 0), (7, .ptr 2000 0)], [(2000, .box 34 [I 0])]⟩ : Unit → St) (fun _ => g_money_Times_j1 n a0price a1quantity a2per) ?_ ?_
 ·rintro _
  show SimE (g_money_Times_j1 n a0price a1quantity a2per) _ _ _ _ _ _
  unfold g_money_Times_j1
  refine sS ?_
  refine sG ?_
  refine xR 4 krf ?_
  refine xC [] krf (g_money_half_ok n (wi (a0price * a1quantity)) a2per) krf krf (fun _ => by kernel_rfl) (fun r2 => ?_)
  refine xs_exc [] krf (g_money_checked_ok n r2) krf krf (fun _ => by kernel_rfl) (fun _ => by kernel_rfl) (fun r3 => ?_) (fun e4 => ?_)
  ·refine xR 2 krf ?_
   refine xE ?_
   refine sN ⟨[6, 7], [2000], [], []⟩ ⟨[(6, I r3), (7, .ptr 2000 0)], [(2000, .box 34 [I 0])]⟩ krf ?_
   refine sT ?_
   refine dq_ret ?_
   refine sc_heap [(1001, 2000)] [] [] (g_money_caught_ok n 0) krf krf krf (fun _ => by kernel_rfl) (fun _ => by kernel_rfl) (fun r5 => ?_)
   exact ke_end (.id) [] [] krf krf krf krf
  ·refine sq_p ?_
   refine dq_p ?_
   refine sc_heap [(1001, 2000)] [] [] (g_money_caught_2_ok n e4 0) krf krf krf (fun _ => by kernel_rfl) (fun _ => by kernel_rfl) (fun r6 => ?_)
   exact ke_end (.id) [] [] krf krf krf krf
 ·refine sG ?_
  refine xR 1 krf ?_
  refine xC [] krf (g_money_isAmount_ok n a0price) krf krf (fun _ => by kernel_rfl) (fun r7 => ?_)
  refine xR 1 krf ?_
  refine xS r7 (fun h8 => ?_) (fun h8 => ?_)
  ·refine xO (want_tt krf h8) krf ?_
   refine xC [] krf (g_money_inside_ok n a1quantity 0 1000000000) krf krf (fun _ => by kernel_rfl) (fun r9 => ?_)
   refine xR 2 krf ?_
   refine xS r9 (fun h10 => ?_) (fun h10 => ?_)
   ·refine xO (want_tt krf h10) krf ?_
    refine xC [] krf (g_money_inside_ok n a2per 1 1000000000) krf krf (fun _ => by kernel_rfl) (fun r11 => ?_)
    refine xR 1 krf ?_
    refine xs_exc [] krf (g_money_need_ok n r11 1) krf krf (fun _ => by kernel_rfl) (fun _ => by kernel_rfl) (fun r12 => ?_) (fun e13 => ?_)
    ·refine xE ?_
     exact kq_n (k := fun _ => g_money_Times_j1 n a0price a1quantity a2per) () ⟨[0, 1, 2, 6, 7], [2000], [], []⟩ krf
    ·refine kq_p ?_
     refine dq_p ?_
     refine sc_heap [(1001, 2000)] [] [] (g_money_caught_2_ok n e13 0) krf krf krf (fun _ => by kernel_rfl) (fun _ => by kernel_rfl) (fun r14 => ?_)
     exact ke_end (.id) [] [] krf krf krf krf
   ·refine xN (want_tf krf h10) krf ?_
    refine xR 2 krf ?_
    refine xs_exc [] krf (g_money_need_ok n false 1) krf krf (fun _ => by kernel_rfl) (fun _ => by kernel_rfl) (fun r15 => ?_) (fun e16 => ?_)
    ·refine xE ?_
     exact kq_n (k := fun _ => g_money_Times_j1 n a0price a1quantity a2per) () ⟨[0, 1, 2, 6, 7], [2000], [], []⟩ krf
    ·refine kq_p ?_
     refine dq_p ?_
     refine sc_heap [(1001, 2000)] [] [] (g_money_caught_2_ok n e16 0) krf krf krf (fun _ => by kernel_rfl) (fun _ => by kernel_rfl) (fun r17 => ?_)
     exact ke_end (.id) [] [] krf krf krf krf
  ·refine xN (want_tf krf h8) krf ?_
   refine xR 6 krf ?_
   refine xs_exc [] krf (g_money_need_ok n false 1) krf krf (fun _ => by kernel_rfl) (fun _ => by kernel_rfl) (fun r18 => ?_) (fun e19 => ?_)
   ·refine xE ?_
    exact kq_n (k := fun _ => g_money_Times_j1 n a0price a1quantity a2per) () ⟨[0, 1, 2, 6, 7], [2000], [], []⟩ krf
   ·refine kq_p ?_
    refine dq_p ?_
    refine sc_heap [(1001, 2000)] [] [] (g_money_caught_2_ok n e19 0) krf krf krf (fun _ => by kernel_rfl) (fun _ => by kernel_rfl) (fun r20 => ?_)
    exact ke_end (.id) [] [] krf krf krf krf
theorem g_money_Times_ok (n : Nat) (a0price : Int) (a1quantity : Int) (a2per : Int) : ∀ r, g_money_Times n a0price a1quantity a2per = some r → PCall Tryz.prog 83 [I a0price, I a1quantity, I a2per] (.ret (.tup [I r.1, I r.2])) := fun r h => pcall_of (g_money_Times_okH n a0price a1quantity a2per r h) rfl
def g_bill_must (n : Nat) (a0amount : Int) (a1err : Int) : Option (Except Int Int) :=
 cond (!eqI a1err 0)
  (some (.error 3))
  (some (.ok a0amount))
theorem g_bill_must_ok (n : Nat) (a0amount : Int) (a1err : Int) : ∀ r, g_bill_must n a0amount a1err = some r → PCall Tryz.prog 44 [I a0amount, I a1err] (excE (fun r : Int => (I r : AV)) (fun e : Int => (.ifc 89 (.agg [I e]) : AV)) r) := by
 refine pcall_sim (X := excE (fun r : Int => (I r : AV)) (fun e : Int => (.ifc 89 (.agg [I e]) : AV))) Tryz.func44 rfl Tryz.ntmps44 rfl ?_
 unfold g_bill_must
 refine sR tfm ⟨[0, 1], [], [], []⟩ ⟨[(0, I a0amount), (1, I a1err)], []⟩ krf ?_
 refine sS ?_
 refine sR tfm ⟨[0, 6], [], [], []⟩ ⟨[(0, I a0amount), (6, B (!eqI a1err 0))], []⟩ krf ?_
 refine sC (!eqI a1err 0) krf ?_ ?_
 ·refine sG ?_
  refine xR 2 krf ?_
  refine xs_panic 89 (.agg [I 3]) krf rfl krf ?_
  refine sq_p ?_
  exact rq_p krf krf
 ·refine sK ?_
  refine sN ⟨[0, 6], [], [], []⟩ ⟨[(0, I a0amount), (6, B (!eqI a1err 0))], []⟩ krf ?_
  refine sR tfm ⟨[4], [], [], []⟩ ⟨[(4, I a0amount)], []⟩ krf ?_
  refine sT ?_
  exact qR (.id) krf krf krf
def g_money_Started_j1 (n : Nat) (a0price : Int) (a1quantity : Int) (a2unit : Int) : Option (Int × Int) :=
 cond (!eqI a2unit 0) (
  (g_money_checked n (wi (a0price * (wi (Int.tdiv (wi ((wi (a1quantity + a2unit)) - 1)) a2unit))))).bind (exc (fun r2 =>
   (g_money_caught n 0).bind fun r4 =>
   some (r2, r4)) fun e3 => (g_money_caught_2 n e3 0).bind fun r5 =>
  some (0, r5))) none
def g_money_Started (n : Nat) (a0price : Int) (a1quantity : Int) (a2unit : Int) : Option (Int × Int) :=
 (g_money_isAmount n a0price).bind fun r6 =>
 cond r6
  ((g_money_inside n a1quantity 0 1000000000).bind fun r8 =>
  cond r8
   ((g_money_inside n a2unit 1 1000000000).bind fun r10 =>
   (g_money_need n r10 1).bind (exc (fun r11 =>
    g_money_Started_j1 n a0price a1quantity a2unit) fun e12 => (g_money_caught_2 n e12 0).bind fun r13 =>
   some (0, r13)))
   ((g_money_need n false 1).bind (exc (fun r14 =>
    g_money_Started_j1 n a0price a1quantity a2unit) fun e15 => (g_money_caught_2 n e15 0).bind fun r16 =>
   some (0, r16))))
  ((g_money_need n false 1).bind (exc (fun r17 =>
   g_money_Started_j1 n a0price a1quantity a2unit) fun e18 => (g_money_caught_2 n e18 0).bind fun r19 =>
  some (0, r19)))
theorem g_money_Started_okH (n : Nat) (a0price : Int) (a1quantity : Int) (a2unit : Int) : ∀ r, g_money_Started n a0price a1quantity a2unit = some r → ACall Tryz.prog 95 [I a0price, I a1quantity, I a2unit] (Go.Abs.look []) (heapR (fun r : Int × Int => ((.ret (.tup [I r.1, I r.2]), []) : AEnd × List (Nat × Blk))) r) := by
 refine defer_sim (X := fun r : Int × Int => ((.ret (.tup [I r.1, I r.2]), []) : AEnd × List (Nat × Blk))) [] (⟨Tryz.f102, _, _, _, 1, _, _, Tryz.func102, rfl, rfl, rfl, rfl, rfl, rfl, by decide, by decide, rfl, by kernel_rfl⟩ : Catcher Tryz.prog 102 68) (⟨_, _, _, _, _, 7, 8, _, rfl, rfl, rfl, rfl, rfl, rfl, rfl, by decide⟩ : Deferrer Tryz.f95 102) 7 Tryz.func95 Tryz.ntmps95 rfl krf rfl tfm rfl krf krf krf ?_
 unfold g_money_Started
 refine sP ⟨[0, 1, 2, 6, 7], [2000], [], []⟩ ⟨[(0, I a0price), (1, I a1quantity), (2, I a2unit), (6, I 0), (7, .ptr 2000 0)], [(2000, .box 34 [I 0])]⟩ krf ?_
 refine sim_cps (fun _ => ⟨[(0, I a0price), (1, I a1quantity), (2, I a2unit), (6, I 0), (7, .ptr 2000 0)], [(2000, .box 34 [I 0])]⟩ : Unit → St) (fun _ => g_money_Started_j1 n a0price a1quantity a2unit) ?_ ?_
 ·rintro _
  show SimE (g_money_Started_j1 n a0price a1quantity a2unit) _ _ _ _ _ _
  unfold g_money_Started_j1
  refine sS ?_
  refine sG ?_
  refine xR 6 krf ?_
  refine xF krf krf (aop_quo (k := .i64) (a := wi ((wi (a1quantity + a2unit)) - 1)) (b := a2unit) rfl krf krf) ?_
  refine xR 1 krf ?_
  refine xs_exc [] krf (g_money_checked_ok n (wi (a0price * (wi (Int.tdiv (wi ((wi (a1quantity + a2unit)) - 1)) a2unit))))) krf krf (fun _ => by kernel_rfl) (fun _ => by kernel_rfl) (fun r2 => ?_) (fun e3 => ?_)
  ·refine xR 2 krf ?_
   refine xE ?_
   refine sN ⟨[6, 7], [2000], [], []⟩ ⟨[(6, I r2), (7, .ptr 2000 0)], [(2000, .box 34 [I 0])]⟩ krf ?_
   refine sT ?_
   refine dq_ret ?_
   refine sc_heap [(1001, 2000)] [] [] (g_money_caught_ok n 0) krf krf krf (fun _ => by kernel_rfl) (fun _ => by kernel_rfl) (fun r4 => ?_)
   exact ke_end (.id) [] [] krf krf krf krf
  ·refine sq_p ?_
   refine dq_p ?_
   refine sc_heap [(1001, 2000)] [] [] (g_money_caught_2_ok n e3 0) krf krf krf (fun _ => by kernel_rfl) (fun _ => by kernel_rfl) (fun r5 => ?_)
   exact ke_end (.id) [] [] krf krf krf krf
 ·refine sG ?_
  refine xR 1 krf ?_
  refine xC [] krf (g_money_isAmount_ok n a0price) krf krf (fun _ => by kernel_rfl) (fun r6 => ?_)
  refine xR 1 krf ?_
  refine xS r6 (fun h7 => ?_) (fun h7 => ?_)
  ·refine xO (want_tt krf h7) krf ?_
   refine xC [] krf (g_money_inside_ok n a1quantity 0 1000000000) krf krf (fun _ => by kernel_rfl) (fun r8 => ?_)
   refine xR 2 krf ?_
   refine xS r8 (fun h9 => ?_) (fun h9 => ?_)
   ·refine xO (want_tt krf h9) krf ?_
    refine xC [] krf (g_money_inside_ok n a2unit 1 1000000000) krf krf (fun _ => by kernel_rfl) (fun r10 => ?_)
    refine xR 1 krf ?_
    refine xs_exc [] krf (g_money_need_ok n r10 1) krf krf (fun _ => by kernel_rfl) (fun _ => by kernel_rfl) (fun r11 => ?_) (fun e12 => ?_)
    ·refine xE ?_
     exact kq_n (k := fun _ => g_money_Started_j1 n a0price a1quantity a2unit) () ⟨[0, 1, 2, 6, 7], [2000], [], []⟩ krf
    ·refine kq_p ?_
     refine dq_p ?_
     refine sc_heap [(1001, 2000)] [] [] (g_money_caught_2_ok n e12 0) krf krf krf (fun _ => by kernel_rfl) (fun _ => by kernel_rfl) (fun r13 => ?_)
     exact ke_end (.id) [] [] krf krf krf krf
   ·refine xN (want_tf krf h9) krf ?_
    refine xR 2 krf ?_
    refine xs_exc [] krf (g_money_need_ok n false 1) krf krf (fun _ => by kernel_rfl) (fun _ => by kernel_rfl) (fun r14 => ?_) (fun e15 => ?_)
    ·refine xE ?_
     exact kq_n (k := fun _ => g_money_Started_j1 n a0price a1quantity a2unit) () ⟨[0, 1, 2, 6, 7], [2000], [], []⟩ krf
    ·refine kq_p ?_
     refine dq_p ?_
     refine sc_heap [(1001, 2000)] [] [] (g_money_caught_2_ok n e15 0) krf krf krf (fun _ => by kernel_rfl) (fun _ => by kernel_rfl) (fun r16 => ?_)
     exact ke_end (.id) [] [] krf krf krf krf
  ·refine xN (want_tf krf h7) krf ?_
   refine xR 6 krf ?_
   refine xs_exc [] krf (g_money_need_ok n false 1) krf krf (fun _ => by kernel_rfl) (fun _ => by kernel_rfl) (fun r17 => ?_) (fun e18 => ?_)
   ·refine xE ?_
    exact kq_n (k := fun _ => g_money_Started_j1 n a0price a1quantity a2unit) () ⟨[0, 1, 2, 6, 7], [2000], [], []⟩ krf
   ·refine kq_p ?_
    refine dq_p ?_
    refine sc_heap [(1001, 2000)] [] [] (g_money_caught_2_ok n e18 0) krf krf krf (fun _ => by kernel_rfl) (fun _ => by kernel_rfl) (fun r19 => ?_)
    exact ke_end (.id) [] [] krf krf krf krf
theorem g_money_Started_ok (n : Nat) (a0price : Int) (a1quantity : Int) (a2unit : Int) : ∀ r, g_money_Started n a0price a1quantity a2unit = some r → PCall Tryz.prog 95 [I a0price, I a1quantity, I a2unit] (.ret (.tup [I r.1, I r.2])) := fun r h => pcall_of (g_money_Started_okH n a0price a1quantity a2unit r h) rfl
def g_bb_stretch_l3 (n : Nat) (a0b : GBB) (a2to : Int) (recl3 : (Int × Int) → Option Int) (l3_1 : Int) (l3_2 : Int) : Option Int :=
 cond (ltI l3_1 a2to)
  (((g_bb_applies n a0b l3_1).bind fun r5 =>
  cond r5
   (some (wi (l3_2 + 1)))
   (some l3_2)).bind fun j4 =>
  recl3 (wi (l3_1 + 1), j4))
  (some l3_2)
def g_bb_stretch (n : Nat) (a0b : GBB) (a1from : Int) (a2to : Int) : Option (Except Int Int) :=
 (loopN (fun recl3 (l3_1, l3_2) => g_bb_stretch_l3 n a0b a2to recl3 l3_1 l3_2) n (a1from, 0)).bind fun j1 =>
 (g_money_Started n a0b.article.Price (maxI 0 (wi (j1 - a0b.article.Free))) a0b.article.Unit).bind fun r7 =>
 (g_bill_must n r7.1 r7.2).bind (exc (fun r8 =>
  some (.ok r8)) fun e9 => some (.error e9))
theorem g_bb_stretch_ok (n : Nat) (a0b : GBB) (a1from : Int) (a2to : Int) : ∀ r, g_bb_stretch n a0b a1from a2to = some r → PCall Tryz.prog 84 [.eptr (GBB.cs a0b), I a1from, I a2to] (excE (fun r : Int => (I r : AV)) (fun e : Int => (.ifc 89 (.agg [I e]) : AV)) r) := by
 refine pcall_sim (X := excE (fun r : Int => (I r : AV)) (fun e : Int => (.ifc 89 (.agg [I e]) : AV))) Tryz.func84 rfl Tryz.ntmps84 rfl ?_
 unfold g_bb_stretch
 refine sR tfm ⟨[0, 1, 2, 6], [], [], []⟩ ⟨[(0, .eptr (GBB.cs a0b)), (1, I a1from), (2, I a2to), (6, I 0)], []⟩ krf ?_
 refine sR tfm ⟨[0, 1, 2, 6, 7], [7], [], []⟩ ⟨[(0, .eptr (GBB.cs a0b)), (1, I a1from), (2, I a2to), (6, I 0), (7, .ptr 7 0)], [(7, .box 3 [I 0])]⟩ krf ?_
 refine sim_bind (fun j1 => ⟨[(0, .eptr (GBB.cs a0b)), (6, I 0), (7, .ptr 7 0)], [(7, .box 3 [I j1])]⟩ : Int → St) ?_ ?_
 ·refine sS ?_
  refine sG ?_
  refine xR 3 krf ?_
  refine xs_inline [] [.eptr (GBB.cs a0b), I a1from, I a2to] [(3, 403), (4, 404), (5, 405)] [] [] krf Tryz.func94 rfl Tryz.ntmps94 rfl krf krf krf ?_
  refine sR tfm ⟨[3, 4, 5, 6], [3, 4, 5], [], []⟩ ⟨[(3, .ptr 3 0), (4, .ptr 4 0), (5, .ptr 5 0), (6, .p (.val (.nilFunc)))], [(3, .box 91 [.eptr (GBB.cs a0b)]), (4, .box 3 [I a1from]), (5, .box 3 [I a2to])]⟩ krf ?_
  refine sR tfm ⟨[6], [3, 4, 5], [], []⟩ ⟨[(6, .fn (.func 101) [] [.ptr 4 0, .ptr 5 0, .ptr 3 0])], [(3, .box 91 [.eptr (GBB.cs a0b)]), (4, .box 3 [I a1from]), (5, .box 3 [I a2to])]⟩ krf ?_
  refine sT ?_
  refine iq_ret .id [3, 4, 5] [] (.fn (.func 101) [] [.ptr 4 0, .ptr 5 0, .ptr 3 0]) krf krf ?_
  refine kr0 ?_
  refine xE ?_
  refine sN ⟨[0, 6, 7, 11], [7, 403, 404, 405], [], []⟩ ⟨[(0, .eptr (GBB.cs a0b)), (6, I 0), (7, .ptr 7 0), (11, .fn (.func 101) [] [.ptr 404 0, .ptr 405 0, .ptr 403 0])], [(7, .box 3 [I 0]), (403, .box 91 [.eptr (GBB.cs a0b)]), (404, .box 3 [I a1from]), (405, .box 3 [I a2to])]⟩ krf ?_
  refine sB ?_
  refine sP ⟨[0, 6, 7, 11], [7, 403, 404, 405], [], []⟩ ⟨[(0, .eptr (GBB.cs a0b)), (6, I 0), (7, .ptr 7 0), (11, .fn (.func 101) [] [.ptr 404 0, .ptr 405 0, .ptr 403 0])], [(7, .box 3 [I 0]), (403, .box 91 [.eptr (GBB.cs a0b)]), (404, .box 3 [I a1from]), (405, .box 3 [I a2to])]⟩ krf ?_
  refine sim_range 101 3000 [] [.ptr 404 0, .ptr 405 0, .ptr 403 0] krf krf (fun nf2 _ hnf2 => ?_)
  refine sc_inline (hc := [(1007, .box 3 [I 0]), (1403, .box 91 [.eptr (GBB.cs a0b)]), (1404, .box 3 [I a1from]), (1405, .box 3 [I a2to]), (4000, .lp [(0, .eptr (GBB.cs a0b)), (6, I 0), (7, .ptr 1007 0), (11, .fn (.func 101) [] [.ptr 1404 0, .ptr 1405 0, .ptr 1403 0])] nf2 .ready none)]) (args' := [.yv 4000, .ptr 1404 0, .ptr 1405 0, .ptr 1403 0]) [(1007, 7), (1403, 403), (1404, 404), (1405, 405), (4000, 3000)] [] [] Tryz.func101 rfl Tryz.ntmps101 rfl krf krf krf ?_
  refine sR tfm ⟨[0, 2, 3, 5, 6], [1007, 1403, 1404, 1405, 4000], [], []⟩ ⟨[(0, .yv 4000), (2, .ptr 1405 0), (3, .ptr 1403 0), (5, I a1from), (6, I a1from)], [(1007, .box 3 [I 0]), (1403, .box 91 [.eptr (GBB.cs a0b)]), (1404, .box 3 [I a1from]), (1405, .box 3 [I a2to]), (4000, .lp [(0, .eptr (GBB.cs a0b)), (6, I 0), (7, .ptr 1007 0), (11, .fn (.func 101) [] [.ptr 1404 0, .ptr 1405 0, .ptr 1403 0])] nf2 .ready none)]⟩ krf ?_
  refine sB ?_
  refine sim_loop (fun (l3_1, l3_2) => ⟨[(0, .yv 4000), (2, .ptr 1405 0), (3, .ptr 1403 0), (5, I l3_1), (6, I a1from)], [(1007, .box 3 [I l3_2]), (1403, .box 91 [.eptr (GBB.cs a0b)]), (1404, .box 3 [I a1from]), (1405, .box 3 [I a2to]), (4000, .lp [(0, .eptr (GBB.cs a0b)), (6, I 0), (7, .ptr 1007 0), (11, .fn (.func 101) [] [.ptr 1404 0, .ptr 1405 0, .ptr 1403 0])] nf2 .ready none)]⟩ : (Int × Int) → St) (weak_shr (K := ⟨[0, 2, 3, 5, 6], [1007, 1403, 1404, 1405, 4000], [], []⟩) krf) ?_
  rintro recl3 ⟨l3_1, l3_2⟩
  show SimE (g_bb_stretch_l3 n a0b a2to recl3 l3_1 l3_2) _ _ _ _ _ _
  unfold g_bb_stretch_l3
  refine sS ?_
  refine sR tfm ⟨[0, 2, 3, 5, 6, 7, 9], [1007, 1403, 1404, 1405, 4000], [], []⟩ ⟨[(0, .yv 4000), (2, .ptr 1405 0), (3, .ptr 1403 0), (5, I l3_1), (6, I a1from), (7, I l3_1), (9, B (ltI l3_1 a2to))], [(1007, .box 3 [I l3_2]), (1403, .box 91 [.eptr (GBB.cs a0b)]), (1404, .box 3 [I a1from]), (1405, .box 3 [I a2to]), (4000, .lp [(0, .eptr (GBB.cs a0b)), (6, I 0), (7, .ptr 1007 0), (11, .fn (.func 101) [] [.ptr 1404 0, .ptr 1405 0, .ptr 1403 0])] nf2 .ready none)]⟩ krf ?_
  refine sC (ltI l3_1 a2to) krf ?_ ?_
  ·refine sK ?_
   refine sN ⟨[0, 2, 3, 5, 6, 7], [1007, 1403, 1404, 1405, 4000], [], []⟩ ⟨[(0, .yv 4000), (2, .ptr 1405 0), (3, .ptr 1403 0), (5, I l3_1), (6, I a1from), (7, I l3_1)], [(1007, .box 3 [I l3_2]), (1403, .box 91 [.eptr (GBB.cs a0b)]), (1404, .box 3 [I a1from]), (1405, .box 3 [I a2to]), (4000, .lp [(0, .eptr (GBB.cs a0b)), (6, I 0), (7, .ptr 1007 0), (11, .fn (.func 101) [] [.ptr 1404 0, .ptr 1405 0, .ptr 1403 0])] nf2 .ready none)]⟩ krf ?_
   refine sS ?_
   refine sB ?_
   refine sim_bind (fun j4 => ⟨[(0, .yv 4000), (2, .ptr 1405 0), (3, .ptr 1403 0), (5, I l3_1), (6, I a1from), (7, I l3_1), (20, B false)], [(1007, .box 3 [I j4]), (1403, .box 91 [.eptr (GBB.cs a0b)]), (1404, .box 3 [I a1from]), (1405, .box 3 [I a2to]), (4000, .lp [(0, .eptr (GBB.cs a0b)), (6, I 0), (7, .ptr 1007 0), (11, .fn (.func 101) [] [.ptr 1404 0, .ptr 1405 0, .ptr 1403 0])] nf2 .ready none)]⟩ : Int → St) ?_ ?_
   ·refine sG ?_
    refine xR 2 krf ?_
    refine xC [] krf (g_bb_applies_ok n a0b l3_1) krf krf (fun _ => by kernel_rfl) (fun r5 => ?_)
    refine xR 1 krf ?_
    refine xS r5 (fun h6 => ?_) (fun h6 => ?_)
    ·refine xO (want_tt krf h6) krf ?_
     refine xR 1 krf ?_
     refine xs_yield [] [(1007, .box 3 [I l3_2]), (1403, .box 91 [.eptr (GBB.cs a0b)]), (1404, .box 3 [I a1from]), (1405, .box 3 [I a2to]), (4000, .lp [(0, .eptr (GBB.cs a0b)), (6, I 0), (7, .ptr 1007 0), (11, .fn (.func 101) [] [.ptr 1404 0, .ptr 1405 0, .ptr 1403 0])] nf2 .ready none)] 4000 [(0, .eptr (GBB.cs a0b)), (6, I 0), (7, .ptr 1007 0), (11, .fn (.func 101) [] [.ptr 1404 0, .ptr 1405 0, .ptr 1403 0])] [] [] [I l3_1] krf hnf2 krf krf krf krf krf (fun _ => ?_)
     refine sK ?_
     refine as_n ⟨[6, 7], [1007, 1403, 1404, 1405, 4000], [], []⟩ ⟨[(6, I 0), (7, .ptr 1007 0)], [(1007, .box 3 [I l3_2]), (1403, .box 91 [.eptr (GBB.cs a0b)]), (1404, .box 3 [I a1from]), (1405, .box 3 [I a2to]), (4000, .lp [(0, .eptr (GBB.cs a0b)), (6, I 0), (7, .ptr 1007 0), (11, .fn (.func 101) [] [.ptr 1404 0, .ptr 1405 0, .ptr 1403 0])] nf2 .busy none)]⟩ none krf krf ?_
     refine sB ?_
     refine sL tfm krf ?_
     refine bq_n ?_
     refine rn_n [1007, 1403, 1404, 1405, 4000] [] .busy none krf krf ?_
     refine kr0 ?_
     refine xR 2 krf ?_
     refine xE ?_
     exact nq_n (wi (l3_2 + 1)) ⟨[0, 2, 3, 5, 6, 7, 20], [1007, 1403, 1404, 1405, 4000], [], []⟩ krf
    ·refine xN (want_tf krf h6) krf ?_
     refine xR 4 krf ?_
     refine xE ?_
     exact nq_n l3_2 ⟨[0, 2, 3, 5, 6, 7, 20], [1007, 1403, 1404, 1405, 4000], [], []⟩ krf
   ·rintro j4
    refine sim_condF krf ?_
    refine sK ?_
    refine bq_n ?_
    refine sN ⟨[0, 2, 3, 5, 6, 7], [1007, 1403, 1404, 1405, 4000], [], []⟩ ⟨[(0, .yv 4000), (2, .ptr 1405 0), (3, .ptr 1403 0), (5, I l3_1), (6, I a1from), (7, I l3_1)], [(1007, .box 3 [I j4]), (1403, .box 91 [.eptr (GBB.cs a0b)]), (1404, .box 3 [I a1from]), (1405, .box 3 [I a2to]), (4000, .lp [(0, .eptr (GBB.cs a0b)), (6, I 0), (7, .ptr 1007 0), (11, .fn (.func 101) [] [.ptr 1404 0, .ptr 1405 0, .ptr 1403 0])] nf2 .ready none)]⟩ krf ?_
    refine sL tfm krf ?_
    exact kq_n (wi (l3_1 + 1), j4) ⟨[0, 2, 3, 5, 6], [1007, 1403, 1404, 1405, 4000], [], []⟩ krf
  ·refine sim_exit ?_
   refine sq_x ?_
   refine kq_x ?_
   refine bq_hit ?_
   refine iq_n .id [1007, 1403, 1404, 1405, 4000] [] (.tup []) krf krf ?_
   refine kg_n .ready ⟨[0, 6, 7], [7], [], []⟩ ⟨[(0, .eptr (GBB.cs a0b)), (6, I 0), (7, .ptr 7 0)], [(7, .box 3 [I l3_2])]⟩ krf (by intro h; cases h) krf ?_
   refine bq_n ?_
   exact nq_n l3_2 ⟨[0, 6, 7], [7], [], []⟩ krf
 ·rintro j1
  refine sS ?_
  refine sim_drw tfm rfl ?_
  refine xR 18 krf ?_
  refine xC [] krf (g_money_Started_ok n a0b.article.Price (maxI 0 (wi (j1 - a0b.article.Free))) a0b.article.Unit) krf krf (fun _ => by kernel_rfl) (fun r7 => ?_)
  refine xR 2 krf ?_
  refine xs_seqL rfl krf krf ?_
  refine xs_exc [] krf (g_bill_must_ok n r7.1 r7.2) krf krf (fun _ => by kernel_rfl) (fun _ => by kernel_rfl) (fun r8 => ?_) (fun e9 => ?_)
  ·refine xR 1 krf ?_
   refine xE ?_
   refine sN ⟨[6], [], [], []⟩ ⟨[(6, I r8)], []⟩ krf ?_
   refine sT ?_
   exact qR (.id) krf krf krf
  ·refine sq_p ?_
   exact rq_p krf krf
def g_money_Tax_j1 (n : Nat) (a0amount : Int) (a1rate : Int) : Option (Int × Int) :=
 (g_money_half n (wi (a0amount * a1rate)) 10000).bind fun r2 =>
 (g_money_checked n r2).bind (exc (fun r3 =>
  (g_money_caught n 0).bind fun r5 =>
  some (r3, r5)) fun e4 => (g_money_caught_2 n e4 0).bind fun r6 =>
 some (0, r6))
def g_money_Tax (n : Nat) (a0amount : Int) (a1rate : Int) : Option (Int × Int) :=
 (g_money_isAmount n a0amount).bind fun r7 =>
 cond r7
  ((g_money_inside n a1rate 0 100000).bind fun r9 =>
  (g_money_need n r9 1).bind (exc (fun r10 =>
   g_money_Tax_j1 n a0amount a1rate) fun e11 => (g_money_caught_2 n e11 0).bind fun r12 =>
  some (0, r12)))
  ((g_money_need n false 1).bind (exc (fun r13 =>
   g_money_Tax_j1 n a0amount a1rate) fun e14 => (g_money_caught_2 n e14 0).bind fun r15 =>
  some (0, r15)))
theorem g_money_Tax_okH (n : Nat) (a0amount : Int) (a1rate : Int) : ∀ r, g_money_Tax n a0amount a1rate = some r → ACall Tryz.prog 45 [I a0amount, I a1rate] (Go.Abs.look []) (heapR (fun r : Int × Int => ((.ret (.tup [I r.1, I r.2]), []) : AEnd × List (Nat × Blk))) r) := by
 refine defer_sim (X := fun r : Int × Int => ((.ret (.tup [I r.1, I r.2]), []) : AEnd × List (Nat × Blk))) [] (⟨Tryz.f67, _, _, _, 1, _, _, Tryz.func67, rfl, rfl, rfl, rfl, rfl, rfl, by decide, by decide, rfl, by kernel_rfl⟩ : Catcher Tryz.prog 67 68) (⟨_, _, _, _, _, 5, 6, _, rfl, rfl, rfl, rfl, rfl, rfl, rfl, by decide⟩ : Deferrer Tryz.f45 67) 5 Tryz.func45 Tryz.ntmps45 rfl krf rfl tfm rfl krf krf krf ?_
 unfold g_money_Tax
 refine sP ⟨[0, 1, 4, 5], [2000], [], []⟩ ⟨[(0, I a0amount), (1, I a1rate), (4, I 0), (5, .ptr 2000 0)], [(2000, .box 34 [I 0])]⟩ krf ?_
 refine sim_cps (fun _ => ⟨[(0, I a0amount), (1, I a1rate), (4, I 0), (5, .ptr 2000 0)], [(2000, .box 34 [I 0])]⟩ : Unit → St) (fun _ => g_money_Tax_j1 n a0amount a1rate) ?_ ?_
 ·rintro _
  show SimE (g_money_Tax_j1 n a0amount a1rate) _ _ _ _ _ _
  unfold g_money_Tax_j1
  refine sS ?_
  refine sG ?_
  refine xR 3 krf ?_
  refine xC [] krf (g_money_half_ok n (wi (a0amount * a1rate)) 10000) krf krf (fun _ => by kernel_rfl) (fun r2 => ?_)
  refine xs_exc [] krf (g_money_checked_ok n r2) krf krf (fun _ => by kernel_rfl) (fun _ => by kernel_rfl) (fun r3 => ?_) (fun e4 => ?_)
  ·refine xR 2 krf ?_
   refine xE ?_
   refine sN ⟨[4, 5], [2000], [], []⟩ ⟨[(4, I r3), (5, .ptr 2000 0)], [(2000, .box 34 [I 0])]⟩ krf ?_
   refine sT ?_
   refine dq_ret ?_
   refine sc_heap [(1001, 2000)] [] [] (g_money_caught_ok n 0) krf krf krf (fun _ => by kernel_rfl) (fun _ => by kernel_rfl) (fun r5 => ?_)
   exact ke_end (.id) [] [] krf krf krf krf
  ·refine sq_p ?_
   refine dq_p ?_
   refine sc_heap [(1001, 2000)] [] [] (g_money_caught_2_ok n e4 0) krf krf krf (fun _ => by kernel_rfl) (fun _ => by kernel_rfl) (fun r6 => ?_)
   exact ke_end (.id) [] [] krf krf krf krf
 ·refine sG ?_
  refine xR 1 krf ?_
  refine xC [] krf (g_money_isAmount_ok n a0amount) krf krf (fun _ => by kernel_rfl) (fun r7 => ?_)
  refine xR 1 krf ?_
  refine xS r7 (fun h8 => ?_) (fun h8 => ?_)
  ·refine xO (want_tt krf h8) krf ?_
   refine xC [] krf (g_money_inside_ok n a1rate 0 100000) krf krf (fun _ => by kernel_rfl) (fun r9 => ?_)
   refine xR 1 krf ?_
   refine xs_exc [] krf (g_money_need_ok n r9 1) krf krf (fun _ => by kernel_rfl) (fun _ => by kernel_rfl) (fun r10 => ?_) (fun e11 => ?_)
   ·refine xE ?_
    exact kq_n (k := fun _ => g_money_Tax_j1 n a0amount a1rate) () ⟨[0, 1, 4, 5], [2000], [], []⟩ krf
   ·refine kq_p ?_
    refine dq_p ?_
    refine sc_heap [(1001, 2000)] [] [] (g_money_caught_2_ok n e11 0) krf krf krf (fun _ => by kernel_rfl) (fun _ => by kernel_rfl) (fun r12 => ?_)
    exact ke_end (.id) [] [] krf krf krf krf
  ·refine xN (want_tf krf h8) krf ?_
   refine xR 2 krf ?_
   refine xs_exc [] krf (g_money_need_ok n false 1) krf krf (fun _ => by kernel_rfl) (fun _ => by kernel_rfl) (fun r13 => ?_) (fun e14 => ?_)
   ·refine xE ?_
    exact kq_n (k := fun _ => g_money_Tax_j1 n a0amount a1rate) () ⟨[0, 1, 4, 5], [2000], [], []⟩ krf
   ·refine kq_p ?_
    refine dq_p ?_
    refine sc_heap [(1001, 2000)] [] [] (g_money_caught_2_ok n e14 0) krf krf krf (fun _ => by kernel_rfl) (fun _ => by kernel_rfl) (fun r15 => ?_)
    exact ke_end (.id) [] [] krf krf krf krf
theorem g_money_Tax_ok (n : Nat) (a0amount : Int) (a1rate : Int) : ∀ r, g_money_Tax n a0amount a1rate = some r → PCall Tryz.prog 45 [I a0amount, I a1rate] (.ret (.tup [I r.1, I r.2])) := fun r h => pcall_of (g_money_Tax_okH n a0amount a1rate r h) rfl
def g_bill_sum_j1 (n : Nat) (j1_1 : Int) (j1_2 : Int) (j1_3 : OL GLine) (j1_4 : Int) : Option (Except Int GBill) :=
 (cond (leI 0 j1_2)
  (some (minI j1_4 j1_2))
  (some j1_4)).bind fun j2 =>
 (g_money_Tax n j2 j1_1).bind fun r3 =>
 (g_bill_must n r3.1 r3.2).bind (exc (fun r4 =>
  cond (ltI 1000000000 (wi (j2 + r4)))
   (some (.error 3))
   (some (.ok (⟨j1_3.toL, j2, r4, wi (j2 + r4)⟩ : GBill)))) fun e5 => some (.error e5))
def g_bill_sum_j10 (l6_1 : Int) (l6_2 : Int) (l6_3 : Int) (l6_4 : OL GLine) (l6_5 : Int) (recl6 : (Int × Int × Int × (OL GLine) × Int) → Option (Except Int GBill)) (j10 : Int) : Option (Except Int GBill) :=
 cond (roomB (List.length (l6_4.toL ++ [(⟨l6_3, j10⟩ : GLine)])) 16) (
  recl6 (l6_1, l6_2, wi (l6_3 + 1), OL.own (l6_4.toL ++ [(⟨l6_3, j10⟩ : GLine)]), wi (l6_5 + j10))) none
def g_bill_sum_l13 (n : Nat) (a1c : GCl) (a2s : GSs) (x7 : GAr) (recl13 : (Int × Int) → Option Int) (l13_1 : Int) (l13_2 : Int) : Option Int :=
 cond (ltI l13_2 (lenI (List.map GSl.cs a2s.Slices)))
  ((getI a2s.Slices l13_2).bind fun x14 =>
  (g_bb_applies n (⟨x7, a1c, a2s⟩ : GBB) x14.Minute).bind fun r15 =>
  cond r15
   (recl13 (wi (l13_1 + x14.Energy), wi (l13_2 + 1)))
   (recl13 (l13_1, wi (l13_2 + 1))))
  (some l13_1)
def g_bill_sum_l6 (n : Nat) (a0t : GTf) (a1c : GCl) (a2s : GSs) (recl6 : (Int × Int × Int × (OL GLine) × Int) → Option (Except Int GBill)) (l6_1 : Int) (l6_2 : Int) (l6_3 : Int) (l6_4 : OL GLine) (l6_5 : Int) : Option (Except Int GBill) :=
 cond (ltI l6_3 (lenI (List.map GAr.cs a0t.Articles)))
  ((getI a0t.Articles l6_3).bind fun x7 =>
  cond (eqI x7.Kind 5)
   ((cond (ltI l6_2 0)
    (some true)
    (some (ltI x7.Price l6_2))).bind fun j8 =>
   cond j8
    (recl6 (l6_1, x7.Price, wi (l6_3 + 1), l6_4, l6_5))
    (recl6 (l6_1, l6_2, wi (l6_3 + 1), l6_4, l6_5)))
   (cond (eqI x7.Kind 6)
    (recl6 (x7.Price, l6_2, wi (l6_3 + 1), l6_4, l6_5))
    (cond (eqI x7.Kind 1)
     ((g_bb_applies n (⟨x7, a1c, a2s⟩ : GBB) a2s.From).bind fun r11 =>
     cond r11
      (g_bill_sum_j10 l6_1 l6_2 l6_3 l6_4 l6_5 recl6 x7.Price)
      (g_bill_sum_j10 l6_1 l6_2 l6_3 l6_4 l6_5 recl6 0))
     (cond (eqI x7.Kind 2)
      ((loopN (fun recl13 (l13_1, l13_2) => g_bill_sum_l13 n a1c a2s x7 recl13 l13_1 l13_2) n (0, 0)).bind fun j12 =>
      (g_money_Times n x7.Price j12 1000).bind fun r16 =>
      (g_bill_must n r16.1 r16.2).bind (exc (fun r17 =>
       g_bill_sum_j10 l6_1 l6_2 l6_3 l6_4 l6_5 recl6 r17) fun e18 => some (.error e18)))
      (cond (eqI x7.Kind 3)
       ((g_bb_stretch n (⟨x7, a1c, a2s⟩ : GBB) a2s.From a2s.To).bind (exc (fun r19 =>
        g_bill_sum_j10 l6_1 l6_2 l6_3 l6_4 l6_5 recl6 r19) fun e20 => some (.error e20)))
       (cond (eqI x7.Kind 4)
        ((g_bb_stretch n (⟨x7, a1c, a2s⟩ : GBB) a2s.End a2s.To).bind (exc (fun r21 =>
         g_bill_sum_j10 l6_1 l6_2 l6_3 l6_4 l6_5 recl6 r21) fun e22 => some (.error e22)))
        (g_bill_sum_j10 l6_1 l6_2 l6_3 l6_4 l6_5 recl6 0)))))))
  (g_bill_sum_j1 n l6_1 l6_2 l6_4 l6_5)
def g_bill_sum (n : Nat) (a0t : GTf) (a1c : GCl) (a2s : GSs) : Option (Except Int GBill) :=
 loopN (fun recl6 (l6_1, l6_2, l6_3, l6_4, l6_5) => g_bill_sum_l6 n a0t a1c a2s recl6 l6_1 l6_2 l6_3 l6_4 l6_5) n (0, (-1), 0, OL.nil, 0)
end Go.Proofs
