/-
  A part of the proof of a statement of the seat Ytehocmildcedeaa.
-/
import Derived.Test.YtehocmildcedeaaMat02
namespace Go.Abs
open Go Go.ChangeShapes Go.WideShapes
set_option linter.unusedVariables false
section
variable {H : Type} {enc : TypeId × Value → H} {P : Program} {w : World} {held : Bool} {φ : Nat → Nat} {M : Mset}
def Got (P : Program) (w : World) (φ : Nat → Nat) (M : Mset) (d : Nat) (t : TypeId) (vs : List Value) : Prop :=
 ∃ cs : List PV, Sh P d t cs ∧ RepAs φ emp w M (cs.map .p) vs ∧ (∀ v ∈ vs, v.oneCell' = true)
theorem got_one {d : Nat} {t : TypeId} {c : PV} {v : Value} (h1 : Sh P d t [c]) (h2 : RepP w M c v) (h3 : v.oneCell' = true) : Got P w φ M d t [v] :=
 ⟨[c], h1, by simp only [List.map_cons, List.map_nil, RepAs, RepA]; exact ⟨v, [], rfl, h2, rfl⟩, by simpa using h3⟩
theorem repAs_app {φ : Nat → Nat} {h : Heap} {w : World} {M : Mset} {a b : List AV} {l m : List Value} (h1 : RepAs φ h w M a l) (h2 : RepAs φ h w M b m) : RepAs φ h w M (a ++ b) (l ++ m) := repAs_append h1 h2
theorem add_zero (a : Addr) : a.add 0 = a := rfl
theorem add_some {b off n : Nat} : (⟨b, off, none⟩ : Addr).add n = ⟨b, off + n, none⟩ := by
 unfold Addr.add
 split
 ·rename_i h; subst h; rfl
 ·rfl
theorem cell?_spot {a : Addr} {v : Value} (h : w.cell? a = some v) : a.spot = none := by
 unfold World.cell? at h
 split at h
 ·split at h
  ·cases h
  ·rename_i h2; cases hs : a.spot with
   | none => rfl
   | some s => simp [hs] at h2
 ·cases h
theorem pick_list {Q : Nat → List PV → Prop} : ∀ (n : Nat), (∀ i, i < n → ∃ c, Q i c) → ∃ es : List (List PV), es.length = n ∧ ∀ i c, es[i]? = some c → Q i c
 | 0, _ => ⟨[], rfl, by simp⟩
 | n + 1, h => by
  obtain ⟨es, h1, h2⟩ := pick_list n (fun i hi => h i (by omega))
  obtain ⟨c, hc⟩ := h n (by omega)
  refine ⟨es ++ [c], by simp [h1], fun i c' hi => ?_⟩
  rcases Nat.lt_or_ge i n with hlt | hge
  ·rw [List.getElem?_append_left (by omega)] at hi
   exact h2 i c' hi
  ·have : i < n + 1 := by have := (List.getElem?_eq_some_iff.1 hi).1; simp [h1] at this; omega
   obtain rfl : i = n := by omega
   rw [List.getElem?_append_right (by omega)] at hi
   simp [h1] at hi
   subst hi
   exact hc
theorem repEs_mk {S r : Nat} : ∀ (es : List (List PV)) (o : Nat), (∀ i e, es[i]? = some e → e.length = S ∧ RepCs w M r (o + i * S) e) → RepEs w M S r o es
 | [], o, _ => by simp [RepEs]
 | e :: es, o, h => by
  simp only [RepEs]
  refine ⟨by have := h 0 e (by simp); simpa using this, repEs_mk es (o + S) fun i e' he => ?_⟩
  have := h (i + 1) e' (by simpa using he)
  rwa [show o + (i + 1) * S = o + S + i * S from by rw [Nat.add_mul]; omega] at this
theorem trod_got (hM : ∀ r o, ¬ M r o) : ∀ (d fuel : Nat) (t : TypeId) (vs : List Value) (x : DataW H × List MemPlace), pureT P d t = true → DataW.trod enc P w 0 (fun _ => true) held fuel t vs = some x → Got P w φ M d t vs ∧ vs.length = P.cellsOf t := by
 intro d
 induction d with
 | zero => intro fuel t vs x hp; cases hp
 | succ d ih =>
  intro fuel t vs x hp h
  have hfs : ∀ (fs : List Field) (off total : Nat) (vs : List Value), vs.length = total → tilesOk P total off fs = true → fs.all (fun f => pureT P d f.type) = true →
    (∀ f ∈ fs, ∃ n y, DataW.trod enc P w 0 (fun _ => true) held n f.type ((vs.drop f.offset).take (P.cellsOf f.type)) = some y) → ∃ cs, ShFs (Sh P d) fs cs ∧ RepAs φ emp w M (cs.map .p) (vs.drop off) ∧ (∀ v ∈ vs.drop off, v.oneCell' = true) := by
   intro fs
   induction fs with
   | nil =>
    intro off total vs hl ht _ _
    simp only [tilesOk, beq_iff_eq] at ht
    have : vs.drop off = [] := List.drop_eq_nil_of_le (by omega)
    exact ⟨[], rfl, by rw [this]; simp [RepAs], by rw [this]; simp⟩
   | cons f fs ihf =>
    intro off total vs hl ht ha hm
    simp only [tilesOk, Bool.and_eq_true, beq_iff_eq] at ht
    simp only [List.all_cons, Bool.and_eq_true] at ha
    obtain ⟨n, y, hy⟩ := hm f (by simp)
    rw [ht.1] at hy
    obtain ⟨⟨c1, g1, g2, g3⟩, _⟩ := ih n f.type _ y ha.1 hy
    obtain ⟨c2, k1, k2, k3⟩ := ihf (off + P.cellsOf f.type) total vs hl ht.2 ha.2 (fun f hf => hm f (by simp [hf]))
    have e : vs.drop off = (vs.drop off).take (P.cellsOf f.type) ++ vs.drop (off + P.cellsOf f.type) := by
     rw [← List.drop_drop]; exact (List.take_append_drop _ _).symm
    refine ⟨c1 ++ c2, ⟨c1, c2, rfl, g1, k1⟩, ?_, ?_⟩
    ·rw [e, List.map_append]; exact repAs_app g2 k2
    ·rw [e]; intro v hv
     rcases List.mem_append.1 hv with hv | hv
     ·exact g3 v hv
     ·exact k3 v hv
  have har : ∀ (e : TypeId) (n k : Nat) (vs : List Value), vs.length = (k + n) * P.cellsOf e → pureT P d e = true →
    (∀ i, k ≤ i → i < k + n → ∃ m y, DataW.trod enc P w 0 (fun _ => true) held m e ((vs.drop (i * P.cellsOf e)).take (P.cellsOf e)) = some y) → ∃ cs, ShN (Sh P d e) n cs ∧ RepAs φ emp w M (cs.map .p) (vs.drop (k * P.cellsOf e)) ∧ (∀ v ∈ vs.drop (k * P.cellsOf e), v.oneCell' = true) := by
   intro e n
   induction n with
   | zero =>
    intro k vs hl _ _
    have : vs.drop (k * P.cellsOf e) = [] := List.drop_eq_nil_of_le (by simp at hl; omega)
    exact ⟨[], rfl, by rw [this]; simp [RepAs], by rw [this]; simp⟩
   | succ n ihn =>
    intro k vs hl hpe hm
    obtain ⟨m, y, hy⟩ := hm k (by omega) (by omega)
    obtain ⟨⟨c1, g1, g2, g3⟩, _⟩ := ih m e _ y hpe hy
    obtain ⟨c2, k1, k2, k3⟩ := ihn (k + 1) vs (by rw [hl]; congr 1; omega) hpe (fun i h1 h2 => hm i (by omega) (by omega))
    have e' : vs.drop (k * P.cellsOf e) = (vs.drop (k * P.cellsOf e)).take (P.cellsOf e) ++ vs.drop ((k + 1) * P.cellsOf e) := by
     rw [Nat.add_mul, Nat.one_mul, ← List.drop_drop]; exact (List.take_append_drop _ _).symm
    refine ⟨c1 ++ c2, ⟨c1, c2, rfl, g1, k1⟩, ?_, ?_⟩
    ·rw [e', List.map_append]; exact repAs_app g2 k2
    ·rw [e']; intro v hv
     rcases List.mem_append.1 hv with hv | hv
     ·exact g3 v hv
     ·exact k3 v hv
  unfold pureT at hp
  cases hu : P.underlying t with
  | none => rw [hu] at hp; cases hp
  | some td =>
   rw [hu] at hp
   cases td with
   | bool =>
    obtain ⟨b, rfl, _⟩ := DataW.trod_bool hu h
    simp only [beq_iff_eq] at hp
    exact ⟨got_one (c := .val (.bool b)) (by simp only [Sh, hu]; exact ⟨b, rfl⟩) (by simp [RepP]) rfl, by simp [hp]⟩
   | int k =>
    obtain ⟨n, rfl, _, hw⟩ := DataW.trod_int hu h
    simp only [beq_iff_eq] at hp
    exact ⟨got_one (c := .val (.int k n)) (by simp only [Sh, hu]; exact ⟨n, rfl, hw⟩) (by simp [RepP]) rfl, by simp [hp]⟩
   | string =>
    obtain ⟨b, rfl, _, hw⟩ := DataW.trod_string hu h
    simp only [beq_iff_eq] at hp
    refine ⟨got_one (c := .val (.string b)) ?_ (by simp [RepP]) rfl, by simp [hp]⟩
    simp only [Sh, hu]
    exact ⟨b.data.toList, by simp [mkS], by simpa using hw⟩
   | slice e =>
    simp only [Bool.and_eq_true, beq_iff_eq, Nat.blt_eq] at hp
    rcases DataW.trod_slice hu h with ⟨rfl, _⟩ | ⟨a, len, cap, elems, rest, n, _, rfl, _, _, hlc, hcm, hel, hrest⟩
    ·refine ⟨got_one (c := .sl (P.cellsOf e) []) ?_ (by simp only [RepP]; exact .inr ⟨trivial, none, 0, rfl⟩) rfl, by simp [hp.1.1]⟩
     simp only [Sh, hu]
     exact ⟨[], rfl, by simp, by simp⟩
    ·have hget := hrest.1
     have hone : ∀ i, i < len → ∃ (vs : List Value) (cs : List PV), w.cells? 0 (a.add (i * P.cellsOf e)) (P.cellsOf e) = some vs ∧ Sh P d e cs ∧ RepAs φ emp w M (cs.map .p) vs ∧ (∀ v ∈ vs, v.oneCell' = true) := by
      intro i hi
      have h1 : elems[i]? = some elems[i] := List.getElem?_eq_getElem (by omega)
      have h2 := hget i hi
      rw [h1] at h2
      obtain ⟨vs, h3, h4⟩ := Option.bind_eq_some_iff.1 h2
      obtain ⟨⟨cs, g1, g2, g3⟩, _⟩ := ih _ e vs _ hp.2 h4
      exact ⟨vs, cs, h3, g1, g2, g3⟩
     obtain ⟨es, hes, hq⟩ := pick_list (Q := fun i cs => ∃ vs, w.cells? 0 (a.add (i * P.cellsOf e)) (P.cellsOf e) = some vs ∧ Sh P d e cs ∧ RepAs φ emp w M (cs.map .p) vs ∧ (∀ v ∈ vs, v.oneCell' = true)) len (fun i hi => by
      obtain ⟨vs, cs, h1, h2⟩ := hone i hi
      exact ⟨cs, vs, h1, h2⟩)
     refine ⟨got_one (c := .sl (P.cellsOf e) es) ?_ ?_ rfl, by simp [hp.1.1]⟩
     ·simp only [Sh, hu]
      refine ⟨es, rfl, by omega, fun x hx => ?_⟩
      obtain ⟨i, hi, rfl⟩ := List.getElem_of_mem hx
      obtain ⟨vs, _, h2, _⟩ := hq i es[i] (List.getElem?_eq_getElem hi)
      exact h2
     ·simp only [RepP]
      by_cases h0 : len = 0
      ·subst h0
       exact .inr ⟨List.eq_nil_of_length_eq_zero hes, some a, cap, rfl⟩
      ·have hspot : a.spot = none := by
        obtain ⟨vs, h1, _⟩ := hq 0 es[0] (List.getElem?_eq_getElem (by omega))
        obtain ⟨g1, g2⟩ := cells?_get h1
        have h3 := g2 0 hp.1.2
        simp only [Nat.zero_mul, add_zero] at h3
        rw [List.getElem?_eq_getElem (by omega)] at h3
        exact cell?_spot h3
       obtain ⟨ab, ao, aas⟩ := a
       simp only at hspot
       subst hspot
       refine .inl ⟨ab, ao, cap, by rw [hes], by omega, repEs_mk es ao fun i c hi => ?_⟩
       obtain ⟨vs, h1, h2, h3, h4⟩ := hq i c hi
       obtain ⟨g1, g2⟩ := cells?_get h1
       have hlen := repAs_length h3
       refine ⟨by simp at hlen; omega, ?_⟩
       rw [repCs_iff]
       intro j q hj
       obtain ⟨v, k1, k2⟩ := repAs_getP h3 j q hj
       have hj' : j < P.cellsOf e := by have := (List.getElem?_eq_some_iff.1 k1).1; omega
       have k3 := g2 j hj'
       rw [add_some, add_some, k1] at k3
       exact ⟨v, k3, hM _ _, h4 v (List.mem_of_getElem? k1), k2⟩
   | struct fs =>
    simp only [Bool.and_eq_true] at hp
    obtain ⟨xs, n, _, _, hl, hx, hall⟩ := DataW.trod_struct hu h
    obtain ⟨cs, g1, g2, g3⟩ := hfs fs.toList 0 (P.cellsOf t) vs hl hp.1 hp.2 (by
     intro f hf
     obtain ⟨i, hi, rfl⟩ := List.getElem_of_mem hf
     have h1 : fs[i]? = some fs.toList[i] := by simp
     have h2 := hall i _ h1
     have h3 : i < xs.length := by rw [hx]; simpa using hi
     exact ⟨n, xs[i], by rw [h2]; exact List.getElem?_eq_getElem h3⟩)
    simp only [List.drop_zero] at g2 g3
    exact ⟨⟨cs, by simp only [Sh, hu]; exact g1, g2, g3⟩, hl⟩
   | array n e =>
    simp only [Bool.and_eq_true, beq_iff_eq] at hp
    obtain ⟨xs, m, _, _, hl, hx, hall⟩ := DataW.trod_array hu h
    obtain ⟨cs, g1, g2, g3⟩ := har e n 0 vs (by rw [hl, Nat.zero_add, hp.1]) hp.2 (by
     intro i _ hi
     have hi' : i < n := by omega
     have h3 : i < xs.length := by omega
     exact ⟨m, xs[i], by rw [hall i hi']; exact List.getElem?_eq_getElem h3⟩)
    simp only [Nat.zero_mul, List.drop_zero] at g2 g3
    exact ⟨⟨cs, by simp only [Sh, hu]; exact g1, g2, g3⟩, hl⟩
   | _ => cases hp
end
end Go.Abs
namespace Go.Abs
open Go Go.ChangeShapes Go.WideShapes Go.ChangeAt Go.RowKit
set_option linter.unusedVariables false
def one1 : List PV → AV
 | [c] => .p c
 | cs => ag cs
def avOf (P : Program) (t : TypeId) (cs : List PV) : AV :=
 match P.underlying t with
 | some (.struct _) => ag cs
 | some (.array _ _) => ag cs
 | _ => one1 cs
def ArgsSh (P : Program) (d : Nat) : List TypeId → List AV → Prop
 | [], aas => aas = []
 | t :: ts, aas => ∃ cs r, aas = avOf P t cs :: r ∧ Sh P d t cs ∧ ArgsSh P d ts r
section
variable {H : Type} {enc : TypeId × Value → H} {P : Program} {w : World} {φ : Nat → Nat} {M : Mset}
theorem arg_got (hM : ∀ r o, ¬ M r o) {d base : Nat} {t : TypeId} {v : Value} {x : DataW H} {ps : List MemPlace} (hp : pureT P d t = true) (hv : Value.okWide P w .any base t v)
  (h : DataW.Trod enc P w 0 (fun _ => true) true t v x ps) : ∃ cs, Sh P d t cs ∧ RepA φ emp w M (avOf P t cs) v := by
 obtain ⟨fuel, h⟩ := h
 obtain ⟨⟨cs, h1, h2, h3⟩, hl⟩ := trod_got (φ := φ) hM d fuel t _ _ hp h
 refine ⟨cs, h1, ?_⟩
 cases d with
 | zero => cases hp
 | succ d =>
  unfold Value.okWide at hv
  unfold avOf
  cases hu : P.underlying t with
  | none => simp [pureT, hu] at hp
  | some td =>
   rw [hu] at hv
   have one : (∀ c, v ≠ .agg c) → P.cellsOf t = 1 → RepA φ emp w M (one1 cs) v := by
    intro ha hc
    have e : v.cells = #[v] := by cases v <;> first | rfl | exact absurd rfl (ha _)
    rw [e] at h2
    match cs, h2 with
    | [c], h2 =>
     simp only [List.map_cons, List.map_nil, RepAs] at h2
     obtain ⟨y, ys, e1, e2, e3⟩ := h2
     simp at e1
     obtain ⟨rfl, rfl⟩ := e1
     exact e2
    | [], h2 => simp [RepAs] at h2
    | _ :: _ :: _, h2 =>
     simp only [List.map_cons, RepAs] at h2
     obtain ⟨y, ys, e1, _, z, zs, e2, _⟩ := h2
     subst e2
     simp at e1
   have agg : (∃ c, v = .agg c) → RepA φ emp w M (ag cs) v := by
    rintro ⟨c, rfl⟩
    exact ⟨c.toList, by simp, h2⟩
   cases td with
   | bool =>
    simp only [pureT, hu, beq_iff_eq] at hp
    exact one (fun c hc => by subst hc; simp [Cell.okWide, Cell.ok, hu] at hv) hp
   | int k =>
    simp only [pureT, hu, beq_iff_eq] at hp
    exact one (fun c hc => by subst hc; simp [Cell.okWide, Cell.ok, hu] at hv) hp
   | string =>
    simp only [pureT, hu, beq_iff_eq] at hp
    exact one (fun c hc => by subst hc; simp [Cell.okWide, Cell.ok, hu] at hv) hp
   | slice e =>
    simp only [pureT, hu, Bool.and_eq_true, beq_iff_eq] at hp
    exact one (fun c hc => by subst hc; simp [Cell.okWide, Cell.ok, hu] at hv) hp.1.1
   | struct fs =>
    obtain ⟨c, rfl, _⟩ := hv
    exact agg ⟨c, rfl⟩
   | array n e =>
    obtain ⟨c, rfl, _⟩ := hv
    exact agg ⟨c, rfl⟩
   | _ => simp [pureT, hu] at hp
theorem args_got (hM : ∀ r o, ¬ M r o) {d base : Nat} : ∀ {ts : List TypeId} {vs : List Value} {ds : List (DataW H)} {ps : List MemPlace}, ts.all (pureT P d) = true →
  (∀ (j : Nat) t v, ts[j]? = some t → vs[j]? = some v → Value.okWide P w .any base t v) → DataW.TrodAll enc P w 0 (fun _ => true) true ts vs ds ps → ∃ aas, ArgsSh P d ts aas ∧ RepAs φ emp w M aas vs
 | [], vs, ds, ps, _, _, h => by
  obtain ⟨rfl, _, _⟩ := trodAll_nil h
  exact ⟨[], rfl, rfl⟩
 | t :: ts, vs, ds, ps, hp, hv, h => by
  obtain ⟨v, vs', d', ds', p, q, rfl, rfl, rfl, h1, h2⟩ := trodAll_cons h
  simp only [List.all_cons, Bool.and_eq_true] at hp
  obtain ⟨cs, g1, g2⟩ := arg_got (φ := φ) hM hp.1 (hv 0 t v rfl rfl) h1
  obtain ⟨aas, g3, g4⟩ := args_got hM hp.2 (fun j t v a b => hv (j + 1) t v (by simpa using a) (by simpa using b)) h2
  exact ⟨_, ⟨cs, aas, rfl, g1, g3⟩, v, vs', rfl, g2, g4⟩
structure Over (w w' : World) : Prop where
 os : w'.os = w.os
 output : w'.output = w.output
 same : ∀ r, r < w.heap.size → w'.heap[r]? = w.heap[r]?
theorem over_of_evol {φ φ' : Nat → Nat} {h' : Heap} {w w' : World} (E : Evol φ emp w φ' h' w') : Over w w' :=
 ⟨E.os, E.output, fun r hr => E.same r hr (fun b hb => absurd rfl hb)⟩
theorem Over.kept {w w' : World} (o : Over w w') (may : MemPlace → Prop) : w.keptBut w' may := by
 refine ⟨o.os, o.output, fun i hi => ?_⟩
 rw [o.same i hi]
 cases h : w.heap[i]? with
 | none => rfl
 | some x => cases x <;> simp
theorem Over.at {w w' : World} (o : Over w w') {p : MemPlace} (h : p.block < w.heap.size) : w.sameAt w' p := by
 cases p with
 | cell b off => simp only [World.sameAt, World.cell?]; rw [o.same b h]
 | map b => exact o.same b h
theorem Over.frozen {w w' : World} (o : Over w w') {a : Addr} (h : a.block < w.heap.size) : w'.frozen? a = w.frozen? a := by
 simp only [World.frozen?]; rw [o.same _ h]
theorem trodAll_over {w w' : World} (hl : laidOutB P = true) {sp : Nat → Bool} (hsp : ∀ b, b < w.heap.size → sp b = true) (o : Over w w') : ∀ {ts : List TypeId} {vs : List Value} {ds : List (DataW H)} {ps : List MemPlace}, ts.all (fun t => P.readableRec t && Nat.blt t P.types.size) = true → (∀ p ∈ ps, p.block < w.heap.size) →
  DataW.TrodAll enc P w 0 (fun _ => true) true ts vs ds ps → DataW.TrodAll enc P w' 0 sp true ts vs ds ps
 | [], vs, ds, ps, _, _, h => by
  obtain ⟨rfl, rfl, rfl⟩ := trodAll_nil h
  exact rfl
 | t :: ts, vs, ds, ps, hp, hb, h => by
  obtain ⟨v, vs', d', ds', p, q, rfl, rfl, rfl, h1, h2⟩ := trodAll_cons h
  simp only [List.all_cons, Bool.and_eq_true, Nat.blt_eq] at hp
  refine ⟨p, q, Go.WideElems.Trod_stays hl hp.1.1 hp.1.2 h1 (fun p hp => o.at (hb p (by simp [hp]))) (fun p hp => hsp _ (hb p (by simp [hp]))), trodAll_over hl hsp o (by simpa using hp.2) (fun p hp => hb p (by simp [hp])) h2, rfl⟩
theorem law_contract {f : FuncId} {fn : Func} {s : ChangeSpec} {tb : TypeId} {d : Nat} {apart fresh handsOn again : Bool}
  (hl : laidOutB P = true) (hpure : fn.params.toList.all (pureT P d) = true) (hread : fn.params.toList.all (fun t => P.readableRec t && Nat.blt t P.types.size) = true)
  (hres : fn.resultTypes = #[tb]) (htb : P.underlying tb = some .bool) (hvars : s.vars = [])
  (hspec : ∀ ds : List (DataW H), ds.length = fn.params.size → s.fn H ds = { results := [.lit (.bool true)], args := ds })
  (hcall : ∀ aas, ArgsSh P d fn.params.toList aas → PCall P f aas (.ret (.p (.val (.bool true)))))
  {W : World} {base : Nat} {args : Array Value} {ds gs : List (DataW H)} {before : List MemPlace}
  (hval : ∀ (j : Nat) t v, fn.params[j]? = some t → args[j]? = some v → Value.okWide P W .any base t v)
  (hW : DataW.Whole enc P fn.params.toList s.vars apart W args.toList ds gs before) :
  Calls P f args W fun e W' => ∃ v, e = .returned v ∧ s.post enc P fn apart fresh handsOn again W args v W' := by
 have hW' := hW
 obtain ⟨p, q, hA, hV, rfl, hfz, hnd⟩ := hW
 rw [hvars] at hV
 obtain ⟨rfl, rfl⟩ := trodVars_none hV
 have hlen : ds.length = fn.params.size := by
  have : ∀ {ts : List TypeId} {vs : List Value} {ds : List (DataW H)} {ps : List MemPlace}, DataW.TrodAll enc P W 0 (fun _ => true) true ts vs ds ps → ds.length = ts.length := by
   intro ts
   induction ts with
   | nil => intro vs ds ps h; obtain ⟨_, rfl, _⟩ := trodAll_nil h; rfl
   | cons t ts ih => intro vs ds ps h; obtain ⟨v, vs', d', ds', p, q, rfl, rfl, rfl, h1, h2⟩ := trodAll_cons h; simp [ih h2]
  simpa using this hA
 obtain ⟨aas, g1, g2⟩ := args_got (φ := fun x => x) (M := MM (fun x => x) emp (fun _ _ => False)) (base := base) (fun r o h => h.elim not_mut_emp id) hpure
  (fun j t v a b => hval j t v (by simpa using a) (by simpa using b)) hA
 have hc := hcall aas g1 (fun x => x) (fun _ _ => False) W args.toList (relH_emp (fun _ _ h => h.elim)) g2
 simp only [Array.toArray_toList] at hc
 refine hc.mono ?_
 rintro e w' ⟨φ', r', h', ⟨rfl, rfl⟩, hH', E, hv⟩
 obtain ⟨v, rfl, hv⟩ := hv
 simp only [RepA, RepP] at hv
 subst hv
 have o := over_of_evol E
 have hlt : ∀ x ∈ p, x.block < W.heap.size := fun x hx => hW'.lt x (by simpa using hx)
 refine ⟨_, rfl, ?_⟩
 have hsp : s.fn H (ds ++ []) = { results := [.lit (.bool true)], args := ds } := by rw [List.append_nil]; exact hspec ds hlen
 have hr : ∀ (b : Nat) (sp : Nat → Bool) (hd : Bool), DataW.TrodAll enc P w' b sp hd fn.resultTypes.toList ((Value.bool true).resultList fn.resultTypes.size) [.lit (.bool true)] [] := fun b sp hd => by
  rw [hres]; exact trodAll_cons_mk (shut_bool htb _) trodAll_mk0
 refine ⟨ds, [], p ++ [], [], p, [], hW', by rw [hsp]; exact hr _ _ _, by rw [hsp]; exact trodAll_over hl (fun b hb => by simpa using hb) o hread hlt hA, by rw [hsp, hvars]; rfl, o.kept _, fun _ => ?_⟩
 refine ⟨ok_one hres rfl (okWide_bool_mk htb _), [.lit (.bool true)] ++ ds, [], ([] ++ p) ++ [], ⟨[] ++ p, [], ?_, ?_, rfl, ?_, ?_⟩, ?_⟩
 ·exact trodAll_append (trodAll_over hl (fun b hb => rfl) o hread hlt hA) (hr _ _ _)
 ·rw [hvars]; rfl
 ·intro b off hp
  rw [o.frozen (by exact hlt (.cell b off) (by simpa using hp))]
  exact hfz b off (by simpa using hp)
 ·intro ha; simpa using hnd ha
 ·intro x hx _; simpa using hx
end
def i64b (x : Int) : Prop := -9223372036854775808 ≤ x ∧ x ≤ 9223372036854775807
def strb (l : List UInt8) : Prop := l.length ≤ maxLen
def listb {α : Type} (W : α → Prop) (l : List α) : Prop := l.length ≤ maxLen ∧ ∀ x ∈ l, W x
section
variable {P : Program} {d : Nat} {t : TypeId} {cs : List PV}
theorem sh_i64 (hu : P.underlying t = some (.int .i64)) (h : Sh P (d + 1) t cs) : ∃ n, cs = [.val (.int .i64 n)] ∧ i64b n := by
 simp only [Sh, hu] at h
 obtain ⟨n, rfl, hw⟩ := h
 exact ⟨n, rfl, by simpa [Lit.wf, IntKind.min, IntKind.max, IntKind.signed, IntKind.bits, i64b] using hw⟩
theorem sh_str (hu : P.underlying t = some .string) (h : Sh P (d + 1) t cs) : ∃ s : List UInt8, cs = [.val (.string (mkS s))] ∧ strb s := by
 simp only [Sh, hu] at h
 exact h
theorem sh_struct {fs : Array Field} (hu : P.underlying t = some (.struct fs)) (h : Sh P (d + 1) t cs) : ShFs (Sh P d) fs.toList cs := by
 simpa only [Sh, hu] using h
theorem sh_list {e : TypeId} {S : Nat} {α : Type} {f : α → List PV} {W : α → Prop} (hu : P.underlying t = some (.slice e)) (hS : P.cellsOf e = S) (he : ∀ c, Sh P d e c → ∃ r, c = f r ∧ W r) (h : Sh P (d + 1) t cs) :
  ∃ l : List α, cs = [.sl S (List.map f l)] ∧ listb W l := by
 simp only [Sh, hu] at h
 obtain ⟨es, rfl, hl, hx⟩ := h
 have : ∃ l : List α, es = List.map f l ∧ ∀ x ∈ l, W x := by
  clear hl
  induction es with
  | nil => exact ⟨[], rfl, by simp⟩
  | cons e es ih =>
   obtain ⟨r, rfl, hr⟩ := he e (hx e (by simp))
   obtain ⟨l, rfl, hl⟩ := ih (fun x h => hx x (by simp [h]))
   exact ⟨r :: l, rfl, by simpa using ⟨hr, hl⟩⟩
 obtain ⟨l, rfl, hw⟩ := this
 exact ⟨l, by rw [hS], by simpa using hl, hw⟩
theorem avOf_struct {fs : Array Field} (hu : P.underlying t = some (.struct fs)) : avOf P t cs = ag cs := by simp only [avOf, hu]
theorem avOf_int {k : IntKind} {c : PV} (hu : P.underlying t = some (.int k)) : avOf P t [c] = .p c := by simp only [avOf, hu, one1]
end
end Go.Abs
namespace Go.Proofs
open Go Go.Abs
set_option maxRecDepth 100000
set_option linter.unusedVariables false
abbrev VI (n : Int) : PV := .val (.int .i64 n)
abbrev VU (n : Int) : PV := .val (.int .u64 n)
abbrev V8 (n : Int) : PV := .val (.int .u8 n)
abbrev VB (b : Bool) : PV := .val (.bool b)
abbrev VS (s : List UInt8) : PV := .val (.string (mkS s))
abbrev I (n : Int) : AV := .p (.val (.int .i64 n))
abbrev B8 (n : Int) : AV := .p (.val (.int .u8 n))
abbrev B (b : Bool) : AV := .p (.val (.bool b))
abbrev S (s : List UInt8) : AV := .p (.val (.string (mkS s)))
def ci (n : Int) : List PV := [VI n]
def c8 (n : Int) : List PV := [V8 n]
def cb (n : Bool) : List PV := [VB n]
def cstr (n : List UInt8) : List PV := [VS n]
theorem Try.fm : Try.prog.follows .mixedOrders = true := by kernel_rfl
structure GArticle where
 Kind : Int
 Days : Int
 From : Int
 To : Int
 Price : Int
 Unit : Int
 Free : Int
deriving DecidableEq
def GArticle.cs (x : GArticle) : List PV := [VI x.Kind, VI x.Days, VI x.From, VI x.To, VI x.Price, VI x.Unit, VI x.Free]
structure GTariff where
 Name : List UInt8
 Articles : List GArticle
deriving DecidableEq
def GTariff.cs (x : GTariff) : List PV := [VS x.Name, .sl 7 (List.map GArticle.cs x.Articles)]
structure GChange where
 At : Int
 Offset : Int
deriving DecidableEq
def GChange.cs (x : GChange) : List PV := [VI x.At, VI x.Offset]
structure GCalendar where
 Offset : Int
 Changes : List GChange
 Holidays : List Int
deriving DecidableEq
def GCalendar.cs (x : GCalendar) : List PV := [VI x.Offset, .sl 2 (List.map GChange.cs x.Changes), .sl 1 (List.map ci x.Holidays)]
structure GNode where
 Kind : Int
 Name : List UInt8
 N : Int
 At : Int
 Kids : List (List PV)
def GNode.cs (x : GNode) : List PV := [VI x.Kind, VS x.Name, VI x.N, VI x.At, .sl 5 (List.map idc x.Kids)]
def GNode.of : List PV → Option GNode
 | [.val (.int .i64 v0), .val (.string v1), .val (.int .i64 v2), .val (.int .i64 v3), .sl s4 v4] => if s4 = 5 then some ⟨v0, byt v1, v2, v3, v4⟩ else none
 | _ => none
theorem GNode.of_cs (r : List PV) (x : GNode) (h : GNode.of r = some x) : GNode.cs x = r := by
 unfold GNode.of at h
 split at h
 ·split at h
  ·rename_i hs
   cases h
   simp [GNode.cs, mkS_byt, map_idc, hs]
  ·cases h
 ·cases h
structure GQuoteQuoted where
 Tariff : GTariff
 calendar : GCalendar
 from_ : Int
 to_ : Int
deriving DecidableEq
def GQuoteQuoted.cs (x : GQuoteQuoted) : List PV := [VS x.Tariff.Name, .sl 7 (List.map GArticle.cs x.Tariff.Articles), VI x.calendar.Offset, .sl 2 (List.map GChange.cs x.calendar.Changes), .sl 1 (List.map ci x.calendar.Holidays), VI x.from_, VI x.to_]
structure GSlice where
 Minute : Int
 Energy : Int
deriving DecidableEq
def GSlice.cs (x : GSlice) : List PV := [VI x.Minute, VI x.Energy]
structure GSession where
 From : Int
 To : Int
 End : Int
 Slices : List GSlice
deriving DecidableEq
def GSession.cs (x : GSession) : List PV := [VI x.From, VI x.To, VI x.End, .sl 2 (List.map GSlice.cs x.Slices)]
def g_law35_bench (n : Nat) (a0more : List GArticle) : Option GTariff :=
 cond (roomB (List.length ([(⟨2, 1, 0, 1440, 3000, 0, 0⟩ : GArticle), (⟨2, 4, 0, 1440, 2000, 0, 0⟩ : GArticle), (⟨3, 7, 0, 1440, 10, 15, 30⟩ : GArticle)] ++ a0more)) 56) (
  some (⟨[116], [(⟨2, 1, 0, 1440, 3000, 0, 0⟩ : GArticle), (⟨2, 4, 0, 1440, 2000, 0, 0⟩ : GArticle), (⟨3, 7, 0, 1440, 10, 15, 30⟩ : GArticle)] ++ a0more⟩ : GTariff)) none
theorem g_law35_bench_ok (n : Nat) (a0more : List GArticle) : ∀ r, g_law35_bench n a0more = some r → PCall Try.prog 23 [.p (.sl 7 (List.map GArticle.cs a0more))] (.ret (ag (GTariff.cs r))) := by
 refine pcall_sim (X := fun r : GTariff => AEnd.ret (ag (GTariff.cs r))) Try.func23 rfl Try.ntmps23 rfl ?_
 unfold g_law35_bench
 refine sim_run Try.fm ⟨[0, 2], [2], [], []⟩ ⟨[(0, .p (.sl 7 (List.map GArticle.cs a0more))), (2, .ptr 2 0)], [(2, .box 24 [S [], .p (.val (.slice none 0 0))])]⟩ krf ?_
 refine sim_seq ?_
 refine sim_reg ?_
 refine xs_run 5 krf ?_
 refine xs_if krf krf (aop_appL (e := 44) (S := 7) (by_ := 56) (enc := GArticle.cs) (tk := 6) (l := [(⟨2, 1, 0, 1440, 3000, 0, 0⟩ : GArticle), (⟨2, 4, 0, 1440, 2000, 0, 0⟩ : GArticle), (⟨3, 7, 0, 1440, 10, 15, 30⟩ : GArticle)]) (l2 := a0more) (xv := .p (.sl 7 (List.map GArticle.cs a0more))) rfl krf krf rfl krf krf krf krf) ?_
 refine xs_run 2 krf ?_
 refine xs_end ?_
 refine sq_nk ⟨[2], [2, 6], [], []⟩ ⟨[(2, .ptr 2 0)], [(2, .box 24 [S [116], .tsl 7 (List.map GArticle.cs ([(⟨2, 1, 0, 1440, 3000, 0, 0⟩ : GArticle), (⟨2, 4, 0, 1440, 2000, 0, 0⟩ : GArticle), (⟨3, 7, 0, 1440, 10, 15, 30⟩ : GArticle)] ++ a0more)) 6]), (6, .arr 44 7 (List.map GArticle.cs ([(⟨2, 1, 0, 1440, 3000, 0, 0⟩ : GArticle), (⟨2, 4, 0, 1440, 2000, 0, 0⟩ : GArticle), (⟨3, 7, 0, 1440, 10, 15, 30⟩ : GArticle)] ++ a0more)).length)]⟩ krf ?_
 refine sim_ret ?_
 exact rq_ret (.agg [.id, .sl 7]) krf krf krf
def g_parser_goodWord_l7 (a0text : List UInt8) (recl7 : Int → Option Bool) (l7 : Int) : Option Bool :=
 cond (ltI l7 (lenI a0text))
  ((getI a0text l7).bind fun x8 =>
  (cond (leI 97 (b2i x8))
   (cond (leI (b2i x8) 122)
    (some false)
    (cond (leI 48 (b2i x8))
     (cond (leI (b2i x8) 57)
      (some false)
      (some (!(eqI (b2i x8) 95))))
     (some (!(eqI (b2i x8) 95)))))
   (cond (leI 48 (b2i x8))
    (cond (leI (b2i x8) 57)
     (some false)
     (some (!(eqI (b2i x8) 95))))
    (some (!(eqI (b2i x8) 95))))).bind fun j9 =>
  cond j9
   (some false)
   (recl7 (wi (l7 + 1))))
  (some true)
def g_parser_goodWord (n : Nat) (a0text : List UInt8) : Option Bool :=
 (cond (ltI (lenI a0text) 1)
  (some true)
  (cond (ltI 12 (lenI a0text))
   (some true)
   ((getI a0text 0).bind fun x4 =>
   cond (ltI (b2i x4) 97)
    (some true)
    ((getI a0text 0).bind fun x6 =>
    some (ltI 122 (b2i x6)))))).bind fun j1 =>
 cond j1
  (some false)
  (loopN (fun recl7 l7 => g_parser_goodWord_l7 a0text recl7 l7) n 1)
theorem g_parser_goodWord_ok (n : Nat) (a0text : List UInt8) : ∀ r, g_parser_goodWord n a0text = some r → PCall Try.prog 101 [S a0text] (.ret (B r)) := by
 refine pcall_sim (X := fun r : Bool => AEnd.ret (B r)) Try.func101 rfl Try.ntmps101 rfl ?_
 unfold g_parser_goodWord
 refine sim_run Try.fm ⟨[0], [], [], []⟩ ⟨[(0, S a0text)], []⟩ krf ?_
 refine sim_seq ?_
 refine sim_bind (fun j1 => ⟨[(0, S a0text), (22, B j1)], []⟩ : Bool → St) ?_ ?_
 ·refine sim_reg ?_
  refine xs_run 4 krf ?_
  refine xs_split (ltI (lenI a0text) 1) (fun h2 => ?_) (fun h2 => ?_)
  ·refine xs_no (want_ft krf h2) krf ?_
   refine xs_run 13 krf ?_
   refine xs_end ?_
   exact nq_n true ⟨[0, 22], [], [], []⟩ krf
  ·refine xs_one (want_ff krf h2) krf ?_
   refine xs_run 4 krf ?_
   refine xs_split (ltI 12 (lenI a0text)) (fun h3 => ?_) (fun h3 => ?_)
   ·refine xs_no (want_ft krf h3) krf ?_
    refine xs_run 8 krf ?_
    refine xs_end ?_
    exact nq_n true ⟨[0, 22], [], [], []⟩ krf
   ·refine xs_one (want_ff krf h3) krf ?_
    refine xs_get krf krf (aop_sidx (l := a0text) (k := .i64) (n := 0) rfl krf krf krf) (fun x4 => ?_)
    refine xs_run 3 krf ?_
    refine xs_split (ltI (b2i x4) 97) (fun h5 => ?_) (fun h5 => ?_)
    ·refine xs_no (want_ft krf h5) krf ?_
     refine xs_run 3 krf ?_
     refine xs_end ?_
     exact nq_n true ⟨[0, 22], [], [], []⟩ krf
    ·refine xs_one (want_ff krf h5) krf ?_
     refine xs_get krf krf (aop_sidx (l := a0text) (k := .i64) (n := 0) rfl krf krf krf) (fun x6 => ?_)
     refine xs_run 2 krf ?_
     refine xs_end ?_
     exact nq_n (ltI 122 (b2i x6)) ⟨[0, 22], [], [], []⟩ krf
 ·rintro j1
  refine sim_cond j1 krf ?_ ?_
  ·refine sim_run Try.fm ⟨[2], [], [], []⟩ ⟨[(2, B false)], []⟩ krf ?_
   refine sim_ret ?_
   refine sq_r ?_
   exact rq_ret (.id) krf krf krf
  ·refine sim_skip ?_
   refine sq_nk ⟨[0], [], [], []⟩ ⟨[(0, S a0text)], []⟩ krf ?_
   refine sim_seq ?_
   refine sim_run Try.fm ⟨[0, 3], [], [], []⟩ ⟨[(0, S a0text), (3, I 1)], []⟩ krf ?_
   refine sim_block ?_
   refine sim_loop (fun l7 => ⟨[(0, S a0text), (3, I l7)], []⟩ : Int → St) (weak_shr (K := ⟨[0, 3], [], [], []⟩) krf) ?_
   rintro recl7 l7
   show SimE (g_parser_goodWord_l7 a0text recl7 l7) _ _ _ _ _ _
   unfold g_parser_goodWord_l7
   refine sim_seq ?_
   refine sim_run Try.fm ⟨[0, 3, 26], [], [], []⟩ ⟨[(0, S a0text), (3, I l7), (26, B (ltI l7 (lenI a0text)))], []⟩ krf ?_
   refine sim_cond (ltI l7 (lenI a0text)) krf ?_ ?_
   ·refine sim_skip ?_
    refine sq_nk ⟨[0, 3], [], [], []⟩ ⟨[(0, S a0text), (3, I l7)], []⟩ krf ?_
    refine sim_seq ?_
    refine sim_block ?_
    refine sim_seq ?_
    refine sim_reg ?_
    refine xs_run 2 krf ?_
    refine xs_get krf krf (aop_sidx (l := a0text) (k := .i64) (n := l7) rfl krf krf krf) (fun x8 => ?_)
    refine xs_run 1 krf ?_
    refine xs_end ?_
    refine sq_nk ⟨[0, 3, 4], [], [], []⟩ ⟨[(0, S a0text), (3, I l7), (4, B8 (b2i x8))], []⟩ krf ?_
    refine sim_bind (fun j9 => ⟨[(0, S a0text), (3, I l7), (50, B j9)], []⟩ : Bool → St) ?_ ?_
    ·refine sim_reg ?_
     refine xs_run 3 krf ?_
     refine xs_split (leI 97 (b2i x8)) (fun h10 => ?_) (fun h10 => ?_)
     ·refine xs_one (want_tt krf h10) krf ?_
      refine xs_run 3 krf ?_
      refine xs_split (leI (b2i x8) 122) (fun h11 => ?_) (fun h11 => ?_)
      ·refine xs_no (want_ft krf h11) krf ?_
       refine xs_run 11 krf ?_
       refine xs_end ?_
       exact nq_n false ⟨[0, 3, 50], [], [], []⟩ krf
      ·refine xs_one (want_ff krf h11) krf ?_
       refine xs_run 2 krf ?_
       refine xs_split (leI 48 (b2i x8)) (fun h12 => ?_) (fun h12 => ?_)
       ·refine xs_one (want_tt krf h12) krf ?_
        refine xs_run 4 krf ?_
        refine xs_split (leI (b2i x8) 57) (fun h13 => ?_) (fun h13 => ?_)
        ·refine xs_no (want_ft krf h13) krf ?_
         refine xs_run 3 krf ?_
         refine xs_end ?_
         exact nq_n false ⟨[0, 3, 50], [], [], []⟩ krf
        ·refine xs_one (want_ff krf h13) krf ?_
         refine xs_run 3 krf ?_
         refine xs_end ?_
         exact nq_n (!(eqI (b2i x8) 95)) ⟨[0, 3, 50], [], [], []⟩ krf
       ·refine xs_no (want_tf krf h12) krf ?_
        refine xs_run 8 krf ?_
        refine xs_end ?_
        exact nq_n (!(eqI (b2i x8) 95)) ⟨[0, 3, 50], [], [], []⟩ krf
     ·refine xs_no (want_tf krf h10) krf ?_
      refine xs_run 6 krf ?_
      refine xs_split (leI 48 (b2i x8)) (fun h14 => ?_) (fun h14 => ?_)
      ·refine xs_one (want_tt krf h14) krf ?_
       refine xs_run 4 krf ?_
       refine xs_split (leI (b2i x8) 57) (fun h15 => ?_) (fun h15 => ?_)
       ·refine xs_no (want_ft krf h15) krf ?_
        refine xs_run 3 krf ?_
        refine xs_end ?_
        exact nq_n false ⟨[0, 3, 50], [], [], []⟩ krf
       ·refine xs_one (want_ff krf h15) krf ?_
        refine xs_run 3 krf ?_
        refine xs_end ?_
        exact nq_n (!(eqI (b2i x8) 95)) ⟨[0, 3, 50], [], [], []⟩ krf
      ·refine xs_no (want_tf krf h14) krf ?_
       refine xs_run 8 krf ?_
       refine xs_end ?_
       exact nq_n (!(eqI (b2i x8) 95)) ⟨[0, 3, 50], [], [], []⟩ krf
    ·rintro j9
     refine sim_cond j9 krf ?_ ?_
     ·refine sim_run Try.fm ⟨[2], [], [], []⟩ ⟨[(2, B false)], []⟩ krf ?_
      refine sim_ret ?_
      refine bq_r ?_
      refine sq_r ?_
      refine kq_r ?_
      refine bq_r ?_
      refine sq_r ?_
      exact rq_ret (.id) krf krf krf
     ·refine sim_skip ?_
      refine bq_n ?_
      refine sq_nk ⟨[0, 3], [], [], []⟩ ⟨[(0, S a0text), (3, I l7)], []⟩ krf ?_
      refine sim_last Try.fm krf ?_
      exact kq_n (wi (l7 + 1)) ⟨[0, 3], [], [], []⟩ krf
   ·refine sim_exit ?_
    refine sq_x ?_
    refine kq_x ?_
    refine bq_hit ?_
    refine sq_nk ⟨[], [], [], []⟩ ⟨[], []⟩ krf ?_
    refine sim_run Try.fm ⟨[2], [], [], []⟩ ⟨[(2, B true)], []⟩ krf ?_
    refine sim_ret ?_
    exact rq_ret (.id) krf krf krf
def g_parser_kindOf (n : Nat) (a0word : List UInt8) : Option Int :=
 cond (eqS a0word [102, 101, 101, 100, 101, 114])
  (some 1)
  (cond (eqS a0word [99, 97, 98, 108, 101])
   (some 2)
   (cond (eqS a0word [111, 119, 110, 101, 114])
    (some 3)
    (cond (eqS a0word [99, 111, 110, 116, 114, 97, 99, 116])
     (some 4)
     (cond (eqS a0word [99, 104, 97, 114, 103, 101, 114])
      (some 5)
      (cond (eqS a0word [98, 97, 121])
       (some 6)
       (cond (eqS a0word [116, 97, 114, 105, 102, 102])
        (some 7)
        (some 0)))))))
theorem g_parser_kindOf_ok (n : Nat) (a0word : List UInt8) : ∀ r, g_parser_kindOf n a0word = some r → PCall Try.prog 112 [S a0word] (.ret (I r)) := by
 refine pcall_sim (X := fun r : Int => AEnd.ret (I r)) Try.func112 rfl Try.ntmps112 rfl ?_
 unfold g_parser_kindOf
 refine sim_run Try.fm ⟨[0], [], [], []⟩ ⟨[(0, S a0word)], []⟩ krf ?_
 refine sim_seq ?_
 refine sim_run Try.fm ⟨[3], [], [], []⟩ ⟨[(3, S a0word)], []⟩ krf ?_
 refine sim_block ?_
 refine sim_run Try.fm ⟨[3, 4], [], [], []⟩ ⟨[(3, S a0word), (4, B (eqS a0word [102, 101, 101, 100, 101, 114]))], []⟩ krf ?_
 refine sim_cond (eqS a0word [102, 101, 101, 100, 101, 114]) krf ?_ ?_
 ·refine sim_run Try.fm ⟨[2], [], [], []⟩ ⟨[(2, I 1)], []⟩ krf ?_
  refine sim_ret ?_
  refine bq_r ?_
  refine sq_r ?_
  exact rq_ret (.id) krf krf krf
 ·refine sim_run Try.fm ⟨[3, 6], [], [], []⟩ ⟨[(3, S a0word), (6, B (eqS a0word [99, 97, 98, 108, 101]))], []⟩ krf ?_
  refine sim_cond (eqS a0word [99, 97, 98, 108, 101]) krf ?_ ?_
  ·refine sim_run Try.fm ⟨[2], [], [], []⟩ ⟨[(2, I 2)], []⟩ krf ?_
   refine sim_ret ?_
   refine bq_r ?_
   refine sq_r ?_
   exact rq_ret (.id) krf krf krf
  ·refine sim_run Try.fm ⟨[3, 8], [], [], []⟩ ⟨[(3, S a0word), (8, B (eqS a0word [111, 119, 110, 101, 114]))], []⟩ krf ?_
   refine sim_cond (eqS a0word [111, 119, 110, 101, 114]) krf ?_ ?_
   ·refine sim_run Try.fm ⟨[2], [], [], []⟩ ⟨[(2, I 3)], []⟩ krf ?_
    refine sim_ret ?_
    refine bq_r ?_
    refine sq_r ?_
    exact rq_ret (.id) krf krf krf
   ·refine sim_run Try.fm ⟨[3, 10], [], [], []⟩ ⟨[(3, S a0word), (10, B (eqS a0word [99, 111, 110, 116, 114, 97, 99, 116]))], []⟩ krf ?_
    refine sim_cond (eqS a0word [99, 111, 110, 116, 114, 97, 99, 116]) krf ?_ ?_
    ·refine sim_run Try.fm ⟨[2], [], [], []⟩ ⟨[(2, I 4)], []⟩ krf ?_
     refine sim_ret ?_
     refine bq_r ?_
     refine sq_r ?_
     exact rq_ret (.id) krf krf krf
    ·refine sim_run Try.fm ⟨[3, 12], [], [], []⟩ ⟨[(3, S a0word), (12, B (eqS a0word [99, 104, 97, 114, 103, 101, 114]))], []⟩ krf ?_
     refine sim_cond (eqS a0word [99, 104, 97, 114, 103, 101, 114]) krf ?_ ?_
     ·refine sim_run Try.fm ⟨[2], [], [], []⟩ ⟨[(2, I 5)], []⟩ krf ?_
      refine sim_ret ?_
      refine bq_r ?_
      refine sq_r ?_
      exact rq_ret (.id) krf krf krf
     ·refine sim_run Try.fm ⟨[3, 14], [], [], []⟩ ⟨[(3, S a0word), (14, B (eqS a0word [98, 97, 121]))], []⟩ krf ?_
      refine sim_cond (eqS a0word [98, 97, 121]) krf ?_ ?_
      ·refine sim_run Try.fm ⟨[2], [], [], []⟩ ⟨[(2, I 6)], []⟩ krf ?_
       refine sim_ret ?_
       refine bq_r ?_
       refine sq_r ?_
       exact rq_ret (.id) krf krf krf
      ·refine sim_run Try.fm ⟨[16], [], [], []⟩ ⟨[(16, B (eqS a0word [116, 97, 114, 105, 102, 102]))], []⟩ krf ?_
       refine sim_cond (eqS a0word [116, 97, 114, 105, 102, 102]) krf ?_ ?_
       ·refine sim_run Try.fm ⟨[2], [], [], []⟩ ⟨[(2, I 7)], []⟩ krf ?_
        refine sim_ret ?_
        refine bq_r ?_
        refine sq_r ?_
        exact rq_ret (.id) krf krf krf
       ·refine sim_skip ?_
        refine bq_n ?_
        refine sq_nk ⟨[], [], [], []⟩ ⟨[], []⟩ krf ?_
        refine sim_run Try.fm ⟨[2], [], [], []⟩ ⟨[(2, I 0)], []⟩ krf ?_
        refine sim_ret ?_
        exact rq_ret (.id) krf krf krf
def g_parser_isAttr (n : Nat) (a0word : List UInt8) : Option Bool :=
 (cond (eqS a0word [108, 105, 109, 105, 116])
  (some (eqS a0word [108, 105, 109, 105, 116]))
  (cond (eqS a0word [110, 101, 117, 116, 114, 97, 108])
   (some (eqS a0word [110, 101, 117, 116, 114, 97, 108]))
   (cond (eqS a0word [102, 117, 115, 101])
    (some (eqS a0word [102, 117, 115, 101]))
    (cond (eqS a0word [116, 104, 101, 114, 109, 97, 108])
     (some (eqS a0word [116, 104, 101, 114, 109, 97, 108]))
     (cond (eqS a0word [102, 114, 111, 109])
      (some (eqS a0word [102, 114, 111, 109]))
      (cond (eqS a0word [97, 116])
       (some (eqS a0word [97, 116]))
       (cond (eqS a0word [112, 104, 97, 115, 101, 115])
        (some (eqS a0word [112, 104, 97, 115, 101, 115]))
        (cond (eqS a0word [97, 109, 112, 115])
         (some (eqS a0word [97, 109, 112, 115]))
         (cond (eqS a0word [102, 97, 108, 108, 98, 97, 99, 107])
          (some (eqS a0word [102, 97, 108, 108, 98, 97, 99, 107]))
          (cond (eqS a0word [111, 119, 110, 101, 114])
           (some (eqS a0word [111, 119, 110, 101, 114]))
           (cond (eqS a0word [99, 97, 114, 100])
            (some (eqS a0word [99, 97, 114, 100]))
            (cond (eqS a0word [114, 97, 110, 107])
             (some (eqS a0word [114, 97, 110, 107]))
             (some (eqS a0word [99, 104, 97, 114, 103, 101, 114])))))))))))))).bind fun j1 =>
 cond j1
  (some true)
  (some false)
theorem g_parser_isAttr_ok (n : Nat) (a0word : List UInt8) : ∀ r, g_parser_isAttr n a0word = some r → PCall Try.prog 103 [S a0word] (.ret (B r)) := by
 refine pcall_sim (X := fun r : Bool => AEnd.ret (B r)) Try.func103 rfl Try.ntmps103 rfl ?_
 unfold g_parser_isAttr
 refine sim_run Try.fm ⟨[0], [], [], []⟩ ⟨[(0, S a0word)], []⟩ krf ?_
 refine sim_seq ?_
 refine sim_run Try.fm ⟨[3], [], [], []⟩ ⟨[(3, S a0word)], []⟩ krf ?_
 refine sim_block ?_
 refine sim_bind (fun j1 => ⟨[(4, B j1)], []⟩ : Bool → St) ?_ ?_
 ·refine sim_run Try.fm ⟨[3, 4], [], [], []⟩ ⟨[(3, S a0word), (4, B (eqS a0word [108, 105, 109, 105, 116]))], []⟩ krf ?_
  refine sim_cond (eqS a0word [108, 105, 109, 105, 116]) krf ?_ ?_
  ·refine sim_skip ?_
   exact nq_n (eqS a0word [108, 105, 109, 105, 116]) ⟨[4], [], [], []⟩ krf
  ·refine sim_run Try.fm ⟨[3, 4], [], [], []⟩ ⟨[(3, S a0word), (4, B (eqS a0word [110, 101, 117, 116, 114, 97, 108]))], []⟩ krf ?_
   refine sim_cond (eqS a0word [110, 101, 117, 116, 114, 97, 108]) krf ?_ ?_
   ·refine sim_skip ?_
    exact nq_n (eqS a0word [110, 101, 117, 116, 114, 97, 108]) ⟨[4], [], [], []⟩ krf
   ·refine sim_run Try.fm ⟨[3, 4], [], [], []⟩ ⟨[(3, S a0word), (4, B (eqS a0word [102, 117, 115, 101]))], []⟩ krf ?_
    refine sim_cond (eqS a0word [102, 117, 115, 101]) krf ?_ ?_
    ·refine sim_skip ?_
     exact nq_n (eqS a0word [102, 117, 115, 101]) ⟨[4], [], [], []⟩ krf
    ·refine sim_run Try.fm ⟨[3, 4], [], [], []⟩ ⟨[(3, S a0word), (4, B (eqS a0word [116, 104, 101, 114, 109, 97, 108]))], []⟩ krf ?_
     refine sim_cond (eqS a0word [116, 104, 101, 114, 109, 97, 108]) krf ?_ ?_
     ·refine sim_skip ?_
      exact nq_n (eqS a0word [116, 104, 101, 114, 109, 97, 108]) ⟨[4], [], [], []⟩ krf
     ·refine sim_run Try.fm ⟨[3, 4], [], [], []⟩ ⟨[(3, S a0word), (4, B (eqS a0word [102, 114, 111, 109]))], []⟩ krf ?_
      refine sim_cond (eqS a0word [102, 114, 111, 109]) krf ?_ ?_
      ·refine sim_skip ?_
       exact nq_n (eqS a0word [102, 114, 111, 109]) ⟨[4], [], [], []⟩ krf
      ·refine sim_run Try.fm ⟨[3, 4], [], [], []⟩ ⟨[(3, S a0word), (4, B (eqS a0word [97, 116]))], []⟩ krf ?_
       refine sim_cond (eqS a0word [97, 116]) krf ?_ ?_
       ·refine sim_skip ?_
        exact nq_n (eqS a0word [97, 116]) ⟨[4], [], [], []⟩ krf
       ·refine sim_run Try.fm ⟨[3, 4], [], [], []⟩ ⟨[(3, S a0word), (4, B (eqS a0word [112, 104, 97, 115, 101, 115]))], []⟩ krf ?_
        refine sim_cond (eqS a0word [112, 104, 97, 115, 101, 115]) krf ?_ ?_
        ·refine sim_skip ?_
         exact nq_n (eqS a0word [112, 104, 97, 115, 101, 115]) ⟨[4], [], [], []⟩ krf
        ·refine sim_run Try.fm ⟨[3, 4], [], [], []⟩ ⟨[(3, S a0word), (4, B (eqS a0word [97, 109, 112, 115]))], []⟩ krf ?_
         refine sim_cond (eqS a0word [97, 109, 112, 115]) krf ?_ ?_
         ·refine sim_skip ?_
          exact nq_n (eqS a0word [97, 109, 112, 115]) ⟨[4], [], [], []⟩ krf
         ·refine sim_run Try.fm ⟨[3, 4], [], [], []⟩ ⟨[(3, S a0word), (4, B (eqS a0word [102, 97, 108, 108, 98, 97, 99, 107]))], []⟩ krf ?_
          refine sim_cond (eqS a0word [102, 97, 108, 108, 98, 97, 99, 107]) krf ?_ ?_
          ·refine sim_skip ?_
           exact nq_n (eqS a0word [102, 97, 108, 108, 98, 97, 99, 107]) ⟨[4], [], [], []⟩ krf
          ·refine sim_run Try.fm ⟨[3, 4], [], [], []⟩ ⟨[(3, S a0word), (4, B (eqS a0word [111, 119, 110, 101, 114]))], []⟩ krf ?_
           refine sim_cond (eqS a0word [111, 119, 110, 101, 114]) krf ?_ ?_
           ·refine sim_skip ?_
            exact nq_n (eqS a0word [111, 119, 110, 101, 114]) ⟨[4], [], [], []⟩ krf
           ·refine sim_run Try.fm ⟨[3, 4], [], [], []⟩ ⟨[(3, S a0word), (4, B (eqS a0word [99, 97, 114, 100]))], []⟩ krf ?_
            refine sim_cond (eqS a0word [99, 97, 114, 100]) krf ?_ ?_
            ·refine sim_skip ?_
             exact nq_n (eqS a0word [99, 97, 114, 100]) ⟨[4], [], [], []⟩ krf
            ·refine sim_run Try.fm ⟨[3, 4], [], [], []⟩ ⟨[(3, S a0word), (4, B (eqS a0word [114, 97, 110, 107]))], []⟩ krf ?_
             refine sim_cond (eqS a0word [114, 97, 110, 107]) krf ?_ ?_
             ·refine sim_skip ?_
              exact nq_n (eqS a0word [114, 97, 110, 107]) ⟨[4], [], [], []⟩ krf
             ·refine sim_last Try.fm krf ?_
              exact nq_n (eqS a0word [99, 104, 97, 114, 103, 101, 114]) ⟨[4], [], [], []⟩ krf
 ·rintro j1
  refine sim_cond j1 krf ?_ ?_
  ·refine sim_run Try.fm ⟨[2], [], [], []⟩ ⟨[(2, B true)], []⟩ krf ?_
   refine sim_ret ?_
   refine bq_r ?_
   refine sq_r ?_
   exact rq_ret (.id) krf krf krf
  ·refine sim_skip ?_
   refine bq_n ?_
   refine sq_nk ⟨[], [], [], []⟩ ⟨[], []⟩ krf ?_
   refine sim_run Try.fm ⟨[2], [], [], []⟩ ⟨[(2, B false)], []⟩ krf ?_
   refine sim_ret ?_
   exact rq_ret (.id) krf krf krf
def g_parser_isArticle (n : Nat) (a0word : List UInt8) : Option Bool :=
 (cond (eqS a0word [115, 116, 97, 114, 116])
  (some (eqS a0word [115, 116, 97, 114, 116]))
  (cond (eqS a0word [101, 110, 101, 114, 103, 121])
   (some (eqS a0word [101, 110, 101, 114, 103, 121]))
   (cond (eqS a0word [116, 105, 109, 101])
    (some (eqS a0word [116, 105, 109, 101]))
    (cond (eqS a0word [105, 100, 108, 101])
     (some (eqS a0word [105, 100, 108, 101]))
     (cond (eqS a0word [99, 97, 112])
      (some (eqS a0word [99, 97, 112]))
      (some (eqS a0word [116, 97, 120]))))))).bind fun j1 =>
 cond j1
  (some true)
  (some false)
theorem g_parser_isArticle_ok (n : Nat) (a0word : List UInt8) : ∀ r, g_parser_isArticle n a0word = some r → PCall Try.prog 104 [S a0word] (.ret (B r)) := by
 refine pcall_sim (X := fun r : Bool => AEnd.ret (B r)) Try.func104 rfl Try.ntmps104 rfl ?_
 unfold g_parser_isArticle
 refine sim_run Try.fm ⟨[0], [], [], []⟩ ⟨[(0, S a0word)], []⟩ krf ?_
 refine sim_seq ?_
 refine sim_run Try.fm ⟨[3], [], [], []⟩ ⟨[(3, S a0word)], []⟩ krf ?_
 refine sim_block ?_
 refine sim_bind (fun j1 => ⟨[(4, B j1)], []⟩ : Bool → St) ?_ ?_
 ·refine sim_run Try.fm ⟨[3, 4], [], [], []⟩ ⟨[(3, S a0word), (4, B (eqS a0word [115, 116, 97, 114, 116]))], []⟩ krf ?_
  refine sim_cond (eqS a0word [115, 116, 97, 114, 116]) krf ?_ ?_
  ·refine sim_skip ?_
   exact nq_n (eqS a0word [115, 116, 97, 114, 116]) ⟨[4], [], [], []⟩ krf
  ·refine sim_run Try.fm ⟨[3, 4], [], [], []⟩ ⟨[(3, S a0word), (4, B (eqS a0word [101, 110, 101, 114, 103, 121]))], []⟩ krf ?_
   refine sim_cond (eqS a0word [101, 110, 101, 114, 103, 121]) krf ?_ ?_
   ·refine sim_skip ?_
    exact nq_n (eqS a0word [101, 110, 101, 114, 103, 121]) ⟨[4], [], [], []⟩ krf
   ·refine sim_run Try.fm ⟨[3, 4], [], [], []⟩ ⟨[(3, S a0word), (4, B (eqS a0word [116, 105, 109, 101]))], []⟩ krf ?_
    refine sim_cond (eqS a0word [116, 105, 109, 101]) krf ?_ ?_
    ·refine sim_skip ?_
     exact nq_n (eqS a0word [116, 105, 109, 101]) ⟨[4], [], [], []⟩ krf
    ·refine sim_run Try.fm ⟨[3, 4], [], [], []⟩ ⟨[(3, S a0word), (4, B (eqS a0word [105, 100, 108, 101]))], []⟩ krf ?_
     refine sim_cond (eqS a0word [105, 100, 108, 101]) krf ?_ ?_
     ·refine sim_skip ?_
      exact nq_n (eqS a0word [105, 100, 108, 101]) ⟨[4], [], [], []⟩ krf
     ·refine sim_run Try.fm ⟨[3, 4], [], [], []⟩ ⟨[(3, S a0word), (4, B (eqS a0word [99, 97, 112]))], []⟩ krf ?_
      refine sim_cond (eqS a0word [99, 97, 112]) krf ?_ ?_
      ·refine sim_skip ?_
       exact nq_n (eqS a0word [99, 97, 112]) ⟨[4], [], [], []⟩ krf
      ·refine sim_last Try.fm krf ?_
       exact nq_n (eqS a0word [116, 97, 120]) ⟨[4], [], [], []⟩ krf
 ·rintro j1
  refine sim_cond j1 krf ?_ ?_
  ·refine sim_run Try.fm ⟨[2], [], [], []⟩ ⟨[(2, B true)], []⟩ krf ?_
   refine sim_ret ?_
   refine bq_r ?_
   refine sq_r ?_
   exact rq_ret (.id) krf krf krf
  ·refine sim_skip ?_
   refine bq_n ?_
   refine sq_nk ⟨[], [], [], []⟩ ⟨[], []⟩ krf ?_
   refine sim_run Try.fm ⟨[2], [], [], []⟩ ⟨[(2, B false)], []⟩ krf ?_
   refine sim_ret ?_
   exact rq_ret (.id) krf krf krf
def g_parser_isWord (n : Nat) (a0word : List UInt8) : Option Bool :=
 (cond (eqS a0word [111, 110])
  (some (eqS a0word [111, 110]))
  (cond (eqS a0word [119, 111, 114, 107])
   (some (eqS a0word [119, 111, 114, 107]))
   (cond (eqS a0word [115, 97, 116, 117, 114, 100, 97, 121])
    (some (eqS a0word [115, 97, 116, 117, 114, 100, 97, 121]))
    (cond (eqS a0word [115, 117, 110, 100, 97, 121])
     (some (eqS a0word [115, 117, 110, 100, 97, 121]))
     (cond (eqS a0word [98, 101, 116, 119, 101, 101, 110])
      (some (eqS a0word [98, 101, 116, 119, 101, 101, 110]))
      (cond (eqS a0word [112, 101, 114])
       (some (eqS a0word [112, 101, 114]))
       (some (eqS a0word [102, 114, 101, 101])))))))).bind fun j1 =>
 cond j1
  (some true)
  (some false)
theorem g_parser_isWord_ok (n : Nat) (a0word : List UInt8) : ∀ r, g_parser_isWord n a0word = some r → PCall Try.prog 113 [S a0word] (.ret (B r)) := by
 refine pcall_sim (X := fun r : Bool => AEnd.ret (B r)) Try.func113 rfl Try.ntmps113 rfl ?_
 unfold g_parser_isWord
 refine sim_run Try.fm ⟨[0], [], [], []⟩ ⟨[(0, S a0word)], []⟩ krf ?_
 refine sim_seq ?_
 refine sim_run Try.fm ⟨[3], [], [], []⟩ ⟨[(3, S a0word)], []⟩ krf ?_
 refine sim_block ?_
 refine sim_bind (fun j1 => ⟨[(4, B j1)], []⟩ : Bool → St) ?_ ?_
 ·refine sim_run Try.fm ⟨[3, 4], [], [], []⟩ ⟨[(3, S a0word), (4, B (eqS a0word [111, 110]))], []⟩ krf ?_
  refine sim_cond (eqS a0word [111, 110]) krf ?_ ?_
  ·refine sim_skip ?_
   exact nq_n (eqS a0word [111, 110]) ⟨[4], [], [], []⟩ krf
  ·refine sim_run Try.fm ⟨[3, 4], [], [], []⟩ ⟨[(3, S a0word), (4, B (eqS a0word [119, 111, 114, 107]))], []⟩ krf ?_
   refine sim_cond (eqS a0word [119, 111, 114, 107]) krf ?_ ?_
   ·refine sim_skip ?_
    exact nq_n (eqS a0word [119, 111, 114, 107]) ⟨[4], [], [], []⟩ krf
   ·refine sim_run Try.fm ⟨[3, 4], [], [], []⟩ ⟨[(3, S a0word), (4, B (eqS a0word [115, 97, 116, 117, 114, 100, 97, 121]))], []⟩ krf ?_
    refine sim_cond (eqS a0word [115, 97, 116, 117, 114, 100, 97, 121]) krf ?_ ?_
    ·refine sim_skip ?_
     exact nq_n (eqS a0word [115, 97, 116, 117, 114, 100, 97, 121]) ⟨[4], [], [], []⟩ krf
    ·refine sim_run Try.fm ⟨[3, 4], [], [], []⟩ ⟨[(3, S a0word), (4, B (eqS a0word [115, 117, 110, 100, 97, 121]))], []⟩ krf ?_
     refine sim_cond (eqS a0word [115, 117, 110, 100, 97, 121]) krf ?_ ?_
     ·refine sim_skip ?_
      exact nq_n (eqS a0word [115, 117, 110, 100, 97, 121]) ⟨[4], [], [], []⟩ krf
     ·refine sim_run Try.fm ⟨[3, 4], [], [], []⟩ ⟨[(3, S a0word), (4, B (eqS a0word [98, 101, 116, 119, 101, 101, 110]))], []⟩ krf ?_
      refine sim_cond (eqS a0word [98, 101, 116, 119, 101, 101, 110]) krf ?_ ?_
      ·refine sim_skip ?_
       exact nq_n (eqS a0word [98, 101, 116, 119, 101, 101, 110]) ⟨[4], [], [], []⟩ krf
      ·refine sim_run Try.fm ⟨[3, 4], [], [], []⟩ ⟨[(3, S a0word), (4, B (eqS a0word [112, 101, 114]))], []⟩ krf ?_
       refine sim_cond (eqS a0word [112, 101, 114]) krf ?_ ?_
       ·refine sim_skip ?_
        exact nq_n (eqS a0word [112, 101, 114]) ⟨[4], [], [], []⟩ krf
       ·refine sim_last Try.fm krf ?_
        exact nq_n (eqS a0word [102, 114, 101, 101]) ⟨[4], [], [], []⟩ krf
 ·rintro j1
  refine sim_cond j1 krf ?_ ?_
  ·refine sim_run Try.fm ⟨[2], [], [], []⟩ ⟨[(2, B true)], []⟩ krf ?_
   refine sim_ret ?_
   refine bq_r ?_
   refine sq_r ?_
   exact rq_ret (.id) krf krf krf
  ·refine sim_skip ?_
   refine bq_n ?_
   refine sq_nk ⟨[], [], [], []⟩ ⟨[], []⟩ krf ?_
   refine sim_run Try.fm ⟨[2], [], [], []⟩ ⟨[(2, B false)], []⟩ krf ?_
   refine sim_ret ?_
   exact rq_ret (.id) krf krf krf
def g_parser_isKey (n : Nat) (a0word : List UInt8) : Option Bool :=
 (g_parser_kindOf n a0word).bind fun r1 =>
 cond (!eqI r1 0)
  (some true)
  ((g_parser_isAttr n a0word).bind fun r3 =>
  cond r3
   (some true)
   ((g_parser_isArticle n a0word).bind fun r5 =>
   cond r5
    (some true)
    ((g_parser_isWord n a0word).bind fun r7 =>
    some r7)))
theorem g_parser_isKey_ok (n : Nat) (a0word : List UInt8) : ∀ r, g_parser_isKey n a0word = some r → PCall Try.prog 102 [S a0word] (.ret (B r)) := by
 refine pcall_sim (X := fun r : Bool => AEnd.ret (B r)) Try.func102 rfl Try.ntmps102 rfl ?_
 unfold g_parser_isKey
 refine sim_run Try.fm ⟨[0], [], [], []⟩ ⟨[(0, S a0word)], []⟩ krf ?_
 refine sim_seq ?_
 refine sim_reg ?_
 refine xs_run 1 krf ?_
 refine xs_call [] krf (g_parser_kindOf_ok n a0word) krf krf (fun _ => by kernel_rfl) (fun r1 => ?_)
 refine xs_run 2 krf ?_
 refine xs_split (!eqI r1 0) (fun h2 => ?_) (fun h2 => ?_)
 ·refine xs_no (want_ft krf h2) krf ?_
  refine xs_run 11 krf ?_
  refine xs_end ?_
  refine sq_nk ⟨[2], [], [], []⟩ ⟨[(2, B true)], []⟩ krf ?_
  refine sim_ret ?_
  exact rq_ret (.id) krf krf krf
 ·refine xs_one (want_ff krf h2) krf ?_
  refine xs_call [] krf (g_parser_isAttr_ok n a0word) krf krf (fun _ => by kernel_rfl) (fun r3 => ?_)
  refine xs_run 2 krf ?_
  refine xs_split r3 (fun h4 => ?_) (fun h4 => ?_)
  ·refine xs_no (want_ft krf h4) krf ?_
   refine xs_run 7 krf ?_
   refine xs_end ?_
   refine sq_nk ⟨[2], [], [], []⟩ ⟨[(2, B true)], []⟩ krf ?_
   refine sim_ret ?_
   exact rq_ret (.id) krf krf krf
  ·refine xs_one (want_ff krf h4) krf ?_
   refine xs_call [] krf (g_parser_isArticle_ok n a0word) krf krf (fun _ => by kernel_rfl) (fun r5 => ?_)
   refine xs_run 2 krf ?_
   refine xs_split r5 (fun h6 => ?_) (fun h6 => ?_)
   ·refine xs_no (want_ft krf h6) krf ?_
    refine xs_run 3 krf ?_
    refine xs_end ?_
    refine sq_nk ⟨[2], [], [], []⟩ ⟨[(2, B true)], []⟩ krf ?_
    refine sim_ret ?_
    exact rq_ret (.id) krf krf krf
   ·refine xs_one (want_ff krf h6) krf ?_
    refine xs_call [] krf (g_parser_isWord_ok n a0word) krf krf (fun _ => by kernel_rfl) (fun r7 => ?_)
    refine xs_run 2 krf ?_
    refine xs_end ?_
    refine sq_nk ⟨[2], [], [], []⟩ ⟨[(2, B r7)], []⟩ krf ?_
    refine sim_ret ?_
    exact rq_ret (.id) krf krf krf
def g_parser_goodName (n : Nat) (a0text : List UInt8) : Option Bool :=
 (g_parser_goodWord n a0text).bind fun r1 =>
 cond r1
  ((g_parser_isKey n a0text).bind fun r3 =>
  some (!r3))
  (some false)
theorem g_parser_goodName_ok (n : Nat) (a0text : List UInt8) : ∀ r, g_parser_goodName n a0text = some r → PCall Try.prog 92 [S a0text] (.ret (B r)) := by
 refine pcall_sim (X := fun r : Bool => AEnd.ret (B r)) Try.func92 rfl Try.ntmps92 rfl ?_
 unfold g_parser_goodName
 refine sim_run Try.fm ⟨[0], [], [], []⟩ ⟨[(0, S a0text)], []⟩ krf ?_
 refine sim_seq ?_
 refine sim_reg ?_
 refine xs_run 1 krf ?_
 refine xs_call [] krf (g_parser_goodWord_ok n a0text) krf krf (fun _ => by kernel_rfl) (fun r1 => ?_)
 refine xs_run 1 krf ?_
 refine xs_split r1 (fun h2 => ?_) (fun h2 => ?_)
 ·refine xs_one (want_tt krf h2) krf ?_
  refine xs_call [] krf (g_parser_isKey_ok n a0text) krf krf (fun _ => by kernel_rfl) (fun r3 => ?_)
  refine xs_run 3 krf ?_
  refine xs_end ?_
  refine sq_nk ⟨[2], [], [], []⟩ ⟨[(2, B (!r3))], []⟩ krf ?_
  refine sim_ret ?_
  exact rq_ret (.id) krf krf krf
 ·refine xs_no (want_tf krf h2) krf ?_
  refine xs_run 4 krf ?_
  refine xs_end ?_
  refine sq_nk ⟨[2], [], [], []⟩ ⟨[(2, B false)], []⟩ krf ?_
  refine sim_ret ?_
  exact rq_ret (.id) krf krf krf
def g_parser_validValue (n : Nat) (a0n : GNode) (a1words : Bool) : Option Bool :=
 cond (!eqI (lenI (List.map idc a0n.Kids)) 0)
  (some false)
  (cond (eqI a0n.Kind 5)
   (cond (eqI a0n.N 0)
    ((g_parser_goodName n a0n.Name).bind fun r2 =>
    cond r2
     (some true)
     (cond a1words
      ((g_parser_isWord n a0n.Name).bind fun r5 =>
      some r5)
      (some false)))
    (some false))
   (cond (eqI a0n.Kind 6)
    (cond (eqS a0n.Name [])
     (cond (leI 0 a0n.N)
      (some (leI a0n.N 1000000))
      (some false))
     (some false))
    (some false)))
theorem g_parser_validValue_ok (n : Nat) (a0n : GNode) (a1words : Bool) : ∀ r, g_parser_validValue n a0n a1words = some r → PCall Try.prog 105 [ag (GNode.cs a0n), B a1words] (.ret (B r)) := by
 refine pcall_sim (X := fun r : Bool => AEnd.ret (B r)) Try.func105 rfl Try.ntmps105 rfl ?_
 unfold g_parser_validValue
 refine sim_run Try.fm ⟨[1, 2], [2], [], []⟩ ⟨[(1, B a1words), (2, .ptr 2 0)], [(2, .box 74 (bxc (GNode.cs a0n)))]⟩ krf ?_
 refine sim_seq ?_
 refine sim_run Try.fm ⟨[1, 2, 8], [2], [], []⟩ ⟨[(1, B a1words), (2, .ptr 2 0), (8, B (!eqI (lenI (List.map idc a0n.Kids)) 0))], [(2, .box 74 (bxc (GNode.cs a0n)))]⟩ krf ?_
 refine sim_cond (!eqI (lenI (List.map idc a0n.Kids)) 0) krf ?_ ?_
 ·refine sim_run Try.fm ⟨[4], [], [], []⟩ ⟨[(4, B false)], []⟩ krf ?_
  refine sim_ret ?_
  refine sq_r ?_
  exact rq_ret (.id) krf krf krf
 ·refine sim_skip ?_
  refine sq_nk ⟨[1, 2], [2], [], []⟩ ⟨[(1, B a1words), (2, .ptr 2 0)], [(2, .box 74 (bxc (GNode.cs a0n)))]⟩ krf ?_
  refine sim_seq ?_
  refine sim_run Try.fm ⟨[1, 2, 10], [2], [], []⟩ ⟨[(1, B a1words), (2, .ptr 2 0), (10, I a0n.Kind)], [(2, .box 74 (bxc (GNode.cs a0n)))]⟩ krf ?_
  refine sim_block ?_
  refine sim_run Try.fm ⟨[1, 2, 10, 11], [2], [], []⟩ ⟨[(1, B a1words), (2, .ptr 2 0), (10, I a0n.Kind), (11, B (eqI a0n.Kind 5))], [(2, .box 74 (bxc (GNode.cs a0n)))]⟩ krf ?_
  refine sim_cond (eqI a0n.Kind 5) krf ?_ ?_
  ·refine sim_seq ?_
   refine sim_reg ?_
   refine xs_run 4 krf ?_
   refine xs_split (eqI a0n.N 0) (fun h1 => ?_) (fun h1 => ?_)
   ·refine xs_one (want_tt krf h1) krf ?_
    refine xs_run 1 krf ?_
    refine xs_call [] krf (g_parser_goodName_ok n a0n.Name) krf krf (fun _ => by kernel_rfl) (fun r2 => ?_)
    refine xs_run 1 krf ?_
    refine xs_split r2 (fun h3 => ?_) (fun h3 => ?_)
    ·refine xs_no (want_ft krf h3) krf ?_
     refine xs_run 8 krf ?_
     refine xs_end ?_
     refine sq_nk ⟨[4], [], [], []⟩ ⟨[(4, B true)], []⟩ krf ?_
     refine sim_ret ?_
     refine bq_r ?_
     refine sq_r ?_
     exact rq_ret (.id) krf krf krf
    ·refine xs_one (want_ff krf h3) krf ?_
     refine xs_run 1 krf ?_
     refine xs_split a1words (fun h4 => ?_) (fun h4 => ?_)
     ·refine xs_one (want_tt krf h4) krf ?_
      refine xs_run 1 krf ?_
      refine xs_call [] krf (g_parser_isWord_ok n a0n.Name) krf krf (fun _ => by kernel_rfl) (fun r5 => ?_)
      refine xs_run 4 krf ?_
      refine xs_end ?_
      refine sq_nk ⟨[4], [], [], []⟩ ⟨[(4, B r5)], []⟩ krf ?_
      refine sim_ret ?_
      refine bq_r ?_
      refine sq_r ?_
      exact rq_ret (.id) krf krf krf
     ·refine xs_no (want_tf krf h4) krf ?_
      refine xs_run 6 krf ?_
      refine xs_end ?_
      refine sq_nk ⟨[4], [], [], []⟩ ⟨[(4, B false)], []⟩ krf ?_
      refine sim_ret ?_
      refine bq_r ?_
      refine sq_r ?_
      exact rq_ret (.id) krf krf krf
   ·refine xs_no (want_tf krf h1) krf ?_
    refine xs_run 12 krf ?_
    refine xs_end ?_
    refine sq_nk ⟨[4], [], [], []⟩ ⟨[(4, B false)], []⟩ krf ?_
    refine sim_ret ?_
    refine bq_r ?_
    refine sq_r ?_
    exact rq_ret (.id) krf krf krf
  ·refine sim_run Try.fm ⟨[2, 29], [2], [], []⟩ ⟨[(2, .ptr 2 0), (29, B (eqI a0n.Kind 6))], [(2, .box 74 (bxc (GNode.cs a0n)))]⟩ krf ?_
   refine sim_cond (eqI a0n.Kind 6) krf ?_ ?_
   ·refine sim_seq ?_
    refine sim_reg ?_
    refine xs_run 4 krf ?_
    refine xs_split (eqS a0n.Name []) (fun h6 => ?_) (fun h6 => ?_)
    ·refine xs_one (want_tt krf h6) krf ?_
     refine xs_run 4 krf ?_
     refine xs_split (leI 0 a0n.N) (fun h7 => ?_) (fun h7 => ?_)
     ·refine xs_one (want_tt krf h7) krf ?_
      refine xs_run 4 krf ?_
      refine xs_end ?_
      refine sq_nk ⟨[4], [], [], []⟩ ⟨[(4, B (leI a0n.N 1000000))], []⟩ krf ?_
      refine sim_ret ?_
      refine bq_r ?_
      refine sq_r ?_
      exact rq_ret (.id) krf krf krf
     ·refine xs_no (want_tf krf h7) krf ?_
      refine xs_run 4 krf ?_
      refine xs_end ?_
      refine sq_nk ⟨[4], [], [], []⟩ ⟨[(4, B false)], []⟩ krf ?_
      refine sim_ret ?_
      refine bq_r ?_
      refine sq_r ?_
      exact rq_ret (.id) krf krf krf
    ·refine xs_no (want_tf krf h6) krf ?_
     refine xs_run 9 krf ?_
     refine xs_end ?_
     refine sq_nk ⟨[4], [], [], []⟩ ⟨[(4, B false)], []⟩ krf ?_
     refine sim_ret ?_
     refine bq_r ?_
     refine sq_r ?_
     exact rq_ret (.id) krf krf krf
   ·refine sim_skip ?_
    refine bq_n ?_
    refine sq_nk ⟨[], [], [], []⟩ ⟨[], []⟩ krf ?_
    refine sim_run Try.fm ⟨[4], [], [], []⟩ ⟨[(4, B false)], []⟩ krf ?_
    refine sim_ret ?_
    exact rq_ret (.id) krf krf krf
def g_parser_validPart_l9 (n : Nat) (a0n : GNode) (a1left : Int) (recl9 : Int → Option (Bool × Int)) (l9 : Int) : Option (Bool × Int) :=
 cond (ltI l9 (lenI (List.map idc a0n.Kids)))
  ((Option.bind (getI a0n.Kids l9) GNode.of).bind fun x10 =>
  (g_parser_validValue n x10 (eqI a0n.Kind 4)).bind fun r11 =>
  cond (!r11)
   (some (false, wi (a1left - (lenI (List.map idc a0n.Kids)))))
   (recl9 (wi (l9 + 1))))
  (some (true, wi (a1left - (lenI (List.map idc a0n.Kids)))))
def g_parser_validPart (n : Nat) (a0n : GNode) (a1left : Int) : Option (Bool × Int) :=
 cond (!eqI a0n.N 0)
  (some (false, a1left))
  ((cond (eqI a0n.Kind 3)
   ((g_parser_isAttr n a0n.Name).bind fun r3 =>
   some (!r3))
   (some false)).bind fun j1 =>
  cond j1
   (some (false, a1left))
   ((cond (eqI a0n.Kind 4)
    ((g_parser_isArticle n a0n.Name).bind fun r6 =>
    some (!r6))
    (some false)).bind fun j4 =>
   cond j4
    (some (false, a1left))
    ((cond (!eqI a0n.Kind 3)
     (some (!eqI a0n.Kind 4))
     (some false)).bind fun j7 =>
    cond j7
     (some (false, a1left))
     (cond (ltI (wi (a1left - (lenI (List.map idc a0n.Kids)))) 0)
      (some (false, wi (a1left - (lenI (List.map idc a0n.Kids)))))
      (loopN (fun recl9 l9 => g_parser_validPart_l9 n a0n a1left recl9 l9) n 0)))))
theorem g_parser_validPart_ok (n : Nat) (a0n : GNode) (a1left : Int) : ∀ r, g_parser_validPart n a0n a1left = some r → ACall Try.prog 93 [ag (GNode.cs a0n), .ptr 1001 0] (Go.Abs.look [(1001, .box 3 [I a1left])]) (heapR (fun r : Bool × Int => ((.ret (B r.1), [(1001, .box 3 [I r.2])]) : AEnd × List (Nat × Blk))) r) := by
 refine acall_sim (X := fun r : Bool × Int => ((.ret (B r.1), [(1001, .box 3 [I r.2])]) : AEnd × List (Nat × Blk))) [(1001, .box 3 [I a1left])] Try.func93 rfl Try.ntmps93 rfl ?_
 unfold g_parser_validPart
 refine sim_run Try.fm ⟨[1, 2], [2, 1001], [], []⟩ ⟨[(1, .ptr 1001 0), (2, .ptr 2 0)], [(2, .box 74 (bxc (GNode.cs a0n))), (1001, .box 3 [I a1left])]⟩ krf ?_
 refine sim_run Try.fm ⟨[1, 2, 5], [2, 1001], [], []⟩ ⟨[(1, .ptr 1001 0), (2, .ptr 2 0), (5, B (eqI a0n.Kind 4))], [(2, .box 74 (bxc (GNode.cs a0n))), (1001, .box 3 [I a1left])]⟩ krf ?_
 refine sim_seq ?_
 refine sim_block ?_
 refine sim_run Try.fm ⟨[1, 2, 5, 11], [2, 1001], [], []⟩ ⟨[(1, .ptr 1001 0), (2, .ptr 2 0), (5, B (eqI a0n.Kind 4)), (11, B (!eqI a0n.N 0))], [(2, .box 74 (bxc (GNode.cs a0n))), (1001, .box 3 [I a1left])]⟩ krf ?_
 refine sim_cond (!eqI a0n.N 0) krf ?_ ?_
 ·refine sim_run Try.fm ⟨[4], [1001], [], []⟩ ⟨[(4, B false)], [(1001, .box 3 [I a1left])]⟩ krf ?_
  refine sim_ret ?_
  refine bq_r ?_
  refine sq_r ?_
  exact hq_ret (.id) [1001] [] krf krf krf krf
 ·refine sim_bind (fun j1 => ⟨[(1, .ptr 1001 0), (2, .ptr 2 0), (5, B (eqI a0n.Kind 4)), (15, B j1)], [(2, .box 74 (bxc (GNode.cs a0n))), (1001, .box 3 [I a1left])]⟩ : Bool → St) ?_ ?_
  ·refine sim_reg ?_
   refine xs_run 4 krf ?_
   refine xs_split (eqI a0n.Kind 3) (fun h2 => ?_) (fun h2 => ?_)
   ·refine xs_one (want_tt krf h2) krf ?_
    refine xs_run 1 krf ?_
    refine xs_call [] krf (g_parser_isAttr_ok n a0n.Name) krf krf (fun _ => by kernel_rfl) (fun r3 => ?_)
    refine xs_run 3 krf ?_
    refine xs_end ?_
    exact nq_n (!r3) ⟨[1, 2, 5, 15], [2, 1001], [], []⟩ krf
   ·refine xs_no (want_tf krf h2) krf ?_
    refine xs_run 5 krf ?_
    refine xs_end ?_
    exact nq_n false ⟨[1, 2, 5, 15], [2, 1001], [], []⟩ krf
  ·rintro j1
   refine sim_cond j1 krf ?_ ?_
   ·refine sim_run Try.fm ⟨[4], [1001], [], []⟩ ⟨[(4, B false)], [(1001, .box 3 [I a1left])]⟩ krf ?_
    refine sim_ret ?_
    refine bq_r ?_
    refine sq_r ?_
    exact hq_ret (.id) [1001] [] krf krf krf krf
   ·refine sim_bind (fun j4 => ⟨[(1, .ptr 1001 0), (2, .ptr 2 0), (5, B (eqI a0n.Kind 4)), (25, B j4)], [(2, .box 74 (bxc (GNode.cs a0n))), (1001, .box 3 [I a1left])]⟩ : Bool → St) ?_ ?_
    ·refine sim_reg ?_
     refine xs_run 4 krf ?_
     refine xs_split (eqI a0n.Kind 4) (fun h5 => ?_) (fun h5 => ?_)
     ·refine xs_one (want_tt krf h5) krf ?_
      refine xs_run 1 krf ?_
      refine xs_call [] krf (g_parser_isArticle_ok n a0n.Name) krf krf (fun _ => by kernel_rfl) (fun r6 => ?_)
      refine xs_run 3 krf ?_
      refine xs_end ?_
      exact nq_n (!r6) ⟨[1, 2, 5, 25], [2, 1001], [], []⟩ krf
     ·refine xs_no (want_tf krf h5) krf ?_
      refine xs_run 5 krf ?_
      refine xs_end ?_
      exact nq_n false ⟨[1, 2, 5, 25], [2, 1001], [], []⟩ krf
    ·rintro j4
     refine sim_cond j4 krf ?_ ?_
     ·refine sim_run Try.fm ⟨[4], [1001], [], []⟩ ⟨[(4, B false)], [(1001, .box 3 [I a1left])]⟩ krf ?_
      refine sim_ret ?_
      refine bq_r ?_
      refine sq_r ?_
      exact hq_ret (.id) [1001] [] krf krf krf krf
     ·refine sim_bind (fun j7 => ⟨[(1, .ptr 1001 0), (2, .ptr 2 0), (5, B (eqI a0n.Kind 4)), (35, B j7)], [(2, .box 74 (bxc (GNode.cs a0n))), (1001, .box 3 [I a1left])]⟩ : Bool → St) ?_ ?_
      ·refine sim_reg ?_
       refine xs_run 4 krf ?_
       refine xs_split (!eqI a0n.Kind 3) (fun h8 => ?_) (fun h8 => ?_)
       ·refine xs_one (want_tt krf h8) krf ?_
        refine xs_run 4 krf ?_
        refine xs_end ?_
        exact nq_n (!eqI a0n.Kind 4) ⟨[1, 2, 5, 35], [2, 1001], [], []⟩ krf
       ·refine xs_no (want_tf krf h8) krf ?_
        refine xs_run 4 krf ?_
        refine xs_end ?_
        exact nq_n false ⟨[1, 2, 5, 35], [2, 1001], [], []⟩ krf
      ·rintro j7
       refine sim_cond j7 krf ?_ ?_
       ·refine sim_run Try.fm ⟨[4], [1001], [], []⟩ ⟨[(4, B false)], [(1001, .box 3 [I a1left])]⟩ krf ?_
        refine sim_ret ?_
        refine bq_r ?_
        refine sq_r ?_
        exact hq_ret (.id) [1001] [] krf krf krf krf
       ·refine sim_skip ?_
        refine bq_n ?_
        refine sq_nk ⟨[1, 2, 5], [2, 1001], [], []⟩ ⟨[(1, .ptr 1001 0), (2, .ptr 2 0), (5, B (eqI a0n.Kind 4))], [(2, .box 74 (bxc (GNode.cs a0n))), (1001, .box 3 [I a1left])]⟩ krf ?_
        refine sim_run Try.fm ⟨[1, 2, 5], [2, 1001], [], []⟩ ⟨[(1, .ptr 1001 0), (2, .ptr 2 0), (5, B (eqI a0n.Kind 4))], [(2, .box 74 (bxc (GNode.cs a0n))), (1001, .box 3 [I (wi (a1left - (lenI (List.map idc a0n.Kids))))])]⟩ krf ?_
        refine sim_seq ?_
        refine sim_run Try.fm ⟨[2, 5, 55], [2, 1001], [], []⟩ ⟨[(2, .ptr 2 0), (5, B (eqI a0n.Kind 4)), (55, B (ltI (wi (a1left - (lenI (List.map idc a0n.Kids)))) 0))], [(2, .box 74 (bxc (GNode.cs a0n))), (1001, .box 3 [I (wi (a1left - (lenI (List.map idc a0n.Kids))))])]⟩ krf ?_
        refine sim_cond (ltI (wi (a1left - (lenI (List.map idc a0n.Kids)))) 0) krf ?_ ?_
        ·refine sim_run Try.fm ⟨[4], [1001], [], []⟩ ⟨[(4, B false)], [(1001, .box 3 [I (wi (a1left - (lenI (List.map idc a0n.Kids))))])]⟩ krf ?_
         refine sim_ret ?_
         refine sq_r ?_
         exact hq_ret (.id) [1001] [] krf krf krf krf
        ·refine sim_skip ?_
         refine sq_nk ⟨[2, 5], [2, 1001], [], []⟩ ⟨[(2, .ptr 2 0), (5, B (eqI a0n.Kind 4))], [(2, .box 74 (bxc (GNode.cs a0n))), (1001, .box 3 [I (wi (a1left - (lenI (List.map idc a0n.Kids))))])]⟩ krf ?_
         refine sim_seq ?_
         refine sim_run Try.fm ⟨[5, 57, 58, 59], [1001], [], []⟩ ⟨[(5, B (eqI a0n.Kind 4)), (57, .p (.sl 5 (List.map idc a0n.Kids))), (58, I (lenI (List.map idc a0n.Kids))), (59, I 0)], [(1001, .box 3 [I (wi (a1left - (lenI (List.map idc a0n.Kids))))])]⟩ krf ?_
         refine sim_block ?_
         refine sim_loop (fun l9 => ⟨[(5, B (eqI a0n.Kind 4)), (57, .p (.sl 5 (List.map idc a0n.Kids))), (58, I (lenI (List.map idc a0n.Kids))), (59, I l9)], [(1001, .box 3 [I (wi (a1left - (lenI (List.map idc a0n.Kids))))])]⟩ : Int → St) (weak_shr (K := ⟨[5, 57, 58, 59], [1001], [], []⟩) krf) ?_
         rintro recl9 l9
         show SimE (g_parser_validPart_l9 n a0n a1left recl9 l9) _ _ _ _ _ _
         unfold g_parser_validPart_l9
         refine sim_run Try.fm ⟨[5, 57, 58, 59, 60], [1001], [], []⟩ ⟨[(5, B (eqI a0n.Kind 4)), (57, .p (.sl 5 (List.map idc a0n.Kids))), (58, I (lenI (List.map idc a0n.Kids))), (59, I l9), (60, B (ltI l9 (lenI (List.map idc a0n.Kids))))], [(1001, .box 3 [I (wi (a1left - (lenI (List.map idc a0n.Kids))))])]⟩ krf ?_
         refine sim_seq ?_
         refine sim_cond (ltI l9 (lenI (List.map idc a0n.Kids))) krf ?_ ?_
         ·refine sim_skip ?_
          refine sq_nk ⟨[5, 57, 58, 59], [1001], [], []⟩ ⟨[(5, B (eqI a0n.Kind 4)), (57, .p (.sl 5 (List.map idc a0n.Kids))), (58, I (lenI (List.map idc a0n.Kids))), (59, I l9)], [(1001, .box 3 [I (wi (a1left - (lenI (List.map idc a0n.Kids))))])]⟩ krf ?_
          refine sim_seq ?_
          refine sim_block ?_
          refine sim_seq ?_
          refine sim_reg ?_
          refine xs_get krf krf (aop_idxR (e := 74) (S := 5) (enc := GNode.cs) (dec := GNode.of) (l := a0n.Kids) (k := .i64) (n := l9) (sv := .p (.sl 5 (List.map idc a0n.Kids))) GNode.of_cs rfl krf krf krf krf krf) (fun x10 => ?_)
          refine xs_run 3 krf ?_
          refine xs_end ?_
          refine sq_nk ⟨[5, 7, 57, 58, 59], [7, 1001], [], []⟩ ⟨[(5, B (eqI a0n.Kind 4)), (7, .ptr 7 0), (57, .p (.sl 5 (List.map idc a0n.Kids))), (58, I (lenI (List.map idc a0n.Kids))), (59, I l9)], [(7, .box 74 (bxc (GNode.cs x10))), (1001, .box 3 [I (wi (a1left - (lenI (List.map idc a0n.Kids))))])]⟩ krf ?_
          refine sim_seq ?_
          refine sim_reg ?_
          refine xs_run 2 krf ?_
          refine xs_call [] krf (g_parser_validValue_ok n x10 (eqI a0n.Kind 4)) krf krf (fun _ => by kernel_rfl) (fun r11 => ?_)
          refine xs_run 1 krf ?_
          refine xs_end ?_
          refine sq_nk ⟨[5, 57, 58, 59, 66], [1001], [], []⟩ ⟨[(5, B (eqI a0n.Kind 4)), (57, .p (.sl 5 (List.map idc a0n.Kids))), (58, I (lenI (List.map idc a0n.Kids))), (59, I l9), (66, B (!r11))], [(1001, .box 3 [I (wi (a1left - (lenI (List.map idc a0n.Kids))))])]⟩ krf ?_
          refine sim_cond (!r11) krf ?_ ?_
          ·refine sim_run Try.fm ⟨[4], [1001], [], []⟩ ⟨[(4, B false)], [(1001, .box 3 [I (wi (a1left - (lenI (List.map idc a0n.Kids))))])]⟩ krf ?_
           refine sim_ret ?_
           refine bq_r ?_
           refine sq_r ?_
           refine kq_r ?_
           refine bq_r ?_
           refine sq_r ?_
           exact hq_ret (.id) [1001] [] krf krf krf krf
          ·refine sim_skip ?_
           refine bq_n ?_
           refine sq_nk ⟨[5, 57, 58, 59], [1001], [], []⟩ ⟨[(5, B (eqI a0n.Kind 4)), (57, .p (.sl 5 (List.map idc a0n.Kids))), (58, I (lenI (List.map idc a0n.Kids))), (59, I l9)], [(1001, .box 3 [I (wi (a1left - (lenI (List.map idc a0n.Kids))))])]⟩ krf ?_
           refine sim_last Try.fm krf ?_
           exact kq_n (wi (l9 + 1)) ⟨[5, 57, 58, 59], [1001], [], []⟩ krf
         ·refine sim_exit ?_
          refine sq_x ?_
          refine kq_x ?_
          refine bq_hit ?_
          refine sq_nk ⟨[], [1001], [], []⟩ ⟨[], [(1001, .box 3 [I (wi (a1left - (lenI (List.map idc a0n.Kids))))])]⟩ krf ?_
          refine sim_run Try.fm ⟨[4], [1001], [], []⟩ ⟨[(4, B true)], [(1001, .box 3 [I (wi (a1left - (lenI (List.map idc a0n.Kids))))])]⟩ krf ?_
          refine sim_ret ?_
          exact hq_ret (.id) [1001] [] krf krf krf krf
def g_parser_validItem_j6 (a0n : GNode) (j6_1 : Bool) (j6_2 : Int) : Option (Bool × Int) :=
 cond (!j6_1)
  (some (true, j6_2))
  (some (eqI a0n.N 7, j6_2))
def g_parser_validItem_j10 (n : Nat) (l8_2 : Int) (l8_3 : Int) (recl8 : (Bool × Int × Int) → Option (Bool × Int)) (x9 : GNode) (j10 : Bool) : Option (Bool × Int) :=
 (g_parser_validPart n x9 l8_3).bind fun r11 =>
 cond (!r11.1)
  (some (false, r11.2))
  (recl8 (j10, wi (l8_2 + 1), r11.2))
def g_parser_validItem_l8 (n : Nat) (a0n : GNode) (recl8 : (Bool × Int × Int) → Option (Bool × Int)) (l8_1 : Bool) (l8_2 : Int) (l8_3 : Int) : Option (Bool × Int) :=
 cond (ltI l8_2 (lenI (List.map idc a0n.Kids)))
  ((Option.bind (getI a0n.Kids l8_2) GNode.of).bind fun x9 =>
  cond (eqI x9.Kind 4)
   (g_parser_validItem_j10 n l8_2 l8_3 recl8 x9 true)
   (cond l8_1
    (some (false, l8_3))
    (g_parser_validItem_j10 n l8_2 l8_3 recl8 x9 l8_1)))
  (g_parser_validItem_j6 a0n l8_1 l8_3)
def g_parser_validItem (n : Nat) (a0n : GNode) (a1left : Int) : Option (Bool × Int) :=
 (cond (!eqI a0n.Kind 2)
  (some true)
  (cond (ltI a0n.N 1)
   (some true)
   (cond (ltI 7 a0n.N)
    (some true)
    ((g_parser_goodName n a0n.Name).bind fun r5 =>
    some (!r5))))).bind fun j1 =>
 cond j1
  (some (false, a1left))
  (cond (ltI (wi (a1left - (lenI (List.map idc a0n.Kids)))) 0)
   (some (false, wi (a1left - (lenI (List.map idc a0n.Kids)))))
   (loopN (fun recl8 (l8_1, l8_2, l8_3) => g_parser_validItem_l8 n a0n recl8 l8_1 l8_2 l8_3) n (false, 0, wi (a1left - (lenI (List.map idc a0n.Kids))))))
theorem g_parser_validItem_ok (n : Nat) (a0n : GNode) (a1left : Int) : ∀ r, g_parser_validItem n a0n a1left = some r → ACall Try.prog 70 [ag (GNode.cs a0n), .ptr 1001 0] (Go.Abs.look [(1001, .box 3 [I a1left])]) (heapR (fun r : Bool × Int => ((.ret (B r.1), [(1001, .box 3 [I r.2])]) : AEnd × List (Nat × Blk))) r) := by
 refine acall_sim (X := fun r : Bool × Int => ((.ret (B r.1), [(1001, .box 3 [I r.2])]) : AEnd × List (Nat × Blk))) [(1001, .box 3 [I a1left])] Try.func70 rfl Try.ntmps70 rfl ?_
 unfold g_parser_validItem
 refine sim_run Try.fm ⟨[1, 2], [2, 1001], [], []⟩ ⟨[(1, .ptr 1001 0), (2, .ptr 2 0)], [(2, .box 74 (bxc (GNode.cs a0n))), (1001, .box 3 [I a1left])]⟩ krf ?_
 refine sim_seq ?_
 refine sim_bind (fun j1 => ⟨[(1, .ptr 1001 0), (2, .ptr 2 0), (26, B j1)], [(2, .box 74 (bxc (GNode.cs a0n))), (1001, .box 3 [I a1left])]⟩ : Bool → St) ?_ ?_
 ·refine sim_reg ?_
  refine xs_run 4 krf ?_
  refine xs_split (!eqI a0n.Kind 2) (fun h2 => ?_) (fun h2 => ?_)
  ·refine xs_no (want_ft krf h2) krf ?_
   refine xs_run 14 krf ?_
   refine xs_end ?_
   exact nq_n true ⟨[1, 2, 26], [2, 1001], [], []⟩ krf
  ·refine xs_one (want_ff krf h2) krf ?_
   refine xs_run 4 krf ?_
   refine xs_split (ltI a0n.N 1) (fun h3 => ?_) (fun h3 => ?_)
   ·refine xs_no (want_ft krf h3) krf ?_
    refine xs_run 9 krf ?_
    refine xs_end ?_
    exact nq_n true ⟨[1, 2, 26], [2, 1001], [], []⟩ krf
   ·refine xs_one (want_ff krf h3) krf ?_
    refine xs_run 4 krf ?_
    refine xs_split (ltI 7 a0n.N) (fun h4 => ?_) (fun h4 => ?_)
    ·refine xs_no (want_ft krf h4) krf ?_
     refine xs_run 4 krf ?_
     refine xs_end ?_
     exact nq_n true ⟨[1, 2, 26], [2, 1001], [], []⟩ krf
    ·refine xs_one (want_ff krf h4) krf ?_
     refine xs_run 1 krf ?_
     refine xs_call [] krf (g_parser_goodName_ok n a0n.Name) krf krf (fun _ => by kernel_rfl) (fun r5 => ?_)
     refine xs_run 2 krf ?_
     refine xs_end ?_
     exact nq_n (!r5) ⟨[1, 2, 26], [2, 1001], [], []⟩ krf
 ·rintro j1
  refine sim_cond j1 krf ?_ ?_
  ·refine sim_run Try.fm ⟨[4], [1001], [], []⟩ ⟨[(4, B false)], [(1001, .box 3 [I a1left])]⟩ krf ?_
   refine sim_ret ?_
   refine sq_r ?_
   exact hq_ret (.id) [1001] [] krf krf krf krf
  ·refine sim_skip ?_
   refine sq_nk ⟨[1, 2], [2, 1001], [], []⟩ ⟨[(1, .ptr 1001 0), (2, .ptr 2 0)], [(2, .box 74 (bxc (GNode.cs a0n))), (1001, .box 3 [I a1left])]⟩ krf ?_
   refine sim_run Try.fm ⟨[1, 2], [2, 1001], [], []⟩ ⟨[(1, .ptr 1001 0), (2, .ptr 2 0)], [(2, .box 74 (bxc (GNode.cs a0n))), (1001, .box 3 [I (wi (a1left - (lenI (List.map idc a0n.Kids))))])]⟩ krf ?_
   refine sim_seq ?_
   refine sim_run Try.fm ⟨[1, 2, 38], [2, 1001], [], []⟩ ⟨[(1, .ptr 1001 0), (2, .ptr 2 0), (38, B (ltI (wi (a1left - (lenI (List.map idc a0n.Kids)))) 0))], [(2, .box 74 (bxc (GNode.cs a0n))), (1001, .box 3 [I (wi (a1left - (lenI (List.map idc a0n.Kids))))])]⟩ krf ?_
   refine sim_cond (ltI (wi (a1left - (lenI (List.map idc a0n.Kids)))) 0) krf ?_ ?_
   ·refine sim_run Try.fm ⟨[4], [1001], [], []⟩ ⟨[(4, B false)], [(1001, .box 3 [I (wi (a1left - (lenI (List.map idc a0n.Kids))))])]⟩ krf ?_
    refine sim_ret ?_
    refine sq_r ?_
    exact hq_ret (.id) [1001] [] krf krf krf krf
   ·refine sim_skip ?_
    refine sq_nk ⟨[1, 2], [2, 1001], [], []⟩ ⟨[(1, .ptr 1001 0), (2, .ptr 2 0)], [(2, .box 74 (bxc (GNode.cs a0n))), (1001, .box 3 [I (wi (a1left - (lenI (List.map idc a0n.Kids))))])]⟩ krf ?_
    refine sim_run Try.fm ⟨[1, 2, 5], [2, 1001], [], []⟩ ⟨[(1, .ptr 1001 0), (2, .ptr 2 0), (5, B false)], [(2, .box 74 (bxc (GNode.cs a0n))), (1001, .box 3 [I (wi (a1left - (lenI (List.map idc a0n.Kids))))])]⟩ krf ?_
    refine sim_cps (fun (j6_1, j6_2) => ⟨[(2, .ptr 2 0), (5, B j6_1)], [(2, .box 74 (bxc (GNode.cs a0n))), (1001, .box 3 [I j6_2])]⟩ : (Bool × Int) → St) (fun (j6_1, j6_2) => g_parser_validItem_j6 a0n j6_1 j6_2) ?_ ?_
    ·rintro ⟨j6_1, j6_2⟩
     show SimE (g_parser_validItem_j6 a0n j6_1 j6_2) _ _ _ _ _ _
     unfold g_parser_validItem_j6
     refine sim_seq ?_
     refine sim_reg ?_
     refine xs_run 3 krf ?_
     refine xs_split (!j6_1) (fun h7 => ?_) (fun h7 => ?_)
     ·refine xs_no (want_ft krf h7) krf ?_
      refine xs_run 4 krf ?_
      refine xs_end ?_
      refine sq_nk ⟨[4], [1001], [], []⟩ ⟨[(4, B true)], [(1001, .box 3 [I j6_2])]⟩ krf ?_
      refine sim_ret ?_
      exact hq_ret (.id) [1001] [] krf krf krf krf
     ·refine xs_one (want_ff krf h7) krf ?_
      refine xs_run 4 krf ?_
      refine xs_end ?_
      refine sq_nk ⟨[4], [1001], [], []⟩ ⟨[(4, B (eqI a0n.N 7))], [(1001, .box 3 [I j6_2])]⟩ krf ?_
      refine sim_ret ?_
      exact hq_ret (.id) [1001] [] krf krf krf krf
    ·refine sim_run Try.fm ⟨[1, 2, 5, 40, 41, 42], [2, 1001], [], []⟩ ⟨[(1, .ptr 1001 0), (2, .ptr 2 0), (5, B false), (40, .p (.sl 5 (List.map idc a0n.Kids))), (41, I (lenI (List.map idc a0n.Kids))), (42, I 0)], [(2, .box 74 (bxc (GNode.cs a0n))), (1001, .box 3 [I (wi (a1left - (lenI (List.map idc a0n.Kids))))])]⟩ krf ?_
     refine sim_block ?_
     refine sim_loop (fun (l8_1, l8_2, l8_3) => ⟨[(1, .ptr 1001 0), (2, .ptr 2 0), (5, B l8_1), (40, .p (.sl 5 (List.map idc a0n.Kids))), (41, I (lenI (List.map idc a0n.Kids))), (42, I l8_2)], [(2, .box 74 (bxc (GNode.cs a0n))), (1001, .box 3 [I l8_3])]⟩ : (Bool × Int × Int) → St) (weak_shr (K := ⟨[1, 2, 5, 40, 41, 42], [2, 1001], [], []⟩) krf) ?_
     rintro recl8 ⟨l8_1, l8_2, l8_3⟩
     show SimE (g_parser_validItem_l8 n a0n recl8 l8_1 l8_2 l8_3) _ _ _ _ _ _
     unfold g_parser_validItem_l8
     refine sim_run Try.fm ⟨[1, 2, 5, 40, 41, 42, 43], [2, 1001], [], []⟩ ⟨[(1, .ptr 1001 0), (2, .ptr 2 0), (5, B l8_1), (40, .p (.sl 5 (List.map idc a0n.Kids))), (41, I (lenI (List.map idc a0n.Kids))), (42, I l8_2), (43, B (ltI l8_2 (lenI (List.map idc a0n.Kids))))], [(2, .box 74 (bxc (GNode.cs a0n))), (1001, .box 3 [I l8_3])]⟩ krf ?_
     refine sim_seq ?_
     refine sim_cond (ltI l8_2 (lenI (List.map idc a0n.Kids))) krf ?_ ?_
     ·refine sim_skip ?_
      refine sq_nk ⟨[1, 2, 5, 40, 41, 42], [2, 1001], [], []⟩ ⟨[(1, .ptr 1001 0), (2, .ptr 2 0), (5, B l8_1), (40, .p (.sl 5 (List.map idc a0n.Kids))), (41, I (lenI (List.map idc a0n.Kids))), (42, I l8_2)], [(2, .box 74 (bxc (GNode.cs a0n))), (1001, .box 3 [I l8_3])]⟩ krf ?_
      refine sim_seq ?_
      refine sim_block ?_
      refine sim_seq ?_
      refine sim_reg ?_
      refine xs_get krf krf (aop_idxR (e := 74) (S := 5) (enc := GNode.cs) (dec := GNode.of) (l := a0n.Kids) (k := .i64) (n := l8_2) (sv := .p (.sl 5 (List.map idc a0n.Kids))) GNode.of_cs rfl krf krf krf krf krf) (fun x9 => ?_)
      refine xs_run 3 krf ?_
      refine xs_end ?_
      refine sq_nk ⟨[1, 2, 5, 7, 40, 41, 42], [2, 7, 1001], [], []⟩ ⟨[(1, .ptr 1001 0), (2, .ptr 2 0), (5, B l8_1), (7, .ptr 7 0), (40, .p (.sl 5 (List.map idc a0n.Kids))), (41, I (lenI (List.map idc a0n.Kids))), (42, I l8_2)], [(2, .box 74 (bxc (GNode.cs a0n))), (7, .box 74 (bxc (GNode.cs x9))), (1001, .box 3 [I l8_3])]⟩ krf ?_
      refine sim_cps (fun j10 => ⟨[(1, .ptr 1001 0), (2, .ptr 2 0), (5, B j10), (7, .ptr 7 0), (40, .p (.sl 5 (List.map idc a0n.Kids))), (41, I (lenI (List.map idc a0n.Kids))), (42, I l8_2)], [(2, .box 74 (bxc (GNode.cs a0n))), (7, .box 74 (bxc (GNode.cs x9))), (1001, .box 3 [I l8_3])]⟩ : Bool → St) (fun j10 => g_parser_validItem_j10 n l8_2 l8_3 recl8 x9 j10) ?_ ?_
      ·rintro j10
       show SimE (g_parser_validItem_j10 n l8_2 l8_3 recl8 x9 j10) _ _ _ _ _ _
       unfold g_parser_validItem_j10
       refine sim_seq ?_
       refine sim_reg ?_
       refine xs_run 2 krf ?_
       refine xs_heap [(1001, 1001)] [] [] krf (g_parser_validPart_ok n x9 l8_3) krf krf krf (fun _ => by kernel_rfl) (fun _ => by kernel_rfl) (fun r11 => ?_)
       refine xs_run 1 krf ?_
       refine xs_end ?_
       refine sq_nk ⟨[1, 2, 5, 40, 41, 42, 53], [2, 1001], [], []⟩ ⟨[(1, .ptr 1001 0), (2, .ptr 2 0), (5, B j10), (40, .p (.sl 5 (List.map idc a0n.Kids))), (41, I (lenI (List.map idc a0n.Kids))), (42, I l8_2), (53, B (!r11.1))], [(2, .box 74 (bxc (GNode.cs a0n))), (1001, .box 3 [I r11.2])]⟩ krf ?_
       refine sim_cond (!r11.1) krf ?_ ?_
       ·refine sim_run Try.fm ⟨[4], [1001], [], []⟩ ⟨[(4, B false)], [(1001, .box 3 [I r11.2])]⟩ krf ?_
        refine sim_ret ?_
        refine bq_r ?_
        refine sq_r ?_
        refine kq_r ?_
        refine bq_r ?_
        refine kq_r ?_
        exact hq_ret (.id) [1001] [] krf krf krf krf
       ·refine sim_skip ?_
        refine bq_n ?_
        refine sq_nk ⟨[1, 2, 5, 40, 41, 42], [2, 1001], [], []⟩ ⟨[(1, .ptr 1001 0), (2, .ptr 2 0), (5, B j10), (40, .p (.sl 5 (List.map idc a0n.Kids))), (41, I (lenI (List.map idc a0n.Kids))), (42, I l8_2)], [(2, .box 74 (bxc (GNode.cs a0n))), (1001, .box 3 [I r11.2])]⟩ krf ?_
        refine sim_last Try.fm krf ?_
        exact kq_n (j10, wi (l8_2 + 1), r11.2) ⟨[1, 2, 5, 40, 41, 42], [2, 1001], [], []⟩ krf
      ·refine sim_run Try.fm ⟨[1, 2, 5, 7, 40, 41, 42, 48], [2, 7, 1001], [], []⟩ ⟨[(1, .ptr 1001 0), (2, .ptr 2 0), (5, B l8_1), (7, .ptr 7 0), (40, .p (.sl 5 (List.map idc a0n.Kids))), (41, I (lenI (List.map idc a0n.Kids))), (42, I l8_2), (48, B (eqI x9.Kind 4))], [(2, .box 74 (bxc (GNode.cs a0n))), (7, .box 74 (bxc (GNode.cs x9))), (1001, .box 3 [I l8_3])]⟩ krf ?_
       refine sim_cond (eqI x9.Kind 4) krf ?_ ?_
       ·refine sim_last Try.fm krf ?_
        exact kq_n (k := fun j10 => g_parser_validItem_j10 n l8_2 l8_3 recl8 x9 j10) true ⟨[1, 2, 5, 7, 40, 41, 42], [2, 7, 1001], [], []⟩ krf
       ·refine sim_run Try.fm ⟨[1, 2, 5, 7, 40, 41, 42, 49], [2, 7, 1001], [], []⟩ ⟨[(1, .ptr 1001 0), (2, .ptr 2 0), (5, B l8_1), (7, .ptr 7 0), (40, .p (.sl 5 (List.map idc a0n.Kids))), (41, I (lenI (List.map idc a0n.Kids))), (42, I l8_2), (49, B l8_1)], [(2, .box 74 (bxc (GNode.cs a0n))), (7, .box 74 (bxc (GNode.cs x9))), (1001, .box 3 [I l8_3])]⟩ krf ?_
        refine sim_cond l8_1 krf ?_ ?_
        ·refine sim_run Try.fm ⟨[4], [1001], [], []⟩ ⟨[(4, B false)], [(1001, .box 3 [I l8_3])]⟩ krf ?_
         refine sim_ret ?_
         refine kq_r ?_
         refine bq_r ?_
         refine sq_r ?_
         refine kq_r ?_
         refine bq_r ?_
         refine kq_r ?_
         exact hq_ret (.id) [1001] [] krf krf krf krf
        ·refine sim_skip ?_
         exact kq_n (k := fun j10 => g_parser_validItem_j10 n l8_2 l8_3 recl8 x9 j10) l8_1 ⟨[1, 2, 5, 7, 40, 41, 42], [2, 7, 1001], [], []⟩ krf
     ·refine sim_exit ?_
      refine sq_x ?_
      refine kq_x ?_
      refine bq_hit ?_
      exact kq_n (k := fun (j6_1, j6_2) => g_parser_validItem_j6 a0n j6_1 j6_2) (l8_1, l8_3) ⟨[2, 5], [2, 1001], [], []⟩ krf
def g_parser_Valid_l5 (n : Nat) (a0n : GNode) (recl5 : (Int × Int) → Option Bool) (l5_1 : Int) (l5_2 : Int) : Option Bool :=
 cond (ltI l5_1 (lenI (List.map idc a0n.Kids)))
  ((Option.bind (getI a0n.Kids l5_1) GNode.of).bind fun x6 =>
  (g_parser_validItem n x6 l5_2).bind fun r7 =>
  cond (!r7.1)
   (some false)
   (recl5 (wi (l5_1 + 1), r7.2)))
  (some true)
def g_parser_Valid (n : Nat) (a0n : GNode) : Option Bool :=
 (cond (!eqI a0n.Kind 1)
  (some true)
  (cond (!eqS a0n.Name [])
   (some true)
   (cond (!eqI a0n.N 0)
    (some true)
    (some (ltI (wi (1499 - (lenI (List.map idc a0n.Kids)))) 0))))).bind fun j1 =>
 cond j1
  (some false)
  (loopN (fun recl5 (l5_1, l5_2) => g_parser_Valid_l5 n a0n recl5 l5_1 l5_2) n (0, wi (1499 - (lenI (List.map idc a0n.Kids)))))
theorem g_parser_Valid_ok (n : Nat) (a0n : GNode) : ∀ r, g_parser_Valid n a0n = some r → PCall Try.prog 39 [ag (GNode.cs a0n)] (.ret (B r)) := by
 refine pcall_sim (X := fun r : Bool => AEnd.ret (B r)) Try.func39 rfl Try.ntmps39 rfl ?_
 unfold g_parser_Valid
 refine sim_run Try.fm ⟨[1], [1], [], []⟩ ⟨[(1, .ptr 1 0)], [(1, .box 74 (bxc (GNode.cs a0n)))]⟩ krf ?_
 refine sim_run Try.fm ⟨[1, 3], [1, 3], [], []⟩ ⟨[(1, .ptr 1 0), (3, .ptr 3 0)], [(1, .box 74 (bxc (GNode.cs a0n))), (3, .box 3 [I (wi (1499 - (lenI (List.map idc a0n.Kids))))])]⟩ krf ?_
 refine sim_seq ?_
 refine sim_bind (fun j1 => ⟨[(1, .ptr 1 0), (3, .ptr 3 0), (26, B j1)], [(1, .box 74 (bxc (GNode.cs a0n))), (3, .box 3 [I (wi (1499 - (lenI (List.map idc a0n.Kids))))])]⟩ : Bool → St) ?_ ?_
 ·refine sim_reg ?_
  refine xs_run 4 krf ?_
  refine xs_split (!eqI a0n.Kind 1) (fun h2 => ?_) (fun h2 => ?_)
  ·refine xs_no (want_ft krf h2) krf ?_
   refine xs_run 12 krf ?_
   refine xs_end ?_
   exact nq_n true ⟨[1, 3, 26], [1, 3], [], []⟩ krf
  ·refine xs_one (want_ff krf h2) krf ?_
   refine xs_run 4 krf ?_
   refine xs_split (!eqS a0n.Name []) (fun h3 => ?_) (fun h3 => ?_)
   ·refine xs_no (want_ft krf h3) krf ?_
    refine xs_run 7 krf ?_
    refine xs_end ?_
    exact nq_n true ⟨[1, 3, 26], [1, 3], [], []⟩ krf
   ·refine xs_one (want_ff krf h3) krf ?_
    refine xs_run 4 krf ?_
    refine xs_split (!eqI a0n.N 0) (fun h4 => ?_) (fun h4 => ?_)
    ·refine xs_no (want_ft krf h4) krf ?_
     refine xs_run 2 krf ?_
     refine xs_end ?_
     exact nq_n true ⟨[1, 3, 26], [1, 3], [], []⟩ krf
    ·refine xs_one (want_ff krf h4) krf ?_
     refine xs_run 2 krf ?_
     refine xs_end ?_
     exact nq_n (ltI (wi (1499 - (lenI (List.map idc a0n.Kids)))) 0) ⟨[1, 3, 26], [1, 3], [], []⟩ krf
 ·rintro j1
  refine sim_cond j1 krf ?_ ?_
  ·refine sim_run Try.fm ⟨[2], [], [], []⟩ ⟨[(2, B false)], []⟩ krf ?_
   refine sim_ret ?_
   refine sq_r ?_
   exact rq_ret (.id) krf krf krf
  ·refine sim_skip ?_
   refine sq_nk ⟨[1, 3], [1, 3], [], []⟩ ⟨[(1, .ptr 1 0), (3, .ptr 3 0)], [(1, .box 74 (bxc (GNode.cs a0n))), (3, .box 3 [I (wi (1499 - (lenI (List.map idc a0n.Kids))))])]⟩ krf ?_
   refine sim_seq ?_
   refine sim_run Try.fm ⟨[3, 28, 29, 30], [3], [], []⟩ ⟨[(3, .ptr 3 0), (28, .p (.sl 5 (List.map idc a0n.Kids))), (29, I (lenI (List.map idc a0n.Kids))), (30, I 0)], [(3, .box 3 [I (wi (1499 - (lenI (List.map idc a0n.Kids))))])]⟩ krf ?_
   refine sim_block ?_
   refine sim_loop (fun (l5_1, l5_2) => ⟨[(3, .ptr 3 0), (28, .p (.sl 5 (List.map idc a0n.Kids))), (29, I (lenI (List.map idc a0n.Kids))), (30, I l5_1)], [(3, .box 3 [I l5_2])]⟩ : (Int × Int) → St) (weak_shr (K := ⟨[3, 28, 29, 30], [3], [], []⟩) krf) ?_
   rintro recl5 ⟨l5_1, l5_2⟩
   show SimE (g_parser_Valid_l5 n a0n recl5 l5_1 l5_2) _ _ _ _ _ _
   unfold g_parser_Valid_l5
   refine sim_run Try.fm ⟨[3, 28, 29, 30, 31], [3], [], []⟩ ⟨[(3, .ptr 3 0), (28, .p (.sl 5 (List.map idc a0n.Kids))), (29, I (lenI (List.map idc a0n.Kids))), (30, I l5_1), (31, B (ltI l5_1 (lenI (List.map idc a0n.Kids))))], [(3, .box 3 [I l5_2])]⟩ krf ?_
   refine sim_seq ?_
   refine sim_cond (ltI l5_1 (lenI (List.map idc a0n.Kids))) krf ?_ ?_
   ·refine sim_skip ?_
    refine sq_nk ⟨[3, 28, 29, 30], [3], [], []⟩ ⟨[(3, .ptr 3 0), (28, .p (.sl 5 (List.map idc a0n.Kids))), (29, I (lenI (List.map idc a0n.Kids))), (30, I l5_1)], [(3, .box 3 [I l5_2])]⟩ krf ?_
    refine sim_seq ?_
    refine sim_block ?_
    refine sim_seq ?_
    refine sim_reg ?_
    refine xs_get krf krf (aop_idxR (e := 74) (S := 5) (enc := GNode.cs) (dec := GNode.of) (l := a0n.Kids) (k := .i64) (n := l5_1) (sv := .p (.sl 5 (List.map idc a0n.Kids))) GNode.of_cs rfl krf krf krf krf krf) (fun x6 => ?_)
    refine xs_run 3 krf ?_
    refine xs_end ?_
    refine sq_nk ⟨[3, 5, 28, 29, 30], [3, 5], [], []⟩ ⟨[(3, .ptr 3 0), (5, .ptr 5 0), (28, .p (.sl 5 (List.map idc a0n.Kids))), (29, I (lenI (List.map idc a0n.Kids))), (30, I l5_1)], [(3, .box 3 [I l5_2]), (5, .box 74 (bxc (GNode.cs x6)))]⟩ krf ?_
    refine sim_seq ?_
    refine sim_reg ?_
    refine xs_run 1 krf ?_
    refine xs_heap [(1001, 3)] [] [] krf (g_parser_validItem_ok n x6 l5_2) krf krf krf (fun _ => by kernel_rfl) (fun _ => by kernel_rfl) (fun r7 => ?_)
    refine xs_run 1 krf ?_
    refine xs_end ?_
    refine sq_nk ⟨[3, 28, 29, 30, 36], [3], [], []⟩ ⟨[(3, .ptr 3 0), (28, .p (.sl 5 (List.map idc a0n.Kids))), (29, I (lenI (List.map idc a0n.Kids))), (30, I l5_1), (36, B (!r7.1))], [(3, .box 3 [I r7.2])]⟩ krf ?_
    refine sim_cond (!r7.1) krf ?_ ?_
    ·refine sim_run Try.fm ⟨[2], [], [], []⟩ ⟨[(2, B false)], []⟩ krf ?_
     refine sim_ret ?_
     refine bq_r ?_
     refine sq_r ?_
     refine kq_r ?_
     refine bq_r ?_
     refine sq_r ?_
     exact rq_ret (.id) krf krf krf
    ·refine sim_skip ?_
     refine bq_n ?_
     refine sq_nk ⟨[3, 28, 29, 30], [3], [], []⟩ ⟨[(3, .ptr 3 0), (28, .p (.sl 5 (List.map idc a0n.Kids))), (29, I (lenI (List.map idc a0n.Kids))), (30, I l5_1)], [(3, .box 3 [I r7.2])]⟩ krf ?_
     refine sim_last Try.fm krf ?_
     exact kq_n (wi (l5_1 + 1), r7.2) ⟨[3, 28, 29, 30], [3], [], []⟩ krf
   ·refine sim_exit ?_
    refine sq_x ?_
    refine kq_x ?_
    refine bq_hit ?_
    refine sq_nk ⟨[], [], [], []⟩ ⟨[], []⟩ krf ?_
    refine sim_run Try.fm ⟨[2], [], [], []⟩ ⟨[(2, B true)], []⟩ krf ?_
    refine sim_ret ?_
    exact rq_ret (.id) krf krf krf
def g_tariff_inside (n : Nat) (a0n : Int) (a1least : Int) (a2greatest : Int) : Option Bool :=
 cond (leI a1least a0n)
  (some (leI a0n a2greatest))
  (some false)
theorem g_tariff_inside_ok (n : Nat) (a0n : Int) (a1least : Int) (a2greatest : Int) : ∀ r, g_tariff_inside n a0n a1least a2greatest = some r → PCall Try.prog 71 [I a0n, I a1least, I a2greatest] (.ret (B r)) := by
 refine pcall_sim (X := fun r : Bool => AEnd.ret (B r)) Try.func71 rfl Try.ntmps71 rfl ?_
 unfold g_tariff_inside
 refine sim_run Try.fm ⟨[0, 1, 2], [], [], []⟩ ⟨[(0, I a0n), (1, I a1least), (2, I a2greatest)], []⟩ krf ?_
 refine sim_seq ?_
 refine sim_reg ?_
 refine xs_run 4 krf ?_
 refine xs_split (leI a1least a0n) (fun h1 => ?_) (fun h1 => ?_)
 ·refine xs_one (want_tt krf h1) krf ?_
  refine xs_run 4 krf ?_
  refine xs_end ?_
  refine sq_nk ⟨[6], [], [], []⟩ ⟨[(6, B (leI a0n a2greatest))], []⟩ krf ?_
  refine sim_ret ?_
  exact rq_ret (.id) krf krf krf
 ·refine xs_no (want_tf krf h1) krf ?_
  refine xs_run 4 krf ?_
  refine xs_end ?_
  refine sq_nk ⟨[6], [], [], []⟩ ⟨[(6, B false)], []⟩ krf ?_
  refine sim_ret ?_
  exact rq_ret (.id) krf krf krf
def g_tariff_isWhole (n : Nat) (a0kind : Int) : Option Bool :=
 cond (eqI a0kind 5)
  (some true)
  (some (eqI a0kind 6))
theorem g_tariff_isWhole_ok (n : Nat) (a0kind : Int) : ∀ r, g_tariff_isWhole n a0kind = some r → PCall Try.prog 72 [I a0kind] (.ret (B r)) := by
 refine pcall_sim (X := fun r : Bool => AEnd.ret (B r)) Try.func72 rfl Try.ntmps72 rfl ?_
 unfold g_tariff_isWhole
 refine sim_run Try.fm ⟨[0], [], [], []⟩ ⟨[(0, I a0kind)], []⟩ krf ?_
 refine sim_seq ?_
 refine sim_reg ?_
 refine xs_run 3 krf ?_
 refine xs_split (eqI a0kind 5) (fun h1 => ?_) (fun h1 => ?_)
 ·refine xs_no (want_ft krf h1) krf ?_
  refine xs_run 3 krf ?_
  refine xs_end ?_
  refine sq_nk ⟨[2], [], [], []⟩ ⟨[(2, B true)], []⟩ krf ?_
  refine sim_ret ?_
  exact rq_ret (.id) krf krf krf
 ·refine xs_one (want_ff krf h1) krf ?_
  refine xs_run 3 krf ?_
  refine xs_end ?_
  refine sq_nk ⟨[2], [], [], []⟩ ⟨[(2, B (eqI a0kind 6))], []⟩ krf ?_
  refine sim_ret ?_
  exact rq_ret (.id) krf krf krf
def g_tariff_isTime (n : Nat) (a0kind : Int) : Option Bool :=
 cond (eqI a0kind 3)
  (some true)
  (some (eqI a0kind 4))
theorem g_tariff_isTime_ok (n : Nat) (a0kind : Int) : ∀ r, g_tariff_isTime n a0kind = some r → PCall Try.prog 73 [I a0kind] (.ret (B r)) := by
 refine pcall_sim (X := fun r : Bool => AEnd.ret (B r)) Try.func73 rfl Try.ntmps73 rfl ?_
 unfold g_tariff_isTime
 refine sim_run Try.fm ⟨[0], [], [], []⟩ ⟨[(0, I a0kind)], []⟩ krf ?_
 refine sim_seq ?_
 refine sim_reg ?_
 refine xs_run 3 krf ?_
 refine xs_split (eqI a0kind 3) (fun h1 => ?_) (fun h1 => ?_)
 ·refine xs_no (want_ft krf h1) krf ?_
  refine xs_run 3 krf ?_
  refine xs_end ?_
  refine sq_nk ⟨[2], [], [], []⟩ ⟨[(2, B true)], []⟩ krf ?_
  refine sim_ret ?_
  exact rq_ret (.id) krf krf krf
 ·refine xs_one (want_ff krf h1) krf ?_
  refine xs_run 3 krf ?_
  refine xs_end ?_
  refine sq_nk ⟨[2], [], [], []⟩ ⟨[(2, B (eqI a0kind 4))], []⟩ krf ?_
  refine sim_ret ?_
  exact rq_ret (.id) krf krf krf
def g_tariff_validArticle (n : Nat) (a0a : GArticle) : Option Bool :=
 ((g_tariff_inside n a0a.Kind 1 6).bind fun r2 =>
 cond (!r2)
  (some true)
  ((g_tariff_inside n a0a.From 0 1439).bind fun r4 =>
  cond (!r4)
   (some true)
   ((g_tariff_inside n a0a.To (wi (a0a.From + 1)) 1440).bind fun r6 =>
   cond (!r6)
    (some true)
    ((g_tariff_inside n a0a.Days 1 7).bind fun r8 =>
    some (!r8))))).bind fun j1 =>
 cond j1
  (some false)
  (((g_tariff_isWhole n a0a.Kind).bind fun r10 =>
  cond r10
   (cond (!eqI a0a.From 0)
    (some true)
    (cond (!eqI a0a.To 1440)
     (some true)
     (some (!eqI a0a.Days 7))))
   (some false)).bind fun j9 =>
  cond j9
   (some false)
   ((cond (eqI a0a.Kind 6)
    (some 10000)
    (some 1000000)).bind fun j14 =>
   (g_tariff_inside n a0a.Price 0 j14).bind fun r15 =>
   cond (!r15)
    (some false)
    ((g_tariff_isTime n a0a.Kind).bind fun r16 =>
    cond r16
     (((g_tariff_inside n a0a.Unit 1 1440).bind fun r18 =>
     cond r18
      ((g_tariff_inside n a0a.Free 0 1440).bind fun r20 =>
      some r20)
      (some false)).bind fun j17 =>
     some j17)
     (cond (eqI a0a.Unit 0)
      (some (eqI a0a.Free 0))
      (some false)))))
theorem g_tariff_validArticle_ok (n : Nat) (a0a : GArticle) : ∀ r, g_tariff_validArticle n a0a = some r → PCall Try.prog 40 [ag (GArticle.cs a0a)] (.ret (B r)) := by
 refine pcall_sim (X := fun r : Bool => AEnd.ret (B r)) Try.func40 rfl Try.ntmps40 rfl ?_
 unfold g_tariff_validArticle
 refine sim_run Try.fm ⟨[1], [1], [], []⟩ ⟨[(1, .ptr 1 0)], [(1, .box 44 (bxc (GArticle.cs a0a)))]⟩ krf ?_
 refine sim_seq ?_
 refine sim_bind (fun j1 => ⟨[(1, .ptr 1 0), (28, B j1)], [(1, .box 44 (bxc (GArticle.cs a0a)))]⟩ : Bool → St) ?_ ?_
 ·refine sim_reg ?_
  refine xs_run 2 krf ?_
  refine xs_call [] krf (g_tariff_inside_ok n a0a.Kind 1 6) krf krf (fun _ => by kernel_rfl) (fun r2 => ?_)
  refine xs_run 2 krf ?_
  refine xs_split (!r2) (fun h3 => ?_) (fun h3 => ?_)
  ·refine xs_no (want_ft krf h3) krf ?_
   refine xs_run 19 krf ?_
   refine xs_end ?_
   exact nq_n true ⟨[1, 28], [1], [], []⟩ krf
  ·refine xs_one (want_ff krf h3) krf ?_
   refine xs_run 1 krf ?_
   refine xs_call [] krf (g_tariff_inside_ok n a0a.From 0 1439) krf krf (fun _ => by kernel_rfl) (fun r4 => ?_)
   refine xs_run 3 krf ?_
   refine xs_split (!r4) (fun h5 => ?_) (fun h5 => ?_)
   ·refine xs_no (want_ft krf h5) krf ?_
    refine xs_run 13 krf ?_
    refine xs_end ?_
    exact nq_n true ⟨[1, 28], [1], [], []⟩ krf
   ·refine xs_one (want_ff krf h5) krf ?_
    refine xs_run 4 krf ?_
    refine xs_call [] krf (g_tariff_inside_ok n a0a.To (wi (a0a.From + 1)) 1440) krf krf (fun _ => by kernel_rfl) (fun r6 => ?_)
    refine xs_run 3 krf ?_
    refine xs_split (!r6) (fun h7 => ?_) (fun h7 => ?_)
    ·refine xs_no (want_ft krf h7) krf ?_
     refine xs_run 4 krf ?_
     refine xs_end ?_
     exact nq_n true ⟨[1, 28], [1], [], []⟩ krf
    ·refine xs_one (want_ff krf h7) krf ?_
     refine xs_run 1 krf ?_
     refine xs_call [] krf (g_tariff_inside_ok n a0a.Days 1 7) krf krf (fun _ => by kernel_rfl) (fun r8 => ?_)
     refine xs_run 2 krf ?_
     refine xs_end ?_
     exact nq_n (!r8) ⟨[1, 28], [1], [], []⟩ krf
 ·rintro j1
  refine sim_cond j1 krf ?_ ?_
  ·refine sim_run Try.fm ⟨[2], [], [], []⟩ ⟨[(2, B false)], []⟩ krf ?_
   refine sim_ret ?_
   refine sq_r ?_
   exact rq_ret (.id) krf krf krf
  ·refine sim_skip ?_
   refine sq_nk ⟨[1], [1], [], []⟩ ⟨[(1, .ptr 1 0)], [(1, .box 44 (bxc (GArticle.cs a0a)))]⟩ krf ?_
   refine sim_seq ?_
   refine sim_bind (fun j9 => ⟨[(1, .ptr 1 0), (46, B j9)], [(1, .box 44 (bxc (GArticle.cs a0a)))]⟩ : Bool → St) ?_ ?_
   ·refine sim_reg ?_
    refine xs_run 2 krf ?_
    refine xs_call [] krf (g_tariff_isWhole_ok n a0a.Kind) krf krf (fun _ => by kernel_rfl) (fun r10 => ?_)
    refine xs_run 1 krf ?_
    refine xs_split r10 (fun h11 => ?_) (fun h11 => ?_)
    ·refine xs_one (want_tt krf h11) krf ?_
     refine xs_run 3 krf ?_
     refine xs_split (!eqI a0a.From 0) (fun h12 => ?_) (fun h12 => ?_)
     ·refine xs_no (want_ft krf h12) krf ?_
      refine xs_run 9 krf ?_
      refine xs_end ?_
      exact nq_n true ⟨[1, 46], [1], [], []⟩ krf
     ·refine xs_one (want_ff krf h12) krf ?_
      refine xs_run 4 krf ?_
      refine xs_split (!eqI a0a.To 1440) (fun h13 => ?_) (fun h13 => ?_)
      ·refine xs_no (want_ft krf h13) krf ?_
       refine xs_run 4 krf ?_
       refine xs_end ?_
       exact nq_n true ⟨[1, 46], [1], [], []⟩ krf
      ·refine xs_one (want_ff krf h13) krf ?_
       refine xs_run 4 krf ?_
       refine xs_end ?_
       exact nq_n (!eqI a0a.Days 7) ⟨[1, 46], [1], [], []⟩ krf
    ·refine xs_no (want_tf krf h11) krf ?_
     refine xs_run 13 krf ?_
     refine xs_end ?_
     exact nq_n false ⟨[1, 46], [1], [], []⟩ krf
   ·rintro j9
    refine sim_cond j9 krf ?_ ?_
    ·refine sim_run Try.fm ⟨[2], [], [], []⟩ ⟨[(2, B false)], []⟩ krf ?_
     refine sim_ret ?_
     refine sq_r ?_
     exact rq_ret (.id) krf krf krf
    ·refine sim_skip ?_
     refine sq_nk ⟨[1], [1], [], []⟩ ⟨[(1, .ptr 1 0)], [(1, .box 44 (bxc (GArticle.cs a0a)))]⟩ krf ?_
     refine sim_run Try.fm ⟨[1, 3], [1], [], []⟩ ⟨[(1, .ptr 1 0), (3, I 1000000)], [(1, .box 44 (bxc (GArticle.cs a0a)))]⟩ krf ?_
     refine sim_bind (fun j14 => ⟨[(1, .ptr 1 0), (3, I j14)], [(1, .box 44 (bxc (GArticle.cs a0a)))]⟩ : Int → St) ?_ ?_
     ·refine sim_run Try.fm ⟨[1, 3, 49], [1], [], []⟩ ⟨[(1, .ptr 1 0), (3, I 1000000), (49, B (eqI a0a.Kind 6))], [(1, .box 44 (bxc (GArticle.cs a0a)))]⟩ krf ?_
      refine sim_cond (eqI a0a.Kind 6) krf ?_ ?_
      ·refine sim_last Try.fm krf ?_
       exact nq_n 10000 ⟨[1, 3], [1], [], []⟩ krf
      ·refine sim_skip ?_
       exact nq_n 1000000 ⟨[1, 3], [1], [], []⟩ krf
     ·rintro j14
      refine sim_seq ?_
      refine sim_seq ?_
      refine sim_reg ?_
      refine xs_run 3 krf ?_
      refine xs_call [] krf (g_tariff_inside_ok n a0a.Price 0 j14) krf krf (fun _ => by kernel_rfl) (fun r15 => ?_)
      refine xs_run 1 krf ?_
      refine xs_end ?_
      refine sq_nk ⟨[1, 54], [1], [], []⟩ ⟨[(1, .ptr 1 0), (54, B (!r15))], [(1, .box 44 (bxc (GArticle.cs a0a)))]⟩ krf ?_
      refine sim_cond (!r15) krf ?_ ?_
      ·refine sim_run Try.fm ⟨[2], [], [], []⟩ ⟨[(2, B false)], []⟩ krf ?_
       refine sim_ret ?_
       refine sq_r ?_
       exact rq_ret (.id) krf krf krf
      ·refine sim_skip ?_
       refine sq_nk ⟨[1], [1], [], []⟩ ⟨[(1, .ptr 1 0)], [(1, .box 44 (bxc (GArticle.cs a0a)))]⟩ krf ?_
       refine sim_seq ?_
       refine sim_seq ?_
       refine sim_reg ?_
       refine xs_run 2 krf ?_
       refine xs_call [] krf (g_tariff_isTime_ok n a0a.Kind) krf krf (fun _ => by kernel_rfl) (fun r16 => ?_)
       refine xs_end ?_
       refine sq_nk ⟨[1, 57], [1], [], []⟩ ⟨[(1, .ptr 1 0), (57, B r16)], [(1, .box 44 (bxc (GArticle.cs a0a)))]⟩ krf ?_
       refine sim_cond r16 krf ?_ ?_
       ·refine sim_bind (fun j17 => ⟨[(2, B j17)], []⟩ : Bool → St) ?_ ?_
        ·refine sim_reg ?_
         refine xs_run 2 krf ?_
         refine xs_call [] krf (g_tariff_inside_ok n a0a.Unit 1 1440) krf krf (fun _ => by kernel_rfl) (fun r18 => ?_)
         refine xs_run 1 krf ?_
         refine xs_split r18 (fun h19 => ?_) (fun h19 => ?_)
         ·refine xs_one (want_tt krf h19) krf ?_
          refine xs_run 1 krf ?_
          refine xs_call [] krf (g_tariff_inside_ok n a0a.Free 0 1440) krf krf (fun _ => by kernel_rfl) (fun r20 => ?_)
          refine xs_run 2 krf ?_
          refine xs_end ?_
          exact nq_n r20 ⟨[2], [], [], []⟩ krf
         ·refine xs_no (want_tf krf h19) krf ?_
          refine xs_run 4 krf ?_
          refine xs_end ?_
          exact nq_n false ⟨[2], [], [], []⟩ krf
        ·rintro j17
         refine sim_ret ?_
         refine sq_r ?_
         exact rq_ret (.id) krf krf krf
       ·refine sim_skip ?_
        refine sq_nk ⟨[1], [1], [], []⟩ ⟨[(1, .ptr 1 0)], [(1, .box 44 (bxc (GArticle.cs a0a)))]⟩ krf ?_
        refine sim_seq ?_
        refine sim_reg ?_
        refine xs_run 4 krf ?_
        refine xs_split (eqI a0a.Unit 0) (fun h21 => ?_) (fun h21 => ?_)
        ·refine xs_one (want_tt krf h21) krf ?_
         refine xs_run 4 krf ?_
         refine xs_end ?_
         refine sq_nk ⟨[2], [], [], []⟩ ⟨[(2, B (eqI a0a.Free 0))], []⟩ krf ?_
         refine sim_ret ?_
         exact rq_ret (.id) krf krf krf
        ·refine xs_no (want_tf krf h21) krf ?_
         refine xs_run 4 krf ?_
         refine xs_end ?_
         refine sq_nk ⟨[2], [], [], []⟩ ⟨[(2, B false)], []⟩ krf ?_
         refine sim_ret ?_
         exact rq_ret (.id) krf krf krf
def g_tariff_Valid_l4 (n : Nat) (a0t : GTariff) (recl4 : (Int × Int) → Option Bool) (l4_1 : Int) (l4_2 : Int) : Option Bool :=
 cond (ltI l4_2 (lenI (List.map GArticle.cs a0t.Articles)))
  ((getI a0t.Articles l4_2).bind fun x5 =>
  (g_tariff_validArticle n x5).bind fun r6 =>
  cond (!r6)
   (some false)
   (cond (eqI x5.Kind 6)
    (recl4 (wi (l4_1 + 1), wi (l4_2 + 1)))
    (recl4 (l4_1, wi (l4_2 + 1)))))
  (some (leI l4_1 1))
def g_tariff_Valid (n : Nat) (a0t : GTariff) : Option Bool :=
 ((g_parser_Valid n (⟨1, [], 0, 0, [GNode.cs (⟨2, a0t.Name, 3, 0, []⟩ : GNode)]⟩ : GNode)).bind fun r2 =>
 cond (!r2)
  (some true)
  (some (ltI 12 (lenI (List.map GArticle.cs a0t.Articles))))).bind fun j1 =>
 cond j1
  (some false)
  (loopN (fun recl4 (l4_1, l4_2) => g_tariff_Valid_l4 n a0t recl4 l4_1 l4_2) n (0, 0))
theorem g_tariff_Valid_ok (n : Nat) (a0t : GTariff) : ∀ r, g_tariff_Valid n a0t = some r → PCall Try.prog 26 [ag (GTariff.cs a0t)] (.ret (B r)) := by
 refine pcall_sim (X := fun r : Bool => AEnd.ret (B r)) Try.func26 rfl Try.ntmps26 rfl ?_
 unfold g_tariff_Valid
 refine sim_run Try.fm ⟨[1], [1], [], []⟩ ⟨[(1, .ptr 1 0)], [(1, .box 24 (bxc (GTariff.cs a0t)))]⟩ krf ?_
 refine sim_run Try.fm ⟨[1, 3], [1, 3], [], [(3, [.id, .id, .id, .id, .sl 5])]⟩ ⟨[(1, .ptr 1 0), (3, .ptr 3 0)], [(1, .box 24 (bxc (GTariff.cs a0t))), (3, .box 74 (bxc (GNode.cs ⟨2, a0t.Name, 3, 0, []⟩)))]⟩ krf ?_
 refine sim_seq ?_
 refine sim_bind (fun j1 => ⟨[(1, .ptr 1 0), (20, B j1)], [(1, .box 24 (bxc (GTariff.cs a0t)))]⟩ : Bool → St) ?_ ?_
 ·refine sim_reg ?_
  refine xs_run 3 krf ?_
  refine xs_call [.agg [.id, .id, .id, .id, .sl 5]] krf (g_parser_Valid_ok n (⟨1, [], 0, 0, [GNode.cs (⟨2, a0t.Name, 3, 0, []⟩ : GNode)]⟩ : GNode)) krf krf (fun _ => by kernel_rfl) (fun r2 => ?_)
  refine xs_run 2 krf ?_
  refine xs_split (!r2) (fun h3 => ?_) (fun h3 => ?_)
  ·refine xs_no (want_ft krf h3) krf ?_
   refine xs_run 4 krf ?_
   refine xs_end ?_
   exact nq_n true ⟨[1, 20], [1], [], []⟩ krf
  ·refine xs_one (want_ff krf h3) krf ?_
   refine xs_run 4 krf ?_
   refine xs_end ?_
   exact nq_n (ltI 12 (lenI (List.map GArticle.cs a0t.Articles))) ⟨[1, 20], [1], [], []⟩ krf
 ·rintro j1
  refine sim_cond j1 krf ?_ ?_
  ·refine sim_run Try.fm ⟨[2], [], [], []⟩ ⟨[(2, B false)], []⟩ krf ?_
   refine sim_ret ?_
   refine sq_r ?_
   exact rq_ret (.id) krf krf krf
  ·refine sim_skip ?_
   refine sq_nk ⟨[1], [1], [], []⟩ ⟨[(1, .ptr 1 0)], [(1, .box 24 (bxc (GTariff.cs a0t)))]⟩ krf ?_
   refine sim_run Try.fm ⟨[1, 4], [1], [], []⟩ ⟨[(1, .ptr 1 0), (4, I 0)], [(1, .box 24 (bxc (GTariff.cs a0t)))]⟩ krf ?_
   refine sim_seq ?_
   refine sim_run Try.fm ⟨[4, 22, 23, 24], [], [], []⟩ ⟨[(4, I 0), (22, .p (.sl 7 (List.map GArticle.cs a0t.Articles))), (23, I (lenI (List.map GArticle.cs a0t.Articles))), (24, I 0)], []⟩ krf ?_
   refine sim_block ?_
   refine sim_loop (fun (l4_1, l4_2) => ⟨[(4, I l4_1), (22, .p (.sl 7 (List.map GArticle.cs a0t.Articles))), (23, I (lenI (List.map GArticle.cs a0t.Articles))), (24, I l4_2)], []⟩ : (Int × Int) → St) (weak_shr (K := ⟨[4, 22, 23, 24], [], [], []⟩) krf) ?_
   rintro recl4 ⟨l4_1, l4_2⟩
   show SimE (g_tariff_Valid_l4 n a0t recl4 l4_1 l4_2) _ _ _ _ _ _
   unfold g_tariff_Valid_l4
   refine sim_run Try.fm ⟨[4, 22, 23, 24, 25], [], [], []⟩ ⟨[(4, I l4_1), (22, .p (.sl 7 (List.map GArticle.cs a0t.Articles))), (23, I (lenI (List.map GArticle.cs a0t.Articles))), (24, I l4_2), (25, B (ltI l4_2 (lenI (List.map GArticle.cs a0t.Articles))))], []⟩ krf ?_
   refine sim_seq ?_
   refine sim_cond (ltI l4_2 (lenI (List.map GArticle.cs a0t.Articles))) krf ?_ ?_
   ·refine sim_skip ?_
    refine sq_nk ⟨[4, 22, 23, 24], [], [], []⟩ ⟨[(4, I l4_1), (22, .p (.sl 7 (List.map GArticle.cs a0t.Articles))), (23, I (lenI (List.map GArticle.cs a0t.Articles))), (24, I l4_2)], []⟩ krf ?_
    refine sim_seq ?_
    refine sim_block ?_
    refine sim_seq ?_
    refine sim_reg ?_
    refine xs_get krf krf (aop_idx (e := 44) (S := 7) (enc := GArticle.cs) (l := a0t.Articles) (k := .i64) (n := l4_2) (sv := .p (.sl 7 (List.map GArticle.cs a0t.Articles))) rfl krf krf krf krf krf) (fun x5 => ?_)
    refine xs_run 3 krf ?_
    refine xs_end ?_
    refine sq_nk ⟨[4, 6, 22, 23, 24], [6], [], []⟩ ⟨[(4, I l4_1), (6, .ptr 6 0), (22, .p (.sl 7 (List.map GArticle.cs a0t.Articles))), (23, I (lenI (List.map GArticle.cs a0t.Articles))), (24, I l4_2)], [(6, .box 44 (bxc (GArticle.cs x5)))]⟩ krf ?_
    refine sim_seq ?_
    refine sim_seq ?_
    refine sim_reg ?_
    refine xs_run 1 krf ?_
    refine xs_call [] krf (g_tariff_validArticle_ok n x5) krf krf (fun _ => by kernel_rfl) (fun r6 => ?_)
    refine xs_run 1 krf ?_
    refine xs_end ?_
    refine sq_nk ⟨[4, 6, 22, 23, 24, 30], [6], [], []⟩ ⟨[(4, I l4_1), (6, .ptr 6 0), (22, .p (.sl 7 (List.map GArticle.cs a0t.Articles))), (23, I (lenI (List.map GArticle.cs a0t.Articles))), (24, I l4_2), (30, B (!r6))], [(6, .box 44 (bxc (GArticle.cs x5)))]⟩ krf ?_
    refine sim_cond (!r6) krf ?_ ?_
    ·refine sim_run Try.fm ⟨[2], [], [], []⟩ ⟨[(2, B false)], []⟩ krf ?_
     refine sim_ret ?_
     refine sq_r ?_
     refine bq_r ?_
     refine sq_r ?_
     refine kq_r ?_
     refine bq_r ?_
     refine sq_r ?_
     exact rq_ret (.id) krf krf krf
    ·refine sim_skip ?_
     refine sq_nk ⟨[4, 6, 22, 23, 24], [6], [], []⟩ ⟨[(4, I l4_1), (6, .ptr 6 0), (22, .p (.sl 7 (List.map GArticle.cs a0t.Articles))), (23, I (lenI (List.map GArticle.cs a0t.Articles))), (24, I l4_2)], [(6, .box 44 (bxc (GArticle.cs x5)))]⟩ krf ?_
     refine sim_run Try.fm ⟨[4, 22, 23, 24, 33], [], [], []⟩ ⟨[(4, I l4_1), (22, .p (.sl 7 (List.map GArticle.cs a0t.Articles))), (23, I (lenI (List.map GArticle.cs a0t.Articles))), (24, I l4_2), (33, B (eqI x5.Kind 6))], []⟩ krf ?_
     refine sim_cond (eqI x5.Kind 6) krf ?_ ?_
     ·refine sim_last Try.fm krf ?_
      refine bq_n ?_
      refine sq_nk ⟨[4, 22, 23, 24], [], [], []⟩ ⟨[(4, I (wi (l4_1 + 1))), (22, .p (.sl 7 (List.map GArticle.cs a0t.Articles))), (23, I (lenI (List.map GArticle.cs a0t.Articles))), (24, I l4_2)], []⟩ krf ?_
      refine sim_last Try.fm krf ?_
      exact kq_n (wi (l4_1 + 1), wi (l4_2 + 1)) ⟨[4, 22, 23, 24], [], [], []⟩ krf
     ·refine sim_skip ?_
      refine bq_n ?_
      refine sq_nk ⟨[4, 22, 23, 24], [], [], []⟩ ⟨[(4, I l4_1), (22, .p (.sl 7 (List.map GArticle.cs a0t.Articles))), (23, I (lenI (List.map GArticle.cs a0t.Articles))), (24, I l4_2)], []⟩ krf ?_
      refine sim_last Try.fm krf ?_
      exact kq_n (l4_1, wi (l4_2 + 1)) ⟨[4, 22, 23, 24], [], [], []⟩ krf
   ·refine sim_exit ?_
    refine sq_x ?_
    refine kq_x ?_
    refine bq_hit ?_
    refine sq_nk ⟨[4], [], [], []⟩ ⟨[(4, I l4_1)], []⟩ krf ?_
    refine sim_run Try.fm ⟨[2], [], [], []⟩ ⟨[(2, B (leI l4_1 1))], []⟩ krf ?_
    refine sim_ret ?_
    exact rq_ret (.id) krf krf krf
def g_days_inside (n : Nat) (a0n : Int) (a1least : Int) (a2greatest : Int) : Option Bool :=
 cond (leI a1least a0n)
  (some (leI a0n a2greatest))
  (some false)
theorem g_days_inside_ok (n : Nat) (a0n : Int) (a1least : Int) (a2greatest : Int) : ∀ r, g_days_inside n a0n a1least a2greatest = some r → PCall Try.prog 41 [I a0n, I a1least, I a2greatest] (.ret (B r)) := by
 refine pcall_sim (X := fun r : Bool => AEnd.ret (B r)) Try.func41 rfl Try.ntmps41 rfl ?_
 unfold g_days_inside
 refine sim_run Try.fm ⟨[0, 1, 2], [], [], []⟩ ⟨[(0, I a0n), (1, I a1least), (2, I a2greatest)], []⟩ krf ?_
 refine sim_seq ?_
 refine sim_reg ?_
 refine xs_run 4 krf ?_
 refine xs_split (leI a1least a0n) (fun h1 => ?_) (fun h1 => ?_)
 ·refine xs_one (want_tt krf h1) krf ?_
  refine xs_run 4 krf ?_
  refine xs_end ?_
  refine sq_nk ⟨[6], [], [], []⟩ ⟨[(6, B (leI a0n a2greatest))], []⟩ krf ?_
  refine sim_ret ?_
  exact rq_ret (.id) krf krf krf
 ·refine xs_no (want_tf krf h1) krf ?_
  refine xs_run 4 krf ?_
  refine xs_end ?_
  refine sq_nk ⟨[6], [], [], []⟩ ⟨[(6, B false)], []⟩ krf ?_
  refine sim_ret ?_
  exact rq_ret (.id) krf krf krf
def g_days_keys_1 (n : Nat) (a0c : GChange) : Option Int :=
 some a0c.At
theorem g_days_keys_1_ok (n : Nat) (a0c : GChange) : ∀ r, g_days_keys_1 n a0c = some r → PCall Try.prog 74 [ag (GChange.cs a0c)] (.ret (I r)) := by
 refine pcall_sim (X := fun r : Int => AEnd.ret (I r)) Try.func74 rfl Try.ntmps74 rfl ?_
 unfold g_days_keys_1
 refine sim_run Try.fm ⟨[1], [1], [], []⟩ ⟨[(1, .ptr 1 0)], [(1, .box 78 (bxc (GChange.cs a0c)))]⟩ krf ?_
 refine sim_run Try.fm ⟨[2], [], [], []⟩ ⟨[(2, I a0c.At)], []⟩ krf ?_
 refine sim_ret ?_
 exact rq_ret (.id) krf krf krf
def g_dv_api_Change_l1 (n : Nat) (a0list : List GChange) (a1most : Int) (recl1 : (Int × Int) → Option Bool) (l1_1 : Int) (l1_2 : Int) : Option Bool :=
 cond (ltI l1_2 (lenI (List.map GChange.cs a0list)))
  ((getI a0list l1_2).bind fun x2 =>
  (g_days_keys_1 n x2).bind fun r3 =>
  (cond (leI r3 l1_1)
   (some true)
   (some (ltI a1most r3))).bind fun j4 =>
  cond j4
   (some false)
   ((g_days_keys_1 n x2).bind fun r6 =>
   recl1 (r6, wi (l1_2 + 1))))
  (some true)
def g_dv_api_Change (n : Nat) (a0list : List GChange) (a1most : Int) : Option Bool :=
 loopN (fun recl1 (l1_1, l1_2) => g_dv_api_Change_l1 n a0list a1most recl1 l1_1 l1_2) n ((-1), 0)
theorem g_dv_api_Change_ok (n : Nat) (a0list : List GChange) (a1most : Int) : ∀ r, g_dv_api_Change n a0list a1most = some r → PCall Try.prog 43 [.p (.sl 2 (List.map GChange.cs a0list)), I a1most, .p (.val (.func (.func 74) #[] #[]))] (.ret (B r)) := by
 refine pcall_sim (X := fun r : Bool => AEnd.ret (B r)) Try.func43 rfl Try.ntmps43 rfl ?_
 unfold g_dv_api_Change
 refine sim_run Try.fm ⟨[0, 1, 2], [], [], []⟩ ⟨[(0, .p (.sl 2 (List.map GChange.cs a0list))), (1, I a1most), (2, .p (.val (.func (.func 74) #[] #[])))], []⟩ krf ?_
 refine sim_run Try.fm ⟨[0, 1, 2, 7], [], [], []⟩ ⟨[(0, .p (.sl 2 (List.map GChange.cs a0list))), (1, I a1most), (2, .p (.val (.func (.func 74) #[] #[]))), (7, I (-1))], []⟩ krf ?_
 refine sim_seq ?_
 refine sim_run Try.fm ⟨[1, 2, 7, 11, 12, 13], [], [], []⟩ ⟨[(1, I a1most), (2, .p (.val (.func (.func 74) #[] #[]))), (7, I (-1)), (11, .p (.sl 2 (List.map GChange.cs a0list))), (12, I (lenI (List.map GChange.cs a0list))), (13, I 0)], []⟩ krf ?_
 refine sim_block ?_
 refine sim_loop (fun (l1_1, l1_2) => ⟨[(1, I a1most), (2, .p (.val (.func (.func 74) #[] #[]))), (7, I l1_1), (11, .p (.sl 2 (List.map GChange.cs a0list))), (12, I (lenI (List.map GChange.cs a0list))), (13, I l1_2)], []⟩ : (Int × Int) → St) (weak_shr (K := ⟨[1, 2, 7, 11, 12, 13], [], [], []⟩) krf) ?_
 rintro recl1 ⟨l1_1, l1_2⟩
 show SimE (g_dv_api_Change_l1 n a0list a1most recl1 l1_1 l1_2) _ _ _ _ _ _
 unfold g_dv_api_Change_l1
 refine sim_run Try.fm ⟨[1, 2, 7, 11, 12, 13, 14], [], [], []⟩ ⟨[(1, I a1most), (2, .p (.val (.func (.func 74) #[] #[]))), (7, I l1_1), (11, .p (.sl 2 (List.map GChange.cs a0list))), (12, I (lenI (List.map GChange.cs a0list))), (13, I l1_2), (14, B (ltI l1_2 (lenI (List.map GChange.cs a0list))))], []⟩ krf ?_
 refine sim_seq ?_
 refine sim_cond (ltI l1_2 (lenI (List.map GChange.cs a0list))) krf ?_ ?_
 ·refine sim_skip ?_
  refine sq_nk ⟨[1, 2, 7, 11, 12, 13], [], [], []⟩ ⟨[(1, I a1most), (2, .p (.val (.func (.func 74) #[] #[]))), (7, I l1_1), (11, .p (.sl 2 (List.map GChange.cs a0list))), (12, I (lenI (List.map GChange.cs a0list))), (13, I l1_2)], []⟩ krf ?_
  refine sim_seq ?_
  refine sim_block ?_
  refine sim_seq ?_
  refine sim_reg ?_
  refine xs_get krf krf (aop_idx (e := 78) (S := 2) (enc := GChange.cs) (l := a0list) (k := .i64) (n := l1_2) (sv := .p (.sl 2 (List.map GChange.cs a0list))) rfl krf krf krf krf krf) (fun x2 => ?_)
  refine xs_run 3 krf ?_
  refine xs_end ?_
  refine sq_nk ⟨[1, 2, 7, 9, 11, 12, 13], [9], [], []⟩ ⟨[(1, I a1most), (2, .p (.val (.func (.func 74) #[] #[]))), (7, I l1_1), (9, .ptr 9 0), (11, .p (.sl 2 (List.map GChange.cs a0list))), (12, I (lenI (List.map GChange.cs a0list))), (13, I l1_2)], [(9, .box 78 (bxc (GChange.cs x2)))]⟩ krf ?_
  refine sim_seq ?_
  refine sim_seq ?_
  refine sim_reg ?_
  refine xs_run 2 krf ?_
  refine xs_call [] krf (g_days_keys_1_ok n x2) krf krf (fun _ => by kernel_rfl) (fun r3 => ?_)
  refine xs_run 1 krf ?_
  refine xs_end ?_
  refine sq_nk ⟨[1, 2, 7, 9, 10, 11, 12, 13], [9], [], []⟩ ⟨[(1, I a1most), (2, .p (.val (.func (.func 74) #[] #[]))), (7, I l1_1), (9, .ptr 9 0), (10, I r3), (11, .p (.sl 2 (List.map GChange.cs a0list))), (12, I (lenI (List.map GChange.cs a0list))), (13, I l1_2)], [(9, .box 78 (bxc (GChange.cs x2)))]⟩ krf ?_
  refine sim_bind (fun j4 => ⟨[(1, I a1most), (2, .p (.val (.func (.func 74) #[] #[]))), (9, .ptr 9 0), (11, .p (.sl 2 (List.map GChange.cs a0list))), (12, I (lenI (List.map GChange.cs a0list))), (13, I l1_2), (27, B j4)], [(9, .box 78 (bxc (GChange.cs x2)))]⟩ : Bool → St) ?_ ?_
  ·refine sim_reg ?_
   refine xs_run 4 krf ?_
   refine xs_split (leI r3 l1_1) (fun h5 => ?_) (fun h5 => ?_)
   ·refine xs_no (want_ft krf h5) krf ?_
    refine xs_run 3 krf ?_
    refine xs_end ?_
    exact nq_n true ⟨[1, 2, 9, 11, 12, 13, 27], [9], [], []⟩ krf
   ·refine xs_one (want_ff krf h5) krf ?_
    refine xs_run 3 krf ?_
    refine xs_end ?_
    exact nq_n (ltI a1most r3) ⟨[1, 2, 9, 11, 12, 13, 27], [9], [], []⟩ krf
  ·rintro j4
   refine sim_cond j4 krf ?_ ?_
   ·refine sim_run Try.fm ⟨[6], [], [], []⟩ ⟨[(6, B false)], []⟩ krf ?_
    refine sim_ret ?_
    refine sq_r ?_
    refine bq_r ?_
    refine sq_r ?_
    refine kq_r ?_
    refine bq_r ?_
    refine sq_r ?_
    exact rq_ret (.id) krf krf krf
   ·refine sim_skip ?_
    refine sq_nk ⟨[1, 2, 9, 11, 12, 13], [9], [], []⟩ ⟨[(1, I a1most), (2, .p (.val (.func (.func 74) #[] #[]))), (9, .ptr 9 0), (11, .p (.sl 2 (List.map GChange.cs a0list))), (12, I (lenI (List.map GChange.cs a0list))), (13, I l1_2)], [(9, .box 78 (bxc (GChange.cs x2)))]⟩ krf ?_
    refine sim_reg ?_
    refine xs_run 2 krf ?_
    refine xs_call [] krf (g_days_keys_1_ok n x2) krf krf (fun _ => by kernel_rfl) (fun r6 => ?_)
    refine xs_run 1 krf ?_
    refine xs_end ?_
    refine bq_n ?_
    refine sq_nk ⟨[1, 2, 7, 11, 12, 13], [], [], []⟩ ⟨[(1, I a1most), (2, .p (.val (.func (.func 74) #[] #[]))), (7, I r6), (11, .p (.sl 2 (List.map GChange.cs a0list))), (12, I (lenI (List.map GChange.cs a0list))), (13, I l1_2)], []⟩ krf ?_
    refine sim_last Try.fm krf ?_
    exact kq_n (r6, wi (l1_2 + 1)) ⟨[1, 2, 7, 11, 12, 13], [], [], []⟩ krf
 ·refine sim_exit ?_
  refine sq_x ?_
  refine kq_x ?_
  refine bq_hit ?_
  refine sq_nk ⟨[], [], [], []⟩ ⟨[], []⟩ krf ?_
  refine sim_run Try.fm ⟨[6], [], [], []⟩ ⟨[(6, B true)], []⟩ krf ?_
  refine sim_ret ?_
  exact rq_ret (.id) krf krf krf
def g_days_keys_2 (n : Nat) (a0day : Int) : Option Int :=
 some a0day
theorem g_days_keys_2_ok (n : Nat) (a0day : Int) : ∀ r, g_days_keys_2 n a0day = some r → PCall Try.prog 75 [I a0day] (.ret (I r)) := by
 refine pcall_sim (X := fun r : Int => AEnd.ret (I r)) Try.func75 rfl Try.ntmps75 rfl ?_
 unfold g_days_keys_2
 refine sim_run Try.fm ⟨[0], [], [], []⟩ ⟨[(0, I a0day)], []⟩ krf ?_
 refine sim_run Try.fm ⟨[2], [], [], []⟩ ⟨[(2, I a0day)], []⟩ krf ?_
 refine sim_ret ?_
 exact rq_ret (.id) krf krf krf
def g_dv_int_l1 (n : Nat) (a0list : List Int) (a1most : Int) (recl1 : (Int × Int) → Option Bool) (l1_1 : Int) (l1_2 : Int) : Option Bool :=
 cond (ltI l1_2 (lenI (List.map ci a0list)))
  ((getI a0list l1_2).bind fun x2 =>
  (g_days_keys_2 n x2).bind fun r3 =>
  (cond (leI r3 l1_1)
   (some true)
   (some (ltI a1most r3))).bind fun j4 =>
  cond j4
   (some false)
   ((g_days_keys_2 n x2).bind fun r6 =>
   recl1 (r6, wi (l1_2 + 1))))
  (some true)
def g_dv_int (n : Nat) (a0list : List Int) (a1most : Int) : Option Bool :=
 loopN (fun recl1 (l1_1, l1_2) => g_dv_int_l1 n a0list a1most recl1 l1_1 l1_2) n ((-1), 0)
theorem g_dv_int_ok (n : Nat) (a0list : List Int) (a1most : Int) : ∀ r, g_dv_int n a0list a1most = some r → PCall Try.prog 44 [.p (.sl 1 (List.map ci a0list)), I a1most, .p (.val (.func (.func 75) #[] #[]))] (.ret (B r)) := by
 refine pcall_sim (X := fun r : Bool => AEnd.ret (B r)) Try.func44 rfl Try.ntmps44 rfl ?_
 unfold g_dv_int
 refine sim_run Try.fm ⟨[0, 1, 2], [], [], []⟩ ⟨[(0, .p (.sl 1 (List.map ci a0list))), (1, I a1most), (2, .p (.val (.func (.func 75) #[] #[])))], []⟩ krf ?_
 refine sim_run Try.fm ⟨[0, 1, 2, 7], [], [], []⟩ ⟨[(0, .p (.sl 1 (List.map ci a0list))), (1, I a1most), (2, .p (.val (.func (.func 75) #[] #[]))), (7, I (-1))], []⟩ krf ?_
 refine sim_seq ?_
 refine sim_run Try.fm ⟨[1, 2, 7, 11, 12, 13], [], [], []⟩ ⟨[(1, I a1most), (2, .p (.val (.func (.func 75) #[] #[]))), (7, I (-1)), (11, .p (.sl 1 (List.map ci a0list))), (12, I (lenI (List.map ci a0list))), (13, I 0)], []⟩ krf ?_
 refine sim_block ?_
 refine sim_loop (fun (l1_1, l1_2) => ⟨[(1, I a1most), (2, .p (.val (.func (.func 75) #[] #[]))), (7, I l1_1), (11, .p (.sl 1 (List.map ci a0list))), (12, I (lenI (List.map ci a0list))), (13, I l1_2)], []⟩ : (Int × Int) → St) (weak_shr (K := ⟨[1, 2, 7, 11, 12, 13], [], [], []⟩) krf) ?_
 rintro recl1 ⟨l1_1, l1_2⟩
 show SimE (g_dv_int_l1 n a0list a1most recl1 l1_1 l1_2) _ _ _ _ _ _
 unfold g_dv_int_l1
 refine sim_run Try.fm ⟨[1, 2, 7, 11, 12, 13, 14], [], [], []⟩ ⟨[(1, I a1most), (2, .p (.val (.func (.func 75) #[] #[]))), (7, I l1_1), (11, .p (.sl 1 (List.map ci a0list))), (12, I (lenI (List.map ci a0list))), (13, I l1_2), (14, B (ltI l1_2 (lenI (List.map ci a0list))))], []⟩ krf ?_
 refine sim_seq ?_
 refine sim_cond (ltI l1_2 (lenI (List.map ci a0list))) krf ?_ ?_
 ·refine sim_skip ?_
  refine sq_nk ⟨[1, 2, 7, 11, 12, 13], [], [], []⟩ ⟨[(1, I a1most), (2, .p (.val (.func (.func 75) #[] #[]))), (7, I l1_1), (11, .p (.sl 1 (List.map ci a0list))), (12, I (lenI (List.map ci a0list))), (13, I l1_2)], []⟩ krf ?_
  refine sim_seq ?_
  refine sim_block ?_
  refine sim_seq ?_
  refine sim_reg ?_
  refine xs_get krf krf (aop_idx (e := 3) (S := 1) (enc := ci) (l := a0list) (k := .i64) (n := l1_2) (sv := .p (.sl 1 (List.map ci a0list))) rfl krf krf krf krf krf) (fun x2 => ?_)
  refine xs_run 2 krf ?_
  refine xs_end ?_
  refine sq_nk ⟨[1, 2, 7, 9, 11, 12, 13], [], [], []⟩ ⟨[(1, I a1most), (2, .p (.val (.func (.func 75) #[] #[]))), (7, I l1_1), (9, I x2), (11, .p (.sl 1 (List.map ci a0list))), (12, I (lenI (List.map ci a0list))), (13, I l1_2)], []⟩ krf ?_
  refine sim_seq ?_
  refine sim_seq ?_
  refine sim_reg ?_
  refine xs_run 2 krf ?_
  refine xs_call [] krf (g_days_keys_2_ok n x2) krf krf (fun _ => by kernel_rfl) (fun r3 => ?_)
  refine xs_run 1 krf ?_
  refine xs_end ?_
  refine sq_nk ⟨[1, 2, 7, 9, 10, 11, 12, 13], [], [], []⟩ ⟨[(1, I a1most), (2, .p (.val (.func (.func 75) #[] #[]))), (7, I l1_1), (9, I x2), (10, I r3), (11, .p (.sl 1 (List.map ci a0list))), (12, I (lenI (List.map ci a0list))), (13, I l1_2)], []⟩ krf ?_
  refine sim_bind (fun j4 => ⟨[(1, I a1most), (2, .p (.val (.func (.func 75) #[] #[]))), (9, I x2), (11, .p (.sl 1 (List.map ci a0list))), (12, I (lenI (List.map ci a0list))), (13, I l1_2), (27, B j4)], []⟩ : Bool → St) ?_ ?_
  ·refine sim_reg ?_
   refine xs_run 4 krf ?_
   refine xs_split (leI r3 l1_1) (fun h5 => ?_) (fun h5 => ?_)
   ·refine xs_no (want_ft krf h5) krf ?_
    refine xs_run 3 krf ?_
    refine xs_end ?_
    exact nq_n true ⟨[1, 2, 9, 11, 12, 13, 27], [], [], []⟩ krf
   ·refine xs_one (want_ff krf h5) krf ?_
    refine xs_run 3 krf ?_
    refine xs_end ?_
    exact nq_n (ltI a1most r3) ⟨[1, 2, 9, 11, 12, 13, 27], [], [], []⟩ krf
  ·rintro j4
   refine sim_cond j4 krf ?_ ?_
   ·refine sim_run Try.fm ⟨[6], [], [], []⟩ ⟨[(6, B false)], []⟩ krf ?_
    refine sim_ret ?_
    refine sq_r ?_
    refine bq_r ?_
    refine sq_r ?_
    refine kq_r ?_
    refine bq_r ?_
    refine sq_r ?_
    exact rq_ret (.id) krf krf krf
   ·refine sim_skip ?_
    refine sq_nk ⟨[1, 2, 9, 11, 12, 13], [], [], []⟩ ⟨[(1, I a1most), (2, .p (.val (.func (.func 75) #[] #[]))), (9, I x2), (11, .p (.sl 1 (List.map ci a0list))), (12, I (lenI (List.map ci a0list))), (13, I l1_2)], []⟩ krf ?_
    refine sim_reg ?_
    refine xs_run 2 krf ?_
    refine xs_call [] krf (g_days_keys_2_ok n x2) krf krf (fun _ => by kernel_rfl) (fun r6 => ?_)
    refine xs_run 1 krf ?_
    refine xs_end ?_
    refine bq_n ?_
    refine sq_nk ⟨[1, 2, 7, 11, 12, 13], [], [], []⟩ ⟨[(1, I a1most), (2, .p (.val (.func (.func 75) #[] #[]))), (7, I r6), (11, .p (.sl 1 (List.map ci a0list))), (12, I (lenI (List.map ci a0list))), (13, I l1_2)], []⟩ krf ?_
    refine sim_last Try.fm krf ?_
    exact kq_n (r6, wi (l1_2 + 1)) ⟨[1, 2, 7, 11, 12, 13], [], [], []⟩ krf
 ·refine sim_exit ?_
  refine sq_x ?_
  refine kq_x ?_
  refine bq_hit ?_
  refine sq_nk ⟨[], [], [], []⟩ ⟨[], []⟩ krf ?_
  refine sim_run Try.fm ⟨[6], [], [], []⟩ ⟨[(6, B true)], []⟩ krf ?_
  refine sim_ret ?_
  exact rq_ret (.id) krf krf krf
def g_days_Valid_j5 (n : Nat) (a0c : GCalendar) : Option Bool :=
 (g_dv_api_Change n a0c.Changes 52560000).bind fun r6 =>
 cond r6
  ((g_dv_int n a0c.Holidays 36500).bind fun r8 =>
  some r8)
  (some false)
def g_days_Valid_l9 (n : Nat) (a0c : GCalendar) (recl9 : Int → Option Bool) (l9 : Int) : Option Bool :=
 cond (ltI l9 (lenI (List.map GChange.cs a0c.Changes)))
  ((getI a0c.Changes l9).bind fun x10 =>
  (g_days_inside n x10.Offset (-1440) 1440).bind fun r11 =>
  cond (!r11)
   (some false)
   (recl9 (wi (l9 + 1))))
  (g_days_Valid_j5 n a0c)
def g_days_Valid (n : Nat) (a0c : GCalendar) : Option Bool :=
 (cond (ltI 16 (lenI (List.map GChange.cs a0c.Changes)))
  (some true)
  (cond (ltI 32 (lenI (List.map ci a0c.Holidays)))
   (some true)
   ((g_days_inside n a0c.Offset (-1440) 1440).bind fun r4 =>
   some (!r4)))).bind fun j1 =>
 cond j1
  (some false)
  (loopN (fun recl9 l9 => g_days_Valid_l9 n a0c recl9 l9) n 0)
theorem g_days_Valid_ok (n : Nat) (a0c : GCalendar) : ∀ r, g_days_Valid n a0c = some r → PCall Try.prog 27 [ag (GCalendar.cs a0c)] (.ret (B r)) := by
 refine pcall_sim (X := fun r : Bool => AEnd.ret (B r)) Try.func27 rfl Try.ntmps27 rfl ?_
 unfold g_days_Valid
 refine sim_run Try.fm ⟨[1], [1], [], []⟩ ⟨[(1, .ptr 1 0)], [(1, .box 28 (bxc (GCalendar.cs a0c)))]⟩ krf ?_
 refine sim_seq ?_
 refine sim_bind (fun j1 => ⟨[(1, .ptr 1 0), (22, B j1)], [(1, .box 28 (bxc (GCalendar.cs a0c)))]⟩ : Bool → St) ?_ ?_
 ·refine sim_reg ?_
  refine xs_run 5 krf ?_
  refine xs_split (ltI 16 (lenI (List.map GChange.cs a0c.Changes))) (fun h2 => ?_) (fun h2 => ?_)
  ·refine xs_no (want_ft krf h2) krf ?_
   refine xs_run 10 krf ?_
   refine xs_end ?_
   exact nq_n true ⟨[1, 22], [1], [], []⟩ krf
  ·refine xs_one (want_ff krf h2) krf ?_
   refine xs_run 5 krf ?_
   refine xs_split (ltI 32 (lenI (List.map ci a0c.Holidays))) (fun h3 => ?_) (fun h3 => ?_)
   ·refine xs_no (want_ft krf h3) krf ?_
    refine xs_run 4 krf ?_
    refine xs_end ?_
    exact nq_n true ⟨[1, 22], [1], [], []⟩ krf
   ·refine xs_one (want_ff krf h3) krf ?_
    refine xs_run 1 krf ?_
    refine xs_call [] krf (g_days_inside_ok n a0c.Offset (-1440) 1440) krf krf (fun _ => by kernel_rfl) (fun r4 => ?_)
    refine xs_run 2 krf ?_
    refine xs_end ?_
    exact nq_n (!r4) ⟨[1, 22], [1], [], []⟩ krf
 ·rintro j1
  refine sim_cond j1 krf ?_ ?_
  ·refine sim_run Try.fm ⟨[2], [], [], []⟩ ⟨[(2, B false)], []⟩ krf ?_
   refine sim_ret ?_
   refine sq_r ?_
   exact rq_ret (.id) krf krf krf
  ·refine sim_skip ?_
   refine sq_nk ⟨[1], [1], [], []⟩ ⟨[(1, .ptr 1 0)], [(1, .box 28 (bxc (GCalendar.cs a0c)))]⟩ krf ?_
   refine sim_cps (fun _ => ⟨[(1, .ptr 1 0)], [(1, .box 28 (bxc (GCalendar.cs a0c)))]⟩ : Unit → St) (fun _ => g_days_Valid_j5 n a0c) ?_ ?_
   ·rintro _
    show SimE (g_days_Valid_j5 n a0c) _ _ _ _ _ _
    unfold g_days_Valid_j5
    refine sim_seq ?_
    refine sim_reg ?_
    refine xs_inline [] [] [] [] [] krf Try.func42 rfl Try.ntmps42 rfl krf krf krf ?_
    refine sim_run Try.fm ⟨[], [], [], []⟩ ⟨[], []⟩ krf ?_
    refine sim_run Try.fm ⟨[0, 1], [], [], []⟩ ⟨[(0, .p (.val (.func (.func 74) #[] #[]))), (1, .p (.val (.func (.func 75) #[] #[])))], []⟩ krf ?_
    refine sim_ret ?_
    refine iq_ret .id [] [] (.tup [.p (.val (.func (.func 74) #[] #[])), .p (.val (.func (.func 75) #[] #[]))]) krf krf ?_
    refine kr0 ?_
    refine xs_run 5 krf ?_
    refine xs_end ?_
    refine sq_nk ⟨[1, 5, 6], [1], [], []⟩ ⟨[(1, .ptr 1 0), (5, .p (.val (.func (.func 74) #[] #[]))), (6, .p (.val (.func (.func 75) #[] #[])))], [(1, .box 28 (bxc (GCalendar.cs a0c)))]⟩ krf ?_
    refine sim_seq ?_
    refine sim_reg ?_
    refine xs_run 3 krf ?_
    refine xs_call [] krf (g_dv_api_Change_ok n a0c.Changes 52560000) krf krf (fun _ => by kernel_rfl) (fun r6 => ?_)
    refine xs_run 1 krf ?_
    refine xs_split r6 (fun h7 => ?_) (fun h7 => ?_)
    ·refine xs_one (want_tt krf h7) krf ?_
     refine xs_run 2 krf ?_
     refine xs_call [] krf (g_dv_int_ok n a0c.Holidays 36500) krf krf (fun _ => by kernel_rfl) (fun r8 => ?_)
     refine xs_run 2 krf ?_
     refine xs_end ?_
     refine sq_nk ⟨[2], [], [], []⟩ ⟨[(2, B r8)], []⟩ krf ?_
     refine sim_ret ?_
     exact rq_ret (.id) krf krf krf
    ·refine xs_no (want_tf krf h7) krf ?_
     refine xs_run 5 krf ?_
     refine xs_end ?_
     refine sq_nk ⟨[2], [], [], []⟩ ⟨[(2, B false)], []⟩ krf ?_
     refine sim_ret ?_
     exact rq_ret (.id) krf krf krf
   ·refine sim_run Try.fm ⟨[1, 24, 25, 26], [1], [], []⟩ ⟨[(1, .ptr 1 0), (24, .p (.sl 2 (List.map GChange.cs a0c.Changes))), (25, I (lenI (List.map GChange.cs a0c.Changes))), (26, I 0)], [(1, .box 28 (bxc (GCalendar.cs a0c)))]⟩ krf ?_
    refine sim_block ?_
    refine sim_loop (fun l9 => ⟨[(1, .ptr 1 0), (24, .p (.sl 2 (List.map GChange.cs a0c.Changes))), (25, I (lenI (List.map GChange.cs a0c.Changes))), (26, I l9)], [(1, .box 28 (bxc (GCalendar.cs a0c)))]⟩ : Int → St) (weak_shr (K := ⟨[1, 24, 25, 26], [1], [], []⟩) krf) ?_
    rintro recl9 l9
    show SimE (g_days_Valid_l9 n a0c recl9 l9) _ _ _ _ _ _
    unfold g_days_Valid_l9
    refine sim_run Try.fm ⟨[1, 24, 25, 26, 27], [1], [], []⟩ ⟨[(1, .ptr 1 0), (24, .p (.sl 2 (List.map GChange.cs a0c.Changes))), (25, I (lenI (List.map GChange.cs a0c.Changes))), (26, I l9), (27, B (ltI l9 (lenI (List.map GChange.cs a0c.Changes))))], [(1, .box 28 (bxc (GCalendar.cs a0c)))]⟩ krf ?_
    refine sim_seq ?_
    refine sim_cond (ltI l9 (lenI (List.map GChange.cs a0c.Changes))) krf ?_ ?_
    ·refine sim_skip ?_
     refine sq_nk ⟨[1, 24, 25, 26], [1], [], []⟩ ⟨[(1, .ptr 1 0), (24, .p (.sl 2 (List.map GChange.cs a0c.Changes))), (25, I (lenI (List.map GChange.cs a0c.Changes))), (26, I l9)], [(1, .box 28 (bxc (GCalendar.cs a0c)))]⟩ krf ?_
     refine sim_seq ?_
     refine sim_block ?_
     refine sim_seq ?_
     refine sim_reg ?_
     refine xs_get krf krf (aop_idx (e := 78) (S := 2) (enc := GChange.cs) (l := a0c.Changes) (k := .i64) (n := l9) (sv := .p (.sl 2 (List.map GChange.cs a0c.Changes))) rfl krf krf krf krf krf) (fun x10 => ?_)
     refine xs_run 3 krf ?_
     refine xs_end ?_
     refine sq_nk ⟨[1, 4, 24, 25, 26], [1, 4], [], []⟩ ⟨[(1, .ptr 1 0), (4, .ptr 4 0), (24, .p (.sl 2 (List.map GChange.cs a0c.Changes))), (25, I (lenI (List.map GChange.cs a0c.Changes))), (26, I l9)], [(1, .box 28 (bxc (GCalendar.cs a0c))), (4, .box 78 (bxc (GChange.cs x10)))]⟩ krf ?_
     refine sim_seq ?_
     refine sim_reg ?_
     refine xs_run 2 krf ?_
     refine xs_call [] krf (g_days_inside_ok n x10.Offset (-1440) 1440) krf krf (fun _ => by kernel_rfl) (fun r11 => ?_)
     refine xs_run 1 krf ?_
     refine xs_end ?_
     refine sq_nk ⟨[1, 24, 25, 26, 33], [1], [], []⟩ ⟨[(1, .ptr 1 0), (24, .p (.sl 2 (List.map GChange.cs a0c.Changes))), (25, I (lenI (List.map GChange.cs a0c.Changes))), (26, I l9), (33, B (!r11))], [(1, .box 28 (bxc (GCalendar.cs a0c)))]⟩ krf ?_
     refine sim_cond (!r11) krf ?_ ?_
     ·refine sim_run Try.fm ⟨[2], [], [], []⟩ ⟨[(2, B false)], []⟩ krf ?_
      refine sim_ret ?_
      refine bq_r ?_
      refine sq_r ?_
      refine kq_r ?_
      refine bq_r ?_
      refine kq_r ?_
      exact rq_ret (.id) krf krf krf
     ·refine sim_skip ?_
      refine bq_n ?_
      refine sq_nk ⟨[1, 24, 25, 26], [1], [], []⟩ ⟨[(1, .ptr 1 0), (24, .p (.sl 2 (List.map GChange.cs a0c.Changes))), (25, I (lenI (List.map GChange.cs a0c.Changes))), (26, I l9)], [(1, .box 28 (bxc (GCalendar.cs a0c)))]⟩ krf ?_
      refine sim_last Try.fm krf ?_
      exact kq_n (wi (l9 + 1)) ⟨[1, 24, 25, 26], [1], [], []⟩ krf
    ·refine sim_exit ?_
     refine sq_x ?_
     refine kq_x ?_
     refine bq_hit ?_
     exact kq_n (k := fun _ => g_days_Valid_j5 n a0c) () ⟨[1], [1], [], []⟩ krf
def g_quote_validLimits (n : Nat) (a0from : Int) (a1to : Int) (a2energy : Int) : Option Bool :=
 (cond (leI 0 a0from)
  (cond (ltI a0from a1to)
   (cond (leI (wi (a1to - a0from)) 2880)
    (cond (leI a1to 52560000)
     (cond (leI 0 a2energy)
      (some (leI a2energy 480000))
      (some false))
     (some false))
    (some false))
   (some false))
  (some false)).bind fun j1 =>
 some j1
theorem g_quote_validLimits_ok (n : Nat) (a0from : Int) (a1to : Int) (a2energy : Int) : ∀ r, g_quote_validLimits n a0from a1to a2energy = some r → PCall Try.prog 28 [I a0from, I a1to, I a2energy] (.ret (B r)) := by
 refine pcall_sim (X := fun r : Bool => AEnd.ret (B r)) Try.func28 rfl Try.ntmps28 rfl ?_
 unfold g_quote_validLimits
 refine sim_run Try.fm ⟨[0, 1, 2], [], [], []⟩ ⟨[(0, I a0from), (1, I a1to), (2, I a2energy)], []⟩ krf ?_
 refine sim_bind (fun j1 => ⟨[(6, B j1)], []⟩ : Bool → St) ?_ ?_
 ·refine sim_reg ?_
  refine xs_run 3 krf ?_
  refine xs_split (leI 0 a0from) (fun h2 => ?_) (fun h2 => ?_)
  ·refine xs_one (want_tt krf h2) krf ?_
   refine xs_run 4 krf ?_
   refine xs_split (ltI a0from a1to) (fun h3 => ?_) (fun h3 => ?_)
   ·refine xs_one (want_tt krf h3) krf ?_
    refine xs_run 5 krf ?_
    refine xs_split (leI (wi (a1to - a0from)) 2880) (fun h4 => ?_) (fun h4 => ?_)
    ·refine xs_one (want_tt krf h4) krf ?_
     refine xs_run 3 krf ?_
     refine xs_split (leI a1to 52560000) (fun h5 => ?_) (fun h5 => ?_)
     ·refine xs_one (want_tt krf h5) krf ?_
      refine xs_run 3 krf ?_
      refine xs_split (leI 0 a2energy) (fun h6 => ?_) (fun h6 => ?_)
      ·refine xs_one (want_tt krf h6) krf ?_
       refine xs_run 3 krf ?_
       refine xs_end ?_
       exact nq_n (leI a2energy 480000) ⟨[6], [], [], []⟩ krf
      ·refine xs_no (want_tf krf h6) krf ?_
       refine xs_run 3 krf ?_
       refine xs_end ?_
       exact nq_n false ⟨[6], [], [], []⟩ krf
     ·refine xs_no (want_tf krf h5) krf ?_
      refine xs_run 7 krf ?_
      refine xs_end ?_
      exact nq_n false ⟨[6], [], [], []⟩ krf
    ·refine xs_no (want_tf krf h4) krf ?_
     refine xs_run 11 krf ?_
     refine xs_end ?_
     exact nq_n false ⟨[6], [], [], []⟩ krf
   ·refine xs_no (want_tf krf h3) krf ?_
    refine xs_run 17 krf ?_
    refine xs_end ?_
    exact nq_n false ⟨[6], [], [], []⟩ krf
  ·refine xs_no (want_tf krf h2) krf ?_
   refine xs_run 22 krf ?_
   refine xs_end ?_
   exact nq_n false ⟨[6], [], [], []⟩ krf
 ·rintro j1
  refine sim_ret ?_
  exact rq_ret (.id) krf krf krf
def g_days_last_api_Change_l1 (n : Nat) (a0list : List GChange) (a1number : Int) (recl1 : (Int × Int) → Option Int) (l1_1 : Int) (l1_2 : Int) : Option Int :=
 cond (ltI l1_1 l1_2)
  ((getI a0list (wi (l1_1 + (wi (Int.tdiv (wi ((wi (l1_2 - l1_1)) + 1)) 2))))).bind fun x2 =>
  (g_days_keys_1 n x2).bind fun r3 =>
  cond (leI r3 a1number)
   (recl1 (wi (l1_1 + (wi (Int.tdiv (wi ((wi (l1_2 - l1_1)) + 1)) 2))), l1_2))
   (recl1 (l1_1, wi ((wi (l1_1 + (wi (Int.tdiv (wi ((wi (l1_2 - l1_1)) + 1)) 2)))) - 1))))
  (some l1_1)
def g_days_last_api_Change (n : Nat) (a0list : List GChange) (a1number : Int) : Option Int :=
 loopN (fun recl1 (l1_1, l1_2) => g_days_last_api_Change_l1 n a0list a1number recl1 l1_1 l1_2) n ((-1), wi ((lenI (List.map GChange.cs a0list)) - 1))
theorem g_days_last_api_Change_ok (n : Nat) (a0list : List GChange) (a1number : Int) : ∀ r, g_days_last_api_Change n a0list a1number = some r → PCall Try.prog 106 [.p (.sl 2 (List.map GChange.cs a0list)), I a1number, .p (.val (.func (.func 74) #[] #[]))] (.ret (I r)) := by
 refine pcall_sim (X := fun r : Int => AEnd.ret (I r)) Try.func106 rfl Try.ntmps106 rfl ?_
 unfold g_days_last_api_Change
 refine sim_run Try.fm ⟨[0, 1, 2], [], [], []⟩ ⟨[(0, .p (.sl 2 (List.map GChange.cs a0list))), (1, I a1number), (2, .p (.val (.func (.func 74) #[] #[])))], []⟩ krf ?_
 refine sim_run Try.fm ⟨[0, 1, 2, 7, 8], [], [], []⟩ ⟨[(0, .p (.sl 2 (List.map GChange.cs a0list))), (1, I a1number), (2, .p (.val (.func (.func 74) #[] #[]))), (7, I (-1)), (8, I (wi ((lenI (List.map GChange.cs a0list)) - 1)))], []⟩ krf ?_
 refine sim_seq ?_
 refine sim_block ?_
 refine sim_loop (fun (l1_1, l1_2) => ⟨[(0, .p (.sl 2 (List.map GChange.cs a0list))), (1, I a1number), (2, .p (.val (.func (.func 74) #[] #[]))), (7, I l1_1), (8, I l1_2)], []⟩ : (Int × Int) → St) (weak_shr (K := ⟨[0, 1, 2, 7, 8], [], [], []⟩) krf) ?_
 rintro recl1 ⟨l1_1, l1_2⟩
 show SimE (g_days_last_api_Change_l1 n a0list a1number recl1 l1_1 l1_2) _ _ _ _ _ _
 unfold g_days_last_api_Change_l1
 refine sim_seq ?_
 refine sim_run Try.fm ⟨[0, 1, 2, 7, 8, 15], [], [], []⟩ ⟨[(0, .p (.sl 2 (List.map GChange.cs a0list))), (1, I a1number), (2, .p (.val (.func (.func 74) #[] #[]))), (7, I l1_1), (8, I l1_2), (15, B (ltI l1_1 l1_2))], []⟩ krf ?_
 refine sim_cond (ltI l1_1 l1_2) krf ?_ ?_
 ·refine sim_skip ?_
  refine sq_nk ⟨[0, 1, 2, 7, 8], [], [], []⟩ ⟨[(0, .p (.sl 2 (List.map GChange.cs a0list))), (1, I a1number), (2, .p (.val (.func (.func 74) #[] #[]))), (7, I l1_1), (8, I l1_2)], []⟩ krf ?_
  refine sim_block ?_
  refine sim_run Try.fm ⟨[0, 1, 2, 7, 8, 9], [], [], []⟩ ⟨[(0, .p (.sl 2 (List.map GChange.cs a0list))), (1, I a1number), (2, .p (.val (.func (.func 74) #[] #[]))), (7, I l1_1), (8, I l1_2), (9, I (wi (l1_1 + (wi (Int.tdiv (wi ((wi (l1_2 - l1_1)) + 1)) 2)))))], []⟩ krf ?_
  refine sim_seq ?_
  refine sim_reg ?_
  refine xs_run 3 krf ?_
  refine xs_get krf krf (aop_idx (e := 78) (S := 2) (enc := GChange.cs) (l := a0list) (k := .i64) (n := wi (l1_1 + (wi (Int.tdiv (wi ((wi (l1_2 - l1_1)) + 1)) 2)))) (sv := .p (.sl 2 (List.map GChange.cs a0list))) rfl krf krf krf krf krf) (fun x2 => ?_)
  refine xs_run 1 krf ?_
  refine xs_call [] krf (g_days_keys_1_ok n x2) krf krf (fun _ => by kernel_rfl) (fun r3 => ?_)
  refine xs_run 2 krf ?_
  refine xs_end ?_
  refine sq_nk ⟨[0, 1, 2, 7, 8, 9, 30], [], [], []⟩ ⟨[(0, .p (.sl 2 (List.map GChange.cs a0list))), (1, I a1number), (2, .p (.val (.func (.func 74) #[] #[]))), (7, I l1_1), (8, I l1_2), (9, I (wi (l1_1 + (wi (Int.tdiv (wi ((wi (l1_2 - l1_1)) + 1)) 2))))), (30, B (leI r3 a1number))], []⟩ krf ?_
  refine sim_cond (leI r3 a1number) krf ?_ ?_
  ·refine sim_last Try.fm krf ?_
   refine bq_n ?_
   exact kq_n (wi (l1_1 + (wi (Int.tdiv (wi ((wi (l1_2 - l1_1)) + 1)) 2))), l1_2) ⟨[0, 1, 2, 7, 8], [], [], []⟩ krf
  ·refine sim_last Try.fm krf ?_
   refine bq_n ?_
   exact kq_n (l1_1, wi ((wi (l1_1 + (wi (Int.tdiv (wi ((wi (l1_2 - l1_1)) + 1)) 2)))) - 1)) ⟨[0, 1, 2, 7, 8], [], [], []⟩ krf
 ·refine sim_exit ?_
  refine sq_x ?_
  refine kq_x ?_
  refine bq_hit ?_
  refine sq_nk ⟨[7], [], [], []⟩ ⟨[(7, I l1_1)], []⟩ krf ?_
  refine sim_run Try.fm ⟨[6], [], [], []⟩ ⟨[(6, I l1_1)], []⟩ krf ?_
  refine sim_ret ?_
  exact rq_ret (.id) krf krf krf
def g_days_split (n : Nat) (a0n : Int) (a1by : Int) : Option (Int × Int) :=
 cond (!eqI a1by 0) (
  cond (!eqI a1by 0) (
   cond (ltI (Int.tmod a0n a1by) 0)
    (some (wi ((wi (Int.tdiv a0n a1by)) - 1), wi ((Int.tmod a0n a1by) + a1by)))
    (some (wi (Int.tdiv a0n a1by), Int.tmod a0n a1by))) none) none
theorem g_days_split_ok (n : Nat) (a0n : Int) (a1by : Int) : ∀ r, g_days_split n a0n a1by = some r → PCall Try.prog 107 [I a0n, I a1by] (.ret (.tup [I r.1, I r.2])) := by
 refine pcall_sim (X := fun r : Int × Int => AEnd.ret (.tup [I r.1, I r.2])) Try.func107 rfl Try.ntmps107 rfl ?_
 unfold g_days_split
 refine sim_run Try.fm ⟨[0, 1], [], [], []⟩ ⟨[(0, I a0n), (1, I a1by)], []⟩ krf ?_
 refine sim_seq ?_
 refine sim_drw Try.fm rfl ?_
 refine xs_run 2 krf ?_
 refine xs_if krf krf (aop_quo (k := .i64) (a := a0n) (b := a1by) rfl krf krf) ?_
 refine xs_run 2 krf ?_
 refine xs_if krf krf (aop_rem (k := .i64) (a := a0n) (b := a1by) rfl krf krf) ?_
 refine xs_run 2 krf ?_
 refine xs_endD krf ?_
 refine sq_nk ⟨[1, 6, 7], [], [], []⟩ ⟨[(1, I a1by), (6, I (wi (Int.tdiv a0n a1by))), (7, I (Int.tmod a0n a1by))], []⟩ krf ?_
 refine sim_seq ?_
 refine sim_run Try.fm ⟨[1, 6, 7, 15], [], [], []⟩ ⟨[(1, I a1by), (6, I (wi (Int.tdiv a0n a1by))), (7, I (Int.tmod a0n a1by)), (15, B (ltI (Int.tmod a0n a1by) 0))], []⟩ krf ?_
 refine sim_cond (ltI (Int.tmod a0n a1by) 0) krf ?_ ?_
 ·refine sim_last Try.fm krf ?_
  refine sq_nk ⟨[6, 7], [], [], []⟩ ⟨[(6, I (wi ((wi (Int.tdiv a0n a1by)) - 1))), (7, I (wi ((Int.tmod a0n a1by) + a1by)))], []⟩ krf ?_
  refine sim_run Try.fm ⟨[4, 5], [], [], []⟩ ⟨[(4, I (wi ((wi (Int.tdiv a0n a1by)) - 1))), (5, I (wi ((Int.tmod a0n a1by) + a1by)))], []⟩ krf ?_
  refine sim_ret ?_
  exact rq_ret (.id) krf krf krf
 ·refine sim_skip ?_
  refine sq_nk ⟨[6, 7], [], [], []⟩ ⟨[(6, I (wi (Int.tdiv a0n a1by))), (7, I (Int.tmod a0n a1by))], []⟩ krf ?_
  refine sim_run Try.fm ⟨[4, 5], [], [], []⟩ ⟨[(4, I (wi (Int.tdiv a0n a1by))), (5, I (Int.tmod a0n a1by))], []⟩ krf ?_
  refine sim_ret ?_
  exact rq_ret (.id) krf krf krf
def g_days_Local (n : Nat) (a0c : GCalendar) (a1minute : Int) : Option (Int × Int × Int) :=
 ((g_days_Valid n a0c).bind fun r2 =>
 cond (!r2)
  (some true)
  ((g_days_inside n a1minute 0 52560000).bind fun r4 =>
  some (!r4))).bind fun j1 =>
 cond j1
  (some (0, 0, 1))
  (((g_days_last_api_Change n a0c.Changes a1minute).bind fun r6 =>
  cond (leI 0 r6)
   ((getI a0c.Changes r6).bind fun x7 =>
   some x7.Offset)
   (some a0c.Offset)).bind fun j5 =>
  (g_days_split n (wi (a1minute + j5)) 1440).bind fun r8 =>
  some (r8.1, r8.2, 0))
theorem g_days_Local_ok (n : Nat) (a0c : GCalendar) (a1minute : Int) : ∀ r, g_days_Local n a0c a1minute = some r → PCall Try.prog 95 [ag (GCalendar.cs a0c), I a1minute] (.ret (.tup [I r.1, I r.2.1, I r.2.2])) := by
 refine pcall_sim (X := fun r : Int × Int × Int => AEnd.ret (.tup [I r.1, I r.2.1, I r.2.2])) Try.func95 rfl Try.ntmps95 rfl ?_
 unfold g_days_Local
 refine sim_run Try.fm ⟨[1, 2], [2], [], []⟩ ⟨[(1, I a1minute), (2, .ptr 2 0)], [(2, .box 28 (bxc (GCalendar.cs a0c)))]⟩ krf ?_
 refine sim_seq ?_
 refine sim_bind (fun j1 => ⟨[(1, I a1minute), (2, .ptr 2 0), (20, B j1)], [(2, .box 28 (bxc (GCalendar.cs a0c)))]⟩ : Bool → St) ?_ ?_
 ·refine sim_reg ?_
  refine xs_run 1 krf ?_
  refine xs_call [] krf (g_days_Valid_ok n a0c) krf krf (fun _ => by kernel_rfl) (fun r2 => ?_)
  refine xs_run 2 krf ?_
  refine xs_split (!r2) (fun h3 => ?_) (fun h3 => ?_)
  ·refine xs_no (want_ft krf h3) krf ?_
   refine xs_run 3 krf ?_
   refine xs_end ?_
   exact nq_n true ⟨[1, 2, 20], [2], [], []⟩ krf
  ·refine xs_one (want_ff krf h3) krf ?_
   refine xs_call [] krf (g_days_inside_ok n a1minute 0 52560000) krf krf (fun _ => by kernel_rfl) (fun r4 => ?_)
   refine xs_run 2 krf ?_
   refine xs_end ?_
   exact nq_n (!r4) ⟨[1, 2, 20], [2], [], []⟩ krf
 ·rintro j1
  refine sim_cond j1 krf ?_ ?_
  ·refine sim_run Try.fm ⟨[4, 5, 6], [], [], []⟩ ⟨[(4, I 0), (5, I 0), (6, I 1)], []⟩ krf ?_
   refine sim_ret ?_
   refine sq_r ?_
   exact rq_ret (.id) krf krf krf
  ·refine sim_skip ?_
   refine sq_nk ⟨[1, 2], [2], [], []⟩ ⟨[(1, I a1minute), (2, .ptr 2 0)], [(2, .box 28 (bxc (GCalendar.cs a0c)))]⟩ krf ?_
   refine sim_run Try.fm ⟨[1, 2, 7], [2], [], []⟩ ⟨[(1, I a1minute), (2, .ptr 2 0), (7, I a0c.Offset)], [(2, .box 28 (bxc (GCalendar.cs a0c)))]⟩ krf ?_
   refine sim_seq ?_
   refine sim_reg ?_
   refine xs_inline [] [] [] [] [] krf Try.func42 rfl Try.ntmps42 rfl krf krf krf ?_
   refine sim_run Try.fm ⟨[], [], [], []⟩ ⟨[], []⟩ krf ?_
   refine sim_run Try.fm ⟨[0, 1], [], [], []⟩ ⟨[(0, .p (.val (.func (.func 74) #[] #[]))), (1, .p (.val (.func (.func 75) #[] #[])))], []⟩ krf ?_
   refine sim_ret ?_
   refine iq_ret .id [] [] (.tup [.p (.val (.func (.func 74) #[] #[])), .p (.val (.func (.func 75) #[] #[]))]) krf krf ?_
   refine kr0 ?_
   refine xs_run 5 krf ?_
   refine xs_end ?_
   refine sq_nk ⟨[1, 2, 7, 8], [2], [], []⟩ ⟨[(1, I a1minute), (2, .ptr 2 0), (7, I a0c.Offset), (8, .p (.val (.func (.func 74) #[] #[])))], [(2, .box 28 (bxc (GCalendar.cs a0c)))]⟩ krf ?_
   refine sim_bind (fun j5 => ⟨[(1, I a1minute), (7, I j5)], []⟩ : Int → St) ?_ ?_
   ·refine sim_seq ?_
    refine sim_reg ?_
    refine xs_run 4 krf ?_
    refine xs_call [] krf (g_days_last_api_Change_ok n a0c.Changes a1minute) krf krf (fun _ => by kernel_rfl) (fun r6 => ?_)
    refine xs_run 1 krf ?_
    refine xs_end ?_
    refine sq_nk ⟨[1, 2, 7, 10], [2], [], []⟩ ⟨[(1, I a1minute), (2, .ptr 2 0), (7, I a0c.Offset), (10, I r6)], [(2, .box 28 (bxc (GCalendar.cs a0c)))]⟩ krf ?_
    refine sim_run Try.fm ⟨[1, 2, 7, 10, 33], [2], [], []⟩ ⟨[(1, I a1minute), (2, .ptr 2 0), (7, I a0c.Offset), (10, I r6), (33, B (leI 0 r6))], [(2, .box 28 (bxc (GCalendar.cs a0c)))]⟩ krf ?_
    refine sim_cond (leI 0 r6) krf ?_ ?_
    ·refine sim_reg ?_
     refine xs_run 3 krf ?_
     refine xs_get krf krf (aop_idx (e := 78) (S := 2) (enc := GChange.cs) (l := a0c.Changes) (k := .i64) (n := r6) (sv := .p (.sl 2 (List.map GChange.cs a0c.Changes))) rfl krf krf krf krf krf) (fun x7 => ?_)
     refine xs_run 3 krf ?_
     refine xs_end ?_
     exact nq_n x7.Offset ⟨[1, 7], [], [], []⟩ krf
    ·refine sim_skip ?_
     exact nq_n a0c.Offset ⟨[1, 7], [], [], []⟩ krf
   ·rintro j5
    refine sim_seq ?_
    refine sim_reg ?_
    refine xs_run 3 krf ?_
    refine xs_call [] krf (g_days_split_ok n (wi (a1minute + j5)) 1440) krf krf (fun _ => by kernel_rfl) (fun r8 => ?_)
    refine xs_run 5 krf ?_
    refine xs_end ?_
    refine sq_nk ⟨[11, 12], [], [], []⟩ ⟨[(11, I r8.1), (12, I r8.2)], []⟩ krf ?_
    refine sim_run Try.fm ⟨[4, 5, 6], [], [], []⟩ ⟨[(4, I r8.1), (5, I r8.2), (6, I 0)], []⟩ krf ?_
    refine sim_ret ?_
    exact rq_ret (.id) krf krf krf
def g_days_last_int_l1 (n : Nat) (a0list : List Int) (a1number : Int) (recl1 : (Int × Int) → Option Int) (l1_1 : Int) (l1_2 : Int) : Option Int :=
 cond (ltI l1_1 l1_2)
  ((getI a0list (wi (l1_1 + (wi (Int.tdiv (wi ((wi (l1_2 - l1_1)) + 1)) 2))))).bind fun x2 =>
  (g_days_keys_2 n x2).bind fun r3 =>
  cond (leI r3 a1number)
   (recl1 (wi (l1_1 + (wi (Int.tdiv (wi ((wi (l1_2 - l1_1)) + 1)) 2))), l1_2))
   (recl1 (l1_1, wi ((wi (l1_1 + (wi (Int.tdiv (wi ((wi (l1_2 - l1_1)) + 1)) 2)))) - 1))))
  (some l1_1)
def g_days_last_int (n : Nat) (a0list : List Int) (a1number : Int) : Option Int :=
 loopN (fun recl1 (l1_1, l1_2) => g_days_last_int_l1 n a0list a1number recl1 l1_1 l1_2) n ((-1), wi ((lenI (List.map ci a0list)) - 1))
theorem g_days_last_int_ok (n : Nat) (a0list : List Int) (a1number : Int) : ∀ r, g_days_last_int n a0list a1number = some r → PCall Try.prog 108 [.p (.sl 1 (List.map ci a0list)), I a1number, .p (.val (.func (.func 75) #[] #[]))] (.ret (I r)) := by
 refine pcall_sim (X := fun r : Int => AEnd.ret (I r)) Try.func108 rfl Try.ntmps108 rfl ?_
 unfold g_days_last_int
 refine sim_run Try.fm ⟨[0, 1, 2], [], [], []⟩ ⟨[(0, .p (.sl 1 (List.map ci a0list))), (1, I a1number), (2, .p (.val (.func (.func 75) #[] #[])))], []⟩ krf ?_
 refine sim_run Try.fm ⟨[0, 1, 2, 7, 8], [], [], []⟩ ⟨[(0, .p (.sl 1 (List.map ci a0list))), (1, I a1number), (2, .p (.val (.func (.func 75) #[] #[]))), (7, I (-1)), (8, I (wi ((lenI (List.map ci a0list)) - 1)))], []⟩ krf ?_
 refine sim_seq ?_
 refine sim_block ?_
 refine sim_loop (fun (l1_1, l1_2) => ⟨[(0, .p (.sl 1 (List.map ci a0list))), (1, I a1number), (2, .p (.val (.func (.func 75) #[] #[]))), (7, I l1_1), (8, I l1_2)], []⟩ : (Int × Int) → St) (weak_shr (K := ⟨[0, 1, 2, 7, 8], [], [], []⟩) krf) ?_
 rintro recl1 ⟨l1_1, l1_2⟩
 show SimE (g_days_last_int_l1 n a0list a1number recl1 l1_1 l1_2) _ _ _ _ _ _
 unfold g_days_last_int_l1
 refine sim_seq ?_
 refine sim_run Try.fm ⟨[0, 1, 2, 7, 8, 15], [], [], []⟩ ⟨[(0, .p (.sl 1 (List.map ci a0list))), (1, I a1number), (2, .p (.val (.func (.func 75) #[] #[]))), (7, I l1_1), (8, I l1_2), (15, B (ltI l1_1 l1_2))], []⟩ krf ?_
 refine sim_cond (ltI l1_1 l1_2) krf ?_ ?_
 ·refine sim_skip ?_
  refine sq_nk ⟨[0, 1, 2, 7, 8], [], [], []⟩ ⟨[(0, .p (.sl 1 (List.map ci a0list))), (1, I a1number), (2, .p (.val (.func (.func 75) #[] #[]))), (7, I l1_1), (8, I l1_2)], []⟩ krf ?_
  refine sim_block ?_
  refine sim_run Try.fm ⟨[0, 1, 2, 7, 8, 9], [], [], []⟩ ⟨[(0, .p (.sl 1 (List.map ci a0list))), (1, I a1number), (2, .p (.val (.func (.func 75) #[] #[]))), (7, I l1_1), (8, I l1_2), (9, I (wi (l1_1 + (wi (Int.tdiv (wi ((wi (l1_2 - l1_1)) + 1)) 2)))))], []⟩ krf ?_
  refine sim_seq ?_
  refine sim_reg ?_
  refine xs_run 3 krf ?_
  refine xs_get krf krf (aop_idx (e := 3) (S := 1) (enc := ci) (l := a0list) (k := .i64) (n := wi (l1_1 + (wi (Int.tdiv (wi ((wi (l1_2 - l1_1)) + 1)) 2)))) (sv := .p (.sl 1 (List.map ci a0list))) rfl krf krf krf krf krf) (fun x2 => ?_)
  refine xs_run 1 krf ?_
  refine xs_call [] krf (g_days_keys_2_ok n x2) krf krf (fun _ => by kernel_rfl) (fun r3 => ?_)
  refine xs_run 2 krf ?_
  refine xs_end ?_
  refine sq_nk ⟨[0, 1, 2, 7, 8, 9, 30], [], [], []⟩ ⟨[(0, .p (.sl 1 (List.map ci a0list))), (1, I a1number), (2, .p (.val (.func (.func 75) #[] #[]))), (7, I l1_1), (8, I l1_2), (9, I (wi (l1_1 + (wi (Int.tdiv (wi ((wi (l1_2 - l1_1)) + 1)) 2))))), (30, B (leI r3 a1number))], []⟩ krf ?_
  refine sim_cond (leI r3 a1number) krf ?_ ?_
  ·refine sim_last Try.fm krf ?_
   refine bq_n ?_
   exact kq_n (wi (l1_1 + (wi (Int.tdiv (wi ((wi (l1_2 - l1_1)) + 1)) 2))), l1_2) ⟨[0, 1, 2, 7, 8], [], [], []⟩ krf
  ·refine sim_last Try.fm krf ?_
   refine bq_n ?_
   exact kq_n (l1_1, wi ((wi (l1_1 + (wi (Int.tdiv (wi ((wi (l1_2 - l1_1)) + 1)) 2)))) - 1)) ⟨[0, 1, 2, 7, 8], [], [], []⟩ krf
 ·refine sim_exit ?_
  refine sq_x ?_
  refine kq_x ?_
  refine bq_hit ?_
  refine sq_nk ⟨[7], [], [], []⟩ ⟨[(7, I l1_1)], []⟩ krf ?_
  refine sim_run Try.fm ⟨[6], [], [], []⟩ ⟨[(6, I l1_1)], []⟩ krf ?_
  refine sim_ret ?_
  exact rq_ret (.id) krf krf krf
def g_days_week (n : Nat) : Option (Int × Int × Int × Int × Int × Int × Int) :=
 some (0, 0, 0, 0, 0, 1, 2)
theorem g_days_week_ok (n : Nat) : ∀ r, g_days_week n = some r → PCall Try.prog 109 [] (.ret (.agg [I r.1, I r.2.1, I r.2.2.1, I r.2.2.2.1, I r.2.2.2.2.1, I r.2.2.2.2.2.1, I r.2.2.2.2.2.2])) := by
 refine pcall_sim (X := fun r : Int × Int × Int × Int × Int × Int × Int => AEnd.ret (.agg [I r.1, I r.2.1, I r.2.2.1, I r.2.2.2.1, I r.2.2.2.2.1, I r.2.2.2.2.2.1, I r.2.2.2.2.2.2])) Try.func109 rfl Try.ntmps109 rfl ?_
 unfold g_days_week
 refine sim_run Try.fm ⟨[0], [0], [], []⟩ ⟨[(0, .ptr 0 0)], [(0, .box 126 [I 0, I 0, I 0, I 0, I 0, I 0, I 0])]⟩ krf ?_
 refine sim_run Try.fm ⟨[0], [0], [], []⟩ ⟨[(0, .ptr 0 0)], [(0, .box 126 [I 0, I 0, I 0, I 0, I 0, I 1, I 2])]⟩ krf ?_
 refine sim_ret ?_
 exact rq_ret (.id) krf krf krf
def g_days_Type (n : Nat) (a0c : GCalendar) (a1day : Int) : Option (Int × Int) :=
 ((g_days_Valid n a0c).bind fun r2 =>
 cond (!r2)
  (some true)
  ((g_days_inside n a1day (-1) 36501).bind fun r4 =>
  some (!r4))).bind fun j1 =>
 cond j1
  (some (0, 1))
  ((g_days_last_int n a0c.Holidays a1day).bind fun r5 =>
  (cond (leI 0 r5)
   ((getI a0c.Holidays r5).bind fun x8 =>
   some (eqI x8 a1day))
   (some false)).bind fun j6 =>
  cond j6
   (some (2, 0))
   ((g_days_week n).bind fun r9 =>
   (g_days_split n a1day 7).bind fun r10 =>
   (getI [r9.1, r9.2.1, r9.2.2.1, r9.2.2.2.1, r9.2.2.2.2.1, r9.2.2.2.2.2.1, r9.2.2.2.2.2.2] r10.2).bind fun x11 =>
   some (x11, 0)))
theorem g_days_Type_ok (n : Nat) (a0c : GCalendar) (a1day : Int) : ∀ r, g_days_Type n a0c a1day = some r → PCall Try.prog 96 [ag (GCalendar.cs a0c), I a1day] (.ret (.tup [I r.1, I r.2])) := by
 refine pcall_sim (X := fun r : Int × Int => AEnd.ret (.tup [I r.1, I r.2])) Try.func96 rfl Try.ntmps96 rfl ?_
 unfold g_days_Type
 refine sim_run Try.fm ⟨[1, 2], [2], [], []⟩ ⟨[(1, I a1day), (2, .ptr 2 0)], [(2, .box 28 (bxc (GCalendar.cs a0c)))]⟩ krf ?_
 refine sim_seq ?_
 refine sim_bind (fun j1 => ⟨[(1, I a1day), (2, .ptr 2 0), (19, B j1)], [(2, .box 28 (bxc (GCalendar.cs a0c)))]⟩ : Bool → St) ?_ ?_
 ·refine sim_reg ?_
  refine xs_run 1 krf ?_
  refine xs_call [] krf (g_days_Valid_ok n a0c) krf krf (fun _ => by kernel_rfl) (fun r2 => ?_)
  refine xs_run 2 krf ?_
  refine xs_split (!r2) (fun h3 => ?_) (fun h3 => ?_)
  ·refine xs_no (want_ft krf h3) krf ?_
   refine xs_run 3 krf ?_
   refine xs_end ?_
   exact nq_n true ⟨[1, 2, 19], [2], [], []⟩ krf
  ·refine xs_one (want_ff krf h3) krf ?_
   refine xs_call [] krf (g_days_inside_ok n a1day (-1) 36501) krf krf (fun _ => by kernel_rfl) (fun r4 => ?_)
   refine xs_run 2 krf ?_
   refine xs_end ?_
   exact nq_n (!r4) ⟨[1, 2, 19], [2], [], []⟩ krf
 ·rintro j1
  refine sim_cond j1 krf ?_ ?_
  ·refine sim_run Try.fm ⟨[4, 5], [], [], []⟩ ⟨[(4, I 0), (5, I 1)], []⟩ krf ?_
   refine sim_ret ?_
   refine sq_r ?_
   exact rq_ret (.id) krf krf krf
  ·refine sim_skip ?_
   refine sq_nk ⟨[1, 2], [2], [], []⟩ ⟨[(1, I a1day), (2, .ptr 2 0)], [(2, .box 28 (bxc (GCalendar.cs a0c)))]⟩ krf ?_
   refine sim_seq ?_
   refine sim_reg ?_
   refine xs_inline [] [] [] [] [] krf Try.func42 rfl Try.ntmps42 rfl krf krf krf ?_
   refine sim_run Try.fm ⟨[], [], [], []⟩ ⟨[], []⟩ krf ?_
   refine sim_run Try.fm ⟨[0, 1], [], [], []⟩ ⟨[(0, .p (.val (.func (.func 74) #[] #[]))), (1, .p (.val (.func (.func 75) #[] #[])))], []⟩ krf ?_
   refine sim_ret ?_
   refine iq_ret .id [] [] (.tup [.p (.val (.func (.func 74) #[] #[])), .p (.val (.func (.func 75) #[] #[]))]) krf krf ?_
   refine kr0 ?_
   refine xs_run 5 krf ?_
   refine xs_end ?_
   refine sq_nk ⟨[1, 2, 7], [2], [], []⟩ ⟨[(1, I a1day), (2, .ptr 2 0), (7, .p (.val (.func (.func 75) #[] #[])))], [(2, .box 28 (bxc (GCalendar.cs a0c)))]⟩ krf ?_
   refine sim_seq ?_
   refine sim_seq ?_
   refine sim_reg ?_
   refine xs_run 4 krf ?_
   refine xs_call [] krf (g_days_last_int_ok n a0c.Holidays a1day) krf krf (fun _ => by kernel_rfl) (fun r5 => ?_)
   refine xs_run 1 krf ?_
   refine xs_end ?_
   refine sq_nk ⟨[1, 2, 8], [2], [], []⟩ ⟨[(1, I a1day), (2, .ptr 2 0), (8, I r5)], [(2, .box 28 (bxc (GCalendar.cs a0c)))]⟩ krf ?_
   refine sim_bind (fun j6 => ⟨[(1, I a1day), (39, B j6)], []⟩ : Bool → St) ?_ ?_
   ·refine sim_reg ?_
    refine xs_run 3 krf ?_
    refine xs_split (leI 0 r5) (fun h7 => ?_) (fun h7 => ?_)
    ·refine xs_one (want_tt krf h7) krf ?_
     refine xs_run 2 krf ?_
     refine xs_get krf krf (aop_idx (e := 3) (S := 1) (enc := ci) (l := a0c.Holidays) (k := .i64) (n := r5) (sv := .p (.sl 1 (List.map ci a0c.Holidays))) rfl krf krf krf krf krf) (fun x8 => ?_)
     refine xs_run 4 krf ?_
     refine xs_end ?_
     exact nq_n (eqI x8 a1day) ⟨[1, 39], [], [], []⟩ krf
    ·refine xs_no (want_tf krf h7) krf ?_
     refine xs_run 7 krf ?_
     refine xs_end ?_
     exact nq_n false ⟨[1, 39], [], [], []⟩ krf
   ·rintro j6
    refine sim_cond j6 krf ?_ ?_
    ·refine sim_run Try.fm ⟨[4, 5], [], [], []⟩ ⟨[(4, I 2), (5, I 0)], []⟩ krf ?_
     refine sim_ret ?_
     refine sq_r ?_
     exact rq_ret (.id) krf krf krf
    ·refine sim_skip ?_
     refine sq_nk ⟨[1], [], [], []⟩ ⟨[(1, I a1day)], []⟩ krf ?_
     refine sim_seq ?_
     refine sim_reg ?_
     refine xs_call [] krf (g_days_week_ok n) krf krf (fun _ => by kernel_rfl) (fun r9 => ?_)
     refine xs_run 2 krf ?_
     refine xs_end ?_
     refine sq_nk ⟨[1, 9], [9], [], []⟩ ⟨[(1, I a1day), (9, .ptr 9 0)], [(9, .box 126 [I r9.1, I r9.2.1, I r9.2.2.1, I r9.2.2.2.1, I r9.2.2.2.2.1, I r9.2.2.2.2.2.1, I r9.2.2.2.2.2.2])]⟩ krf ?_
     refine sim_seq ?_
     refine sim_reg ?_
     refine xs_run 1 krf ?_
     refine xs_call [] krf (g_days_split_ok n a1day 7) krf krf (fun _ => by kernel_rfl) (fun r10 => ?_)
     refine xs_run 5 krf ?_
     refine xs_end ?_
     refine sq_nk ⟨[9, 11], [9], [], []⟩ ⟨[(9, .ptr 9 0), (11, I r10.2)], [(9, .box 126 [I r9.1, I r9.2.1, I r9.2.2.1, I r9.2.2.2.1, I r9.2.2.2.2.1, I r9.2.2.2.2.2.1, I r9.2.2.2.2.2.2])]⟩ krf ?_
     refine sim_seq ?_
     refine sim_reg ?_
     refine xs_run 1 krf ?_
     refine xs_getH krf krf (aop_arrL (b := 9) (k := .i64) (n := r10.2) (len := 7) (e := 3) (l := [r9.1, r9.2.1, r9.2.2.1, r9.2.2.2.1, r9.2.2.2.2.1, r9.2.2.2.2.2.1, r9.2.2.2.2.2.2]) rfl krf krf krf krf rfl) (fun x11 hx11 => ?_)
     refine xs_u krf krf (aop_ldL (g := I) (l := [r9.1, r9.2.1, r9.2.2.1, r9.2.2.2.1, r9.2.2.2.2.1, r9.2.2.2.2.2.1, r9.2.2.2.2.2.2]) (tb := 126) (b := 9) (n := r10.2) (v := x11) rfl krf krf krf (getI_at hx11)) ?_
     refine xs_run 2 krf ?_
     refine xs_end ?_
     refine sq_nk ⟨[4, 5], [], [], []⟩ ⟨[(4, I x11), (5, I 0)], []⟩ krf ?_
     refine sim_ret ?_
     exact rq_ret (.id) krf krf krf
def g_tariff_Applies (n : Nat) (a0a : GArticle) (a1c : GCalendar) (a2minute : Int) : Option Bool :=
 (g_tariff_validArticle n a0a).bind fun r1 =>
 cond (!r1)
  (some false)
  ((g_days_Local n a1c a2minute).bind fun r2 =>
  (cond (!eqI r2.2.2 0)
   (some true)
   (cond (ltI r2.2.1 a0a.From)
    (some true)
    (some (leI a0a.To r2.2.1)))).bind fun j3 =>
  cond j3
   (some false)
   ((g_days_Type n a1c r2.1).bind fun r6 =>
   cond (eqI r6.2 0)
    (cond (!ltI r6.1 0) (
     some (!eqI (bAnd .i64 a0a.Days (shlI .i64 1 r6.1)) 0)) none)
    (some false)))
theorem g_tariff_Applies_ok (n : Nat) (a0a : GArticle) (a1c : GCalendar) (a2minute : Int) : ∀ r, g_tariff_Applies n a0a a1c a2minute = some r → PCall Try.prog 79 [ag (GArticle.cs a0a), ag (GCalendar.cs a1c), I a2minute] (.ret (B r)) := by
 refine pcall_sim (X := fun r : Bool => AEnd.ret (B r)) Try.func79 rfl Try.ntmps79 rfl ?_
 unfold g_tariff_Applies
 refine sim_run Try.fm ⟨[2, 3, 4], [3, 4], [], []⟩ ⟨[(2, I a2minute), (3, .ptr 3 0), (4, .ptr 4 0)], [(3, .box 44 (bxc (GArticle.cs a0a))), (4, .box 28 (bxc (GCalendar.cs a1c)))]⟩ krf ?_
 refine sim_seq ?_
 refine sim_seq ?_
 refine sim_reg ?_
 refine xs_run 1 krf ?_
 refine xs_call [] krf (g_tariff_validArticle_ok n a0a) krf krf (fun _ => by kernel_rfl) (fun r1 => ?_)
 refine xs_run 1 krf ?_
 refine xs_end ?_
 refine sq_nk ⟨[2, 3, 4, 13], [3, 4], [], []⟩ ⟨[(2, I a2minute), (3, .ptr 3 0), (4, .ptr 4 0), (13, B (!r1))], [(3, .box 44 (bxc (GArticle.cs a0a))), (4, .box 28 (bxc (GCalendar.cs a1c)))]⟩ krf ?_
 refine sim_cond (!r1) krf ?_ ?_
 ·refine sim_run Try.fm ⟨[6], [], [], []⟩ ⟨[(6, B false)], []⟩ krf ?_
  refine sim_ret ?_
  refine sq_r ?_
  exact rq_ret (.id) krf krf krf
 ·refine sim_skip ?_
  refine sq_nk ⟨[2, 3, 4], [3, 4], [], []⟩ ⟨[(2, I a2minute), (3, .ptr 3 0), (4, .ptr 4 0)], [(3, .box 44 (bxc (GArticle.cs a0a))), (4, .box 28 (bxc (GCalendar.cs a1c)))]⟩ krf ?_
  refine sim_seq ?_
  refine sim_reg ?_
  refine xs_run 2 krf ?_
  refine xs_call [] krf (g_days_Local_ok n a1c a2minute) krf krf (fun _ => by kernel_rfl) (fun r2 => ?_)
  refine xs_run 7 krf ?_
  refine xs_end ?_
  refine sq_nk ⟨[3, 4, 7, 8, 9], [3, 4], [], []⟩ ⟨[(3, .ptr 3 0), (4, .ptr 4 0), (7, I r2.1), (8, I r2.2.1), (9, I r2.2.2)], [(3, .box 44 (bxc (GArticle.cs a0a))), (4, .box 28 (bxc (GCalendar.cs a1c)))]⟩ krf ?_
  refine sim_seq ?_
  refine sim_bind (fun j3 => ⟨[(3, .ptr 3 0), (4, .ptr 4 0), (7, I r2.1), (34, B j3)], [(3, .box 44 (bxc (GArticle.cs a0a))), (4, .box 28 (bxc (GCalendar.cs a1c)))]⟩ : Bool → St) ?_ ?_
  ·refine sim_reg ?_
   refine xs_run 3 krf ?_
   refine xs_split (!eqI r2.2.2 0) (fun h4 => ?_) (fun h4 => ?_)
   ·refine xs_no (want_ft krf h4) krf ?_
    refine xs_run 10 krf ?_
    refine xs_end ?_
    exact nq_n true ⟨[3, 4, 7, 34], [3, 4], [], []⟩ krf
   ·refine xs_one (want_ff krf h4) krf ?_
    refine xs_run 5 krf ?_
    refine xs_split (ltI r2.2.1 a0a.From) (fun h5 => ?_) (fun h5 => ?_)
    ·refine xs_no (want_ft krf h5) krf ?_
     refine xs_run 4 krf ?_
     refine xs_end ?_
     exact nq_n true ⟨[3, 4, 7, 34], [3, 4], [], []⟩ krf
    ·refine xs_one (want_ff krf h5) krf ?_
     refine xs_run 4 krf ?_
     refine xs_end ?_
     exact nq_n (leI a0a.To r2.2.1) ⟨[3, 4, 7, 34], [3, 4], [], []⟩ krf
  ·rintro j3
   refine sim_cond j3 krf ?_ ?_
   ·refine sim_run Try.fm ⟨[6], [], [], []⟩ ⟨[(6, B false)], []⟩ krf ?_
    refine sim_ret ?_
    refine sq_r ?_
    exact rq_ret (.id) krf krf krf
   ·refine sim_skip ?_
    refine sq_nk ⟨[3, 4, 7], [3, 4], [], []⟩ ⟨[(3, .ptr 3 0), (4, .ptr 4 0), (7, I r2.1)], [(3, .box 44 (bxc (GArticle.cs a0a))), (4, .box 28 (bxc (GCalendar.cs a1c)))]⟩ krf ?_
    refine sim_seq ?_
    refine sim_reg ?_
    refine xs_run 2 krf ?_
    refine xs_call [] krf (g_days_Type_ok n a1c r2.1) krf krf (fun _ => by kernel_rfl) (fun r6 => ?_)
    refine xs_run 5 krf ?_
    refine xs_end ?_
    refine sq_nk ⟨[3, 9, 10], [3], [], []⟩ ⟨[(3, .ptr 3 0), (9, I r6.2), (10, I r6.1)], [(3, .box 44 (bxc (GArticle.cs a0a)))]⟩ krf ?_
    refine sim_seq ?_
    refine sim_drw Try.fm rfl ?_
    refine xs_run 3 krf ?_
    refine xs_split (eqI r6.2 0) (fun h7 => ?_) (fun h7 => ?_)
    ·refine xs_one (want_tt krf h7) krf ?_
     refine xs_run 2 krf ?_
     refine xs_if krf krf (aop_shl (k := .i64) (k' := .i64) (a := 1) (b := r6.1) rfl krf krf) ?_
     refine xs_run 4 krf ?_
     refine xs_endD krf ?_
     refine sq_nk ⟨[6], [], [], []⟩ ⟨[(6, B (!eqI (bAnd .i64 a0a.Days (shlI .i64 1 r6.1)) 0))], []⟩ krf ?_
     refine sim_ret ?_
     exact rq_ret (.id) krf krf krf
    ·refine xs_no (want_tf krf h7) krf ?_
     refine xs_run 7 krf ?_
     refine xs_endD krf ?_
     refine sq_nk ⟨[6], [], [], []⟩ ⟨[(6, B false)], []⟩ krf ?_
     refine sim_ret ?_
     exact rq_ret (.id) krf krf krf
def g_money_inside (n : Nat) (a0n : Int) (a1least : Int) (a2greatest : Int) : Option Bool :=
 cond (leI a1least a0n)
  (some (leI a0n a2greatest))
  (some false)
theorem g_money_inside_ok (n : Nat) (a0n : Int) (a1least : Int) (a2greatest : Int) : ∀ r, g_money_inside n a0n a1least a2greatest = some r → PCall Try.prog 55 [I a0n, I a1least, I a2greatest] (.ret (B r)) := by
 refine pcall_sim (X := fun r : Bool => AEnd.ret (B r)) Try.func55 rfl Try.ntmps55 rfl ?_
 unfold g_money_inside
 refine sim_run Try.fm ⟨[0, 1, 2, 6], [], [], []⟩ ⟨[(0, I a0n), (1, I a1least), (2, I a2greatest), (6, B false)], []⟩ krf ?_
 refine sim_seq ?_
 refine sim_reg ?_
 refine xs_run 4 krf ?_
 refine xs_split (leI a1least a0n) (fun h1 => ?_) (fun h1 => ?_)
 ·refine xs_one (want_tt krf h1) krf ?_
  refine xs_run 4 krf ?_
  refine xs_end ?_
  refine sq_nk ⟨[6], [], [], []⟩ ⟨[(6, B (leI a0n a2greatest))], []⟩ krf ?_
  refine sim_ret ?_
  exact rq_ret (.id) krf krf krf
 ·refine xs_no (want_tf krf h1) krf ?_
  refine xs_run 4 krf ?_
  refine xs_end ?_
  refine sq_nk ⟨[6], [], [], []⟩ ⟨[(6, B false)], []⟩ krf ?_
  refine sim_ret ?_
  exact rq_ret (.id) krf krf krf
def g_money_isAmount (n : Nat) (a0n : Int) : Option Bool :=
 (g_money_inside n a0n 0 1000000000).bind fun r1 =>
 some r1
theorem g_money_isAmount_ok (n : Nat) (a0n : Int) : ∀ r, g_money_isAmount n a0n = some r → PCall Try.prog 54 [I a0n] (.ret (B r)) := by
 refine pcall_sim (X := fun r : Bool => AEnd.ret (B r)) Try.func54 rfl Try.ntmps54 rfl ?_
 unfold g_money_isAmount
 refine sim_run Try.fm ⟨[0], [], [], []⟩ ⟨[(0, I a0n)], []⟩ krf ?_
 refine sim_seq ?_
 refine sim_reg ?_
 refine xs_run 1 krf ?_
 refine xs_call [] krf (g_money_inside_ok n a0n 0 1000000000) krf krf (fun _ => by kernel_rfl) (fun r1 => ?_)
 refine xs_run 1 krf ?_
 refine xs_end ?_
 refine sq_nk ⟨[2], [], [], []⟩ ⟨[(2, B r1)], []⟩ krf ?_
 refine sim_ret ?_
 exact rq_ret (.id) krf krf krf
def g_money_need (n : Nat) (a0holds : Bool) (a1err : Int) : Option (Except Int Unit) :=
 cond (!a0holds)
  (some (.error a1err))
  (some (.ok ()))
theorem g_money_need_ok (n : Nat) (a0holds : Bool) (a1err : Int) : ∀ r, g_money_need n a0holds a1err = some r → PCall Try.prog 53 [B a0holds, I a1err] (excE (fun r : Unit => (.tup [] : AV)) (fun e : Int => (.ifc 113 (.agg [I e]) : AV)) r) := by
 refine pcall_sim (X := excE (fun r : Unit => (.tup [] : AV)) (fun e : Int => (.ifc 113 (.agg [I e]) : AV))) Try.func53 rfl Try.ntmps53 rfl ?_
 unfold g_money_need
 refine sim_run Try.fm ⟨[1, 5], [], [], []⟩ ⟨[(1, I a1err), (5, B (!a0holds))], []⟩ krf ?_
 refine sim_cond (!a0holds) krf ?_ ?_
 ·refine sim_reg ?_
  refine xs_run 3 krf ?_
  refine xs_panic 113 (.agg [I a1err]) krf rfl krf ?_
  exact rq_p krf krf
 ·refine sim_skip ?_
  exact rq_n (.id) krf krf krf
def g_money_half (n : Nat) (a0n : Int) (a1by : Int) : Option Int :=
 cond (!eqI (wi (2 * a1by)) 0) (
  some (wi (Int.tdiv (wi ((wi (2 * a0n)) + a1by)) (wi (2 * a1by))))) none
theorem g_money_half_ok (n : Nat) (a0n : Int) (a1by : Int) : ∀ r, g_money_half n a0n a1by = some r → PCall Try.prog 57 [I a0n, I a1by] (.ret (I r)) := by
 refine pcall_sim (X := fun r : Int => AEnd.ret (I r)) Try.func57 rfl Try.ntmps57 rfl ?_
 unfold g_money_half
 refine sim_run Try.fm ⟨[0, 1], [], [], []⟩ ⟨[(0, I a0n), (1, I a1by)], []⟩ krf ?_
 refine sim_seq ?_
 refine sim_reg ?_
 refine xs_run 6 krf ?_
 refine xs_if krf krf (aop_quo (k := .i64) (a := wi ((wi (2 * a0n)) + a1by)) (b := wi (2 * a1by)) rfl krf krf) ?_
 refine xs_run 1 krf ?_
 refine xs_end ?_
 refine sq_nk ⟨[4], [], [], []⟩ ⟨[(4, I (wi (Int.tdiv (wi ((wi (2 * a0n)) + a1by)) (wi (2 * a1by)))))], []⟩ krf ?_
 refine sim_ret ?_
 exact rq_ret (.id) krf krf krf
def g_money_checked (n : Nat) (a0n : Int) : Option (Except Int Int) :=
 (g_money_isAmount n a0n).bind fun r1 =>
 (g_money_need n r1 3).bind (exc (fun r2 =>
  some (.ok a0n)) fun e3 => some (.error e3))
theorem g_money_checked_ok (n : Nat) (a0n : Int) : ∀ r, g_money_checked n a0n = some r → PCall Try.prog 56 [I a0n] (excE (fun r : Int => (I r : AV)) (fun e : Int => (.ifc 113 (.agg [I e]) : AV)) r) := by
 refine pcall_sim (X := excE (fun r : Int => (I r : AV)) (fun e : Int => (.ifc 113 (.agg [I e]) : AV))) Try.func56 rfl Try.ntmps56 rfl ?_
 unfold g_money_checked
 refine sim_run Try.fm ⟨[0], [], [], []⟩ ⟨[(0, I a0n)], []⟩ krf ?_
 refine sim_seq ?_
 refine sim_reg ?_
 refine xs_run 1 krf ?_
 refine xs_call [] krf (g_money_isAmount_ok n a0n) krf krf (fun _ => by kernel_rfl) (fun r1 => ?_)
 refine xs_exc [] krf (g_money_need_ok n r1 3) krf krf (fun _ => by kernel_rfl) (fun _ => by kernel_rfl) (fun r2 => ?_) (fun e3 => ?_)
 ·refine xs_end ?_
  refine sq_nk ⟨[0], [], [], []⟩ ⟨[(0, I a0n)], []⟩ krf ?_
  refine sim_run Try.fm ⟨[2], [], [], []⟩ ⟨[(2, I a0n)], []⟩ krf ?_
  refine sim_ret ?_
  exact rq_ret (.id) krf krf krf
 ·refine sq_p ?_
  exact rq_p krf krf
def g_money_caught (n : Nat) (a1err : Int) : Option Int :=
 some a1err
theorem g_money_caught_ok (n : Nat) (a1err : Int) : ∀ r, g_money_caught n a1err = some r → ACall Try.prog 52 [.p (.val (.nilIface)), .ptr 1001 0] (Go.Abs.look [(1001, .box 34 [I a1err])]) (heapR (fun r : Int => ((.ret (.tup []), [(1001, .box 34 [I r])]) : AEnd × List (Nat × Blk))) r) := by
 refine acall_sim (X := fun r : Int => ((.ret (.tup []), [(1001, .box 34 [I r])]) : AEnd × List (Nat × Blk))) [(1001, .box 34 [I a1err])] Try.func52 rfl Try.ntmps52 rfl ?_
 unfold g_money_caught
 refine sim_seq ?_
 refine sim_run Try.fm ⟨[0, 1, 6, 7], [1001], [], []⟩ ⟨[(0, .p (.val (.nilIface))), (1, .ptr 1001 0), (6, .p (.val (.nilIface))), (7, B true)], [(1001, .box 34 [I a1err])]⟩ krf ?_
 refine sim_condT krf ?_
 refine sim_ret ?_
 refine sq_r ?_
 exact hq_ret (.id) [1001] [] krf krf krf krf
def g_money_caught_2 (n : Nat) (a0x_0 : Int) (a1err : Int) : Option Int :=
 some a0x_0
theorem g_money_caught_2_ok (n : Nat) (a0x_0 : Int) (a1err : Int) : ∀ r, g_money_caught_2 n a0x_0 a1err = some r → ACall Try.prog 52 [.ifc 113 (.agg [I a0x_0]), .ptr 1001 0] (Go.Abs.look [(1001, .box 34 [I a1err])]) (heapR (fun r : Int => ((.ret (.tup []), [(1001, .box 34 [I r])]) : AEnd × List (Nat × Blk))) r) := by
 refine acall_sim (X := fun r : Int => ((.ret (.tup []), [(1001, .box 34 [I r])]) : AEnd × List (Nat × Blk))) [(1001, .box 34 [I a1err])] Try.func52 rfl Try.ntmps52 rfl ?_
 unfold g_money_caught_2
 refine sim_seq ?_
 refine sim_run Try.fm ⟨[0, 1, 6, 7], [1001], [], []⟩ ⟨[(0, .ifc 113 (.agg [I a0x_0])), (1, .ptr 1001 0), (6, .ifc 113 (.agg [I a0x_0])), (7, B false)], [(1001, .box 34 [I a1err])]⟩ krf ?_
 refine sim_condF krf ?_
 refine sim_skip ?_
 refine sq_nk ⟨[0, 1, 6, 7], [1001], [], []⟩ ⟨[(0, .ifc 113 (.agg [I a0x_0])), (1, .ptr 1001 0), (6, .ifc 113 (.agg [I a0x_0])), (7, B false)], [(1001, .box 34 [I a1err])]⟩ krf ?_
 refine sim_run Try.fm ⟨[0, 1, 4, 5, 6, 7], [4, 1001], [], []⟩ ⟨[(0, .ifc 113 (.agg [I a0x_0])), (1, .ptr 1001 0), (4, .ptr 4 0), (5, B true), (6, .ifc 113 (.agg [I a0x_0])), (7, B false)], [(4, .box 113 [I a0x_0]), (1001, .box 34 [I a1err])]⟩ krf ?_
 refine sim_seq ?_
 refine sim_run Try.fm ⟨[0, 1, 4, 6, 7, 14], [4, 1001], [], []⟩ ⟨[(0, .ifc 113 (.agg [I a0x_0])), (1, .ptr 1001 0), (4, .ptr 4 0), (6, .ifc 113 (.agg [I a0x_0])), (7, B false), (14, B false)], [(4, .box 113 [I a0x_0]), (1001, .box 34 [I a1err])]⟩ krf ?_
 refine sim_condF krf ?_
 refine sim_skip ?_
 refine sq_nk ⟨[1, 4, 6, 7], [4, 1001], [], []⟩ ⟨[(1, .ptr 1001 0), (4, .ptr 4 0), (6, .ifc 113 (.agg [I a0x_0])), (7, B false)], [(4, .box 113 [I a0x_0]), (1001, .box 34 [I a1err])]⟩ krf ?_
 refine sim_last Try.fm krf ?_
 exact hq_n (.id) [1001] [] krf krf krf krf
def g_money_Times_j1 (n : Nat) (a0price : Int) (a1quantity : Int) (a2per : Int) : Option (Int × Int) :=
 (g_money_half n (wi (a0price * a1quantity)) a2per).bind fun r2 =>
 (g_money_checked n r2).bind (exc (fun r3 =>
  (g_money_caught n 0).bind fun r5 =>
  some (r3, r5)) fun e4 => (g_money_caught_2 n e4 0).bind fun r6 =>
 some (0, r6))
def g_money_Times (n : Nat) (a0price : Int) (a1quantity : Int) (a2per : Int) : Option (Int × Int) :=
 (g_money_isAmount n a0price).bind fun r7 =>
 cond r7
  ((g_money_inside n a1quantity 0 1000000000).bind fun r9 =>
  cond r9
   ((g_money_inside n a2per 1 1000000000).bind fun r11 =>
   (g_money_need n r11 1).bind (exc (fun r12 =>
    g_money_Times_j1 n a0price a1quantity a2per) fun e13 => (g_money_caught_2 n e13 0).bind fun r14 =>
   some (0, r14)))
   ((g_money_need n false 1).bind (exc (fun r15 =>
    g_money_Times_j1 n a0price a1quantity a2per) fun e16 => (g_money_caught_2 n e16 0).bind fun r17 =>
   some (0, r17))))
  ((g_money_need n false 1).bind (exc (fun r18 =>
   g_money_Times_j1 n a0price a1quantity a2per) fun e19 => (g_money_caught_2 n e19 0).bind fun r20 =>
  some (0, r20)))
theorem g_money_Times_okH (n : Nat) (a0price : Int) (a1quantity : Int) (a2per : Int) : ∀ r, g_money_Times n a0price a1quantity a2per = some r → ACall Try.prog 76 [I a0price, I a1quantity, I a2per] (Go.Abs.look []) (heapR (fun r : Int × Int => ((.ret (.tup [I r.1, I r.2]), []) : AEnd × List (Nat × Blk))) r) := by
 refine defer_sim (X := fun r : Int × Int => ((.ret (.tup [I r.1, I r.2]), []) : AEnd × List (Nat × Blk))) [] (⟨Try.f94, _, _, _, 1, _, _, Try.func94, rfl, rfl, rfl, rfl, rfl, rfl, by decide, by decide, rfl, by kernel_rfl⟩ : Catcher Try.prog 94 52) (⟨_, _, _, _, _, 7, 8, _, rfl, rfl, rfl, rfl, rfl, rfl, rfl, by decide⟩ : Deferrer Try.f76 94) 7 Try.func76 Try.ntmps76 rfl krf rfl Try.fm rfl krf krf krf ?_
 unfold g_money_Times
 refine sim_keep ⟨[0, 1, 2, 6, 7], [2000], [], []⟩ ⟨[(0, I a0price), (1, I a1quantity), (2, I a2per), (6, I 0), (7, .ptr 2000 0)], [(2000, .box 34 [I 0])]⟩ krf ?_
 refine sim_cps (fun _ => ⟨[(0, I a0price), (1, I a1quantity), (2, I a2per), (6, I 0), (7, .ptr 2000 0)], [(2000, .box 34 [I 0])]⟩ : Unit → St) (fun _ => g_money_Times_j1 n a0price a1quantity a2per) ?_ ?_
 ·rintro _
  show SimE (g_money_Times_j1 n a0price a1quantity a2per) _ _ _ _ _ _
  unfold g_money_Times_j1
  refine sim_seq ?_
  refine sim_reg ?_
  refine xs_run 4 krf ?_
  refine xs_call [] krf (g_money_half_ok n (wi (a0price * a1quantity)) a2per) krf krf (fun _ => by kernel_rfl) (fun r2 => ?_)
  refine xs_exc [] krf (g_money_checked_ok n r2) krf krf (fun _ => by kernel_rfl) (fun _ => by kernel_rfl) (fun r3 => ?_) (fun e4 => ?_)
  ·refine xs_run 2 krf ?_
   refine xs_end ?_
   refine sq_nk ⟨[6, 7], [2000], [], []⟩ ⟨[(6, I r3), (7, .ptr 2000 0)], [(2000, .box 34 [I 0])]⟩ krf ?_
   refine sim_ret ?_
   refine dq_ret ?_
   refine sc_heap [(1001, 2000)] [] [] (g_money_caught_ok n 0) krf krf krf (fun _ => by kernel_rfl) (fun _ => by kernel_rfl) (fun r5 => ?_)
   exact ke_end (.id) [] [] krf krf krf krf
  ·refine sq_p ?_
   refine dq_p ?_
   refine sc_heap [(1001, 2000)] [] [] (g_money_caught_2_ok n e4 0) krf krf krf (fun _ => by kernel_rfl) (fun _ => by kernel_rfl) (fun r6 => ?_)
   exact ke_end (.id) [] [] krf krf krf krf
 ·refine sim_reg ?_
  refine xs_run 1 krf ?_
  refine xs_call [] krf (g_money_isAmount_ok n a0price) krf krf (fun _ => by kernel_rfl) (fun r7 => ?_)
  refine xs_run 1 krf ?_
  refine xs_split r7 (fun h8 => ?_) (fun h8 => ?_)
  ·refine xs_one (want_tt krf h8) krf ?_
   refine xs_call [] krf (g_money_inside_ok n a1quantity 0 1000000000) krf krf (fun _ => by kernel_rfl) (fun r9 => ?_)
   refine xs_run 2 krf ?_
   refine xs_split r9 (fun h10 => ?_) (fun h10 => ?_)
   ·refine xs_one (want_tt krf h10) krf ?_
    refine xs_call [] krf (g_money_inside_ok n a2per 1 1000000000) krf krf (fun _ => by kernel_rfl) (fun r11 => ?_)
    refine xs_run 1 krf ?_
    refine xs_exc [] krf (g_money_need_ok n r11 1) krf krf (fun _ => by kernel_rfl) (fun _ => by kernel_rfl) (fun r12 => ?_) (fun e13 => ?_)
    ·refine xs_end ?_
     exact kq_n (k := fun _ => g_money_Times_j1 n a0price a1quantity a2per) () ⟨[0, 1, 2, 6, 7], [2000], [], []⟩ krf
    ·refine kq_p ?_
     refine dq_p ?_
     refine sc_heap [(1001, 2000)] [] [] (g_money_caught_2_ok n e13 0) krf krf krf (fun _ => by kernel_rfl) (fun _ => by kernel_rfl) (fun r14 => ?_)
     exact ke_end (.id) [] [] krf krf krf krf
   ·refine xs_no (want_tf krf h10) krf ?_
    refine xs_run 2 krf ?_
    refine xs_exc [] krf (g_money_need_ok n false 1) krf krf (fun _ => by kernel_rfl) (fun _ => by kernel_rfl) (fun r15 => ?_) (fun e16 => ?_)
    ·refine xs_end ?_
     exact kq_n (k := fun _ => g_money_Times_j1 n a0price a1quantity a2per) () ⟨[0, 1, 2, 6, 7], [2000], [], []⟩ krf
    ·refine kq_p ?_
     refine dq_p ?_
     refine sc_heap [(1001, 2000)] [] [] (g_money_caught_2_ok n e16 0) krf krf krf (fun _ => by kernel_rfl) (fun _ => by kernel_rfl) (fun r17 => ?_)
     exact ke_end (.id) [] [] krf krf krf krf
  ·refine xs_no (want_tf krf h8) krf ?_
   refine xs_run 6 krf ?_
   refine xs_exc [] krf (g_money_need_ok n false 1) krf krf (fun _ => by kernel_rfl) (fun _ => by kernel_rfl) (fun r18 => ?_) (fun e19 => ?_)
   ·refine xs_end ?_
    exact kq_n (k := fun _ => g_money_Times_j1 n a0price a1quantity a2per) () ⟨[0, 1, 2, 6, 7], [2000], [], []⟩ krf
   ·refine kq_p ?_
    refine dq_p ?_
    refine sc_heap [(1001, 2000)] [] [] (g_money_caught_2_ok n e19 0) krf krf krf (fun _ => by kernel_rfl) (fun _ => by kernel_rfl) (fun r20 => ?_)
    exact ke_end (.id) [] [] krf krf krf krf
theorem g_money_Times_ok (n : Nat) (a0price : Int) (a1quantity : Int) (a2per : Int) : ∀ r, g_money_Times n a0price a1quantity a2per = some r → PCall Try.prog 76 [I a0price, I a1quantity, I a2per] (.ret (.tup [I r.1, I r.2])) := fun r h => pcall_of (g_money_Times_okH n a0price a1quantity a2per r h) rfl
def g_quote_quoted_count_l2 (n : Nat) (a0q : GQuoteQuoted) (a1a : GArticle) (recl2 : (Int × Int) → Option Int) (l2_1 : Int) (l2_2 : Int) : Option Int :=
 cond (ltI l2_1 a0q.to_)
  (((g_tariff_Applies n a1a a0q.calendar l2_1).bind fun r4 =>
  cond r4
   (some (wi (l2_2 + 1)))
   (some l2_2)).bind fun j3 =>
  recl2 (wi (l2_1 + 1), j3))
  (some l2_2)
def g_quote_quoted_count (n : Nat) (a0q : GQuoteQuoted) (a1a : GArticle) : Option Int :=
 loopN (fun recl2 (l2_1, l2_2) => g_quote_quoted_count_l2 n a0q a1a recl2 l2_1 l2_2) n (a0q.from_, 0)
theorem g_quote_quoted_count_ok (n : Nat) (a0q : GQuoteQuoted) (a1a : GArticle) : ∀ r, g_quote_quoted_count n a0q a1a = some r → PCall Try.prog 50 [.eptr (GQuoteQuoted.cs a0q), ag (GArticle.cs a1a)] (.ret (I r)) := by
 refine pcall_sim (X := fun r : Int => AEnd.ret (I r)) Try.func50 rfl Try.ntmps50 rfl ?_
 unfold g_quote_quoted_count
 refine sim_run Try.fm ⟨[2, 3], [2, 3], [], []⟩ ⟨[(2, .ptr 2 0), (3, .ptr 3 0)], [(2, .box 62 [.eptr (GQuoteQuoted.cs a0q)]), (3, .box 44 (bxc (GArticle.cs a1a)))]⟩ krf ?_
 refine sim_run Try.fm ⟨[2, 3, 5], [2, 3, 5], [], []⟩ ⟨[(2, .ptr 2 0), (3, .ptr 3 0), (5, .ptr 5 0)], [(2, .box 62 [.eptr (GQuoteQuoted.cs a0q)]), (3, .box 44 (bxc (GArticle.cs a1a))), (5, .box 3 [I 0])]⟩ krf ?_
 refine sim_seq ?_
 refine sim_seq ?_
 refine sim_drw Try.fm rfl ?_
 refine xs_run 8 krf ?_
 refine xs_inlineL [] [I a0q.from_, I a0q.to_] [(2, 402), (3, 403)] [] [] krf Try.func47 rfl Try.ntmps47 rfl krf krf krf ?_
 refine sim_run Try.fm ⟨[2, 3], [2, 3], [], []⟩ ⟨[(2, .ptr 2 0), (3, .ptr 3 0)], [(2, .box 3 [I a0q.from_]), (3, .box 3 [I a0q.to_])]⟩ krf ?_
 refine sim_run Try.fm ⟨[4], [2, 3], [], []⟩ ⟨[(4, .fn (.func 77) [] [.ptr 2 0, .ptr 3 0])], [(2, .box 3 [I a0q.from_]), (3, .box 3 [I a0q.to_])]⟩ krf ?_
 refine sim_ret ?_
 refine iq_ret .id [2, 3] [] (.fn (.func 77) [] [.ptr 2 0, .ptr 3 0]) krf krf ?_
 refine kqn ?_
 refine sq_nk ⟨[2, 3, 5, 15], [2, 3, 5, 402, 403], [], []⟩ ⟨[(2, .ptr 2 0), (3, .ptr 3 0), (5, .ptr 5 0), (15, .fn (.func 77) [] [.ptr 402 0, .ptr 403 0])], [(2, .box 62 [.eptr (GQuoteQuoted.cs a0q)]), (3, .box 44 (bxc (GArticle.cs a1a))), (5, .box 3 [I 0]), (402, .box 3 [I a0q.from_]), (403, .box 3 [I a0q.to_])]⟩ krf ?_
 refine sim_block ?_
 refine sim_keep ⟨[2, 3, 5, 15], [2, 3, 5, 402, 403], [], []⟩ ⟨[(2, .ptr 2 0), (3, .ptr 3 0), (5, .ptr 5 0), (15, .fn (.func 77) [] [.ptr 402 0, .ptr 403 0])], [(2, .box 62 [.eptr (GQuoteQuoted.cs a0q)]), (3, .box 44 (bxc (GArticle.cs a1a))), (5, .box 3 [I 0]), (402, .box 3 [I a0q.from_]), (403, .box 3 [I a0q.to_])]⟩ krf ?_
 refine sim_range 77 3000 [] [.ptr 402 0, .ptr 403 0] krf krf (fun nf1 _ hnf1 => ?_)
 refine sc_inline (hc := [(1002, .box 62 [.eptr (GQuoteQuoted.cs a0q)]), (1003, .box 44 (bxc (GArticle.cs a1a))), (1005, .box 3 [I 0]), (1402, .box 3 [I a0q.from_]), (1403, .box 3 [I a0q.to_]), (4000, .lp [(2, .ptr 1002 0), (3, .ptr 1003 0), (5, .ptr 1005 0), (15, .fn (.func 77) [] [.ptr 1402 0, .ptr 1403 0])] nf1 .ready none)]) (args' := [.yv 4000, .ptr 1402 0, .ptr 1403 0]) [(1002, 2), (1003, 3), (1005, 5), (1402, 402), (1403, 403), (4000, 3000)] [] [] Try.func77 rfl Try.ntmps77 rfl krf krf krf ?_
 refine sim_run Try.fm ⟨[0, 2, 4], [1002, 1003, 1005, 1402, 1403, 4000], [], []⟩ ⟨[(0, .yv 4000), (2, .ptr 1403 0), (4, I a0q.from_)], [(1002, .box 62 [.eptr (GQuoteQuoted.cs a0q)]), (1003, .box 44 (bxc (GArticle.cs a1a))), (1005, .box 3 [I 0]), (1402, .box 3 [I a0q.from_]), (1403, .box 3 [I a0q.to_]), (4000, .lp [(2, .ptr 1002 0), (3, .ptr 1003 0), (5, .ptr 1005 0), (15, .fn (.func 77) [] [.ptr 1402 0, .ptr 1403 0])] nf1 .ready none)]⟩ krf ?_
 refine sim_block ?_
 refine sim_loop (fun (l2_1, l2_2) => ⟨[(0, .yv 4000), (2, .ptr 1403 0), (4, I l2_1)], [(1002, .box 62 [.eptr (GQuoteQuoted.cs a0q)]), (1003, .box 44 (bxc (GArticle.cs a1a))), (1005, .box 3 [I l2_2]), (1402, .box 3 [I a0q.from_]), (1403, .box 3 [I a0q.to_]), (4000, .lp [(2, .ptr 1002 0), (3, .ptr 1003 0), (5, .ptr 1005 0), (15, .fn (.func 77) [] [.ptr 1402 0, .ptr 1403 0])] nf1 .ready none)]⟩ : (Int × Int) → St) (weak_shr (K := ⟨[0, 2, 4], [1002, 1003, 1005, 1402, 1403, 4000], [], []⟩) krf) ?_
 rintro recl2 ⟨l2_1, l2_2⟩
 show SimE (g_quote_quoted_count_l2 n a0q a1a recl2 l2_1 l2_2) _ _ _ _ _ _
 unfold g_quote_quoted_count_l2
 refine sim_seq ?_
 refine sim_run Try.fm ⟨[0, 2, 4, 8], [1002, 1003, 1005, 1402, 1403, 4000], [], []⟩ ⟨[(0, .yv 4000), (2, .ptr 1403 0), (4, I l2_1), (8, B (ltI l2_1 a0q.to_))], [(1002, .box 62 [.eptr (GQuoteQuoted.cs a0q)]), (1003, .box 44 (bxc (GArticle.cs a1a))), (1005, .box 3 [I l2_2]), (1402, .box 3 [I a0q.from_]), (1403, .box 3 [I a0q.to_]), (4000, .lp [(2, .ptr 1002 0), (3, .ptr 1003 0), (5, .ptr 1005 0), (15, .fn (.func 77) [] [.ptr 1402 0, .ptr 1403 0])] nf1 .ready none)]⟩ krf ?_
 refine sim_cond (ltI l2_1 a0q.to_) krf ?_ ?_
 ·refine sim_skip ?_
  refine sq_nk ⟨[0, 2, 4], [1002, 1003, 1005, 1402, 1403, 4000], [], []⟩ ⟨[(0, .yv 4000), (2, .ptr 1403 0), (4, I l2_1)], [(1002, .box 62 [.eptr (GQuoteQuoted.cs a0q)]), (1003, .box 44 (bxc (GArticle.cs a1a))), (1005, .box 3 [I l2_2]), (1402, .box 3 [I a0q.from_]), (1403, .box 3 [I a0q.to_]), (4000, .lp [(2, .ptr 1002 0), (3, .ptr 1003 0), (5, .ptr 1005 0), (15, .fn (.func 77) [] [.ptr 1402 0, .ptr 1403 0])] nf1 .ready none)]⟩ krf ?_
  refine sim_seq ?_
  refine sim_block ?_
  refine sim_bind (fun j3 => ⟨[(0, .yv 4000), (2, .ptr 1403 0), (4, I l2_1), (14, B false)], [(1002, .box 62 [.eptr (GQuoteQuoted.cs a0q)]), (1003, .box 44 (bxc (GArticle.cs a1a))), (1005, .box 3 [I j3]), (1402, .box 3 [I a0q.from_]), (1403, .box 3 [I a0q.to_]), (4000, .lp [(2, .ptr 1002 0), (3, .ptr 1003 0), (5, .ptr 1005 0), (15, .fn (.func 77) [] [.ptr 1402 0, .ptr 1403 0])] nf1 .ready none)]⟩ : Int → St) ?_ ?_
  ·refine sim_reg ?_
   refine xs_run 2 krf ?_
   refine xs_yield [] [(1002, .box 62 [.eptr (GQuoteQuoted.cs a0q)]), (1003, .box 44 (bxc (GArticle.cs a1a))), (1005, .box 3 [I l2_2]), (1402, .box 3 [I a0q.from_]), (1403, .box 3 [I a0q.to_]), (4000, .lp [(2, .ptr 1002 0), (3, .ptr 1003 0), (5, .ptr 1005 0), (15, .fn (.func 77) [] [.ptr 1402 0, .ptr 1403 0])] nf1 .ready none)] 4000 [(2, .ptr 1002 0), (3, .ptr 1003 0), (5, .ptr 1005 0), (15, .fn (.func 77) [] [.ptr 1402 0, .ptr 1403 0])] [] [] [I l2_1] krf hnf1 krf krf krf krf krf (fun _ => ?_)
   refine sim_last Try.fm krf ?_
   refine as_n ⟨[2, 3, 5, 6], [1002, 1003, 1005, 1402, 1403, 4000], [], []⟩ ⟨[(2, .ptr 1002 0), (3, .ptr 1003 0), (5, .ptr 1005 0), (6, I l2_1)], [(1002, .box 62 [.eptr (GQuoteQuoted.cs a0q)]), (1003, .box 44 (bxc (GArticle.cs a1a))), (1005, .box 3 [I l2_2]), (1402, .box 3 [I a0q.from_]), (1403, .box 3 [I a0q.to_]), (4000, .lp [(2, .ptr 1002 0), (3, .ptr 1003 0), (5, .ptr 1005 0), (15, .fn (.func 77) [] [.ptr 1402 0, .ptr 1403 0])] nf1 .busy none)]⟩ none krf krf ?_
   refine sim_block ?_
   refine sim_seq ?_
   refine sim_drw Try.fm rfl ?_
   refine xs_run 6 krf ?_
   refine xs_call [] krf (g_tariff_Applies_ok n a1a a0q.calendar l2_1) krf krf (fun _ => by kernel_rfl) (fun r4 => ?_)
   refine xs_endD krf ?_
   refine sq_nk ⟨[5, 23], [1002, 1003, 1005, 1402, 1403, 4000], [], []⟩ ⟨[(5, .ptr 1005 0), (23, B r4)], [(1002, .box 62 [.eptr (GQuoteQuoted.cs a0q)]), (1003, .box 44 (bxc (GArticle.cs a1a))), (1005, .box 3 [I l2_2]), (1402, .box 3 [I a0q.from_]), (1403, .box 3 [I a0q.to_]), (4000, .lp [(2, .ptr 1002 0), (3, .ptr 1003 0), (5, .ptr 1005 0), (15, .fn (.func 77) [] [.ptr 1402 0, .ptr 1403 0])] nf1 .busy none)]⟩ krf ?_
   refine sim_cond r4 krf ?_ ?_
   ·refine sim_last Try.fm krf ?_
    refine bq_n ?_
    refine rn_n [1002, 1003, 1005, 1402, 1403, 4000] [] .busy none krf krf ?_
    refine kr0 ?_
    refine xs_run 1 krf ?_
    refine xs_end ?_
    exact nq_n (wi (l2_2 + 1)) ⟨[0, 2, 4, 14], [1002, 1003, 1005, 1402, 1403, 4000], [], []⟩ krf
   ·refine sim_skip ?_
    refine bq_n ?_
    refine rn_n [1002, 1003, 1005, 1402, 1403, 4000] [] .busy none krf krf ?_
    refine kr0 ?_
    refine xs_run 1 krf ?_
    refine xs_end ?_
    exact nq_n l2_2 ⟨[0, 2, 4, 14], [1002, 1003, 1005, 1402, 1403, 4000], [], []⟩ krf
  ·rintro j3
   refine sim_condF krf ?_
   refine sim_skip ?_
   refine bq_n ?_
   refine sq_nk ⟨[0, 2, 4], [1002, 1003, 1005, 1402, 1403, 4000], [], []⟩ ⟨[(0, .yv 4000), (2, .ptr 1403 0), (4, I l2_1)], [(1002, .box 62 [.eptr (GQuoteQuoted.cs a0q)]), (1003, .box 44 (bxc (GArticle.cs a1a))), (1005, .box 3 [I j3]), (1402, .box 3 [I a0q.from_]), (1403, .box 3 [I a0q.to_]), (4000, .lp [(2, .ptr 1002 0), (3, .ptr 1003 0), (5, .ptr 1005 0), (15, .fn (.func 77) [] [.ptr 1402 0, .ptr 1403 0])] nf1 .ready none)]⟩ krf ?_
   refine sim_last Try.fm krf ?_
   exact kq_n (wi (l2_1 + 1), j3) ⟨[0, 2, 4], [1002, 1003, 1005, 1402, 1403, 4000], [], []⟩ krf
 ·refine sim_exit ?_
  refine sq_x ?_
  refine kq_x ?_
  refine bq_hit ?_
  refine iq_n .id [1002, 1003, 1005, 1402, 1403, 4000] [] (.tup []) krf krf ?_
  refine kg_n .ready ⟨[5], [5], [], []⟩ ⟨[(5, .ptr 5 0)], [(5, .box 3 [I l2_2])]⟩ krf (by intro h; cases h) krf ?_
  refine bq_n ?_
  refine sq_nk ⟨[5], [5], [], []⟩ ⟨[(5, .ptr 5 0)], [(5, .box 3 [I l2_2])]⟩ krf ?_
  refine sim_run Try.fm ⟨[4], [], [], []⟩ ⟨[(4, I l2_2)], []⟩ krf ?_
  refine sim_ret ?_
  exact rq_ret (.id) krf krf krf
def g_quote_quoted_energy_l5 (n : Nat) (a0q : GQuoteQuoted) (l3_1 : Int) (recl5 : (Int × Int) → Option Int) (l5_1 : Int) (l5_2 : Int) : Option Int :=
 cond (ltI l5_2 (lenI (List.map GArticle.cs a0q.Tariff.Articles)))
  ((getI a0q.Tariff.Articles l5_2).bind fun x6 =>
  (cond (eqI x6.Kind 2)
   ((g_tariff_Applies n x6 a0q.calendar l3_1).bind fun r9 =>
   some r9)
   (some false)).bind fun j7 =>
  cond j7
   (recl5 (wi (l5_1 + x6.Price), wi (l5_2 + 1)))
   (recl5 (l5_1, wi (l5_2 + 1))))
  (some l5_1)
def g_quote_quoted_energy_l3 (n : Nat) (a0q : GQuoteQuoted) (recl3 : (Int × Int) → Option Int) (l3_1 : Int) (l3_2 : Int) : Option Int :=
 cond (ltI l3_1 a0q.to_)
  ((loopN (fun recl5 (l5_1, l5_2) => g_quote_quoted_energy_l5 n a0q l3_1 recl5 l5_1 l5_2) n (0, 0)).bind fun j4 =>
  recl3 (wi (l3_1 + 1), maxI l3_2 j4))
  (some l3_2)
def g_quote_quoted_energy_l12 (n : Nat) (a0q : GQuoteQuoted) (recl12 : (Int × Int) → Option Int) (l12_1 : Int) (l12_2 : Int) : Option Int :=
 cond (ltI l12_2 (lenI (List.map GArticle.cs a0q.Tariff.Articles)))
  ((getI a0q.Tariff.Articles l12_2).bind fun x13 =>
  (cond (eqI x13.Kind 2)
   ((g_quote_quoted_count n a0q x13).bind fun r16 =>
   some (ltI 0 r16))
   (some false)).bind fun j14 =>
  cond j14
   (recl12 (wi (l12_1 + 1), wi (l12_2 + 1)))
   (recl12 (l12_1, wi (l12_2 + 1))))
  (some l12_1)
def g_quote_quoted_energy (n : Nat) (a0q : GQuoteQuoted) (a1energy : Int) : Option (Int × Int) :=
 cond (eqI a1energy 0)
  (some (0, 0))
  ((loopN (fun recl3 (l3_1, l3_2) => g_quote_quoted_energy_l3 n a0q recl3 l3_1 l3_2) n (a0q.from_, 0)).bind fun j1 =>
  (g_money_Times n j1 a1energy 1000).bind fun r10 =>
  cond (!eqI r10.2 0)
   (some (0, 3))
   ((loopN (fun recl12 (l12_1, l12_2) => g_quote_quoted_energy_l12 n a0q recl12 l12_1 l12_2) n (r10.1, 0)).bind fun j11 =>
   cond (ltI 1000000000 j11)
    (some (0, 3))
    (some (j11, 0))))
theorem g_quote_quoted_energy_ok (n : Nat) (a0q : GQuoteQuoted) (a1energy : Int) : ∀ r, g_quote_quoted_energy n a0q a1energy = some r → PCall Try.prog 45 [.eptr (GQuoteQuoted.cs a0q), I a1energy] (.ret (.tup [I r.1, I r.2])) := by
 refine pcall_sim (X := fun r : Int × Int => AEnd.ret (.tup [I r.1, I r.2])) Try.func45 rfl Try.ntmps45 rfl ?_
 unfold g_quote_quoted_energy
 refine sim_run Try.fm ⟨[0, 1], [], [], []⟩ ⟨[(0, .eptr (GQuoteQuoted.cs a0q)), (1, I a1energy)], []⟩ krf ?_
 refine sim_seq ?_
 refine sim_run Try.fm ⟨[0, 1, 12], [], [], []⟩ ⟨[(0, .eptr (GQuoteQuoted.cs a0q)), (1, I a1energy), (12, B (eqI a1energy 0))], []⟩ krf ?_
 refine sim_cond (eqI a1energy 0) krf ?_ ?_
 ·refine sim_run Try.fm ⟨[4, 5], [], [], []⟩ ⟨[(4, I 0), (5, I 0)], []⟩ krf ?_
  refine sim_ret ?_
  refine sq_r ?_
  exact rq_ret (.id) krf krf krf
 ·refine sim_skip ?_
  refine sq_nk ⟨[0, 1], [], [], []⟩ ⟨[(0, .eptr (GQuoteQuoted.cs a0q)), (1, I a1energy)], []⟩ krf ?_
  refine sim_seq ?_
  refine sim_hst [0, 1, 2, 3, 4, 5, 6, 7, 9] [9] [8, 10, 11, 12] Try.fm rfl krf krf ?_
  refine h_enter (f := 47) (args := [I a0q.from_, I a0q.to_]) (dst := some 21) krf krf ?_
  refine sc_inline (hc := []) (args' := [I a0q.from_, I a0q.to_]) [(2, 402), (3, 403)] [] [] Try.func47 rfl Try.ntmps47 rfl krf krf krf ?_
  refine sim_run Try.fm ⟨[2, 3], [2, 3], [], []⟩ ⟨[(2, .ptr 2 0), (3, .ptr 3 0)], [(2, .box 3 [I a0q.from_]), (3, .box 3 [I a0q.to_])]⟩ krf ?_
  refine sim_run Try.fm ⟨[4], [2, 3], [], []⟩ ⟨[(4, .fn (.func 77) [] [.ptr 2 0, .ptr 3 0])], [(2, .box 3 [I a0q.from_]), (3, .box 3 [I a0q.to_])]⟩ krf ?_
  refine sim_ret ?_
  refine iq_ret .id [2, 3] [] (.fn (.func 77) [] [.ptr 2 0, .ptr 3 0]) krf krf ?_
  refine kh [9] krf (lates_cons (late_move krf) (lates_nil)) ?_
  refine h_enter (f := 48) (args := [.eptr (GQuoteQuoted.cs a0q), I 2]) (dst := some 23) krf krf ?_
  refine sc_inline (hc := []) (args' := [.eptr (GQuoteQuoted.cs a0q), I 2]) [(2, 439), (3, 440)] [] [] Try.func48 rfl Try.ntmps48 rfl krf krf krf ?_
  refine sim_run Try.fm ⟨[2, 3], [2, 3], [], []⟩ ⟨[(2, .ptr 2 0), (3, .ptr 3 0)], [(2, .box 62 [.eptr (GQuoteQuoted.cs a0q)]), (3, .box 3 [I 2])]⟩ krf ?_
  refine sim_run Try.fm ⟨[4], [2, 3], [], []⟩ ⟨[(4, .fn (.func 78) [] [.ptr 2 0, .ptr 3 0])], [(2, .box 62 [.eptr (GQuoteQuoted.cs a0q)]), (3, .box 3 [I 2])]⟩ krf ?_
  refine sim_ret ?_
  refine iq_ret .id [2, 3] [] (.fn (.func 78) [] [.ptr 2 0, .ptr 3 0]) krf krf ?_
  refine kh [] krf (lates_nil) ?_
  refine h_enter (f := 46) (args := [.fn (.func 77) [] [.ptr 402 0, .ptr 403 0], .fn (.func 78) [] [.ptr 439 0, .ptr 440 0]]) (dst := some 24) krf krf ?_
  refine sc_inline (hc := [(1402, .box 3 [I a0q.from_]), (1403, .box 3 [I a0q.to_]), (1439, .box 62 [.eptr (GQuoteQuoted.cs a0q)]), (1440, .box 3 [I 2])]) (args' := [.fn (.func 77) [] [.ptr 1402 0, .ptr 1403 0], .fn (.func 78) [] [.ptr 1439 0, .ptr 1440 0]]) [(1402, 402), (1403, 403), (1439, 439), (1440, 440)] [] [] Try.func46 rfl Try.ntmps46 rfl krf krf krf ?_
  refine sim_run Try.fm ⟨[0, 3], [3, 1402, 1403, 1439, 1440], [], []⟩ ⟨[(0, .fn (.func 77) [] [.ptr 1402 0, .ptr 1403 0]), (3, .ptr 3 0)], [(3, .box 80 [.fn (.func 78) [] [.ptr 1439 0, .ptr 1440 0]]), (1402, .box 3 [I a0q.from_]), (1403, .box 3 [I a0q.to_]), (1439, .box 62 [.eptr (GQuoteQuoted.cs a0q)]), (1440, .box 3 [I 2])]⟩ krf ?_
  refine sim_run Try.fm ⟨[0, 3, 5], [3, 5, 1402, 1403, 1439, 1440], [], []⟩ ⟨[(0, .fn (.func 77) [] [.ptr 1402 0, .ptr 1403 0]), (3, .ptr 3 0), (5, .ptr 5 0)], [(3, .box 80 [.fn (.func 78) [] [.ptr 1439 0, .ptr 1440 0]]), (5, .box 3 [I 0]), (1402, .box 3 [I a0q.from_]), (1403, .box 3 [I a0q.to_]), (1439, .box 62 [.eptr (GQuoteQuoted.cs a0q)]), (1440, .box 3 [I 2])]⟩ krf ?_
  refine sim_bind (fun j1 => ⟨[(5, .ptr 5 0)], [(5, .box 3 [I j1]), (1402, .box 3 [I a0q.from_]), (1403, .box 3 [I a0q.to_]), (1439, .box 62 [.eptr (GQuoteQuoted.cs a0q)]), (1440, .box 3 [I 2])]⟩ : Int → St) ?_ ?_
  ·refine sim_run Try.fm ⟨[3, 5, 7], [3, 5, 1402, 1403, 1439, 1440], [], []⟩ ⟨[(3, .ptr 3 0), (5, .ptr 5 0), (7, .fn (.func 77) [] [.ptr 1402 0, .ptr 1403 0])], [(3, .box 80 [.fn (.func 78) [] [.ptr 1439 0, .ptr 1440 0]]), (5, .box 3 [I 0]), (1402, .box 3 [I a0q.from_]), (1403, .box 3 [I a0q.to_]), (1439, .box 62 [.eptr (GQuoteQuoted.cs a0q)]), (1440, .box 3 [I 2])]⟩ krf ?_
   refine sim_block ?_
   refine sim_keep ⟨[3, 5, 7], [3, 5, 1402, 1403, 1439, 1440], [], []⟩ ⟨[(3, .ptr 3 0), (5, .ptr 5 0), (7, .fn (.func 77) [] [.ptr 1402 0, .ptr 1403 0])], [(3, .box 80 [.fn (.func 78) [] [.ptr 1439 0, .ptr 1440 0]]), (5, .box 3 [I 0]), (1402, .box 3 [I a0q.from_]), (1403, .box 3 [I a0q.to_]), (1439, .box 62 [.eptr (GQuoteQuoted.cs a0q)]), (1440, .box 3 [I 2])]⟩ krf ?_
   refine sim_range 77 3000 [] [.ptr 1402 0, .ptr 1403 0] krf krf (fun nf2 _ hnf2 => ?_)
   refine sc_inline (hc := [(1003, .box 80 [.fn (.func 78) [] [.ptr 2439 0, .ptr 2440 0]]), (1005, .box 3 [I 0]), (2402, .box 3 [I a0q.from_]), (2403, .box 3 [I a0q.to_]), (2439, .box 62 [.eptr (GQuoteQuoted.cs a0q)]), (2440, .box 3 [I 2]), (4000, .lp [(3, .ptr 1003 0), (5, .ptr 1005 0), (7, .fn (.func 77) [] [.ptr 2402 0, .ptr 2403 0])] nf2 .ready none)]) (args' := [.yv 4000, .ptr 2402 0, .ptr 2403 0]) [(1003, 3), (1005, 5), (2402, 1402), (2403, 1403), (2439, 1439), (2440, 1440), (4000, 3000)] [] [] Try.func77 rfl Try.ntmps77 rfl krf krf krf ?_
   refine sim_run Try.fm ⟨[0, 2, 4], [1003, 1005, 2402, 2403, 2439, 2440, 4000], [], []⟩ ⟨[(0, .yv 4000), (2, .ptr 2403 0), (4, I a0q.from_)], [(1003, .box 80 [.fn (.func 78) [] [.ptr 2439 0, .ptr 2440 0]]), (1005, .box 3 [I 0]), (2402, .box 3 [I a0q.from_]), (2403, .box 3 [I a0q.to_]), (2439, .box 62 [.eptr (GQuoteQuoted.cs a0q)]), (2440, .box 3 [I 2]), (4000, .lp [(3, .ptr 1003 0), (5, .ptr 1005 0), (7, .fn (.func 77) [] [.ptr 2402 0, .ptr 2403 0])] nf2 .ready none)]⟩ krf ?_
   refine sim_block ?_
   refine sim_loop (fun (l3_1, l3_2) => ⟨[(0, .yv 4000), (2, .ptr 2403 0), (4, I l3_1)], [(1003, .box 80 [.fn (.func 78) [] [.ptr 2439 0, .ptr 2440 0]]), (1005, .box 3 [I l3_2]), (2402, .box 3 [I a0q.from_]), (2403, .box 3 [I a0q.to_]), (2439, .box 62 [.eptr (GQuoteQuoted.cs a0q)]), (2440, .box 3 [I 2]), (4000, .lp [(3, .ptr 1003 0), (5, .ptr 1005 0), (7, .fn (.func 77) [] [.ptr 2402 0, .ptr 2403 0])] nf2 .ready none)]⟩ : (Int × Int) → St) (weak_shr (K := ⟨[0, 2, 4], [1003, 1005, 2402, 2403, 2439, 2440, 4000], [], []⟩) krf) ?_
   rintro recl3 ⟨l3_1, l3_2⟩
   show SimE (g_quote_quoted_energy_l3 n a0q recl3 l3_1 l3_2) _ _ _ _ _ _
   unfold g_quote_quoted_energy_l3
   refine sim_seq ?_
   refine sim_run Try.fm ⟨[0, 2, 4, 8], [1003, 1005, 2402, 2403, 2439, 2440, 4000], [], []⟩ ⟨[(0, .yv 4000), (2, .ptr 2403 0), (4, I l3_1), (8, B (ltI l3_1 a0q.to_))], [(1003, .box 80 [.fn (.func 78) [] [.ptr 2439 0, .ptr 2440 0]]), (1005, .box 3 [I l3_2]), (2402, .box 3 [I a0q.from_]), (2403, .box 3 [I a0q.to_]), (2439, .box 62 [.eptr (GQuoteQuoted.cs a0q)]), (2440, .box 3 [I 2]), (4000, .lp [(3, .ptr 1003 0), (5, .ptr 1005 0), (7, .fn (.func 77) [] [.ptr 2402 0, .ptr 2403 0])] nf2 .ready none)]⟩ krf ?_
   refine sim_cond (ltI l3_1 a0q.to_) krf ?_ ?_
   ·refine sim_skip ?_
    refine sq_nk ⟨[0, 2, 4], [1003, 1005, 2402, 2403, 2439, 2440, 4000], [], []⟩ ⟨[(0, .yv 4000), (2, .ptr 2403 0), (4, I l3_1)], [(1003, .box 80 [.fn (.func 78) [] [.ptr 2439 0, .ptr 2440 0]]), (1005, .box 3 [I l3_2]), (2402, .box 3 [I a0q.from_]), (2403, .box 3 [I a0q.to_]), (2439, .box 62 [.eptr (GQuoteQuoted.cs a0q)]), (2440, .box 3 [I 2]), (4000, .lp [(3, .ptr 1003 0), (5, .ptr 1005 0), (7, .fn (.func 77) [] [.ptr 2402 0, .ptr 2403 0])] nf2 .ready none)]⟩ krf ?_
    refine sim_seq ?_
    refine sim_block ?_
    refine sim_seq ?_
    refine sim_reg ?_
    refine xs_run 2 krf ?_
    refine xs_yield [] [(1003, .box 80 [.fn (.func 78) [] [.ptr 2439 0, .ptr 2440 0]]), (1005, .box 3 [I l3_2]), (2402, .box 3 [I a0q.from_]), (2403, .box 3 [I a0q.to_]), (2439, .box 62 [.eptr (GQuoteQuoted.cs a0q)]), (2440, .box 3 [I 2]), (4000, .lp [(3, .ptr 1003 0), (5, .ptr 1005 0), (7, .fn (.func 77) [] [.ptr 2402 0, .ptr 2403 0])] nf2 .ready none)] 4000 [(3, .ptr 1003 0), (5, .ptr 1005 0), (7, .fn (.func 77) [] [.ptr 2402 0, .ptr 2403 0])] [] [] [I l3_1] krf hnf2 krf krf krf krf krf (fun _ => ?_)
    refine sim_last Try.fm krf ?_
    refine as_n ⟨[3, 5, 6], [1003, 1005, 2402, 2403, 2439, 2440, 4000], [], []⟩ ⟨[(3, .ptr 1003 0), (5, .ptr 1005 0), (6, I l3_1)], [(1003, .box 80 [.fn (.func 78) [] [.ptr 2439 0, .ptr 2440 0]]), (1005, .box 3 [I l3_2]), (2402, .box 3 [I a0q.from_]), (2403, .box 3 [I a0q.to_]), (2439, .box 62 [.eptr (GQuoteQuoted.cs a0q)]), (2440, .box 3 [I 2]), (4000, .lp [(3, .ptr 1003 0), (5, .ptr 1005 0), (7, .fn (.func 77) [] [.ptr 2402 0, .ptr 2403 0])] nf2 .busy none)]⟩ none krf krf ?_
    refine sim_block ?_
    refine sim_hst [0, 1, 2] [0] [3, 4, 5] Try.fm rfl krf krf ?_
    refine h_enter (f := 78) (args := [I l3_1, .ptr 2439 0, .ptr 2440 0]) (dst := some 12) krf krf ?_
    refine sc_inline (hc := [(3439, .box 62 [.eptr (GQuoteQuoted.cs a0q)]), (3440, .box 3 [I 2])]) (args' := [I l3_1, .ptr 3439 0, .ptr 3440 0]) [(3439, 2439), (3440, 2440)] [] [] Try.func78 rfl Try.ntmps78 rfl krf krf krf ?_
    refine sim_run Try.fm ⟨[0, 1, 2], [3439, 3440], [], []⟩ ⟨[(0, I l3_1), (1, .ptr 3439 0), (2, .ptr 3440 0)], [(3439, .box 62 [.eptr (GQuoteQuoted.cs a0q)]), (3440, .box 3 [I 2])]⟩ krf ?_
    refine sim_run Try.fm ⟨[0, 1, 2, 5], [3439, 3440], [], []⟩ ⟨[(0, I l3_1), (1, .ptr 3439 0), (2, .ptr 3440 0), (5, I 0)], [(3439, .box 62 [.eptr (GQuoteQuoted.cs a0q)]), (3440, .box 3 [I 2])]⟩ krf ?_
    refine sim_bind (fun j4 => ⟨[(5, I j4)], [(3439, .box 62 [.eptr (GQuoteQuoted.cs a0q)]), (3440, .box 3 [I 2])]⟩ : Int → St) ?_ ?_
    ·refine sim_run Try.fm ⟨[0, 1, 2, 5, 12, 13, 14], [3439, 3440], [], []⟩ ⟨[(0, I l3_1), (1, .ptr 3439 0), (2, .ptr 3440 0), (5, I 0), (12, .p (.sl 7 (List.map GArticle.cs a0q.Tariff.Articles))), (13, I (lenI (List.map GArticle.cs a0q.Tariff.Articles))), (14, I 0)], [(3439, .box 62 [.eptr (GQuoteQuoted.cs a0q)]), (3440, .box 3 [I 2])]⟩ krf ?_
     refine sim_block ?_
     refine sim_loop (fun (l5_1, l5_2) => ⟨[(0, I l3_1), (1, .ptr 3439 0), (2, .ptr 3440 0), (5, I l5_1), (12, .p (.sl 7 (List.map GArticle.cs a0q.Tariff.Articles))), (13, I (lenI (List.map GArticle.cs a0q.Tariff.Articles))), (14, I l5_2)], [(3439, .box 62 [.eptr (GQuoteQuoted.cs a0q)]), (3440, .box 3 [I 2])]⟩ : (Int × Int) → St) (weak_shr (K := ⟨[0, 1, 2, 5, 12, 13, 14], [3439, 3440], [], []⟩) krf) ?_
     rintro recl5 ⟨l5_1, l5_2⟩
     show SimE (g_quote_quoted_energy_l5 n a0q l3_1 recl5 l5_1 l5_2) _ _ _ _ _ _
     unfold g_quote_quoted_energy_l5
     refine sim_run Try.fm ⟨[0, 1, 2, 5, 12, 13, 14, 15], [3439, 3440], [], []⟩ ⟨[(0, I l3_1), (1, .ptr 3439 0), (2, .ptr 3440 0), (5, I l5_1), (12, .p (.sl 7 (List.map GArticle.cs a0q.Tariff.Articles))), (13, I (lenI (List.map GArticle.cs a0q.Tariff.Articles))), (14, I l5_2), (15, B (ltI l5_2 (lenI (List.map GArticle.cs a0q.Tariff.Articles))))], [(3439, .box 62 [.eptr (GQuoteQuoted.cs a0q)]), (3440, .box 3 [I 2])]⟩ krf ?_
     refine sim_seq ?_
     refine sim_cond (ltI l5_2 (lenI (List.map GArticle.cs a0q.Tariff.Articles))) krf ?_ ?_
     ·refine sim_skip ?_
      refine sq_nk ⟨[0, 1, 2, 5, 12, 13, 14], [3439, 3440], [], []⟩ ⟨[(0, I l3_1), (1, .ptr 3439 0), (2, .ptr 3440 0), (5, I l5_1), (12, .p (.sl 7 (List.map GArticle.cs a0q.Tariff.Articles))), (13, I (lenI (List.map GArticle.cs a0q.Tariff.Articles))), (14, I l5_2)], [(3439, .box 62 [.eptr (GQuoteQuoted.cs a0q)]), (3440, .box 3 [I 2])]⟩ krf ?_
      refine sim_seq ?_
      refine sim_block ?_
      refine sim_seq ?_
      refine sim_reg ?_
      refine xs_get krf krf (aop_idx (e := 44) (S := 7) (enc := GArticle.cs) (l := a0q.Tariff.Articles) (k := .i64) (n := l5_2) (sv := .p (.sl 7 (List.map GArticle.cs a0q.Tariff.Articles))) rfl krf krf krf krf krf) (fun x6 => ?_)
      refine xs_run 3 krf ?_
      refine xs_end ?_
      refine sq_nk ⟨[0, 1, 2, 5, 7, 12, 13, 14], [7, 3439, 3440], [], []⟩ ⟨[(0, I l3_1), (1, .ptr 3439 0), (2, .ptr 3440 0), (5, I l5_1), (7, .ptr 7 0), (12, .p (.sl 7 (List.map GArticle.cs a0q.Tariff.Articles))), (13, I (lenI (List.map GArticle.cs a0q.Tariff.Articles))), (14, I l5_2)], [(7, .box 44 (bxc (GArticle.cs x6))), (3439, .box 62 [.eptr (GQuoteQuoted.cs a0q)]), (3440, .box 3 [I 2])]⟩ krf ?_
      refine sim_bind (fun j7 => ⟨[(0, I l3_1), (1, .ptr 3439 0), (2, .ptr 3440 0), (5, I l5_1), (7, .ptr 7 0), (12, .p (.sl 7 (List.map GArticle.cs a0q.Tariff.Articles))), (13, I (lenI (List.map GArticle.cs a0q.Tariff.Articles))), (14, I l5_2), (30, B j7)], [(7, .box 44 (bxc (GArticle.cs x6))), (3439, .box 62 [.eptr (GQuoteQuoted.cs a0q)]), (3440, .box 3 [I 2])]⟩ : Bool → St) ?_ ?_
      ·refine sim_drw Try.fm rfl ?_
       refine xs_run 5 krf ?_
       refine xs_split (eqI x6.Kind 2) (fun h8 => ?_) (fun h8 => ?_)
       ·refine xs_one (want_tt krf h8) krf ?_
        refine xs_run 5 krf ?_
        refine xs_call [] krf (g_tariff_Applies_ok n x6 a0q.calendar l3_1) krf krf (fun _ => by kernel_rfl) (fun r9 => ?_)
        refine xs_run 1 krf ?_
        refine xs_endD krf ?_
        exact nq_n r9 ⟨[0, 1, 2, 5, 7, 12, 13, 14, 30], [7, 3439, 3440], [], []⟩ krf
       ·refine xs_no (want_tf krf h8) krf ?_
        refine xs_run 7 krf ?_
        refine xs_endD krf ?_
        exact nq_n false ⟨[0, 1, 2, 5, 7, 12, 13, 14, 30], [7, 3439, 3440], [], []⟩ krf
      ·rintro j7
       refine sim_cond j7 krf ?_ ?_
       ·refine sim_last Try.fm krf ?_
        refine bq_n ?_
        refine sq_nk ⟨[0, 1, 2, 5, 12, 13, 14], [3439, 3440], [], []⟩ ⟨[(0, I l3_1), (1, .ptr 3439 0), (2, .ptr 3440 0), (5, I (wi (l5_1 + x6.Price))), (12, .p (.sl 7 (List.map GArticle.cs a0q.Tariff.Articles))), (13, I (lenI (List.map GArticle.cs a0q.Tariff.Articles))), (14, I l5_2)], [(3439, .box 62 [.eptr (GQuoteQuoted.cs a0q)]), (3440, .box 3 [I 2])]⟩ krf ?_
        refine sim_last Try.fm krf ?_
        exact kq_n (wi (l5_1 + x6.Price), wi (l5_2 + 1)) ⟨[0, 1, 2, 5, 12, 13, 14], [3439, 3440], [], []⟩ krf
       ·refine sim_skip ?_
        refine bq_n ?_
        refine sq_nk ⟨[0, 1, 2, 5, 12, 13, 14], [3439, 3440], [], []⟩ ⟨[(0, I l3_1), (1, .ptr 3439 0), (2, .ptr 3440 0), (5, I l5_1), (12, .p (.sl 7 (List.map GArticle.cs a0q.Tariff.Articles))), (13, I (lenI (List.map GArticle.cs a0q.Tariff.Articles))), (14, I l5_2)], [(3439, .box 62 [.eptr (GQuoteQuoted.cs a0q)]), (3440, .box 3 [I 2])]⟩ krf ?_
        refine sim_last Try.fm krf ?_
        exact kq_n (l5_1, wi (l5_2 + 1)) ⟨[0, 1, 2, 5, 12, 13, 14], [3439, 3440], [], []⟩ krf
     ·refine sim_exit ?_
      refine sq_x ?_
      refine kq_x ?_
      refine bq_hit ?_
      exact nq_n l5_1 ⟨[5], [3439, 3440], [], []⟩ krf
    ·rintro j4
     refine sim_run Try.fm ⟨[4], [3439, 3440], [], []⟩ ⟨[(4, I j4)], [(3439, .box 62 [.eptr (GQuoteQuoted.cs a0q)]), (3440, .box 3 [I 2])]⟩ krf ?_
     refine sim_ret ?_
     refine iq_ret .id [3439, 3440] [] (I j4) krf krf ?_
     refine kh [0] krf (lates_cons (late_read (I l3_2) krf rfl) (lates_nil)) ?_
     refine h_op [] krf krf (lates_nil) ?_
     refine h_op [] krf krf (lates_nil) ?_
     refine h_end ?_
     refine bq_n ?_
     refine rn_n [1003, 1005, 2402, 2403, 2439, 2440, 4000] [] .busy none krf krf ?_
     refine kr0 ?_
     refine xs_run 1 krf ?_
     refine xs_end ?_
     refine sq_nk ⟨[0, 2, 4, 14], [1003, 1005, 2402, 2403, 2439, 2440, 4000], [], []⟩ ⟨[(0, .yv 4000), (2, .ptr 2403 0), (4, I l3_1), (14, B false)], [(1003, .box 80 [.fn (.func 78) [] [.ptr 2439 0, .ptr 2440 0]]), (1005, .box 3 [I (maxI l3_2 j4)]), (2402, .box 3 [I a0q.from_]), (2403, .box 3 [I a0q.to_]), (2439, .box 62 [.eptr (GQuoteQuoted.cs a0q)]), (2440, .box 3 [I 2]), (4000, .lp [(3, .ptr 1003 0), (5, .ptr 1005 0), (7, .fn (.func 77) [] [.ptr 2402 0, .ptr 2403 0])] nf2 .ready none)]⟩ krf ?_
     refine sim_condF krf ?_
     refine sim_skip ?_
     refine bq_n ?_
     refine sq_nk ⟨[0, 2, 4], [1003, 1005, 2402, 2403, 2439, 2440, 4000], [], []⟩ ⟨[(0, .yv 4000), (2, .ptr 2403 0), (4, I l3_1)], [(1003, .box 80 [.fn (.func 78) [] [.ptr 2439 0, .ptr 2440 0]]), (1005, .box 3 [I (maxI l3_2 j4)]), (2402, .box 3 [I a0q.from_]), (2403, .box 3 [I a0q.to_]), (2439, .box 62 [.eptr (GQuoteQuoted.cs a0q)]), (2440, .box 3 [I 2]), (4000, .lp [(3, .ptr 1003 0), (5, .ptr 1005 0), (7, .fn (.func 77) [] [.ptr 2402 0, .ptr 2403 0])] nf2 .ready none)]⟩ krf ?_
     refine sim_last Try.fm krf ?_
     exact kq_n (wi (l3_1 + 1), maxI l3_2 j4) ⟨[0, 2, 4], [1003, 1005, 2402, 2403, 2439, 2440, 4000], [], []⟩ krf
   ·refine sim_exit ?_
    refine sq_x ?_
    refine kq_x ?_
    refine bq_hit ?_
    refine iq_n .id [1003, 1005, 2402, 2403, 2439, 2440, 4000] [] (.tup []) krf krf ?_
    refine kg_n .ready ⟨[5], [5, 1402, 1403, 1439, 1440], [], []⟩ ⟨[(5, .ptr 5 0)], [(5, .box 3 [I l3_2]), (1402, .box 3 [I a0q.from_]), (1403, .box 3 [I a0q.to_]), (1439, .box 62 [.eptr (GQuoteQuoted.cs a0q)]), (1440, .box 3 [I 2])]⟩ krf (by intro h; cases h) krf ?_
    refine bq_n ?_
    exact nq_n l3_2 ⟨[5], [5, 1402, 1403, 1439, 1440], [], []⟩ krf
  ·rintro j1
   refine sim_run Try.fm ⟨[4], [1402, 1403, 1439, 1440], [], []⟩ ⟨[(4, I j1)], [(1402, .box 3 [I a0q.from_]), (1403, .box 3 [I a0q.to_]), (1439, .box 62 [.eptr (GQuoteQuoted.cs a0q)]), (1440, .box 3 [I 2])]⟩ krf ?_
   refine sim_ret ?_
   refine iq_ret .id [1402, 1403, 1439, 1440] [] (I j1) krf krf ?_
   refine kh [] krf (lates_nil) ?_
   refine h_op [] krf krf (lates_nil) ?_
   refine h_end ?_
   refine sq_nk ⟨[0, 1, 6], [], [], []⟩ ⟨[(0, .eptr (GQuoteQuoted.cs a0q)), (1, I a1energy), (6, I j1)], []⟩ krf ?_
   refine sim_seq ?_
   refine sim_reg ?_
   refine xs_run 2 krf ?_
   refine xs_call [] krf (g_money_Times_ok n j1 a1energy 1000) krf krf (fun _ => by kernel_rfl) (fun r10 => ?_)
   refine xs_run 5 krf ?_
   refine xs_end ?_
   refine sq_nk ⟨[0, 7, 8], [], [], []⟩ ⟨[(0, .eptr (GQuoteQuoted.cs a0q)), (7, I r10.1), (8, I r10.2)], []⟩ krf ?_
   refine sim_seq ?_
   refine sim_run Try.fm ⟨[0, 7, 32], [], [], []⟩ ⟨[(0, .eptr (GQuoteQuoted.cs a0q)), (7, I r10.1), (32, B (!eqI r10.2 0))], []⟩ krf ?_
   refine sim_cond (!eqI r10.2 0) krf ?_ ?_
   ·refine sim_run Try.fm ⟨[4, 5], [], [], []⟩ ⟨[(4, I 0), (5, I 3)], []⟩ krf ?_
    refine sim_ret ?_
    refine sq_r ?_
    exact rq_ret (.id) krf krf krf
   ·refine sim_skip ?_
    refine sq_nk ⟨[0, 7], [], [], []⟩ ⟨[(0, .eptr (GQuoteQuoted.cs a0q)), (7, I r10.1)], []⟩ krf ?_
    refine sim_bind (fun j11 => ⟨[(7, I j11)], []⟩ : Int → St) ?_ ?_
    ·refine sim_run Try.fm ⟨[0, 7, 37, 38, 39], [], [], []⟩ ⟨[(0, .eptr (GQuoteQuoted.cs a0q)), (7, I r10.1), (37, .p (.sl 7 (List.map GArticle.cs a0q.Tariff.Articles))), (38, I (lenI (List.map GArticle.cs a0q.Tariff.Articles))), (39, I 0)], []⟩ krf ?_
     refine sim_block ?_
     refine sim_loop (fun (l12_1, l12_2) => ⟨[(0, .eptr (GQuoteQuoted.cs a0q)), (7, I l12_1), (37, .p (.sl 7 (List.map GArticle.cs a0q.Tariff.Articles))), (38, I (lenI (List.map GArticle.cs a0q.Tariff.Articles))), (39, I l12_2)], []⟩ : (Int × Int) → St) (weak_shr (K := ⟨[0, 7, 37, 38, 39], [], [], []⟩) krf) ?_
     rintro recl12 ⟨l12_1, l12_2⟩
     show SimE (g_quote_quoted_energy_l12 n a0q recl12 l12_1 l12_2) _ _ _ _ _ _
     unfold g_quote_quoted_energy_l12
     refine sim_run Try.fm ⟨[0, 7, 37, 38, 39, 40], [], [], []⟩ ⟨[(0, .eptr (GQuoteQuoted.cs a0q)), (7, I l12_1), (37, .p (.sl 7 (List.map GArticle.cs a0q.Tariff.Articles))), (38, I (lenI (List.map GArticle.cs a0q.Tariff.Articles))), (39, I l12_2), (40, B (ltI l12_2 (lenI (List.map GArticle.cs a0q.Tariff.Articles))))], []⟩ krf ?_
     refine sim_seq ?_
     refine sim_cond (ltI l12_2 (lenI (List.map GArticle.cs a0q.Tariff.Articles))) krf ?_ ?_
     ·refine sim_skip ?_
      refine sq_nk ⟨[0, 7, 37, 38, 39], [], [], []⟩ ⟨[(0, .eptr (GQuoteQuoted.cs a0q)), (7, I l12_1), (37, .p (.sl 7 (List.map GArticle.cs a0q.Tariff.Articles))), (38, I (lenI (List.map GArticle.cs a0q.Tariff.Articles))), (39, I l12_2)], []⟩ krf ?_
      refine sim_seq ?_
      refine sim_block ?_
      refine sim_seq ?_
      refine sim_reg ?_
      refine xs_get krf krf (aop_idx (e := 44) (S := 7) (enc := GArticle.cs) (l := a0q.Tariff.Articles) (k := .i64) (n := l12_2) (sv := .p (.sl 7 (List.map GArticle.cs a0q.Tariff.Articles))) rfl krf krf krf krf krf) (fun x13 => ?_)
      refine xs_run 3 krf ?_
      refine xs_end ?_
      refine sq_nk ⟨[0, 7, 10, 37, 38, 39], [10], [], []⟩ ⟨[(0, .eptr (GQuoteQuoted.cs a0q)), (7, I l12_1), (10, .ptr 10 0), (37, .p (.sl 7 (List.map GArticle.cs a0q.Tariff.Articles))), (38, I (lenI (List.map GArticle.cs a0q.Tariff.Articles))), (39, I l12_2)], [(10, .box 44 (bxc (GArticle.cs x13)))]⟩ krf ?_
      refine sim_bind (fun j14 => ⟨[(0, .eptr (GQuoteQuoted.cs a0q)), (7, I l12_1), (37, .p (.sl 7 (List.map GArticle.cs a0q.Tariff.Articles))), (38, I (lenI (List.map GArticle.cs a0q.Tariff.Articles))), (39, I l12_2), (51, B j14)], []⟩ : Bool → St) ?_ ?_
      ·refine sim_reg ?_
       refine xs_run 4 krf ?_
       refine xs_split (eqI x13.Kind 2) (fun h15 => ?_) (fun h15 => ?_)
       ·refine xs_one (want_tt krf h15) krf ?_
        refine xs_run 1 krf ?_
        refine xs_call [] krf (g_quote_quoted_count_ok n a0q x13) krf krf (fun _ => by kernel_rfl) (fun r16 => ?_)
        refine xs_run 2 krf ?_
        refine xs_end ?_
        exact nq_n (ltI 0 r16) ⟨[0, 7, 37, 38, 39, 51], [], [], []⟩ krf
       ·refine xs_no (want_tf krf h15) krf ?_
        refine xs_run 4 krf ?_
        refine xs_end ?_
        exact nq_n false ⟨[0, 7, 37, 38, 39, 51], [], [], []⟩ krf
      ·rintro j14
       refine sim_cond j14 krf ?_ ?_
       ·refine sim_last Try.fm krf ?_
        refine bq_n ?_
        refine sq_nk ⟨[0, 7, 37, 38, 39], [], [], []⟩ ⟨[(0, .eptr (GQuoteQuoted.cs a0q)), (7, I (wi (l12_1 + 1))), (37, .p (.sl 7 (List.map GArticle.cs a0q.Tariff.Articles))), (38, I (lenI (List.map GArticle.cs a0q.Tariff.Articles))), (39, I l12_2)], []⟩ krf ?_
        refine sim_last Try.fm krf ?_
        exact kq_n (wi (l12_1 + 1), wi (l12_2 + 1)) ⟨[0, 7, 37, 38, 39], [], [], []⟩ krf
       ·refine sim_skip ?_
        refine bq_n ?_
        refine sq_nk ⟨[0, 7, 37, 38, 39], [], [], []⟩ ⟨[(0, .eptr (GQuoteQuoted.cs a0q)), (7, I l12_1), (37, .p (.sl 7 (List.map GArticle.cs a0q.Tariff.Articles))), (38, I (lenI (List.map GArticle.cs a0q.Tariff.Articles))), (39, I l12_2)], []⟩ krf ?_
        refine sim_last Try.fm krf ?_
        exact kq_n (l12_1, wi (l12_2 + 1)) ⟨[0, 7, 37, 38, 39], [], [], []⟩ krf
     ·refine sim_exit ?_
      refine sq_x ?_
      refine kq_x ?_
      refine bq_hit ?_
      exact nq_n l12_1 ⟨[7], [], [], []⟩ krf
    ·rintro j11
     refine sim_seq ?_
     refine sim_run Try.fm ⟨[7, 56], [], [], []⟩ ⟨[(7, I j11), (56, B (ltI 1000000000 j11))], []⟩ krf ?_
     refine sim_cond (ltI 1000000000 j11) krf ?_ ?_
     ·refine sim_run Try.fm ⟨[4, 5], [], [], []⟩ ⟨[(4, I 0), (5, I 3)], []⟩ krf ?_
      refine sim_ret ?_
      refine sq_r ?_
      exact rq_ret (.id) krf krf krf
     ·refine sim_skip ?_
      refine sq_nk ⟨[7], [], [], []⟩ ⟨[(7, I j11)], []⟩ krf ?_
      refine sim_run Try.fm ⟨[4, 5], [], [], []⟩ ⟨[(4, I j11), (5, I 0)], []⟩ krf ?_
      refine sim_ret ?_
      exact rq_ret (.id) krf krf krf
def g_money_Started_j1 (n : Nat) (a0price : Int) (a1quantity : Int) (a2unit : Int) : Option (Int × Int) :=
 cond (!eqI a2unit 0) (
  (g_money_checked n (wi (a0price * (wi (Int.tdiv (wi ((wi (a1quantity + a2unit)) - 1)) a2unit))))).bind (exc (fun r2 =>
   (g_money_caught n 0).bind fun r4 =>
   some (r2, r4)) fun e3 => (g_money_caught_2 n e3 0).bind fun r5 =>
  some (0, r5))) none
def g_money_Started (n : Nat) (a0price : Int) (a1quantity : Int) (a2unit : Int) : Option (Int × Int) :=
 (g_money_isAmount n a0price).bind fun r6 =>
 cond r6
  ((g_money_inside n a1quantity 0 1000000000).bind fun r8 =>
  cond r8
   ((g_money_inside n a2unit 1 1000000000).bind fun r10 =>
   (g_money_need n r10 1).bind (exc (fun r11 =>
    g_money_Started_j1 n a0price a1quantity a2unit) fun e12 => (g_money_caught_2 n e12 0).bind fun r13 =>
   some (0, r13)))
   ((g_money_need n false 1).bind (exc (fun r14 =>
    g_money_Started_j1 n a0price a1quantity a2unit) fun e15 => (g_money_caught_2 n e15 0).bind fun r16 =>
   some (0, r16))))
  ((g_money_need n false 1).bind (exc (fun r17 =>
   g_money_Started_j1 n a0price a1quantity a2unit) fun e18 => (g_money_caught_2 n e18 0).bind fun r19 =>
  some (0, r19)))
theorem g_money_Started_okH (n : Nat) (a0price : Int) (a1quantity : Int) (a2unit : Int) : ∀ r, g_money_Started n a0price a1quantity a2unit = some r → ACall Try.prog 49 [I a0price, I a1quantity, I a2unit] (Go.Abs.look []) (heapR (fun r : Int × Int => ((.ret (.tup [I r.1, I r.2]), []) : AEnd × List (Nat × Blk))) r) := by
 refine defer_sim (X := fun r : Int × Int => ((.ret (.tup [I r.1, I r.2]), []) : AEnd × List (Nat × Blk))) [] (⟨Try.f80, _, _, _, 1, _, _, Try.func80, rfl, rfl, rfl, rfl, rfl, rfl, by decide, by decide, rfl, by kernel_rfl⟩ : Catcher Try.prog 80 52) (⟨_, _, _, _, _, 7, 8, _, rfl, rfl, rfl, rfl, rfl, rfl, rfl, by decide⟩ : Deferrer Try.f49 80) 7 Try.func49 Try.ntmps49 rfl krf rfl Try.fm rfl krf krf krf ?_
 unfold g_money_Started
 refine sim_keep ⟨[0, 1, 2, 6, 7], [2000], [], []⟩ ⟨[(0, I a0price), (1, I a1quantity), (2, I a2unit), (6, I 0), (7, .ptr 2000 0)], [(2000, .box 34 [I 0])]⟩ krf ?_
 refine sim_cps (fun _ => ⟨[(0, I a0price), (1, I a1quantity), (2, I a2unit), (6, I 0), (7, .ptr 2000 0)], [(2000, .box 34 [I 0])]⟩ : Unit → St) (fun _ => g_money_Started_j1 n a0price a1quantity a2unit) ?_ ?_
 ·rintro _
  show SimE (g_money_Started_j1 n a0price a1quantity a2unit) _ _ _ _ _ _
  unfold g_money_Started_j1
  refine sim_seq ?_
  refine sim_reg ?_
  refine xs_run 6 krf ?_
  refine xs_if krf krf (aop_quo (k := .i64) (a := wi ((wi (a1quantity + a2unit)) - 1)) (b := a2unit) rfl krf krf) ?_
  refine xs_run 1 krf ?_
  refine xs_exc [] krf (g_money_checked_ok n (wi (a0price * (wi (Int.tdiv (wi ((wi (a1quantity + a2unit)) - 1)) a2unit))))) krf krf (fun _ => by kernel_rfl) (fun _ => by kernel_rfl) (fun r2 => ?_) (fun e3 => ?_)
  ·refine xs_run 2 krf ?_
   refine xs_end ?_
   refine sq_nk ⟨[6, 7], [2000], [], []⟩ ⟨[(6, I r2), (7, .ptr 2000 0)], [(2000, .box 34 [I 0])]⟩ krf ?_
   refine sim_ret ?_
   refine dq_ret ?_
   refine sc_heap [(1001, 2000)] [] [] (g_money_caught_ok n 0) krf krf krf (fun _ => by kernel_rfl) (fun _ => by kernel_rfl) (fun r4 => ?_)
   exact ke_end (.id) [] [] krf krf krf krf
  ·refine sq_p ?_
   refine dq_p ?_
   refine sc_heap [(1001, 2000)] [] [] (g_money_caught_2_ok n e3 0) krf krf krf (fun _ => by kernel_rfl) (fun _ => by kernel_rfl) (fun r5 => ?_)
   exact ke_end (.id) [] [] krf krf krf krf
 ·refine sim_reg ?_
  refine xs_run 1 krf ?_
  refine xs_call [] krf (g_money_isAmount_ok n a0price) krf krf (fun _ => by kernel_rfl) (fun r6 => ?_)
  refine xs_run 1 krf ?_
  refine xs_split r6 (fun h7 => ?_) (fun h7 => ?_)
  ·refine xs_one (want_tt krf h7) krf ?_
   refine xs_call [] krf (g_money_inside_ok n a1quantity 0 1000000000) krf krf (fun _ => by kernel_rfl) (fun r8 => ?_)
   refine xs_run 2 krf ?_
   refine xs_split r8 (fun h9 => ?_) (fun h9 => ?_)
   ·refine xs_one (want_tt krf h9) krf ?_
    refine xs_call [] krf (g_money_inside_ok n a2unit 1 1000000000) krf krf (fun _ => by kernel_rfl) (fun r10 => ?_)
    refine xs_run 1 krf ?_
    refine xs_exc [] krf (g_money_need_ok n r10 1) krf krf (fun _ => by kernel_rfl) (fun _ => by kernel_rfl) (fun r11 => ?_) (fun e12 => ?_)
    ·refine xs_end ?_
     exact kq_n (k := fun _ => g_money_Started_j1 n a0price a1quantity a2unit) () ⟨[0, 1, 2, 6, 7], [2000], [], []⟩ krf
    ·refine kq_p ?_
     refine dq_p ?_
     refine sc_heap [(1001, 2000)] [] [] (g_money_caught_2_ok n e12 0) krf krf krf (fun _ => by kernel_rfl) (fun _ => by kernel_rfl) (fun r13 => ?_)
     exact ke_end (.id) [] [] krf krf krf krf
   ·refine xs_no (want_tf krf h9) krf ?_
    refine xs_run 2 krf ?_
    refine xs_exc [] krf (g_money_need_ok n false 1) krf krf (fun _ => by kernel_rfl) (fun _ => by kernel_rfl) (fun r14 => ?_) (fun e15 => ?_)
    ·refine xs_end ?_
     exact kq_n (k := fun _ => g_money_Started_j1 n a0price a1quantity a2unit) () ⟨[0, 1, 2, 6, 7], [2000], [], []⟩ krf
    ·refine kq_p ?_
     refine dq_p ?_
     refine sc_heap [(1001, 2000)] [] [] (g_money_caught_2_ok n e15 0) krf krf krf (fun _ => by kernel_rfl) (fun _ => by kernel_rfl) (fun r16 => ?_)
     exact ke_end (.id) [] [] krf krf krf krf
  ·refine xs_no (want_tf krf h7) krf ?_
   refine xs_run 6 krf ?_
   refine xs_exc [] krf (g_money_need_ok n false 1) krf krf (fun _ => by kernel_rfl) (fun _ => by kernel_rfl) (fun r17 => ?_) (fun e18 => ?_)
   ·refine xs_end ?_
    exact kq_n (k := fun _ => g_money_Started_j1 n a0price a1quantity a2unit) () ⟨[0, 1, 2, 6, 7], [2000], [], []⟩ krf
   ·refine kq_p ?_
    refine dq_p ?_
    refine sc_heap [(1001, 2000)] [] [] (g_money_caught_2_ok n e18 0) krf krf krf (fun _ => by kernel_rfl) (fun _ => by kernel_rfl) (fun r19 => ?_)
    exact ke_end (.id) [] [] krf krf krf krf
theorem g_money_Started_ok (n : Nat) (a0price : Int) (a1quantity : Int) (a2unit : Int) : ∀ r, g_money_Started n a0price a1quantity a2unit = some r → PCall Try.prog 49 [I a0price, I a1quantity, I a2unit] (.ret (.tup [I r.1, I r.2])) := fun r h => pcall_of (g_money_Started_okH n a0price a1quantity a2unit r h) rfl
def g_quote_quoted_sum_l6 (n : Nat) (a0q : GQuoteQuoted) (l4_1 : Int) (recl6 : (Int × Int) → Option Int) (l6_1 : Int) (l6_2 : Int) : Option Int :=
 cond (ltI l6_2 (lenI (List.map GArticle.cs a0q.Tariff.Articles)))
  ((getI a0q.Tariff.Articles l6_2).bind fun x7 =>
  (cond (eqI x7.Kind 1)
   ((g_tariff_Applies n x7 a0q.calendar l4_1).bind fun r10 =>
   some r10)
   (some false)).bind fun j8 =>
  cond j8
   (recl6 (wi (l6_1 + x7.Price), wi (l6_2 + 1)))
   (recl6 (l6_1, wi (l6_2 + 1))))
  (some l6_1)
def g_quote_quoted_sum_l4 (n : Nat) (a0q : GQuoteQuoted) (recl4 : (Int × Int) → Option Int) (l4_1 : Int) (l4_2 : Int) : Option Int :=
 cond (ltI l4_1 a0q.to_)
  ((loopN (fun recl6 (l6_1, l6_2) => g_quote_quoted_sum_l6 n a0q l4_1 recl6 l6_1 l6_2) n (0, 0)).bind fun j5 =>
  recl4 (wi (l4_1 + 1), maxI l4_2 j5))
  (some l4_2)
def g_quote_quoted_sum_j11 (j11 : Int) : Option (Int × Int) :=
 cond (ltI 1000000000 j11)
  (some (0, 3))
  (some (j11, 0))
def g_quote_quoted_sum_l12 (n : Nat) (a0q : GQuoteQuoted) (recl12 : (Int × Int) → Option (Int × Int)) (l12_1 : Int) (l12_2 : Int) : Option (Int × Int) :=
 cond (ltI l12_2 (lenI (List.map GArticle.cs a0q.Tariff.Articles)))
  ((getI a0q.Tariff.Articles l12_2).bind fun x13 =>
  (cond (!eqI x13.Kind 3)
   (some (!eqI x13.Kind 4))
   (some false)).bind fun j14 =>
  cond j14
   (recl12 (l12_1, wi (l12_2 + 1)))
   ((g_quote_quoted_count n a0q x13).bind fun r16 =>
   (g_money_Started n x13.Price (maxI 0 (wi (r16 - x13.Free))) x13.Unit).bind fun r17 =>
   cond (!eqI r17.2 0)
    (some (0, 3))
    (recl12 (wi (l12_1 + r17.1), wi (l12_2 + 1)))))
  (g_quote_quoted_sum_j11 l12_1)
def g_quote_quoted_sum (n : Nat) (a0q : GQuoteQuoted) (a1energy : Int) : Option (Int × Int) :=
 (g_quote_quoted_energy n a0q a1energy).bind fun r1 =>
 cond (!eqI r1.2 0)
  (some (0, r1.2))
  ((loopN (fun recl4 (l4_1, l4_2) => g_quote_quoted_sum_l4 n a0q recl4 l4_1 l4_2) n (a0q.from_, 0)).bind fun j2 =>
  loopN (fun recl12 (l12_1, l12_2) => g_quote_quoted_sum_l12 n a0q recl12 l12_1 l12_2) n (wi (r1.1 + j2), 0))
theorem g_quote_quoted_sum_ok (n : Nat) (a0q : GQuoteQuoted) (a1energy : Int) : ∀ r, g_quote_quoted_sum n a0q a1energy = some r → PCall Try.prog 29 [.eptr (GQuoteQuoted.cs a0q), I a1energy] (.ret (.tup [I r.1, I r.2])) := by
 refine pcall_sim (X := fun r : Int × Int => AEnd.ret (.tup [I r.1, I r.2])) Try.func29 rfl Try.ntmps29 rfl ?_
 unfold g_quote_quoted_sum
 refine sim_run Try.fm ⟨[0, 1], [], [], []⟩ ⟨[(0, .eptr (GQuoteQuoted.cs a0q)), (1, I a1energy)], []⟩ krf ?_
 refine sim_seq ?_
 refine sim_reg ?_
 refine xs_run 2 krf ?_
 refine xs_call [] krf (g_quote_quoted_energy_ok n a0q a1energy) krf krf (fun _ => by kernel_rfl) (fun r1 => ?_)
 refine xs_run 5 krf ?_
 refine xs_end ?_
 refine sq_nk ⟨[0, 6, 7], [], [], []⟩ ⟨[(0, .eptr (GQuoteQuoted.cs a0q)), (6, I r1.1), (7, I r1.2)], []⟩ krf ?_
 refine sim_seq ?_
 refine sim_run Try.fm ⟨[0, 6, 7, 20], [], [], []⟩ ⟨[(0, .eptr (GQuoteQuoted.cs a0q)), (6, I r1.1), (7, I r1.2), (20, B (!eqI r1.2 0))], []⟩ krf ?_
 refine sim_cond (!eqI r1.2 0) krf ?_ ?_
 ·refine sim_run Try.fm ⟨[4, 5], [], [], []⟩ ⟨[(4, I 0), (5, I r1.2)], []⟩ krf ?_
  refine sim_ret ?_
  refine sq_r ?_
  exact rq_ret (.id) krf krf krf
 ·refine sim_skip ?_
  refine sq_nk ⟨[0, 6], [], [], []⟩ ⟨[(0, .eptr (GQuoteQuoted.cs a0q)), (6, I r1.1)], []⟩ krf ?_
  refine sim_seq ?_
  refine sim_hst [0, 1, 2, 3, 4, 5, 6, 7, 8, 10] [0, 10] [9, 11, 12, 13, 14] Try.fm rfl krf krf ?_
  refine h_enter (f := 47) (args := [I a0q.from_, I a0q.to_]) (dst := some 31) krf krf ?_
  refine sc_inline (hc := []) (args' := [I a0q.from_, I a0q.to_]) [(2, 402), (3, 403)] [] [] Try.func47 rfl Try.ntmps47 rfl krf krf krf ?_
  refine sim_run Try.fm ⟨[2, 3], [2, 3], [], []⟩ ⟨[(2, .ptr 2 0), (3, .ptr 3 0)], [(2, .box 3 [I a0q.from_]), (3, .box 3 [I a0q.to_])]⟩ krf ?_
  refine sim_run Try.fm ⟨[4], [2, 3], [], []⟩ ⟨[(4, .fn (.func 77) [] [.ptr 2 0, .ptr 3 0])], [(2, .box 3 [I a0q.from_]), (3, .box 3 [I a0q.to_])]⟩ krf ?_
  refine sim_ret ?_
  refine iq_ret .id [2, 3] [] (.fn (.func 77) [] [.ptr 2 0, .ptr 3 0]) krf krf ?_
  refine kh [0, 10] krf (lates_cons (late_move krf) (lates_cons (late_move krf) (lates_nil))) ?_
  refine h_enter (f := 48) (args := [.eptr (GQuoteQuoted.cs a0q), I 1]) (dst := some 33) krf krf ?_
  refine sc_inline (hc := []) (args' := [.eptr (GQuoteQuoted.cs a0q), I 1]) [(2, 439), (3, 440)] [] [] Try.func48 rfl Try.ntmps48 rfl krf krf krf ?_
  refine sim_run Try.fm ⟨[2, 3], [2, 3], [], []⟩ ⟨[(2, .ptr 2 0), (3, .ptr 3 0)], [(2, .box 62 [.eptr (GQuoteQuoted.cs a0q)]), (3, .box 3 [I 1])]⟩ krf ?_
  refine sim_run Try.fm ⟨[4], [2, 3], [], []⟩ ⟨[(4, .fn (.func 78) [] [.ptr 2 0, .ptr 3 0])], [(2, .box 62 [.eptr (GQuoteQuoted.cs a0q)]), (3, .box 3 [I 1])]⟩ krf ?_
  refine sim_ret ?_
  refine iq_ret .id [2, 3] [] (.fn (.func 78) [] [.ptr 2 0, .ptr 3 0]) krf krf ?_
  refine kh [0] krf (lates_cons (late_move krf) (lates_nil)) ?_
  refine h_enter (f := 46) (args := [.fn (.func 77) [] [.ptr 402 0, .ptr 403 0], .fn (.func 78) [] [.ptr 439 0, .ptr 440 0]]) (dst := some 34) krf krf ?_
  refine sc_inline (hc := [(1402, .box 3 [I a0q.from_]), (1403, .box 3 [I a0q.to_]), (1439, .box 62 [.eptr (GQuoteQuoted.cs a0q)]), (1440, .box 3 [I 1])]) (args' := [.fn (.func 77) [] [.ptr 1402 0, .ptr 1403 0], .fn (.func 78) [] [.ptr 1439 0, .ptr 1440 0]]) [(1402, 402), (1403, 403), (1439, 439), (1440, 440)] [] [] Try.func46 rfl Try.ntmps46 rfl krf krf krf ?_
  refine sim_run Try.fm ⟨[0, 3], [3, 1402, 1403, 1439, 1440], [], []⟩ ⟨[(0, .fn (.func 77) [] [.ptr 1402 0, .ptr 1403 0]), (3, .ptr 3 0)], [(3, .box 80 [.fn (.func 78) [] [.ptr 1439 0, .ptr 1440 0]]), (1402, .box 3 [I a0q.from_]), (1403, .box 3 [I a0q.to_]), (1439, .box 62 [.eptr (GQuoteQuoted.cs a0q)]), (1440, .box 3 [I 1])]⟩ krf ?_
  refine sim_run Try.fm ⟨[0, 3, 5], [3, 5, 1402, 1403, 1439, 1440], [], []⟩ ⟨[(0, .fn (.func 77) [] [.ptr 1402 0, .ptr 1403 0]), (3, .ptr 3 0), (5, .ptr 5 0)], [(3, .box 80 [.fn (.func 78) [] [.ptr 1439 0, .ptr 1440 0]]), (5, .box 3 [I 0]), (1402, .box 3 [I a0q.from_]), (1403, .box 3 [I a0q.to_]), (1439, .box 62 [.eptr (GQuoteQuoted.cs a0q)]), (1440, .box 3 [I 1])]⟩ krf ?_
  refine sim_bind (fun j2 => ⟨[(5, .ptr 5 0)], [(5, .box 3 [I j2]), (1402, .box 3 [I a0q.from_]), (1403, .box 3 [I a0q.to_]), (1439, .box 62 [.eptr (GQuoteQuoted.cs a0q)]), (1440, .box 3 [I 1])]⟩ : Int → St) ?_ ?_
  ·refine sim_run Try.fm ⟨[3, 5, 7], [3, 5, 1402, 1403, 1439, 1440], [], []⟩ ⟨[(3, .ptr 3 0), (5, .ptr 5 0), (7, .fn (.func 77) [] [.ptr 1402 0, .ptr 1403 0])], [(3, .box 80 [.fn (.func 78) [] [.ptr 1439 0, .ptr 1440 0]]), (5, .box 3 [I 0]), (1402, .box 3 [I a0q.from_]), (1403, .box 3 [I a0q.to_]), (1439, .box 62 [.eptr (GQuoteQuoted.cs a0q)]), (1440, .box 3 [I 1])]⟩ krf ?_
   refine sim_block ?_
   refine sim_keep ⟨[3, 5, 7], [3, 5, 1402, 1403, 1439, 1440], [], []⟩ ⟨[(3, .ptr 3 0), (5, .ptr 5 0), (7, .fn (.func 77) [] [.ptr 1402 0, .ptr 1403 0])], [(3, .box 80 [.fn (.func 78) [] [.ptr 1439 0, .ptr 1440 0]]), (5, .box 3 [I 0]), (1402, .box 3 [I a0q.from_]), (1403, .box 3 [I a0q.to_]), (1439, .box 62 [.eptr (GQuoteQuoted.cs a0q)]), (1440, .box 3 [I 1])]⟩ krf ?_
   refine sim_range 77 3000 [] [.ptr 1402 0, .ptr 1403 0] krf krf (fun nf3 _ hnf3 => ?_)
   refine sc_inline (hc := [(1003, .box 80 [.fn (.func 78) [] [.ptr 2439 0, .ptr 2440 0]]), (1005, .box 3 [I 0]), (2402, .box 3 [I a0q.from_]), (2403, .box 3 [I a0q.to_]), (2439, .box 62 [.eptr (GQuoteQuoted.cs a0q)]), (2440, .box 3 [I 1]), (4000, .lp [(3, .ptr 1003 0), (5, .ptr 1005 0), (7, .fn (.func 77) [] [.ptr 2402 0, .ptr 2403 0])] nf3 .ready none)]) (args' := [.yv 4000, .ptr 2402 0, .ptr 2403 0]) [(1003, 3), (1005, 5), (2402, 1402), (2403, 1403), (2439, 1439), (2440, 1440), (4000, 3000)] [] [] Try.func77 rfl Try.ntmps77 rfl krf krf krf ?_
   refine sim_run Try.fm ⟨[0, 2, 4], [1003, 1005, 2402, 2403, 2439, 2440, 4000], [], []⟩ ⟨[(0, .yv 4000), (2, .ptr 2403 0), (4, I a0q.from_)], [(1003, .box 80 [.fn (.func 78) [] [.ptr 2439 0, .ptr 2440 0]]), (1005, .box 3 [I 0]), (2402, .box 3 [I a0q.from_]), (2403, .box 3 [I a0q.to_]), (2439, .box 62 [.eptr (GQuoteQuoted.cs a0q)]), (2440, .box 3 [I 1]), (4000, .lp [(3, .ptr 1003 0), (5, .ptr 1005 0), (7, .fn (.func 77) [] [.ptr 2402 0, .ptr 2403 0])] nf3 .ready none)]⟩ krf ?_
   refine sim_block ?_
   refine sim_loop (fun (l4_1, l4_2) => ⟨[(0, .yv 4000), (2, .ptr 2403 0), (4, I l4_1)], [(1003, .box 80 [.fn (.func 78) [] [.ptr 2439 0, .ptr 2440 0]]), (1005, .box 3 [I l4_2]), (2402, .box 3 [I a0q.from_]), (2403, .box 3 [I a0q.to_]), (2439, .box 62 [.eptr (GQuoteQuoted.cs a0q)]), (2440, .box 3 [I 1]), (4000, .lp [(3, .ptr 1003 0), (5, .ptr 1005 0), (7, .fn (.func 77) [] [.ptr 2402 0, .ptr 2403 0])] nf3 .ready none)]⟩ : (Int × Int) → St) (weak_shr (K := ⟨[0, 2, 4], [1003, 1005, 2402, 2403, 2439, 2440, 4000], [], []⟩) krf) ?_
   rintro recl4 ⟨l4_1, l4_2⟩
   show SimE (g_quote_quoted_sum_l4 n a0q recl4 l4_1 l4_2) _ _ _ _ _ _
   unfold g_quote_quoted_sum_l4
   refine sim_seq ?_
   refine sim_run Try.fm ⟨[0, 2, 4, 8], [1003, 1005, 2402, 2403, 2439, 2440, 4000], [], []⟩ ⟨[(0, .yv 4000), (2, .ptr 2403 0), (4, I l4_1), (8, B (ltI l4_1 a0q.to_))], [(1003, .box 80 [.fn (.func 78) [] [.ptr 2439 0, .ptr 2440 0]]), (1005, .box 3 [I l4_2]), (2402, .box 3 [I a0q.from_]), (2403, .box 3 [I a0q.to_]), (2439, .box 62 [.eptr (GQuoteQuoted.cs a0q)]), (2440, .box 3 [I 1]), (4000, .lp [(3, .ptr 1003 0), (5, .ptr 1005 0), (7, .fn (.func 77) [] [.ptr 2402 0, .ptr 2403 0])] nf3 .ready none)]⟩ krf ?_
   refine sim_cond (ltI l4_1 a0q.to_) krf ?_ ?_
   ·refine sim_skip ?_
    refine sq_nk ⟨[0, 2, 4], [1003, 1005, 2402, 2403, 2439, 2440, 4000], [], []⟩ ⟨[(0, .yv 4000), (2, .ptr 2403 0), (4, I l4_1)], [(1003, .box 80 [.fn (.func 78) [] [.ptr 2439 0, .ptr 2440 0]]), (1005, .box 3 [I l4_2]), (2402, .box 3 [I a0q.from_]), (2403, .box 3 [I a0q.to_]), (2439, .box 62 [.eptr (GQuoteQuoted.cs a0q)]), (2440, .box 3 [I 1]), (4000, .lp [(3, .ptr 1003 0), (5, .ptr 1005 0), (7, .fn (.func 77) [] [.ptr 2402 0, .ptr 2403 0])] nf3 .ready none)]⟩ krf ?_
    refine sim_seq ?_
    refine sim_block ?_
    refine sim_seq ?_
    refine sim_reg ?_
    refine xs_run 2 krf ?_
    refine xs_yield [] [(1003, .box 80 [.fn (.func 78) [] [.ptr 2439 0, .ptr 2440 0]]), (1005, .box 3 [I l4_2]), (2402, .box 3 [I a0q.from_]), (2403, .box 3 [I a0q.to_]), (2439, .box 62 [.eptr (GQuoteQuoted.cs a0q)]), (2440, .box 3 [I 1]), (4000, .lp [(3, .ptr 1003 0), (5, .ptr 1005 0), (7, .fn (.func 77) [] [.ptr 2402 0, .ptr 2403 0])] nf3 .ready none)] 4000 [(3, .ptr 1003 0), (5, .ptr 1005 0), (7, .fn (.func 77) [] [.ptr 2402 0, .ptr 2403 0])] [] [] [I l4_1] krf hnf3 krf krf krf krf krf (fun _ => ?_)
    refine sim_last Try.fm krf ?_
    refine as_n ⟨[3, 5, 6], [1003, 1005, 2402, 2403, 2439, 2440, 4000], [], []⟩ ⟨[(3, .ptr 1003 0), (5, .ptr 1005 0), (6, I l4_1)], [(1003, .box 80 [.fn (.func 78) [] [.ptr 2439 0, .ptr 2440 0]]), (1005, .box 3 [I l4_2]), (2402, .box 3 [I a0q.from_]), (2403, .box 3 [I a0q.to_]), (2439, .box 62 [.eptr (GQuoteQuoted.cs a0q)]), (2440, .box 3 [I 1]), (4000, .lp [(3, .ptr 1003 0), (5, .ptr 1005 0), (7, .fn (.func 77) [] [.ptr 2402 0, .ptr 2403 0])] nf3 .busy none)]⟩ none krf krf ?_
    refine sim_block ?_
    refine sim_hst [0, 1, 2] [0] [3, 4, 5] Try.fm rfl krf krf ?_
    refine h_enter (f := 78) (args := [I l4_1, .ptr 2439 0, .ptr 2440 0]) (dst := some 12) krf krf ?_
    refine sc_inline (hc := [(3439, .box 62 [.eptr (GQuoteQuoted.cs a0q)]), (3440, .box 3 [I 1])]) (args' := [I l4_1, .ptr 3439 0, .ptr 3440 0]) [(3439, 2439), (3440, 2440)] [] [] Try.func78 rfl Try.ntmps78 rfl krf krf krf ?_
    refine sim_run Try.fm ⟨[0, 1, 2], [3439, 3440], [], []⟩ ⟨[(0, I l4_1), (1, .ptr 3439 0), (2, .ptr 3440 0)], [(3439, .box 62 [.eptr (GQuoteQuoted.cs a0q)]), (3440, .box 3 [I 1])]⟩ krf ?_
    refine sim_run Try.fm ⟨[0, 1, 2, 5], [3439, 3440], [], []⟩ ⟨[(0, I l4_1), (1, .ptr 3439 0), (2, .ptr 3440 0), (5, I 0)], [(3439, .box 62 [.eptr (GQuoteQuoted.cs a0q)]), (3440, .box 3 [I 1])]⟩ krf ?_
    refine sim_bind (fun j5 => ⟨[(5, I j5)], [(3439, .box 62 [.eptr (GQuoteQuoted.cs a0q)]), (3440, .box 3 [I 1])]⟩ : Int → St) ?_ ?_
    ·refine sim_run Try.fm ⟨[0, 1, 2, 5, 12, 13, 14], [3439, 3440], [], []⟩ ⟨[(0, I l4_1), (1, .ptr 3439 0), (2, .ptr 3440 0), (5, I 0), (12, .p (.sl 7 (List.map GArticle.cs a0q.Tariff.Articles))), (13, I (lenI (List.map GArticle.cs a0q.Tariff.Articles))), (14, I 0)], [(3439, .box 62 [.eptr (GQuoteQuoted.cs a0q)]), (3440, .box 3 [I 1])]⟩ krf ?_
     refine sim_block ?_
     refine sim_loop (fun (l6_1, l6_2) => ⟨[(0, I l4_1), (1, .ptr 3439 0), (2, .ptr 3440 0), (5, I l6_1), (12, .p (.sl 7 (List.map GArticle.cs a0q.Tariff.Articles))), (13, I (lenI (List.map GArticle.cs a0q.Tariff.Articles))), (14, I l6_2)], [(3439, .box 62 [.eptr (GQuoteQuoted.cs a0q)]), (3440, .box 3 [I 1])]⟩ : (Int × Int) → St) (weak_shr (K := ⟨[0, 1, 2, 5, 12, 13, 14], [3439, 3440], [], []⟩) krf) ?_
     rintro recl6 ⟨l6_1, l6_2⟩
     show SimE (g_quote_quoted_sum_l6 n a0q l4_1 recl6 l6_1 l6_2) _ _ _ _ _ _
     unfold g_quote_quoted_sum_l6
     refine sim_run Try.fm ⟨[0, 1, 2, 5, 12, 13, 14, 15], [3439, 3440], [], []⟩ ⟨[(0, I l4_1), (1, .ptr 3439 0), (2, .ptr 3440 0), (5, I l6_1), (12, .p (.sl 7 (List.map GArticle.cs a0q.Tariff.Articles))), (13, I (lenI (List.map GArticle.cs a0q.Tariff.Articles))), (14, I l6_2), (15, B (ltI l6_2 (lenI (List.map GArticle.cs a0q.Tariff.Articles))))], [(3439, .box 62 [.eptr (GQuoteQuoted.cs a0q)]), (3440, .box 3 [I 1])]⟩ krf ?_
     refine sim_seq ?_
     refine sim_cond (ltI l6_2 (lenI (List.map GArticle.cs a0q.Tariff.Articles))) krf ?_ ?_
     ·refine sim_skip ?_
      refine sq_nk ⟨[0, 1, 2, 5, 12, 13, 14], [3439, 3440], [], []⟩ ⟨[(0, I l4_1), (1, .ptr 3439 0), (2, .ptr 3440 0), (5, I l6_1), (12, .p (.sl 7 (List.map GArticle.cs a0q.Tariff.Articles))), (13, I (lenI (List.map GArticle.cs a0q.Tariff.Articles))), (14, I l6_2)], [(3439, .box 62 [.eptr (GQuoteQuoted.cs a0q)]), (3440, .box 3 [I 1])]⟩ krf ?_
      refine sim_seq ?_
      refine sim_block ?_
      refine sim_seq ?_
      refine sim_reg ?_
      refine xs_get krf krf (aop_idx (e := 44) (S := 7) (enc := GArticle.cs) (l := a0q.Tariff.Articles) (k := .i64) (n := l6_2) (sv := .p (.sl 7 (List.map GArticle.cs a0q.Tariff.Articles))) rfl krf krf krf krf krf) (fun x7 => ?_)
      refine xs_run 3 krf ?_
      refine xs_end ?_
      refine sq_nk ⟨[0, 1, 2, 5, 7, 12, 13, 14], [7, 3439, 3440], [], []⟩ ⟨[(0, I l4_1), (1, .ptr 3439 0), (2, .ptr 3440 0), (5, I l6_1), (7, .ptr 7 0), (12, .p (.sl 7 (List.map GArticle.cs a0q.Tariff.Articles))), (13, I (lenI (List.map GArticle.cs a0q.Tariff.Articles))), (14, I l6_2)], [(7, .box 44 (bxc (GArticle.cs x7))), (3439, .box 62 [.eptr (GQuoteQuoted.cs a0q)]), (3440, .box 3 [I 1])]⟩ krf ?_
      refine sim_bind (fun j8 => ⟨[(0, I l4_1), (1, .ptr 3439 0), (2, .ptr 3440 0), (5, I l6_1), (7, .ptr 7 0), (12, .p (.sl 7 (List.map GArticle.cs a0q.Tariff.Articles))), (13, I (lenI (List.map GArticle.cs a0q.Tariff.Articles))), (14, I l6_2), (30, B j8)], [(7, .box 44 (bxc (GArticle.cs x7))), (3439, .box 62 [.eptr (GQuoteQuoted.cs a0q)]), (3440, .box 3 [I 1])]⟩ : Bool → St) ?_ ?_
      ·refine sim_drw Try.fm rfl ?_
       refine xs_run 5 krf ?_
       refine xs_split (eqI x7.Kind 1) (fun h9 => ?_) (fun h9 => ?_)
       ·refine xs_one (want_tt krf h9) krf ?_
        refine xs_run 5 krf ?_
        refine xs_call [] krf (g_tariff_Applies_ok n x7 a0q.calendar l4_1) krf krf (fun _ => by kernel_rfl) (fun r10 => ?_)
        refine xs_run 1 krf ?_
        refine xs_endD krf ?_
        exact nq_n r10 ⟨[0, 1, 2, 5, 7, 12, 13, 14, 30], [7, 3439, 3440], [], []⟩ krf
       ·refine xs_no (want_tf krf h9) krf ?_
        refine xs_run 7 krf ?_
        refine xs_endD krf ?_
        exact nq_n false ⟨[0, 1, 2, 5, 7, 12, 13, 14, 30], [7, 3439, 3440], [], []⟩ krf
      ·rintro j8
       refine sim_cond j8 krf ?_ ?_
       ·refine sim_last Try.fm krf ?_
        refine bq_n ?_
        refine sq_nk ⟨[0, 1, 2, 5, 12, 13, 14], [3439, 3440], [], []⟩ ⟨[(0, I l4_1), (1, .ptr 3439 0), (2, .ptr 3440 0), (5, I (wi (l6_1 + x7.Price))), (12, .p (.sl 7 (List.map GArticle.cs a0q.Tariff.Articles))), (13, I (lenI (List.map GArticle.cs a0q.Tariff.Articles))), (14, I l6_2)], [(3439, .box 62 [.eptr (GQuoteQuoted.cs a0q)]), (3440, .box 3 [I 1])]⟩ krf ?_
        refine sim_last Try.fm krf ?_
        exact kq_n (wi (l6_1 + x7.Price), wi (l6_2 + 1)) ⟨[0, 1, 2, 5, 12, 13, 14], [3439, 3440], [], []⟩ krf
       ·refine sim_skip ?_
        refine bq_n ?_
        refine sq_nk ⟨[0, 1, 2, 5, 12, 13, 14], [3439, 3440], [], []⟩ ⟨[(0, I l4_1), (1, .ptr 3439 0), (2, .ptr 3440 0), (5, I l6_1), (12, .p (.sl 7 (List.map GArticle.cs a0q.Tariff.Articles))), (13, I (lenI (List.map GArticle.cs a0q.Tariff.Articles))), (14, I l6_2)], [(3439, .box 62 [.eptr (GQuoteQuoted.cs a0q)]), (3440, .box 3 [I 1])]⟩ krf ?_
        refine sim_last Try.fm krf ?_
        exact kq_n (l6_1, wi (l6_2 + 1)) ⟨[0, 1, 2, 5, 12, 13, 14], [3439, 3440], [], []⟩ krf
     ·refine sim_exit ?_
      refine sq_x ?_
      refine kq_x ?_
      refine bq_hit ?_
      exact nq_n l6_1 ⟨[5], [3439, 3440], [], []⟩ krf
    ·rintro j5
     refine sim_run Try.fm ⟨[4], [3439, 3440], [], []⟩ ⟨[(4, I j5)], [(3439, .box 62 [.eptr (GQuoteQuoted.cs a0q)]), (3440, .box 3 [I 1])]⟩ krf ?_
     refine sim_ret ?_
     refine iq_ret .id [3439, 3440] [] (I j5) krf krf ?_
     refine kh [0] krf (lates_cons (late_read (I l4_2) krf rfl) (lates_nil)) ?_
     refine h_op [] krf krf (lates_nil) ?_
     refine h_op [] krf krf (lates_nil) ?_
     refine h_end ?_
     refine bq_n ?_
     refine rn_n [1003, 1005, 2402, 2403, 2439, 2440, 4000] [] .busy none krf krf ?_
     refine kr0 ?_
     refine xs_run 1 krf ?_
     refine xs_end ?_
     refine sq_nk ⟨[0, 2, 4, 14], [1003, 1005, 2402, 2403, 2439, 2440, 4000], [], []⟩ ⟨[(0, .yv 4000), (2, .ptr 2403 0), (4, I l4_1), (14, B false)], [(1003, .box 80 [.fn (.func 78) [] [.ptr 2439 0, .ptr 2440 0]]), (1005, .box 3 [I (maxI l4_2 j5)]), (2402, .box 3 [I a0q.from_]), (2403, .box 3 [I a0q.to_]), (2439, .box 62 [.eptr (GQuoteQuoted.cs a0q)]), (2440, .box 3 [I 1]), (4000, .lp [(3, .ptr 1003 0), (5, .ptr 1005 0), (7, .fn (.func 77) [] [.ptr 2402 0, .ptr 2403 0])] nf3 .ready none)]⟩ krf ?_
     refine sim_condF krf ?_
     refine sim_skip ?_
     refine bq_n ?_
     refine sq_nk ⟨[0, 2, 4], [1003, 1005, 2402, 2403, 2439, 2440, 4000], [], []⟩ ⟨[(0, .yv 4000), (2, .ptr 2403 0), (4, I l4_1)], [(1003, .box 80 [.fn (.func 78) [] [.ptr 2439 0, .ptr 2440 0]]), (1005, .box 3 [I (maxI l4_2 j5)]), (2402, .box 3 [I a0q.from_]), (2403, .box 3 [I a0q.to_]), (2439, .box 62 [.eptr (GQuoteQuoted.cs a0q)]), (2440, .box 3 [I 1]), (4000, .lp [(3, .ptr 1003 0), (5, .ptr 1005 0), (7, .fn (.func 77) [] [.ptr 2402 0, .ptr 2403 0])] nf3 .ready none)]⟩ krf ?_
     refine sim_last Try.fm krf ?_
     exact kq_n (wi (l4_1 + 1), maxI l4_2 j5) ⟨[0, 2, 4], [1003, 1005, 2402, 2403, 2439, 2440, 4000], [], []⟩ krf
   ·refine sim_exit ?_
    refine sq_x ?_
    refine kq_x ?_
    refine bq_hit ?_
    refine iq_n .id [1003, 1005, 2402, 2403, 2439, 2440, 4000] [] (.tup []) krf krf ?_
    refine kg_n .ready ⟨[5], [5, 1402, 1403, 1439, 1440], [], []⟩ ⟨[(5, .ptr 5 0)], [(5, .box 3 [I l4_2]), (1402, .box 3 [I a0q.from_]), (1403, .box 3 [I a0q.to_]), (1439, .box 62 [.eptr (GQuoteQuoted.cs a0q)]), (1440, .box 3 [I 1])]⟩ krf (by intro h; cases h) krf ?_
    refine bq_n ?_
    exact nq_n l4_2 ⟨[5], [5, 1402, 1403, 1439, 1440], [], []⟩ krf
  ·rintro j2
   refine sim_run Try.fm ⟨[4], [1402, 1403, 1439, 1440], [], []⟩ ⟨[(4, I j2)], [(1402, .box 3 [I a0q.from_]), (1403, .box 3 [I a0q.to_]), (1439, .box 62 [.eptr (GQuoteQuoted.cs a0q)]), (1440, .box 3 [I 1])]⟩ krf ?_
   refine sim_ret ?_
   refine iq_ret .id [1402, 1403, 1439, 1440] [] (I j2) krf krf ?_
   refine kh [0] krf (lates_cons (late_move krf) (lates_nil)) ?_
   refine h_op [] krf krf (lates_nil) ?_
   refine h_op [] krf krf (lates_nil) ?_
   refine h_end ?_
   refine sq_nk ⟨[0, 8], [], [], []⟩ ⟨[(0, .eptr (GQuoteQuoted.cs a0q)), (8, I (wi (r1.1 + j2)))], []⟩ krf ?_
   refine sim_cps (fun j11 => ⟨[(8, I j11)], []⟩ : Int → St) (fun j11 => g_quote_quoted_sum_j11 j11) ?_ ?_
   ·rintro j11
    show SimE (g_quote_quoted_sum_j11 j11) _ _ _ _ _ _
    unfold g_quote_quoted_sum_j11
    refine sim_seq ?_
    refine sim_run Try.fm ⟨[8, 76], [], [], []⟩ ⟨[(8, I j11), (76, B (ltI 1000000000 j11))], []⟩ krf ?_
    refine sim_cond (ltI 1000000000 j11) krf ?_ ?_
    ·refine sim_run Try.fm ⟨[4, 5], [], [], []⟩ ⟨[(4, I 0), (5, I 3)], []⟩ krf ?_
     refine sim_ret ?_
     refine sq_r ?_
     exact rq_ret (.id) krf krf krf
    ·refine sim_skip ?_
     refine sq_nk ⟨[8], [], [], []⟩ ⟨[(8, I j11)], []⟩ krf ?_
     refine sim_run Try.fm ⟨[4, 5], [], [], []⟩ ⟨[(4, I j11), (5, I 0)], []⟩ krf ?_
     refine sim_ret ?_
     exact rq_ret (.id) krf krf krf
   ·refine sim_run Try.fm ⟨[0, 8, 40, 41, 42], [], [], []⟩ ⟨[(0, .eptr (GQuoteQuoted.cs a0q)), (8, I (wi (r1.1 + j2))), (40, .p (.sl 7 (List.map GArticle.cs a0q.Tariff.Articles))), (41, I (lenI (List.map GArticle.cs a0q.Tariff.Articles))), (42, I 0)], []⟩ krf ?_
    refine sim_block ?_
    refine sim_loop (fun (l12_1, l12_2) => ⟨[(0, .eptr (GQuoteQuoted.cs a0q)), (8, I l12_1), (40, .p (.sl 7 (List.map GArticle.cs a0q.Tariff.Articles))), (41, I (lenI (List.map GArticle.cs a0q.Tariff.Articles))), (42, I l12_2)], []⟩ : (Int × Int) → St) (weak_shr (K := ⟨[0, 8, 40, 41, 42], [], [], []⟩) krf) ?_
    rintro recl12 ⟨l12_1, l12_2⟩
    show SimE (g_quote_quoted_sum_l12 n a0q recl12 l12_1 l12_2) _ _ _ _ _ _
    unfold g_quote_quoted_sum_l12
    refine sim_run Try.fm ⟨[0, 8, 40, 41, 42, 43], [], [], []⟩ ⟨[(0, .eptr (GQuoteQuoted.cs a0q)), (8, I l12_1), (40, .p (.sl 7 (List.map GArticle.cs a0q.Tariff.Articles))), (41, I (lenI (List.map GArticle.cs a0q.Tariff.Articles))), (42, I l12_2), (43, B (ltI l12_2 (lenI (List.map GArticle.cs a0q.Tariff.Articles))))], []⟩ krf ?_
    refine sim_seq ?_
    refine sim_cond (ltI l12_2 (lenI (List.map GArticle.cs a0q.Tariff.Articles))) krf ?_ ?_
    ·refine sim_skip ?_
     refine sq_nk ⟨[0, 8, 40, 41, 42], [], [], []⟩ ⟨[(0, .eptr (GQuoteQuoted.cs a0q)), (8, I l12_1), (40, .p (.sl 7 (List.map GArticle.cs a0q.Tariff.Articles))), (41, I (lenI (List.map GArticle.cs a0q.Tariff.Articles))), (42, I l12_2)], []⟩ krf ?_
     refine sim_seq ?_
     refine sim_block ?_
     refine sim_seq ?_
     refine sim_reg ?_
     refine xs_get krf krf (aop_idx (e := 44) (S := 7) (enc := GArticle.cs) (l := a0q.Tariff.Articles) (k := .i64) (n := l12_2) (sv := .p (.sl 7 (List.map GArticle.cs a0q.Tariff.Articles))) rfl krf krf krf krf krf) (fun x13 => ?_)
     refine xs_run 3 krf ?_
     refine xs_end ?_
     refine sq_nk ⟨[0, 8, 10, 40, 41, 42], [10], [], []⟩ ⟨[(0, .eptr (GQuoteQuoted.cs a0q)), (8, I l12_1), (10, .ptr 10 0), (40, .p (.sl 7 (List.map GArticle.cs a0q.Tariff.Articles))), (41, I (lenI (List.map GArticle.cs a0q.Tariff.Articles))), (42, I l12_2)], [(10, .box 44 (bxc (GArticle.cs x13)))]⟩ krf ?_
     refine sim_seq ?_
     refine sim_bind (fun j14 => ⟨[(0, .eptr (GQuoteQuoted.cs a0q)), (8, I l12_1), (10, .ptr 10 0), (40, .p (.sl 7 (List.map GArticle.cs a0q.Tariff.Articles))), (41, I (lenI (List.map GArticle.cs a0q.Tariff.Articles))), (42, I l12_2), (53, B j14)], [(10, .box 44 (bxc (GArticle.cs x13)))]⟩ : Bool → St) ?_ ?_
     ·refine sim_reg ?_
      refine xs_run 4 krf ?_
      refine xs_split (!eqI x13.Kind 3) (fun h15 => ?_) (fun h15 => ?_)
      ·refine xs_one (want_tt krf h15) krf ?_
       refine xs_run 3 krf ?_
       refine xs_end ?_
       exact nq_n (!eqI x13.Kind 4) ⟨[0, 8, 10, 40, 41, 42, 53], [10], [], []⟩ krf
      ·refine xs_no (want_tf krf h15) krf ?_
       refine xs_run 3 krf ?_
       refine xs_end ?_
       exact nq_n false ⟨[0, 8, 10, 40, 41, 42, 53], [10], [], []⟩ krf
     ·rintro j14
      refine sim_cond j14 krf ?_ ?_
      ·refine sim_exit ?_
       refine sq_x ?_
       refine bq_hit ?_
       refine sq_nk ⟨[0, 8, 40, 41, 42], [], [], []⟩ ⟨[(0, .eptr (GQuoteQuoted.cs a0q)), (8, I l12_1), (40, .p (.sl 7 (List.map GArticle.cs a0q.Tariff.Articles))), (41, I (lenI (List.map GArticle.cs a0q.Tariff.Articles))), (42, I l12_2)], []⟩ krf ?_
       refine sim_last Try.fm krf ?_
       exact kq_n (l12_1, wi (l12_2 + 1)) ⟨[0, 8, 40, 41, 42], [], [], []⟩ krf
      ·refine sim_skip ?_
       refine sq_nk ⟨[0, 8, 10, 40, 41, 42], [10], [], []⟩ ⟨[(0, .eptr (GQuoteQuoted.cs a0q)), (8, I l12_1), (10, .ptr 10 0), (40, .p (.sl 7 (List.map GArticle.cs a0q.Tariff.Articles))), (41, I (lenI (List.map GArticle.cs a0q.Tariff.Articles))), (42, I l12_2)], [(10, .box 44 (bxc (GArticle.cs x13)))]⟩ krf ?_
       refine sim_seq ?_
       refine sim_drw Try.fm rfl ?_
       refine xs_run 4 krf ?_
       refine xs_call [] krf (g_quote_quoted_count_ok n a0q x13) krf krf (fun _ => by kernel_rfl) (fun r16 => ?_)
       refine xs_run 6 krf ?_
       refine xs_call [] krf (g_money_Started_ok n x13.Price (maxI 0 (wi (r16 - x13.Free))) x13.Unit) krf krf (fun _ => by kernel_rfl) (fun r17 => ?_)
       refine xs_run 5 krf ?_
       refine xs_endD krf ?_
       refine sq_nk ⟨[0, 8, 11, 12, 40, 41, 42], [], [], []⟩ ⟨[(0, .eptr (GQuoteQuoted.cs a0q)), (8, I l12_1), (11, I r17.1), (12, I r17.2), (40, .p (.sl 7 (List.map GArticle.cs a0q.Tariff.Articles))), (41, I (lenI (List.map GArticle.cs a0q.Tariff.Articles))), (42, I l12_2)], []⟩ krf ?_
       refine sim_seq ?_
       refine sim_run Try.fm ⟨[0, 8, 11, 40, 41, 42, 70], [], [], []⟩ ⟨[(0, .eptr (GQuoteQuoted.cs a0q)), (8, I l12_1), (11, I r17.1), (40, .p (.sl 7 (List.map GArticle.cs a0q.Tariff.Articles))), (41, I (lenI (List.map GArticle.cs a0q.Tariff.Articles))), (42, I l12_2), (70, B (!eqI r17.2 0))], []⟩ krf ?_
       refine sim_cond (!eqI r17.2 0) krf ?_ ?_
       ·refine sim_run Try.fm ⟨[4, 5], [], [], []⟩ ⟨[(4, I 0), (5, I 3)], []⟩ krf ?_
        refine sim_ret ?_
        refine sq_r ?_
        refine bq_r ?_
        refine sq_r ?_
        refine kq_r ?_
        refine bq_r ?_
        refine kq_r ?_
        exact rq_ret (.id) krf krf krf
       ·refine sim_skip ?_
        refine sq_nk ⟨[0, 8, 11, 40, 41, 42], [], [], []⟩ ⟨[(0, .eptr (GQuoteQuoted.cs a0q)), (8, I l12_1), (11, I r17.1), (40, .p (.sl 7 (List.map GArticle.cs a0q.Tariff.Articles))), (41, I (lenI (List.map GArticle.cs a0q.Tariff.Articles))), (42, I l12_2)], []⟩ krf ?_
        refine sim_last Try.fm krf ?_
        refine bq_n ?_
        refine sq_nk ⟨[0, 8, 40, 41, 42], [], [], []⟩ ⟨[(0, .eptr (GQuoteQuoted.cs a0q)), (8, I (wi (l12_1 + r17.1))), (40, .p (.sl 7 (List.map GArticle.cs a0q.Tariff.Articles))), (41, I (lenI (List.map GArticle.cs a0q.Tariff.Articles))), (42, I l12_2)], []⟩ krf ?_
        refine sim_last Try.fm krf ?_
        exact kq_n (wi (l12_1 + r17.1), wi (l12_2 + 1)) ⟨[0, 8, 40, 41, 42], [], [], []⟩ krf
    ·refine sim_exit ?_
     refine sq_x ?_
     refine kq_x ?_
     refine bq_hit ?_
     exact kq_n (k := fun j11 => g_quote_quoted_sum_j11 j11) l12_1 ⟨[8], [], [], []⟩ krf
def g_money_Tax_j1 (n : Nat) (a0amount : Int) (a1rate : Int) : Option (Int × Int) :=
 (g_money_half n (wi (a0amount * a1rate)) 10000).bind fun r2 =>
 (g_money_checked n r2).bind (exc (fun r3 =>
  (g_money_caught n 0).bind fun r5 =>
  some (r3, r5)) fun e4 => (g_money_caught_2 n e4 0).bind fun r6 =>
 some (0, r6))
def g_money_Tax (n : Nat) (a0amount : Int) (a1rate : Int) : Option (Int × Int) :=
 (g_money_isAmount n a0amount).bind fun r7 =>
 cond r7
  ((g_money_inside n a1rate 0 100000).bind fun r9 =>
  (g_money_need n r9 1).bind (exc (fun r10 =>
   g_money_Tax_j1 n a0amount a1rate) fun e11 => (g_money_caught_2 n e11 0).bind fun r12 =>
  some (0, r12)))
  ((g_money_need n false 1).bind (exc (fun r13 =>
   g_money_Tax_j1 n a0amount a1rate) fun e14 => (g_money_caught_2 n e14 0).bind fun r15 =>
  some (0, r15)))
theorem g_money_Tax_okH (n : Nat) (a0amount : Int) (a1rate : Int) : ∀ r, g_money_Tax n a0amount a1rate = some r → ACall Try.prog 30 [I a0amount, I a1rate] (Go.Abs.look []) (heapR (fun r : Int × Int => ((.ret (.tup [I r.1, I r.2]), []) : AEnd × List (Nat × Blk))) r) := by
 refine defer_sim (X := fun r : Int × Int => ((.ret (.tup [I r.1, I r.2]), []) : AEnd × List (Nat × Blk))) [] (⟨Try.f51, _, _, _, 1, _, _, Try.func51, rfl, rfl, rfl, rfl, rfl, rfl, by decide, by decide, rfl, by kernel_rfl⟩ : Catcher Try.prog 51 52) (⟨_, _, _, _, _, 5, 6, _, rfl, rfl, rfl, rfl, rfl, rfl, rfl, by decide⟩ : Deferrer Try.f30 51) 5 Try.func30 Try.ntmps30 rfl krf rfl Try.fm rfl krf krf krf ?_
 unfold g_money_Tax
 refine sim_keep ⟨[0, 1, 4, 5], [2000], [], []⟩ ⟨[(0, I a0amount), (1, I a1rate), (4, I 0), (5, .ptr 2000 0)], [(2000, .box 34 [I 0])]⟩ krf ?_
 refine sim_cps (fun _ => ⟨[(0, I a0amount), (1, I a1rate), (4, I 0), (5, .ptr 2000 0)], [(2000, .box 34 [I 0])]⟩ : Unit → St) (fun _ => g_money_Tax_j1 n a0amount a1rate) ?_ ?_
 ·rintro _
  show SimE (g_money_Tax_j1 n a0amount a1rate) _ _ _ _ _ _
  unfold g_money_Tax_j1
  refine sim_seq ?_
  refine sim_reg ?_
  refine xs_run 3 krf ?_
  refine xs_call [] krf (g_money_half_ok n (wi (a0amount * a1rate)) 10000) krf krf (fun _ => by kernel_rfl) (fun r2 => ?_)
  refine xs_exc [] krf (g_money_checked_ok n r2) krf krf (fun _ => by kernel_rfl) (fun _ => by kernel_rfl) (fun r3 => ?_) (fun e4 => ?_)
  ·refine xs_run 2 krf ?_
   refine xs_end ?_
   refine sq_nk ⟨[4, 5], [2000], [], []⟩ ⟨[(4, I r3), (5, .ptr 2000 0)], [(2000, .box 34 [I 0])]⟩ krf ?_
   refine sim_ret ?_
   refine dq_ret ?_
   refine sc_heap [(1001, 2000)] [] [] (g_money_caught_ok n 0) krf krf krf (fun _ => by kernel_rfl) (fun _ => by kernel_rfl) (fun r5 => ?_)
   exact ke_end (.id) [] [] krf krf krf krf
  ·refine sq_p ?_
   refine dq_p ?_
   refine sc_heap [(1001, 2000)] [] [] (g_money_caught_2_ok n e4 0) krf krf krf (fun _ => by kernel_rfl) (fun _ => by kernel_rfl) (fun r6 => ?_)
   exact ke_end (.id) [] [] krf krf krf krf
 ·refine sim_reg ?_
  refine xs_run 1 krf ?_
  refine xs_call [] krf (g_money_isAmount_ok n a0amount) krf krf (fun _ => by kernel_rfl) (fun r7 => ?_)
  refine xs_run 1 krf ?_
  refine xs_split r7 (fun h8 => ?_) (fun h8 => ?_)
  ·refine xs_one (want_tt krf h8) krf ?_
   refine xs_call [] krf (g_money_inside_ok n a1rate 0 100000) krf krf (fun _ => by kernel_rfl) (fun r9 => ?_)
   refine xs_run 1 krf ?_
   refine xs_exc [] krf (g_money_need_ok n r9 1) krf krf (fun _ => by kernel_rfl) (fun _ => by kernel_rfl) (fun r10 => ?_) (fun e11 => ?_)
   ·refine xs_end ?_
    exact kq_n (k := fun _ => g_money_Tax_j1 n a0amount a1rate) () ⟨[0, 1, 4, 5], [2000], [], []⟩ krf
   ·refine kq_p ?_
    refine dq_p ?_
    refine sc_heap [(1001, 2000)] [] [] (g_money_caught_2_ok n e11 0) krf krf krf (fun _ => by kernel_rfl) (fun _ => by kernel_rfl) (fun r12 => ?_)
    exact ke_end (.id) [] [] krf krf krf krf
  ·refine xs_no (want_tf krf h8) krf ?_
   refine xs_run 2 krf ?_
   refine xs_exc [] krf (g_money_need_ok n false 1) krf krf (fun _ => by kernel_rfl) (fun _ => by kernel_rfl) (fun r13 => ?_) (fun e14 => ?_)
   ·refine xs_end ?_
    exact kq_n (k := fun _ => g_money_Tax_j1 n a0amount a1rate) () ⟨[0, 1, 4, 5], [2000], [], []⟩ krf
   ·refine kq_p ?_
    refine dq_p ?_
    refine sc_heap [(1001, 2000)] [] [] (g_money_caught_2_ok n e14 0) krf krf krf (fun _ => by kernel_rfl) (fun _ => by kernel_rfl) (fun r15 => ?_)
    exact ke_end (.id) [] [] krf krf krf krf
theorem g_money_Tax_ok (n : Nat) (a0amount : Int) (a1rate : Int) : ∀ r, g_money_Tax n a0amount a1rate = some r → PCall Try.prog 30 [I a0amount, I a1rate] (.ret (.tup [I r.1, I r.2])) := fun r h => pcall_of (g_money_Tax_okH n a0amount a1rate r h) rfl
def g_quote_Quote_l9 (a0t : GTariff) (recl9 : (Int × Int × Int) → Option (Int × Int)) (l9_1 : Int) (l9_2 : Int) (l9_3 : Int) : Option (Int × Int) :=
 cond (ltI l9_3 (lenI (List.map GArticle.cs a0t.Articles)))
  ((getI a0t.Articles l9_3).bind fun x10 =>
  cond (eqI x10.Kind 5)
   (recl9 (minI l9_1 x10.Price, l9_2, wi (l9_3 + 1)))
   (cond (eqI x10.Kind 6)
    (recl9 (l9_1, x10.Price, wi (l9_3 + 1)))
    (recl9 (l9_1, l9_2, wi (l9_3 + 1)))))
  (some (l9_1, l9_2))
def g_quote_Quote (n : Nat) (a0t : GTariff) (a1c : GCalendar) (a2from : Int) (a3to : Int) (a4energy : Int) : Option (Int × Int) :=
 ((g_tariff_Valid n a0t).bind fun r2 =>
 cond (!r2)
  (some true)
  ((g_days_Valid n a1c).bind fun r4 =>
  cond (!r4)
   (some true)
   ((g_quote_validLimits n a2from a3to a4energy).bind fun r6 =>
   some (!r6)))).bind fun j1 =>
 cond j1
  (some (0, 1))
  ((g_quote_quoted_sum n (⟨a0t, a1c, a2from, a3to⟩ : GQuoteQuoted) a4energy).bind fun r7 =>
  cond (!eqI r7.2 0)
   (some (0, r7.2))
   ((loopN (fun recl9 (l9_1, l9_2, l9_3) => g_quote_Quote_l9 a0t recl9 l9_1 l9_2 l9_3) n (r7.1, 0, 0)).bind fun (j8_1, j8_2) =>
   (g_money_Tax n j8_1 j8_2).bind fun r11 =>
   (cond (!eqI r11.2 0)
    (some true)
    (some (ltI 1000000000 (wi (j8_1 + r11.1))))).bind fun j12 =>
   cond j12
    (some (0, 3))
    (some (wi (j8_1 + r11.1), 0))))
theorem g_quote_Quote_ok (n : Nat) (a0t : GTariff) (a1c : GCalendar) (a2from : Int) (a3to : Int) (a4energy : Int) : ∀ r, g_quote_Quote n a0t a1c a2from a3to a4energy = some r → PCall Try.prog 13 [ag (GTariff.cs a0t), ag (GCalendar.cs a1c), I a2from, I a3to, I a4energy] (.ret (.tup [I r.1, I r.2])) := by
 refine pcall_sim (X := fun r : Int × Int => AEnd.ret (.tup [I r.1, I r.2])) Try.func13 rfl Try.ntmps13 rfl ?_
 unfold g_quote_Quote
 refine sim_run Try.fm ⟨[2, 3, 4, 5, 6], [5, 6], [], []⟩ ⟨[(2, I a2from), (3, I a3to), (4, I a4energy), (5, .ptr 5 0), (6, .ptr 6 0)], [(5, .box 24 (bxc (GTariff.cs a0t))), (6, .box 28 (bxc (GCalendar.cs a1c)))]⟩ krf ?_
 refine sim_seq ?_
 refine sim_bind (fun j1 => ⟨[(2, I a2from), (3, I a3to), (4, I a4energy), (5, .ptr 5 0), (6, .ptr 6 0), (33, B j1)], [(5, .box 24 (bxc (GTariff.cs a0t))), (6, .box 28 (bxc (GCalendar.cs a1c)))]⟩ : Bool → St) ?_ ?_
 ·refine sim_reg ?_
  refine xs_run 1 krf ?_
  refine xs_call [] krf (g_tariff_Valid_ok n a0t) krf krf (fun _ => by kernel_rfl) (fun r2 => ?_)
  refine xs_run 2 krf ?_
  refine xs_split (!r2) (fun h3 => ?_) (fun h3 => ?_)
  ·refine xs_no (want_ft krf h3) krf ?_
   refine xs_run 10 krf ?_
   refine xs_end ?_
   exact nq_n true ⟨[2, 3, 4, 5, 6, 33], [5, 6], [], []⟩ krf
  ·refine xs_one (want_ff krf h3) krf ?_
   refine xs_call [] krf (g_days_Valid_ok n a1c) krf krf (fun _ => by kernel_rfl) (fun r4 => ?_)
   refine xs_run 3 krf ?_
   refine xs_split (!r4) (fun h5 => ?_) (fun h5 => ?_)
   ·refine xs_no (want_ft krf h5) krf ?_
    refine xs_run 5 krf ?_
    refine xs_end ?_
    exact nq_n true ⟨[2, 3, 4, 5, 6, 33], [5, 6], [], []⟩ krf
   ·refine xs_one (want_ff krf h5) krf ?_
    refine xs_run 2 krf ?_
    refine xs_call [] krf (g_quote_validLimits_ok n a2from a3to a4energy) krf krf (fun _ => by kernel_rfl) (fun r6 => ?_)
    refine xs_run 2 krf ?_
    refine xs_end ?_
    exact nq_n (!r6) ⟨[2, 3, 4, 5, 6, 33], [5, 6], [], []⟩ krf
 ·rintro j1
  refine sim_cond j1 krf ?_ ?_
  ·refine sim_run Try.fm ⟨[10, 11], [], [], []⟩ ⟨[(10, I 0), (11, I 1)], []⟩ krf ?_
   refine sim_ret ?_
   refine sq_r ?_
   exact rq_ret (.id) krf krf krf
  ·refine sim_skip ?_
   refine sq_nk ⟨[2, 3, 4, 5, 6], [5, 6], [], []⟩ ⟨[(2, I a2from), (3, I a3to), (4, I a4energy), (5, .ptr 5 0), (6, .ptr 6 0)], [(5, .box 24 (bxc (GTariff.cs a0t))), (6, .box 28 (bxc (GCalendar.cs a1c)))]⟩ krf ?_
   refine sim_run Try.fm ⟨[4, 5, 12], [5, 39], [], []⟩ ⟨[(4, I a4energy), (5, .ptr 5 0), (12, .ptr 39 0)], [(5, .box 24 (bxc (GTariff.cs a0t))), (39, .box 64 (bxc (GQuoteQuoted.cs ⟨a0t, a1c, a2from, a3to⟩)))]⟩ krf ?_
   refine sim_seq ?_
   refine sim_reg ?_
   refine xs_run 2 krf ?_
   refine xs_ro [.ro [], .cv (.id)] krf (g_quote_quoted_sum_ok n (⟨a0t, a1c, a2from, a3to⟩ : GQuoteQuoted) a4energy) krf krf (fun _ => by kernel_rfl) (fun r7 => ?_)
   refine xs_run 5 krf ?_
   refine xs_end ?_
   refine sq_nk ⟨[5, 13, 14], [5], [], []⟩ ⟨[(5, .ptr 5 0), (13, I r7.1), (14, I r7.2)], [(5, .box 24 (bxc (GTariff.cs a0t)))]⟩ krf ?_
   refine sim_seq ?_
   refine sim_run Try.fm ⟨[5, 13, 14, 47], [5], [], []⟩ ⟨[(5, .ptr 5 0), (13, I r7.1), (14, I r7.2), (47, B (!eqI r7.2 0))], [(5, .box 24 (bxc (GTariff.cs a0t)))]⟩ krf ?_
   refine sim_cond (!eqI r7.2 0) krf ?_ ?_
   ·refine sim_run Try.fm ⟨[10, 11], [], [], []⟩ ⟨[(10, I 0), (11, I r7.2)], []⟩ krf ?_
    refine sim_ret ?_
    refine sq_r ?_
    exact rq_ret (.id) krf krf krf
   ·refine sim_skip ?_
    refine sq_nk ⟨[5, 13], [5], [], []⟩ ⟨[(5, .ptr 5 0), (13, I r7.1)], [(5, .box 24 (bxc (GTariff.cs a0t)))]⟩ krf ?_
    refine sim_run Try.fm ⟨[5, 13, 15], [5], [], []⟩ ⟨[(5, .ptr 5 0), (13, I r7.1), (15, I 0)], [(5, .box 24 (bxc (GTariff.cs a0t)))]⟩ krf ?_
    refine sim_bind (fun (j8_1, j8_2) => ⟨[(13, I j8_1), (15, I j8_2)], []⟩ : (Int × Int) → St) ?_ ?_
    ·refine sim_run Try.fm ⟨[13, 15, 50, 51, 52], [], [], []⟩ ⟨[(13, I r7.1), (15, I 0), (50, .p (.sl 7 (List.map GArticle.cs a0t.Articles))), (51, I (lenI (List.map GArticle.cs a0t.Articles))), (52, I 0)], []⟩ krf ?_
     refine sim_block ?_
     refine sim_loop (fun (l9_1, l9_2, l9_3) => ⟨[(13, I l9_1), (15, I l9_2), (50, .p (.sl 7 (List.map GArticle.cs a0t.Articles))), (51, I (lenI (List.map GArticle.cs a0t.Articles))), (52, I l9_3)], []⟩ : (Int × Int × Int) → St) (weak_shr (K := ⟨[13, 15, 50, 51, 52], [], [], []⟩) krf) ?_
     rintro recl9 ⟨l9_1, l9_2, l9_3⟩
     show SimE (g_quote_Quote_l9 a0t recl9 l9_1 l9_2 l9_3) _ _ _ _ _ _
     unfold g_quote_Quote_l9
     refine sim_run Try.fm ⟨[13, 15, 50, 51, 52, 53], [], [], []⟩ ⟨[(13, I l9_1), (15, I l9_2), (50, .p (.sl 7 (List.map GArticle.cs a0t.Articles))), (51, I (lenI (List.map GArticle.cs a0t.Articles))), (52, I l9_3), (53, B (ltI l9_3 (lenI (List.map GArticle.cs a0t.Articles))))], []⟩ krf ?_
     refine sim_seq ?_
     refine sim_cond (ltI l9_3 (lenI (List.map GArticle.cs a0t.Articles))) krf ?_ ?_
     ·refine sim_skip ?_
      refine sq_nk ⟨[13, 15, 50, 51, 52], [], [], []⟩ ⟨[(13, I l9_1), (15, I l9_2), (50, .p (.sl 7 (List.map GArticle.cs a0t.Articles))), (51, I (lenI (List.map GArticle.cs a0t.Articles))), (52, I l9_3)], []⟩ krf ?_
      refine sim_seq ?_
      refine sim_block ?_
      refine sim_seq ?_
      refine sim_reg ?_
      refine xs_get krf krf (aop_idx (e := 44) (S := 7) (enc := GArticle.cs) (l := a0t.Articles) (k := .i64) (n := l9_3) (sv := .p (.sl 7 (List.map GArticle.cs a0t.Articles))) rfl krf krf krf krf krf) (fun x10 => ?_)
      refine xs_run 3 krf ?_
      refine xs_end ?_
      refine sq_nk ⟨[13, 15, 17, 50, 51, 52], [17], [], []⟩ ⟨[(13, I l9_1), (15, I l9_2), (17, .ptr 17 0), (50, .p (.sl 7 (List.map GArticle.cs a0t.Articles))), (51, I (lenI (List.map GArticle.cs a0t.Articles))), (52, I l9_3)], [(17, .box 44 (bxc (GArticle.cs x10)))]⟩ krf ?_
      refine sim_run Try.fm ⟨[13, 15, 17, 50, 51, 52, 57], [17], [], []⟩ ⟨[(13, I l9_1), (15, I l9_2), (17, .ptr 17 0), (50, .p (.sl 7 (List.map GArticle.cs a0t.Articles))), (51, I (lenI (List.map GArticle.cs a0t.Articles))), (52, I l9_3), (57, I x10.Kind)], [(17, .box 44 (bxc (GArticle.cs x10)))]⟩ krf ?_
      refine sim_block ?_
      refine sim_run Try.fm ⟨[13, 15, 17, 50, 51, 52, 57, 58], [17], [], []⟩ ⟨[(13, I l9_1), (15, I l9_2), (17, .ptr 17 0), (50, .p (.sl 7 (List.map GArticle.cs a0t.Articles))), (51, I (lenI (List.map GArticle.cs a0t.Articles))), (52, I l9_3), (57, I x10.Kind), (58, B (eqI x10.Kind 5))], [(17, .box 44 (bxc (GArticle.cs x10)))]⟩ krf ?_
      refine sim_cond (eqI x10.Kind 5) krf ?_ ?_
      ·refine sim_last Try.fm krf ?_
       refine bq_n ?_
       refine bq_n ?_
       refine sq_nk ⟨[13, 15, 50, 51, 52], [], [], []⟩ ⟨[(13, I (minI l9_1 x10.Price)), (15, I l9_2), (50, .p (.sl 7 (List.map GArticle.cs a0t.Articles))), (51, I (lenI (List.map GArticle.cs a0t.Articles))), (52, I l9_3)], []⟩ krf ?_
       refine sim_last Try.fm krf ?_
       exact kq_n (minI l9_1 x10.Price, l9_2, wi (l9_3 + 1)) ⟨[13, 15, 50, 51, 52], [], [], []⟩ krf
      ·refine sim_run Try.fm ⟨[13, 15, 17, 50, 51, 52, 64], [17], [], []⟩ ⟨[(13, I l9_1), (15, I l9_2), (17, .ptr 17 0), (50, .p (.sl 7 (List.map GArticle.cs a0t.Articles))), (51, I (lenI (List.map GArticle.cs a0t.Articles))), (52, I l9_3), (64, B (eqI x10.Kind 6))], [(17, .box 44 (bxc (GArticle.cs x10)))]⟩ krf ?_
       refine sim_cond (eqI x10.Kind 6) krf ?_ ?_
       ·refine sim_last Try.fm krf ?_
        refine bq_n ?_
        refine bq_n ?_
        refine sq_nk ⟨[13, 15, 50, 51, 52], [], [], []⟩ ⟨[(13, I l9_1), (15, I x10.Price), (50, .p (.sl 7 (List.map GArticle.cs a0t.Articles))), (51, I (lenI (List.map GArticle.cs a0t.Articles))), (52, I l9_3)], []⟩ krf ?_
        refine sim_last Try.fm krf ?_
        exact kq_n (l9_1, x10.Price, wi (l9_3 + 1)) ⟨[13, 15, 50, 51, 52], [], [], []⟩ krf
       ·refine sim_skip ?_
        refine bq_n ?_
        refine bq_n ?_
        refine sq_nk ⟨[13, 15, 50, 51, 52], [], [], []⟩ ⟨[(13, I l9_1), (15, I l9_2), (50, .p (.sl 7 (List.map GArticle.cs a0t.Articles))), (51, I (lenI (List.map GArticle.cs a0t.Articles))), (52, I l9_3)], []⟩ krf ?_
        refine sim_last Try.fm krf ?_
        exact kq_n (l9_1, l9_2, wi (l9_3 + 1)) ⟨[13, 15, 50, 51, 52], [], [], []⟩ krf
     ·refine sim_exit ?_
      refine sq_x ?_
      refine kq_x ?_
      refine bq_hit ?_
      exact nq_n (l9_1, l9_2) ⟨[13, 15], [], [], []⟩ krf
    ·rintro ⟨j8_1, j8_2⟩
     refine sim_seq ?_
     refine sim_reg ?_
     refine xs_run 2 krf ?_
     refine xs_call [] krf (g_money_Tax_ok n j8_1 j8_2) krf krf (fun _ => by kernel_rfl) (fun r11 => ?_)
     refine xs_run 5 krf ?_
     refine xs_end ?_
     refine sq_nk ⟨[13, 14, 18], [], [], []⟩ ⟨[(13, I j8_1), (14, I r11.2), (18, I r11.1)], []⟩ krf ?_
     refine sim_seq ?_
     refine sim_bind (fun j12 => ⟨[(13, I j8_1), (18, I r11.1), (82, B j12)], []⟩ : Bool → St) ?_ ?_
     ·refine sim_reg ?_
      refine xs_run 3 krf ?_
      refine xs_split (!eqI r11.2 0) (fun h13 => ?_) (fun h13 => ?_)
      ·refine xs_no (want_ft krf h13) krf ?_
       refine xs_run 4 krf ?_
       refine xs_end ?_
       exact nq_n true ⟨[13, 18, 82], [], [], []⟩ krf
      ·refine xs_one (want_ff krf h13) krf ?_
       refine xs_run 4 krf ?_
       refine xs_end ?_
       exact nq_n (ltI 1000000000 (wi (j8_1 + r11.1))) ⟨[13, 18, 82], [], [], []⟩ krf
     ·rintro j12
      refine sim_cond j12 krf ?_ ?_
      ·refine sim_run Try.fm ⟨[10, 11], [], [], []⟩ ⟨[(10, I 0), (11, I 3)], []⟩ krf ?_
       refine sim_ret ?_
       refine sq_r ?_
       exact rq_ret (.id) krf krf krf
      ·refine sim_skip ?_
       refine sq_nk ⟨[13, 18], [], [], []⟩ ⟨[(13, I j8_1), (18, I r11.1)], []⟩ krf ?_
       refine sim_run Try.fm ⟨[10, 11], [], [], []⟩ ⟨[(10, I (wi (j8_1 + r11.1))), (11, I 0)], []⟩ krf ?_
       refine sim_ret ?_
       exact rq_ret (.id) krf krf krf
def g_law35_gives (n : Nat) (a0t : GTariff) (a1from : Int) (a2to : Int) (a3energy : Int) (a4want : Int) : Option Bool :=
 (g_quote_Quote n a0t (⟨0, [], []⟩ : GCalendar) a1from a2to a3energy).bind fun r1 =>
 cond (eqI r1.2 0)
  (some (eqI r1.1 a4want))
  (some false)
theorem g_law35_gives_ok (n : Nat) (a0t : GTariff) (a1from : Int) (a2to : Int) (a3energy : Int) (a4want : Int) : ∀ r, g_law35_gives n a0t a1from a2to a3energy a4want = some r → PCall Try.prog 22 [ag (GTariff.cs a0t), I a1from, I a2to, I a3energy, I a4want] (.ret (B r)) := by
 refine pcall_sim (X := fun r : Bool => AEnd.ret (B r)) Try.func22 rfl Try.ntmps22 rfl ?_
 unfold g_law35_gives
 refine sim_run Try.fm ⟨[1, 2, 3, 4, 5], [5], [], []⟩ ⟨[(1, I a1from), (2, I a2to), (3, I a3energy), (4, I a4want), (5, .ptr 5 0)], [(5, .box 24 (bxc (GTariff.cs a0t)))]⟩ krf ?_
 refine sim_seq ?_
 refine sim_reg ?_
 refine xs_run 5 krf ?_
 refine xs_call [.id, .agg [.id, .sl 2, .sl 1], .id, .id, .id] krf (g_quote_Quote_ok n a0t (⟨0, [], []⟩ : GCalendar) a1from a2to a3energy) krf krf (fun _ => by kernel_rfl) (fun r1 => ?_)
 refine xs_run 5 krf ?_
 refine xs_end ?_
 refine sq_nk ⟨[4, 11, 12], [], [], []⟩ ⟨[(4, I a4want), (11, I r1.1), (12, I r1.2)], []⟩ krf ?_
 refine sim_seq ?_
 refine sim_reg ?_
 refine xs_run 3 krf ?_
 refine xs_split (eqI r1.2 0) (fun h2 => ?_) (fun h2 => ?_)
 ·refine xs_one (want_tt krf h2) krf ?_
  refine xs_run 4 krf ?_
  refine xs_end ?_
  refine sq_nk ⟨[10], [], [], []⟩ ⟨[(10, B (eqI r1.1 a4want))], []⟩ krf ?_
  refine sim_ret ?_
  exact rq_ret (.id) krf krf krf
 ·refine xs_no (want_tf krf h2) krf ?_
  refine xs_run 4 krf ?_
  refine xs_end ?_
  refine sq_nk ⟨[10], [], [], []⟩ ⟨[(10, B false)], []⟩ krf ?_
  refine sim_ret ?_
  exact rq_ret (.id) krf krf krf
def g_bill_Valid_l8 (a0s : GSession) (recl8 : (Int × Int) → Option Bool) (l8_1 : Int) (l8_2 : Int) : Option Bool :=
 cond (ltI l8_2 (lenI (List.map GSlice.cs a0s.Slices)))
  ((getI a0s.Slices l8_2).bind fun x9 =>
  (cond (leI x9.Minute l8_1)
   (some true)
   (cond (leI a0s.End x9.Minute)
    (some true)
    (cond (ltI x9.Energy 0)
     (some true)
     (some (ltI 10000 x9.Energy))))).bind fun j10 =>
  cond j10
   (some false)
   (recl8 (x9.Minute, wi (l8_2 + 1))))
  (some true)
def g_bill_Valid (n : Nat) (a0s : GSession) : Option Bool :=
 (cond (ltI a0s.From 0)
  (some true)
  (cond (leI a0s.To a0s.From)
   (some true)
   (cond (ltI 2880 (wi (a0s.To - a0s.From)))
    (some true)
    (some (ltI 52560000 a0s.To))))).bind fun j1 =>
 cond j1
  (some false)
  ((cond (ltI a0s.End a0s.From)
   (some true)
   (cond (ltI a0s.To a0s.End)
    (some true)
    (some (ltI 48 (lenI (List.map GSlice.cs a0s.Slices)))))).bind fun j5 =>
  cond j5
   (some false)
   (loopN (fun recl8 (l8_1, l8_2) => g_bill_Valid_l8 a0s recl8 l8_1 l8_2) n (wi (a0s.From - 1), 0)))
theorem g_bill_Valid_ok (n : Nat) (a0s : GSession) : ∀ r, g_bill_Valid n a0s = some r → PCall Try.prog 20 [ag (GSession.cs a0s)] (.ret (B r)) := by
 refine pcall_sim (X := fun r : Bool => AEnd.ret (B r)) Try.func20 rfl Try.ntmps20 rfl ?_
 unfold g_bill_Valid
 refine sim_run Try.fm ⟨[1], [1], [], []⟩ ⟨[(1, .ptr 1 0)], [(1, .box 31 (bxc (GSession.cs a0s)))]⟩ krf ?_
 refine sim_seq ?_
 refine sim_bind (fun j1 => ⟨[(1, .ptr 1 0), (28, B j1)], [(1, .box 31 (bxc (GSession.cs a0s)))]⟩ : Bool → St) ?_ ?_
 ·refine sim_reg ?_
  refine xs_run 4 krf ?_
  refine xs_split (ltI a0s.From 0) (fun h2 => ?_) (fun h2 => ?_)
  ·refine xs_no (want_ft krf h2) krf ?_
   refine xs_run 18 krf ?_
   refine xs_end ?_
   exact nq_n true ⟨[1, 28], [1], [], []⟩ krf
  ·refine xs_one (want_ff krf h2) krf ?_
   refine xs_run 6 krf ?_
   refine xs_split (leI a0s.To a0s.From) (fun h3 => ?_) (fun h3 => ?_)
   ·refine xs_no (want_ft krf h3) krf ?_
    refine xs_run 11 krf ?_
    refine xs_end ?_
    exact nq_n true ⟨[1, 28], [1], [], []⟩ krf
   ·refine xs_one (want_ff krf h3) krf ?_
    refine xs_run 7 krf ?_
    refine xs_split (ltI 2880 (wi (a0s.To - a0s.From))) (fun h4 => ?_) (fun h4 => ?_)
    ·refine xs_no (want_ft krf h4) krf ?_
     refine xs_run 3 krf ?_
     refine xs_end ?_
     exact nq_n true ⟨[1, 28], [1], [], []⟩ krf
    ·refine xs_one (want_ff krf h4) krf ?_
     refine xs_run 3 krf ?_
     refine xs_end ?_
     exact nq_n (ltI 52560000 a0s.To) ⟨[1, 28], [1], [], []⟩ krf
 ·rintro j1
  refine sim_cond j1 krf ?_ ?_
  ·refine sim_run Try.fm ⟨[2], [], [], []⟩ ⟨[(2, B false)], []⟩ krf ?_
   refine sim_ret ?_
   refine sq_r ?_
   exact rq_ret (.id) krf krf krf
  ·refine sim_skip ?_
   refine sq_nk ⟨[1], [1], [], []⟩ ⟨[(1, .ptr 1 0)], [(1, .box 31 (bxc (GSession.cs a0s)))]⟩ krf ?_
   refine sim_seq ?_
   refine sim_bind (fun j5 => ⟨[(1, .ptr 1 0), (46, B j5)], [(1, .box 31 (bxc (GSession.cs a0s)))]⟩ : Bool → St) ?_ ?_
   ·refine sim_reg ?_
    refine xs_run 6 krf ?_
    refine xs_split (ltI a0s.End a0s.From) (fun h6 => ?_) (fun h6 => ?_)
    ·refine xs_no (want_ft krf h6) krf ?_
     refine xs_run 11 krf ?_
     refine xs_end ?_
     exact nq_n true ⟨[1, 46], [1], [], []⟩ krf
    ·refine xs_one (want_ff krf h6) krf ?_
     refine xs_run 6 krf ?_
     refine xs_split (ltI a0s.To a0s.End) (fun h7 => ?_) (fun h7 => ?_)
     ·refine xs_no (want_ft krf h7) krf ?_
      refine xs_run 4 krf ?_
      refine xs_end ?_
      exact nq_n true ⟨[1, 46], [1], [], []⟩ krf
     ·refine xs_one (want_ff krf h7) krf ?_
      refine xs_run 4 krf ?_
      refine xs_end ?_
      exact nq_n (ltI 48 (lenI (List.map GSlice.cs a0s.Slices))) ⟨[1, 46], [1], [], []⟩ krf
   ·rintro j5
    refine sim_cond j5 krf ?_ ?_
    ·refine sim_run Try.fm ⟨[2], [], [], []⟩ ⟨[(2, B false)], []⟩ krf ?_
     refine sim_ret ?_
     refine sq_r ?_
     exact rq_ret (.id) krf krf krf
    ·refine sim_skip ?_
     refine sq_nk ⟨[1], [1], [], []⟩ ⟨[(1, .ptr 1 0)], [(1, .box 31 (bxc (GSession.cs a0s)))]⟩ krf ?_
     refine sim_run Try.fm ⟨[1, 3], [1], [], []⟩ ⟨[(1, .ptr 1 0), (3, I (wi (a0s.From - 1)))], [(1, .box 31 (bxc (GSession.cs a0s)))]⟩ krf ?_
     refine sim_seq ?_
     refine sim_run Try.fm ⟨[1, 3, 51, 52, 53], [1], [], []⟩ ⟨[(1, .ptr 1 0), (3, I (wi (a0s.From - 1))), (51, .p (.sl 2 (List.map GSlice.cs a0s.Slices))), (52, I (lenI (List.map GSlice.cs a0s.Slices))), (53, I 0)], [(1, .box 31 (bxc (GSession.cs a0s)))]⟩ krf ?_
     refine sim_block ?_
     refine sim_loop (fun (l8_1, l8_2) => ⟨[(1, .ptr 1 0), (3, I l8_1), (51, .p (.sl 2 (List.map GSlice.cs a0s.Slices))), (52, I (lenI (List.map GSlice.cs a0s.Slices))), (53, I l8_2)], [(1, .box 31 (bxc (GSession.cs a0s)))]⟩ : (Int × Int) → St) (weak_shr (K := ⟨[1, 3, 51, 52, 53], [1], [], []⟩) krf) ?_
     rintro recl8 ⟨l8_1, l8_2⟩
     show SimE (g_bill_Valid_l8 a0s recl8 l8_1 l8_2) _ _ _ _ _ _
     unfold g_bill_Valid_l8
     refine sim_run Try.fm ⟨[1, 3, 51, 52, 53, 54], [1], [], []⟩ ⟨[(1, .ptr 1 0), (3, I l8_1), (51, .p (.sl 2 (List.map GSlice.cs a0s.Slices))), (52, I (lenI (List.map GSlice.cs a0s.Slices))), (53, I l8_2), (54, B (ltI l8_2 (lenI (List.map GSlice.cs a0s.Slices))))], [(1, .box 31 (bxc (GSession.cs a0s)))]⟩ krf ?_
     refine sim_seq ?_
     refine sim_cond (ltI l8_2 (lenI (List.map GSlice.cs a0s.Slices))) krf ?_ ?_
     ·refine sim_skip ?_
      refine sq_nk ⟨[1, 3, 51, 52, 53], [1], [], []⟩ ⟨[(1, .ptr 1 0), (3, I l8_1), (51, .p (.sl 2 (List.map GSlice.cs a0s.Slices))), (52, I (lenI (List.map GSlice.cs a0s.Slices))), (53, I l8_2)], [(1, .box 31 (bxc (GSession.cs a0s)))]⟩ krf ?_
      refine sim_seq ?_
      refine sim_block ?_
      refine sim_seq ?_
      refine sim_reg ?_
      refine xs_get krf krf (aop_idx (e := 49) (S := 2) (enc := GSlice.cs) (l := a0s.Slices) (k := .i64) (n := l8_2) (sv := .p (.sl 2 (List.map GSlice.cs a0s.Slices))) rfl krf krf krf krf krf) (fun x9 => ?_)
      refine xs_run 3 krf ?_
      refine xs_end ?_
      refine sq_nk ⟨[1, 3, 5, 51, 52, 53], [1, 5], [], []⟩ ⟨[(1, .ptr 1 0), (3, I l8_1), (5, .ptr 5 0), (51, .p (.sl 2 (List.map GSlice.cs a0s.Slices))), (52, I (lenI (List.map GSlice.cs a0s.Slices))), (53, I l8_2)], [(1, .box 31 (bxc (GSession.cs a0s))), (5, .box 49 (bxc (GSlice.cs x9)))]⟩ krf ?_
      refine sim_seq ?_
      refine sim_bind (fun j10 => ⟨[(1, .ptr 1 0), (5, .ptr 5 0), (51, .p (.sl 2 (List.map GSlice.cs a0s.Slices))), (52, I (lenI (List.map GSlice.cs a0s.Slices))), (53, I l8_2), (77, B j10)], [(1, .box 31 (bxc (GSession.cs a0s))), (5, .box 49 (bxc (GSlice.cs x9)))]⟩ : Bool → St) ?_ ?_
      ·refine sim_reg ?_
       refine xs_run 5 krf ?_
       refine xs_split (leI x9.Minute l8_1) (fun h11 => ?_) (fun h11 => ?_)
       ·refine xs_no (want_ft krf h11) krf ?_
        refine xs_run 15 krf ?_
        refine xs_end ?_
        exact nq_n true ⟨[1, 5, 51, 52, 53, 77], [1, 5], [], []⟩ krf
       ·refine xs_one (want_ff krf h11) krf ?_
        refine xs_run 6 krf ?_
        refine xs_split (leI a0s.End x9.Minute) (fun h12 => ?_) (fun h12 => ?_)
        ·refine xs_no (want_ft krf h12) krf ?_
         refine xs_run 8 krf ?_
         refine xs_end ?_
         exact nq_n true ⟨[1, 5, 51, 52, 53, 77], [1, 5], [], []⟩ krf
        ·refine xs_one (want_ff krf h12) krf ?_
         refine xs_run 4 krf ?_
         refine xs_split (ltI x9.Energy 0) (fun h13 => ?_) (fun h13 => ?_)
         ·refine xs_no (want_ft krf h13) krf ?_
          refine xs_run 3 krf ?_
          refine xs_end ?_
          exact nq_n true ⟨[1, 5, 51, 52, 53, 77], [1, 5], [], []⟩ krf
         ·refine xs_one (want_ff krf h13) krf ?_
          refine xs_run 3 krf ?_
          refine xs_end ?_
          exact nq_n (ltI 10000 x9.Energy) ⟨[1, 5, 51, 52, 53, 77], [1, 5], [], []⟩ krf
      ·rintro j10
       refine sim_cond j10 krf ?_ ?_
       ·refine sim_run Try.fm ⟨[2], [], [], []⟩ ⟨[(2, B false)], []⟩ krf ?_
        refine sim_ret ?_
        refine sq_r ?_
        refine bq_r ?_
        refine sq_r ?_
        refine kq_r ?_
        refine bq_r ?_
        refine sq_r ?_
        exact rq_ret (.id) krf krf krf
       ·refine sim_skip ?_
        refine sq_nk ⟨[1, 5, 51, 52, 53], [1, 5], [], []⟩ ⟨[(1, .ptr 1 0), (5, .ptr 5 0), (51, .p (.sl 2 (List.map GSlice.cs a0s.Slices))), (52, I (lenI (List.map GSlice.cs a0s.Slices))), (53, I l8_2)], [(1, .box 31 (bxc (GSession.cs a0s))), (5, .box 49 (bxc (GSlice.cs x9)))]⟩ krf ?_
        refine sim_last Try.fm krf ?_
        refine bq_n ?_
        refine sq_nk ⟨[1, 3, 51, 52, 53], [1], [], []⟩ ⟨[(1, .ptr 1 0), (3, I x9.Minute), (51, .p (.sl 2 (List.map GSlice.cs a0s.Slices))), (52, I (lenI (List.map GSlice.cs a0s.Slices))), (53, I l8_2)], [(1, .box 31 (bxc (GSession.cs a0s)))]⟩ krf ?_
        refine sim_last Try.fm krf ?_
        exact kq_n (x9.Minute, wi (l8_2 + 1)) ⟨[1, 3, 51, 52, 53], [1], [], []⟩ krf
     ·refine sim_exit ?_
      refine sq_x ?_
      refine kq_x ?_
      refine bq_hit ?_
      refine sq_nk ⟨[], [], [], []⟩ ⟨[], []⟩ krf ?_
      refine sim_run Try.fm ⟨[2], [], [], []⟩ ⟨[(2, B true)], []⟩ krf ?_
      refine sim_ret ?_
      exact rq_ret (.id) krf krf krf
def g_quote_Covers_l7 (a0s : GSession) (a3energy : Int) (recl7 : (Int × Int) → Option Bool) (l7_1 : Int) (l7_2 : Int) : Option Bool :=
 cond (ltI l7_2 (lenI (List.map GSlice.cs a0s.Slices)))
  ((getI a0s.Slices l7_2).bind fun x8 =>
  recl7 (wi (l7_1 + x8.Energy), wi (l7_2 + 1)))
  (some (leI l7_1 a3energy))
def g_quote_Covers (n : Nat) (a0s : GSession) (a1from : Int) (a2to : Int) (a3energy : Int) : Option Bool :=
 ((g_quote_validLimits n a1from a2to a3energy).bind fun r2 =>
 cond (!r2)
  (some true)
  ((g_bill_Valid n a0s).bind fun r4 =>
  cond (!r4)
   (some true)
   (cond (ltI a0s.From a1from)
    (some true)
    (some (ltI a2to a0s.To))))).bind fun j1 =>
 cond j1
  (some false)
  (loopN (fun recl7 (l7_1, l7_2) => g_quote_Covers_l7 a0s a3energy recl7 l7_1 l7_2) n (0, 0))
theorem g_quote_Covers_ok (n : Nat) (a0s : GSession) (a1from : Int) (a2to : Int) (a3energy : Int) : ∀ r, g_quote_Covers n a0s a1from a2to a3energy = some r → PCall Try.prog 15 [ag (GSession.cs a0s), I a1from, I a2to, I a3energy] (.ret (B r)) := by
 refine pcall_sim (X := fun r : Bool => AEnd.ret (B r)) Try.func15 rfl Try.ntmps15 rfl ?_
 unfold g_quote_Covers
 refine sim_run Try.fm ⟨[1, 2, 3, 4], [4], [], []⟩ ⟨[(1, I a1from), (2, I a2to), (3, I a3energy), (4, .ptr 4 0)], [(4, .box 31 (bxc (GSession.cs a0s)))]⟩ krf ?_
 refine sim_seq ?_
 refine sim_bind (fun j1 => ⟨[(3, I a3energy), (4, .ptr 4 0), (33, B j1)], [(4, .box 31 (bxc (GSession.cs a0s)))]⟩ : Bool → St) ?_ ?_
 ·refine sim_reg ?_
  refine xs_run 3 krf ?_
  refine xs_call [] krf (g_quote_validLimits_ok n a1from a2to a3energy) krf krf (fun _ => by kernel_rfl) (fun r2 => ?_)
  refine xs_run 2 krf ?_
  refine xs_split (!r2) (fun h3 => ?_) (fun h3 => ?_)
  ·refine xs_no (want_ft krf h3) krf ?_
   refine xs_run 15 krf ?_
   refine xs_end ?_
   exact nq_n true ⟨[3, 4, 33], [4], [], []⟩ krf
  ·refine xs_one (want_ff krf h3) krf ?_
   refine xs_call [] krf (g_bill_Valid_ok n a0s) krf krf (fun _ => by kernel_rfl) (fun r4 => ?_)
   refine xs_run 3 krf ?_
   refine xs_split (!r4) (fun h5 => ?_) (fun h5 => ?_)
   ·refine xs_no (want_ft krf h5) krf ?_
    refine xs_run 10 krf ?_
    refine xs_end ?_
    exact nq_n true ⟨[3, 4, 33], [4], [], []⟩ krf
   ·refine xs_one (want_ff krf h5) krf ?_
    refine xs_run 5 krf ?_
    refine xs_split (ltI a0s.From a1from) (fun h6 => ?_) (fun h6 => ?_)
    ·refine xs_no (want_ft krf h6) krf ?_
     refine xs_run 4 krf ?_
     refine xs_end ?_
     exact nq_n true ⟨[3, 4, 33], [4], [], []⟩ krf
    ·refine xs_one (want_ff krf h6) krf ?_
     refine xs_run 4 krf ?_
     refine xs_end ?_
     exact nq_n (ltI a2to a0s.To) ⟨[3, 4, 33], [4], [], []⟩ krf
 ·rintro j1
  refine sim_cond j1 krf ?_ ?_
  ·refine sim_run Try.fm ⟨[8], [], [], []⟩ ⟨[(8, B false)], []⟩ krf ?_
   refine sim_ret ?_
   refine sq_r ?_
   exact rq_ret (.id) krf krf krf
  ·refine sim_skip ?_
   refine sq_nk ⟨[3, 4], [4], [], []⟩ ⟨[(3, I a3energy), (4, .ptr 4 0)], [(4, .box 31 (bxc (GSession.cs a0s)))]⟩ krf ?_
   refine sim_run Try.fm ⟨[3, 4, 9], [4], [], []⟩ ⟨[(3, I a3energy), (4, .ptr 4 0), (9, I 0)], [(4, .box 31 (bxc (GSession.cs a0s)))]⟩ krf ?_
   refine sim_seq ?_
   refine sim_run Try.fm ⟨[3, 9, 35, 36, 37], [], [], []⟩ ⟨[(3, I a3energy), (9, I 0), (35, .p (.sl 2 (List.map GSlice.cs a0s.Slices))), (36, I (lenI (List.map GSlice.cs a0s.Slices))), (37, I 0)], []⟩ krf ?_
   refine sim_block ?_
   refine sim_loop (fun (l7_1, l7_2) => ⟨[(3, I a3energy), (9, I l7_1), (35, .p (.sl 2 (List.map GSlice.cs a0s.Slices))), (36, I (lenI (List.map GSlice.cs a0s.Slices))), (37, I l7_2)], []⟩ : (Int × Int) → St) (weak_shr (K := ⟨[3, 9, 35, 36, 37], [], [], []⟩) krf) ?_
   rintro recl7 ⟨l7_1, l7_2⟩
   show SimE (g_quote_Covers_l7 a0s a3energy recl7 l7_1 l7_2) _ _ _ _ _ _
   unfold g_quote_Covers_l7
   refine sim_run Try.fm ⟨[3, 9, 35, 36, 37, 38], [], [], []⟩ ⟨[(3, I a3energy), (9, I l7_1), (35, .p (.sl 2 (List.map GSlice.cs a0s.Slices))), (36, I (lenI (List.map GSlice.cs a0s.Slices))), (37, I l7_2), (38, B (ltI l7_2 (lenI (List.map GSlice.cs a0s.Slices))))], []⟩ krf ?_
   refine sim_seq ?_
   refine sim_cond (ltI l7_2 (lenI (List.map GSlice.cs a0s.Slices))) krf ?_ ?_
   ·refine sim_skip ?_
    refine sq_nk ⟨[3, 9, 35, 36, 37], [], [], []⟩ ⟨[(3, I a3energy), (9, I l7_1), (35, .p (.sl 2 (List.map GSlice.cs a0s.Slices))), (36, I (lenI (List.map GSlice.cs a0s.Slices))), (37, I l7_2)], []⟩ krf ?_
    refine sim_seq ?_
    refine sim_block ?_
    refine sim_seq ?_
    refine sim_reg ?_
    refine xs_get krf krf (aop_idx (e := 49) (S := 2) (enc := GSlice.cs) (l := a0s.Slices) (k := .i64) (n := l7_2) (sv := .p (.sl 2 (List.map GSlice.cs a0s.Slices))) rfl krf krf krf krf krf) (fun x8 => ?_)
    refine xs_run 3 krf ?_
    refine xs_end ?_
    refine sq_nk ⟨[3, 9, 11, 35, 36, 37], [11], [], []⟩ ⟨[(3, I a3energy), (9, I l7_1), (11, .ptr 11 0), (35, .p (.sl 2 (List.map GSlice.cs a0s.Slices))), (36, I (lenI (List.map GSlice.cs a0s.Slices))), (37, I l7_2)], [(11, .box 49 (bxc (GSlice.cs x8)))]⟩ krf ?_
    refine sim_last Try.fm krf ?_
    refine bq_n ?_
    refine sq_nk ⟨[3, 9, 35, 36, 37], [], [], []⟩ ⟨[(3, I a3energy), (9, I (wi (l7_1 + x8.Energy))), (35, .p (.sl 2 (List.map GSlice.cs a0s.Slices))), (36, I (lenI (List.map GSlice.cs a0s.Slices))), (37, I l7_2)], []⟩ krf ?_
    refine sim_last Try.fm krf ?_
    exact kq_n (wi (l7_1 + x8.Energy), wi (l7_2 + 1)) ⟨[3, 9, 35, 36, 37], [], [], []⟩ krf
   ·refine sim_exit ?_
    refine sq_x ?_
    refine kq_x ?_
    refine bq_hit ?_
    refine sq_nk ⟨[3, 9], [], [], []⟩ ⟨[(3, I a3energy), (9, I l7_1)], []⟩ krf ?_
    refine sim_run Try.fm ⟨[8], [], [], []⟩ ⟨[(8, B (leI l7_1 a3energy))], []⟩ krf ?_
    refine sim_ret ?_
    exact rq_ret (.id) krf krf krf
def g_law35_head (n : Nat) : Option Bool :=
 ((g_law35_bench n []).bind fun r2 =>
 (g_law35_gives n r2 0 60 5000 15021).bind fun r3 =>
 cond r3
  ((g_law35_bench n [(⟨5, 7, 0, 1440, 15000, 0, 0⟩ : GArticle)]).bind fun r5 =>
  (g_law35_gives n r5 0 60 5000 15000).bind fun r6 =>
  cond r6
   ((g_law35_bench n [(⟨5, 7, 0, 1440, 15000, 0, 0⟩ : GArticle), (⟨6, 7, 0, 1440, 1900, 0, 0⟩ : GArticle)]).bind fun r8 =>
   (g_law35_gives n r8 0 60 5000 17850).bind fun r9 =>
   cond r9
    ((g_law35_bench n []).bind fun r11 =>
    (g_law35_gives n r11 0 60 0 20).bind fun r12 =>
    some r12)
    (some false))
   (some false))
  (some false)).bind fun j1 =>
 (g_law35_bench n []).bind fun r13 =>
 (g_quote_Quote n r13 (⟨0, [], []⟩ : GCalendar) 60 60 5).bind fun r14 =>
 (cond j1
  (cond (eqI r14.2 1)
   ((g_quote_Covers n (⟨5, 9, 7, [(⟨6, 100⟩ : GSlice)]⟩ : GSession) 5 9 100).bind fun r18 =>
   cond r18
    ((g_quote_Covers n (⟨5, 9, 7, [(⟨6, 100⟩ : GSlice)]⟩ : GSession) 5 9 99).bind fun r20 =>
    cond (!r20)
     ((g_quote_Covers n (⟨5, 9, 7, [(⟨6, 100⟩ : GSlice)]⟩ : GSession) 6 9 100).bind fun r22 =>
     cond (!r22)
      ((g_quote_Covers n (⟨5, 9, 7, [(⟨6, 100⟩ : GSlice)]⟩ : GSession) 5 8 100).bind fun r24 =>
      some (!r24))
      (some false))
     (some false))
    (some false))
   (some false))
  (some false)).bind fun j15 =>
 some j15
theorem g_law35_head_ok (n : Nat) : ∀ r, g_law35_head n = some r → PCall Try.prog 11 [] (.ret (B r)) := by
 refine pcall_sim (X := fun r : Bool => AEnd.ret (B r)) Try.func11 rfl Try.ntmps11 rfl ?_
 unfold g_law35_head
 refine sim_run Try.fm ⟨[], [], [], []⟩ ⟨[], []⟩ krf ?_
 refine sim_run Try.fm ⟨[1], [1], [], []⟩ ⟨[(1, .ptr 1 0)], [(1, .box 44 [I 5, I 7, I 0, I 1440, I 15000, I 0, I 0])]⟩ krf ?_
 refine sim_run Try.fm ⟨[1, 2], [1, 2], [], []⟩ ⟨[(1, .ptr 1 0), (2, .ptr 2 0)], [(1, .box 44 [I 5, I 7, I 0, I 1440, I 15000, I 0, I 0]), (2, .box 44 [I 6, I 7, I 0, I 1440, I 1900, I 0, I 0])]⟩ krf ?_
 refine sim_bind (fun j1 => ⟨[(3, B j1)], []⟩ : Bool → St) ?_ ?_
 ·refine sim_reg ?_
  refine xs_call [.sl 7] krf (g_law35_bench_ok n []) krf krf (fun _ => by kernel_rfl) (fun r2 => ?_)
  refine xs_call [] krf (g_law35_gives_ok n r2 0 60 5000 15021) krf krf (fun _ => by kernel_rfl) (fun r3 => ?_)
  refine xs_run 1 krf ?_
  refine xs_split r3 (fun h4 => ?_) (fun h4 => ?_)
  ·refine xs_one (want_tt krf h4) krf ?_
   refine xs_run 1 krf ?_
   refine xs_call [.sl 7] krf (g_law35_bench_ok n [(⟨5, 7, 0, 1440, 15000, 0, 0⟩ : GArticle)]) krf krf (fun _ => by kernel_rfl) (fun r5 => ?_)
   refine xs_call [] krf (g_law35_gives_ok n r5 0 60 5000 15000) krf krf (fun _ => by kernel_rfl) (fun r6 => ?_)
   refine xs_run 2 krf ?_
   refine xs_split r6 (fun h7 => ?_) (fun h7 => ?_)
   ·refine xs_one (want_tt krf h7) krf ?_
    refine xs_run 2 krf ?_
    refine xs_call [.sl 7] krf (g_law35_bench_ok n [(⟨5, 7, 0, 1440, 15000, 0, 0⟩ : GArticle), (⟨6, 7, 0, 1440, 1900, 0, 0⟩ : GArticle)]) krf krf (fun _ => by kernel_rfl) (fun r8 => ?_)
    refine xs_call [] krf (g_law35_gives_ok n r8 0 60 5000 17850) krf krf (fun _ => by kernel_rfl) (fun r9 => ?_)
    refine xs_run 2 krf ?_
    refine xs_split r9 (fun h10 => ?_) (fun h10 => ?_)
    ·refine xs_call [.sl 7] (want_tt krf h10) (g_law35_bench_ok n []) krf krf (fun _ => by kernel_rfl) (fun r11 => ?_)
     refine xs_call [] krf (g_law35_gives_ok n r11 0 60 0 20) krf krf (fun _ => by kernel_rfl) (fun r12 => ?_)
     refine xs_run 2 krf ?_
     refine xs_end ?_
     exact nq_n r12 ⟨[3], [], [], []⟩ krf
    ·refine xs_no (want_tf krf h10) krf ?_
     refine xs_run 3 krf ?_
     refine xs_end ?_
     exact nq_n false ⟨[3], [], [], []⟩ krf
   ·refine xs_no (want_tf krf h7) krf ?_
    refine xs_run 10 krf ?_
    refine xs_end ?_
    exact nq_n false ⟨[3], [], [], []⟩ krf
  ·refine xs_no (want_tf krf h4) krf ?_
   refine xs_run 16 krf ?_
   refine xs_end ?_
   exact nq_n false ⟨[3], [], [], []⟩ krf
 ·rintro j1
  refine sim_seq ?_
  refine sim_reg ?_
  refine xs_call [.sl 7] krf (g_law35_bench_ok n []) krf krf (fun _ => by kernel_rfl) (fun r13 => ?_)
  refine xs_run 1 krf ?_
  refine xs_call [.id, .agg [.id, .sl 2, .sl 1], .id, .id, .id] krf (g_quote_Quote_ok n r13 (⟨0, [], []⟩ : GCalendar) 60 60 5) krf krf (fun _ => by kernel_rfl) (fun r14 => ?_)
  refine xs_run 5 krf ?_
  refine xs_end ?_
  refine sq_nk ⟨[3, 5], [], [], []⟩ ⟨[(3, B j1), (5, I r14.2)], []⟩ krf ?_
  refine sim_run Try.fm ⟨[3, 5, 6], [6, 35], [], []⟩ ⟨[(3, B j1), (5, I r14.2), (6, .ptr 6 0)], [(6, .box 31 [I 5, I 9, I 7, .tsl 2 (List.map GSlice.cs [(⟨6, 100⟩ : GSlice)]) 35]), (35, .arr 49 2 (List.map GSlice.cs [(⟨6, 100⟩ : GSlice)]).length)]⟩ krf ?_
  refine sim_bind (fun j15 => ⟨[(0, B j15)], []⟩ : Bool → St) ?_ ?_
  ·refine sim_reg ?_
   refine xs_run 2 krf ?_
   refine xs_split j1 (fun h16 => ?_) (fun h16 => ?_)
   ·refine xs_one (want_tt krf h16) krf ?_
    refine xs_run 3 krf ?_
    refine xs_split (eqI r14.2 1) (fun h17 => ?_) (fun h17 => ?_)
    ·refine xs_one (want_tt krf h17) krf ?_
     refine xs_call [.agg [.id, .id, .id, .sl 2], .id, .id, .id] krf (g_quote_Covers_ok n (⟨5, 9, 7, [(⟨6, 100⟩ : GSlice)]⟩ : GSession) 5 9 100) krf krf (fun _ => by kernel_rfl) (fun r18 => ?_)
     refine xs_run 2 krf ?_
     refine xs_split r18 (fun h19 => ?_) (fun h19 => ?_)
     ·refine xs_one (want_tt krf h19) krf ?_
      refine xs_call [.agg [.id, .id, .id, .sl 2], .id, .id, .id] krf (g_quote_Covers_ok n (⟨5, 9, 7, [(⟨6, 100⟩ : GSlice)]⟩ : GSession) 5 9 99) krf krf (fun _ => by kernel_rfl) (fun r20 => ?_)
      refine xs_run 3 krf ?_
      refine xs_split (!r20) (fun h21 => ?_) (fun h21 => ?_)
      ·refine xs_one (want_tt krf h21) krf ?_
       refine xs_call [.agg [.id, .id, .id, .sl 2], .id, .id, .id] krf (g_quote_Covers_ok n (⟨5, 9, 7, [(⟨6, 100⟩ : GSlice)]⟩ : GSession) 6 9 100) krf krf (fun _ => by kernel_rfl) (fun r22 => ?_)
       refine xs_run 3 krf ?_
       refine xs_split (!r22) (fun h23 => ?_) (fun h23 => ?_)
       ·refine xs_one (want_tt krf h23) krf ?_
        refine xs_call [.agg [.id, .id, .id, .sl 2], .id, .id, .id] krf (g_quote_Covers_ok n (⟨5, 9, 7, [(⟨6, 100⟩ : GSlice)]⟩ : GSession) 5 8 100) krf krf (fun _ => by kernel_rfl) (fun r24 => ?_)
        refine xs_run 3 krf ?_
        refine xs_end ?_
        exact nq_n (!r24) ⟨[0], [], [], []⟩ krf
       ·refine xs_no (want_tf krf h23) krf ?_
        refine xs_run 4 krf ?_
        refine xs_end ?_
        exact nq_n false ⟨[0], [], [], []⟩ krf
      ·refine xs_no (want_tf krf h21) krf ?_
       refine xs_run 9 krf ?_
       refine xs_end ?_
       exact nq_n false ⟨[0], [], [], []⟩ krf
     ·refine xs_no (want_tf krf h19) krf ?_
      refine xs_run 14 krf ?_
      refine xs_end ?_
      exact nq_n false ⟨[0], [], [], []⟩ krf
    ·refine xs_no (want_tf krf h17) krf ?_
     refine xs_run 18 krf ?_
     refine xs_end ?_
     exact nq_n false ⟨[0], [], [], []⟩ krf
   ·refine xs_no (want_tf krf h16) krf ?_
    refine xs_run 22 krf ?_
    refine xs_end ?_
    exact nq_n false ⟨[0], [], [], []⟩ krf
  ·rintro j15
   refine sim_ret ?_
   exact rq_ret (.id) krf krf krf
def g_ref32_Few (n : Nat) (a0t : GTariff) : Option Bool :=
 cond (leI (lenI (List.map GArticle.cs a0t.Articles)) 20)
  (some (leI (lenI a0t.Name) 40))
  (some false)
theorem g_ref32_Few_ok (n : Nat) (a0t : GTariff) : ∀ r, g_ref32_Few n a0t = some r → PCall Try.prog 24 [ag (GTariff.cs a0t)] (.ret (B r)) := by
 refine pcall_sim (X := fun r : Bool => AEnd.ret (B r)) Try.func24 rfl Try.ntmps24 rfl ?_
 unfold g_ref32_Few
 refine sim_run Try.fm ⟨[1], [1], [], []⟩ ⟨[(1, .ptr 1 0)], [(1, .box 24 (bxc (GTariff.cs a0t)))]⟩ krf ?_
 refine sim_seq ?_
 refine sim_reg ?_
 refine xs_run 5 krf ?_
 refine xs_split (leI (lenI (List.map GArticle.cs a0t.Articles)) 20) (fun h1 => ?_) (fun h1 => ?_)
 ·refine xs_one (want_tt krf h1) krf ?_
  refine xs_run 5 krf ?_
  refine xs_end ?_
  refine sq_nk ⟨[2], [], [], []⟩ ⟨[(2, B (leI (lenI a0t.Name) 40))], []⟩ krf ?_
  refine sim_ret ?_
  exact rq_ret (.id) krf krf krf
 ·refine xs_no (want_tf krf h1) krf ?_
  refine xs_run 5 krf ?_
  refine xs_end ?_
  refine sq_nk ⟨[2], [], [], []⟩ ⟨[(2, B false)], []⟩ krf ?_
  refine sim_ret ?_
  exact rq_ret (.id) krf krf krf
def g_ref26_Few (n : Nat) (a0c : GCalendar) : Option Bool :=
 cond (leI (lenI (List.map GChange.cs a0c.Changes)) 30)
  (some (leI (lenI (List.map ci a0c.Holidays)) 60))
  (some false)
theorem g_ref26_Few_ok (n : Nat) (a0c : GCalendar) : ∀ r, g_ref26_Few n a0c = some r → PCall Try.prog 25 [ag (GCalendar.cs a0c)] (.ret (B r)) := by
 refine pcall_sim (X := fun r : Bool => AEnd.ret (B r)) Try.func25 rfl Try.ntmps25 rfl ?_
 unfold g_ref26_Few
 refine sim_run Try.fm ⟨[1], [1], [], []⟩ ⟨[(1, .ptr 1 0)], [(1, .box 28 (bxc (GCalendar.cs a0c)))]⟩ krf ?_
 refine sim_seq ?_
 refine sim_reg ?_
 refine xs_run 5 krf ?_
 refine xs_split (leI (lenI (List.map GChange.cs a0c.Changes)) 30) (fun h1 => ?_) (fun h1 => ?_)
 ·refine xs_one (want_tt krf h1) krf ?_
  refine xs_run 5 krf ?_
  refine xs_end ?_
  refine sq_nk ⟨[2], [], [], []⟩ ⟨[(2, B (leI (lenI (List.map ci a0c.Holidays)) 60))], []⟩ krf ?_
  refine sim_ret ?_
  exact rq_ret (.id) krf krf krf
 ·refine xs_no (want_tf krf h1) krf ?_
  refine xs_run 5 krf ?_
  refine xs_end ?_
  refine sq_nk ⟨[2], [], [], []⟩ ⟨[(2, B false)], []⟩ krf ?_
  refine sim_ret ?_
  exact rq_ret (.id) krf krf krf
def g_ref35_Few (n : Nat) (a0t : GTariff) (a1c : GCalendar) (a2s : GSession) : Option Bool :=
 (g_ref32_Few n a0t).bind fun r1 =>
 cond r1
  ((g_ref26_Few n a1c).bind fun r3 =>
  cond r3
   (some (leI (lenI (List.map GSlice.cs a2s.Slices)) 60))
   (some false))
  (some false)
theorem g_ref35_Few_ok (n : Nat) (a0t : GTariff) (a1c : GCalendar) (a2s : GSession) : ∀ r, g_ref35_Few n a0t a1c a2s = some r → PCall Try.prog 12 [ag (GTariff.cs a0t), ag (GCalendar.cs a1c), ag (GSession.cs a2s)] (.ret (B r)) := by
 refine pcall_sim (X := fun r : Bool => AEnd.ret (B r)) Try.func12 rfl Try.ntmps12 rfl ?_
 unfold g_ref35_Few
 refine sim_run Try.fm ⟨[3, 4, 5], [3, 4, 5], [], []⟩ ⟨[(3, .ptr 3 0), (4, .ptr 4 0), (5, .ptr 5 0)], [(3, .box 24 (bxc (GTariff.cs a0t))), (4, .box 28 (bxc (GCalendar.cs a1c))), (5, .box 31 (bxc (GSession.cs a2s)))]⟩ krf ?_
 refine sim_seq ?_
 refine sim_reg ?_
 refine xs_run 1 krf ?_
 refine xs_call [] krf (g_ref32_Few_ok n a0t) krf krf (fun _ => by kernel_rfl) (fun r1 => ?_)
 refine xs_run 1 krf ?_
 refine xs_split r1 (fun h2 => ?_) (fun h2 => ?_)
 ·refine xs_one (want_tt krf h2) krf ?_
  refine xs_call [] krf (g_ref26_Few_ok n a1c) krf krf (fun _ => by kernel_rfl) (fun r3 => ?_)
  refine xs_run 2 krf ?_
  refine xs_split r3 (fun h4 => ?_) (fun h4 => ?_)
  ·refine xs_one (want_tt krf h4) krf ?_
   refine xs_run 5 krf ?_
   refine xs_end ?_
   refine sq_nk ⟨[6], [], [], []⟩ ⟨[(6, B (leI (lenI (List.map GSlice.cs a2s.Slices)) 60))], []⟩ krf ?_
   refine sim_ret ?_
   exact rq_ret (.id) krf krf krf
  ·refine xs_no (want_tf krf h4) krf ?_
   refine xs_run 5 krf ?_
   refine xs_end ?_
   refine sq_nk ⟨[6], [], [], []⟩ ⟨[(6, B false)], []⟩ krf ?_
   refine sim_ret ?_
   exact rq_ret (.id) krf krf krf
 ·refine xs_no (want_tf krf h2) krf ?_
  refine xs_run 9 krf ?_
  refine xs_end ?_
  refine sq_nk ⟨[6], [], [], []⟩ ⟨[(6, B false)], []⟩ krf ?_
  refine sim_ret ?_
  exact rq_ret (.id) krf krf krf
def g_ref02_Kinds (n : Nat) : Option (List (List UInt8)) :=
 some [[102, 101, 101, 100, 101, 114], [99, 97, 98, 108, 101], [111, 119, 110, 101, 114], [99, 111, 110, 116, 114, 97, 99, 116], [99, 104, 97, 114, 103, 101, 114], [98, 97, 121], [116, 97, 114, 105, 102, 102]]
theorem g_ref02_Kinds_ok (n : Nat) : ∀ r, g_ref02_Kinds n = some r → PCall Try.prog 82 [] (.ret (.p (.sl 1 (List.map cstr r)))) := by
 refine pcall_sim (X := fun r : List (List UInt8) => AEnd.ret (.p (.sl 1 (List.map cstr r)))) Try.func82 rfl Try.ntmps82 rfl ?_
 unfold g_ref02_Kinds
 refine sim_run Try.fm ⟨[], [], [], []⟩ ⟨[], []⟩ krf ?_
 refine sim_run Try.fm ⟨[0], [1], [], []⟩ ⟨[(0, .tsl 1 (List.map cstr [[102, 101, 101, 100, 101, 114], [99, 97, 98, 108, 101], [111, 119, 110, 101, 114], [99, 111, 110, 116, 114, 97, 99, 116], [99, 104, 97, 114, 103, 101, 114], [98, 97, 121], [116, 97, 114, 105, 102, 102]]) 1)], [(1, .arr 9 1 (List.map cstr [[102, 101, 101, 100, 101, 114], [99, 97, 98, 108, 101], [111, 119, 110, 101, 114], [99, 111, 110, 116, 114, 97, 99, 116], [99, 104, 97, 114, 103, 101, 114], [98, 97, 121], [116, 97, 114, 105, 102, 102]]).length)]⟩ krf ?_
 refine sim_ret ?_
 exact rq_ret (.sl 1) krf krf krf
end Go.Proofs
