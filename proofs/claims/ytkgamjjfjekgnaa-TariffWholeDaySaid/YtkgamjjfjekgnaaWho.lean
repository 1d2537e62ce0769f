/-
  Proved: TariffWholeDay. On a local day without a clock change, an article with hours applies in exactly To - From minutes, or in none. No conditions beyond those of the given statement.
-/
import Derived.Test.YtkgamjjfjekgnaaWho04
namespace Go.Proofs
open Go Go.Abs
set_option maxRecDepth 100000
set_option linter.unusedVariables false
def g_t_reader_number (n : Nat) (a0r : GTfReader) : Option (Int × GTfReader) :=
 (cond (eqI (lenI (List.map idc a0r.values)) 0)
  (some true)
  ((Option.bind (getI a0r.values 0) GNode.of).bind fun x3 =>
  some (!eqI x3.Kind 6))).bind fun j1 =>
 cond j1
  (some (0, (⟨a0r.article, a0r.values, false⟩ : GTfReader)))
  ((Option.bind (getI a0r.values 0) GNode.of).bind fun x4 =>
  cond (sliceB3 1 (lenI (List.map idc a0r.values)) (lenI (List.map idc a0r.values)) (List.length a0r.values)) (
   some (x4.N, (⟨a0r.article, List.drop (Int.toNat 1) (List.take (Int.toNat (lenI (List.map idc a0r.values))) a0r.values), a0r.good⟩ : GTfReader))) none)
theorem g_t_reader_number_ok (n : Nat) (a0r : GTfReader) : ∀ r, g_t_reader_number n a0r = some r → ACall Try.prog 80 [.ptr 1000 0] (Go.Abs.look [(1000, .box 122 (bxc (GTfReader.cs a0r)))]) (heapR (fun r : Int × GTfReader => ((.ret (I r.1), [(1000, .box 122 (bxc (GTfReader.cs r.2)))]) : AEnd × List (Nat × Blk))) r) := by
 refine acall_sim (X := fun r : Int × GTfReader => ((.ret (I r.1), [(1000, .box 122 (bxc (GTfReader.cs r.2)))]) : AEnd × List (Nat × Blk))) [(1000, .box 122 (bxc (GTfReader.cs a0r)))] Try.func80 rfl Try.ntmps80 rfl ?_
 unfold g_t_reader_number
 refine sR tfm ⟨[0], [1000], [], []⟩ ⟨[(0, .ptr 1000 0)], [(1000, .box 122 (bxc (GTfReader.cs a0r)))]⟩ krf ?_
 refine sS ?_
 refine sim_bind (fun j1 => ⟨[(0, .ptr 1000 0), (19, B j1)], [(1000, .box 122 (bxc (GTfReader.cs a0r)))]⟩ : Bool → St) ?_ ?_
 ·refine sG ?_
  refine xR 7 krf ?_
  refine xS (eqI (lenI (List.map idc a0r.values)) 0) (fun h2 => ?_) (fun h2 => ?_)
  ·refine xN (want_ft krf h2) krf ?_
   refine xR 8 krf ?_
   refine xE ?_
   exact nq_n true ⟨[0, 19], [1000], [], []⟩ krf
  ·refine xO (want_ff krf h2) krf ?_
   refine xR 3 krf ?_
   refine xG krf krf (aop_idxR (e := 72) (S := 5) (enc := GNode.cs) (dec := GNode.of) (l := a0r.values) (k := .i64) (n := 0) (sv := .p (.sl 5 (List.map idc a0r.values))) GNode.of_cs rfl krf krf krf krf krf) (fun x3 => ?_)
   refine xR 4 krf ?_
   refine xE ?_
   exact nq_n (!eqI x3.Kind 6) ⟨[0, 19], [1000], [], []⟩ krf
 ·rintro j1
  refine sC j1 krf ?_ ?_
  ·refine sR tfm ⟨[], [1000], [], []⟩ ⟨[], [(1000, .box 122 (bxc (GTfReader.cs ⟨a0r.article, a0r.values, false⟩)))]⟩ krf ?_
   refine sR tfm ⟨[2], [1000], [], []⟩ ⟨[(2, I 0)], [(1000, .box 122 (bxc (GTfReader.cs ⟨a0r.article, a0r.values, false⟩)))]⟩ krf ?_
   refine sT ?_
   refine sq_r ?_
   exact hq_ret (.id) [1000] [] krf krf krf krf
  ·refine sK ?_
   refine sN ⟨[0], [1000], [], []⟩ ⟨[(0, .ptr 1000 0)], [(1000, .box 122 (bxc (GTfReader.cs a0r)))]⟩ krf ?_
   refine sS ?_
   refine sG ?_
   refine xR 4 krf ?_
   refine xG krf krf (aop_idxR (e := 72) (S := 5) (enc := GNode.cs) (dec := GNode.of) (l := a0r.values) (k := .i64) (n := 0) (sv := .p (.sl 5 (List.map idc a0r.values))) GNode.of_cs rfl krf krf krf krf krf) (fun x4 => ?_)
   refine xR 3 krf ?_
   refine xE ?_
   refine sN ⟨[0, 3], [1000], [], []⟩ ⟨[(0, .ptr 1000 0), (3, I x4.N)], [(1000, .box 122 (bxc (GTfReader.cs a0r)))]⟩ krf ?_
   refine sS ?_
   refine sim_drw tfm rfl ?_
   refine xR 15 krf ?_
   refine xF krf krf (aop_slice3 (e := 72) (S := 5) (enc := idc) (l := a0r.values) (sv := .p (.sl 5 (List.map idc a0r.values))) (a := 1) (b := lenI (List.map idc a0r.values)) (c := lenI (List.map idc a0r.values)) rfl krf krf krf krf krf krf krf) ?_
   refine xR 3 krf ?_
   refine xs_endD krf ?_
   refine sN ⟨[3], [1000], [], []⟩ ⟨[(3, I x4.N)], [(1000, .box 122 (bxc (GTfReader.cs ⟨a0r.article, List.drop (Int.toNat 1) (List.take (Int.toNat (lenI (List.map idc a0r.values))) a0r.values), a0r.good⟩)))]⟩ krf ?_
   refine sR tfm ⟨[2], [1000], [], []⟩ ⟨[(2, I x4.N)], [(1000, .box 122 (bxc (GTfReader.cs ⟨a0r.article, List.drop (Int.toNat 1) (List.take (Int.toNat (lenI (List.map idc a0r.values))) a0r.values), a0r.good⟩)))]⟩ krf ?_
   refine sT ?_
   exact hq_ret (.id) [1000] [] krf krf krf krf
def g_t_isTime (n : Nat) (a0kind : Int) : Option Bool :=
 cond (eqI a0kind 3)
  (some true)
  (some (eqI a0kind 4))
theorem g_t_isTime_ok (n : Nat) (a0kind : Int) : ∀ r, g_t_isTime n a0kind = some r → PCall Try.prog 36 [I a0kind] (.ret (B r)) := by
 refine pcall_sim (X := fun r : Bool => AEnd.ret (B r)) Try.func36 rfl Try.ntmps36 rfl ?_
 unfold g_t_isTime
 refine sR tfm ⟨[0], [], [], []⟩ ⟨[(0, I a0kind)], []⟩ krf ?_
 refine sS ?_
 refine sG ?_
 refine xR 3 krf ?_
 refine xS (eqI a0kind 3) (fun h1 => ?_) (fun h1 => ?_)
 ·refine xN (want_ft krf h1) krf ?_
  refine xR 3 krf ?_
  refine xE ?_
  refine sN ⟨[2], [], [], []⟩ ⟨[(2, B true)], []⟩ krf ?_
  refine sT ?_
  exact qR (.id) krf krf krf
 ·refine xO (want_ff krf h1) krf ?_
  refine xR 3 krf ?_
  refine xE ?_
  refine sN ⟨[2], [], [], []⟩ ⟨[(2, B (eqI a0kind 4))], []⟩ krf ?_
  refine sT ?_
  exact qR (.id) krf krf krf
def g_t_isWhole (n : Nat) (a0kind : Int) : Option Bool :=
 cond (eqI a0kind 5)
  (some true)
  (some (eqI a0kind 6))
theorem g_t_isWhole_ok (n : Nat) (a0kind : Int) : ∀ r, g_t_isWhole n a0kind = some r → PCall Try.prog 35 [I a0kind] (.ret (B r)) := by
 refine pcall_sim (X := fun r : Bool => AEnd.ret (B r)) Try.func35 rfl Try.ntmps35 rfl ?_
 unfold g_t_isWhole
 refine sR tfm ⟨[0], [], [], []⟩ ⟨[(0, I a0kind)], []⟩ krf ?_
 refine sS ?_
 refine sG ?_
 refine xR 3 krf ?_
 refine xS (eqI a0kind 5) (fun h1 => ?_) (fun h1 => ?_)
 ·refine xN (want_ft krf h1) krf ?_
  refine xR 3 krf ?_
  refine xE ?_
  refine sN ⟨[2], [], [], []⟩ ⟨[(2, B true)], []⟩ krf ?_
  refine sT ?_
  exact qR (.id) krf krf krf
 ·refine xO (want_ff krf h1) krf ?_
  refine xR 3 krf ?_
  refine xE ?_
  refine sN ⟨[2], [], [], []⟩ ⟨[(2, B (eqI a0kind 6))], []⟩ krf ?_
  refine sT ?_
  exact qR (.id) krf krf krf
def g_t_reader_word (n : Nat) (a0r : GTfReader) : Option (List UInt8) :=
 (cond (eqI (lenI (List.map idc a0r.values)) 0)
  (some true)
  ((Option.bind (getI a0r.values 0) GNode.of).bind fun x3 =>
  some (!eqI x3.Kind 5))).bind fun j1 =>
 cond j1
  (some [])
  ((Option.bind (getI a0r.values 0) GNode.of).bind fun x4 =>
  some x4.Name)
theorem g_t_reader_word_ok (n : Nat) (a0r : GTfReader) : ∀ r, g_t_reader_word n a0r = some r → PCall Try.prog 82 [.eptr (GTfReader.cs a0r)] (.ret (S r)) := by
 refine pcall_sim (X := fun r : List UInt8 => AEnd.ret (S r)) Try.func82 rfl Try.ntmps82 rfl ?_
 unfold g_t_reader_word
 refine sR tfm ⟨[0], [], [], []⟩ ⟨[(0, .eptr (GTfReader.cs a0r))], []⟩ krf ?_
 refine sS ?_
 refine sim_bind (fun j1 => ⟨[(0, .eptr (GTfReader.cs a0r)), (18, B j1)], []⟩ : Bool → St) ?_ ?_
 ·refine sG ?_
  refine xR 7 krf ?_
  refine xS (eqI (lenI (List.map idc a0r.values)) 0) (fun h2 => ?_) (fun h2 => ?_)
  ·refine xN (want_ft krf h2) krf ?_
   refine xR 8 krf ?_
   refine xE ?_
   exact nq_n true ⟨[0, 18], [], [], []⟩ krf
  ·refine xO (want_ff krf h2) krf ?_
   refine xR 3 krf ?_
   refine xG krf krf (aop_idxR (e := 72) (S := 5) (enc := GNode.cs) (dec := GNode.of) (l := a0r.values) (k := .i64) (n := 0) (sv := .p (.sl 5 (List.map idc a0r.values))) GNode.of_cs rfl krf krf krf krf krf) (fun x3 => ?_)
   refine xR 4 krf ?_
   refine xE ?_
   exact nq_n (!eqI x3.Kind 5) ⟨[0, 18], [], [], []⟩ krf
 ·rintro j1
  refine sC j1 krf ?_ ?_
  ·refine sR tfm ⟨[2], [], [], []⟩ ⟨[(2, S [])], []⟩ krf ?_
   refine sT ?_
   refine sq_r ?_
   exact qR (.id) krf krf krf
  ·refine sK ?_
   refine sN ⟨[0], [], [], []⟩ ⟨[(0, .eptr (GTfReader.cs a0r))], []⟩ krf ?_
   refine sS ?_
   refine sG ?_
   refine xR 4 krf ?_
   refine xG krf krf (aop_idxR (e := 72) (S := 5) (enc := GNode.cs) (dec := GNode.of) (l := a0r.values) (k := .i64) (n := 0) (sv := .p (.sl 5 (List.map idc a0r.values))) GNode.of_cs rfl krf krf krf krf krf) (fun x4 => ?_)
   refine xR 3 krf ?_
   refine xE ?_
   refine sN ⟨[2], [], [], []⟩ ⟨[(2, S x4.Name)], []⟩ krf ?_
   refine sT ?_
   exact qR (.id) krf krf krf
def g_t_dayOf (n : Nat) (a0word : List UInt8) : Option Int :=
 cond (eqS a0word [119, 111, 114, 107])
  (some 1)
  (cond (eqS a0word [115, 97, 116, 117, 114, 100, 97, 121])
   (some 2)
   (cond (eqS a0word [115, 117, 110, 100, 97, 121])
    (some 4)
    (some 0)))
theorem g_t_dayOf_ok (n : Nat) (a0word : List UInt8) : ∀ r, g_t_dayOf n a0word = some r → PCall Try.prog 99 [S a0word] (.ret (I r)) := by
 refine pcall_sim (X := fun r : Int => AEnd.ret (I r)) Try.func99 rfl Try.ntmps99 rfl ?_
 unfold g_t_dayOf
 refine sR tfm ⟨[0], [], [], []⟩ ⟨[(0, S a0word)], []⟩ krf ?_
 refine sS ?_
 refine sR tfm ⟨[3], [], [], []⟩ ⟨[(3, S a0word)], []⟩ krf ?_
 refine sB ?_
 refine sR tfm ⟨[3, 4], [], [], []⟩ ⟨[(3, S a0word), (4, B (eqS a0word [119, 111, 114, 107]))], []⟩ krf ?_
 refine sC (eqS a0word [119, 111, 114, 107]) krf ?_ ?_
 ·refine sR tfm ⟨[2], [], [], []⟩ ⟨[(2, I 1)], []⟩ krf ?_
  refine sT ?_
  refine bq_r ?_
  refine sq_r ?_
  exact qR (.id) krf krf krf
 ·refine sR tfm ⟨[3, 6], [], [], []⟩ ⟨[(3, S a0word), (6, B (eqS a0word [115, 97, 116, 117, 114, 100, 97, 121]))], []⟩ krf ?_
  refine sC (eqS a0word [115, 97, 116, 117, 114, 100, 97, 121]) krf ?_ ?_
  ·refine sR tfm ⟨[2], [], [], []⟩ ⟨[(2, I 2)], []⟩ krf ?_
   refine sT ?_
   refine bq_r ?_
   refine sq_r ?_
   exact qR (.id) krf krf krf
  ·refine sR tfm ⟨[8], [], [], []⟩ ⟨[(8, B (eqS a0word [115, 117, 110, 100, 97, 121]))], []⟩ krf ?_
   refine sC (eqS a0word [115, 117, 110, 100, 97, 121]) krf ?_ ?_
   ·refine sR tfm ⟨[2], [], [], []⟩ ⟨[(2, I 4)], []⟩ krf ?_
    refine sT ?_
    refine bq_r ?_
    refine sq_r ?_
    exact qR (.id) krf krf krf
   ·refine sK ?_
    refine bq_n ?_
    refine sN ⟨[], [], [], []⟩ ⟨[], []⟩ krf ?_
    refine sR tfm ⟨[2], [], [], []⟩ ⟨[(2, I 0)], []⟩ krf ?_
    refine sT ?_
    exact qR (.id) krf krf krf
def g_t_reader_days_l4 (n : Nat) (a0r : GTfReader) (recl4 : (Int × Int × (List (List PV)) × Bool) → Option (Int × (List (List PV)) × Bool)) (l4_1 : Int) (l4_2 : Int) (l4_3 : List (List PV)) (l4_4 : Bool) : Option (Int × (List (List PV)) × Bool) :=
 cond (!eqI l4_2 0)
  ((cond (!eqI (bAnd .i64 l4_1 l4_2) 0)
   (some false)
   (some l4_4)).bind fun j5 =>
  cond (sliceB3 1 (lenI (List.map idc l4_3)) (lenI (List.map idc l4_3)) (List.length l4_3)) (
   (g_t_reader_word n (⟨a0r.article, List.drop (Int.toNat 1) (List.take (Int.toNat (lenI (List.map idc l4_3))) l4_3), j5⟩ : GTfReader)).bind fun r6 =>
   (g_t_dayOf n r6).bind fun r7 =>
   recl4 (bOr .i64 l4_1 l4_2, r7, List.drop (Int.toNat 1) (List.take (Int.toNat (lenI (List.map idc l4_3))) l4_3), j5)) none)
  (some (l4_1, l4_3, l4_4))
def g_t_reader_days (n : Nat) (a0r : GTfReader) : Option (Int × GTfReader) :=
 ((g_t_reader_word n a0r).bind fun r2 =>
 (g_t_dayOf n r2).bind fun r3 =>
 loopN (fun recl4 (l4_1, l4_2, l4_3, l4_4) => g_t_reader_days_l4 n a0r recl4 l4_1 l4_2 l4_3 l4_4) n (0, r3, a0r.values, a0r.good)).bind fun (j1_1, j1_2, j1_3) =>
 cond (eqI j1_1 0)
  (some (j1_1, (⟨a0r.article, j1_2, false⟩ : GTfReader)))
  (some (j1_1, (⟨a0r.article, j1_2, j1_3⟩ : GTfReader)))
theorem g_t_reader_days_ok (n : Nat) (a0r : GTfReader) : ∀ r, g_t_reader_days n a0r = some r → ACall Try.prog 95 [.ptr 1000 0] (Go.Abs.look [(1000, .box 122 (bxc (GTfReader.cs a0r)))]) (heapR (fun r : Int × GTfReader => ((.ret (I r.1), [(1000, .box 122 (bxc (GTfReader.cs r.2)))]) : AEnd × List (Nat × Blk))) r) := by
 refine acall_sim (X := fun r : Int × GTfReader => ((.ret (I r.1), [(1000, .box 122 (bxc (GTfReader.cs r.2)))]) : AEnd × List (Nat × Blk))) [(1000, .box 122 (bxc (GTfReader.cs a0r)))] Try.func95 rfl Try.ntmps95 rfl ?_
 unfold g_t_reader_days
 refine sR tfm ⟨[0], [1000], [], []⟩ ⟨[(0, .ptr 1000 0)], [(1000, .box 122 (bxc (GTfReader.cs a0r)))]⟩ krf ?_
 refine sR tfm ⟨[0, 3], [1000], [], []⟩ ⟨[(0, .ptr 1000 0), (3, I 0)], [(1000, .box 122 (bxc (GTfReader.cs a0r)))]⟩ krf ?_
 refine sim_bind (fun (j1_1, j1_2, j1_3) => ⟨[(0, .ptr 1000 0), (3, I j1_1)], [(1000, .box 122 (bxc (GTfReader.cs ⟨a0r.article, j1_2, j1_3⟩)))]⟩ : (Int × (List (List PV)) × Bool) → St) ?_ ?_
 ·refine sS ?_
  refine sG ?_
  refine xR 1 krf ?_
  refine xs_ro [.ro []] krf (g_t_reader_word_ok n a0r) krf krf (fun _ => by kernel_rfl) (fun r2 => ?_)
  refine xC [] krf (g_t_dayOf_ok n r2) krf krf (fun _ => by kernel_rfl) (fun r3 => ?_)
  refine xR 1 krf ?_
  refine xE ?_
  refine sN ⟨[0, 3, 4], [1000], [], []⟩ ⟨[(0, .ptr 1000 0), (3, I 0), (4, I r3)], [(1000, .box 122 (bxc (GTfReader.cs a0r)))]⟩ krf ?_
  refine sB ?_
  refine sim_loop (fun (l4_1, l4_2, l4_3, l4_4) => ⟨[(0, .ptr 1000 0), (3, I l4_1), (4, I l4_2)], [(1000, .box 122 (bxc (GTfReader.cs ⟨a0r.article, l4_3, l4_4⟩)))]⟩ : (Int × Int × (List (List PV)) × Bool) → St) (weak_shr (K := ⟨[0, 3, 4], [1000], [], []⟩) krf) ?_
  rintro recl4 ⟨l4_1, l4_2, l4_3, l4_4⟩
  show SimE (g_t_reader_days_l4 n a0r recl4 l4_1 l4_2 l4_3 l4_4) _ _ _ _ _ _
  unfold g_t_reader_days_l4
  refine sS ?_
  refine sR tfm ⟨[0, 3, 4, 9], [1000], [], []⟩ ⟨[(0, .ptr 1000 0), (3, I l4_1), (4, I l4_2), (9, B (!eqI l4_2 0))], [(1000, .box 122 (bxc (GTfReader.cs ⟨a0r.article, l4_3, l4_4⟩)))]⟩ krf ?_
  refine sC (!eqI l4_2 0) krf ?_ ?_
  ·refine sK ?_
   refine sN ⟨[0, 3, 4], [1000], [], []⟩ ⟨[(0, .ptr 1000 0), (3, I l4_1), (4, I l4_2)], [(1000, .box 122 (bxc (GTfReader.cs ⟨a0r.article, l4_3, l4_4⟩)))]⟩ krf ?_
   refine sS ?_
   refine sB ?_
   refine sim_bind (fun j5 => ⟨[(0, .ptr 1000 0), (3, I l4_1), (4, I l4_2)], [(1000, .box 122 (bxc (GTfReader.cs ⟨a0r.article, l4_3, j5⟩)))]⟩ : Bool → St) ?_ ?_
   ·refine sR tfm ⟨[0, 3, 4, 16], [1000], [], []⟩ ⟨[(0, .ptr 1000 0), (3, I l4_1), (4, I l4_2), (16, B (!eqI (bAnd .i64 l4_1 l4_2) 0))], [(1000, .box 122 (bxc (GTfReader.cs ⟨a0r.article, l4_3, l4_4⟩)))]⟩ krf ?_
    refine sC (!eqI (bAnd .i64 l4_1 l4_2) 0) krf ?_ ?_
    ·refine sL tfm krf ?_
     exact nq_n false ⟨[0, 3, 4], [1000], [], []⟩ krf
    ·refine sK ?_
     exact nq_n l4_4 ⟨[0, 3, 4], [1000], [], []⟩ krf
   ·rintro j5
    refine sR tfm ⟨[0, 3], [1000], [], []⟩ ⟨[(0, .ptr 1000 0), (3, I (bOr .i64 l4_1 l4_2))], [(1000, .box 122 (bxc (GTfReader.cs ⟨a0r.article, l4_3, j5⟩)))]⟩ krf ?_
    refine sim_drw tfm rfl ?_
    refine xR 15 krf ?_
    refine xF krf krf (aop_slice3 (e := 72) (S := 5) (enc := idc) (l := l4_3) (sv := .p (.sl 5 (List.map idc l4_3))) (a := 1) (b := lenI (List.map idc l4_3)) (c := lenI (List.map idc l4_3)) rfl krf krf krf krf krf krf krf) ?_
    refine xR 3 krf ?_
    refine xs_endD krf ?_
    refine bq_n ?_
    refine sN ⟨[0, 3], [1000], [], []⟩ ⟨[(0, .ptr 1000 0), (3, I (bOr .i64 l4_1 l4_2))], [(1000, .box 122 (bxc (GTfReader.cs ⟨a0r.article, List.drop (Int.toNat 1) (List.take (Int.toNat (lenI (List.map idc l4_3))) l4_3), j5⟩)))]⟩ krf ?_
    refine sG ?_
    refine xR 1 krf ?_
    refine xs_ro [.ro []] krf (g_t_reader_word_ok n (⟨a0r.article, List.drop (Int.toNat 1) (List.take (Int.toNat (lenI (List.map idc l4_3))) l4_3), j5⟩ : GTfReader)) krf krf (fun _ => by kernel_rfl) (fun r6 => ?_)
    refine xC [] krf (g_t_dayOf_ok n r6) krf krf (fun _ => by kernel_rfl) (fun r7 => ?_)
    refine xR 1 krf ?_
    refine xE ?_
    exact kq_n (bOr .i64 l4_1 l4_2, r7, List.drop (Int.toNat 1) (List.take (Int.toNat (lenI (List.map idc l4_3))) l4_3), j5) ⟨[0, 3, 4], [1000], [], []⟩ krf
  ·refine sim_exit ?_
   refine sq_x ?_
   refine kq_x ?_
   refine bq_hit ?_
   exact nq_n (l4_1, l4_3, l4_4) ⟨[0, 3], [1000], [], []⟩ krf
 ·rintro ⟨j1_1, j1_2, j1_3⟩
  refine sS ?_
  refine sR tfm ⟨[0, 3, 42], [1000], [], []⟩ ⟨[(0, .ptr 1000 0), (3, I j1_1), (42, B (eqI j1_1 0))], [(1000, .box 122 (bxc (GTfReader.cs ⟨a0r.article, j1_2, j1_3⟩)))]⟩ krf ?_
  refine sC (eqI j1_1 0) krf ?_ ?_
  ·refine sL tfm krf ?_
   refine sN ⟨[3], [1000], [], []⟩ ⟨[(3, I j1_1)], [(1000, .box 122 (bxc (GTfReader.cs ⟨a0r.article, j1_2, false⟩)))]⟩ krf ?_
   refine sR tfm ⟨[2], [1000], [], []⟩ ⟨[(2, I j1_1)], [(1000, .box 122 (bxc (GTfReader.cs ⟨a0r.article, j1_2, false⟩)))]⟩ krf ?_
   refine sT ?_
   exact hq_ret (.id) [1000] [] krf krf krf krf
  ·refine sK ?_
   refine sN ⟨[3], [1000], [], []⟩ ⟨[(3, I j1_1)], [(1000, .box 122 (bxc (GTfReader.cs ⟨a0r.article, j1_2, j1_3⟩)))]⟩ krf ?_
   refine sR tfm ⟨[2], [1000], [], []⟩ ⟨[(2, I j1_1)], [(1000, .box 122 (bxc (GTfReader.cs ⟨a0r.article, j1_2, j1_3⟩)))]⟩ krf ?_
   refine sT ?_
   exact hq_ret (.id) [1000] [] krf krf krf krf
def g_t_read_j8 (j8_1 : Bool) (j8_2 : Int) (j8_3 : Int) (j8_4 : Int) (j8_5 : Int) (j8_6 : Int) (j8_7 : Int) (j8_8 : Int) (j8_9 : List (List PV)) (j8_10 : Bool) : Option (GAr × Bool) :=
 cond j8_10
  (cond j8_1
   (some ((⟨j8_2, j8_3, j8_4, j8_5, j8_6, j8_7, j8_8⟩ : GAr), !eqI j8_2 0))
   (some ((⟨j8_2, j8_3, j8_4, j8_5, j8_6, j8_7, j8_8⟩ : GAr), false)))
  (some ((⟨j8_2, j8_3, j8_4, j8_5, j8_6, j8_7, j8_8⟩ : GAr), false))
def g_t_read_l11 (n : Nat) (recl11 : (Bool × Int × Int × Int × Int × Int × Int × Int × (List (List PV)) × Bool × Bool × Bool × Bool × Bool) → Option (GAr × Bool)) (l11_1 : Bool) (l11_2 : Int) (l11_3 : Int) (l11_4 : Int) (l11_5 : Int) (l11_6 : Int) (l11_7 : Int) (l11_8 : Int) (l11_9 : List (List PV)) (l11_10 : Bool) (l11_11 : Bool) (l11_12 : Bool) (l11_13 : Bool) (l11_14 : Bool) : Option (GAr × Bool) :=
 (cond l11_10
  (some (ltI 0 (lenI (List.map idc l11_9))))
  (some false)).bind fun j12 =>
 cond j12
  ((g_t_reader_word n (⟨(⟨l11_2, l11_3, l11_4, l11_5, l11_6, l11_7, l11_8⟩ : GAr), l11_9, l11_10⟩ : GTfReader)).bind fun r14 =>
  cond (eqS r14 [112, 101, 114] && l11_11)
   ((cond l11_1
    (some true)
    (some (eqS r14 [112, 101, 114]))).bind fun j17 =>
   cond (sliceB3 1 (lenI (List.map idc l11_9)) (lenI (List.map idc l11_9)) (List.length l11_9)) (
    (g_t_reader_number n (⟨(⟨l11_2, l11_3, l11_4, l11_5, l11_6, l11_7, l11_8⟩ : GAr), List.drop (Int.toNat 1) (List.take (Int.toNat (lenI (List.map idc l11_9))) l11_9), l11_10⟩ : GTfReader)).bind fun r19 =>
    recl11 (j17, r19.2.article.Kind, r19.2.article.Days, r19.2.article.From, r19.2.article.To, r19.2.article.Price, r19.1, r19.2.article.Free, r19.2.values, r19.2.good, !eqS r14 [112, 101, 114] && l11_11, !eqS r14 [102, 114, 101, 101] && l11_12, !eqS r14 [111, 110] && l11_13, !eqS r14 [98, 101, 116, 119, 101, 101, 110] && l11_14)) none)
   (cond (eqS r14 [102, 114, 101, 101] && l11_12)
    ((cond l11_1
     (some true)
     (some (eqS r14 [112, 101, 114]))).bind fun j21 =>
    cond (sliceB3 1 (lenI (List.map idc l11_9)) (lenI (List.map idc l11_9)) (List.length l11_9)) (
     (g_t_reader_number n (⟨(⟨l11_2, l11_3, l11_4, l11_5, l11_6, l11_7, l11_8⟩ : GAr), List.drop (Int.toNat 1) (List.take (Int.toNat (lenI (List.map idc l11_9))) l11_9), l11_10⟩ : GTfReader)).bind fun r23 =>
     recl11 (j21, r23.2.article.Kind, r23.2.article.Days, r23.2.article.From, r23.2.article.To, r23.2.article.Price, r23.2.article.Unit, r23.1, r23.2.values, r23.2.good, !eqS r14 [112, 101, 114] && l11_11, !eqS r14 [102, 114, 101, 101] && l11_12, !eqS r14 [111, 110] && l11_13, !eqS r14 [98, 101, 116, 119, 101, 101, 110] && l11_14)) none)
    (cond (eqS r14 [111, 110] && l11_13)
     ((cond l11_1
      (some true)
      (some (eqS r14 [112, 101, 114]))).bind fun j25 =>
     cond (sliceB3 1 (lenI (List.map idc l11_9)) (lenI (List.map idc l11_9)) (List.length l11_9)) (
      (g_t_reader_days n (⟨(⟨l11_2, l11_3, l11_4, l11_5, l11_6, l11_7, l11_8⟩ : GAr), List.drop (Int.toNat 1) (List.take (Int.toNat (lenI (List.map idc l11_9))) l11_9), l11_10⟩ : GTfReader)).bind fun r27 =>
      recl11 (j25, r27.2.article.Kind, r27.1, r27.2.article.From, r27.2.article.To, r27.2.article.Price, r27.2.article.Unit, r27.2.article.Free, r27.2.values, r27.2.good, !eqS r14 [112, 101, 114] && l11_11, !eqS r14 [102, 114, 101, 101] && l11_12, !eqS r14 [111, 110] && l11_13, !eqS r14 [98, 101, 116, 119, 101, 101, 110] && l11_14)) none)
     (cond (eqS r14 [98, 101, 116, 119, 101, 101, 110] && l11_14)
      ((cond l11_1
       (some true)
       (some (eqS r14 [112, 101, 114]))).bind fun j29 =>
      cond (sliceB3 1 (lenI (List.map idc l11_9)) (lenI (List.map idc l11_9)) (List.length l11_9)) (
       (g_t_reader_number n (⟨(⟨l11_2, l11_3, l11_4, l11_5, l11_6, l11_7, l11_8⟩ : GAr), List.drop (Int.toNat 1) (List.take (Int.toNat (lenI (List.map idc l11_9))) l11_9), l11_10⟩ : GTfReader)).bind fun r31 =>
       (g_t_reader_number n (⟨(⟨r31.2.article.Kind, r31.2.article.Days, r31.1, r31.2.article.To, r31.2.article.Price, r31.2.article.Unit, r31.2.article.Free⟩ : GAr), r31.2.values, r31.2.good⟩ : GTfReader)).bind fun r32 =>
       recl11 (j29, r32.2.article.Kind, r32.2.article.Days, r32.2.article.From, r32.1, r32.2.article.Price, r32.2.article.Unit, r32.2.article.Free, r32.2.values, r32.2.good, !eqS r14 [112, 101, 114] && l11_11, !eqS r14 [102, 114, 101, 101] && l11_12, !eqS r14 [111, 110] && l11_13, !eqS r14 [98, 101, 116, 119, 101, 101, 110] && l11_14)) none)
      (some ((⟨0, 0, 0, 0, 0, 0, 0⟩ : GAr), false))))))
  (g_t_read_j8 l11_1 l11_2 l11_3 l11_4 l11_5 l11_6 l11_7 l11_8 l11_9 l11_10)
def g_t_read (n : Nat) (a0n : GNode) : Option (GAr × Bool) :=
 (g_t_kindOf n a0n.Name).bind fun r1 =>
 (g_t_reader_number n (⟨(⟨r1, 7, 0, 1440, 0, 0, 0⟩ : GAr), a0n.Kids, true⟩ : GTfReader)).bind fun r2 =>
 ((g_t_isTime n r2.2.article.Kind).bind fun r4 =>
 cond r4
  (some true)
  (some false)).bind fun j3 =>
 ((g_t_isWhole n r2.2.article.Kind).bind fun r6 =>
 cond (!r6)
  (some true)
  (some false)).bind fun j5 =>
 (g_t_isTime n r2.2.article.Kind).bind fun r7 =>
 loopN (fun recl11 (l11_1, l11_2, l11_3, l11_4, l11_5, l11_6, l11_7, l11_8, l11_9, l11_10, l11_11, l11_12, l11_13, l11_14) => g_t_read_l11 n recl11 l11_1 l11_2 l11_3 l11_4 l11_5 l11_6 l11_7 l11_8 l11_9 l11_10 l11_11 l11_12 l11_13 l11_14) n (!r7, r2.2.article.Kind, r2.2.article.Days, r2.2.article.From, r2.2.article.To, r2.1, r2.2.article.Unit, r2.2.article.Free, r2.2.values, r2.2.good, j3, j3, j5, j5)
theorem g_t_read_ok (n : Nat) (a0n : GNode) : ∀ r, g_t_read n a0n = some r → PCall Try.prog 56 [ag (GNode.cs a0n)] (.ret (.tup [ag (GAr.cs r.1), B r.2])) := by
 refine pcall_sim (X := fun r : GAr × Bool => AEnd.ret (.tup [ag (GAr.cs r.1), B r.2])) Try.func56 rfl Try.ntmps56 rfl ?_
 unfold g_t_read
 refine sR tfm ⟨[1, 2], [1, 2], [], []⟩ ⟨[(1, .ptr 1 0), (2, .ptr 2 0)], [(1, .box 72 (bxc (GNode.cs a0n))), (2, .box 23 [I 0, I 0, I 0, I 0, I 0, I 0, I 0])]⟩ krf ?_
 refine sR tfm ⟨[1, 2, 4], [1, 2, 13], [], []⟩ ⟨[(1, .ptr 1 0), (2, .ptr 2 0), (4, .ptr 13 0)], [(1, .box 72 (bxc (GNode.cs a0n))), (2, .box 23 [I 0, I 0, I 0, I 0, I 0, I 0, I 0]), (13, .box 122 (bxc (GTfReader.cs ⟨(⟨0, 0, 0, 0, 0, 0, 0⟩ : GAr), a0n.Kids, true⟩)))]⟩ krf ?_
 refine sS ?_
 refine sG ?_
 refine xR 3 krf ?_
 refine xC [] krf (g_t_kindOf_ok n a0n.Name) krf krf (fun _ => by kernel_rfl) (fun r1 => ?_)
 refine xR 4 krf ?_
 refine xE ?_
 refine sN ⟨[2, 4], [2, 13], [], []⟩ ⟨[(2, .ptr 2 0), (4, .ptr 13 0)], [(2, .box 23 [I 0, I 0, I 0, I 0, I 0, I 0, I 0]), (13, .box 122 (bxc (GTfReader.cs ⟨(⟨r1, 7, 0, 1440, 0, 0, 0⟩ : GAr), a0n.Kids, true⟩)))]⟩ krf ?_
 refine sS ?_
 refine sG ?_
 refine xR 2 krf ?_
 refine xs_heap [(1000, 13)] [] [] krf (g_t_reader_number_ok n (⟨(⟨r1, 7, 0, 1440, 0, 0, 0⟩ : GAr), a0n.Kids, true⟩ : GTfReader)) krf krf krf (fun _ => by kernel_rfl) (fun _ => by kernel_rfl) (fun r2 => ?_)
 refine xR 4 krf ?_
 refine xE ?_
 refine sN ⟨[2, 4], [2, 13], [], []⟩ ⟨[(2, .ptr 2 0), (4, .ptr 13 0)], [(2, .box 23 [I 0, I 0, I 0, I 0, I 0, I 0, I 0]), (13, .box 122 (bxc (GTfReader.cs ⟨(⟨r2.2.article.Kind, r2.2.article.Days, r2.2.article.From, r2.2.article.To, r2.1, r2.2.article.Unit, r2.2.article.Free⟩ : GAr), r2.2.values, r2.2.good⟩)))]⟩ krf ?_
 refine sS ?_
 refine sG ?_
 refine xR 6 krf ?_
 refine xs_inline [(1000, .box 122 (bxc (GTfReader.cs ⟨(⟨r2.2.article.Kind, r2.2.article.Days, r2.2.article.From, r2.2.article.To, r2.1, r2.2.article.Unit, r2.2.article.Free⟩ : GAr), r2.2.values, r2.2.good⟩)))] [.ptr 1000 0, I r2.2.article.Kind] [(1000, 13), (2, 402), (6, 406)] [] [] krf Try.func81 rfl Try.ntmps81 rfl krf krf krf ?_
 refine sR tfm ⟨[1, 2], [2, 1000], [], []⟩ ⟨[(1, I r2.2.article.Kind), (2, .ptr 2 0)], [(2, .box 120 [.ptr 1000 0]), (1000, .box 122 (bxc (GTfReader.cs ⟨(⟨r2.2.article.Kind, r2.2.article.Days, r2.2.article.From, r2.2.article.To, r2.1, r2.2.article.Unit, r2.2.article.Free⟩ : GAr), r2.2.values, r2.2.good⟩)))]⟩ krf ?_
 refine sR tfm ⟨[1, 2, 5], [2, 6, 1000], [], []⟩ ⟨[(1, I r2.2.article.Kind), (2, .ptr 2 0), (5, .mv 6)], [(2, .box 120 [.ptr 1000 0]), (6, .mp []), (1000, .box 122 (bxc (GTfReader.cs ⟨(⟨r2.2.article.Kind, r2.2.article.Days, r2.2.article.From, r2.2.article.To, r2.1, r2.2.article.Unit, r2.2.article.Free⟩ : GAr), r2.2.values, r2.2.good⟩)))]⟩ krf ?_
 refine sim_bind (fun j3 => ⟨[(1, I r2.2.article.Kind), (2, .ptr 2 0), (5, .mv 6)], [(2, .box 120 [.ptr 1000 0]), (6, .mf [(j3, [112, 101, 114], .fn (.func 92) [] [.ptr 2 0]), (j3, [102, 114, 101, 101], .fn (.func 93) [] [.ptr 2 0])]), (1000, .box 122 (bxc (GTfReader.cs ⟨(⟨r2.2.article.Kind, r2.2.article.Days, r2.2.article.From, r2.2.article.To, r2.1, r2.2.article.Unit, r2.2.article.Free⟩ : GAr), r2.2.values, r2.2.good⟩)))]⟩ : Bool → St) ?_ ?_
 ·refine sS ?_
  refine sG ?_
  refine xR 1 krf ?_
  refine xC [] krf (g_t_isTime_ok n r2.2.article.Kind) krf krf (fun _ => by kernel_rfl) (fun r4 => ?_)
  refine xE ?_
  refine sN ⟨[1, 2, 5, 8], [2, 6, 1000], [], []⟩ ⟨[(1, I r2.2.article.Kind), (2, .ptr 2 0), (5, .mv 6), (8, B r4)], [(2, .box 120 [.ptr 1000 0]), (6, .mp []), (1000, .box 122 (bxc (GTfReader.cs ⟨(⟨r2.2.article.Kind, r2.2.article.Days, r2.2.article.From, r2.2.article.To, r2.1, r2.2.article.Unit, r2.2.article.Free⟩ : GAr), r2.2.values, r2.2.good⟩)))]⟩ krf ?_
  refine sC r4 krf ?_ ?_
  ·refine sR tfm ⟨[1, 2, 5], [2, 6, 1000], [], []⟩ ⟨[(1, I r2.2.article.Kind), (2, .ptr 2 0), (5, .mv 6)], [(2, .box 120 [.ptr 1000 0]), (6, .mf [(true, [112, 101, 114], .fn (.func 92) [] [.ptr 2 0])]), (1000, .box 122 (bxc (GTfReader.cs ⟨(⟨r2.2.article.Kind, r2.2.article.Days, r2.2.article.From, r2.2.article.To, r2.1, r2.2.article.Unit, r2.2.article.Free⟩ : GAr), r2.2.values, r2.2.good⟩)))]⟩ krf ?_
   refine sL tfm krf ?_
   exact nq_n true ⟨[1, 2, 5], [2, 6, 1000], [], []⟩ krf
  ·refine sK ?_
   exact nq_f false ⟨[1, 2, 5], [2, 6, 1000], [], []⟩ ⟨[(1, I r2.2.article.Kind), (2, .ptr 2 0), (5, .mv 6)], [(2, .box 120 [.ptr 1000 0]), (6, .mp []), (1000, .box 122 (bxc (GTfReader.cs ⟨(⟨r2.2.article.Kind, r2.2.article.Days, r2.2.article.From, r2.2.article.To, r2.1, r2.2.article.Unit, r2.2.article.Free⟩ : GAr), r2.2.values, r2.2.good⟩)))]⟩ krf (weak_mf 6 (es := []) [(false, [112, 101, 114], .fn (.func 92) [] [.ptr 2 0]), (false, [102, 114, 101, 101], .fn (.func 93) [] [.ptr 2 0])] krf krf) ⟨[1, 2, 5], [2, 6, 1000], [], []⟩ krf
 ·rintro j3
  refine sim_bind (fun j5 => ⟨[(5, .mv 6)], [(2, .box 120 [.ptr 1000 0]), (6, .mf [(j3, [112, 101, 114], .fn (.func 92) [] [.ptr 2 0]), (j3, [102, 114, 101, 101], .fn (.func 93) [] [.ptr 2 0]), (j5, [111, 110], .fn (.func 94) [] [.ptr 2 0]), (j5, [98, 101, 116, 119, 101, 101, 110], .fn (.func 96) [] [.ptr 2 0])]), (1000, .box 122 (bxc (GTfReader.cs ⟨(⟨r2.2.article.Kind, r2.2.article.Days, r2.2.article.From, r2.2.article.To, r2.1, r2.2.article.Unit, r2.2.article.Free⟩ : GAr), r2.2.values, r2.2.good⟩)))]⟩ : Bool → St) ?_ ?_
  ·refine sS ?_
   refine sG ?_
   refine xR 1 krf ?_
   refine xC [] krf (g_t_isWhole_ok n r2.2.article.Kind) krf krf (fun _ => by kernel_rfl) (fun r6 => ?_)
   refine xR 1 krf ?_
   refine xE ?_
   refine sN ⟨[2, 5, 15], [2, 6, 1000], [], []⟩ ⟨[(2, .ptr 2 0), (5, .mv 6), (15, B (!r6))], [(2, .box 120 [.ptr 1000 0]), (6, .mf [(j3, [112, 101, 114], .fn (.func 92) [] [.ptr 2 0]), (j3, [102, 114, 101, 101], .fn (.func 93) [] [.ptr 2 0])]), (1000, .box 122 (bxc (GTfReader.cs ⟨(⟨r2.2.article.Kind, r2.2.article.Days, r2.2.article.From, r2.2.article.To, r2.1, r2.2.article.Unit, r2.2.article.Free⟩ : GAr), r2.2.values, r2.2.good⟩)))]⟩ krf ?_
   refine sC (!r6) krf ?_ ?_
   ·refine sR tfm ⟨[2, 5], [2, 6, 1000], [], []⟩ ⟨[(2, .ptr 2 0), (5, .mv 6)], [(2, .box 120 [.ptr 1000 0]), (6, .mf [(j3, [112, 101, 114], .fn (.func 92) [] [.ptr 2 0]), (j3, [102, 114, 101, 101], .fn (.func 93) [] [.ptr 2 0]), (true, [111, 110], .fn (.func 94) [] [.ptr 2 0])]), (1000, .box 122 (bxc (GTfReader.cs ⟨(⟨r2.2.article.Kind, r2.2.article.Days, r2.2.article.From, r2.2.article.To, r2.1, r2.2.article.Unit, r2.2.article.Free⟩ : GAr), r2.2.values, r2.2.good⟩)))]⟩ krf ?_
    refine sL tfm krf ?_
    exact nq_n true ⟨[5], [2, 6, 1000], [], []⟩ krf
   ·refine sK ?_
    exact nq_f false ⟨[5], [2, 6, 1000], [], []⟩ ⟨[(5, .mv 6)], [(2, .box 120 [.ptr 1000 0]), (6, .mf [(j3, [112, 101, 114], .fn (.func 92) [] [.ptr 2 0]), (j3, [102, 114, 101, 101], .fn (.func 93) [] [.ptr 2 0])]), (1000, .box 122 (bxc (GTfReader.cs ⟨(⟨r2.2.article.Kind, r2.2.article.Days, r2.2.article.From, r2.2.article.To, r2.1, r2.2.article.Unit, r2.2.article.Free⟩ : GAr), r2.2.values, r2.2.good⟩)))]⟩ krf (weak_mf 6 (es := [(j3, [112, 101, 114], .fn (.func 92) [] [.ptr 2 0]), (j3, [102, 114, 101, 101], .fn (.func 93) [] [.ptr 2 0])]) [(j3, [112, 101, 114], .fn (.func 92) [] [.ptr 2 0]), (j3, [102, 114, 101, 101], .fn (.func 93) [] [.ptr 2 0]), (false, [111, 110], .fn (.func 94) [] [.ptr 2 0]), (false, [98, 101, 116, 119, 101, 101, 110], .fn (.func 96) [] [.ptr 2 0])] krf krf) ⟨[5], [2, 6, 1000], [], []⟩ krf
  ·rintro j5
   refine sR tfm ⟨[4], [2, 6, 1000], [], []⟩ ⟨[(4, .mv 6)], [(2, .box 120 [.ptr 1000 0]), (6, .mf [(j3, [112, 101, 114], .fn (.func 92) [] [.ptr 2 0]), (j3, [102, 114, 101, 101], .fn (.func 93) [] [.ptr 2 0]), (j5, [111, 110], .fn (.func 94) [] [.ptr 2 0]), (j5, [98, 101, 116, 119, 101, 101, 110], .fn (.func 96) [] [.ptr 2 0])]), (1000, .box 122 (bxc (GTfReader.cs ⟨(⟨r2.2.article.Kind, r2.2.article.Days, r2.2.article.From, r2.2.article.To, r2.1, r2.2.article.Unit, r2.2.article.Free⟩ : GAr), r2.2.values, r2.2.good⟩)))]⟩ krf ?_
   refine sT ?_
   refine iq_ret (.id) [2, 6, 1000] [] (.mv 6) krf krf ?_
   refine kr0 ?_
   refine xR 1 krf ?_
   refine xE ?_
   refine sN ⟨[2, 4, 5], [2, 13, 402, 406], [], []⟩ ⟨[(2, .ptr 2 0), (4, .ptr 13 0), (5, .mv 406)], [(2, .box 23 [I 0, I 0, I 0, I 0, I 0, I 0, I 0]), (13, .box 122 (bxc (GTfReader.cs ⟨(⟨r2.2.article.Kind, r2.2.article.Days, r2.2.article.From, r2.2.article.To, r2.1, r2.2.article.Unit, r2.2.article.Free⟩ : GAr), r2.2.values, r2.2.good⟩))), (402, .box 120 [.ptr 13 0]), (406, .mf [(j3, [112, 101, 114], .fn (.func 92) [] [.ptr 402 0]), (j3, [102, 114, 101, 101], .fn (.func 93) [] [.ptr 402 0]), (j5, [111, 110], .fn (.func 94) [] [.ptr 402 0]), (j5, [98, 101, 116, 119, 101, 101, 110], .fn (.func 96) [] [.ptr 402 0])])]⟩ krf ?_
   refine sS ?_
   refine sG ?_
   refine xR 5 krf ?_
   refine xC [] krf (g_t_isTime_ok n r2.2.article.Kind) krf krf (fun _ => by kernel_rfl) (fun r7 => ?_)
   refine xR 2 krf ?_
   refine xE ?_
   refine sN ⟨[2, 4, 5, 6], [2, 13, 402, 406], [], []⟩ ⟨[(2, .ptr 2 0), (4, .ptr 13 0), (5, .mv 406), (6, B (!r7))], [(2, .box 23 [I 0, I 0, I 0, I 0, I 0, I 0, I 0]), (13, .box 122 (bxc (GTfReader.cs ⟨(⟨r2.2.article.Kind, r2.2.article.Days, r2.2.article.From, r2.2.article.To, r2.1, r2.2.article.Unit, r2.2.article.Free⟩ : GAr), r2.2.values, r2.2.good⟩))), (402, .box 120 [.ptr 13 0]), (406, .mf [(j3, [112, 101, 114], .fn (.func 92) [] [.ptr 402 0]), (j3, [102, 114, 101, 101], .fn (.func 93) [] [.ptr 402 0]), (j5, [111, 110], .fn (.func 94) [] [.ptr 402 0]), (j5, [98, 101, 116, 119, 101, 101, 110], .fn (.func 96) [] [.ptr 402 0])])]⟩ krf ?_
   refine sim_cps (fun (j8_1, j8_2, j8_3, j8_4, j8_5, j8_6, j8_7, j8_8, j8_9, j8_10) => ⟨[(2, .ptr 2 0), (4, .ptr 13 0), (6, B j8_1)], [(2, .box 23 [I 0, I 0, I 0, I 0, I 0, I 0, I 0]), (13, .box 122 (bxc (GTfReader.cs ⟨(⟨j8_2, j8_3, j8_4, j8_5, j8_6, j8_7, j8_8⟩ : GAr), j8_9, j8_10⟩)))]⟩ : (Bool × Int × Int × Int × Int × Int × Int × Int × (List (List PV)) × Bool) → St) (fun (j8_1, j8_2, j8_3, j8_4, j8_5, j8_6, j8_7, j8_8, j8_9, j8_10) => g_t_read_j8 j8_1 j8_2 j8_3 j8_4 j8_5 j8_6 j8_7 j8_8 j8_9 j8_10) ?_ ?_
   ·rintro ⟨j8_1, j8_2, j8_3, j8_4, j8_5, j8_6, j8_7, j8_8, j8_9, j8_10⟩
    show SimE (g_t_read_j8 j8_1 j8_2 j8_3 j8_4 j8_5 j8_6 j8_7 j8_8 j8_9 j8_10) _ _ _ _ _ _
    unfold g_t_read_j8
    refine sS ?_
    refine sim_drw tfm rfl ?_
    refine xR 9 krf ?_
    refine xS j8_10 (fun h9 => ?_) (fun h9 => ?_)
    ·refine xO (want_tt krf h9) krf ?_
     refine xR 2 krf ?_
     refine xS j8_1 (fun h10 => ?_) (fun h10 => ?_)
     ·refine xO (want_tt krf h10) krf ?_
      refine xR 8 krf ?_
      refine xs_endD krf ?_
      refine sN ⟨[2, 3], [2], [], []⟩ ⟨[(2, .ptr 2 0), (3, B (!eqI j8_2 0))], [(2, .box 23 [I j8_2, I j8_3, I j8_4, I j8_5, I j8_6, I j8_7, I j8_8])]⟩ krf ?_
      refine sT ?_
      exact qR (.id) krf krf krf
     ·refine xN (want_tf krf h10) krf ?_
      refine xR 8 krf ?_
      refine xs_endD krf ?_
      refine sN ⟨[2, 3], [2], [], []⟩ ⟨[(2, .ptr 2 0), (3, B false)], [(2, .box 23 [I j8_2, I j8_3, I j8_4, I j8_5, I j8_6, I j8_7, I j8_8])]⟩ krf ?_
      refine sT ?_
      exact qR (.id) krf krf krf
    ·refine xN (want_tf krf h9) krf ?_
     refine xR 11 krf ?_
     refine xs_endD krf ?_
     refine sN ⟨[2, 3], [2], [], []⟩ ⟨[(2, .ptr 2 0), (3, B false)], [(2, .box 23 [I j8_2, I j8_3, I j8_4, I j8_5, I j8_6, I j8_7, I j8_8])]⟩ krf ?_
     refine sT ?_
     exact qR (.id) krf krf krf
   ·refine sB ?_
    refine sim_loop (fun (l11_1, l11_2, l11_3, l11_4, l11_5, l11_6, l11_7, l11_8, l11_9, l11_10, l11_11, l11_12, l11_13, l11_14) => ⟨[(2, .ptr 2 0), (4, .ptr 13 0), (5, .mv 406), (6, B l11_1)], [(2, .box 23 [I 0, I 0, I 0, I 0, I 0, I 0, I 0]), (13, .box 122 (bxc (GTfReader.cs ⟨(⟨l11_2, l11_3, l11_4, l11_5, l11_6, l11_7, l11_8⟩ : GAr), l11_9, l11_10⟩))), (402, .box 120 [.ptr 13 0]), (406, .mf [(l11_11, [112, 101, 114], .fn (.func 92) [] [.ptr 402 0]), (l11_12, [102, 114, 101, 101], .fn (.func 93) [] [.ptr 402 0]), (l11_13, [111, 110], .fn (.func 94) [] [.ptr 402 0]), (l11_14, [98, 101, 116, 119, 101, 101, 110], .fn (.func 96) [] [.ptr 402 0])])]⟩ : (Bool × Int × Int × Int × Int × Int × Int × Int × (List (List PV)) × Bool × Bool × Bool × Bool × Bool) → St) (weak_shr (K := ⟨[2, 4, 5, 6], [2, 13, 402, 406], [], []⟩) krf) ?_
    rintro recl11 ⟨l11_1, l11_2, l11_3, l11_4, l11_5, l11_6, l11_7, l11_8, l11_9, l11_10, l11_11, l11_12, l11_13, l11_14⟩
    show SimE (g_t_read_l11 n recl11 l11_1 l11_2 l11_3 l11_4 l11_5 l11_6 l11_7 l11_8 l11_9 l11_10 l11_11 l11_12 l11_13 l11_14) _ _ _ _ _ _
    unfold g_t_read_l11
    refine sS ?_
    refine sim_bind (fun j12 => ⟨[(2, .ptr 2 0), (4, .ptr 13 0), (5, .mv 406), (6, B l11_1), (52, B j12)], [(2, .box 23 [I 0, I 0, I 0, I 0, I 0, I 0, I 0]), (13, .box 122 (bxc (GTfReader.cs ⟨(⟨l11_2, l11_3, l11_4, l11_5, l11_6, l11_7, l11_8⟩ : GAr), l11_9, l11_10⟩))), (402, .box 120 [.ptr 13 0]), (406, .mf [(l11_11, [112, 101, 114], .fn (.func 92) [] [.ptr 402 0]), (l11_12, [102, 114, 101, 101], .fn (.func 93) [] [.ptr 402 0]), (l11_13, [111, 110], .fn (.func 94) [] [.ptr 402 0]), (l11_14, [98, 101, 116, 119, 101, 101, 110], .fn (.func 96) [] [.ptr 402 0])])]⟩ : Bool → St) ?_ ?_
    ·refine sG ?_
     refine xR 5 krf ?_
     refine xS l11_10 (fun h13 => ?_) (fun h13 => ?_)
     ·refine xO (want_tt krf h13) krf ?_
      refine xR 6 krf ?_
      refine xE ?_
      exact nq_n (ltI 0 (lenI (List.map idc l11_9))) ⟨[2, 4, 5, 6, 52], [2, 13, 402, 406], [], []⟩ krf
     ·refine xN (want_tf krf h13) krf ?_
      refine xR 6 krf ?_
      refine xE ?_
      exact nq_n false ⟨[2, 4, 5, 6, 52], [2, 13, 402, 406], [], []⟩ krf
    ·rintro j12
     refine sC j12 krf ?_ ?_
     ·refine sK ?_
      refine sN ⟨[2, 4, 5, 6], [2, 13, 402, 406], [], []⟩ ⟨[(2, .ptr 2 0), (4, .ptr 13 0), (5, .mv 406), (6, B l11_1)], [(2, .box 23 [I 0, I 0, I 0, I 0, I 0, I 0, I 0]), (13, .box 122 (bxc (GTfReader.cs ⟨(⟨l11_2, l11_3, l11_4, l11_5, l11_6, l11_7, l11_8⟩ : GAr), l11_9, l11_10⟩))), (402, .box 120 [.ptr 13 0]), (406, .mf [(l11_11, [112, 101, 114], .fn (.func 92) [] [.ptr 402 0]), (l11_12, [102, 114, 101, 101], .fn (.func 93) [] [.ptr 402 0]), (l11_13, [111, 110], .fn (.func 94) [] [.ptr 402 0]), (l11_14, [98, 101, 116, 119, 101, 101, 110], .fn (.func 96) [] [.ptr 402 0])])]⟩ krf ?_
      refine sB ?_
      refine sS ?_
      refine sG ?_
      refine xR 1 krf ?_
      refine xs_ro [.ro []] krf (g_t_reader_word_ok n (⟨(⟨l11_2, l11_3, l11_4, l11_5, l11_6, l11_7, l11_8⟩ : GAr), l11_9, l11_10⟩ : GTfReader)) krf krf (fun _ => by kernel_rfl) (fun r14 => ?_)
      refine xR 1 krf ?_
      refine xE ?_
      refine sN ⟨[2, 4, 5, 6, 7], [2, 13, 402, 406], [], []⟩ ⟨[(2, .ptr 2 0), (4, .ptr 13 0), (5, .mv 406), (6, B l11_1), (7, S r14)], [(2, .box 23 [I 0, I 0, I 0, I 0, I 0, I 0, I 0]), (13, .box 122 (bxc (GTfReader.cs ⟨(⟨l11_2, l11_3, l11_4, l11_5, l11_6, l11_7, l11_8⟩ : GAr), l11_9, l11_10⟩))), (402, .box 120 [.ptr 13 0]), (406, .mf [(l11_11, [112, 101, 114], .fn (.func 92) [] [.ptr 402 0]), (l11_12, [102, 114, 101, 101], .fn (.func 93) [] [.ptr 402 0]), (l11_13, [111, 110], .fn (.func 94) [] [.ptr 402 0]), (l11_14, [98, 101, 116, 119, 101, 101, 110], .fn (.func 96) [] [.ptr 402 0])])]⟩ krf ?_
      refine sS ?_
      refine sG ?_
      refine xR 2 krf ?_
      refine xS (eqS r14 [112, 101, 114] && l11_11) (fun h16 => ?_) (fun h16 => ?_)
      ·refine xs_u krf krf (aop_mfT (kt := 9) (e := 1) (b := 406) (w := r14) (ok := true) (es := [(l11_11, [112, 101, 114], .fn (.func 92) [] [.ptr 402 0]), (l11_12, [102, 114, 101, 101], .fn (.func 93) [] [.ptr 402 0]), (l11_13, [111, 110], .fn (.func 94) [] [.ptr 402 0]), (l11_14, [98, 101, 116, 119, 101, 101, 110], .fn (.func 96) [] [.ptr 402 0])]) (v := .fn (.func 92) [] [.ptr 402 0]) rfl krf krf krf krf krf (findF_t h16)) ?_
       refine xR 5 krf ?_
       refine xE ?_
       refine sN ⟨[2, 4, 5, 6, 7, 8, 9], [2, 13, 402, 406], [], []⟩ ⟨[(2, .ptr 2 0), (4, .ptr 13 0), (5, .mv 406), (6, B l11_1), (7, S r14), (8, .fn (.func 92) [] [.ptr 402 0]), (9, B true)], [(2, .box 23 [I 0, I 0, I 0, I 0, I 0, I 0, I 0]), (13, .box 122 (bxc (GTfReader.cs ⟨(⟨l11_2, l11_3, l11_4, l11_5, l11_6, l11_7, l11_8⟩ : GAr), l11_9, l11_10⟩))), (402, .box 120 [.ptr 13 0]), (406, .mf [(l11_11, [112, 101, 114], .fn (.func 92) [] [.ptr 402 0]), (l11_12, [102, 114, 101, 101], .fn (.func 93) [] [.ptr 402 0]), (l11_13, [111, 110], .fn (.func 94) [] [.ptr 402 0]), (l11_14, [98, 101, 116, 119, 101, 101, 110], .fn (.func 96) [] [.ptr 402 0])])]⟩ krf ?_
       refine sS ?_
       refine sR tfm ⟨[2, 4, 5, 6, 7, 8, 62], [2, 13, 402, 406], [], []⟩ ⟨[(2, .ptr 2 0), (4, .ptr 13 0), (5, .mv 406), (6, B l11_1), (7, S r14), (8, .fn (.func 92) [] [.ptr 402 0]), (62, B false)], [(2, .box 23 [I 0, I 0, I 0, I 0, I 0, I 0, I 0]), (13, .box 122 (bxc (GTfReader.cs ⟨(⟨l11_2, l11_3, l11_4, l11_5, l11_6, l11_7, l11_8⟩ : GAr), l11_9, l11_10⟩))), (402, .box 120 [.ptr 13 0]), (406, .mf [(l11_11, [112, 101, 114], .fn (.func 92) [] [.ptr 402 0]), (l11_12, [102, 114, 101, 101], .fn (.func 93) [] [.ptr 402 0]), (l11_13, [111, 110], .fn (.func 94) [] [.ptr 402 0]), (l11_14, [98, 101, 116, 119, 101, 101, 110], .fn (.func 96) [] [.ptr 402 0])])]⟩ krf ?_
       refine sim_condF krf ?_
       refine sK ?_
       refine sN ⟨[2, 4, 5, 6, 7, 8], [2, 13, 402, 406], [], []⟩ ⟨[(2, .ptr 2 0), (4, .ptr 13 0), (5, .mv 406), (6, B l11_1), (7, S r14), (8, .fn (.func 92) [] [.ptr 402 0])], [(2, .box 23 [I 0, I 0, I 0, I 0, I 0, I 0, I 0]), (13, .box 122 (bxc (GTfReader.cs ⟨(⟨l11_2, l11_3, l11_4, l11_5, l11_6, l11_7, l11_8⟩ : GAr), l11_9, l11_10⟩))), (402, .box 120 [.ptr 13 0]), (406, .mf [(l11_11, [112, 101, 114], .fn (.func 92) [] [.ptr 402 0]), (l11_12, [102, 114, 101, 101], .fn (.func 93) [] [.ptr 402 0]), (l11_13, [111, 110], .fn (.func 94) [] [.ptr 402 0]), (l11_14, [98, 101, 116, 119, 101, 101, 110], .fn (.func 96) [] [.ptr 402 0])])]⟩ krf ?_
       refine sR tfm ⟨[2, 4, 5, 6, 7, 8], [2, 13, 402, 406], [], []⟩ ⟨[(2, .ptr 2 0), (4, .ptr 13 0), (5, .mv 406), (6, B l11_1), (7, S r14), (8, .fn (.func 92) [] [.ptr 402 0])], [(2, .box 23 [I 0, I 0, I 0, I 0, I 0, I 0, I 0]), (13, .box 122 (bxc (GTfReader.cs ⟨(⟨l11_2, l11_3, l11_4, l11_5, l11_6, l11_7, l11_8⟩ : GAr), l11_9, l11_10⟩))), (402, .box 120 [.ptr 13 0]), (406, .mf [(!eqS r14 [112, 101, 114] && l11_11, [112, 101, 114], .fn (.func 92) [] [.ptr 402 0]), (!eqS r14 [102, 114, 101, 101] && l11_12, [102, 114, 101, 101], .fn (.func 93) [] [.ptr 402 0]), (!eqS r14 [111, 110] && l11_13, [111, 110], .fn (.func 94) [] [.ptr 402 0]), (!eqS r14 [98, 101, 116, 119, 101, 101, 110] && l11_14, [98, 101, 116, 119, 101, 101, 110], .fn (.func 96) [] [.ptr 402 0])])]⟩ krf ?_
       refine sim_bind (fun j17 => ⟨[(2, .ptr 2 0), (4, .ptr 13 0), (5, .mv 406), (6, B j17), (8, .fn (.func 92) [] [.ptr 402 0])], [(2, .box 23 [I 0, I 0, I 0, I 0, I 0, I 0, I 0]), (13, .box 122 (bxc (GTfReader.cs ⟨(⟨l11_2, l11_3, l11_4, l11_5, l11_6, l11_7, l11_8⟩ : GAr), l11_9, l11_10⟩))), (402, .box 120 [.ptr 13 0]), (406, .mf [(!eqS r14 [112, 101, 114] && l11_11, [112, 101, 114], .fn (.func 92) [] [.ptr 402 0]), (!eqS r14 [102, 114, 101, 101] && l11_12, [102, 114, 101, 101], .fn (.func 93) [] [.ptr 402 0]), (!eqS r14 [111, 110] && l11_13, [111, 110], .fn (.func 94) [] [.ptr 402 0]), (!eqS r14 [98, 101, 116, 119, 101, 101, 110] && l11_14, [98, 101, 116, 119, 101, 101, 110], .fn (.func 96) [] [.ptr 402 0])])]⟩ : Bool → St) ?_ ?_
       ·refine sG ?_
        refine xR 2 krf ?_
        refine xS l11_1 (fun h18 => ?_) (fun h18 => ?_)
        ·refine xN (want_ft krf h18) krf ?_
         refine xR 3 krf ?_
         refine xE ?_
         exact nq_n true ⟨[2, 4, 5, 6, 8], [2, 13, 402, 406], [], []⟩ krf
        ·refine xO (want_ff krf h18) krf ?_
         refine xR 3 krf ?_
         refine xE ?_
         exact nq_n (eqS r14 [112, 101, 114]) ⟨[2, 4, 5, 6, 8], [2, 13, 402, 406], [], []⟩ krf
       ·rintro j17
        refine sS ?_
        refine sim_drw tfm rfl ?_
        refine xR 15 krf ?_
        refine xF krf krf (aop_slice3 (e := 72) (S := 5) (enc := idc) (l := l11_9) (sv := .p (.sl 5 (List.map idc l11_9))) (a := 1) (b := lenI (List.map idc l11_9)) (c := lenI (List.map idc l11_9)) rfl krf krf krf krf krf krf krf) ?_
        refine xR 3 krf ?_
        refine xs_endD krf ?_
        refine sN ⟨[2, 4, 5, 6, 8], [2, 13, 402, 406], [], []⟩ ⟨[(2, .ptr 2 0), (4, .ptr 13 0), (5, .mv 406), (6, B j17), (8, .fn (.func 92) [] [.ptr 402 0])], [(2, .box 23 [I 0, I 0, I 0, I 0, I 0, I 0, I 0]), (13, .box 122 (bxc (GTfReader.cs ⟨(⟨l11_2, l11_3, l11_4, l11_5, l11_6, l11_7, l11_8⟩ : GAr), List.drop (Int.toNat 1) (List.take (Int.toNat (lenI (List.map idc l11_9))) l11_9), l11_10⟩))), (402, .box 120 [.ptr 13 0]), (406, .mf [(!eqS r14 [112, 101, 114] && l11_11, [112, 101, 114], .fn (.func 92) [] [.ptr 402 0]), (!eqS r14 [102, 114, 101, 101] && l11_12, [102, 114, 101, 101], .fn (.func 93) [] [.ptr 402 0]), (!eqS r14 [111, 110] && l11_13, [111, 110], .fn (.func 94) [] [.ptr 402 0]), (!eqS r14 [98, 101, 116, 119, 101, 101, 110] && l11_14, [98, 101, 116, 119, 101, 101, 110], .fn (.func 96) [] [.ptr 402 0])])]⟩ krf ?_
        refine sG ?_
        refine xR 1 krf ?_
        refine xs_inline [(1000, .box 122 (bxc (GTfReader.cs ⟨(⟨l11_2, l11_3, l11_4, l11_5, l11_6, l11_7, l11_8⟩ : GAr), List.drop (Int.toNat 1) (List.take (Int.toNat (lenI (List.map idc l11_9))) l11_9), l11_10⟩))), (1001, .box 120 [.ptr 1000 0])] [.ptr 1001 0] [(1000, 13), (1001, 402)] [] [] krf Try.func92 rfl Try.ntmps92 rfl krf krf krf ?_
        refine sim_hst [0, 1] [0] [(2, []), (3, []), (4, []), (5, []), (6, [])] tfm rfl krf krf ?_
        refine h_enter (f := 80) (args := [.ptr 1000 0]) (dst := some 3) krf krf ?_
        refine sc_heap [(1000, 1000)] [] [] (g_t_reader_number_ok n (⟨(⟨l11_2, l11_3, l11_4, l11_5, l11_6, l11_7, l11_8⟩ : GAr), List.drop (Int.toNat 1) (List.take (Int.toNat (lenI (List.map idc l11_9))) l11_9), l11_10⟩ : GTfReader)) krf krf krf (fun _ => by kernel_rfl) (fun _ => by kernel_rfl) (fun r19 => ?_)
        refine kh [0] krf (lates_cons (late_read (.ptr 1000 0) krf rfl) (lates_nil)) krf ?_
        refine h_op [] krf krf (lates_nil) ?_
        refine h_op [] krf krf (lates_nil) ?_
        refine h_op [] krf krf (lates_nil) ?_
        refine h_op [] krf krf (lates_nil) ?_
        refine h_end ?_
        refine iq_n (.id) [1000, 1001] [] (.tup []) krf krf ?_
        refine kr0 ?_
        refine xE ?_
        refine bq_n ?_
        exact kq_n (j17, r19.2.article.Kind, r19.2.article.Days, r19.2.article.From, r19.2.article.To, r19.2.article.Price, r19.1, r19.2.article.Free, r19.2.values, r19.2.good, !eqS r14 [112, 101, 114] && l11_11, !eqS r14 [102, 114, 101, 101] && l11_12, !eqS r14 [111, 110] && l11_13, !eqS r14 [98, 101, 116, 119, 101, 101, 110] && l11_14) ⟨[2, 4, 5, 6], [2, 13, 402, 406], [], []⟩ krf
      ·refine xS (eqS r14 [102, 114, 101, 101] && l11_12) (fun h20 => ?_) (fun h20 => ?_)
       ·refine xs_u krf krf (aop_mfT (kt := 9) (e := 1) (b := 406) (w := r14) (ok := true) (es := [(l11_11, [112, 101, 114], .fn (.func 92) [] [.ptr 402 0]), (l11_12, [102, 114, 101, 101], .fn (.func 93) [] [.ptr 402 0]), (l11_13, [111, 110], .fn (.func 94) [] [.ptr 402 0]), (l11_14, [98, 101, 116, 119, 101, 101, 110], .fn (.func 96) [] [.ptr 402 0])]) (v := .fn (.func 93) [] [.ptr 402 0]) rfl krf krf krf krf krf (findF_f h16 (findF_t h20))) ?_
        refine xR 5 krf ?_
        refine xE ?_
        refine sN ⟨[2, 4, 5, 6, 7, 8, 9], [2, 13, 402, 406], [], []⟩ ⟨[(2, .ptr 2 0), (4, .ptr 13 0), (5, .mv 406), (6, B l11_1), (7, S r14), (8, .fn (.func 93) [] [.ptr 402 0]), (9, B true)], [(2, .box 23 [I 0, I 0, I 0, I 0, I 0, I 0, I 0]), (13, .box 122 (bxc (GTfReader.cs ⟨(⟨l11_2, l11_3, l11_4, l11_5, l11_6, l11_7, l11_8⟩ : GAr), l11_9, l11_10⟩))), (402, .box 120 [.ptr 13 0]), (406, .mf [(l11_11, [112, 101, 114], .fn (.func 92) [] [.ptr 402 0]), (l11_12, [102, 114, 101, 101], .fn (.func 93) [] [.ptr 402 0]), (l11_13, [111, 110], .fn (.func 94) [] [.ptr 402 0]), (l11_14, [98, 101, 116, 119, 101, 101, 110], .fn (.func 96) [] [.ptr 402 0])])]⟩ krf ?_
        refine sS ?_
        refine sR tfm ⟨[2, 4, 5, 6, 7, 8, 62], [2, 13, 402, 406], [], []⟩ ⟨[(2, .ptr 2 0), (4, .ptr 13 0), (5, .mv 406), (6, B l11_1), (7, S r14), (8, .fn (.func 93) [] [.ptr 402 0]), (62, B false)], [(2, .box 23 [I 0, I 0, I 0, I 0, I 0, I 0, I 0]), (13, .box 122 (bxc (GTfReader.cs ⟨(⟨l11_2, l11_3, l11_4, l11_5, l11_6, l11_7, l11_8⟩ : GAr), l11_9, l11_10⟩))), (402, .box 120 [.ptr 13 0]), (406, .mf [(l11_11, [112, 101, 114], .fn (.func 92) [] [.ptr 402 0]), (l11_12, [102, 114, 101, 101], .fn (.func 93) [] [.ptr 402 0]), (l11_13, [111, 110], .fn (.func 94) [] [.ptr 402 0]), (l11_14, [98, 101, 116, 119, 101, 101, 110], .fn (.func 96) [] [.ptr 402 0])])]⟩ krf ?_
        refine sim_condF krf ?_
        refine sK ?_
        refine sN ⟨[2, 4, 5, 6, 7, 8], [2, 13, 402, 406], [], []⟩ ⟨[(2, .ptr 2 0), (4, .ptr 13 0), (5, .mv 406), (6, B l11_1), (7, S r14), (8, .fn (.func 93) [] [.ptr 402 0])], [(2, .box 23 [I 0, I 0, I 0, I 0, I 0, I 0, I 0]), (13, .box 122 (bxc (GTfReader.cs ⟨(⟨l11_2, l11_3, l11_4, l11_5, l11_6, l11_7, l11_8⟩ : GAr), l11_9, l11_10⟩))), (402, .box 120 [.ptr 13 0]), (406, .mf [(l11_11, [112, 101, 114], .fn (.func 92) [] [.ptr 402 0]), (l11_12, [102, 114, 101, 101], .fn (.func 93) [] [.ptr 402 0]), (l11_13, [111, 110], .fn (.func 94) [] [.ptr 402 0]), (l11_14, [98, 101, 116, 119, 101, 101, 110], .fn (.func 96) [] [.ptr 402 0])])]⟩ krf ?_
        refine sR tfm ⟨[2, 4, 5, 6, 7, 8], [2, 13, 402, 406], [], []⟩ ⟨[(2, .ptr 2 0), (4, .ptr 13 0), (5, .mv 406), (6, B l11_1), (7, S r14), (8, .fn (.func 93) [] [.ptr 402 0])], [(2, .box 23 [I 0, I 0, I 0, I 0, I 0, I 0, I 0]), (13, .box 122 (bxc (GTfReader.cs ⟨(⟨l11_2, l11_3, l11_4, l11_5, l11_6, l11_7, l11_8⟩ : GAr), l11_9, l11_10⟩))), (402, .box 120 [.ptr 13 0]), (406, .mf [(!eqS r14 [112, 101, 114] && l11_11, [112, 101, 114], .fn (.func 92) [] [.ptr 402 0]), (!eqS r14 [102, 114, 101, 101] && l11_12, [102, 114, 101, 101], .fn (.func 93) [] [.ptr 402 0]), (!eqS r14 [111, 110] && l11_13, [111, 110], .fn (.func 94) [] [.ptr 402 0]), (!eqS r14 [98, 101, 116, 119, 101, 101, 110] && l11_14, [98, 101, 116, 119, 101, 101, 110], .fn (.func 96) [] [.ptr 402 0])])]⟩ krf ?_
        refine sim_bind (fun j21 => ⟨[(2, .ptr 2 0), (4, .ptr 13 0), (5, .mv 406), (6, B j21), (8, .fn (.func 93) [] [.ptr 402 0])], [(2, .box 23 [I 0, I 0, I 0, I 0, I 0, I 0, I 0]), (13, .box 122 (bxc (GTfReader.cs ⟨(⟨l11_2, l11_3, l11_4, l11_5, l11_6, l11_7, l11_8⟩ : GAr), l11_9, l11_10⟩))), (402, .box 120 [.ptr 13 0]), (406, .mf [(!eqS r14 [112, 101, 114] && l11_11, [112, 101, 114], .fn (.func 92) [] [.ptr 402 0]), (!eqS r14 [102, 114, 101, 101] && l11_12, [102, 114, 101, 101], .fn (.func 93) [] [.ptr 402 0]), (!eqS r14 [111, 110] && l11_13, [111, 110], .fn (.func 94) [] [.ptr 402 0]), (!eqS r14 [98, 101, 116, 119, 101, 101, 110] && l11_14, [98, 101, 116, 119, 101, 101, 110], .fn (.func 96) [] [.ptr 402 0])])]⟩ : Bool → St) ?_ ?_
        ·refine sG ?_
         refine xR 2 krf ?_
         refine xS l11_1 (fun h22 => ?_) (fun h22 => ?_)
         ·refine xN (want_ft krf h22) krf ?_
          refine xR 3 krf ?_
          refine xE ?_
          exact nq_n true ⟨[2, 4, 5, 6, 8], [2, 13, 402, 406], [], []⟩ krf
         ·refine xO (want_ff krf h22) krf ?_
          refine xR 3 krf ?_
          refine xE ?_
          exact nq_n (eqS r14 [112, 101, 114]) ⟨[2, 4, 5, 6, 8], [2, 13, 402, 406], [], []⟩ krf
        ·rintro j21
         refine sS ?_
         refine sim_drw tfm rfl ?_
         refine xR 15 krf ?_
         refine xF krf krf (aop_slice3 (e := 72) (S := 5) (enc := idc) (l := l11_9) (sv := .p (.sl 5 (List.map idc l11_9))) (a := 1) (b := lenI (List.map idc l11_9)) (c := lenI (List.map idc l11_9)) rfl krf krf krf krf krf krf krf) ?_
         refine xR 3 krf ?_
         refine xs_endD krf ?_
         refine sN ⟨[2, 4, 5, 6, 8], [2, 13, 402, 406], [], []⟩ ⟨[(2, .ptr 2 0), (4, .ptr 13 0), (5, .mv 406), (6, B j21), (8, .fn (.func 93) [] [.ptr 402 0])], [(2, .box 23 [I 0, I 0, I 0, I 0, I 0, I 0, I 0]), (13, .box 122 (bxc (GTfReader.cs ⟨(⟨l11_2, l11_3, l11_4, l11_5, l11_6, l11_7, l11_8⟩ : GAr), List.drop (Int.toNat 1) (List.take (Int.toNat (lenI (List.map idc l11_9))) l11_9), l11_10⟩))), (402, .box 120 [.ptr 13 0]), (406, .mf [(!eqS r14 [112, 101, 114] && l11_11, [112, 101, 114], .fn (.func 92) [] [.ptr 402 0]), (!eqS r14 [102, 114, 101, 101] && l11_12, [102, 114, 101, 101], .fn (.func 93) [] [.ptr 402 0]), (!eqS r14 [111, 110] && l11_13, [111, 110], .fn (.func 94) [] [.ptr 402 0]), (!eqS r14 [98, 101, 116, 119, 101, 101, 110] && l11_14, [98, 101, 116, 119, 101, 101, 110], .fn (.func 96) [] [.ptr 402 0])])]⟩ krf ?_
         refine sG ?_
         refine xR 1 krf ?_
         refine xs_inline [(1000, .box 122 (bxc (GTfReader.cs ⟨(⟨l11_2, l11_3, l11_4, l11_5, l11_6, l11_7, l11_8⟩ : GAr), List.drop (Int.toNat 1) (List.take (Int.toNat (lenI (List.map idc l11_9))) l11_9), l11_10⟩))), (1001, .box 120 [.ptr 1000 0])] [.ptr 1001 0] [(1000, 13), (1001, 402)] [] [] krf Try.func93 rfl Try.ntmps93 rfl krf krf krf ?_
         refine sim_hst [0, 1] [0] [(2, []), (3, []), (4, []), (5, []), (6, [])] tfm rfl krf krf ?_
         refine h_enter (f := 80) (args := [.ptr 1000 0]) (dst := some 3) krf krf ?_
         refine sc_heap [(1000, 1000)] [] [] (g_t_reader_number_ok n (⟨(⟨l11_2, l11_3, l11_4, l11_5, l11_6, l11_7, l11_8⟩ : GAr), List.drop (Int.toNat 1) (List.take (Int.toNat (lenI (List.map idc l11_9))) l11_9), l11_10⟩ : GTfReader)) krf krf krf (fun _ => by kernel_rfl) (fun _ => by kernel_rfl) (fun r23 => ?_)
         refine kh [0] krf (lates_cons (late_read (.ptr 1000 0) krf rfl) (lates_nil)) krf ?_
         refine h_op [] krf krf (lates_nil) ?_
         refine h_op [] krf krf (lates_nil) ?_
         refine h_op [] krf krf (lates_nil) ?_
         refine h_op [] krf krf (lates_nil) ?_
         refine h_end ?_
         refine iq_n (.id) [1000, 1001] [] (.tup []) krf krf ?_
         refine kr0 ?_
         refine xE ?_
         refine bq_n ?_
         exact kq_n (j21, r23.2.article.Kind, r23.2.article.Days, r23.2.article.From, r23.2.article.To, r23.2.article.Price, r23.2.article.Unit, r23.1, r23.2.values, r23.2.good, !eqS r14 [112, 101, 114] && l11_11, !eqS r14 [102, 114, 101, 101] && l11_12, !eqS r14 [111, 110] && l11_13, !eqS r14 [98, 101, 116, 119, 101, 101, 110] && l11_14) ⟨[2, 4, 5, 6], [2, 13, 402, 406], [], []⟩ krf
       ·refine xS (eqS r14 [111, 110] && l11_13) (fun h24 => ?_) (fun h24 => ?_)
        ·refine xs_u krf krf (aop_mfT (kt := 9) (e := 1) (b := 406) (w := r14) (ok := true) (es := [(l11_11, [112, 101, 114], .fn (.func 92) [] [.ptr 402 0]), (l11_12, [102, 114, 101, 101], .fn (.func 93) [] [.ptr 402 0]), (l11_13, [111, 110], .fn (.func 94) [] [.ptr 402 0]), (l11_14, [98, 101, 116, 119, 101, 101, 110], .fn (.func 96) [] [.ptr 402 0])]) (v := .fn (.func 94) [] [.ptr 402 0]) rfl krf krf krf krf krf (findF_f h16 (findF_f h20 (findF_t h24)))) ?_
         refine xR 5 krf ?_
         refine xE ?_
         refine sN ⟨[2, 4, 5, 6, 7, 8, 9], [2, 13, 402, 406], [], []⟩ ⟨[(2, .ptr 2 0), (4, .ptr 13 0), (5, .mv 406), (6, B l11_1), (7, S r14), (8, .fn (.func 94) [] [.ptr 402 0]), (9, B true)], [(2, .box 23 [I 0, I 0, I 0, I 0, I 0, I 0, I 0]), (13, .box 122 (bxc (GTfReader.cs ⟨(⟨l11_2, l11_3, l11_4, l11_5, l11_6, l11_7, l11_8⟩ : GAr), l11_9, l11_10⟩))), (402, .box 120 [.ptr 13 0]), (406, .mf [(l11_11, [112, 101, 114], .fn (.func 92) [] [.ptr 402 0]), (l11_12, [102, 114, 101, 101], .fn (.func 93) [] [.ptr 402 0]), (l11_13, [111, 110], .fn (.func 94) [] [.ptr 402 0]), (l11_14, [98, 101, 116, 119, 101, 101, 110], .fn (.func 96) [] [.ptr 402 0])])]⟩ krf ?_
         refine sS ?_
         refine sR tfm ⟨[2, 4, 5, 6, 7, 8, 62], [2, 13, 402, 406], [], []⟩ ⟨[(2, .ptr 2 0), (4, .ptr 13 0), (5, .mv 406), (6, B l11_1), (7, S r14), (8, .fn (.func 94) [] [.ptr 402 0]), (62, B false)], [(2, .box 23 [I 0, I 0, I 0, I 0, I 0, I 0, I 0]), (13, .box 122 (bxc (GTfReader.cs ⟨(⟨l11_2, l11_3, l11_4, l11_5, l11_6, l11_7, l11_8⟩ : GAr), l11_9, l11_10⟩))), (402, .box 120 [.ptr 13 0]), (406, .mf [(l11_11, [112, 101, 114], .fn (.func 92) [] [.ptr 402 0]), (l11_12, [102, 114, 101, 101], .fn (.func 93) [] [.ptr 402 0]), (l11_13, [111, 110], .fn (.func 94) [] [.ptr 402 0]), (l11_14, [98, 101, 116, 119, 101, 101, 110], .fn (.func 96) [] [.ptr 402 0])])]⟩ krf ?_
         refine sim_condF krf ?_
         refine sK ?_
         refine sN ⟨[2, 4, 5, 6, 7, 8], [2, 13, 402, 406], [], []⟩ ⟨[(2, .ptr 2 0), (4, .ptr 13 0), (5, .mv 406), (6, B l11_1), (7, S r14), (8, .fn (.func 94) [] [.ptr 402 0])], [(2, .box 23 [I 0, I 0, I 0, I 0, I 0, I 0, I 0]), (13, .box 122 (bxc (GTfReader.cs ⟨(⟨l11_2, l11_3, l11_4, l11_5, l11_6, l11_7, l11_8⟩ : GAr), l11_9, l11_10⟩))), (402, .box 120 [.ptr 13 0]), (406, .mf [(l11_11, [112, 101, 114], .fn (.func 92) [] [.ptr 402 0]), (l11_12, [102, 114, 101, 101], .fn (.func 93) [] [.ptr 402 0]), (l11_13, [111, 110], .fn (.func 94) [] [.ptr 402 0]), (l11_14, [98, 101, 116, 119, 101, 101, 110], .fn (.func 96) [] [.ptr 402 0])])]⟩ krf ?_
         refine sR tfm ⟨[2, 4, 5, 6, 7, 8], [2, 13, 402, 406], [], []⟩ ⟨[(2, .ptr 2 0), (4, .ptr 13 0), (5, .mv 406), (6, B l11_1), (7, S r14), (8, .fn (.func 94) [] [.ptr 402 0])], [(2, .box 23 [I 0, I 0, I 0, I 0, I 0, I 0, I 0]), (13, .box 122 (bxc (GTfReader.cs ⟨(⟨l11_2, l11_3, l11_4, l11_5, l11_6, l11_7, l11_8⟩ : GAr), l11_9, l11_10⟩))), (402, .box 120 [.ptr 13 0]), (406, .mf [(!eqS r14 [112, 101, 114] && l11_11, [112, 101, 114], .fn (.func 92) [] [.ptr 402 0]), (!eqS r14 [102, 114, 101, 101] && l11_12, [102, 114, 101, 101], .fn (.func 93) [] [.ptr 402 0]), (!eqS r14 [111, 110] && l11_13, [111, 110], .fn (.func 94) [] [.ptr 402 0]), (!eqS r14 [98, 101, 116, 119, 101, 101, 110] && l11_14, [98, 101, 116, 119, 101, 101, 110], .fn (.func 96) [] [.ptr 402 0])])]⟩ krf ?_
         refine sim_bind (fun j25 => ⟨[(2, .ptr 2 0), (4, .ptr 13 0), (5, .mv 406), (6, B j25), (8, .fn (.func 94) [] [.ptr 402 0])], [(2, .box 23 [I 0, I 0, I 0, I 0, I 0, I 0, I 0]), (13, .box 122 (bxc (GTfReader.cs ⟨(⟨l11_2, l11_3, l11_4, l11_5, l11_6, l11_7, l11_8⟩ : GAr), l11_9, l11_10⟩))), (402, .box 120 [.ptr 13 0]), (406, .mf [(!eqS r14 [112, 101, 114] && l11_11, [112, 101, 114], .fn (.func 92) [] [.ptr 402 0]), (!eqS r14 [102, 114, 101, 101] && l11_12, [102, 114, 101, 101], .fn (.func 93) [] [.ptr 402 0]), (!eqS r14 [111, 110] && l11_13, [111, 110], .fn (.func 94) [] [.ptr 402 0]), (!eqS r14 [98, 101, 116, 119, 101, 101, 110] && l11_14, [98, 101, 116, 119, 101, 101, 110], .fn (.func 96) [] [.ptr 402 0])])]⟩ : Bool → St) ?_ ?_
         ·refine sG ?_
          refine xR 2 krf ?_
          refine xS l11_1 (fun h26 => ?_) (fun h26 => ?_)
          ·refine xN (want_ft krf h26) krf ?_
           refine xR 3 krf ?_
           refine xE ?_
           exact nq_n true ⟨[2, 4, 5, 6, 8], [2, 13, 402, 406], [], []⟩ krf
          ·refine xO (want_ff krf h26) krf ?_
           refine xR 3 krf ?_
           refine xE ?_
           exact nq_n (eqS r14 [112, 101, 114]) ⟨[2, 4, 5, 6, 8], [2, 13, 402, 406], [], []⟩ krf
         ·rintro j25
          refine sS ?_
          refine sim_drw tfm rfl ?_
          refine xR 15 krf ?_
          refine xF krf krf (aop_slice3 (e := 72) (S := 5) (enc := idc) (l := l11_9) (sv := .p (.sl 5 (List.map idc l11_9))) (a := 1) (b := lenI (List.map idc l11_9)) (c := lenI (List.map idc l11_9)) rfl krf krf krf krf krf krf krf) ?_
          refine xR 3 krf ?_
          refine xs_endD krf ?_
          refine sN ⟨[2, 4, 5, 6, 8], [2, 13, 402, 406], [], []⟩ ⟨[(2, .ptr 2 0), (4, .ptr 13 0), (5, .mv 406), (6, B j25), (8, .fn (.func 94) [] [.ptr 402 0])], [(2, .box 23 [I 0, I 0, I 0, I 0, I 0, I 0, I 0]), (13, .box 122 (bxc (GTfReader.cs ⟨(⟨l11_2, l11_3, l11_4, l11_5, l11_6, l11_7, l11_8⟩ : GAr), List.drop (Int.toNat 1) (List.take (Int.toNat (lenI (List.map idc l11_9))) l11_9), l11_10⟩))), (402, .box 120 [.ptr 13 0]), (406, .mf [(!eqS r14 [112, 101, 114] && l11_11, [112, 101, 114], .fn (.func 92) [] [.ptr 402 0]), (!eqS r14 [102, 114, 101, 101] && l11_12, [102, 114, 101, 101], .fn (.func 93) [] [.ptr 402 0]), (!eqS r14 [111, 110] && l11_13, [111, 110], .fn (.func 94) [] [.ptr 402 0]), (!eqS r14 [98, 101, 116, 119, 101, 101, 110] && l11_14, [98, 101, 116, 119, 101, 101, 110], .fn (.func 96) [] [.ptr 402 0])])]⟩ krf ?_
          refine sG ?_
          refine xR 1 krf ?_
          refine xs_inline [(1000, .box 122 (bxc (GTfReader.cs ⟨(⟨l11_2, l11_3, l11_4, l11_5, l11_6, l11_7, l11_8⟩ : GAr), List.drop (Int.toNat 1) (List.take (Int.toNat (lenI (List.map idc l11_9))) l11_9), l11_10⟩))), (1001, .box 120 [.ptr 1000 0])] [.ptr 1001 0] [(1000, 13), (1001, 402)] [] [] krf Try.func94 rfl Try.ntmps94 rfl krf krf krf ?_
          refine sim_hst [0, 1] [0] [(2, []), (3, []), (4, []), (5, []), (6, [])] tfm rfl krf krf ?_
          refine h_enter (f := 95) (args := [.ptr 1000 0]) (dst := some 3) krf krf ?_
          refine sc_heap [(1000, 1000)] [] [] (g_t_reader_days_ok n (⟨(⟨l11_2, l11_3, l11_4, l11_5, l11_6, l11_7, l11_8⟩ : GAr), List.drop (Int.toNat 1) (List.take (Int.toNat (lenI (List.map idc l11_9))) l11_9), l11_10⟩ : GTfReader)) krf krf krf (fun _ => by kernel_rfl) (fun _ => by kernel_rfl) (fun r27 => ?_)
          refine kh [0] krf (lates_cons (late_read (.ptr 1000 0) krf rfl) (lates_nil)) krf ?_
          refine h_op [] krf krf (lates_nil) ?_
          refine h_op [] krf krf (lates_nil) ?_
          refine h_op [] krf krf (lates_nil) ?_
          refine h_op [] krf krf (lates_nil) ?_
          refine h_end ?_
          refine iq_n (.id) [1000, 1001] [] (.tup []) krf krf ?_
          refine kr0 ?_
          refine xE ?_
          refine bq_n ?_
          exact kq_n (j25, r27.2.article.Kind, r27.1, r27.2.article.From, r27.2.article.To, r27.2.article.Price, r27.2.article.Unit, r27.2.article.Free, r27.2.values, r27.2.good, !eqS r14 [112, 101, 114] && l11_11, !eqS r14 [102, 114, 101, 101] && l11_12, !eqS r14 [111, 110] && l11_13, !eqS r14 [98, 101, 116, 119, 101, 101, 110] && l11_14) ⟨[2, 4, 5, 6], [2, 13, 402, 406], [], []⟩ krf
        ·refine xS (eqS r14 [98, 101, 116, 119, 101, 101, 110] && l11_14) (fun h28 => ?_) (fun h28 => ?_)
         ·refine xs_u krf krf (aop_mfT (kt := 9) (e := 1) (b := 406) (w := r14) (ok := true) (es := [(l11_11, [112, 101, 114], .fn (.func 92) [] [.ptr 402 0]), (l11_12, [102, 114, 101, 101], .fn (.func 93) [] [.ptr 402 0]), (l11_13, [111, 110], .fn (.func 94) [] [.ptr 402 0]), (l11_14, [98, 101, 116, 119, 101, 101, 110], .fn (.func 96) [] [.ptr 402 0])]) (v := .fn (.func 96) [] [.ptr 402 0]) rfl krf krf krf krf krf (findF_f h16 (findF_f h20 (findF_f h24 (findF_t h28))))) ?_
          refine xR 5 krf ?_
          refine xE ?_
          refine sN ⟨[2, 4, 5, 6, 7, 8, 9], [2, 13, 402, 406], [], []⟩ ⟨[(2, .ptr 2 0), (4, .ptr 13 0), (5, .mv 406), (6, B l11_1), (7, S r14), (8, .fn (.func 96) [] [.ptr 402 0]), (9, B true)], [(2, .box 23 [I 0, I 0, I 0, I 0, I 0, I 0, I 0]), (13, .box 122 (bxc (GTfReader.cs ⟨(⟨l11_2, l11_3, l11_4, l11_5, l11_6, l11_7, l11_8⟩ : GAr), l11_9, l11_10⟩))), (402, .box 120 [.ptr 13 0]), (406, .mf [(l11_11, [112, 101, 114], .fn (.func 92) [] [.ptr 402 0]), (l11_12, [102, 114, 101, 101], .fn (.func 93) [] [.ptr 402 0]), (l11_13, [111, 110], .fn (.func 94) [] [.ptr 402 0]), (l11_14, [98, 101, 116, 119, 101, 101, 110], .fn (.func 96) [] [.ptr 402 0])])]⟩ krf ?_
          refine sS ?_
          refine sR tfm ⟨[2, 4, 5, 6, 7, 8, 62], [2, 13, 402, 406], [], []⟩ ⟨[(2, .ptr 2 0), (4, .ptr 13 0), (5, .mv 406), (6, B l11_1), (7, S r14), (8, .fn (.func 96) [] [.ptr 402 0]), (62, B false)], [(2, .box 23 [I 0, I 0, I 0, I 0, I 0, I 0, I 0]), (13, .box 122 (bxc (GTfReader.cs ⟨(⟨l11_2, l11_3, l11_4, l11_5, l11_6, l11_7, l11_8⟩ : GAr), l11_9, l11_10⟩))), (402, .box 120 [.ptr 13 0]), (406, .mf [(l11_11, [112, 101, 114], .fn (.func 92) [] [.ptr 402 0]), (l11_12, [102, 114, 101, 101], .fn (.func 93) [] [.ptr 402 0]), (l11_13, [111, 110], .fn (.func 94) [] [.ptr 402 0]), (l11_14, [98, 101, 116, 119, 101, 101, 110], .fn (.func 96) [] [.ptr 402 0])])]⟩ krf ?_
          refine sim_condF krf ?_
          refine sK ?_
          refine sN ⟨[2, 4, 5, 6, 7, 8], [2, 13, 402, 406], [], []⟩ ⟨[(2, .ptr 2 0), (4, .ptr 13 0), (5, .mv 406), (6, B l11_1), (7, S r14), (8, .fn (.func 96) [] [.ptr 402 0])], [(2, .box 23 [I 0, I 0, I 0, I 0, I 0, I 0, I 0]), (13, .box 122 (bxc (GTfReader.cs ⟨(⟨l11_2, l11_3, l11_4, l11_5, l11_6, l11_7, l11_8⟩ : GAr), l11_9, l11_10⟩))), (402, .box 120 [.ptr 13 0]), (406, .mf [(l11_11, [112, 101, 114], .fn (.func 92) [] [.ptr 402 0]), (l11_12, [102, 114, 101, 101], .fn (.func 93) [] [.ptr 402 0]), (l11_13, [111, 110], .fn (.func 94) [] [.ptr 402 0]), (l11_14, [98, 101, 116, 119, 101, 101, 110], .fn (.func 96) [] [.ptr 402 0])])]⟩ krf ?_
          refine sR tfm ⟨[2, 4, 5, 6, 7, 8], [2, 13, 402, 406], [], []⟩ ⟨[(2, .ptr 2 0), (4, .ptr 13 0), (5, .mv 406), (6, B l11_1), (7, S r14), (8, .fn (.func 96) [] [.ptr 402 0])], [(2, .box 23 [I 0, I 0, I 0, I 0, I 0, I 0, I 0]), (13, .box 122 (bxc (GTfReader.cs ⟨(⟨l11_2, l11_3, l11_4, l11_5, l11_6, l11_7, l11_8⟩ : GAr), l11_9, l11_10⟩))), (402, .box 120 [.ptr 13 0]), (406, .mf [(!eqS r14 [112, 101, 114] && l11_11, [112, 101, 114], .fn (.func 92) [] [.ptr 402 0]), (!eqS r14 [102, 114, 101, 101] && l11_12, [102, 114, 101, 101], .fn (.func 93) [] [.ptr 402 0]), (!eqS r14 [111, 110] && l11_13, [111, 110], .fn (.func 94) [] [.ptr 402 0]), (!eqS r14 [98, 101, 116, 119, 101, 101, 110] && l11_14, [98, 101, 116, 119, 101, 101, 110], .fn (.func 96) [] [.ptr 402 0])])]⟩ krf ?_
          refine sim_bind (fun j29 => ⟨[(2, .ptr 2 0), (4, .ptr 13 0), (5, .mv 406), (6, B j29), (8, .fn (.func 96) [] [.ptr 402 0])], [(2, .box 23 [I 0, I 0, I 0, I 0, I 0, I 0, I 0]), (13, .box 122 (bxc (GTfReader.cs ⟨(⟨l11_2, l11_3, l11_4, l11_5, l11_6, l11_7, l11_8⟩ : GAr), l11_9, l11_10⟩))), (402, .box 120 [.ptr 13 0]), (406, .mf [(!eqS r14 [112, 101, 114] && l11_11, [112, 101, 114], .fn (.func 92) [] [.ptr 402 0]), (!eqS r14 [102, 114, 101, 101] && l11_12, [102, 114, 101, 101], .fn (.func 93) [] [.ptr 402 0]), (!eqS r14 [111, 110] && l11_13, [111, 110], .fn (.func 94) [] [.ptr 402 0]), (!eqS r14 [98, 101, 116, 119, 101, 101, 110] && l11_14, [98, 101, 116, 119, 101, 101, 110], .fn (.func 96) [] [.ptr 402 0])])]⟩ : Bool → St) ?_ ?_
          ·refine sG ?_
           refine xR 2 krf ?_
           refine xS l11_1 (fun h30 => ?_) (fun h30 => ?_)
           ·refine xN (want_ft krf h30) krf ?_
            refine xR 3 krf ?_
            refine xE ?_
            exact nq_n true ⟨[2, 4, 5, 6, 8], [2, 13, 402, 406], [], []⟩ krf
           ·refine xO (want_ff krf h30) krf ?_
            refine xR 3 krf ?_
            refine xE ?_
            exact nq_n (eqS r14 [112, 101, 114]) ⟨[2, 4, 5, 6, 8], [2, 13, 402, 406], [], []⟩ krf
          ·rintro j29
           refine sS ?_
           refine sim_drw tfm rfl ?_
           refine xR 15 krf ?_
           refine xF krf krf (aop_slice3 (e := 72) (S := 5) (enc := idc) (l := l11_9) (sv := .p (.sl 5 (List.map idc l11_9))) (a := 1) (b := lenI (List.map idc l11_9)) (c := lenI (List.map idc l11_9)) rfl krf krf krf krf krf krf krf) ?_
           refine xR 3 krf ?_
           refine xs_endD krf ?_
           refine sN ⟨[2, 4, 5, 6, 8], [2, 13, 402, 406], [], []⟩ ⟨[(2, .ptr 2 0), (4, .ptr 13 0), (5, .mv 406), (6, B j29), (8, .fn (.func 96) [] [.ptr 402 0])], [(2, .box 23 [I 0, I 0, I 0, I 0, I 0, I 0, I 0]), (13, .box 122 (bxc (GTfReader.cs ⟨(⟨l11_2, l11_3, l11_4, l11_5, l11_6, l11_7, l11_8⟩ : GAr), List.drop (Int.toNat 1) (List.take (Int.toNat (lenI (List.map idc l11_9))) l11_9), l11_10⟩))), (402, .box 120 [.ptr 13 0]), (406, .mf [(!eqS r14 [112, 101, 114] && l11_11, [112, 101, 114], .fn (.func 92) [] [.ptr 402 0]), (!eqS r14 [102, 114, 101, 101] && l11_12, [102, 114, 101, 101], .fn (.func 93) [] [.ptr 402 0]), (!eqS r14 [111, 110] && l11_13, [111, 110], .fn (.func 94) [] [.ptr 402 0]), (!eqS r14 [98, 101, 116, 119, 101, 101, 110] && l11_14, [98, 101, 116, 119, 101, 101, 110], .fn (.func 96) [] [.ptr 402 0])])]⟩ krf ?_
           refine sG ?_
           refine xR 1 krf ?_
           refine xs_inline [(1000, .box 122 (bxc (GTfReader.cs ⟨(⟨l11_2, l11_3, l11_4, l11_5, l11_6, l11_7, l11_8⟩ : GAr), List.drop (Int.toNat 1) (List.take (Int.toNat (lenI (List.map idc l11_9))) l11_9), l11_10⟩))), (1001, .box 120 [.ptr 1000 0])] [.ptr 1001 0] [(1000, 13), (1001, 402)] [] [] krf Try.func96 rfl Try.ntmps96 rfl krf krf krf ?_
           refine sS ?_
           refine sim_hst [0, 1] [0] [(2, []), (3, []), (4, []), (5, []), (6, [])] tfm rfl krf krf ?_
           refine h_enter (f := 80) (args := [.ptr 1000 0]) (dst := some 3) krf krf ?_
           refine sc_heap [(1000, 1000)] [] [] (g_t_reader_number_ok n (⟨(⟨l11_2, l11_3, l11_4, l11_5, l11_6, l11_7, l11_8⟩ : GAr), List.drop (Int.toNat 1) (List.take (Int.toNat (lenI (List.map idc l11_9))) l11_9), l11_10⟩ : GTfReader)) krf krf krf (fun _ => by kernel_rfl) (fun _ => by kernel_rfl) (fun r31 => ?_)
           refine kh [0] krf (lates_cons (late_read (.ptr 1000 0) krf rfl) (lates_nil)) krf ?_
           refine h_op [] krf krf (lates_nil) ?_
           refine h_op [] krf krf (lates_nil) ?_
           refine h_op [] krf krf (lates_nil) ?_
           refine h_op [] krf krf (lates_nil) ?_
           refine h_end ?_
           refine sN ⟨[0], [1000, 1001], [], []⟩ ⟨[(0, .ptr 1001 0)], [(1000, .box 122 (bxc (GTfReader.cs ⟨(⟨r31.2.article.Kind, r31.2.article.Days, r31.1, r31.2.article.To, r31.2.article.Price, r31.2.article.Unit, r31.2.article.Free⟩ : GAr), r31.2.values, r31.2.good⟩))), (1001, .box 120 [.ptr 1000 0])]⟩ krf ?_
           refine sim_hst [0, 1] [0] [(2, []), (3, []), (4, []), (5, []), (6, [])] tfm rfl krf krf ?_
           refine h_enter (f := 80) (args := [.ptr 1000 0]) (dst := some 9) krf krf ?_
           refine sc_heap [(1000, 1000)] [] [] (g_t_reader_number_ok n (⟨(⟨r31.2.article.Kind, r31.2.article.Days, r31.1, r31.2.article.To, r31.2.article.Price, r31.2.article.Unit, r31.2.article.Free⟩ : GAr), r31.2.values, r31.2.good⟩ : GTfReader)) krf krf krf (fun _ => by kernel_rfl) (fun _ => by kernel_rfl) (fun r32 => ?_)
           refine kh [0] krf (lates_cons (late_read (.ptr 1000 0) krf rfl) (lates_nil)) krf ?_
           refine h_op [] krf krf (lates_nil) ?_
           refine h_op [] krf krf (lates_nil) ?_
           refine h_op [] krf krf (lates_nil) ?_
           refine h_op [] krf krf (lates_nil) ?_
           refine h_end ?_
           refine iq_n (.id) [1000, 1001] [] (.tup []) krf krf ?_
           refine kr0 ?_
           refine xE ?_
           refine bq_n ?_
           exact kq_n (j29, r32.2.article.Kind, r32.2.article.Days, r32.2.article.From, r32.1, r32.2.article.Price, r32.2.article.Unit, r32.2.article.Free, r32.2.values, r32.2.good, !eqS r14 [112, 101, 114] && l11_11, !eqS r14 [102, 114, 101, 101] && l11_12, !eqS r14 [111, 110] && l11_13, !eqS r14 [98, 101, 116, 119, 101, 101, 110] && l11_14) ⟨[2, 4, 5, 6], [2, 13, 402, 406], [], []⟩ krf
         ·refine xs_u krf krf (aop_mfN (kt := 9) (e := 1) (b := 406) (w := r14) (ok := true) (es := [(l11_11, [112, 101, 114], .fn (.func 92) [] [.ptr 402 0]), (l11_12, [102, 114, 101, 101], .fn (.func 93) [] [.ptr 402 0]), (l11_13, [111, 110], .fn (.func 94) [] [.ptr 402 0]), (l11_14, [98, 101, 116, 119, 101, 101, 110], .fn (.func 96) [] [.ptr 402 0])]) (z := .nilFunc) rfl krf krf krf krf krf krf (findF_f h16 (findF_f h20 (findF_f h24 (findF_f h28 (findF_n)))))) ?_
          refine xR 5 krf ?_
          refine xE ?_
          refine sN ⟨[2, 4, 5, 6, 7, 8, 9], [2, 13, 402, 406], [], []⟩ ⟨[(2, .ptr 2 0), (4, .ptr 13 0), (5, .mv 406), (6, B l11_1), (7, S r14), (8, .p (.val (.nilFunc))), (9, B false)], [(2, .box 23 [I 0, I 0, I 0, I 0, I 0, I 0, I 0]), (13, .box 122 (bxc (GTfReader.cs ⟨(⟨l11_2, l11_3, l11_4, l11_5, l11_6, l11_7, l11_8⟩ : GAr), l11_9, l11_10⟩))), (402, .box 120 [.ptr 13 0]), (406, .mf [(l11_11, [112, 101, 114], .fn (.func 92) [] [.ptr 402 0]), (l11_12, [102, 114, 101, 101], .fn (.func 93) [] [.ptr 402 0]), (l11_13, [111, 110], .fn (.func 94) [] [.ptr 402 0]), (l11_14, [98, 101, 116, 119, 101, 101, 110], .fn (.func 96) [] [.ptr 402 0])])]⟩ krf ?_
          refine sS ?_
          refine sR tfm ⟨[2, 4, 5, 6, 7, 8, 62], [2, 13, 402, 406], [], []⟩ ⟨[(2, .ptr 2 0), (4, .ptr 13 0), (5, .mv 406), (6, B l11_1), (7, S r14), (8, .p (.val (.nilFunc))), (62, B true)], [(2, .box 23 [I 0, I 0, I 0, I 0, I 0, I 0, I 0]), (13, .box 122 (bxc (GTfReader.cs ⟨(⟨l11_2, l11_3, l11_4, l11_5, l11_6, l11_7, l11_8⟩ : GAr), l11_9, l11_10⟩))), (402, .box 120 [.ptr 13 0]), (406, .mf [(l11_11, [112, 101, 114], .fn (.func 92) [] [.ptr 402 0]), (l11_12, [102, 114, 101, 101], .fn (.func 93) [] [.ptr 402 0]), (l11_13, [111, 110], .fn (.func 94) [] [.ptr 402 0]), (l11_14, [98, 101, 116, 119, 101, 101, 110], .fn (.func 96) [] [.ptr 402 0])])]⟩ krf ?_
          refine sim_condT krf ?_
          refine sR tfm ⟨[2, 3], [2], [], []⟩ ⟨[(2, .ptr 2 0), (3, B false)], [(2, .box 23 [I 0, I 0, I 0, I 0, I 0, I 0, I 0])]⟩ krf ?_
          refine sT ?_
          refine sq_r ?_
          refine bq_r ?_
          refine kq_r ?_
          refine bq_r ?_
          refine kq_r ?_
          exact qR (.id) krf krf krf
     ·refine sim_exit ?_
      refine sq_x ?_
      refine kq_x ?_
      refine bq_hit ?_
      exact kq_n (k := fun (j8_1, j8_2, j8_3, j8_4, j8_5, j8_6, j8_7, j8_8, j8_9, j8_10) => g_t_read_j8 j8_1 j8_2 j8_3 j8_4 j8_5 j8_6 j8_7 j8_8 j8_9 j8_10) (l11_1, l11_2, l11_3, l11_4, l11_5, l11_6, l11_7, l11_8, l11_9, l11_10) ⟨[2, 4, 6], [2, 13], [], []⟩ krf
def g_t_inside (n : Nat) (a0n : Int) (a1least : Int) (a2greatest : Int) : Option Bool :=
 cond (leI a1least a0n)
  (some (leI a0n a2greatest))
  (some false)
theorem g_t_inside_ok (n : Nat) (a0n : Int) (a1least : Int) (a2greatest : Int) : ∀ r, g_t_inside n a0n a1least a2greatest = some r → PCall Try.prog 34 [I a0n, I a1least, I a2greatest] (.ret (B r)) := by
 refine pcall_sim (X := fun r : Bool => AEnd.ret (B r)) Try.func34 rfl Try.ntmps34 rfl ?_
 unfold g_t_inside
 refine sR tfm ⟨[0, 1, 2], [], [], []⟩ ⟨[(0, I a0n), (1, I a1least), (2, I a2greatest)], []⟩ krf ?_
 refine sS ?_
 refine sG ?_
 refine xR 4 krf ?_
 refine xS (leI a1least a0n) (fun h1 => ?_) (fun h1 => ?_)
 ·refine xO (want_tt krf h1) krf ?_
  refine xR 4 krf ?_
  refine xE ?_
  refine sN ⟨[6], [], [], []⟩ ⟨[(6, B (leI a0n a2greatest))], []⟩ krf ?_
  refine sT ?_
  exact qR (.id) krf krf krf
 ·refine xN (want_tf krf h1) krf ?_
  refine xR 4 krf ?_
  refine xE ?_
  refine sN ⟨[6], [], [], []⟩ ⟨[(6, B false)], []⟩ krf ?_
  refine sT ?_
  exact qR (.id) krf krf krf
def g_t_validArticle (n : Nat) (a0a : GAr) : Option Bool :=
 ((g_t_inside n a0a.Kind 1 6).bind fun r2 =>
 cond (!r2)
  (some true)
  ((g_t_inside n a0a.From 0 1439).bind fun r4 =>
  cond (!r4)
   (some true)
   ((g_t_inside n a0a.To (wi (a0a.From + 1)) 1440).bind fun r6 =>
   cond (!r6)
    (some true)
    ((g_t_inside n a0a.Days 1 7).bind fun r8 =>
    some (!r8))))).bind fun j1 =>
 cond j1
  (some false)
  (((g_t_isWhole n a0a.Kind).bind fun r10 =>
  cond r10
   (cond (!eqI a0a.From 0)
    (some true)
    (cond (!eqI a0a.To 1440)
     (some true)
     (some (!eqI a0a.Days 7))))
   (some false)).bind fun j9 =>
  cond j9
   (some false)
   ((cond (eqI a0a.Kind 6)
    (some 10000)
    (some 1000000)).bind fun j14 =>
   (g_t_inside n a0a.Price 0 j14).bind fun r15 =>
   cond (!r15)
    (some false)
    ((g_t_isTime n a0a.Kind).bind fun r16 =>
    cond r16
     (((g_t_inside n a0a.Unit 1 1440).bind fun r18 =>
     cond r18
      ((g_t_inside n a0a.Free 0 1440).bind fun r20 =>
      some r20)
      (some false)).bind fun j17 =>
     some j17)
     (cond (eqI a0a.Unit 0)
      (some (eqI a0a.Free 0))
      (some false)))))
theorem g_t_validArticle_ok (n : Nat) (a0a : GAr) : ∀ r, g_t_validArticle n a0a = some r → PCall Try.prog 24 [ag (GAr.cs a0a)] (.ret (B r)) := by
 refine pcall_sim (X := fun r : Bool => AEnd.ret (B r)) Try.func24 rfl Try.ntmps24 rfl ?_
 unfold g_t_validArticle
 refine sR tfm ⟨[1], [1], [], []⟩ ⟨[(1, .ptr 1 0)], [(1, .box 23 (bxc (GAr.cs a0a)))]⟩ krf ?_
 refine sS ?_
 refine sim_bind (fun j1 => ⟨[(1, .ptr 1 0), (28, B j1)], [(1, .box 23 (bxc (GAr.cs a0a)))]⟩ : Bool → St) ?_ ?_
 ·refine sG ?_
  refine xR 2 krf ?_
  refine xC [] krf (g_t_inside_ok n a0a.Kind 1 6) krf krf (fun _ => by kernel_rfl) (fun r2 => ?_)
  refine xR 2 krf ?_
  refine xS (!r2) (fun h3 => ?_) (fun h3 => ?_)
  ·refine xN (want_ft krf h3) krf ?_
   refine xR 19 krf ?_
   refine xE ?_
   exact nq_n true ⟨[1, 28], [1], [], []⟩ krf
  ·refine xO (want_ff krf h3) krf ?_
   refine xR 1 krf ?_
   refine xC [] krf (g_t_inside_ok n a0a.From 0 1439) krf krf (fun _ => by kernel_rfl) (fun r4 => ?_)
   refine xR 3 krf ?_
   refine xS (!r4) (fun h5 => ?_) (fun h5 => ?_)
   ·refine xN (want_ft krf h5) krf ?_
    refine xR 13 krf ?_
    refine xE ?_
    exact nq_n true ⟨[1, 28], [1], [], []⟩ krf
   ·refine xO (want_ff krf h5) krf ?_
    refine xR 4 krf ?_
    refine xC [] krf (g_t_inside_ok n a0a.To (wi (a0a.From + 1)) 1440) krf krf (fun _ => by kernel_rfl) (fun r6 => ?_)
    refine xR 3 krf ?_
    refine xS (!r6) (fun h7 => ?_) (fun h7 => ?_)
    ·refine xN (want_ft krf h7) krf ?_
     refine xR 4 krf ?_
     refine xE ?_
     exact nq_n true ⟨[1, 28], [1], [], []⟩ krf
    ·refine xO (want_ff krf h7) krf ?_
     refine xR 1 krf ?_
     refine xC [] krf (g_t_inside_ok n a0a.Days 1 7) krf krf (fun _ => by kernel_rfl) (fun r8 => ?_)
     refine xR 2 krf ?_
     refine xE ?_
     exact nq_n (!r8) ⟨[1, 28], [1], [], []⟩ krf
 ·rintro j1
  refine sC j1 krf ?_ ?_
  ·refine sR tfm ⟨[2], [], [], []⟩ ⟨[(2, B false)], []⟩ krf ?_
   refine sT ?_
   refine sq_r ?_
   exact qR (.id) krf krf krf
  ·refine sK ?_
   refine sN ⟨[1], [1], [], []⟩ ⟨[(1, .ptr 1 0)], [(1, .box 23 (bxc (GAr.cs a0a)))]⟩ krf ?_
   refine sS ?_
   refine sim_bind (fun j9 => ⟨[(1, .ptr 1 0), (46, B j9)], [(1, .box 23 (bxc (GAr.cs a0a)))]⟩ : Bool → St) ?_ ?_
   ·refine sG ?_
    refine xR 2 krf ?_
    refine xC [] krf (g_t_isWhole_ok n a0a.Kind) krf krf (fun _ => by kernel_rfl) (fun r10 => ?_)
    refine xR 1 krf ?_
    refine xS r10 (fun h11 => ?_) (fun h11 => ?_)
    ·refine xO (want_tt krf h11) krf ?_
     refine xR 3 krf ?_
     refine xS (!eqI a0a.From 0) (fun h12 => ?_) (fun h12 => ?_)
     ·refine xN (want_ft krf h12) krf ?_
      refine xR 9 krf ?_
      refine xE ?_
      exact nq_n true ⟨[1, 46], [1], [], []⟩ krf
     ·refine xO (want_ff krf h12) krf ?_
      refine xR 4 krf ?_
      refine xS (!eqI a0a.To 1440) (fun h13 => ?_) (fun h13 => ?_)
      ·refine xN (want_ft krf h13) krf ?_
       refine xR 4 krf ?_
       refine xE ?_
       exact nq_n true ⟨[1, 46], [1], [], []⟩ krf
      ·refine xO (want_ff krf h13) krf ?_
       refine xR 4 krf ?_
       refine xE ?_
       exact nq_n (!eqI a0a.Days 7) ⟨[1, 46], [1], [], []⟩ krf
    ·refine xN (want_tf krf h11) krf ?_
     refine xR 13 krf ?_
     refine xE ?_
     exact nq_n false ⟨[1, 46], [1], [], []⟩ krf
   ·rintro j9
    refine sC j9 krf ?_ ?_
    ·refine sR tfm ⟨[2], [], [], []⟩ ⟨[(2, B false)], []⟩ krf ?_
     refine sT ?_
     refine sq_r ?_
     exact qR (.id) krf krf krf
    ·refine sK ?_
     refine sN ⟨[1], [1], [], []⟩ ⟨[(1, .ptr 1 0)], [(1, .box 23 (bxc (GAr.cs a0a)))]⟩ krf ?_
     refine sR tfm ⟨[1, 3], [1], [], []⟩ ⟨[(1, .ptr 1 0), (3, I 1000000)], [(1, .box 23 (bxc (GAr.cs a0a)))]⟩ krf ?_
     refine sim_bind (fun j14 => ⟨[(1, .ptr 1 0), (3, I j14)], [(1, .box 23 (bxc (GAr.cs a0a)))]⟩ : Int → St) ?_ ?_
     ·refine sR tfm ⟨[1, 3, 49], [1], [], []⟩ ⟨[(1, .ptr 1 0), (3, I 1000000), (49, B (eqI a0a.Kind 6))], [(1, .box 23 (bxc (GAr.cs a0a)))]⟩ krf ?_
      refine sC (eqI a0a.Kind 6) krf ?_ ?_
      ·refine sL tfm krf ?_
       exact nq_n 10000 ⟨[1, 3], [1], [], []⟩ krf
      ·refine sK ?_
       exact nq_n 1000000 ⟨[1, 3], [1], [], []⟩ krf
     ·rintro j14
      refine sS ?_
      refine sS ?_
      refine sG ?_
      refine xR 3 krf ?_
      refine xC [] krf (g_t_inside_ok n a0a.Price 0 j14) krf krf (fun _ => by kernel_rfl) (fun r15 => ?_)
      refine xR 1 krf ?_
      refine xE ?_
      refine sN ⟨[1, 54], [1], [], []⟩ ⟨[(1, .ptr 1 0), (54, B (!r15))], [(1, .box 23 (bxc (GAr.cs a0a)))]⟩ krf ?_
      refine sC (!r15) krf ?_ ?_
      ·refine sR tfm ⟨[2], [], [], []⟩ ⟨[(2, B false)], []⟩ krf ?_
       refine sT ?_
       refine sq_r ?_
       exact qR (.id) krf krf krf
      ·refine sK ?_
       refine sN ⟨[1], [1], [], []⟩ ⟨[(1, .ptr 1 0)], [(1, .box 23 (bxc (GAr.cs a0a)))]⟩ krf ?_
       refine sS ?_
       refine sS ?_
       refine sG ?_
       refine xR 2 krf ?_
       refine xC [] krf (g_t_isTime_ok n a0a.Kind) krf krf (fun _ => by kernel_rfl) (fun r16 => ?_)
       refine xE ?_
       refine sN ⟨[1, 57], [1], [], []⟩ ⟨[(1, .ptr 1 0), (57, B r16)], [(1, .box 23 (bxc (GAr.cs a0a)))]⟩ krf ?_
       refine sC r16 krf ?_ ?_
       ·refine sim_bind (fun j17 => ⟨[(2, B j17)], []⟩ : Bool → St) ?_ ?_
        ·refine sG ?_
         refine xR 2 krf ?_
         refine xC [] krf (g_t_inside_ok n a0a.Unit 1 1440) krf krf (fun _ => by kernel_rfl) (fun r18 => ?_)
         refine xR 1 krf ?_
         refine xS r18 (fun h19 => ?_) (fun h19 => ?_)
         ·refine xO (want_tt krf h19) krf ?_
          refine xR 1 krf ?_
          refine xC [] krf (g_t_inside_ok n a0a.Free 0 1440) krf krf (fun _ => by kernel_rfl) (fun r20 => ?_)
          refine xR 2 krf ?_
          refine xE ?_
          exact nq_n r20 ⟨[2], [], [], []⟩ krf
         ·refine xN (want_tf krf h19) krf ?_
          refine xR 4 krf ?_
          refine xE ?_
          exact nq_n false ⟨[2], [], [], []⟩ krf
        ·rintro j17
         refine sT ?_
         refine sq_r ?_
         exact qR (.id) krf krf krf
       ·refine sK ?_
        refine sN ⟨[1], [1], [], []⟩ ⟨[(1, .ptr 1 0)], [(1, .box 23 (bxc (GAr.cs a0a)))]⟩ krf ?_
        refine sS ?_
        refine sG ?_
        refine xR 4 krf ?_
        refine xS (eqI a0a.Unit 0) (fun h21 => ?_) (fun h21 => ?_)
        ·refine xO (want_tt krf h21) krf ?_
         refine xR 4 krf ?_
         refine xE ?_
         refine sN ⟨[2], [], [], []⟩ ⟨[(2, B (eqI a0a.Free 0))], []⟩ krf ?_
         refine sT ?_
         exact qR (.id) krf krf krf
        ·refine xN (want_tf krf h21) krf ?_
         refine xR 4 krf ?_
         refine xE ?_
         refine sN ⟨[2], [], [], []⟩ ⟨[(2, B false)], []⟩ krf ?_
         refine sT ?_
         exact qR (.id) krf krf krf
def g_t_articles_l1 (n : Nat) (a0item : GNode) (recl1 : ((List GAr) × Bool × Int) → Option ((List GAr) × GDiag)) (l1_1 : List GAr) (l1_2 : Bool) (l1_3 : Int) : Option ((List GAr) × GDiag) :=
 cond (ltI l1_3 (lenI (List.map idc a0item.Kids)))
  ((Option.bind (getI a0item.Kids l1_3) GNode.of).bind fun x2 =>
  cond (eqI x2.Kind 3)
   (some ([], (⟨9, x2.At⟩ : GDiag)))
   (cond (eqI (lenI (List.map GAr.cs l1_1)) 12)
    (some ([], (⟨2, x2.At⟩ : GDiag)))
    ((g_t_read n x2).bind fun r3 =>
    cond (!r3.2)
     (some ([], (⟨9, x2.At⟩ : GDiag)))
     ((g_t_validArticle n r3.1).bind fun r4 =>
     cond (!r4)
      (some ([], (⟨3, x2.At⟩ : GDiag)))
      ((cond (eqI r3.1.Kind 6)
       (some l1_2)
       (some false)).bind fun j5 =>
      cond j5
       (some ([], (⟨5, x2.At⟩ : GDiag)))
       (cond l1_2
        (cond (roomB (List.length (l1_1 ++ [r3.1])) 56) (
         recl1 (l1_1 ++ [r3.1], true, wi (l1_3 + 1))) none)
        (cond (roomB (List.length (l1_1 ++ [r3.1])) 56) (
         recl1 (l1_1 ++ [r3.1], eqI r3.1.Kind 6, wi (l1_3 + 1))) none)))))))
  (some (l1_1, (⟨0, 0⟩ : GDiag)))
def g_t_articles (n : Nat) (a0item : GNode) : Option ((List GAr) × GDiag) :=
 loopN (fun recl1 (l1_1, l1_2, l1_3) => g_t_articles_l1 n a0item recl1 l1_1 l1_2 l1_3) n ([], false, 0)
theorem g_t_articles_ok (n : Nat) (a0item : GNode) : ∀ r, g_t_articles n a0item = some r → PCall Try.prog 44 [ag (GNode.cs a0item)] (.ret (.tup [.p (.sl 7 (List.map GAr.cs r.1)), ag (GDiag.cs r.2)])) := by
 refine pcall_sim (X := fun r : (List GAr) × GDiag => AEnd.ret (.tup [.p (.sl 7 (List.map GAr.cs r.1)), ag (GDiag.cs r.2)])) Try.func44 rfl Try.ntmps44 rfl ?_
 unfold g_t_articles
 refine sR tfm ⟨[1, 3], [1, 3], [], []⟩ ⟨[(1, .ptr 1 0), (3, .ptr 3 0)], [(1, .box 72 (bxc (GNode.cs a0item))), (3, .box 69 [I 0, I 0])]⟩ krf ?_
 refine sR tfm ⟨[1, 3, 4], [1, 3], [], []⟩ ⟨[(1, .ptr 1 0), (3, .ptr 3 0), (4, .p (.val (.slice none 0 0)))], [(1, .box 72 (bxc (GNode.cs a0item))), (3, .box 69 [I 0, I 0])]⟩ krf ?_
 refine sR tfm ⟨[1, 3, 4, 5], [1, 3], [], []⟩ ⟨[(1, .ptr 1 0), (3, .ptr 3 0), (4, .p (.val (.slice none 0 0))), (5, B false)], [(1, .box 72 (bxc (GNode.cs a0item))), (3, .box 69 [I 0, I 0])]⟩ krf ?_
 refine sS ?_
 refine sR tfm ⟨[3, 4, 5, 11, 12, 13], [3], [], []⟩ ⟨[(3, .ptr 3 0), (4, .p (.val (.slice none 0 0))), (5, B false), (11, .p (.sl 5 (List.map idc a0item.Kids))), (12, I (lenI (List.map idc a0item.Kids))), (13, I 0)], [(3, .box 69 [I 0, I 0])]⟩ krf ?_
 refine sB ?_
 refine sP ⟨[3, 4, 5, 11, 12, 13], [3], [], []⟩ ⟨[(3, .ptr 3 0), (4, .p (.val (.slice none 0 0))), (5, B false), (11, .p (.sl 5 (List.map idc a0item.Kids))), (12, I (lenI (List.map idc a0item.Kids))), (13, I 0)], [(3, .box 69 [I 0, I 0])]⟩ krf ?_
 refine sim_weak (weak_pn 23 7 66 [4] [] krf) ?_
 refine sim_loop (fun (l1_1, l1_2, l1_3) => ⟨[(3, .ptr 3 0), (4, .tsl 7 (List.map GAr.cs l1_1) 66), (5, B l1_2), (11, .p (.sl 5 (List.map idc a0item.Kids))), (12, I (lenI (List.map idc a0item.Kids))), (13, I l1_3)], [(3, .box 69 [I 0, I 0]), (66, .arr 23 7 (List.map GAr.cs l1_1).length)]⟩ : ((List GAr) × Bool × Int) → St) (weak_shr (K := ⟨[3, 4, 5, 11, 12, 13], [3, 66], [], []⟩) krf) ?_
 rintro recl1 ⟨l1_1, l1_2, l1_3⟩
 show SimE (g_t_articles_l1 n a0item recl1 l1_1 l1_2 l1_3) _ _ _ _ _ _
 unfold g_t_articles_l1
 refine sR tfm ⟨[3, 4, 5, 11, 12, 13, 14], [3, 66], [], []⟩ ⟨[(3, .ptr 3 0), (4, .tsl 7 (List.map GAr.cs l1_1) 66), (5, B l1_2), (11, .p (.sl 5 (List.map idc a0item.Kids))), (12, I (lenI (List.map idc a0item.Kids))), (13, I l1_3), (14, B (ltI l1_3 (lenI (List.map idc a0item.Kids))))], [(3, .box 69 [I 0, I 0]), (66, .arr 23 7 (List.map GAr.cs l1_1).length)]⟩ krf ?_
 refine sS ?_
 refine sC (ltI l1_3 (lenI (List.map idc a0item.Kids))) krf ?_ ?_
 ·refine sK ?_
  refine sN ⟨[3, 4, 5, 11, 12, 13], [3, 66], [], []⟩ ⟨[(3, .ptr 3 0), (4, .tsl 7 (List.map GAr.cs l1_1) 66), (5, B l1_2), (11, .p (.sl 5 (List.map idc a0item.Kids))), (12, I (lenI (List.map idc a0item.Kids))), (13, I l1_3)], [(3, .box 69 [I 0, I 0]), (66, .arr 23 7 (List.map GAr.cs l1_1).length)]⟩ krf ?_
  refine sS ?_
  refine sB ?_
  refine sS ?_
  refine sG ?_
  refine xG krf krf (aop_idxR (e := 72) (S := 5) (enc := GNode.cs) (dec := GNode.of) (l := a0item.Kids) (k := .i64) (n := l1_3) (sv := .p (.sl 5 (List.map idc a0item.Kids))) GNode.of_cs rfl krf krf krf krf krf) (fun x2 => ?_)
  refine xR 3 krf ?_
  refine xE ?_
  refine sN ⟨[3, 4, 5, 7, 11, 12, 13], [3, 7, 66], [], []⟩ ⟨[(3, .ptr 3 0), (4, .tsl 7 (List.map GAr.cs l1_1) 66), (5, B l1_2), (7, .ptr 7 0), (11, .p (.sl 5 (List.map idc a0item.Kids))), (12, I (lenI (List.map idc a0item.Kids))), (13, I l1_3)], [(3, .box 69 [I 0, I 0]), (7, .box 72 (bxc (GNode.cs x2))), (66, .arr 23 7 (List.map GAr.cs l1_1).length)]⟩ krf ?_
  refine sS ?_
  refine sR tfm ⟨[3, 4, 5, 7, 11, 12, 13, 19], [3, 7, 66], [], []⟩ ⟨[(3, .ptr 3 0), (4, .tsl 7 (List.map GAr.cs l1_1) 66), (5, B l1_2), (7, .ptr 7 0), (11, .p (.sl 5 (List.map idc a0item.Kids))), (12, I (lenI (List.map idc a0item.Kids))), (13, I l1_3), (19, B (eqI x2.Kind 3))], [(3, .box 69 [I 0, I 0]), (7, .box 72 (bxc (GNode.cs x2))), (66, .arr 23 7 (List.map GAr.cs l1_1).length)]⟩ krf ?_
  refine sC (eqI x2.Kind 3) krf ?_ ?_
  ·refine sR tfm ⟨[2, 3], [3], [], []⟩ ⟨[(2, .p (.val (.slice none 0 0))), (3, .ptr 3 0)], [(3, .box 69 [I 9, I x2.At])]⟩ krf ?_
   refine sT ?_
   refine sq_r ?_
   refine bq_r ?_
   refine sq_r ?_
   refine kq_r ?_
   refine bq_r ?_
   refine sq_r ?_
   exact qR (.agg [.sl 7, .id]) krf krf krf
  ·refine sK ?_
   refine sN ⟨[3, 4, 5, 7, 11, 12, 13], [3, 7, 66], [], []⟩ ⟨[(3, .ptr 3 0), (4, .tsl 7 (List.map GAr.cs l1_1) 66), (5, B l1_2), (7, .ptr 7 0), (11, .p (.sl 5 (List.map idc a0item.Kids))), (12, I (lenI (List.map idc a0item.Kids))), (13, I l1_3)], [(3, .box 69 [I 0, I 0]), (7, .box 72 (bxc (GNode.cs x2))), (66, .arr 23 7 (List.map GAr.cs l1_1).length)]⟩ krf ?_
   refine sS ?_
   refine sR tfm ⟨[3, 4, 5, 7, 11, 12, 13, 25], [3, 7, 66], [], []⟩ ⟨[(3, .ptr 3 0), (4, .tsl 7 (List.map GAr.cs l1_1) 66), (5, B l1_2), (7, .ptr 7 0), (11, .p (.sl 5 (List.map idc a0item.Kids))), (12, I (lenI (List.map idc a0item.Kids))), (13, I l1_3), (25, B (eqI (lenI (List.map GAr.cs l1_1)) 12))], [(3, .box 69 [I 0, I 0]), (7, .box 72 (bxc (GNode.cs x2))), (66, .arr 23 7 (List.map GAr.cs l1_1).length)]⟩ krf ?_
   refine sC (eqI (lenI (List.map GAr.cs l1_1)) 12) krf ?_ ?_
   ·refine sR tfm ⟨[2, 3], [3], [], []⟩ ⟨[(2, .p (.val (.slice none 0 0))), (3, .ptr 3 0)], [(3, .box 69 [I 2, I x2.At])]⟩ krf ?_
    refine sT ?_
    refine sq_r ?_
    refine bq_r ?_
    refine sq_r ?_
    refine kq_r ?_
    refine bq_r ?_
    refine sq_r ?_
    exact qR (.agg [.sl 7, .id]) krf krf krf
   ·refine sK ?_
    refine sN ⟨[3, 4, 5, 7, 11, 12, 13], [3, 7, 66], [], []⟩ ⟨[(3, .ptr 3 0), (4, .tsl 7 (List.map GAr.cs l1_1) 66), (5, B l1_2), (7, .ptr 7 0), (11, .p (.sl 5 (List.map idc a0item.Kids))), (12, I (lenI (List.map idc a0item.Kids))), (13, I l1_3)], [(3, .box 69 [I 0, I 0]), (7, .box 72 (bxc (GNode.cs x2))), (66, .arr 23 7 (List.map GAr.cs l1_1).length)]⟩ krf ?_
    refine sS ?_
    refine sG ?_
    refine xR 1 krf ?_
    refine xC [] krf (g_t_read_ok n x2) krf krf (fun _ => by kernel_rfl) (fun r3 => ?_)
    refine xR 6 krf ?_
    refine xE ?_
    refine sN ⟨[3, 4, 5, 7, 8, 9, 11, 12, 13], [3, 7, 8, 66], [], []⟩ ⟨[(3, .ptr 3 0), (4, .tsl 7 (List.map GAr.cs l1_1) 66), (5, B l1_2), (7, .ptr 7 0), (8, .ptr 8 0), (9, B r3.2), (11, .p (.sl 5 (List.map idc a0item.Kids))), (12, I (lenI (List.map idc a0item.Kids))), (13, I l1_3)], [(3, .box 69 [I 0, I 0]), (7, .box 72 (bxc (GNode.cs x2))), (8, .box 23 (bxc (GAr.cs r3.1))), (66, .arr 23 7 (List.map GAr.cs l1_1).length)]⟩ krf ?_
    refine sS ?_
    refine sB ?_
    refine sR tfm ⟨[3, 4, 5, 7, 8, 11, 12, 13, 34], [3, 7, 8, 66], [], []⟩ ⟨[(3, .ptr 3 0), (4, .tsl 7 (List.map GAr.cs l1_1) 66), (5, B l1_2), (7, .ptr 7 0), (8, .ptr 8 0), (11, .p (.sl 5 (List.map idc a0item.Kids))), (12, I (lenI (List.map idc a0item.Kids))), (13, I l1_3), (34, B (!r3.2))], [(3, .box 69 [I 0, I 0]), (7, .box 72 (bxc (GNode.cs x2))), (8, .box 23 (bxc (GAr.cs r3.1))), (66, .arr 23 7 (List.map GAr.cs l1_1).length)]⟩ krf ?_
    refine sC (!r3.2) krf ?_ ?_
    ·refine sR tfm ⟨[2, 3], [3], [], []⟩ ⟨[(2, .p (.val (.slice none 0 0))), (3, .ptr 3 0)], [(3, .box 69 [I 9, I x2.At])]⟩ krf ?_
     refine sT ?_
     refine bq_r ?_
     refine sq_r ?_
     refine bq_r ?_
     refine sq_r ?_
     refine kq_r ?_
     refine bq_r ?_
     refine sq_r ?_
     exact qR (.agg [.sl 7, .id]) krf krf krf
    ·refine sS ?_
     refine sG ?_
     refine xR 1 krf ?_
     refine xC [] krf (g_t_validArticle_ok n r3.1) krf krf (fun _ => by kernel_rfl) (fun r4 => ?_)
     refine xR 2 krf ?_
     refine xE ?_
     refine sN ⟨[3, 4, 5, 7, 8, 11, 12, 13, 40], [3, 7, 8, 66], [], []⟩ ⟨[(3, .ptr 3 0), (4, .tsl 7 (List.map GAr.cs l1_1) 66), (5, B l1_2), (7, .ptr 7 0), (8, .ptr 8 0), (11, .p (.sl 5 (List.map idc a0item.Kids))), (12, I (lenI (List.map idc a0item.Kids))), (13, I l1_3), (40, B (!r4))], [(3, .box 69 [I 0, I 0]), (7, .box 72 (bxc (GNode.cs x2))), (8, .box 23 (bxc (GAr.cs r3.1))), (66, .arr 23 7 (List.map GAr.cs l1_1).length)]⟩ krf ?_
     refine sC (!r4) krf ?_ ?_
     ·refine sR tfm ⟨[2, 3], [3], [], []⟩ ⟨[(2, .p (.val (.slice none 0 0))), (3, .ptr 3 0)], [(3, .box 69 [I 3, I x2.At])]⟩ krf ?_
      refine sT ?_
      refine bq_r ?_
      refine sq_r ?_
      refine bq_r ?_
      refine sq_r ?_
      refine kq_r ?_
      refine bq_r ?_
      refine sq_r ?_
      exact qR (.agg [.sl 7, .id]) krf krf krf
     ·refine sim_bind (fun j5 => ⟨[(3, .ptr 3 0), (4, .tsl 7 (List.map GAr.cs l1_1) 66), (5, B l1_2), (7, .ptr 7 0), (8, .ptr 8 0), (11, .p (.sl 5 (List.map idc a0item.Kids))), (12, I (lenI (List.map idc a0item.Kids))), (13, I l1_3), (47, B j5)], [(3, .box 69 [I 0, I 0]), (7, .box 72 (bxc (GNode.cs x2))), (8, .box 23 (bxc (GAr.cs r3.1))), (66, .arr 23 7 (List.map GAr.cs l1_1).length)]⟩ : Bool → St) ?_ ?_
      ·refine sG ?_
       refine xR 4 krf ?_
       refine xS (eqI r3.1.Kind 6) (fun h6 => ?_) (fun h6 => ?_)
       ·refine xO (want_tt krf h6) krf ?_
        refine xR 2 krf ?_
        refine xE ?_
        exact nq_n l1_2 ⟨[3, 4, 5, 7, 8, 11, 12, 13, 47], [3, 7, 8, 66], [], []⟩ krf
       ·refine xN (want_tf krf h6) krf ?_
        refine xR 2 krf ?_
        refine xE ?_
        exact nq_n false ⟨[3, 4, 5, 7, 8, 11, 12, 13, 47], [3, 7, 8, 66], [], []⟩ krf
      ·rintro j5
       refine sC j5 krf ?_ ?_
       ·refine sR tfm ⟨[2, 3], [3], [], []⟩ ⟨[(2, .p (.val (.slice none 0 0))), (3, .ptr 3 0)], [(3, .box 69 [I 5, I x2.At])]⟩ krf ?_
        refine sT ?_
        refine bq_r ?_
        refine sq_r ?_
        refine bq_r ?_
        refine sq_r ?_
        refine kq_r ?_
        refine bq_r ?_
        refine sq_r ?_
        exact qR (.agg [.sl 7, .id]) krf krf krf
       ·refine sK ?_
        refine bq_n ?_
        refine sN ⟨[3, 4, 5, 8, 11, 12, 13], [3, 8, 66], [], []⟩ ⟨[(3, .ptr 3 0), (4, .tsl 7 (List.map GAr.cs l1_1) 66), (5, B l1_2), (8, .ptr 8 0), (11, .p (.sl 5 (List.map idc a0item.Kids))), (12, I (lenI (List.map idc a0item.Kids))), (13, I l1_3)], [(3, .box 69 [I 0, I 0]), (8, .box 23 (bxc (GAr.cs r3.1))), (66, .arr 23 7 (List.map GAr.cs l1_1).length)]⟩ krf ?_
        refine sS ?_
        refine sG ?_
        refine xR 2 krf ?_
        refine xS l1_2 (fun h7 => ?_) (fun h7 => ?_)
        ·refine xN (want_ft krf h7) krf ?_
         refine xR 4 krf ?_
         refine xE ?_
         refine sN ⟨[3, 4, 5, 8, 11, 12, 13], [3, 8, 66], [], []⟩ ⟨[(3, .ptr 3 0), (4, .tsl 7 (List.map GAr.cs l1_1) 66), (5, B true), (8, .ptr 8 0), (11, .p (.sl 5 (List.map idc a0item.Kids))), (12, I (lenI (List.map idc a0item.Kids))), (13, I l1_3)], [(3, .box 69 [I 0, I 0]), (8, .box 23 (bxc (GAr.cs r3.1))), (66, .arr 23 7 (List.map GAr.cs l1_1).length)]⟩ krf ?_
         refine sG ?_
         refine xR 3 krf ?_
         refine xF krf krf (aop_app (e := 23) (S := 7) (by_ := 56) (enc := GAr.cs) (tk := 66) (l := l1_1) (l2 := [r3.1]) (xv := .tsl 7 (List.map GAr.cs [r3.1]) 65) rfl krf krf rfl krf krf krf rfl krf) ?_
         refine xR 1 krf ?_
         refine xE ?_
         refine bq_n ?_
         refine sN ⟨[3, 4, 5, 11, 12, 13], [3, 66], [], []⟩ ⟨[(3, .ptr 3 0), (4, .tsl 7 (List.map GAr.cs (l1_1 ++ [r3.1])) 66), (5, B true), (11, .p (.sl 5 (List.map idc a0item.Kids))), (12, I (lenI (List.map idc a0item.Kids))), (13, I l1_3)], [(3, .box 69 [I 0, I 0]), (66, .arr 23 7 (List.map GAr.cs (l1_1 ++ [r3.1])).length)]⟩ krf ?_
         refine sL tfm krf ?_
         exact kq_n (l1_1 ++ [r3.1], true, wi (l1_3 + 1)) ⟨[3, 4, 5, 11, 12, 13], [3, 66], [], []⟩ krf
        ·refine xO (want_ff krf h7) krf ?_
         refine xR 4 krf ?_
         refine xE ?_
         refine sN ⟨[3, 4, 5, 8, 11, 12, 13, 59, 60, 61], [3, 8, 66], [], []⟩ ⟨[(3, .ptr 3 0), (4, .tsl 7 (List.map GAr.cs l1_1) 66), (5, B (eqI r3.1.Kind 6)), (8, .ptr 8 0), (11, .p (.sl 5 (List.map idc a0item.Kids))), (12, I (lenI (List.map idc a0item.Kids))), (13, I l1_3), (59, .ptr 8 0), (60, I r3.1.Kind), (61, B (eqI r3.1.Kind 6))], [(3, .box 69 [I 0, I 0]), (8, .box 23 (bxc (GAr.cs r3.1))), (66, .arr 23 7 (List.map GAr.cs l1_1).length)]⟩ krf ?_
         refine sG ?_
         refine xR 3 krf ?_
         refine xF krf krf (aop_app (e := 23) (S := 7) (by_ := 56) (enc := GAr.cs) (tk := 66) (l := l1_1) (l2 := [r3.1]) (xv := .tsl 7 (List.map GAr.cs [r3.1]) 65) rfl krf krf rfl krf krf krf rfl krf) ?_
         refine xR 1 krf ?_
         refine xE ?_
         refine bq_n ?_
         refine sN ⟨[3, 4, 5, 11, 12, 13, 59, 60, 61], [3, 8, 66], [], []⟩ ⟨[(3, .ptr 3 0), (4, .tsl 7 (List.map GAr.cs (l1_1 ++ [r3.1])) 66), (5, B (eqI r3.1.Kind 6)), (11, .p (.sl 5 (List.map idc a0item.Kids))), (12, I (lenI (List.map idc a0item.Kids))), (13, I l1_3), (59, .ptr 8 0), (60, I r3.1.Kind), (61, B (eqI r3.1.Kind 6))], [(3, .box 69 [I 0, I 0]), (8, .box 23 (bxc (GAr.cs r3.1))), (66, .arr 23 7 (List.map GAr.cs (l1_1 ++ [r3.1])).length)]⟩ krf ?_
         refine sL tfm krf ?_
         exact kq_n (l1_1 ++ [r3.1], eqI r3.1.Kind 6, wi (l1_3 + 1)) ⟨[3, 4, 5, 11, 12, 13], [3, 66], [], []⟩ krf
 ·refine sim_exit ?_
  refine sq_x ?_
  refine kq_x ?_
  refine bq_hit ?_
  refine sN ⟨[3, 4], [3, 66], [], []⟩ ⟨[(3, .ptr 3 0), (4, .tsl 7 (List.map GAr.cs l1_1) 66)], [(3, .box 69 [I 0, I 0]), (66, .arr 23 7 (List.map GAr.cs l1_1).length)]⟩ krf ?_
  refine sR tfm ⟨[2, 3], [3, 66], [], []⟩ ⟨[(2, .tsl 7 (List.map GAr.cs l1_1) 66), (3, .ptr 3 0)], [(3, .box 69 [I 0, I 0]), (66, .arr 23 7 (List.map GAr.cs l1_1).length)]⟩ krf ?_
  refine sT ?_
  exact qR (.agg [.sl 7, .id]) krf krf krf
def g_t_Build_l3 (n : Nat) (a0n : GNode) (recl3 : ((List GTf) × (List GDiag) × Int × Int × (List ((List UInt8) × Bool))) → Option ((List GTf) × (List GDiag))) (l3_1 : List GTf) (l3_2 : List GDiag) (l3_3 : Int) (l3_4 : Int) (l3_5 : List ((List UInt8) × Bool)) : Option ((List GTf) × (List GDiag)) :=
 cond (ltI l3_4 (lenI (List.map idc a0n.Kids)))
  ((Option.bind (getI a0n.Kids l3_4) GNode.of).bind fun x4 =>
  cond (!eqI x4.N 7)
   (recl3 (l3_1, l3_2, l3_3, wi (l3_4 + 1), l3_5))
   ((cond (mgetD me_map_string_bool x4.Name false l3_5)
    (some ([], 5, x4.At))
    (cond (leI 8 l3_3)
     (some ([], 2, x4.At))
     ((g_t_articles n x4).bind fun r6 =>
     some (r6.1, r6.2.Err, r6.2.At)))).bind fun (j5_1, j5_2, j5_3) =>
   (cond (!eqI j5_2 0)
    (cond (roomB (List.length (l3_2 ++ [(⟨j5_2, j5_3⟩ : GDiag)])) 16) (
     some (l3_2 ++ [(⟨j5_2, j5_3⟩ : GDiag)])) none)
    (some l3_2)).bind fun j7 =>
   cond (eqI (lenI (List.map GDiag.cs j7)) 20)
    (some (l3_1, j7))
    (cond (roomB (List.length (l3_1 ++ [(⟨x4.Name, j5_1⟩ : GTf)])) 40) (
     recl3 (l3_1 ++ [(⟨x4.Name, j5_1⟩ : GTf)], j7, wi (l3_3 + 1), wi (l3_4 + 1), mset me_map_string_bool x4.Name true l3_5)) none)))
  (some (l3_1, l3_2))
def g_t_Build (n : Nat) (a0n : GNode) : Option ((List GTf) × (List GDiag)) :=
 (g_p_Valid n a0n).bind fun r1 =>
 cond (!r1)
  (some ([], [(⟨1, 0⟩ : GDiag)]))
  ((loopN (fun recl3 (l3_1, l3_2, l3_3, l3_4, l3_5) => g_t_Build_l3 n a0n recl3 l3_1 l3_2 l3_3 l3_4 l3_5) n ([], [], 0, 0, [])).bind fun (j2_1, j2_2) =>
  cond (ltI 0 (lenI (List.map GDiag.cs j2_2)))
   (some ([], j2_2))
   (some (j2_1, [])))
theorem g_t_Build_ok (n : Nat) (a0n : GNode) : ∀ r, g_t_Build n a0n = some r → PCall Try.prog 38 [ag (GNode.cs a0n)] (.ret (.tup [.p (.sl 2 (List.map GTf.cs r.1)), .p (.sl 2 (List.map GDiag.cs r.2))])) := by
 refine pcall_sim (X := fun r : (List GTf) × (List GDiag) => AEnd.ret (.tup [.p (.sl 2 (List.map GTf.cs r.1)), .p (.sl 2 (List.map GDiag.cs r.2))])) Try.func38 rfl Try.ntmps38 rfl ?_
 unfold g_t_Build
 refine sR tfm ⟨[1], [1], [], []⟩ ⟨[(1, .ptr 1 0)], [(1, .box 72 (bxc (GNode.cs a0n)))]⟩ krf ?_
 refine sS ?_
 refine sS ?_
 refine sG ?_
 refine xR 1 krf ?_
 refine xC [] krf (g_p_Valid_ok n a0n) krf krf (fun _ => by kernel_rfl) (fun r1 => ?_)
 refine xR 1 krf ?_
 refine xE ?_
 refine sN ⟨[1, 14], [1], [], []⟩ ⟨[(1, .ptr 1 0), (14, B (!r1))], [(1, .box 72 (bxc (GNode.cs a0n)))]⟩ krf ?_
 refine sC (!r1) krf ?_ ?_
 ·refine sR tfm ⟨[2, 3], [16], [], []⟩ ⟨[(2, .p (.val (.slice none 0 0))), (3, .tsl 2 (List.map GDiag.cs [(⟨1, 0⟩ : GDiag)]) 16)], [(16, .arr 69 2 (List.map GDiag.cs [(⟨1, 0⟩ : GDiag)]).length)]⟩ krf ?_
  refine sT ?_
  refine sq_r ?_
  exact qR (.agg [.sl 2, .sl 2]) krf krf krf
 ·refine sK ?_
  refine sN ⟨[1], [1], [], []⟩ ⟨[(1, .ptr 1 0)], [(1, .box 72 (bxc (GNode.cs a0n)))]⟩ krf ?_
  refine sR tfm ⟨[1, 4], [1], [], []⟩ ⟨[(1, .ptr 1 0), (4, .p (.val (.slice none 0 0)))], [(1, .box 72 (bxc (GNode.cs a0n)))]⟩ krf ?_
  refine sR tfm ⟨[1, 4, 5], [1], [], []⟩ ⟨[(1, .ptr 1 0), (4, .p (.val (.slice none 0 0))), (5, .p (.val (.slice none 0 0)))], [(1, .box 72 (bxc (GNode.cs a0n)))]⟩ krf ?_
  refine sS ?_
  refine sG ?_
  refine xs_u krf krf (aop_mk (d := 17) (rsv := none) rfl rfl krf) ?_
  refine xR 1 krf ?_
  refine xE ?_
  refine sN ⟨[1, 4, 5, 6], [1, 17], [], []⟩ ⟨[(1, .ptr 1 0), (4, .p (.val (.slice none 0 0))), (5, .p (.val (.slice none 0 0))), (6, .mv 17)], [(1, .box 72 (bxc (GNode.cs a0n))), (17, .mp (mpL mk_map_string_bool mv_map_string_bool []))]⟩ krf ?_
  refine sR tfm ⟨[1, 4, 5, 6, 7], [1, 17], [], []⟩ ⟨[(1, .ptr 1 0), (4, .p (.val (.slice none 0 0))), (5, .p (.val (.slice none 0 0))), (6, .mv 17), (7, I 0)], [(1, .box 72 (bxc (GNode.cs a0n))), (17, .mp (mpL mk_map_string_bool mv_map_string_bool []))]⟩ krf ?_
  refine sim_bind (fun (j2_1, j2_2) => ⟨[(4, .tsl 2 (List.map GTf.cs j2_1) 68), (5, .tsl 2 (List.map GDiag.cs j2_2) 58)], [(58, .arr 69 2 (List.map GDiag.cs j2_2).length), (68, .arr 46 2 (List.map GTf.cs j2_1).length)]⟩ : ((List GTf) × (List GDiag)) → St) ?_ ?_
  ·refine sR tfm ⟨[4, 5, 6, 7, 19, 20, 21], [17], [], []⟩ ⟨[(4, .p (.val (.slice none 0 0))), (5, .p (.val (.slice none 0 0))), (6, .mv 17), (7, I 0), (19, .p (.sl 5 (List.map idc a0n.Kids))), (20, I (lenI (List.map idc a0n.Kids))), (21, I 0)], [(17, .mp (mpL mk_map_string_bool mv_map_string_bool []))]⟩ krf ?_
   refine sB ?_
   refine sP ⟨[4, 5, 6, 7, 19, 20, 21], [17], [], []⟩ ⟨[(4, .p (.val (.slice none 0 0))), (5, .p (.val (.slice none 0 0))), (6, .mv 17), (7, I 0), (19, .p (.sl 5 (List.map idc a0n.Kids))), (20, I (lenI (List.map idc a0n.Kids))), (21, I 0)], [(17, .mp (mpL mk_map_string_bool mv_map_string_bool []))]⟩ krf ?_
   refine sim_weak (Weak.trans (weak_pn 69 2 58 [5] [] krf) (weak_pn 46 2 68 [4] [] krf)) ?_
   refine sim_loop (fun (l3_1, l3_2, l3_3, l3_4, l3_5) => ⟨[(4, .tsl 2 (List.map GTf.cs l3_1) 68), (5, .tsl 2 (List.map GDiag.cs l3_2) 58), (6, .mv 17), (7, I l3_3), (19, .p (.sl 5 (List.map idc a0n.Kids))), (20, I (lenI (List.map idc a0n.Kids))), (21, I l3_4)], [(17, .mp (mpL mk_map_string_bool mv_map_string_bool l3_5)), (58, .arr 69 2 (List.map GDiag.cs l3_2).length), (68, .arr 46 2 (List.map GTf.cs l3_1).length)]⟩ : ((List GTf) × (List GDiag) × Int × Int × (List ((List UInt8) × Bool))) → St) (weak_shr (K := ⟨[4, 5, 6, 7, 19, 20, 21], [17, 58, 68], [], []⟩) krf) ?_
   rintro recl3 ⟨l3_1, l3_2, l3_3, l3_4, l3_5⟩
   show SimE (g_t_Build_l3 n a0n recl3 l3_1 l3_2 l3_3 l3_4 l3_5) _ _ _ _ _ _
   unfold g_t_Build_l3
   refine sR tfm ⟨[4, 5, 6, 7, 19, 20, 21, 22], [17, 58, 68], [], []⟩ ⟨[(4, .tsl 2 (List.map GTf.cs l3_1) 68), (5, .tsl 2 (List.map GDiag.cs l3_2) 58), (6, .mv 17), (7, I l3_3), (19, .p (.sl 5 (List.map idc a0n.Kids))), (20, I (lenI (List.map idc a0n.Kids))), (21, I l3_4), (22, B (ltI l3_4 (lenI (List.map idc a0n.Kids))))], [(17, .mp (mpL mk_map_string_bool mv_map_string_bool l3_5)), (58, .arr 69 2 (List.map GDiag.cs l3_2).length), (68, .arr 46 2 (List.map GTf.cs l3_1).length)]⟩ krf ?_
   refine sS ?_
   refine sC (ltI l3_4 (lenI (List.map idc a0n.Kids))) krf ?_ ?_
   ·refine sK ?_
    refine sN ⟨[4, 5, 6, 7, 19, 20, 21], [17, 58, 68], [], []⟩ ⟨[(4, .tsl 2 (List.map GTf.cs l3_1) 68), (5, .tsl 2 (List.map GDiag.cs l3_2) 58), (6, .mv 17), (7, I l3_3), (19, .p (.sl 5 (List.map idc a0n.Kids))), (20, I (lenI (List.map idc a0n.Kids))), (21, I l3_4)], [(17, .mp (mpL mk_map_string_bool mv_map_string_bool l3_5)), (58, .arr 69 2 (List.map GDiag.cs l3_2).length), (68, .arr 46 2 (List.map GTf.cs l3_1).length)]⟩ krf ?_
    refine sS ?_
    refine sB ?_
    refine sS ?_
    refine sG ?_
    refine xG krf krf (aop_idxR (e := 72) (S := 5) (enc := GNode.cs) (dec := GNode.of) (l := a0n.Kids) (k := .i64) (n := l3_4) (sv := .p (.sl 5 (List.map idc a0n.Kids))) GNode.of_cs rfl krf krf krf krf krf) (fun x4 => ?_)
    refine xR 3 krf ?_
    refine xE ?_
    refine sN ⟨[4, 5, 6, 7, 9, 19, 20, 21], [9, 17, 58, 68], [], []⟩ ⟨[(4, .tsl 2 (List.map GTf.cs l3_1) 68), (5, .tsl 2 (List.map GDiag.cs l3_2) 58), (6, .mv 17), (7, I l3_3), (9, .ptr 9 0), (19, .p (.sl 5 (List.map idc a0n.Kids))), (20, I (lenI (List.map idc a0n.Kids))), (21, I l3_4)], [(9, .box 72 (bxc (GNode.cs x4))), (17, .mp (mpL mk_map_string_bool mv_map_string_bool l3_5)), (58, .arr 69 2 (List.map GDiag.cs l3_2).length), (68, .arr 46 2 (List.map GTf.cs l3_1).length)]⟩ krf ?_
    refine sS ?_
    refine sR tfm ⟨[4, 5, 6, 7, 9, 19, 20, 21, 27], [9, 17, 58, 68], [], []⟩ ⟨[(4, .tsl 2 (List.map GTf.cs l3_1) 68), (5, .tsl 2 (List.map GDiag.cs l3_2) 58), (6, .mv 17), (7, I l3_3), (9, .ptr 9 0), (19, .p (.sl 5 (List.map idc a0n.Kids))), (20, I (lenI (List.map idc a0n.Kids))), (21, I l3_4), (27, B (!eqI x4.N 7))], [(9, .box 72 (bxc (GNode.cs x4))), (17, .mp (mpL mk_map_string_bool mv_map_string_bool l3_5)), (58, .arr 69 2 (List.map GDiag.cs l3_2).length), (68, .arr 46 2 (List.map GTf.cs l3_1).length)]⟩ krf ?_
    refine sC (!eqI x4.N 7) krf ?_ ?_
    ·refine sim_exit ?_
     refine sq_x ?_
     refine bq_hit ?_
     refine sN ⟨[4, 5, 6, 7, 19, 20, 21], [17, 58, 68], [], []⟩ ⟨[(4, .tsl 2 (List.map GTf.cs l3_1) 68), (5, .tsl 2 (List.map GDiag.cs l3_2) 58), (6, .mv 17), (7, I l3_3), (19, .p (.sl 5 (List.map idc a0n.Kids))), (20, I (lenI (List.map idc a0n.Kids))), (21, I l3_4)], [(17, .mp (mpL mk_map_string_bool mv_map_string_bool l3_5)), (58, .arr 69 2 (List.map GDiag.cs l3_2).length), (68, .arr 46 2 (List.map GTf.cs l3_1).length)]⟩ krf ?_
     refine sL tfm krf ?_
     exact kq_n (l3_1, l3_2, l3_3, wi (l3_4 + 1), l3_5) ⟨[4, 5, 6, 7, 19, 20, 21], [17, 58, 68], [], []⟩ krf
    ·refine sK ?_
     refine sN ⟨[4, 5, 6, 7, 9, 19, 20, 21], [9, 17, 58, 68], [], []⟩ ⟨[(4, .tsl 2 (List.map GTf.cs l3_1) 68), (5, .tsl 2 (List.map GDiag.cs l3_2) 58), (6, .mv 17), (7, I l3_3), (9, .ptr 9 0), (19, .p (.sl 5 (List.map idc a0n.Kids))), (20, I (lenI (List.map idc a0n.Kids))), (21, I l3_4)], [(9, .box 72 (bxc (GNode.cs x4))), (17, .mp (mpL mk_map_string_bool mv_map_string_bool l3_5)), (58, .arr 69 2 (List.map GDiag.cs l3_2).length), (68, .arr 46 2 (List.map GTf.cs l3_1).length)]⟩ krf ?_
     refine sR tfm ⟨[4, 5, 6, 7, 9, 10, 19, 20, 21], [9, 17, 58, 68], [], []⟩ ⟨[(4, .tsl 2 (List.map GTf.cs l3_1) 68), (5, .tsl 2 (List.map GDiag.cs l3_2) 58), (6, .mv 17), (7, I l3_3), (9, .ptr 9 0), (10, .p (.val (.slice none 0 0))), (19, .p (.sl 5 (List.map idc a0n.Kids))), (20, I (lenI (List.map idc a0n.Kids))), (21, I l3_4)], [(9, .box 72 (bxc (GNode.cs x4))), (17, .mp (mpL mk_map_string_bool mv_map_string_bool l3_5)), (58, .arr 69 2 (List.map GDiag.cs l3_2).length), (68, .arr 46 2 (List.map GTf.cs l3_1).length)]⟩ krf ?_
     refine sR tfm ⟨[4, 5, 6, 7, 9, 10, 11, 19, 20, 21], [9, 11, 17, 58, 68], [], []⟩ ⟨[(4, .tsl 2 (List.map GTf.cs l3_1) 68), (5, .tsl 2 (List.map GDiag.cs l3_2) 58), (6, .mv 17), (7, I l3_3), (9, .ptr 9 0), (10, .p (.val (.slice none 0 0))), (11, .ptr 11 0), (19, .p (.sl 5 (List.map idc a0n.Kids))), (20, I (lenI (List.map idc a0n.Kids))), (21, I l3_4)], [(9, .box 72 (bxc (GNode.cs x4))), (11, .box 69 [I 0, I 0]), (17, .mp (mpL mk_map_string_bool mv_map_string_bool l3_5)), (58, .arr 69 2 (List.map GDiag.cs l3_2).length), (68, .arr 46 2 (List.map GTf.cs l3_1).length)]⟩ krf ?_
     refine sim_bind (fun (j5_1, j5_2, j5_3) => ⟨[(4, .tsl 2 (List.map GTf.cs l3_1) 68), (5, .tsl 2 (List.map GDiag.cs l3_2) 58), (6, .mv 17), (7, I l3_3), (9, .ptr 9 0), (10, .p (.sl 7 (List.map GAr.cs j5_1))), (11, .ptr 11 0), (19, .p (.sl 5 (List.map idc a0n.Kids))), (20, I (lenI (List.map idc a0n.Kids))), (21, I l3_4)], [(9, .box 72 (bxc (GNode.cs x4))), (11, .box 69 [I j5_2, I j5_3]), (17, .mp (mpL mk_map_string_bool mv_map_string_bool l3_5)), (58, .arr 69 2 (List.map GDiag.cs l3_2).length), (68, .arr 46 2 (List.map GTf.cs l3_1).length)]⟩ : ((List GAr) × Int × Int) → St) ?_ ?_
     ·refine sB ?_
      refine sS ?_
      refine sG ?_
      refine xR 3 krf ?_
      refine xs_u krf krf (aop_look (kt := 9) (e := 4) (ke := mk_map_string_bool) (ve := mv_map_string_bool) (eq := me_map_string_bool) (b := 17) (m := l3_5) (k := x4.Name) (z0 := false) rfl krf krf krf krf krf (fun _ => by kernel_rfl) (fun _ _ => eqV_strK rfl _ _) krf) ?_
      refine xR 1 krf ?_
      refine xE ?_
      refine sN ⟨[4, 5, 6, 7, 9, 10, 11, 19, 20, 21, 33], [9, 11, 17, 58, 68], [], []⟩ ⟨[(4, .tsl 2 (List.map GTf.cs l3_1) 68), (5, .tsl 2 (List.map GDiag.cs l3_2) 58), (6, .mv 17), (7, I l3_3), (9, .ptr 9 0), (10, .p (.val (.slice none 0 0))), (11, .ptr 11 0), (19, .p (.sl 5 (List.map idc a0n.Kids))), (20, I (lenI (List.map idc a0n.Kids))), (21, I l3_4), (33, B (mgetD me_map_string_bool x4.Name false l3_5))], [(9, .box 72 (bxc (GNode.cs x4))), (11, .box 69 [I 0, I 0]), (17, .mp (mpL mk_map_string_bool mv_map_string_bool l3_5)), (58, .arr 69 2 (List.map GDiag.cs l3_2).length), (68, .arr 46 2 (List.map GTf.cs l3_1).length)]⟩ krf ?_
      refine sC (mgetD me_map_string_bool x4.Name false l3_5) krf ?_ ?_
      ·refine sL tfm krf ?_
       refine bq_n ?_
       exact nq_n ([], 5, x4.At) ⟨[4, 5, 6, 7, 9, 10, 11, 19, 20, 21], [9, 11, 17, 58, 68], [(10, .sl 7)], []⟩ krf
      ·refine sR tfm ⟨[4, 5, 6, 7, 9, 10, 11, 19, 20, 21, 41], [9, 11, 17, 58, 68], [], []⟩ ⟨[(4, .tsl 2 (List.map GTf.cs l3_1) 68), (5, .tsl 2 (List.map GDiag.cs l3_2) 58), (6, .mv 17), (7, I l3_3), (9, .ptr 9 0), (10, .p (.val (.slice none 0 0))), (11, .ptr 11 0), (19, .p (.sl 5 (List.map idc a0n.Kids))), (20, I (lenI (List.map idc a0n.Kids))), (21, I l3_4), (41, B (leI 8 l3_3))], [(9, .box 72 (bxc (GNode.cs x4))), (11, .box 69 [I 0, I 0]), (17, .mp (mpL mk_map_string_bool mv_map_string_bool l3_5)), (58, .arr 69 2 (List.map GDiag.cs l3_2).length), (68, .arr 46 2 (List.map GTf.cs l3_1).length)]⟩ krf ?_
       refine sC (leI 8 l3_3) krf ?_ ?_
       ·refine sL tfm krf ?_
        refine bq_n ?_
        exact nq_n ([], 2, x4.At) ⟨[4, 5, 6, 7, 9, 10, 11, 19, 20, 21], [9, 11, 17, 58, 68], [(10, .sl 7)], []⟩ krf
       ·refine sG ?_
        refine xR 1 krf ?_
        refine xC [] krf (g_t_articles_ok n x4) krf krf (fun _ => by kernel_rfl) (fun r6 => ?_)
        refine xR 5 krf ?_
        refine xE ?_
        refine bq_n ?_
        exact nq_n (r6.1, r6.2.Err, r6.2.At) ⟨[4, 5, 6, 7, 9, 10, 11, 19, 20, 21], [9, 11, 17, 58, 68], [], []⟩ krf
     ·rintro ⟨j5_1, j5_2, j5_3⟩
      refine sS ?_
      refine sG ?_
      refine xR 3 krf ?_
      refine xs_u krf krf (aop_mset (kt := 9) (e := 4) (ke := mk_map_string_bool) (ve := mv_map_string_bool) (eq := me_map_string_bool) (b := 17) (m := l3_5) (k := x4.Name) (v := true) rfl krf krf krf krf krf krf (fun _ => by kernel_rfl) (fun _ _ => eqV_strK rfl _ _)) ?_
      refine xE ?_
      refine sN ⟨[4, 5, 6, 7, 9, 10, 11, 19, 20, 21], [9, 11, 17, 58, 68], [], []⟩ ⟨[(4, .tsl 2 (List.map GTf.cs l3_1) 68), (5, .tsl 2 (List.map GDiag.cs l3_2) 58), (6, .mv 17), (7, I l3_3), (9, .ptr 9 0), (10, .p (.sl 7 (List.map GAr.cs j5_1))), (11, .ptr 11 0), (19, .p (.sl 5 (List.map idc a0n.Kids))), (20, I (lenI (List.map idc a0n.Kids))), (21, I l3_4)], [(9, .box 72 (bxc (GNode.cs x4))), (11, .box 69 [I j5_2, I j5_3]), (17, .mp (mpL mk_map_string_bool mv_map_string_bool (mset me_map_string_bool x4.Name true l3_5))), (58, .arr 69 2 (List.map GDiag.cs l3_2).length), (68, .arr 46 2 (List.map GTf.cs l3_1).length)]⟩ krf ?_
      refine sR tfm ⟨[4, 5, 6, 7, 9, 10, 11, 19, 20, 21], [9, 11, 17, 58, 68], [], []⟩ ⟨[(4, .tsl 2 (List.map GTf.cs l3_1) 68), (5, .tsl 2 (List.map GDiag.cs l3_2) 58), (6, .mv 17), (7, I (wi (l3_3 + 1))), (9, .ptr 9 0), (10, .p (.sl 7 (List.map GAr.cs j5_1))), (11, .ptr 11 0), (19, .p (.sl 5 (List.map idc a0n.Kids))), (20, I (lenI (List.map idc a0n.Kids))), (21, I l3_4)], [(9, .box 72 (bxc (GNode.cs x4))), (11, .box 69 [I j5_2, I j5_3]), (17, .mp (mpL mk_map_string_bool mv_map_string_bool (mset me_map_string_bool x4.Name true l3_5))), (58, .arr 69 2 (List.map GDiag.cs l3_2).length), (68, .arr 46 2 (List.map GTf.cs l3_1).length)]⟩ krf ?_
      refine sim_bind (fun j7 => ⟨[(4, .tsl 2 (List.map GTf.cs l3_1) 68), (5, .tsl 2 (List.map GDiag.cs j7) 58), (6, .mv 17), (7, I (wi (l3_3 + 1))), (9, .ptr 9 0), (10, .p (.sl 7 (List.map GAr.cs j5_1))), (19, .p (.sl 5 (List.map idc a0n.Kids))), (20, I (lenI (List.map idc a0n.Kids))), (21, I l3_4)], [(9, .box 72 (bxc (GNode.cs x4))), (17, .mp (mpL mk_map_string_bool mv_map_string_bool (mset me_map_string_bool x4.Name true l3_5))), (58, .arr 69 2 (List.map GDiag.cs j7).length), (68, .arr 46 2 (List.map GTf.cs l3_1).length)]⟩ : (List GDiag) → St) ?_ ?_
      ·refine sR tfm ⟨[4, 5, 6, 7, 9, 10, 11, 19, 20, 21, 54], [9, 11, 17, 58, 68], [], []⟩ ⟨[(4, .tsl 2 (List.map GTf.cs l3_1) 68), (5, .tsl 2 (List.map GDiag.cs l3_2) 58), (6, .mv 17), (7, I (wi (l3_3 + 1))), (9, .ptr 9 0), (10, .p (.sl 7 (List.map GAr.cs j5_1))), (11, .ptr 11 0), (19, .p (.sl 5 (List.map idc a0n.Kids))), (20, I (lenI (List.map idc a0n.Kids))), (21, I l3_4), (54, B (!eqI j5_2 0))], [(9, .box 72 (bxc (GNode.cs x4))), (11, .box 69 [I j5_2, I j5_3]), (17, .mp (mpL mk_map_string_bool mv_map_string_bool (mset me_map_string_bool x4.Name true l3_5))), (58, .arr 69 2 (List.map GDiag.cs l3_2).length), (68, .arr 46 2 (List.map GTf.cs l3_1).length)]⟩ krf ?_
       refine sC (!eqI j5_2 0) krf ?_ ?_
       ·refine sG ?_
        refine xR 3 krf ?_
        refine xF krf krf (aop_app (e := 69) (S := 2) (by_ := 16) (enc := GDiag.cs) (tk := 58) (l := l3_2) (l2 := [(⟨j5_2, j5_3⟩ : GDiag)]) (xv := .tsl 2 (List.map GDiag.cs [(⟨j5_2, j5_3⟩ : GDiag)]) 57) rfl krf krf rfl krf krf krf rfl krf) ?_
        refine xR 1 krf ?_
        refine xE ?_
        exact nq_n (l3_2 ++ [(⟨j5_2, j5_3⟩ : GDiag)]) ⟨[4, 5, 6, 7, 9, 10, 19, 20, 21], [9, 17, 58, 68], [], []⟩ krf
       ·refine sK ?_
        exact nq_n l3_2 ⟨[4, 5, 6, 7, 9, 10, 19, 20, 21], [9, 17, 58, 68], [], []⟩ krf
      ·rintro j7
       refine sS ?_
       refine sR tfm ⟨[4, 5, 6, 7, 9, 10, 19, 20, 21, 61], [9, 17, 58, 68], [], []⟩ ⟨[(4, .tsl 2 (List.map GTf.cs l3_1) 68), (5, .tsl 2 (List.map GDiag.cs j7) 58), (6, .mv 17), (7, I (wi (l3_3 + 1))), (9, .ptr 9 0), (10, .p (.sl 7 (List.map GAr.cs j5_1))), (19, .p (.sl 5 (List.map idc a0n.Kids))), (20, I (lenI (List.map idc a0n.Kids))), (21, I l3_4), (61, B (eqI (lenI (List.map GDiag.cs j7)) 20))], [(9, .box 72 (bxc (GNode.cs x4))), (17, .mp (mpL mk_map_string_bool mv_map_string_bool (mset me_map_string_bool x4.Name true l3_5))), (58, .arr 69 2 (List.map GDiag.cs j7).length), (68, .arr 46 2 (List.map GTf.cs l3_1).length)]⟩ krf ?_
       refine sC (eqI (lenI (List.map GDiag.cs j7)) 20) krf ?_ ?_
       ·refine sim_exit ?_
        refine sq_x ?_
        refine bq_miss rfl ?_
        refine sq_x ?_
        refine kq_x ?_
        refine bq_hit ?_
        exact nq_n (l3_1, j7) ⟨[4, 5], [58, 68], [], []⟩ krf
       ·refine sK ?_
        refine sN ⟨[4, 5, 6, 7, 9, 10, 19, 20, 21], [9, 17, 58, 68], [], []⟩ ⟨[(4, .tsl 2 (List.map GTf.cs l3_1) 68), (5, .tsl 2 (List.map GDiag.cs j7) 58), (6, .mv 17), (7, I (wi (l3_3 + 1))), (9, .ptr 9 0), (10, .p (.sl 7 (List.map GAr.cs j5_1))), (19, .p (.sl 5 (List.map idc a0n.Kids))), (20, I (lenI (List.map idc a0n.Kids))), (21, I l3_4)], [(9, .box 72 (bxc (GNode.cs x4))), (17, .mp (mpL mk_map_string_bool mv_map_string_bool (mset me_map_string_bool x4.Name true l3_5))), (58, .arr 69 2 (List.map GDiag.cs j7).length), (68, .arr 46 2 (List.map GTf.cs l3_1).length)]⟩ krf ?_
        refine sG ?_
        refine xR 6 krf ?_
        refine xF krf krf (aop_app (e := 46) (S := 2) (by_ := 40) (enc := GTf.cs) (tk := 68) (l := l3_1) (l2 := [(⟨x4.Name, j5_1⟩ : GTf)]) (xv := .tsl 2 (List.map GTf.cs [(⟨x4.Name, j5_1⟩ : GTf)]) 67) rfl krf krf rfl krf krf krf rfl krf) ?_
        refine xR 1 krf ?_
        refine xE ?_
        refine bq_n ?_
        refine sN ⟨[4, 5, 6, 7, 19, 20, 21], [17, 58, 68], [], []⟩ ⟨[(4, .tsl 2 (List.map GTf.cs (l3_1 ++ [(⟨x4.Name, j5_1⟩ : GTf)])) 68), (5, .tsl 2 (List.map GDiag.cs j7) 58), (6, .mv 17), (7, I (wi (l3_3 + 1))), (19, .p (.sl 5 (List.map idc a0n.Kids))), (20, I (lenI (List.map idc a0n.Kids))), (21, I l3_4)], [(17, .mp (mpL mk_map_string_bool mv_map_string_bool (mset me_map_string_bool x4.Name true l3_5))), (58, .arr 69 2 (List.map GDiag.cs j7).length), (68, .arr 46 2 (List.map GTf.cs (l3_1 ++ [(⟨x4.Name, j5_1⟩ : GTf)])).length)]⟩ krf ?_
        refine sL tfm krf ?_
        exact kq_n (l3_1 ++ [(⟨x4.Name, j5_1⟩ : GTf)], j7, wi (l3_3 + 1), wi (l3_4 + 1), mset me_map_string_bool x4.Name true l3_5) ⟨[4, 5, 6, 7, 19, 20, 21], [17, 58, 68], [], []⟩ krf
   ·refine sim_exit ?_
    refine sq_x ?_
    refine kq_x ?_
    refine bq_hit ?_
    exact nq_n (l3_1, l3_2) ⟨[4, 5], [58, 68], [], []⟩ krf
  ·rintro ⟨j2_1, j2_2⟩
   refine sS ?_
   refine sR tfm ⟨[4, 5, 72], [58, 68], [], []⟩ ⟨[(4, .tsl 2 (List.map GTf.cs j2_1) 68), (5, .tsl 2 (List.map GDiag.cs j2_2) 58), (72, B (ltI 0 (lenI (List.map GDiag.cs j2_2))))], [(58, .arr 69 2 (List.map GDiag.cs j2_2).length), (68, .arr 46 2 (List.map GTf.cs j2_1).length)]⟩ krf ?_
   refine sC (ltI 0 (lenI (List.map GDiag.cs j2_2))) krf ?_ ?_
   ·refine sR tfm ⟨[2, 3], [58], [], []⟩ ⟨[(2, .p (.val (.slice none 0 0))), (3, .tsl 2 (List.map GDiag.cs j2_2) 58)], [(58, .arr 69 2 (List.map GDiag.cs j2_2).length)]⟩ krf ?_
    refine sT ?_
    refine sq_r ?_
    exact qR (.agg [.sl 2, .sl 2]) krf krf krf
   ·refine sK ?_
    refine sN ⟨[4], [68], [], []⟩ ⟨[(4, .tsl 2 (List.map GTf.cs j2_1) 68)], [(68, .arr 46 2 (List.map GTf.cs j2_1).length)]⟩ krf ?_
    refine sR tfm ⟨[2, 3], [68], [], []⟩ ⟨[(2, .tsl 2 (List.map GTf.cs j2_1) 68), (3, .p (.val (.slice none 0 0)))], [(68, .arr 46 2 (List.map GTf.cs j2_1).length)]⟩ krf ?_
    refine sT ?_
    exact qR (.agg [.sl 2, .sl 2]) krf krf krf
def g_law32_builds (n : Nat) (a0source : List UInt8) : Option ((List GTf) × (List GDiag) × Bool) :=
 (g_p_Parse n a0source).bind fun r1 =>
 (g_t_Build n r1.1).bind fun r2 =>
 some (r2.1, r2.2, eqI (lenI (List.map GDiag.cs r1.2)) 0)
theorem g_law32_builds_ok (n : Nat) (a0source : List UInt8) : ∀ r, g_law32_builds n a0source = some r → PCall Try.prog 25 [S a0source] (.ret (.tup [.p (.sl 2 (List.map GTf.cs r.1)), .p (.sl 2 (List.map GDiag.cs r.2.1)), B r.2.2])) := by
 refine pcall_sim (X := fun r : (List GTf) × (List GDiag) × Bool => AEnd.ret (.tup [.p (.sl 2 (List.map GTf.cs r.1)), .p (.sl 2 (List.map GDiag.cs r.2.1)), B r.2.2])) Try.func25 rfl Try.ntmps25 rfl ?_
 unfold g_law32_builds
 refine sR tfm ⟨[0], [], [], []⟩ ⟨[(0, S a0source)], []⟩ krf ?_
 refine sS ?_
 refine sG ?_
 refine xR 1 krf ?_
 refine xC [] krf (g_p_Parse_ok n a0source) krf krf (fun _ => by kernel_rfl) (fun r1 => ?_)
 refine xR 6 krf ?_
 refine xE ?_
 refine sN ⟨[5, 6], [5], [], []⟩ ⟨[(5, .ptr 5 0), (6, .p (.sl 2 (List.map GDiag.cs r1.2)))], [(5, .box 72 (bxc (GNode.cs r1.1)))]⟩ krf ?_
 refine sS ?_
 refine sG ?_
 refine xR 1 krf ?_
 refine xC [] krf (g_t_Build_ok n r1.1) krf krf (fun _ => by kernel_rfl) (fun r2 => ?_)
 refine xR 5 krf ?_
 refine xE ?_
 refine sN ⟨[6, 7, 8], [], [], []⟩ ⟨[(6, .p (.sl 2 (List.map GDiag.cs r1.2))), (7, .p (.sl 2 (List.map GTf.cs r2.1))), (8, .p (.sl 2 (List.map GDiag.cs r2.2)))], []⟩ krf ?_
 refine sR tfm ⟨[2, 3, 4], [], [], []⟩ ⟨[(2, .p (.sl 2 (List.map GTf.cs r2.1))), (3, .p (.sl 2 (List.map GDiag.cs r2.2))), (4, B (eqI (lenI (List.map GDiag.cs r1.2)) 0))], []⟩ krf ?_
 refine sT ?_
 exact qR (.id) krf krf krf
def g_ref32_Same_l3 (a0a : GTf) (a1b : GTf) (recl3 : Int → Option Bool) (l3 : Int) : Option Bool :=
 cond (ltI l3 (lenI (List.map GAr.cs a0a.Articles)))
  ((getI a0a.Articles l3).bind fun x4 =>
  (getI a1b.Articles l3).bind fun x5 =>
  cond (!opq ((eqI x4.Kind x5.Kind) && ((eqI x4.Days x5.Days) && ((eqI x4.From x5.From) && ((eqI x4.To x5.To) && ((eqI x4.Price x5.Price) && ((eqI x4.Unit x5.Unit) && ((eqI x4.Free x5.Free) && true))))))))
   (some false)
   (recl3 (wi (l3 + 1))))
  (some true)
def g_ref32_Same (n : Nat) (a0a : GTf) (a1b : GTf) : Option Bool :=
 (cond (!eqS a0a.Name a1b.Name)
  (some true)
  (some (!eqI (lenI (List.map GAr.cs a0a.Articles)) (lenI (List.map GAr.cs a1b.Articles))))).bind fun j1 =>
 cond j1
  (some false)
  (loopN (fun recl3 l3 => g_ref32_Same_l3 a0a a1b recl3 l3) n 0)
theorem g_ref32_Same_ok (n : Nat) (a0a : GTf) (a1b : GTf) : ∀ r, g_ref32_Same n a0a a1b = some r → PCall Try.prog 26 [ag (GTf.cs a0a), ag (GTf.cs a1b)] (.ret (B r)) := by
 refine pcall_sim (X := fun r : Bool => AEnd.ret (B r)) Try.func26 rfl Try.ntmps26 rfl ?_
 unfold g_ref32_Same
 refine sR tfm ⟨[2, 3], [2, 3], [], []⟩ ⟨[(2, .ptr 2 0), (3, .ptr 3 0)], [(2, .box 46 (bxc (GTf.cs a0a))), (3, .box 46 (bxc (GTf.cs a1b)))]⟩ krf ?_
 refine sS ?_
 refine sim_bind (fun j1 => ⟨[(2, .ptr 2 0), (3, .ptr 3 0), (19, B j1)], [(2, .box 46 (bxc (GTf.cs a0a))), (3, .box 46 (bxc (GTf.cs a1b)))]⟩ : Bool → St) ?_ ?_
 ·refine sG ?_
  refine xR 6 krf ?_
  refine xS (!eqS a0a.Name a1b.Name) (fun h2 => ?_) (fun h2 => ?_)
  ·refine xN (want_ft krf h2) krf ?_
   refine xR 7 krf ?_
   refine xE ?_
   exact nq_n true ⟨[2, 3, 19], [2, 3], [], []⟩ krf
  ·refine xO (want_ff krf h2) krf ?_
   refine xR 7 krf ?_
   refine xE ?_
   exact nq_n (!eqI (lenI (List.map GAr.cs a0a.Articles)) (lenI (List.map GAr.cs a1b.Articles))) ⟨[2, 3, 19], [2, 3], [], []⟩ krf
 ·rintro j1
  refine sC j1 krf ?_ ?_
  ·refine sR tfm ⟨[4], [], [], []⟩ ⟨[(4, B false)], []⟩ krf ?_
   refine sT ?_
   refine sq_r ?_
   exact qR (.id) krf krf krf
  ·refine sK ?_
   refine sN ⟨[2, 3], [2, 3], [], []⟩ ⟨[(2, .ptr 2 0), (3, .ptr 3 0)], [(2, .box 46 (bxc (GTf.cs a0a))), (3, .box 46 (bxc (GTf.cs a1b)))]⟩ krf ?_
   refine sS ?_
   refine sR tfm ⟨[2, 3, 5], [2, 3], [], []⟩ ⟨[(2, .ptr 2 0), (3, .ptr 3 0), (5, I 0)], [(2, .box 46 (bxc (GTf.cs a0a))), (3, .box 46 (bxc (GTf.cs a1b)))]⟩ krf ?_
   refine sB ?_
   refine sim_loop (fun l3 => ⟨[(2, .ptr 2 0), (3, .ptr 3 0), (5, I l3)], [(2, .box 46 (bxc (GTf.cs a0a))), (3, .box 46 (bxc (GTf.cs a1b)))]⟩ : Int → St) (weak_shr (K := ⟨[2, 3, 5], [2, 3], [], []⟩) krf) ?_
   rintro recl3 l3
   show SimE (g_ref32_Same_l3 a0a a1b recl3 l3) _ _ _ _ _ _
   unfold g_ref32_Same_l3
   refine sS ?_
   refine sR tfm ⟨[2, 3, 5, 24], [2, 3], [], []⟩ ⟨[(2, .ptr 2 0), (3, .ptr 3 0), (5, I l3), (24, B (ltI l3 (lenI (List.map GAr.cs a0a.Articles))))], [(2, .box 46 (bxc (GTf.cs a0a))), (3, .box 46 (bxc (GTf.cs a1b)))]⟩ krf ?_
   refine sC (ltI l3 (lenI (List.map GAr.cs a0a.Articles))) krf ?_ ?_
   ·refine sK ?_
    refine sN ⟨[2, 3, 5], [2, 3], [], []⟩ ⟨[(2, .ptr 2 0), (3, .ptr 3 0), (5, I l3)], [(2, .box 46 (bxc (GTf.cs a0a))), (3, .box 46 (bxc (GTf.cs a1b)))]⟩ krf ?_
    refine sS ?_
    refine sB ?_
    refine sS ?_
    refine sim_drw tfm rfl ?_
    refine xR 3 krf ?_
    refine xG krf krf (aop_idx (e := 23) (S := 7) (enc := GAr.cs) (l := a0a.Articles) (k := .i64) (n := l3) (sv := .p (.sl 7 (List.map GAr.cs a0a.Articles))) rfl krf krf krf krf krf) (fun x4 => ?_)
    refine xR 4 krf ?_
    refine xG krf krf (aop_idx (e := 23) (S := 7) (enc := GAr.cs) (l := a1b.Articles) (k := .i64) (n := l3) (sv := .p (.sl 7 (List.map GAr.cs a1b.Articles))) rfl krf krf krf krf krf) (fun x5 => ?_)
    refine xR 1 krf ?_
    refine xs_u krf krf (aop_neq (xs := [I x4.Kind, I x4.Days, I x4.From, I x4.To, I x4.Price, I x4.Unit, I x4.Free]) (ys := [I x5.Kind, I x5.Days, I x5.From, I x5.To, I x5.Price, I x5.Unit, I x5.Free]) (vx := [.int .i64 x4.Kind, .int .i64 x4.Days, .int .i64 x4.From, .int .i64 x4.To, .int .i64 x4.Price, .int .i64 x4.Unit, .int .i64 x4.Free]) (vy := [.int .i64 x5.Kind, .int .i64 x5.Days, .int .i64 x5.From, .int .i64 x5.To, .int .i64 x5.Price, .int .i64 x5.Unit, .int .i64 x5.Free]) (b := (eqI x4.Kind x5.Kind) && ((eqI x4.Days x5.Days) && ((eqI x4.From x5.From) && ((eqI x4.To x5.To) && ((eqI x4.Price x5.Price) && ((eqI x4.Unit x5.Unit) && ((eqI x4.Free x5.Free) && true))))))) rfl krf krf krf krf krf krf) ?_
    refine xs_endD krf ?_
    refine sN ⟨[2, 3, 5, 37], [2, 3], [], []⟩ ⟨[(2, .ptr 2 0), (3, .ptr 3 0), (5, I l3), (37, B (!opq ((eqI x4.Kind x5.Kind) && ((eqI x4.Days x5.Days) && ((eqI x4.From x5.From) && ((eqI x4.To x5.To) && ((eqI x4.Price x5.Price) && ((eqI x4.Unit x5.Unit) && ((eqI x4.Free x5.Free) && true)))))))))], [(2, .box 46 (bxc (GTf.cs a0a))), (3, .box 46 (bxc (GTf.cs a1b)))]⟩ krf ?_
    refine sC (!opq ((eqI x4.Kind x5.Kind) && ((eqI x4.Days x5.Days) && ((eqI x4.From x5.From) && ((eqI x4.To x5.To) && ((eqI x4.Price x5.Price) && ((eqI x4.Unit x5.Unit) && ((eqI x4.Free x5.Free) && true)))))))) krf ?_ ?_
    ·refine sR tfm ⟨[4], [], [], []⟩ ⟨[(4, B false)], []⟩ krf ?_
     refine sT ?_
     refine bq_r ?_
     refine sq_r ?_
     refine kq_r ?_
     refine bq_r ?_
     refine sq_r ?_
     exact qR (.id) krf krf krf
    ·refine sK ?_
     refine bq_n ?_
     refine sN ⟨[2, 3, 5], [2, 3], [], []⟩ ⟨[(2, .ptr 2 0), (3, .ptr 3 0), (5, I l3)], [(2, .box 46 (bxc (GTf.cs a0a))), (3, .box 46 (bxc (GTf.cs a1b)))]⟩ krf ?_
     refine sL tfm krf ?_
     exact kq_n (wi (l3 + 1)) ⟨[2, 3, 5], [2, 3], [], []⟩ krf
   ·refine sim_exit ?_
    refine sq_x ?_
    refine kq_x ?_
    refine bq_hit ?_
    refine sN ⟨[], [], [], []⟩ ⟨[], []⟩ krf ?_
    refine sR tfm ⟨[4], [], [], []⟩ ⟨[(4, B true)], []⟩ krf ?_
    refine sT ?_
    exact qR (.id) krf krf krf
def g_law32_is (n : Nat) (a0source : List UInt8) (a1a : GAr) : Option Bool :=
 (g_law32_builds n a0source).bind fun r1 =>
 cond r1.2.2
  (cond (eqI (lenI (List.map GDiag.cs r1.2.1)) 0)
   (cond (eqI (lenI (List.map GTf.cs r1.1)) 1)
    ((getI r1.1 0).bind fun x5 =>
    (g_ref32_Same n x5 (⟨[116], [a1a]⟩ : GTf)).bind fun r6 =>
    some r6)
    (some false))
   (some false))
  (some false)
theorem g_law32_is_ok (n : Nat) (a0source : List UInt8) (a1a : GAr) : ∀ r, g_law32_is n a0source a1a = some r → PCall Try.prog 11 [S a0source, ag (GAr.cs a1a)] (.ret (B r)) := by
 refine pcall_sim (X := fun r : Bool => AEnd.ret (B r)) Try.func11 rfl Try.ntmps11 rfl ?_
 unfold g_law32_is
 refine sR tfm ⟨[0, 3], [3], [], []⟩ ⟨[(0, S a0source), (3, .ptr 3 0)], [(3, .box 23 (bxc (GAr.cs a1a)))]⟩ krf ?_
 refine sS ?_
 refine sG ?_
 refine xR 1 krf ?_
 refine xC [] krf (g_law32_builds_ok n a0source) krf krf (fun _ => by kernel_rfl) (fun r1 => ?_)
 refine xR 7 krf ?_
 refine xE ?_
 refine sN ⟨[3, 5, 6, 7], [3], [], []⟩ ⟨[(3, .ptr 3 0), (5, .p (.sl 2 (List.map GTf.cs r1.1))), (6, .p (.sl 2 (List.map GDiag.cs r1.2.1))), (7, B r1.2.2)], [(3, .box 23 (bxc (GAr.cs a1a)))]⟩ krf ?_
 refine sS ?_
 refine sim_drw tfm rfl ?_
 refine xR 2 krf ?_
 refine xS r1.2.2 (fun h2 => ?_) (fun h2 => ?_)
 ·refine xO (want_tt krf h2) krf ?_
  refine xR 4 krf ?_
  refine xS (eqI (lenI (List.map GDiag.cs r1.2.1)) 0) (fun h3 => ?_) (fun h3 => ?_)
  ·refine xO (want_tt krf h3) krf ?_
   refine xR 4 krf ?_
   refine xS (eqI (lenI (List.map GTf.cs r1.1)) 1) (fun h4 => ?_) (fun h4 => ?_)
   ·refine xO (want_tt krf h4) krf ?_
    refine xG krf krf (aop_idx (e := 46) (S := 2) (enc := GTf.cs) (l := r1.1) (k := .i64) (n := 0) (sv := .p (.sl 2 (List.map GTf.cs r1.1))) rfl krf krf krf krf krf) (fun x5 => ?_)
    refine xR 4 krf ?_
    refine xC [.id, .agg [.id, .sl 7]] krf (g_ref32_Same_ok n x5 (⟨[116], [a1a]⟩ : GTf)) krf krf (fun _ => by kernel_rfl) (fun r6 => ?_)
    refine xR 2 krf ?_
    refine xs_endD krf ?_
    refine sN ⟨[4], [], [], []⟩ ⟨[(4, B r6)], []⟩ krf ?_
    refine sT ?_
    exact qR (.id) krf krf krf
   ·refine xN (want_tf krf h4) krf ?_
    refine xR 8 krf ?_
    refine xs_endD krf ?_
    refine sN ⟨[4], [], [], []⟩ ⟨[(4, B false)], []⟩ krf ?_
    refine sT ?_
    exact qR (.id) krf krf krf
  ·refine xN (want_tf krf h3) krf ?_
   refine xR 13 krf ?_
   refine xs_endD krf ?_
   refine sN ⟨[4], [], [], []⟩ ⟨[(4, B false)], []⟩ krf ?_
   refine sT ?_
   exact qR (.id) krf krf krf
 ·refine xN (want_tf krf h2) krf ?_
  refine xR 18 krf ?_
  refine xs_endD krf ?_
  refine sN ⟨[4], [], [], []⟩ ⟨[(4, B false)], []⟩ krf ?_
  refine sT ?_
  exact qR (.id) krf krf krf
def g_ref02_SameDiags_l1 (a0a : List GDiag) (a1b : List GDiag) (recl1 : Int → Option Bool) (l1 : Int) : Option Bool :=
 cond (ltI l1 (lenI (List.map GDiag.cs a0a)))
  ((getI a0a l1).bind fun x2 =>
  (getI a1b l1).bind fun x3 =>
  cond (!opq ((eqI x2.Err x3.Err) && ((eqI x2.At x3.At) && true)))
   (some false)
   (recl1 (wi (l1 + 1))))
  (some true)
def g_ref02_SameDiags (n : Nat) (a0a : List GDiag) (a1b : List GDiag) : Option Bool :=
 cond (!eqI (lenI (List.map GDiag.cs a0a)) (lenI (List.map GDiag.cs a1b)))
  (some false)
  (loopN (fun recl1 l1 => g_ref02_SameDiags_l1 a0a a1b recl1 l1) n 0)
theorem g_ref02_SameDiags_ok (n : Nat) (a0a : List GDiag) (a1b : List GDiag) : ∀ r, g_ref02_SameDiags n a0a a1b = some r → PCall Try.prog 27 [.p (.sl 2 (List.map GDiag.cs a0a)), .p (.sl 2 (List.map GDiag.cs a1b))] (.ret (B r)) := by
 refine pcall_sim (X := fun r : Bool => AEnd.ret (B r)) Try.func27 rfl Try.ntmps27 rfl ?_
 unfold g_ref02_SameDiags
 refine sR tfm ⟨[0, 1], [], [], []⟩ ⟨[(0, .p (.sl 2 (List.map GDiag.cs a0a))), (1, .p (.sl 2 (List.map GDiag.cs a1b)))], []⟩ krf ?_
 refine sS ?_
 refine sR tfm ⟨[0, 1, 10], [], [], []⟩ ⟨[(0, .p (.sl 2 (List.map GDiag.cs a0a))), (1, .p (.sl 2 (List.map GDiag.cs a1b))), (10, B (!eqI (lenI (List.map GDiag.cs a0a)) (lenI (List.map GDiag.cs a1b))))], []⟩ krf ?_
 refine sC (!eqI (lenI (List.map GDiag.cs a0a)) (lenI (List.map GDiag.cs a1b))) krf ?_ ?_
 ·refine sR tfm ⟨[4], [], [], []⟩ ⟨[(4, B false)], []⟩ krf ?_
  refine sT ?_
  refine sq_r ?_
  exact qR (.id) krf krf krf
 ·refine sK ?_
  refine sN ⟨[0, 1], [], [], []⟩ ⟨[(0, .p (.sl 2 (List.map GDiag.cs a0a))), (1, .p (.sl 2 (List.map GDiag.cs a1b)))], []⟩ krf ?_
  refine sS ?_
  refine sR tfm ⟨[0, 1, 5], [], [], []⟩ ⟨[(0, .p (.sl 2 (List.map GDiag.cs a0a))), (1, .p (.sl 2 (List.map GDiag.cs a1b))), (5, I 0)], []⟩ krf ?_
  refine sB ?_
  refine sim_loop (fun l1 => ⟨[(0, .p (.sl 2 (List.map GDiag.cs a0a))), (1, .p (.sl 2 (List.map GDiag.cs a1b))), (5, I l1)], []⟩ : Int → St) (weak_shr (K := ⟨[0, 1, 5], [], [], []⟩) krf) ?_
  rintro recl1 l1
  show SimE (g_ref02_SameDiags_l1 a0a a1b recl1 l1) _ _ _ _ _ _
  unfold g_ref02_SameDiags_l1
  refine sS ?_
  refine sR tfm ⟨[0, 1, 5, 14], [], [], []⟩ ⟨[(0, .p (.sl 2 (List.map GDiag.cs a0a))), (1, .p (.sl 2 (List.map GDiag.cs a1b))), (5, I l1), (14, B (ltI l1 (lenI (List.map GDiag.cs a0a))))], []⟩ krf ?_
  refine sC (ltI l1 (lenI (List.map GDiag.cs a0a))) krf ?_ ?_
  ·refine sK ?_
   refine sN ⟨[0, 1, 5], [], [], []⟩ ⟨[(0, .p (.sl 2 (List.map GDiag.cs a0a))), (1, .p (.sl 2 (List.map GDiag.cs a1b))), (5, I l1)], []⟩ krf ?_
   refine sS ?_
   refine sB ?_
   refine sS ?_
   refine sim_drw tfm rfl ?_
   refine xR 2 krf ?_
   refine xG krf krf (aop_idx (e := 69) (S := 2) (enc := GDiag.cs) (l := a0a) (k := .i64) (n := l1) (sv := .p (.sl 2 (List.map GDiag.cs a0a))) rfl krf krf krf krf krf) (fun x2 => ?_)
   refine xR 3 krf ?_
   refine xG krf krf (aop_idx (e := 69) (S := 2) (enc := GDiag.cs) (l := a1b) (k := .i64) (n := l1) (sv := .p (.sl 2 (List.map GDiag.cs a1b))) rfl krf krf krf krf krf) (fun x3 => ?_)
   refine xR 1 krf ?_
   refine xs_u krf krf (aop_neq (xs := [I x2.Err, I x2.At]) (ys := [I x3.Err, I x3.At]) (vx := [.int .i64 x2.Err, .int .i64 x2.At]) (vy := [.int .i64 x3.Err, .int .i64 x3.At]) (b := (eqI x2.Err x3.Err) && ((eqI x2.At x3.At) && true)) rfl krf krf krf krf krf krf) ?_
   refine xs_endD krf ?_
   refine sN ⟨[0, 1, 5, 25], [], [], []⟩ ⟨[(0, .p (.sl 2 (List.map GDiag.cs a0a))), (1, .p (.sl 2 (List.map GDiag.cs a1b))), (5, I l1), (25, B (!opq ((eqI x2.Err x3.Err) && ((eqI x2.At x3.At) && true))))], []⟩ krf ?_
   refine sC (!opq ((eqI x2.Err x3.Err) && ((eqI x2.At x3.At) && true))) krf ?_ ?_
   ·refine sR tfm ⟨[4], [], [], []⟩ ⟨[(4, B false)], []⟩ krf ?_
    refine sT ?_
    refine bq_r ?_
    refine sq_r ?_
    refine kq_r ?_
    refine bq_r ?_
    refine sq_r ?_
    exact qR (.id) krf krf krf
   ·refine sK ?_
    refine bq_n ?_
    refine sN ⟨[0, 1, 5], [], [], []⟩ ⟨[(0, .p (.sl 2 (List.map GDiag.cs a0a))), (1, .p (.sl 2 (List.map GDiag.cs a1b))), (5, I l1)], []⟩ krf ?_
    refine sL tfm krf ?_
    exact kq_n (wi (l1 + 1)) ⟨[0, 1, 5], [], [], []⟩ krf
  ·refine sim_exit ?_
   refine sq_x ?_
   refine kq_x ?_
   refine bq_hit ?_
   refine sN ⟨[], [], [], []⟩ ⟨[], []⟩ krf ?_
   refine sR tfm ⟨[4], [], [], []⟩ ⟨[(4, B true)], []⟩ krf ?_
   refine sT ?_
   exact qR (.id) krf krf krf
def g_law32_fails (n : Nat) (a0source : List UInt8) (a1e : Int) (a2at : Int) : Option Bool :=
 (g_law32_builds n a0source).bind fun r1 =>
 cond r1.2.2
  (cond (eqI (lenI (List.map GTf.cs r1.1)) 0)
   ((g_ref02_SameDiags n r1.2.1 [(⟨a1e, a2at⟩ : GDiag)]).bind fun r4 =>
   some r4)
   (some false))
  (some false)
theorem g_law32_fails_ok (n : Nat) (a0source : List UInt8) (a1e : Int) (a2at : Int) : ∀ r, g_law32_fails n a0source a1e a2at = some r → PCall Try.prog 12 [S a0source, I a1e, I a2at] (.ret (B r)) := by
 refine pcall_sim (X := fun r : Bool => AEnd.ret (B r)) Try.func12 rfl Try.ntmps12 rfl ?_
 unfold g_law32_fails
 refine sR tfm ⟨[0, 1, 2], [], [], []⟩ ⟨[(0, S a0source), (1, I a1e), (2, I a2at)], []⟩ krf ?_
 refine sS ?_
 refine sG ?_
 refine xR 1 krf ?_
 refine xC [] krf (g_law32_builds_ok n a0source) krf krf (fun _ => by kernel_rfl) (fun r1 => ?_)
 refine xR 7 krf ?_
 refine xE ?_
 refine sN ⟨[1, 2, 7, 8, 9], [], [], []⟩ ⟨[(1, I a1e), (2, I a2at), (7, .p (.sl 2 (List.map GTf.cs r1.1))), (8, .p (.sl 2 (List.map GDiag.cs r1.2.1))), (9, B r1.2.2)], []⟩ krf ?_
 refine sS ?_
 refine sG ?_
 refine xR 2 krf ?_
 refine xS r1.2.2 (fun h2 => ?_) (fun h2 => ?_)
 ·refine xO (want_tt krf h2) krf ?_
  refine xR 4 krf ?_
  refine xS (eqI (lenI (List.map GTf.cs r1.1)) 0) (fun h3 => ?_) (fun h3 => ?_)
  ·refine xO (want_tt krf h3) krf ?_
   refine xR 4 krf ?_
   refine xC [.id, .sl 2] krf (g_ref02_SameDiags_ok n r1.2.1 [(⟨a1e, a2at⟩ : GDiag)]) krf krf (fun _ => by kernel_rfl) (fun r4 => ?_)
   refine xR 2 krf ?_
   refine xE ?_
   refine sN ⟨[6], [], [], []⟩ ⟨[(6, B r4)], []⟩ krf ?_
   refine sT ?_
   exact qR (.id) krf krf krf
  ·refine xN (want_tf krf h3) krf ?_
   refine xR 7 krf ?_
   refine xE ?_
   refine sN ⟨[6], [], [], []⟩ ⟨[(6, B false)], []⟩ krf ?_
   refine sT ?_
   exact qR (.id) krf krf krf
 ·refine xN (want_tf krf h2) krf ?_
  refine xR 12 krf ?_
  refine xE ?_
  refine sN ⟨[6], [], [], []⟩ ⟨[(6, B false)], []⟩ krf ?_
  refine sT ?_
  exact qR (.id) krf krf krf
def g_days_inside (n : Nat) (a0n : Int) (a1least : Int) (a2greatest : Int) : Option Bool :=
 cond (leI a1least a0n)
  (some (leI a0n a2greatest))
  (some false)
theorem g_days_inside_ok (n : Nat) (a0n : Int) (a1least : Int) (a2greatest : Int) : ∀ r, g_days_inside n a0n a1least a2greatest = some r → PCall Try.prog 18 [I a0n, I a1least, I a2greatest] (.ret (B r)) := by
 refine pcall_sim (X := fun r : Bool => AEnd.ret (B r)) Try.func18 rfl Try.ntmps18 rfl ?_
 unfold g_days_inside
 refine sR tfm ⟨[0, 1, 2], [], [], []⟩ ⟨[(0, I a0n), (1, I a1least), (2, I a2greatest)], []⟩ krf ?_
 refine sS ?_
 refine sG ?_
 refine xR 4 krf ?_
 refine xS (leI a1least a0n) (fun h1 => ?_) (fun h1 => ?_)
 ·refine xO (want_tt krf h1) krf ?_
  refine xR 4 krf ?_
  refine xE ?_
  refine sN ⟨[6], [], [], []⟩ ⟨[(6, B (leI a0n a2greatest))], []⟩ krf ?_
  refine sT ?_
  exact qR (.id) krf krf krf
 ·refine xN (want_tf krf h1) krf ?_
  refine xR 4 krf ?_
  refine xE ?_
  refine sN ⟨[6], [], [], []⟩ ⟨[(6, B false)], []⟩ krf ?_
  refine sT ?_
  exact qR (.id) krf krf krf
def g_days_keys_1 (n : Nat) (a0c : GCh) : Option Int :=
 some a0c.At
theorem g_days_keys_1_ok (n : Nat) (a0c : GCh) : ∀ r, g_days_keys_1 n a0c = some r → PCall Try.prog 32 [ag (GCh.cs a0c)] (.ret (I r)) := by
 refine pcall_sim (X := fun r : Int => AEnd.ret (I r)) Try.func32 rfl Try.ntmps32 rfl ?_
 unfold g_days_keys_1
 refine sR tfm ⟨[1], [1], [], []⟩ ⟨[(1, .ptr 1 0)], [(1, .box 56 (bxc (GCh.cs a0c)))]⟩ krf ?_
 refine sR tfm ⟨[2], [], [], []⟩ ⟨[(2, I a0c.At)], []⟩ krf ?_
 refine sT ?_
 exact qR (.id) krf krf krf
def g_dv_api_Change_l1 (n : Nat) (a0list : List GCh) (a1most : Int) (recl1 : (Int × Int) → Option Bool) (l1_1 : Int) (l1_2 : Int) : Option Bool :=
 cond (ltI l1_2 (lenI (List.map GCh.cs a0list)))
  ((getI a0list l1_2).bind fun x2 =>
  (g_days_keys_1 n x2).bind fun r3 =>
  (cond (leI r3 l1_1)
   (some true)
   (some (ltI a1most r3))).bind fun j4 =>
  cond j4
   (some false)
   ((g_days_keys_1 n x2).bind fun r6 =>
   recl1 (r6, wi (l1_2 + 1))))
  (some true)
def g_dv_api_Change (n : Nat) (a0list : List GCh) (a1most : Int) : Option Bool :=
 loopN (fun recl1 (l1_1, l1_2) => g_dv_api_Change_l1 n a0list a1most recl1 l1_1 l1_2) n ((-1), 0)
theorem g_dv_api_Change_ok (n : Nat) (a0list : List GCh) (a1most : Int) : ∀ r, g_dv_api_Change n a0list a1most = some r → PCall Try.prog 30 [.p (.sl 2 (List.map GCh.cs a0list)), I a1most, .p (.val (.func (.func 32) #[] #[]))] (.ret (B r)) := by
 refine pcall_sim (X := fun r : Bool => AEnd.ret (B r)) Try.func30 rfl Try.ntmps30 rfl ?_
 unfold g_dv_api_Change
 refine sR tfm ⟨[0, 1, 2], [], [], []⟩ ⟨[(0, .p (.sl 2 (List.map GCh.cs a0list))), (1, I a1most), (2, .p (.val (.func (.func 32) #[] #[])))], []⟩ krf ?_
 refine sR tfm ⟨[0, 1, 2, 7], [], [], []⟩ ⟨[(0, .p (.sl 2 (List.map GCh.cs a0list))), (1, I a1most), (2, .p (.val (.func (.func 32) #[] #[]))), (7, I (-1))], []⟩ krf ?_
 refine sS ?_
 refine sR tfm ⟨[1, 2, 7, 11, 12, 13], [], [], []⟩ ⟨[(1, I a1most), (2, .p (.val (.func (.func 32) #[] #[]))), (7, I (-1)), (11, .p (.sl 2 (List.map GCh.cs a0list))), (12, I (lenI (List.map GCh.cs a0list))), (13, I 0)], []⟩ krf ?_
 refine sB ?_
 refine sim_loop (fun (l1_1, l1_2) => ⟨[(1, I a1most), (2, .p (.val (.func (.func 32) #[] #[]))), (7, I l1_1), (11, .p (.sl 2 (List.map GCh.cs a0list))), (12, I (lenI (List.map GCh.cs a0list))), (13, I l1_2)], []⟩ : (Int × Int) → St) (weak_shr (K := ⟨[1, 2, 7, 11, 12, 13], [], [], []⟩) krf) ?_
 rintro recl1 ⟨l1_1, l1_2⟩
 show SimE (g_dv_api_Change_l1 n a0list a1most recl1 l1_1 l1_2) _ _ _ _ _ _
 unfold g_dv_api_Change_l1
 refine sR tfm ⟨[1, 2, 7, 11, 12, 13, 14], [], [], []⟩ ⟨[(1, I a1most), (2, .p (.val (.func (.func 32) #[] #[]))), (7, I l1_1), (11, .p (.sl 2 (List.map GCh.cs a0list))), (12, I (lenI (List.map GCh.cs a0list))), (13, I l1_2), (14, B (ltI l1_2 (lenI (List.map GCh.cs a0list))))], []⟩ krf ?_
 refine sS ?_
 refine sC (ltI l1_2 (lenI (List.map GCh.cs a0list))) krf ?_ ?_
 ·refine sK ?_
  refine sN ⟨[1, 2, 7, 11, 12, 13], [], [], []⟩ ⟨[(1, I a1most), (2, .p (.val (.func (.func 32) #[] #[]))), (7, I l1_1), (11, .p (.sl 2 (List.map GCh.cs a0list))), (12, I (lenI (List.map GCh.cs a0list))), (13, I l1_2)], []⟩ krf ?_
  refine sS ?_
  refine sB ?_
  refine sS ?_
  refine sG ?_
  refine xG krf krf (aop_idx (e := 56) (S := 2) (enc := GCh.cs) (l := a0list) (k := .i64) (n := l1_2) (sv := .p (.sl 2 (List.map GCh.cs a0list))) rfl krf krf krf krf krf) (fun x2 => ?_)
  refine xR 3 krf ?_
  refine xE ?_
  refine sN ⟨[1, 2, 7, 9, 11, 12, 13], [9], [], []⟩ ⟨[(1, I a1most), (2, .p (.val (.func (.func 32) #[] #[]))), (7, I l1_1), (9, .ptr 9 0), (11, .p (.sl 2 (List.map GCh.cs a0list))), (12, I (lenI (List.map GCh.cs a0list))), (13, I l1_2)], [(9, .box 56 (bxc (GCh.cs x2)))]⟩ krf ?_
  refine sS ?_
  refine sS ?_
  refine sG ?_
  refine xR 2 krf ?_
  refine xC [] krf (g_days_keys_1_ok n x2) krf krf (fun _ => by kernel_rfl) (fun r3 => ?_)
  refine xR 1 krf ?_
  refine xE ?_
  refine sN ⟨[1, 2, 7, 9, 10, 11, 12, 13], [9], [], []⟩ ⟨[(1, I a1most), (2, .p (.val (.func (.func 32) #[] #[]))), (7, I l1_1), (9, .ptr 9 0), (10, I r3), (11, .p (.sl 2 (List.map GCh.cs a0list))), (12, I (lenI (List.map GCh.cs a0list))), (13, I l1_2)], [(9, .box 56 (bxc (GCh.cs x2)))]⟩ krf ?_
  refine sim_bind (fun j4 => ⟨[(1, I a1most), (2, .p (.val (.func (.func 32) #[] #[]))), (9, .ptr 9 0), (11, .p (.sl 2 (List.map GCh.cs a0list))), (12, I (lenI (List.map GCh.cs a0list))), (13, I l1_2), (27, B j4)], [(9, .box 56 (bxc (GCh.cs x2)))]⟩ : Bool → St) ?_ ?_
  ·refine sG ?_
   refine xR 4 krf ?_
   refine xS (leI r3 l1_1) (fun h5 => ?_) (fun h5 => ?_)
   ·refine xN (want_ft krf h5) krf ?_
    refine xR 3 krf ?_
    refine xE ?_
    exact nq_n true ⟨[1, 2, 9, 11, 12, 13, 27], [9], [], []⟩ krf
   ·refine xO (want_ff krf h5) krf ?_
    refine xR 3 krf ?_
    refine xE ?_
    exact nq_n (ltI a1most r3) ⟨[1, 2, 9, 11, 12, 13, 27], [9], [], []⟩ krf
  ·rintro j4
   refine sC j4 krf ?_ ?_
   ·refine sR tfm ⟨[6], [], [], []⟩ ⟨[(6, B false)], []⟩ krf ?_
    refine sT ?_
    refine sq_r ?_
    refine bq_r ?_
    refine sq_r ?_
    refine kq_r ?_
    refine bq_r ?_
    refine sq_r ?_
    exact qR (.id) krf krf krf
   ·refine sK ?_
    refine sN ⟨[1, 2, 9, 11, 12, 13], [9], [], []⟩ ⟨[(1, I a1most), (2, .p (.val (.func (.func 32) #[] #[]))), (9, .ptr 9 0), (11, .p (.sl 2 (List.map GCh.cs a0list))), (12, I (lenI (List.map GCh.cs a0list))), (13, I l1_2)], [(9, .box 56 (bxc (GCh.cs x2)))]⟩ krf ?_
    refine sG ?_
    refine xR 2 krf ?_
    refine xC [] krf (g_days_keys_1_ok n x2) krf krf (fun _ => by kernel_rfl) (fun r6 => ?_)
    refine xR 1 krf ?_
    refine xE ?_
    refine bq_n ?_
    refine sN ⟨[1, 2, 7, 11, 12, 13], [], [], []⟩ ⟨[(1, I a1most), (2, .p (.val (.func (.func 32) #[] #[]))), (7, I r6), (11, .p (.sl 2 (List.map GCh.cs a0list))), (12, I (lenI (List.map GCh.cs a0list))), (13, I l1_2)], []⟩ krf ?_
    refine sL tfm krf ?_
    exact kq_n (r6, wi (l1_2 + 1)) ⟨[1, 2, 7, 11, 12, 13], [], [], []⟩ krf
 ·refine sim_exit ?_
  refine sq_x ?_
  refine kq_x ?_
  refine bq_hit ?_
  refine sN ⟨[], [], [], []⟩ ⟨[], []⟩ krf ?_
  refine sR tfm ⟨[6], [], [], []⟩ ⟨[(6, B true)], []⟩ krf ?_
  refine sT ?_
  exact qR (.id) krf krf krf
def g_days_keys_2 (n : Nat) (a0day : Int) : Option Int :=
 some a0day
theorem g_days_keys_2_ok (n : Nat) (a0day : Int) : ∀ r, g_days_keys_2 n a0day = some r → PCall Try.prog 33 [I a0day] (.ret (I r)) := by
 refine pcall_sim (X := fun r : Int => AEnd.ret (I r)) Try.func33 rfl Try.ntmps33 rfl ?_
 unfold g_days_keys_2
 refine sR tfm ⟨[0], [], [], []⟩ ⟨[(0, I a0day)], []⟩ krf ?_
 refine sR tfm ⟨[2], [], [], []⟩ ⟨[(2, I a0day)], []⟩ krf ?_
 refine sT ?_
 exact qR (.id) krf krf krf
def g_dv_int_l1 (n : Nat) (a0list : List Int) (a1most : Int) (recl1 : (Int × Int) → Option Bool) (l1_1 : Int) (l1_2 : Int) : Option Bool :=
 cond (ltI l1_2 (lenI (List.map ci a0list)))
  ((getI a0list l1_2).bind fun x2 =>
  (g_days_keys_2 n x2).bind fun r3 =>
  (cond (leI r3 l1_1)
   (some true)
   (some (ltI a1most r3))).bind fun j4 =>
  cond j4
   (some false)
   ((g_days_keys_2 n x2).bind fun r6 =>
   recl1 (r6, wi (l1_2 + 1))))
  (some true)
def g_dv_int (n : Nat) (a0list : List Int) (a1most : Int) : Option Bool :=
 loopN (fun recl1 (l1_1, l1_2) => g_dv_int_l1 n a0list a1most recl1 l1_1 l1_2) n ((-1), 0)
theorem g_dv_int_ok (n : Nat) (a0list : List Int) (a1most : Int) : ∀ r, g_dv_int n a0list a1most = some r → PCall Try.prog 31 [.p (.sl 1 (List.map ci a0list)), I a1most, .p (.val (.func (.func 33) #[] #[]))] (.ret (B r)) := by
 refine pcall_sim (X := fun r : Bool => AEnd.ret (B r)) Try.func31 rfl Try.ntmps31 rfl ?_
 unfold g_dv_int
 refine sR tfm ⟨[0, 1, 2], [], [], []⟩ ⟨[(0, .p (.sl 1 (List.map ci a0list))), (1, I a1most), (2, .p (.val (.func (.func 33) #[] #[])))], []⟩ krf ?_
 refine sR tfm ⟨[0, 1, 2, 7], [], [], []⟩ ⟨[(0, .p (.sl 1 (List.map ci a0list))), (1, I a1most), (2, .p (.val (.func (.func 33) #[] #[]))), (7, I (-1))], []⟩ krf ?_
 refine sS ?_
 refine sR tfm ⟨[1, 2, 7, 11, 12, 13], [], [], []⟩ ⟨[(1, I a1most), (2, .p (.val (.func (.func 33) #[] #[]))), (7, I (-1)), (11, .p (.sl 1 (List.map ci a0list))), (12, I (lenI (List.map ci a0list))), (13, I 0)], []⟩ krf ?_
 refine sB ?_
 refine sim_loop (fun (l1_1, l1_2) => ⟨[(1, I a1most), (2, .p (.val (.func (.func 33) #[] #[]))), (7, I l1_1), (11, .p (.sl 1 (List.map ci a0list))), (12, I (lenI (List.map ci a0list))), (13, I l1_2)], []⟩ : (Int × Int) → St) (weak_shr (K := ⟨[1, 2, 7, 11, 12, 13], [], [], []⟩) krf) ?_
 rintro recl1 ⟨l1_1, l1_2⟩
 show SimE (g_dv_int_l1 n a0list a1most recl1 l1_1 l1_2) _ _ _ _ _ _
 unfold g_dv_int_l1
 refine sR tfm ⟨[1, 2, 7, 11, 12, 13, 14], [], [], []⟩ ⟨[(1, I a1most), (2, .p (.val (.func (.func 33) #[] #[]))), (7, I l1_1), (11, .p (.sl 1 (List.map ci a0list))), (12, I (lenI (List.map ci a0list))), (13, I l1_2), (14, B (ltI l1_2 (lenI (List.map ci a0list))))], []⟩ krf ?_
 refine sS ?_
 refine sC (ltI l1_2 (lenI (List.map ci a0list))) krf ?_ ?_
 ·refine sK ?_
  refine sN ⟨[1, 2, 7, 11, 12, 13], [], [], []⟩ ⟨[(1, I a1most), (2, .p (.val (.func (.func 33) #[] #[]))), (7, I l1_1), (11, .p (.sl 1 (List.map ci a0list))), (12, I (lenI (List.map ci a0list))), (13, I l1_2)], []⟩ krf ?_
  refine sS ?_
  refine sB ?_
  refine sS ?_
  refine sG ?_
  refine xG krf krf (aop_idx (e := 3) (S := 1) (enc := ci) (l := a0list) (k := .i64) (n := l1_2) (sv := .p (.sl 1 (List.map ci a0list))) rfl krf krf krf krf krf) (fun x2 => ?_)
  refine xR 2 krf ?_
  refine xE ?_
  refine sN ⟨[1, 2, 7, 9, 11, 12, 13], [], [], []⟩ ⟨[(1, I a1most), (2, .p (.val (.func (.func 33) #[] #[]))), (7, I l1_1), (9, I x2), (11, .p (.sl 1 (List.map ci a0list))), (12, I (lenI (List.map ci a0list))), (13, I l1_2)], []⟩ krf ?_
  refine sS ?_
  refine sS ?_
  refine sG ?_
  refine xR 2 krf ?_
  refine xC [] krf (g_days_keys_2_ok n x2) krf krf (fun _ => by kernel_rfl) (fun r3 => ?_)
  refine xR 1 krf ?_
  refine xE ?_
  refine sN ⟨[1, 2, 7, 9, 10, 11, 12, 13], [], [], []⟩ ⟨[(1, I a1most), (2, .p (.val (.func (.func 33) #[] #[]))), (7, I l1_1), (9, I x2), (10, I r3), (11, .p (.sl 1 (List.map ci a0list))), (12, I (lenI (List.map ci a0list))), (13, I l1_2)], []⟩ krf ?_
  refine sim_bind (fun j4 => ⟨[(1, I a1most), (2, .p (.val (.func (.func 33) #[] #[]))), (9, I x2), (11, .p (.sl 1 (List.map ci a0list))), (12, I (lenI (List.map ci a0list))), (13, I l1_2), (27, B j4)], []⟩ : Bool → St) ?_ ?_
  ·refine sG ?_
   refine xR 4 krf ?_
   refine xS (leI r3 l1_1) (fun h5 => ?_) (fun h5 => ?_)
   ·refine xN (want_ft krf h5) krf ?_
    refine xR 3 krf ?_
    refine xE ?_
    exact nq_n true ⟨[1, 2, 9, 11, 12, 13, 27], [], [], []⟩ krf
   ·refine xO (want_ff krf h5) krf ?_
    refine xR 3 krf ?_
    refine xE ?_
    exact nq_n (ltI a1most r3) ⟨[1, 2, 9, 11, 12, 13, 27], [], [], []⟩ krf
  ·rintro j4
   refine sC j4 krf ?_ ?_
   ·refine sR tfm ⟨[6], [], [], []⟩ ⟨[(6, B false)], []⟩ krf ?_
    refine sT ?_
    refine sq_r ?_
    refine bq_r ?_
    refine sq_r ?_
    refine kq_r ?_
    refine bq_r ?_
    refine sq_r ?_
    exact qR (.id) krf krf krf
   ·refine sK ?_
    refine sN ⟨[1, 2, 9, 11, 12, 13], [], [], []⟩ ⟨[(1, I a1most), (2, .p (.val (.func (.func 33) #[] #[]))), (9, I x2), (11, .p (.sl 1 (List.map ci a0list))), (12, I (lenI (List.map ci a0list))), (13, I l1_2)], []⟩ krf ?_
    refine sG ?_
    refine xR 2 krf ?_
    refine xC [] krf (g_days_keys_2_ok n x2) krf krf (fun _ => by kernel_rfl) (fun r6 => ?_)
    refine xR 1 krf ?_
    refine xE ?_
    refine bq_n ?_
    refine sN ⟨[1, 2, 7, 11, 12, 13], [], [], []⟩ ⟨[(1, I a1most), (2, .p (.val (.func (.func 33) #[] #[]))), (7, I r6), (11, .p (.sl 1 (List.map ci a0list))), (12, I (lenI (List.map ci a0list))), (13, I l1_2)], []⟩ krf ?_
    refine sL tfm krf ?_
    exact kq_n (r6, wi (l1_2 + 1)) ⟨[1, 2, 7, 11, 12, 13], [], [], []⟩ krf
 ·refine sim_exit ?_
  refine sq_x ?_
  refine kq_x ?_
  refine bq_hit ?_
  refine sN ⟨[], [], [], []⟩ ⟨[], []⟩ krf ?_
  refine sR tfm ⟨[6], [], [], []⟩ ⟨[(6, B true)], []⟩ krf ?_
  refine sT ?_
  exact qR (.id) krf krf krf
def g_days_Valid_j5 (n : Nat) (a0c : GCl) : Option Bool :=
 (g_dv_api_Change n a0c.Changes 52560000).bind fun r6 =>
 cond r6
  ((g_dv_int n a0c.Holidays 36500).bind fun r8 =>
  some r8)
  (some false)
def g_days_Valid_l9 (n : Nat) (a0c : GCl) (recl9 : Int → Option Bool) (l9 : Int) : Option Bool :=
 cond (ltI l9 (lenI (List.map GCh.cs a0c.Changes)))
  ((getI a0c.Changes l9).bind fun x10 =>
  (g_days_inside n x10.Offset (-1440) 1440).bind fun r11 =>
  cond (!r11)
   (some false)
   (recl9 (wi (l9 + 1))))
  (g_days_Valid_j5 n a0c)
def g_days_Valid (n : Nat) (a0c : GCl) : Option Bool :=
 (cond (ltI 16 (lenI (List.map GCh.cs a0c.Changes)))
  (some true)
  (cond (ltI 32 (lenI (List.map ci a0c.Holidays)))
   (some true)
   ((g_days_inside n a0c.Offset (-1440) 1440).bind fun r4 =>
   some (!r4)))).bind fun j1 =>
 cond j1
  (some false)
  (loopN (fun recl9 l9 => g_days_Valid_l9 n a0c recl9 l9) n 0)
theorem g_days_Valid_ok (n : Nat) (a0c : GCl) : ∀ r, g_days_Valid n a0c = some r → PCall Try.prog 17 [ag (GCl.cs a0c)] (.ret (B r)) := by
 refine pcall_sim (X := fun r : Bool => AEnd.ret (B r)) Try.func17 rfl Try.ntmps17 rfl ?_
 unfold g_days_Valid
 refine sR tfm ⟨[1], [1], [], []⟩ ⟨[(1, .ptr 1 0)], [(1, .box 27 (bxc (GCl.cs a0c)))]⟩ krf ?_
 refine sS ?_
 refine sim_bind (fun j1 => ⟨[(1, .ptr 1 0), (22, B j1)], [(1, .box 27 (bxc (GCl.cs a0c)))]⟩ : Bool → St) ?_ ?_
 ·refine sG ?_
  refine xR 5 krf ?_
  refine xS (ltI 16 (lenI (List.map GCh.cs a0c.Changes))) (fun h2 => ?_) (fun h2 => ?_)
  ·refine xN (want_ft krf h2) krf ?_
   refine xR 10 krf ?_
   refine xE ?_
   exact nq_n true ⟨[1, 22], [1], [], []⟩ krf
  ·refine xO (want_ff krf h2) krf ?_
   refine xR 5 krf ?_
   refine xS (ltI 32 (lenI (List.map ci a0c.Holidays))) (fun h3 => ?_) (fun h3 => ?_)
   ·refine xN (want_ft krf h3) krf ?_
    refine xR 4 krf ?_
    refine xE ?_
    exact nq_n true ⟨[1, 22], [1], [], []⟩ krf
   ·refine xO (want_ff krf h3) krf ?_
    refine xR 1 krf ?_
    refine xC [] krf (g_days_inside_ok n a0c.Offset (-1440) 1440) krf krf (fun _ => by kernel_rfl) (fun r4 => ?_)
    refine xR 2 krf ?_
    refine xE ?_
    exact nq_n (!r4) ⟨[1, 22], [1], [], []⟩ krf
 ·rintro j1
  refine sC j1 krf ?_ ?_
  ·refine sR tfm ⟨[2], [], [], []⟩ ⟨[(2, B false)], []⟩ krf ?_
   refine sT ?_
   refine sq_r ?_
   exact qR (.id) krf krf krf
  ·refine sK ?_
   refine sN ⟨[1], [1], [], []⟩ ⟨[(1, .ptr 1 0)], [(1, .box 27 (bxc (GCl.cs a0c)))]⟩ krf ?_
   refine sim_cps (fun _ => ⟨[(1, .ptr 1 0)], [(1, .box 27 (bxc (GCl.cs a0c)))]⟩ : Unit → St) (fun _ => g_days_Valid_j5 n a0c) ?_ ?_
   ·rintro _
    show SimE (g_days_Valid_j5 n a0c) _ _ _ _ _ _
    unfold g_days_Valid_j5
    refine sS ?_
    refine sG ?_
    refine xs_inline [] [] [] [] [] krf Try.func19 rfl Try.ntmps19 rfl krf krf krf ?_
    refine sR tfm ⟨[], [], [], []⟩ ⟨[], []⟩ krf ?_
    refine sR tfm ⟨[0, 1], [], [], []⟩ ⟨[(0, .p (.val (.func (.func 32) #[] #[]))), (1, .p (.val (.func (.func 33) #[] #[])))], []⟩ krf ?_
    refine sT ?_
    refine iq_ret (.id) [] [] (.tup [.p (.val (.func (.func 32) #[] #[])), .p (.val (.func (.func 33) #[] #[]))]) krf krf ?_
    refine kr0 ?_
    refine xR 5 krf ?_
    refine xE ?_
    refine sN ⟨[1, 5, 6], [1], [], []⟩ ⟨[(1, .ptr 1 0), (5, .p (.val (.func (.func 32) #[] #[]))), (6, .p (.val (.func (.func 33) #[] #[])))], [(1, .box 27 (bxc (GCl.cs a0c)))]⟩ krf ?_
    refine sS ?_
    refine sG ?_
    refine xR 3 krf ?_
    refine xC [] krf (g_dv_api_Change_ok n a0c.Changes 52560000) krf krf (fun _ => by kernel_rfl) (fun r6 => ?_)
    refine xR 1 krf ?_
    refine xS r6 (fun h7 => ?_) (fun h7 => ?_)
    ·refine xO (want_tt krf h7) krf ?_
     refine xR 2 krf ?_
     refine xC [] krf (g_dv_int_ok n a0c.Holidays 36500) krf krf (fun _ => by kernel_rfl) (fun r8 => ?_)
     refine xR 2 krf ?_
     refine xE ?_
     refine sN ⟨[2], [], [], []⟩ ⟨[(2, B r8)], []⟩ krf ?_
     refine sT ?_
     exact qR (.id) krf krf krf
    ·refine xN (want_tf krf h7) krf ?_
     refine xR 5 krf ?_
     refine xE ?_
     refine sN ⟨[2], [], [], []⟩ ⟨[(2, B false)], []⟩ krf ?_
     refine sT ?_
     exact qR (.id) krf krf krf
   ·refine sR tfm ⟨[1, 24, 25, 26], [1], [], []⟩ ⟨[(1, .ptr 1 0), (24, .p (.sl 2 (List.map GCh.cs a0c.Changes))), (25, I (lenI (List.map GCh.cs a0c.Changes))), (26, I 0)], [(1, .box 27 (bxc (GCl.cs a0c)))]⟩ krf ?_
    refine sB ?_
    refine sim_loop (fun l9 => ⟨[(1, .ptr 1 0), (24, .p (.sl 2 (List.map GCh.cs a0c.Changes))), (25, I (lenI (List.map GCh.cs a0c.Changes))), (26, I l9)], [(1, .box 27 (bxc (GCl.cs a0c)))]⟩ : Int → St) (weak_shr (K := ⟨[1, 24, 25, 26], [1], [], []⟩) krf) ?_
    rintro recl9 l9
    show SimE (g_days_Valid_l9 n a0c recl9 l9) _ _ _ _ _ _
    unfold g_days_Valid_l9
    refine sR tfm ⟨[1, 24, 25, 26, 27], [1], [], []⟩ ⟨[(1, .ptr 1 0), (24, .p (.sl 2 (List.map GCh.cs a0c.Changes))), (25, I (lenI (List.map GCh.cs a0c.Changes))), (26, I l9), (27, B (ltI l9 (lenI (List.map GCh.cs a0c.Changes))))], [(1, .box 27 (bxc (GCl.cs a0c)))]⟩ krf ?_
    refine sS ?_
    refine sC (ltI l9 (lenI (List.map GCh.cs a0c.Changes))) krf ?_ ?_
    ·refine sK ?_
     refine sN ⟨[1, 24, 25, 26], [1], [], []⟩ ⟨[(1, .ptr 1 0), (24, .p (.sl 2 (List.map GCh.cs a0c.Changes))), (25, I (lenI (List.map GCh.cs a0c.Changes))), (26, I l9)], [(1, .box 27 (bxc (GCl.cs a0c)))]⟩ krf ?_
     refine sS ?_
     refine sB ?_
     refine sS ?_
     refine sG ?_
     refine xG krf krf (aop_idx (e := 56) (S := 2) (enc := GCh.cs) (l := a0c.Changes) (k := .i64) (n := l9) (sv := .p (.sl 2 (List.map GCh.cs a0c.Changes))) rfl krf krf krf krf krf) (fun x10 => ?_)
     refine xR 3 krf ?_
     refine xE ?_
     refine sN ⟨[1, 4, 24, 25, 26], [1, 4], [], []⟩ ⟨[(1, .ptr 1 0), (4, .ptr 4 0), (24, .p (.sl 2 (List.map GCh.cs a0c.Changes))), (25, I (lenI (List.map GCh.cs a0c.Changes))), (26, I l9)], [(1, .box 27 (bxc (GCl.cs a0c))), (4, .box 56 (bxc (GCh.cs x10)))]⟩ krf ?_
     refine sS ?_
     refine sG ?_
     refine xR 2 krf ?_
     refine xC [] krf (g_days_inside_ok n x10.Offset (-1440) 1440) krf krf (fun _ => by kernel_rfl) (fun r11 => ?_)
     refine xR 1 krf ?_
     refine xE ?_
     refine sN ⟨[1, 24, 25, 26, 33], [1], [], []⟩ ⟨[(1, .ptr 1 0), (24, .p (.sl 2 (List.map GCh.cs a0c.Changes))), (25, I (lenI (List.map GCh.cs a0c.Changes))), (26, I l9), (33, B (!r11))], [(1, .box 27 (bxc (GCl.cs a0c)))]⟩ krf ?_
     refine sC (!r11) krf ?_ ?_
     ·refine sR tfm ⟨[2], [], [], []⟩ ⟨[(2, B false)], []⟩ krf ?_
      refine sT ?_
      refine bq_r ?_
      refine sq_r ?_
      refine kq_r ?_
      refine bq_r ?_
      refine kq_r ?_
      exact qR (.id) krf krf krf
     ·refine sK ?_
      refine bq_n ?_
      refine sN ⟨[1, 24, 25, 26], [1], [], []⟩ ⟨[(1, .ptr 1 0), (24, .p (.sl 2 (List.map GCh.cs a0c.Changes))), (25, I (lenI (List.map GCh.cs a0c.Changes))), (26, I l9)], [(1, .box 27 (bxc (GCl.cs a0c)))]⟩ krf ?_
      refine sL tfm krf ?_
      exact kq_n (wi (l9 + 1)) ⟨[1, 24, 25, 26], [1], [], []⟩ krf
    ·refine sim_exit ?_
     refine sq_x ?_
     refine kq_x ?_
     refine bq_hit ?_
     exact kq_n (k := fun _ => g_days_Valid_j5 n a0c) () ⟨[1], [1], [], []⟩ krf
def g_days_last_api_Change_l1 (n : Nat) (a0list : List GCh) (a1number : Int) (recl1 : (Int × Int) → Option Int) (l1_1 : Int) (l1_2 : Int) : Option Int :=
 cond (ltI l1_1 l1_2)
  ((getI a0list (wi (l1_1 + (wi (Int.tdiv (wi ((wi (l1_2 - l1_1)) + 1)) 2))))).bind fun x2 =>
  (g_days_keys_1 n x2).bind fun r3 =>
  cond (leI r3 a1number)
   (recl1 (wi (l1_1 + (wi (Int.tdiv (wi ((wi (l1_2 - l1_1)) + 1)) 2))), l1_2))
   (recl1 (l1_1, wi ((wi (l1_1 + (wi (Int.tdiv (wi ((wi (l1_2 - l1_1)) + 1)) 2)))) - 1))))
  (some l1_1)
def g_days_last_api_Change (n : Nat) (a0list : List GCh) (a1number : Int) : Option Int :=
 loopN (fun recl1 (l1_1, l1_2) => g_days_last_api_Change_l1 n a0list a1number recl1 l1_1 l1_2) n ((-1), wi ((lenI (List.map GCh.cs a0list)) - 1))
theorem g_days_last_api_Change_ok (n : Nat) (a0list : List GCh) (a1number : Int) : ∀ r, g_days_last_api_Change n a0list a1number = some r → PCall Try.prog 20 [.p (.sl 2 (List.map GCh.cs a0list)), I a1number, .p (.val (.func (.func 32) #[] #[]))] (.ret (I r)) := by
 refine pcall_sim (X := fun r : Int => AEnd.ret (I r)) Try.func20 rfl Try.ntmps20 rfl ?_
 unfold g_days_last_api_Change
 refine sR tfm ⟨[0, 1, 2], [], [], []⟩ ⟨[(0, .p (.sl 2 (List.map GCh.cs a0list))), (1, I a1number), (2, .p (.val (.func (.func 32) #[] #[])))], []⟩ krf ?_
 refine sR tfm ⟨[0, 1, 2, 7, 8], [], [], []⟩ ⟨[(0, .p (.sl 2 (List.map GCh.cs a0list))), (1, I a1number), (2, .p (.val (.func (.func 32) #[] #[]))), (7, I (-1)), (8, I (wi ((lenI (List.map GCh.cs a0list)) - 1)))], []⟩ krf ?_
 refine sS ?_
 refine sB ?_
 refine sim_loop (fun (l1_1, l1_2) => ⟨[(0, .p (.sl 2 (List.map GCh.cs a0list))), (1, I a1number), (2, .p (.val (.func (.func 32) #[] #[]))), (7, I l1_1), (8, I l1_2)], []⟩ : (Int × Int) → St) (weak_shr (K := ⟨[0, 1, 2, 7, 8], [], [], []⟩) krf) ?_
 rintro recl1 ⟨l1_1, l1_2⟩
 show SimE (g_days_last_api_Change_l1 n a0list a1number recl1 l1_1 l1_2) _ _ _ _ _ _
 unfold g_days_last_api_Change_l1
 refine sS ?_
 refine sR tfm ⟨[0, 1, 2, 7, 8, 15], [], [], []⟩ ⟨[(0, .p (.sl 2 (List.map GCh.cs a0list))), (1, I a1number), (2, .p (.val (.func (.func 32) #[] #[]))), (7, I l1_1), (8, I l1_2), (15, B (ltI l1_1 l1_2))], []⟩ krf ?_
 refine sC (ltI l1_1 l1_2) krf ?_ ?_
 ·refine sK ?_
  refine sN ⟨[0, 1, 2, 7, 8], [], [], []⟩ ⟨[(0, .p (.sl 2 (List.map GCh.cs a0list))), (1, I a1number), (2, .p (.val (.func (.func 32) #[] #[]))), (7, I l1_1), (8, I l1_2)], []⟩ krf ?_
  refine sB ?_
  refine sR tfm ⟨[0, 1, 2, 7, 8, 9], [], [], []⟩ ⟨[(0, .p (.sl 2 (List.map GCh.cs a0list))), (1, I a1number), (2, .p (.val (.func (.func 32) #[] #[]))), (7, I l1_1), (8, I l1_2), (9, I (wi (l1_1 + (wi (Int.tdiv (wi ((wi (l1_2 - l1_1)) + 1)) 2)))))], []⟩ krf ?_
  refine sS ?_
  refine sG ?_
  refine xR 3 krf ?_
  refine xG krf krf (aop_idx (e := 56) (S := 2) (enc := GCh.cs) (l := a0list) (k := .i64) (n := wi (l1_1 + (wi (Int.tdiv (wi ((wi (l1_2 - l1_1)) + 1)) 2)))) (sv := .p (.sl 2 (List.map GCh.cs a0list))) rfl krf krf krf krf krf) (fun x2 => ?_)
  refine xR 1 krf ?_
  refine xC [] krf (g_days_keys_1_ok n x2) krf krf (fun _ => by kernel_rfl) (fun r3 => ?_)
  refine xR 2 krf ?_
  refine xE ?_
  refine sN ⟨[0, 1, 2, 7, 8, 9, 30], [], [], []⟩ ⟨[(0, .p (.sl 2 (List.map GCh.cs a0list))), (1, I a1number), (2, .p (.val (.func (.func 32) #[] #[]))), (7, I l1_1), (8, I l1_2), (9, I (wi (l1_1 + (wi (Int.tdiv (wi ((wi (l1_2 - l1_1)) + 1)) 2))))), (30, B (leI r3 a1number))], []⟩ krf ?_
  refine sC (leI r3 a1number) krf ?_ ?_
  ·refine sL tfm krf ?_
   refine bq_n ?_
   exact kq_n (wi (l1_1 + (wi (Int.tdiv (wi ((wi (l1_2 - l1_1)) + 1)) 2))), l1_2) ⟨[0, 1, 2, 7, 8], [], [], []⟩ krf
  ·refine sL tfm krf ?_
   refine bq_n ?_
   exact kq_n (l1_1, wi ((wi (l1_1 + (wi (Int.tdiv (wi ((wi (l1_2 - l1_1)) + 1)) 2)))) - 1)) ⟨[0, 1, 2, 7, 8], [], [], []⟩ krf
 ·refine sim_exit ?_
  refine sq_x ?_
  refine kq_x ?_
  refine bq_hit ?_
  refine sN ⟨[7], [], [], []⟩ ⟨[(7, I l1_1)], []⟩ krf ?_
  refine sR tfm ⟨[6], [], [], []⟩ ⟨[(6, I l1_1)], []⟩ krf ?_
  refine sT ?_
  exact qR (.id) krf krf krf
def g_days_split (n : Nat) (a0n : Int) (a1by : Int) : Option (Int × Int) :=
 cond (!eqI a1by 0) (
  cond (!eqI a1by 0) (
   cond (ltI (Int.tmod a0n a1by) 0)
    (some (wi ((wi (Int.tdiv a0n a1by)) - 1), wi ((Int.tmod a0n a1by) + a1by)))
    (some (wi (Int.tdiv a0n a1by), Int.tmod a0n a1by))) none) none
theorem g_days_split_ok (n : Nat) (a0n : Int) (a1by : Int) : ∀ r, g_days_split n a0n a1by = some r → PCall Try.prog 21 [I a0n, I a1by] (.ret (.tup [I r.1, I r.2])) := by
 refine pcall_sim (X := fun r : Int × Int => AEnd.ret (.tup [I r.1, I r.2])) Try.func21 rfl Try.ntmps21 rfl ?_
 unfold g_days_split
 refine sR tfm ⟨[0, 1], [], [], []⟩ ⟨[(0, I a0n), (1, I a1by)], []⟩ krf ?_
 refine sS ?_
 refine sim_drw tfm rfl ?_
 refine xR 2 krf ?_
 refine xF krf krf (aop_quo (k := .i64) (a := a0n) (b := a1by) rfl krf krf) ?_
 refine xR 2 krf ?_
 refine xF krf krf (aop_rem (k := .i64) (a := a0n) (b := a1by) rfl krf krf) ?_
 refine xR 2 krf ?_
 refine xs_endD krf ?_
 refine sN ⟨[1, 6, 7], [], [], []⟩ ⟨[(1, I a1by), (6, I (wi (Int.tdiv a0n a1by))), (7, I (Int.tmod a0n a1by))], []⟩ krf ?_
 refine sS ?_
 refine sR tfm ⟨[1, 6, 7, 15], [], [], []⟩ ⟨[(1, I a1by), (6, I (wi (Int.tdiv a0n a1by))), (7, I (Int.tmod a0n a1by)), (15, B (ltI (Int.tmod a0n a1by) 0))], []⟩ krf ?_
 refine sC (ltI (Int.tmod a0n a1by) 0) krf ?_ ?_
 ·refine sL tfm krf ?_
  refine sN ⟨[6, 7], [], [], []⟩ ⟨[(6, I (wi ((wi (Int.tdiv a0n a1by)) - 1))), (7, I (wi ((Int.tmod a0n a1by) + a1by)))], []⟩ krf ?_
  refine sR tfm ⟨[4, 5], [], [], []⟩ ⟨[(4, I (wi ((wi (Int.tdiv a0n a1by)) - 1))), (5, I (wi ((Int.tmod a0n a1by) + a1by)))], []⟩ krf ?_
  refine sT ?_
  exact qR (.id) krf krf krf
 ·refine sK ?_
  refine sN ⟨[6, 7], [], [], []⟩ ⟨[(6, I (wi (Int.tdiv a0n a1by))), (7, I (Int.tmod a0n a1by))], []⟩ krf ?_
  refine sR tfm ⟨[4, 5], [], [], []⟩ ⟨[(4, I (wi (Int.tdiv a0n a1by))), (5, I (Int.tmod a0n a1by))], []⟩ krf ?_
  refine sT ?_
  exact qR (.id) krf krf krf
def g_days_Local (n : Nat) (a0c : GCl) (a1minute : Int) : Option (Int × Int × Int) :=
 ((g_days_Valid n a0c).bind fun r2 =>
 cond (!r2)
  (some true)
  ((g_days_inside n a1minute 0 52560000).bind fun r4 =>
  some (!r4))).bind fun j1 =>
 cond j1
  (some (0, 0, 1))
  (((g_days_last_api_Change n a0c.Changes a1minute).bind fun r6 =>
  cond (leI 0 r6)
   ((getI a0c.Changes r6).bind fun x7 =>
   some x7.Offset)
   (some a0c.Offset)).bind fun j5 =>
  (g_days_split n (wi (a1minute + j5)) 1440).bind fun r8 =>
  some (r8.1, r8.2, 0))
theorem g_days_Local_ok (n : Nat) (a0c : GCl) (a1minute : Int) : ∀ r, g_days_Local n a0c a1minute = some r → PCall Try.prog 8 [ag (GCl.cs a0c), I a1minute] (.ret (.tup [I r.1, I r.2.1, I r.2.2])) := by
 refine pcall_sim (X := fun r : Int × Int × Int => AEnd.ret (.tup [I r.1, I r.2.1, I r.2.2])) Try.func8 rfl Try.ntmps8 rfl ?_
 unfold g_days_Local
 refine sR tfm ⟨[1, 2], [2], [], []⟩ ⟨[(1, I a1minute), (2, .ptr 2 0)], [(2, .box 27 (bxc (GCl.cs a0c)))]⟩ krf ?_
 refine sS ?_
 refine sim_bind (fun j1 => ⟨[(1, I a1minute), (2, .ptr 2 0), (20, B j1)], [(2, .box 27 (bxc (GCl.cs a0c)))]⟩ : Bool → St) ?_ ?_
 ·refine sG ?_
  refine xR 1 krf ?_
  refine xC [] krf (g_days_Valid_ok n a0c) krf krf (fun _ => by kernel_rfl) (fun r2 => ?_)
  refine xR 2 krf ?_
  refine xS (!r2) (fun h3 => ?_) (fun h3 => ?_)
  ·refine xN (want_ft krf h3) krf ?_
   refine xR 3 krf ?_
   refine xE ?_
   exact nq_n true ⟨[1, 2, 20], [2], [], []⟩ krf
  ·refine xO (want_ff krf h3) krf ?_
   refine xC [] krf (g_days_inside_ok n a1minute 0 52560000) krf krf (fun _ => by kernel_rfl) (fun r4 => ?_)
   refine xR 2 krf ?_
   refine xE ?_
   exact nq_n (!r4) ⟨[1, 2, 20], [2], [], []⟩ krf
 ·rintro j1
  refine sC j1 krf ?_ ?_
  ·refine sR tfm ⟨[4, 5, 6], [], [], []⟩ ⟨[(4, I 0), (5, I 0), (6, I 1)], []⟩ krf ?_
   refine sT ?_
   refine sq_r ?_
   exact qR (.id) krf krf krf
  ·refine sK ?_
   refine sN ⟨[1, 2], [2], [], []⟩ ⟨[(1, I a1minute), (2, .ptr 2 0)], [(2, .box 27 (bxc (GCl.cs a0c)))]⟩ krf ?_
   refine sR tfm ⟨[1, 2, 7], [2], [], []⟩ ⟨[(1, I a1minute), (2, .ptr 2 0), (7, I a0c.Offset)], [(2, .box 27 (bxc (GCl.cs a0c)))]⟩ krf ?_
   refine sS ?_
   refine sG ?_
   refine xs_inline [] [] [] [] [] krf Try.func19 rfl Try.ntmps19 rfl krf krf krf ?_
   refine sR tfm ⟨[], [], [], []⟩ ⟨[], []⟩ krf ?_
   refine sR tfm ⟨[0, 1], [], [], []⟩ ⟨[(0, .p (.val (.func (.func 32) #[] #[]))), (1, .p (.val (.func (.func 33) #[] #[])))], []⟩ krf ?_
   refine sT ?_
   refine iq_ret (.id) [] [] (.tup [.p (.val (.func (.func 32) #[] #[])), .p (.val (.func (.func 33) #[] #[]))]) krf krf ?_
   refine kr0 ?_
   refine xR 5 krf ?_
   refine xE ?_
   refine sN ⟨[1, 2, 7, 8], [2], [], []⟩ ⟨[(1, I a1minute), (2, .ptr 2 0), (7, I a0c.Offset), (8, .p (.val (.func (.func 32) #[] #[])))], [(2, .box 27 (bxc (GCl.cs a0c)))]⟩ krf ?_
   refine sim_bind (fun j5 => ⟨[(1, I a1minute), (7, I j5)], []⟩ : Int → St) ?_ ?_
   ·refine sS ?_
    refine sG ?_
    refine xR 4 krf ?_
    refine xC [] krf (g_days_last_api_Change_ok n a0c.Changes a1minute) krf krf (fun _ => by kernel_rfl) (fun r6 => ?_)
    refine xR 1 krf ?_
    refine xE ?_
    refine sN ⟨[1, 2, 7, 10], [2], [], []⟩ ⟨[(1, I a1minute), (2, .ptr 2 0), (7, I a0c.Offset), (10, I r6)], [(2, .box 27 (bxc (GCl.cs a0c)))]⟩ krf ?_
    refine sR tfm ⟨[1, 2, 7, 10, 33], [2], [], []⟩ ⟨[(1, I a1minute), (2, .ptr 2 0), (7, I a0c.Offset), (10, I r6), (33, B (leI 0 r6))], [(2, .box 27 (bxc (GCl.cs a0c)))]⟩ krf ?_
    refine sC (leI 0 r6) krf ?_ ?_
    ·refine sG ?_
     refine xR 3 krf ?_
     refine xG krf krf (aop_idx (e := 56) (S := 2) (enc := GCh.cs) (l := a0c.Changes) (k := .i64) (n := r6) (sv := .p (.sl 2 (List.map GCh.cs a0c.Changes))) rfl krf krf krf krf krf) (fun x7 => ?_)
     refine xR 3 krf ?_
     refine xE ?_
     exact nq_n x7.Offset ⟨[1, 7], [], [], []⟩ krf
    ·refine sK ?_
     exact nq_n a0c.Offset ⟨[1, 7], [], [], []⟩ krf
   ·rintro j5
    refine sS ?_
    refine sG ?_
    refine xR 3 krf ?_
    refine xC [] krf (g_days_split_ok n (wi (a1minute + j5)) 1440) krf krf (fun _ => by kernel_rfl) (fun r8 => ?_)
    refine xR 5 krf ?_
    refine xE ?_
    refine sN ⟨[11, 12], [], [], []⟩ ⟨[(11, I r8.1), (12, I r8.2)], []⟩ krf ?_
    refine sR tfm ⟨[4, 5, 6], [], [], []⟩ ⟨[(4, I r8.1), (5, I r8.2), (6, I 0)], []⟩ krf ?_
    refine sT ?_
    exact qR (.id) krf krf krf
def g_days_last_int_l1 (n : Nat) (a0list : List Int) (a1number : Int) (recl1 : (Int × Int) → Option Int) (l1_1 : Int) (l1_2 : Int) : Option Int :=
 cond (ltI l1_1 l1_2)
  ((getI a0list (wi (l1_1 + (wi (Int.tdiv (wi ((wi (l1_2 - l1_1)) + 1)) 2))))).bind fun x2 =>
  (g_days_keys_2 n x2).bind fun r3 =>
  cond (leI r3 a1number)
   (recl1 (wi (l1_1 + (wi (Int.tdiv (wi ((wi (l1_2 - l1_1)) + 1)) 2))), l1_2))
   (recl1 (l1_1, wi ((wi (l1_1 + (wi (Int.tdiv (wi ((wi (l1_2 - l1_1)) + 1)) 2)))) - 1))))
  (some l1_1)
def g_days_last_int (n : Nat) (a0list : List Int) (a1number : Int) : Option Int :=
 loopN (fun recl1 (l1_1, l1_2) => g_days_last_int_l1 n a0list a1number recl1 l1_1 l1_2) n ((-1), wi ((lenI (List.map ci a0list)) - 1))
theorem g_days_last_int_ok (n : Nat) (a0list : List Int) (a1number : Int) : ∀ r, g_days_last_int n a0list a1number = some r → PCall Try.prog 22 [.p (.sl 1 (List.map ci a0list)), I a1number, .p (.val (.func (.func 33) #[] #[]))] (.ret (I r)) := by
 refine pcall_sim (X := fun r : Int => AEnd.ret (I r)) Try.func22 rfl Try.ntmps22 rfl ?_
 unfold g_days_last_int
 refine sR tfm ⟨[0, 1, 2], [], [], []⟩ ⟨[(0, .p (.sl 1 (List.map ci a0list))), (1, I a1number), (2, .p (.val (.func (.func 33) #[] #[])))], []⟩ krf ?_
 refine sR tfm ⟨[0, 1, 2, 7, 8], [], [], []⟩ ⟨[(0, .p (.sl 1 (List.map ci a0list))), (1, I a1number), (2, .p (.val (.func (.func 33) #[] #[]))), (7, I (-1)), (8, I (wi ((lenI (List.map ci a0list)) - 1)))], []⟩ krf ?_
 refine sS ?_
 refine sB ?_
 refine sim_loop (fun (l1_1, l1_2) => ⟨[(0, .p (.sl 1 (List.map ci a0list))), (1, I a1number), (2, .p (.val (.func (.func 33) #[] #[]))), (7, I l1_1), (8, I l1_2)], []⟩ : (Int × Int) → St) (weak_shr (K := ⟨[0, 1, 2, 7, 8], [], [], []⟩) krf) ?_
 rintro recl1 ⟨l1_1, l1_2⟩
 show SimE (g_days_last_int_l1 n a0list a1number recl1 l1_1 l1_2) _ _ _ _ _ _
 unfold g_days_last_int_l1
 refine sS ?_
 refine sR tfm ⟨[0, 1, 2, 7, 8, 15], [], [], []⟩ ⟨[(0, .p (.sl 1 (List.map ci a0list))), (1, I a1number), (2, .p (.val (.func (.func 33) #[] #[]))), (7, I l1_1), (8, I l1_2), (15, B (ltI l1_1 l1_2))], []⟩ krf ?_
 refine sC (ltI l1_1 l1_2) krf ?_ ?_
 ·refine sK ?_
  refine sN ⟨[0, 1, 2, 7, 8], [], [], []⟩ ⟨[(0, .p (.sl 1 (List.map ci a0list))), (1, I a1number), (2, .p (.val (.func (.func 33) #[] #[]))), (7, I l1_1), (8, I l1_2)], []⟩ krf ?_
  refine sB ?_
  refine sR tfm ⟨[0, 1, 2, 7, 8, 9], [], [], []⟩ ⟨[(0, .p (.sl 1 (List.map ci a0list))), (1, I a1number), (2, .p (.val (.func (.func 33) #[] #[]))), (7, I l1_1), (8, I l1_2), (9, I (wi (l1_1 + (wi (Int.tdiv (wi ((wi (l1_2 - l1_1)) + 1)) 2)))))], []⟩ krf ?_
  refine sS ?_
  refine sG ?_
  refine xR 3 krf ?_
  refine xG krf krf (aop_idx (e := 3) (S := 1) (enc := ci) (l := a0list) (k := .i64) (n := wi (l1_1 + (wi (Int.tdiv (wi ((wi (l1_2 - l1_1)) + 1)) 2)))) (sv := .p (.sl 1 (List.map ci a0list))) rfl krf krf krf krf krf) (fun x2 => ?_)
  refine xR 1 krf ?_
  refine xC [] krf (g_days_keys_2_ok n x2) krf krf (fun _ => by kernel_rfl) (fun r3 => ?_)
  refine xR 2 krf ?_
  refine xE ?_
  refine sN ⟨[0, 1, 2, 7, 8, 9, 30], [], [], []⟩ ⟨[(0, .p (.sl 1 (List.map ci a0list))), (1, I a1number), (2, .p (.val (.func (.func 33) #[] #[]))), (7, I l1_1), (8, I l1_2), (9, I (wi (l1_1 + (wi (Int.tdiv (wi ((wi (l1_2 - l1_1)) + 1)) 2))))), (30, B (leI r3 a1number))], []⟩ krf ?_
  refine sC (leI r3 a1number) krf ?_ ?_
  ·refine sL tfm krf ?_
   refine bq_n ?_
   exact kq_n (wi (l1_1 + (wi (Int.tdiv (wi ((wi (l1_2 - l1_1)) + 1)) 2))), l1_2) ⟨[0, 1, 2, 7, 8], [], [], []⟩ krf
  ·refine sL tfm krf ?_
   refine bq_n ?_
   exact kq_n (l1_1, wi ((wi (l1_1 + (wi (Int.tdiv (wi ((wi (l1_2 - l1_1)) + 1)) 2)))) - 1)) ⟨[0, 1, 2, 7, 8], [], [], []⟩ krf
 ·refine sim_exit ?_
  refine sq_x ?_
  refine kq_x ?_
  refine bq_hit ?_
  refine sN ⟨[7], [], [], []⟩ ⟨[(7, I l1_1)], []⟩ krf ?_
  refine sR tfm ⟨[6], [], [], []⟩ ⟨[(6, I l1_1)], []⟩ krf ?_
  refine sT ?_
  exact qR (.id) krf krf krf
def g_days_week (n : Nat) : Option (Int × Int × Int × Int × Int × Int × Int) :=
 some (0, 0, 0, 0, 0, 1, 2)
theorem g_days_week_ok (n : Nat) : ∀ r, g_days_week n = some r → PCall Try.prog 23 [] (.ret (.agg [I r.1, I r.2.1, I r.2.2.1, I r.2.2.2.1, I r.2.2.2.2.1, I r.2.2.2.2.2.1, I r.2.2.2.2.2.2])) := by
 refine pcall_sim (X := fun r : Int × Int × Int × Int × Int × Int × Int => AEnd.ret (.agg [I r.1, I r.2.1, I r.2.2.1, I r.2.2.2.1, I r.2.2.2.2.1, I r.2.2.2.2.2.1, I r.2.2.2.2.2.2])) Try.func23 rfl Try.ntmps23 rfl ?_
 unfold g_days_week
 refine sR tfm ⟨[0], [0], [], []⟩ ⟨[(0, .ptr 0 0)], [(0, .box 60 [I 0, I 0, I 0, I 0, I 0, I 0, I 0])]⟩ krf ?_
 refine sR tfm ⟨[0], [0], [], []⟩ ⟨[(0, .ptr 0 0)], [(0, .box 60 [I 0, I 0, I 0, I 0, I 0, I 1, I 2])]⟩ krf ?_
 refine sT ?_
 exact qR (.id) krf krf krf
def g_days_Type (n : Nat) (a0c : GCl) (a1day : Int) : Option (Int × Int) :=
 ((g_days_Valid n a0c).bind fun r2 =>
 cond (!r2)
  (some true)
  ((g_days_inside n a1day (-1) 36501).bind fun r4 =>
  some (!r4))).bind fun j1 =>
 cond j1
  (some (0, 1))
  ((g_days_last_int n a0c.Holidays a1day).bind fun r5 =>
  (cond (leI 0 r5)
   ((getI a0c.Holidays r5).bind fun x8 =>
   some (eqI x8 a1day))
   (some false)).bind fun j6 =>
  cond j6
   (some (2, 0))
   ((g_days_week n).bind fun r9 =>
   (g_days_split n a1day 7).bind fun r10 =>
   (getI [r9.1, r9.2.1, r9.2.2.1, r9.2.2.2.1, r9.2.2.2.2.1, r9.2.2.2.2.2.1, r9.2.2.2.2.2.2] r10.2).bind fun x11 =>
   some (x11, 0)))
theorem g_days_Type_ok (n : Nat) (a0c : GCl) (a1day : Int) : ∀ r, g_days_Type n a0c a1day = some r → PCall Try.prog 9 [ag (GCl.cs a0c), I a1day] (.ret (.tup [I r.1, I r.2])) := by
 refine pcall_sim (X := fun r : Int × Int => AEnd.ret (.tup [I r.1, I r.2])) Try.func9 rfl Try.ntmps9 rfl ?_
 unfold g_days_Type
 refine sR tfm ⟨[1, 2], [2], [], []⟩ ⟨[(1, I a1day), (2, .ptr 2 0)], [(2, .box 27 (bxc (GCl.cs a0c)))]⟩ krf ?_
 refine sS ?_
 refine sim_bind (fun j1 => ⟨[(1, I a1day), (2, .ptr 2 0), (19, B j1)], [(2, .box 27 (bxc (GCl.cs a0c)))]⟩ : Bool → St) ?_ ?_
 ·refine sG ?_
  refine xR 1 krf ?_
  refine xC [] krf (g_days_Valid_ok n a0c) krf krf (fun _ => by kernel_rfl) (fun r2 => ?_)
  refine xR 2 krf ?_
  refine xS (!r2) (fun h3 => ?_) (fun h3 => ?_)
  ·refine xN (want_ft krf h3) krf ?_
   refine xR 3 krf ?_
   refine xE ?_
   exact nq_n true ⟨[1, 2, 19], [2], [], []⟩ krf
  ·refine xO (want_ff krf h3) krf ?_
   refine xC [] krf (g_days_inside_ok n a1day (-1) 36501) krf krf (fun _ => by kernel_rfl) (fun r4 => ?_)
   refine xR 2 krf ?_
   refine xE ?_
   exact nq_n (!r4) ⟨[1, 2, 19], [2], [], []⟩ krf
 ·rintro j1
  refine sC j1 krf ?_ ?_
  ·refine sR tfm ⟨[4, 5], [], [], []⟩ ⟨[(4, I 0), (5, I 1)], []⟩ krf ?_
   refine sT ?_
   refine sq_r ?_
   exact qR (.id) krf krf krf
  ·refine sK ?_
   refine sN ⟨[1, 2], [2], [], []⟩ ⟨[(1, I a1day), (2, .ptr 2 0)], [(2, .box 27 (bxc (GCl.cs a0c)))]⟩ krf ?_
   refine sS ?_
   refine sG ?_
   refine xs_inline [] [] [] [] [] krf Try.func19 rfl Try.ntmps19 rfl krf krf krf ?_
   refine sR tfm ⟨[], [], [], []⟩ ⟨[], []⟩ krf ?_
   refine sR tfm ⟨[0, 1], [], [], []⟩ ⟨[(0, .p (.val (.func (.func 32) #[] #[]))), (1, .p (.val (.func (.func 33) #[] #[])))], []⟩ krf ?_
   refine sT ?_
   refine iq_ret (.id) [] [] (.tup [.p (.val (.func (.func 32) #[] #[])), .p (.val (.func (.func 33) #[] #[]))]) krf krf ?_
   refine kr0 ?_
   refine xR 5 krf ?_
   refine xE ?_
   refine sN ⟨[1, 2, 7], [2], [], []⟩ ⟨[(1, I a1day), (2, .ptr 2 0), (7, .p (.val (.func (.func 33) #[] #[])))], [(2, .box 27 (bxc (GCl.cs a0c)))]⟩ krf ?_
   refine sS ?_
   refine sS ?_
   refine sG ?_
   refine xR 4 krf ?_
   refine xC [] krf (g_days_last_int_ok n a0c.Holidays a1day) krf krf (fun _ => by kernel_rfl) (fun r5 => ?_)
   refine xR 1 krf ?_
   refine xE ?_
   refine sN ⟨[1, 2, 8], [2], [], []⟩ ⟨[(1, I a1day), (2, .ptr 2 0), (8, I r5)], [(2, .box 27 (bxc (GCl.cs a0c)))]⟩ krf ?_
   refine sim_bind (fun j6 => ⟨[(1, I a1day), (39, B j6)], []⟩ : Bool → St) ?_ ?_
   ·refine sG ?_
    refine xR 3 krf ?_
    refine xS (leI 0 r5) (fun h7 => ?_) (fun h7 => ?_)
    ·refine xO (want_tt krf h7) krf ?_
     refine xR 2 krf ?_
     refine xG krf krf (aop_idx (e := 3) (S := 1) (enc := ci) (l := a0c.Holidays) (k := .i64) (n := r5) (sv := .p (.sl 1 (List.map ci a0c.Holidays))) rfl krf krf krf krf krf) (fun x8 => ?_)
     refine xR 4 krf ?_
     refine xE ?_
     exact nq_n (eqI x8 a1day) ⟨[1, 39], [], [], []⟩ krf
    ·refine xN (want_tf krf h7) krf ?_
     refine xR 7 krf ?_
     refine xE ?_
     exact nq_n false ⟨[1, 39], [], [], []⟩ krf
   ·rintro j6
    refine sC j6 krf ?_ ?_
    ·refine sR tfm ⟨[4, 5], [], [], []⟩ ⟨[(4, I 2), (5, I 0)], []⟩ krf ?_
     refine sT ?_
     refine sq_r ?_
     exact qR (.id) krf krf krf
    ·refine sK ?_
     refine sN ⟨[1], [], [], []⟩ ⟨[(1, I a1day)], []⟩ krf ?_
     refine sS ?_
     refine sG ?_
     refine xC [] krf (g_days_week_ok n) krf krf (fun _ => by kernel_rfl) (fun r9 => ?_)
     refine xR 2 krf ?_
     refine xE ?_
     refine sN ⟨[1, 9], [9], [], []⟩ ⟨[(1, I a1day), (9, .ptr 9 0)], [(9, .box 60 [I r9.1, I r9.2.1, I r9.2.2.1, I r9.2.2.2.1, I r9.2.2.2.2.1, I r9.2.2.2.2.2.1, I r9.2.2.2.2.2.2])]⟩ krf ?_
     refine sS ?_
     refine sG ?_
     refine xR 1 krf ?_
     refine xC [] krf (g_days_split_ok n a1day 7) krf krf (fun _ => by kernel_rfl) (fun r10 => ?_)
     refine xR 5 krf ?_
     refine xE ?_
     refine sN ⟨[9, 11], [9], [], []⟩ ⟨[(9, .ptr 9 0), (11, I r10.2)], [(9, .box 60 [I r9.1, I r9.2.1, I r9.2.2.1, I r9.2.2.2.1, I r9.2.2.2.2.1, I r9.2.2.2.2.2.1, I r9.2.2.2.2.2.2])]⟩ krf ?_
     refine sS ?_
     refine sG ?_
     refine xR 1 krf ?_
     refine xs_getH krf krf (aop_arrL (b := 9) (k := .i64) (n := r10.2) (len := 7) (e := 3) (l := [r9.1, r9.2.1, r9.2.2.1, r9.2.2.2.1, r9.2.2.2.2.1, r9.2.2.2.2.2.1, r9.2.2.2.2.2.2]) rfl krf krf krf krf rfl) (fun x11 hx11 => ?_)
     refine xs_u krf krf (aop_ldL (g := I) (l := [r9.1, r9.2.1, r9.2.2.1, r9.2.2.2.1, r9.2.2.2.2.1, r9.2.2.2.2.2.1, r9.2.2.2.2.2.2]) (tb := 60) (b := 9) (n := r10.2) (v := x11) rfl krf krf krf (getI_at hx11)) ?_
     refine xR 2 krf ?_
     refine xE ?_
     refine sN ⟨[4, 5], [], [], []⟩ ⟨[(4, I x11), (5, I 0)], []⟩ krf ?_
     refine sT ?_
     exact qR (.id) krf krf krf
def g_t_Applies (n : Nat) (a0a : GAr) (a1c : GCl) (a2minute : Int) : Option Bool :=
 (g_t_validArticle n a0a).bind fun r1 =>
 cond (!r1)
  (some false)
  ((g_days_Local n a1c a2minute).bind fun r2 =>
  (cond (!eqI r2.2.2 0)
   (some true)
   (cond (ltI r2.2.1 a0a.From)
    (some true)
    (some (leI a0a.To r2.2.1)))).bind fun j3 =>
  cond j3
   (some false)
   ((g_days_Type n a1c r2.1).bind fun r6 =>
   cond (eqI r6.2 0)
    (cond (!ltI r6.1 0) (
     some (!eqI (bAnd .i64 a0a.Days (shlI .i64 1 r6.1)) 0)) none)
    (some false)))
theorem g_t_Applies_ok (n : Nat) (a0a : GAr) (a1c : GCl) (a2minute : Int) : ∀ r, g_t_Applies n a0a a1c a2minute = some r → PCall Try.prog 10 [ag (GAr.cs a0a), ag (GCl.cs a1c), I a2minute] (.ret (B r)) := by
 refine pcall_sim (X := fun r : Bool => AEnd.ret (B r)) Try.func10 rfl Try.ntmps10 rfl ?_
 unfold g_t_Applies
 refine sR tfm ⟨[2, 3, 4], [3, 4], [], []⟩ ⟨[(2, I a2minute), (3, .ptr 3 0), (4, .ptr 4 0)], [(3, .box 23 (bxc (GAr.cs a0a))), (4, .box 27 (bxc (GCl.cs a1c)))]⟩ krf ?_
 refine sS ?_
 refine sS ?_
 refine sG ?_
 refine xR 1 krf ?_
 refine xC [] krf (g_t_validArticle_ok n a0a) krf krf (fun _ => by kernel_rfl) (fun r1 => ?_)
 refine xR 1 krf ?_
 refine xE ?_
 refine sN ⟨[2, 3, 4, 13], [3, 4], [], []⟩ ⟨[(2, I a2minute), (3, .ptr 3 0), (4, .ptr 4 0), (13, B (!r1))], [(3, .box 23 (bxc (GAr.cs a0a))), (4, .box 27 (bxc (GCl.cs a1c)))]⟩ krf ?_
 refine sC (!r1) krf ?_ ?_
 ·refine sR tfm ⟨[6], [], [], []⟩ ⟨[(6, B false)], []⟩ krf ?_
  refine sT ?_
  refine sq_r ?_
  exact qR (.id) krf krf krf
 ·refine sK ?_
  refine sN ⟨[2, 3, 4], [3, 4], [], []⟩ ⟨[(2, I a2minute), (3, .ptr 3 0), (4, .ptr 4 0)], [(3, .box 23 (bxc (GAr.cs a0a))), (4, .box 27 (bxc (GCl.cs a1c)))]⟩ krf ?_
  refine sS ?_
  refine sG ?_
  refine xR 2 krf ?_
  refine xC [] krf (g_days_Local_ok n a1c a2minute) krf krf (fun _ => by kernel_rfl) (fun r2 => ?_)
  refine xR 7 krf ?_
  refine xE ?_
  refine sN ⟨[3, 4, 7, 8, 9], [3, 4], [], []⟩ ⟨[(3, .ptr 3 0), (4, .ptr 4 0), (7, I r2.1), (8, I r2.2.1), (9, I r2.2.2)], [(3, .box 23 (bxc (GAr.cs a0a))), (4, .box 27 (bxc (GCl.cs a1c)))]⟩ krf ?_
  refine sS ?_
  refine sim_bind (fun j3 => ⟨[(3, .ptr 3 0), (4, .ptr 4 0), (7, I r2.1), (34, B j3)], [(3, .box 23 (bxc (GAr.cs a0a))), (4, .box 27 (bxc (GCl.cs a1c)))]⟩ : Bool → St) ?_ ?_
  ·refine sG ?_
   refine xR 3 krf ?_
   refine xS (!eqI r2.2.2 0) (fun h4 => ?_) (fun h4 => ?_)
   ·refine xN (want_ft krf h4) krf ?_
    refine xR 10 krf ?_
    refine xE ?_
    exact nq_n true ⟨[3, 4, 7, 34], [3, 4], [], []⟩ krf
   ·refine xO (want_ff krf h4) krf ?_
    refine xR 5 krf ?_
    refine xS (ltI r2.2.1 a0a.From) (fun h5 => ?_) (fun h5 => ?_)
    ·refine xN (want_ft krf h5) krf ?_
     refine xR 4 krf ?_
     refine xE ?_
     exact nq_n true ⟨[3, 4, 7, 34], [3, 4], [], []⟩ krf
    ·refine xO (want_ff krf h5) krf ?_
     refine xR 4 krf ?_
     refine xE ?_
     exact nq_n (leI a0a.To r2.2.1) ⟨[3, 4, 7, 34], [3, 4], [], []⟩ krf
  ·rintro j3
   refine sC j3 krf ?_ ?_
   ·refine sR tfm ⟨[6], [], [], []⟩ ⟨[(6, B false)], []⟩ krf ?_
    refine sT ?_
    refine sq_r ?_
    exact qR (.id) krf krf krf
   ·refine sK ?_
    refine sN ⟨[3, 4, 7], [3, 4], [], []⟩ ⟨[(3, .ptr 3 0), (4, .ptr 4 0), (7, I r2.1)], [(3, .box 23 (bxc (GAr.cs a0a))), (4, .box 27 (bxc (GCl.cs a1c)))]⟩ krf ?_
    refine sS ?_
    refine sG ?_
    refine xR 2 krf ?_
    refine xC [] krf (g_days_Type_ok n a1c r2.1) krf krf (fun _ => by kernel_rfl) (fun r6 => ?_)
    refine xR 5 krf ?_
    refine xE ?_
    refine sN ⟨[3, 9, 10], [3], [], []⟩ ⟨[(3, .ptr 3 0), (9, I r6.2), (10, I r6.1)], [(3, .box 23 (bxc (GAr.cs a0a)))]⟩ krf ?_
    refine sS ?_
    refine sim_drw tfm rfl ?_
    refine xR 3 krf ?_
    refine xS (eqI r6.2 0) (fun h7 => ?_) (fun h7 => ?_)
    ·refine xO (want_tt krf h7) krf ?_
     refine xR 2 krf ?_
     refine xF krf krf (aop_shl (k := .i64) (k' := .i64) (a := 1) (b := r6.1) rfl krf krf) ?_
     refine xR 4 krf ?_
     refine xs_endD krf ?_
     refine sN ⟨[6], [], [], []⟩ ⟨[(6, B (!eqI (bAnd .i64 a0a.Days (shlI .i64 1 r6.1)) 0))], []⟩ krf ?_
     refine sT ?_
     exact qR (.id) krf krf krf
    ·refine xN (want_tf krf h7) krf ?_
     refine xR 7 krf ?_
     refine xs_endD krf ?_
     refine sN ⟨[6], [], [], []⟩ ⟨[(6, B false)], []⟩ krf ?_
     refine sT ?_
     exact qR (.id) krf krf krf
def g_t_Valid_l4 (n : Nat) (a0t : GTf) (recl4 : (Int × Int) → Option Bool) (l4_1 : Int) (l4_2 : Int) : Option Bool :=
 cond (ltI l4_2 (lenI (List.map GAr.cs a0t.Articles)))
  ((getI a0t.Articles l4_2).bind fun x5 =>
  (g_t_validArticle n x5).bind fun r6 =>
  cond (!r6)
   (some false)
   (cond (eqI x5.Kind 6)
    (recl4 (wi (l4_1 + 1), wi (l4_2 + 1)))
    (recl4 (l4_1, wi (l4_2 + 1)))))
  (some (leI l4_1 1))
def g_t_Valid (n : Nat) (a0t : GTf) : Option Bool :=
 ((g_p_Valid n (⟨1, [], 0, 0, [GNode.cs (⟨2, a0t.Name, 3, 0, []⟩ : GNode)]⟩ : GNode)).bind fun r2 =>
 cond (!r2)
  (some true)
  (some (ltI 12 (lenI (List.map GAr.cs a0t.Articles))))).bind fun j1 =>
 cond j1
  (some false)
  (loopN (fun recl4 (l4_1, l4_2) => g_t_Valid_l4 n a0t recl4 l4_1 l4_2) n (0, 0))
theorem g_t_Valid_ok (n : Nat) (a0t : GTf) : ∀ r, g_t_Valid n a0t = some r → PCall Try.prog 13 [ag (GTf.cs a0t)] (.ret (B r)) := by
 refine pcall_sim (X := fun r : Bool => AEnd.ret (B r)) Try.func13 rfl Try.ntmps13 rfl ?_
 unfold g_t_Valid
 refine sR tfm ⟨[1], [1], [], []⟩ ⟨[(1, .ptr 1 0)], [(1, .box 46 (bxc (GTf.cs a0t)))]⟩ krf ?_
 refine sR tfm ⟨[1, 3], [1, 3], [], [(3, [.id, .id, .id, .id, .sl 5])]⟩ ⟨[(1, .ptr 1 0), (3, .ptr 3 0)], [(1, .box 46 (bxc (GTf.cs a0t))), (3, .box 72 (bxc (GNode.cs ⟨2, a0t.Name, 3, 0, []⟩)))]⟩ krf ?_
 refine sS ?_
 refine sim_bind (fun j1 => ⟨[(1, .ptr 1 0), (20, B j1)], [(1, .box 46 (bxc (GTf.cs a0t)))]⟩ : Bool → St) ?_ ?_
 ·refine sG ?_
  refine xR 3 krf ?_
  refine xC [.agg [.id, .id, .id, .id, .sl 5]] krf (g_p_Valid_ok n (⟨1, [], 0, 0, [GNode.cs (⟨2, a0t.Name, 3, 0, []⟩ : GNode)]⟩ : GNode)) krf krf (fun _ => by kernel_rfl) (fun r2 => ?_)
  refine xR 2 krf ?_
  refine xS (!r2) (fun h3 => ?_) (fun h3 => ?_)
  ·refine xN (want_ft krf h3) krf ?_
   refine xR 4 krf ?_
   refine xE ?_
   exact nq_n true ⟨[1, 20], [1], [], []⟩ krf
  ·refine xO (want_ff krf h3) krf ?_
   refine xR 4 krf ?_
   refine xE ?_
   exact nq_n (ltI 12 (lenI (List.map GAr.cs a0t.Articles))) ⟨[1, 20], [1], [], []⟩ krf
 ·rintro j1
  refine sC j1 krf ?_ ?_
  ·refine sR tfm ⟨[2], [], [], []⟩ ⟨[(2, B false)], []⟩ krf ?_
   refine sT ?_
   refine sq_r ?_
   exact qR (.id) krf krf krf
  ·refine sK ?_
   refine sN ⟨[1], [1], [], []⟩ ⟨[(1, .ptr 1 0)], [(1, .box 46 (bxc (GTf.cs a0t)))]⟩ krf ?_
   refine sR tfm ⟨[1, 4], [1], [], []⟩ ⟨[(1, .ptr 1 0), (4, I 0)], [(1, .box 46 (bxc (GTf.cs a0t)))]⟩ krf ?_
   refine sS ?_
   refine sR tfm ⟨[4, 22, 23, 24], [], [], []⟩ ⟨[(4, I 0), (22, .p (.sl 7 (List.map GAr.cs a0t.Articles))), (23, I (lenI (List.map GAr.cs a0t.Articles))), (24, I 0)], []⟩ krf ?_
   refine sB ?_
   refine sim_loop (fun (l4_1, l4_2) => ⟨[(4, I l4_1), (22, .p (.sl 7 (List.map GAr.cs a0t.Articles))), (23, I (lenI (List.map GAr.cs a0t.Articles))), (24, I l4_2)], []⟩ : (Int × Int) → St) (weak_shr (K := ⟨[4, 22, 23, 24], [], [], []⟩) krf) ?_
   rintro recl4 ⟨l4_1, l4_2⟩
   show SimE (g_t_Valid_l4 n a0t recl4 l4_1 l4_2) _ _ _ _ _ _
   unfold g_t_Valid_l4
   refine sR tfm ⟨[4, 22, 23, 24, 25], [], [], []⟩ ⟨[(4, I l4_1), (22, .p (.sl 7 (List.map GAr.cs a0t.Articles))), (23, I (lenI (List.map GAr.cs a0t.Articles))), (24, I l4_2), (25, B (ltI l4_2 (lenI (List.map GAr.cs a0t.Articles))))], []⟩ krf ?_
   refine sS ?_
   refine sC (ltI l4_2 (lenI (List.map GAr.cs a0t.Articles))) krf ?_ ?_
   ·refine sK ?_
    refine sN ⟨[4, 22, 23, 24], [], [], []⟩ ⟨[(4, I l4_1), (22, .p (.sl 7 (List.map GAr.cs a0t.Articles))), (23, I (lenI (List.map GAr.cs a0t.Articles))), (24, I l4_2)], []⟩ krf ?_
    refine sS ?_
    refine sB ?_
    refine sS ?_
    refine sG ?_
    refine xG krf krf (aop_idx (e := 23) (S := 7) (enc := GAr.cs) (l := a0t.Articles) (k := .i64) (n := l4_2) (sv := .p (.sl 7 (List.map GAr.cs a0t.Articles))) rfl krf krf krf krf krf) (fun x5 => ?_)
    refine xR 3 krf ?_
    refine xE ?_
    refine sN ⟨[4, 6, 22, 23, 24], [6], [], []⟩ ⟨[(4, I l4_1), (6, .ptr 6 0), (22, .p (.sl 7 (List.map GAr.cs a0t.Articles))), (23, I (lenI (List.map GAr.cs a0t.Articles))), (24, I l4_2)], [(6, .box 23 (bxc (GAr.cs x5)))]⟩ krf ?_
    refine sS ?_
    refine sS ?_
    refine sG ?_
    refine xR 1 krf ?_
    refine xC [] krf (g_t_validArticle_ok n x5) krf krf (fun _ => by kernel_rfl) (fun r6 => ?_)
    refine xR 1 krf ?_
    refine xE ?_
    refine sN ⟨[4, 6, 22, 23, 24, 30], [6], [], []⟩ ⟨[(4, I l4_1), (6, .ptr 6 0), (22, .p (.sl 7 (List.map GAr.cs a0t.Articles))), (23, I (lenI (List.map GAr.cs a0t.Articles))), (24, I l4_2), (30, B (!r6))], [(6, .box 23 (bxc (GAr.cs x5)))]⟩ krf ?_
    refine sC (!r6) krf ?_ ?_
    ·refine sR tfm ⟨[2], [], [], []⟩ ⟨[(2, B false)], []⟩ krf ?_
     refine sT ?_
     refine sq_r ?_
     refine bq_r ?_
     refine sq_r ?_
     refine kq_r ?_
     refine bq_r ?_
     refine sq_r ?_
     exact qR (.id) krf krf krf
    ·refine sK ?_
     refine sN ⟨[4, 6, 22, 23, 24], [6], [], []⟩ ⟨[(4, I l4_1), (6, .ptr 6 0), (22, .p (.sl 7 (List.map GAr.cs a0t.Articles))), (23, I (lenI (List.map GAr.cs a0t.Articles))), (24, I l4_2)], [(6, .box 23 (bxc (GAr.cs x5)))]⟩ krf ?_
     refine sR tfm ⟨[4, 22, 23, 24, 33], [], [], []⟩ ⟨[(4, I l4_1), (22, .p (.sl 7 (List.map GAr.cs a0t.Articles))), (23, I (lenI (List.map GAr.cs a0t.Articles))), (24, I l4_2), (33, B (eqI x5.Kind 6))], []⟩ krf ?_
     refine sC (eqI x5.Kind 6) krf ?_ ?_
     ·refine sL tfm krf ?_
      refine bq_n ?_
      refine sN ⟨[4, 22, 23, 24], [], [], []⟩ ⟨[(4, I (wi (l4_1 + 1))), (22, .p (.sl 7 (List.map GAr.cs a0t.Articles))), (23, I (lenI (List.map GAr.cs a0t.Articles))), (24, I l4_2)], []⟩ krf ?_
      refine sL tfm krf ?_
      exact kq_n (wi (l4_1 + 1), wi (l4_2 + 1)) ⟨[4, 22, 23, 24], [], [], []⟩ krf
     ·refine sK ?_
      refine bq_n ?_
      refine sN ⟨[4, 22, 23, 24], [], [], []⟩ ⟨[(4, I l4_1), (22, .p (.sl 7 (List.map GAr.cs a0t.Articles))), (23, I (lenI (List.map GAr.cs a0t.Articles))), (24, I l4_2)], []⟩ krf ?_
      refine sL tfm krf ?_
      exact kq_n (l4_1, wi (l4_2 + 1)) ⟨[4, 22, 23, 24], [], [], []⟩ krf
   ·refine sim_exit ?_
    refine sq_x ?_
    refine kq_x ?_
    refine bq_hit ?_
    refine sN ⟨[4], [], [], []⟩ ⟨[(4, I l4_1)], []⟩ krf ?_
    refine sR tfm ⟨[2], [], [], []⟩ ⟨[(2, B (leI l4_1 1))], []⟩ krf ?_
    refine sT ?_
    exact qR (.id) krf krf krf
def g_law32_head (n : Nat) : Option Bool :=
 ((g_law32_is n [116, 97, 114, 105, 102, 102, 32, 116, 32, 123, 32, 101, 110, 101, 114, 103, 121, 32, 51, 48, 32, 111, 110, 32, 119, 111, 114, 107, 32, 98, 101, 116, 119, 101, 101, 110, 32, 52, 56, 48, 32, 49, 50, 48, 48, 59, 32, 125] (⟨2, 1, 480, 1200, 30, 0, 0⟩ : GAr)).bind fun r2 =>
 cond r2
  ((g_law32_is n [116, 97, 114, 105, 102, 102, 32, 116, 32, 123, 32, 116, 105, 109, 101, 32, 53, 32, 102, 114, 101, 101, 32, 49, 48, 32, 112, 101, 114, 32, 49, 53, 59, 32, 125] (⟨3, 7, 0, 1440, 5, 15, 10⟩ : GAr)).bind fun r4 =>
  some r4)
  (some false)).bind fun j1 =>
 (cond j1
  ((g_law32_fails n [116, 97, 114, 105, 102, 102, 32, 116, 32, 123, 32, 116, 105, 109, 101, 32, 53, 59, 32, 125] 9 11).bind fun r7 =>
  cond r7
   ((g_law32_fails n [116, 97, 114, 105, 102, 102, 32, 116, 32, 123, 32, 101, 110, 101, 114, 103, 121, 32, 53, 32, 98, 101, 116, 119, 101, 101, 110, 32, 57, 32, 57, 59, 32, 125] 3 11).bind fun r9 =>
   some r9)
   (some false))
  (some false)).bind fun j5 =>
 (cond j5
  ((g_t_Applies n (⟨2, 1, 480, 1200, 30, 0, 0⟩ : GAr) (⟨0, [], []⟩ : GCl) 480).bind fun r12 =>
  cond r12
   ((g_t_Applies n (⟨2, 1, 480, 1200, 30, 0, 0⟩ : GAr) (⟨0, [], []⟩ : GCl) 1199).bind fun r14 =>
   cond r14
    ((g_t_Applies n (⟨2, 1, 480, 1200, 30, 0, 0⟩ : GAr) (⟨0, [], []⟩ : GCl) 479).bind fun r16 =>
    cond (!r16)
     ((g_t_Applies n (⟨2, 1, 480, 1200, 30, 0, 0⟩ : GAr) (⟨0, [], []⟩ : GCl) 1200).bind fun r18 =>
     cond (!r18)
      ((g_t_Applies n (⟨2, 1, 480, 1200, 30, 0, 0⟩ : GAr) (⟨0, [], []⟩ : GCl) 7700).bind fun r20 =>
      cond (!r20)
       ((g_t_Applies n (⟨2, 1, 480, 1200, 30, 0, 0⟩ : GAr) (⟨0, [], []⟩ : GCl) 10580).bind fun r22 =>
       some r22)
       (some false))
      (some false))
     (some false))
    (some false))
   (some false))
  (some false)).bind fun j10 =>
 cond j10
  ((g_t_Valid n (⟨[116], [(⟨2, 1, 480, 1200, 30, 0, 0⟩ : GAr)]⟩ : GTf)).bind fun r24 =>
  cond r24
   ((g_t_Valid n (⟨[111, 110], []⟩ : GTf)).bind fun r26 =>
   some (!r26))
   (some false))
  (some false)
theorem g_law32_head_ok (n : Nat) : ∀ r, g_law32_head n = some r → PCall Try.prog 6 [] (.ret (B r)) := by
 refine pcall_sim (X := fun r : Bool => AEnd.ret (B r)) Try.func6 rfl Try.ntmps6 rfl ?_
 unfold g_law32_head
 refine sR tfm ⟨[], [], [], []⟩ ⟨[], []⟩ krf ?_
 refine sR tfm ⟨[1], [1], [], []⟩ ⟨[(1, .ptr 1 0)], [(1, .box 23 [I 2, I 1, I 480, I 1200, I 30, I 0, I 0])]⟩ krf ?_
 refine sim_bind (fun j1 => ⟨[(1, .ptr 1 0), (2, B j1)], [(1, .box 23 [I 2, I 1, I 480, I 1200, I 30, I 0, I 0])]⟩ : Bool → St) ?_ ?_
 ·refine sG ?_
  refine xR 1 krf ?_
  refine xC [] krf (g_law32_is_ok n [116, 97, 114, 105, 102, 102, 32, 116, 32, 123, 32, 101, 110, 101, 114, 103, 121, 32, 51, 48, 32, 111, 110, 32, 119, 111, 114, 107, 32, 98, 101, 116, 119, 101, 101, 110, 32, 52, 56, 48, 32, 49, 50, 48, 48, 59, 32, 125] (⟨2, 1, 480, 1200, 30, 0, 0⟩ : GAr)) krf krf (fun _ => by kernel_rfl) (fun r2 => ?_)
  refine xR 1 krf ?_
  refine xS r2 (fun h3 => ?_) (fun h3 => ?_)
  ·refine xO (want_tt krf h3) krf ?_
   refine xC [] krf (g_law32_is_ok n [116, 97, 114, 105, 102, 102, 32, 116, 32, 123, 32, 116, 105, 109, 101, 32, 53, 32, 102, 114, 101, 101, 32, 49, 48, 32, 112, 101, 114, 32, 49, 53, 59, 32, 125] (⟨3, 7, 0, 1440, 5, 15, 10⟩ : GAr)) krf krf (fun _ => by kernel_rfl) (fun r4 => ?_)
   refine xR 2 krf ?_
   refine xE ?_
   exact nq_n r4 ⟨[1, 2], [1], [], []⟩ krf
  ·refine xN (want_tf krf h3) krf ?_
   refine xR 3 krf ?_
   refine xE ?_
   exact nq_n false ⟨[1, 2], [1], [], []⟩ krf
 ·rintro j1
  refine sim_bind (fun j5 => ⟨[(1, .ptr 1 0), (2, B j5)], [(1, .box 23 [I 2, I 1, I 480, I 1200, I 30, I 0, I 0])]⟩ : Bool → St) ?_ ?_
  ·refine sG ?_
   refine xR 2 krf ?_
   refine xS j1 (fun h6 => ?_) (fun h6 => ?_)
   ·refine xC [] (want_tt krf h6) (g_law32_fails_ok n [116, 97, 114, 105, 102, 102, 32, 116, 32, 123, 32, 116, 105, 109, 101, 32, 53, 59, 32, 125] 9 11) krf krf (fun _ => by kernel_rfl) (fun r7 => ?_)
    refine xR 2 krf ?_
    refine xS r7 (fun h8 => ?_) (fun h8 => ?_)
    ·refine xC [] (want_tt krf h8) (g_law32_fails_ok n [116, 97, 114, 105, 102, 102, 32, 116, 32, 123, 32, 101, 110, 101, 114, 103, 121, 32, 53, 32, 98, 101, 116, 119, 101, 101, 110, 32, 57, 32, 57, 59, 32, 125] 3 11) krf krf (fun _ => by kernel_rfl) (fun r9 => ?_)
     refine xR 2 krf ?_
     refine xE ?_
     exact nq_n r9 ⟨[1, 2], [1], [], []⟩ krf
    ·refine xN (want_tf krf h8) krf ?_
     refine xR 2 krf ?_
     refine xE ?_
     exact nq_n false ⟨[1, 2], [1], [], []⟩ krf
   ·refine xN (want_tf krf h6) krf ?_
    refine xR 5 krf ?_
    refine xE ?_
    exact nq_n false ⟨[1, 2], [1], [], []⟩ krf
  ·rintro j5
   refine sR tfm ⟨[1, 2, 3], [1, 3], [], []⟩ ⟨[(1, .ptr 1 0), (2, B j5), (3, .ptr 3 0)], [(1, .box 23 [I 2, I 1, I 480, I 1200, I 30, I 0, I 0]), (3, .box 27 [I 0, .p (.val (.slice none 0 0)), .p (.val (.slice none 0 0))])]⟩ krf ?_
   refine sim_bind (fun j10 => ⟨[(1, .ptr 1 0), (2, B j10)], [(1, .box 23 [I 2, I 1, I 480, I 1200, I 30, I 0, I 0])]⟩ : Bool → St) ?_ ?_
   ·refine sG ?_
    refine xR 2 krf ?_
    refine xS j5 (fun h11 => ?_) (fun h11 => ?_)
    ·refine xO (want_tt krf h11) krf ?_
     refine xR 1 krf ?_
     refine xC [.id, .agg [.id, .sl 2, .sl 1], .id] krf (g_t_Applies_ok n (⟨2, 1, 480, 1200, 30, 0, 0⟩ : GAr) (⟨0, [], []⟩ : GCl) 480) krf krf (fun _ => by kernel_rfl) (fun r12 => ?_)
     refine xR 2 krf ?_
     refine xS r12 (fun h13 => ?_) (fun h13 => ?_)
     ·refine xO (want_tt krf h13) krf ?_
      refine xR 1 krf ?_
      refine xC [.id, .agg [.id, .sl 2, .sl 1], .id] krf (g_t_Applies_ok n (⟨2, 1, 480, 1200, 30, 0, 0⟩ : GAr) (⟨0, [], []⟩ : GCl) 1199) krf krf (fun _ => by kernel_rfl) (fun r14 => ?_)
      refine xR 2 krf ?_
      refine xS r14 (fun h15 => ?_) (fun h15 => ?_)
      ·refine xO (want_tt krf h15) krf ?_
       refine xR 1 krf ?_
       refine xC [.id, .agg [.id, .sl 2, .sl 1], .id] krf (g_t_Applies_ok n (⟨2, 1, 480, 1200, 30, 0, 0⟩ : GAr) (⟨0, [], []⟩ : GCl) 479) krf krf (fun _ => by kernel_rfl) (fun r16 => ?_)
       refine xR 3 krf ?_
       refine xS (!r16) (fun h17 => ?_) (fun h17 => ?_)
       ·refine xO (want_tt krf h17) krf ?_
        refine xR 1 krf ?_
        refine xC [.id, .agg [.id, .sl 2, .sl 1], .id] krf (g_t_Applies_ok n (⟨2, 1, 480, 1200, 30, 0, 0⟩ : GAr) (⟨0, [], []⟩ : GCl) 1200) krf krf (fun _ => by kernel_rfl) (fun r18 => ?_)
        refine xR 3 krf ?_
        refine xS (!r18) (fun h19 => ?_) (fun h19 => ?_)
        ·refine xO (want_tt krf h19) krf ?_
         refine xR 1 krf ?_
         refine xC [.id, .agg [.id, .sl 2, .sl 1], .id] krf (g_t_Applies_ok n (⟨2, 1, 480, 1200, 30, 0, 0⟩ : GAr) (⟨0, [], []⟩ : GCl) 7700) krf krf (fun _ => by kernel_rfl) (fun r20 => ?_)
         refine xR 3 krf ?_
         refine xS (!r20) (fun h21 => ?_) (fun h21 => ?_)
         ·refine xO (want_tt krf h21) krf ?_
          refine xR 1 krf ?_
          refine xC [.id, .agg [.id, .sl 2, .sl 1], .id] krf (g_t_Applies_ok n (⟨2, 1, 480, 1200, 30, 0, 0⟩ : GAr) (⟨0, [], []⟩ : GCl) 10580) krf krf (fun _ => by kernel_rfl) (fun r22 => ?_)
          refine xR 2 krf ?_
          refine xE ?_
          exact nq_n r22 ⟨[1, 2], [1], [], []⟩ krf
         ·refine xN (want_tf krf h21) krf ?_
          refine xR 4 krf ?_
          refine xE ?_
          exact nq_n false ⟨[1, 2], [1], [], []⟩ krf
        ·refine xN (want_tf krf h19) krf ?_
         refine xR 10 krf ?_
         refine xE ?_
         exact nq_n false ⟨[1, 2], [1], [], []⟩ krf
       ·refine xN (want_tf krf h17) krf ?_
        refine xR 16 krf ?_
        refine xE ?_
        exact nq_n false ⟨[1, 2], [1], [], []⟩ krf
      ·refine xN (want_tf krf h15) krf ?_
       refine xR 22 krf ?_
       refine xE ?_
       exact nq_n false ⟨[1, 2], [1], [], []⟩ krf
     ·refine xN (want_tf krf h13) krf ?_
      refine xR 27 krf ?_
      refine xE ?_
      exact nq_n false ⟨[1, 2], [1], [], []⟩ krf
    ·refine xN (want_tf krf h11) krf ?_
     refine xR 32 krf ?_
     refine xE ?_
     exact nq_n false ⟨[1, 2], [1], [], []⟩ krf
   ·rintro j10
    refine sS ?_
    refine sG ?_
    refine xR 2 krf ?_
    refine xS j10 (fun h23 => ?_) (fun h23 => ?_)
    ·refine xO (want_tt krf h23) krf ?_
     refine xR 2 krf ?_
     refine xC [.agg [.id, .sl 7]] krf (g_t_Valid_ok n (⟨[116], [(⟨2, 1, 480, 1200, 30, 0, 0⟩ : GAr)]⟩ : GTf)) krf krf (fun _ => by kernel_rfl) (fun r24 => ?_)
     refine xR 2 krf ?_
     refine xS r24 (fun h25 => ?_) (fun h25 => ?_)
     ·refine xO (want_tt krf h25) krf ?_
      refine xC [.agg [.id, .sl 7]] krf (g_t_Valid_ok n (⟨[111, 110], []⟩ : GTf)) krf krf (fun _ => by kernel_rfl) (fun r26 => ?_)
      refine xR 3 krf ?_
      refine xE ?_
      refine sN ⟨[0], [], [], []⟩ ⟨[(0, B (!r26))], []⟩ krf ?_
      refine sT ?_
      exact qR (.id) krf krf krf
     ·refine xN (want_tf krf h25) krf ?_
      refine xR 4 krf ?_
      refine xE ?_
      refine sN ⟨[0], [], [], []⟩ ⟨[(0, B false)], []⟩ krf ?_
      refine sT ?_
      exact qR (.id) krf krf krf
    ·refine xN (want_tf krf h23) krf ?_
     refine xR 10 krf ?_
     refine xE ?_
     refine sN ⟨[0], [], [], []⟩ ⟨[(0, B false)], []⟩ krf ?_
     refine sT ?_
     exact qR (.id) krf krf krf
def g_ref32_Article (n : Nat) (a0a : GAr) : Option Bool :=
 (cond (ltI a0a.Price 0)
  (some true)
  (cond (ltI 1000000 a0a.Price)
   (some true)
   (cond (ltI a0a.From 0)
    (some true)
    (cond (ltI 1439 a0a.From)
     (some true)
     (cond (leI a0a.To a0a.From)
      (some true)
      (cond (ltI 1440 a0a.To)
       (some true)
       (cond (ltI a0a.Days 1)
        (some true)
        (some (ltI 7 a0a.Days))))))))).bind fun j1 =>
 cond j1
  (some false)
  ((cond (eqI a0a.Kind 3)
   (some true)
   (some (eqI a0a.Kind 4))).bind fun j9 =>
  cond j9
   ((cond (leI 1 a0a.Unit)
    (cond (leI a0a.Unit 1440)
     (cond (leI 0 a0a.Free)
      (some (leI a0a.Free 1440))
      (some false))
     (some false))
    (some false)).bind fun j11 =>
   some j11)
   ((cond (!eqI a0a.Unit 0)
    (some true)
    (some (!eqI a0a.Free 0))).bind fun j15 =>
   cond j15
    (some false)
    ((cond (eqI a0a.From 0)
     (cond (eqI a0a.To 1440)
      (some (eqI a0a.Days 7))
      (some false))
     (some false)).bind fun j17 =>
    cond (eqI a0a.Kind 6)
     ((cond j17
      (some (leI a0a.Price 10000))
      (some false)).bind fun j20 =>
     some j20)
     (cond (eqI a0a.Kind 5)
      (some j17)
      (cond (eqI a0a.Kind 1)
       (some true)
       (some (eqI a0a.Kind 2)))))))
theorem g_ref32_Article_ok (n : Nat) (a0a : GAr) : ∀ r, g_ref32_Article n a0a = some r → PCall Try.prog 14 [ag (GAr.cs a0a)] (.ret (B r)) := by
 refine pcall_sim (X := fun r : Bool => AEnd.ret (B r)) Try.func14 rfl Try.ntmps14 rfl ?_
 unfold g_ref32_Article
 refine sR tfm ⟨[1], [1], [], []⟩ ⟨[(1, .ptr 1 0)], [(1, .box 23 (bxc (GAr.cs a0a)))]⟩ krf ?_
 refine sS ?_
 refine sim_bind (fun j1 => ⟨[(1, .ptr 1 0), (43, B j1)], [(1, .box 23 (bxc (GAr.cs a0a)))]⟩ : Bool → St) ?_ ?_
 ·refine sG ?_
  refine xR 4 krf ?_
  refine xS (ltI a0a.Price 0) (fun h2 => ?_) (fun h2 => ?_)
  ·refine xN (want_ft krf h2) krf ?_
   refine xR 35 krf ?_
   refine xE ?_
   exact nq_n true ⟨[1, 43], [1], [], []⟩ krf
  ·refine xO (want_ff krf h2) krf ?_
   refine xR 4 krf ?_
   refine xS (ltI 1000000 a0a.Price) (fun h3 => ?_) (fun h3 => ?_)
   ·refine xN (want_ft krf h3) krf ?_
    refine xR 30 krf ?_
    refine xE ?_
    exact nq_n true ⟨[1, 43], [1], [], []⟩ krf
   ·refine xO (want_ff krf h3) krf ?_
    refine xR 4 krf ?_
    refine xS (ltI a0a.From 0) (fun h4 => ?_) (fun h4 => ?_)
    ·refine xN (want_ft krf h4) krf ?_
     refine xR 25 krf ?_
     refine xE ?_
     exact nq_n true ⟨[1, 43], [1], [], []⟩ krf
    ·refine xO (want_ff krf h4) krf ?_
     refine xR 4 krf ?_
     refine xS (ltI 1439 a0a.From) (fun h5 => ?_) (fun h5 => ?_)
     ·refine xN (want_ft krf h5) krf ?_
      refine xR 20 krf ?_
      refine xE ?_
      exact nq_n true ⟨[1, 43], [1], [], []⟩ krf
     ·refine xO (want_ff krf h5) krf ?_
      refine xR 6 krf ?_
      refine xS (leI a0a.To a0a.From) (fun h6 => ?_) (fun h6 => ?_)
      ·refine xN (want_ft krf h6) krf ?_
       refine xR 13 krf ?_
       refine xE ?_
       exact nq_n true ⟨[1, 43], [1], [], []⟩ krf
      ·refine xO (want_ff krf h6) krf ?_
       refine xR 4 krf ?_
       refine xS (ltI 1440 a0a.To) (fun h7 => ?_) (fun h7 => ?_)
       ·refine xN (want_ft krf h7) krf ?_
        refine xR 8 krf ?_
        refine xE ?_
        exact nq_n true ⟨[1, 43], [1], [], []⟩ krf
       ·refine xO (want_ff krf h7) krf ?_
        refine xR 4 krf ?_
        refine xS (ltI a0a.Days 1) (fun h8 => ?_) (fun h8 => ?_)
        ·refine xN (want_ft krf h8) krf ?_
         refine xR 3 krf ?_
         refine xE ?_
         exact nq_n true ⟨[1, 43], [1], [], []⟩ krf
        ·refine xO (want_ff krf h8) krf ?_
         refine xR 3 krf ?_
         refine xE ?_
         exact nq_n (ltI 7 a0a.Days) ⟨[1, 43], [1], [], []⟩ krf
 ·rintro j1
  refine sC j1 krf ?_ ?_
  ·refine sR tfm ⟨[2], [], [], []⟩ ⟨[(2, B false)], []⟩ krf ?_
   refine sT ?_
   refine sq_r ?_
   exact qR (.id) krf krf krf
  ·refine sK ?_
   refine sN ⟨[1], [1], [], []⟩ ⟨[(1, .ptr 1 0)], [(1, .box 23 (bxc (GAr.cs a0a)))]⟩ krf ?_
   refine sS ?_
   refine sim_bind (fun j9 => ⟨[(1, .ptr 1 0), (51, B j9)], [(1, .box 23 (bxc (GAr.cs a0a)))]⟩ : Bool → St) ?_ ?_
   ·refine sG ?_
    refine xR 4 krf ?_
    refine xS (eqI a0a.Kind 3) (fun h10 => ?_) (fun h10 => ?_)
    ·refine xN (want_ft krf h10) krf ?_
     refine xR 3 krf ?_
     refine xE ?_
     exact nq_n true ⟨[1, 51], [1], [], []⟩ krf
    ·refine xO (want_ff krf h10) krf ?_
     refine xR 3 krf ?_
     refine xE ?_
     exact nq_n (eqI a0a.Kind 4) ⟨[1, 51], [1], [], []⟩ krf
   ·rintro j9
    refine sC j9 krf ?_ ?_
    ·refine sim_bind (fun j11 => ⟨[(2, B j11)], []⟩ : Bool → St) ?_ ?_
     ·refine sG ?_
      refine xR 4 krf ?_
      refine xS (leI 1 a0a.Unit) (fun h12 => ?_) (fun h12 => ?_)
      ·refine xO (want_tt krf h12) krf ?_
       refine xR 4 krf ?_
       refine xS (leI a0a.Unit 1440) (fun h13 => ?_) (fun h13 => ?_)
       ·refine xO (want_tt krf h13) krf ?_
        refine xR 4 krf ?_
        refine xS (leI 0 a0a.Free) (fun h14 => ?_) (fun h14 => ?_)
        ·refine xO (want_tt krf h14) krf ?_
         refine xR 4 krf ?_
         refine xE ?_
         exact nq_n (leI a0a.Free 1440) ⟨[2], [], [], []⟩ krf
        ·refine xN (want_tf krf h14) krf ?_
         refine xR 4 krf ?_
         refine xE ?_
         exact nq_n false ⟨[2], [], [], []⟩ krf
       ·refine xN (want_tf krf h13) krf ?_
        refine xR 9 krf ?_
        refine xE ?_
        exact nq_n false ⟨[2], [], [], []⟩ krf
      ·refine xN (want_tf krf h12) krf ?_
       refine xR 14 krf ?_
       refine xE ?_
       exact nq_n false ⟨[2], [], [], []⟩ krf
     ·rintro j11
      refine sT ?_
      refine sq_r ?_
      exact qR (.id) krf krf krf
    ·refine sK ?_
     refine sN ⟨[1], [1], [], []⟩ ⟨[(1, .ptr 1 0)], [(1, .box 23 (bxc (GAr.cs a0a)))]⟩ krf ?_
     refine sS ?_
     refine sim_bind (fun j15 => ⟨[(1, .ptr 1 0), (77, B j15)], [(1, .box 23 (bxc (GAr.cs a0a)))]⟩ : Bool → St) ?_ ?_
     ·refine sG ?_
      refine xR 4 krf ?_
      refine xS (!eqI a0a.Unit 0) (fun h16 => ?_) (fun h16 => ?_)
      ·refine xN (want_ft krf h16) krf ?_
       refine xR 3 krf ?_
       refine xE ?_
       exact nq_n true ⟨[1, 77], [1], [], []⟩ krf
      ·refine xO (want_ff krf h16) krf ?_
       refine xR 3 krf ?_
       refine xE ?_
       exact nq_n (!eqI a0a.Free 0) ⟨[1, 77], [1], [], []⟩ krf
     ·rintro j15
      refine sC j15 krf ?_ ?_
      ·refine sR tfm ⟨[2], [], [], []⟩ ⟨[(2, B false)], []⟩ krf ?_
       refine sT ?_
       refine sq_r ?_
       exact qR (.id) krf krf krf
      ·refine sK ?_
       refine sN ⟨[1], [1], [], []⟩ ⟨[(1, .ptr 1 0)], [(1, .box 23 (bxc (GAr.cs a0a)))]⟩ krf ?_
       refine sim_bind (fun j17 => ⟨[(1, .ptr 1 0), (3, B j17)], [(1, .box 23 (bxc (GAr.cs a0a)))]⟩ : Bool → St) ?_ ?_
       ·refine sG ?_
        refine xR 4 krf ?_
        refine xS (eqI a0a.From 0) (fun h18 => ?_) (fun h18 => ?_)
        ·refine xO (want_tt krf h18) krf ?_
         refine xR 4 krf ?_
         refine xS (eqI a0a.To 1440) (fun h19 => ?_) (fun h19 => ?_)
         ·refine xO (want_tt krf h19) krf ?_
          refine xR 4 krf ?_
          refine xE ?_
          exact nq_n (eqI a0a.Days 7) ⟨[1, 3], [1], [], []⟩ krf
         ·refine xN (want_tf krf h19) krf ?_
          refine xR 4 krf ?_
          refine xE ?_
          exact nq_n false ⟨[1, 3], [1], [], []⟩ krf
        ·refine xN (want_tf krf h18) krf ?_
         refine xR 9 krf ?_
         refine xE ?_
         exact nq_n false ⟨[1, 3], [1], [], []⟩ krf
       ·rintro j17
        refine sS ?_
        refine sR tfm ⟨[1, 3, 93], [1], [], []⟩ ⟨[(1, .ptr 1 0), (3, B j17), (93, B (eqI a0a.Kind 6))], [(1, .box 23 (bxc (GAr.cs a0a)))]⟩ krf ?_
        refine sC (eqI a0a.Kind 6) krf ?_ ?_
        ·refine sim_bind (fun j20 => ⟨[(2, B j20)], []⟩ : Bool → St) ?_ ?_
         ·refine sG ?_
          refine xR 2 krf ?_
          refine xS j17 (fun h21 => ?_) (fun h21 => ?_)
          ·refine xO (want_tt krf h21) krf ?_
           refine xR 4 krf ?_
           refine xE ?_
           exact nq_n (leI a0a.Price 10000) ⟨[2], [], [], []⟩ krf
          ·refine xN (want_tf krf h21) krf ?_
           refine xR 4 krf ?_
           refine xE ?_
           exact nq_n false ⟨[2], [], [], []⟩ krf
         ·rintro j20
          refine sT ?_
          refine sq_r ?_
          exact qR (.id) krf krf krf
        ·refine sK ?_
         refine sN ⟨[1, 3], [1], [], []⟩ ⟨[(1, .ptr 1 0), (3, B j17)], [(1, .box 23 (bxc (GAr.cs a0a)))]⟩ krf ?_
         refine sS ?_
         refine sR tfm ⟨[1, 3, 102], [1], [], []⟩ ⟨[(1, .ptr 1 0), (3, B j17), (102, B (eqI a0a.Kind 5))], [(1, .box 23 (bxc (GAr.cs a0a)))]⟩ krf ?_
         refine sC (eqI a0a.Kind 5) krf ?_ ?_
         ·refine sR tfm ⟨[2], [], [], []⟩ ⟨[(2, B j17)], []⟩ krf ?_
          refine sT ?_
          refine sq_r ?_
          exact qR (.id) krf krf krf
         ·refine sK ?_
          refine sN ⟨[1], [1], [], []⟩ ⟨[(1, .ptr 1 0)], [(1, .box 23 (bxc (GAr.cs a0a)))]⟩ krf ?_
          refine sS ?_
          refine sG ?_
          refine xR 4 krf ?_
          refine xS (eqI a0a.Kind 1) (fun h22 => ?_) (fun h22 => ?_)
          ·refine xN (want_ft krf h22) krf ?_
           refine xR 4 krf ?_
           refine xE ?_
           refine sN ⟨[2], [], [], []⟩ ⟨[(2, B true)], []⟩ krf ?_
           refine sT ?_
           exact qR (.id) krf krf krf
          ·refine xO (want_ff krf h22) krf ?_
           refine xR 4 krf ?_
           refine xE ?_
           refine sN ⟨[2], [], [], []⟩ ⟨[(2, B (eqI a0a.Kind 2))], []⟩ krf ?_
           refine sT ?_
           exact qR (.id) krf krf krf
def g_ref26_Few (n : Nat) (a0c : GCl) : Option Bool :=
 cond (leI (lenI (List.map GCh.cs a0c.Changes)) 30)
  (some (leI (lenI (List.map ci a0c.Holidays)) 60))
  (some false)
theorem g_ref26_Few_ok (n : Nat) (a0c : GCl) : ∀ r, g_ref26_Few n a0c = some r → PCall Try.prog 15 [ag (GCl.cs a0c)] (.ret (B r)) := by
 refine pcall_sim (X := fun r : Bool => AEnd.ret (B r)) Try.func15 rfl Try.ntmps15 rfl ?_
 unfold g_ref26_Few
 refine sR tfm ⟨[1], [1], [], []⟩ ⟨[(1, .ptr 1 0)], [(1, .box 27 (bxc (GCl.cs a0c)))]⟩ krf ?_
 refine sS ?_
 refine sG ?_
 refine xR 5 krf ?_
 refine xS (leI (lenI (List.map GCh.cs a0c.Changes)) 30) (fun h1 => ?_) (fun h1 => ?_)
 ·refine xO (want_tt krf h1) krf ?_
  refine xR 5 krf ?_
  refine xE ?_
  refine sN ⟨[2], [], [], []⟩ ⟨[(2, B (leI (lenI (List.map ci a0c.Holidays)) 60))], []⟩ krf ?_
  refine sT ?_
  exact qR (.id) krf krf krf
 ·refine xN (want_tf krf h1) krf ?_
  refine xR 5 krf ?_
  refine xE ?_
  refine sN ⟨[2], [], [], []⟩ ⟨[(2, B false)], []⟩ krf ?_
  refine sT ?_
  exact qR (.id) krf krf krf
def g_ref26_offset (n : Nat) (a0n : Int) : Option Bool :=
 cond (leI (-1440) a0n)
  (some (leI a0n 1440))
  (some false)
theorem g_ref26_offset_ok (n : Nat) (a0n : Int) : ∀ r, g_ref26_offset n a0n = some r → PCall Try.prog 29 [I a0n] (.ret (B r)) := by
 refine pcall_sim (X := fun r : Bool => AEnd.ret (B r)) Try.func29 rfl Try.ntmps29 rfl ?_
 unfold g_ref26_offset
 refine sR tfm ⟨[0], [], [], []⟩ ⟨[(0, I a0n)], []⟩ krf ?_
 refine sS ?_
 refine sG ?_
 refine xR 3 krf ?_
 refine xS (leI (-1440) a0n) (fun h1 => ?_) (fun h1 => ?_)
 ·refine xO (want_tt krf h1) krf ?_
  refine xR 3 krf ?_
  refine xE ?_
  refine sN ⟨[2], [], [], []⟩ ⟨[(2, B (leI a0n 1440))], []⟩ krf ?_
  refine sT ?_
  exact qR (.id) krf krf krf
 ·refine xN (want_tf krf h1) krf ?_
  refine xR 3 krf ?_
  refine xE ?_
  refine sN ⟨[2], [], [], []⟩ ⟨[(2, B false)], []⟩ krf ?_
  refine sT ?_
  exact qR (.id) krf krf krf
def g_ref26_Valid_l6 (a0c : GCl) (recl6 : Int → Option Bool) (l6 : Int) : Option Bool :=
 cond (ltI l6 (lenI (List.map ci a0c.Holidays)))
  ((getI a0c.Holidays l6).bind fun x7 =>
  (cond (ltI x7 0)
   (some true)
   (cond (ltI 36500 x7)
    (some true)
    (cond (ltI 0 l6)
     ((getI a0c.Holidays (wi (l6 - 1))).bind fun x12 =>
     some (leI x7 x12))
     (some false)))).bind fun j8 =>
  cond j8
   (some false)
   (recl6 (wi (l6 + 1))))
  (some true)
def g_ref26_Valid_j5 (n : Nat) (a0c : GCl) : Option Bool :=
 loopN (fun recl6 l6 => g_ref26_Valid_l6 a0c recl6 l6) n 0
def g_ref26_Valid_l13 (n : Nat) (a0c : GCl) (recl13 : Int → Option Bool) (l13 : Int) : Option Bool :=
 cond (ltI l13 (lenI (List.map GCh.cs a0c.Changes)))
  ((getI a0c.Changes l13).bind fun x14 =>
  ((g_ref26_offset n x14.Offset).bind fun r16 =>
  cond (!r16)
   (some true)
   (cond (ltI x14.At 0)
    (some true)
    (cond (ltI 52560000 x14.At)
     (some true)
     (cond (ltI 0 l13)
      ((getI a0c.Changes (wi (l13 - 1))).bind fun x21 =>
      some (leI x14.At x21.At))
      (some false))))).bind fun j15 =>
  cond j15
   (some false)
   (recl13 (wi (l13 + 1))))
  (g_ref26_Valid_j5 n a0c)
def g_ref26_Valid (n : Nat) (a0c : GCl) : Option Bool :=
 ((g_ref26_offset n a0c.Offset).bind fun r2 =>
 cond (!r2)
  (some true)
  (cond (ltI 16 (lenI (List.map GCh.cs a0c.Changes)))
   (some true)
   (some (ltI 32 (lenI (List.map ci a0c.Holidays)))))).bind fun j1 =>
 cond j1
  (some false)
  (loopN (fun recl13 l13 => g_ref26_Valid_l13 n a0c recl13 l13) n 0)
theorem g_ref26_Valid_ok (n : Nat) (a0c : GCl) : ∀ r, g_ref26_Valid n a0c = some r → PCall Try.prog 16 [ag (GCl.cs a0c)] (.ret (B r)) := by
 refine pcall_sim (X := fun r : Bool => AEnd.ret (B r)) Try.func16 rfl Try.ntmps16 rfl ?_
 unfold g_ref26_Valid
 refine sR tfm ⟨[1], [1], [], []⟩ ⟨[(1, .ptr 1 0)], [(1, .box 27 (bxc (GCl.cs a0c)))]⟩ krf ?_
 refine sS ?_
 refine sim_bind (fun j1 => ⟨[(1, .ptr 1 0), (22, B j1)], [(1, .box 27 (bxc (GCl.cs a0c)))]⟩ : Bool → St) ?_ ?_
 ·refine sG ?_
  refine xR 2 krf ?_
  refine xC [] krf (g_ref26_offset_ok n a0c.Offset) krf krf (fun _ => by kernel_rfl) (fun r2 => ?_)
  refine xR 2 krf ?_
  refine xS (!r2) (fun h3 => ?_) (fun h3 => ?_)
  ·refine xN (want_ft krf h3) krf ?_
   refine xR 10 krf ?_
   refine xE ?_
   exact nq_n true ⟨[1, 22], [1], [], []⟩ krf
  ·refine xO (want_ff krf h3) krf ?_
   refine xR 5 krf ?_
   refine xS (ltI 16 (lenI (List.map GCh.cs a0c.Changes))) (fun h4 => ?_) (fun h4 => ?_)
   ·refine xN (want_ft krf h4) krf ?_
    refine xR 4 krf ?_
    refine xE ?_
    exact nq_n true ⟨[1, 22], [1], [], []⟩ krf
   ·refine xO (want_ff krf h4) krf ?_
    refine xR 4 krf ?_
    refine xE ?_
    exact nq_n (ltI 32 (lenI (List.map ci a0c.Holidays))) ⟨[1, 22], [1], [], []⟩ krf
 ·rintro j1
  refine sC j1 krf ?_ ?_
  ·refine sR tfm ⟨[2], [], [], []⟩ ⟨[(2, B false)], []⟩ krf ?_
   refine sT ?_
   refine sq_r ?_
   exact qR (.id) krf krf krf
  ·refine sK ?_
   refine sN ⟨[1], [1], [], []⟩ ⟨[(1, .ptr 1 0)], [(1, .box 27 (bxc (GCl.cs a0c)))]⟩ krf ?_
   refine sim_cps (fun _ => ⟨[(1, .ptr 1 0)], [(1, .box 27 (bxc (GCl.cs a0c)))]⟩ : Unit → St) (fun _ => g_ref26_Valid_j5 n a0c) ?_ ?_
   ·rintro _
    show SimE (g_ref26_Valid_j5 n a0c) _ _ _ _ _ _
    unfold g_ref26_Valid_j5
    refine sS ?_
    refine sR tfm ⟨[1, 5], [1], [], []⟩ ⟨[(1, .ptr 1 0), (5, I 0)], [(1, .box 27 (bxc (GCl.cs a0c)))]⟩ krf ?_
    refine sB ?_
    refine sim_loop (fun l6 => ⟨[(1, .ptr 1 0), (5, I l6)], [(1, .box 27 (bxc (GCl.cs a0c)))]⟩ : Int → St) (weak_shr (K := ⟨[1, 5], [1], [], []⟩) krf) ?_
    rintro recl6 l6
    show SimE (g_ref26_Valid_l6 a0c recl6 l6) _ _ _ _ _ _
    unfold g_ref26_Valid_l6
    refine sS ?_
    refine sR tfm ⟨[1, 5, 69], [1], [], []⟩ ⟨[(1, .ptr 1 0), (5, I l6), (69, B (ltI l6 (lenI (List.map ci a0c.Holidays))))], [(1, .box 27 (bxc (GCl.cs a0c)))]⟩ krf ?_
    refine sC (ltI l6 (lenI (List.map ci a0c.Holidays))) krf ?_ ?_
    ·refine sK ?_
     refine sN ⟨[1, 5], [1], [], []⟩ ⟨[(1, .ptr 1 0), (5, I l6)], [(1, .box 27 (bxc (GCl.cs a0c)))]⟩ krf ?_
     refine sS ?_
     refine sB ?_
     refine sS ?_
     refine sG ?_
     refine xR 3 krf ?_
     refine xG krf krf (aop_idx (e := 3) (S := 1) (enc := ci) (l := a0c.Holidays) (k := .i64) (n := l6) (sv := .p (.sl 1 (List.map ci a0c.Holidays))) rfl krf krf krf krf krf) (fun x7 => ?_)
     refine xR 2 krf ?_
     refine xE ?_
     refine sN ⟨[1, 5, 6], [1], [], []⟩ ⟨[(1, .ptr 1 0), (5, I l6), (6, I x7)], [(1, .box 27 (bxc (GCl.cs a0c)))]⟩ krf ?_
     refine sim_bind (fun j8 => ⟨[(1, .ptr 1 0), (5, I l6), (96, B j8)], [(1, .box 27 (bxc (GCl.cs a0c)))]⟩ : Bool → St) ?_ ?_
     ·refine sG ?_
      refine xR 3 krf ?_
      refine xS (ltI x7 0) (fun h9 => ?_) (fun h9 => ?_)
      ·refine xN (want_ft krf h9) krf ?_
       refine xR 16 krf ?_
       refine xE ?_
       exact nq_n true ⟨[1, 5, 96], [1], [], []⟩ krf
      ·refine xO (want_ff krf h9) krf ?_
       refine xR 3 krf ?_
       refine xS (ltI 36500 x7) (fun h10 => ?_) (fun h10 => ?_)
       ·refine xN (want_ft krf h10) krf ?_
        refine xR 12 krf ?_
        refine xE ?_
        exact nq_n true ⟨[1, 5, 96], [1], [], []⟩ krf
       ·refine xO (want_ff krf h10) krf ?_
        refine xR 2 krf ?_
        refine xS (ltI 0 l6) (fun h11 => ?_) (fun h11 => ?_)
        ·refine xO (want_tt krf h11) krf ?_
         refine xR 4 krf ?_
         refine xG krf krf (aop_idx (e := 3) (S := 1) (enc := ci) (l := a0c.Holidays) (k := .i64) (n := wi (l6 - 1)) (sv := .p (.sl 1 (List.map ci a0c.Holidays))) rfl krf krf krf krf krf) (fun x12 => ?_)
         refine xR 4 krf ?_
         refine xE ?_
         exact nq_n (leI x7 x12) ⟨[1, 5, 96], [1], [], []⟩ krf
        ·refine xN (want_tf krf h11) krf ?_
         refine xR 9 krf ?_
         refine xE ?_
         exact nq_n false ⟨[1, 5, 96], [1], [], []⟩ krf
     ·rintro j8
      refine sC j8 krf ?_ ?_
      ·refine sR tfm ⟨[2], [], [], []⟩ ⟨[(2, B false)], []⟩ krf ?_
       refine sT ?_
       refine bq_r ?_
       refine sq_r ?_
       refine kq_r ?_
       refine bq_r ?_
       refine sq_r ?_
       exact qR (.id) krf krf krf
      ·refine sK ?_
       refine bq_n ?_
       refine sN ⟨[1, 5], [1], [], []⟩ ⟨[(1, .ptr 1 0), (5, I l6)], [(1, .box 27 (bxc (GCl.cs a0c)))]⟩ krf ?_
       refine sL tfm krf ?_
       exact kq_n (wi (l6 + 1)) ⟨[1, 5], [1], [], []⟩ krf
    ·refine sim_exit ?_
     refine sq_x ?_
     refine kq_x ?_
     refine bq_hit ?_
     refine sN ⟨[], [], [], []⟩ ⟨[], []⟩ krf ?_
     refine sR tfm ⟨[2], [], [], []⟩ ⟨[(2, B true)], []⟩ krf ?_
     refine sT ?_
     exact qR (.id) krf krf krf
   ·refine sR tfm ⟨[1, 3], [1], [], []⟩ ⟨[(1, .ptr 1 0), (3, I 0)], [(1, .box 27 (bxc (GCl.cs a0c)))]⟩ krf ?_
    refine sB ?_
    refine sim_loop (fun l13 => ⟨[(1, .ptr 1 0), (3, I l13)], [(1, .box 27 (bxc (GCl.cs a0c)))]⟩ : Int → St) (weak_shr (K := ⟨[1, 3], [1], [], []⟩) krf) ?_
    rintro recl13 l13
    show SimE (g_ref26_Valid_l13 n a0c recl13 l13) _ _ _ _ _ _
    unfold g_ref26_Valid_l13
    refine sS ?_
    refine sR tfm ⟨[1, 3, 27], [1], [], []⟩ ⟨[(1, .ptr 1 0), (3, I l13), (27, B (ltI l13 (lenI (List.map GCh.cs a0c.Changes))))], [(1, .box 27 (bxc (GCl.cs a0c)))]⟩ krf ?_
    refine sC (ltI l13 (lenI (List.map GCh.cs a0c.Changes))) krf ?_ ?_
    ·refine sK ?_
     refine sN ⟨[1, 3], [1], [], []⟩ ⟨[(1, .ptr 1 0), (3, I l13)], [(1, .box 27 (bxc (GCl.cs a0c)))]⟩ krf ?_
     refine sS ?_
     refine sB ?_
     refine sS ?_
     refine sG ?_
     refine xR 3 krf ?_
     refine xG krf krf (aop_idx (e := 56) (S := 2) (enc := GCh.cs) (l := a0c.Changes) (k := .i64) (n := l13) (sv := .p (.sl 2 (List.map GCh.cs a0c.Changes))) rfl krf krf krf krf krf) (fun x14 => ?_)
     refine xR 3 krf ?_
     refine xE ?_
     refine sN ⟨[1, 3, 4], [1, 4], [], []⟩ ⟨[(1, .ptr 1 0), (3, I l13), (4, .ptr 4 0)], [(1, .box 27 (bxc (GCl.cs a0c))), (4, .box 56 (bxc (GCh.cs x14)))]⟩ krf ?_
     refine sim_bind (fun j15 => ⟨[(1, .ptr 1 0), (3, I l13), (64, B j15)], [(1, .box 27 (bxc (GCl.cs a0c)))]⟩ : Bool → St) ?_ ?_
     ·refine sim_drw tfm rfl ?_
      refine xR 2 krf ?_
      refine xC [] krf (g_ref26_offset_ok n x14.Offset) krf krf (fun _ => by kernel_rfl) (fun r16 => ?_)
      refine xR 2 krf ?_
      refine xS (!r16) (fun h17 => ?_) (fun h17 => ?_)
      ·refine xN (want_ft krf h17) krf ?_
       refine xR 24 krf ?_
       refine xs_endD krf ?_
       exact nq_n true ⟨[1, 3, 64], [1], [], []⟩ krf
      ·refine xO (want_ff krf h17) krf ?_
       refine xR 4 krf ?_
       refine xS (ltI x14.At 0) (fun h18 => ?_) (fun h18 => ?_)
       ·refine xN (want_ft krf h18) krf ?_
        refine xR 19 krf ?_
        refine xs_endD krf ?_
        exact nq_n true ⟨[1, 3, 64], [1], [], []⟩ krf
       ·refine xO (want_ff krf h18) krf ?_
        refine xR 4 krf ?_
        refine xS (ltI 52560000 x14.At) (fun h19 => ?_) (fun h19 => ?_)
        ·refine xN (want_ft krf h19) krf ?_
         refine xR 14 krf ?_
         refine xs_endD krf ?_
         exact nq_n true ⟨[1, 3, 64], [1], [], []⟩ krf
        ·refine xO (want_ff krf h19) krf ?_
         refine xR 2 krf ?_
         refine xS (ltI 0 l13) (fun h20 => ?_) (fun h20 => ?_)
         ·refine xO (want_tt krf h20) krf ?_
          refine xR 5 krf ?_
          refine xG krf krf (aop_idx (e := 56) (S := 2) (enc := GCh.cs) (l := a0c.Changes) (k := .i64) (n := wi (l13 - 1)) (sv := .p (.sl 2 (List.map GCh.cs a0c.Changes))) rfl krf krf krf krf krf) (fun x21 => ?_)
          refine xR 5 krf ?_
          refine xs_endD krf ?_
          exact nq_n (leI x14.At x21.At) ⟨[1, 3, 64], [1], [], []⟩ krf
         ·refine xN (want_tf krf h20) krf ?_
          refine xR 11 krf ?_
          refine xs_endD krf ?_
          exact nq_n false ⟨[1, 3, 64], [1], [], []⟩ krf
     ·rintro j15
      refine sC j15 krf ?_ ?_
      ·refine sR tfm ⟨[2], [], [], []⟩ ⟨[(2, B false)], []⟩ krf ?_
       refine sT ?_
       refine bq_r ?_
       refine sq_r ?_
       refine kq_r ?_
       refine bq_r ?_
       refine kq_r ?_
       exact qR (.id) krf krf krf
      ·refine sK ?_
       refine bq_n ?_
       refine sN ⟨[1, 3], [1], [], []⟩ ⟨[(1, .ptr 1 0), (3, I l13)], [(1, .box 27 (bxc (GCl.cs a0c)))]⟩ krf ?_
       refine sL tfm krf ?_
       exact kq_n (wi (l13 + 1)) ⟨[1, 3], [1], [], []⟩ krf
    ·refine sim_exit ?_
     refine sq_x ?_
     refine kq_x ?_
     refine bq_hit ?_
     exact kq_n (k := fun _ => g_ref26_Valid_j5 n a0c) () ⟨[1], [1], [], []⟩ krf
def g_law32_fits (n : Nat) (a0a : GAr) (a1c : GCl) : Option Bool :=
 (g_ref32_Article n a0a).bind fun r1 =>
 cond r1
  ((g_ref26_Few n a1c).bind fun r3 =>
  cond r3
   ((g_ref26_Valid n a1c).bind fun r5 =>
   some r5)
   (some false))
  (some false)
theorem g_law32_fits_ok (n : Nat) (a0a : GAr) (a1c : GCl) : ∀ r, g_law32_fits n a0a a1c = some r → PCall Try.prog 7 [ag (GAr.cs a0a), ag (GCl.cs a1c)] (.ret (B r)) := by
 refine pcall_sim (X := fun r : Bool => AEnd.ret (B r)) Try.func7 rfl Try.ntmps7 rfl ?_
 unfold g_law32_fits
 refine sR tfm ⟨[2, 3], [2, 3], [], []⟩ ⟨[(2, .ptr 2 0), (3, .ptr 3 0)], [(2, .box 23 (bxc (GAr.cs a0a))), (3, .box 27 (bxc (GCl.cs a1c)))]⟩ krf ?_
 refine sS ?_
 refine sG ?_
 refine xR 1 krf ?_
 refine xC [] krf (g_ref32_Article_ok n a0a) krf krf (fun _ => by kernel_rfl) (fun r1 => ?_)
 refine xR 1 krf ?_
 refine xS r1 (fun h2 => ?_) (fun h2 => ?_)
 ·refine xO (want_tt krf h2) krf ?_
  refine xC [] krf (g_ref26_Few_ok n a1c) krf krf (fun _ => by kernel_rfl) (fun r3 => ?_)
  refine xR 2 krf ?_
  refine xS r3 (fun h4 => ?_) (fun h4 => ?_)
  ·refine xO (want_tt krf h4) krf ?_
   refine xC [] krf (g_ref26_Valid_ok n a1c) krf krf (fun _ => by kernel_rfl) (fun r5 => ?_)
   refine xR 2 krf ?_
   refine xE ?_
   refine sN ⟨[4], [], [], []⟩ ⟨[(4, B r5)], []⟩ krf ?_
   refine sT ?_
   exact qR (.id) krf krf krf
  ·refine xN (want_tf krf h4) krf ?_
   refine xR 3 krf ?_
   refine xE ?_
   refine sN ⟨[4], [], [], []⟩ ⟨[(4, B false)], []⟩ krf ?_
   refine sT ?_
   exact qR (.id) krf krf krf
 ·refine xN (want_tf krf h2) krf ?_
  refine xR 7 krf ?_
  refine xE ?_
  refine sN ⟨[4], [], [], []⟩ ⟨[(4, B false)], []⟩ krf ?_
  refine sT ?_
  exact qR (.id) krf krf krf
def g_law32_TariffWholeDay_l7 (n : Nat) (a0a : GAr) (a1c : GCl) (a2day : Int) (recl7 : (Int × Int) → Option Int) (l7_1 : Int) (l7_2 : Int) : Option Int :=
 cond (ltI l7_2 (wi ((wi ((wi (1440 * (wi (2 + (Int.tmod (wi a2day) 1000))))) - a1c.Offset)) + 1440)))
  ((g_t_Applies n a0a (⟨a1c.Offset, [], a1c.Holidays⟩ : GCl) l7_2).bind fun r8 =>
  cond r8
   (recl7 (wi (l7_1 + 1), wi (l7_2 + 1)))
   (recl7 (l7_1, wi (l7_2 + 1))))
  (some l7_1)
def g_law32_TariffWholeDay (n : Nat) (a0a : GAr) (a1c : GCl) (a2day : Int) : Option Bool :=
 (g_law32_head n).bind fun r1 =>
 ((g_law32_fits n a0a (⟨a1c.Offset, [], a1c.Holidays⟩ : GCl)).bind fun r3 =>
 cond (!r3)
  (some true)
  (cond (eqI a0a.Kind 5)
   (some true)
   (some (eqI a0a.Kind 6)))).bind fun j2 =>
 cond j2
  (some r1)
  ((loopN (fun recl7 (l7_1, l7_2) => g_law32_TariffWholeDay_l7 n a0a a1c a2day recl7 l7_1 l7_2) n (0, wi ((wi (1440 * (wi (2 + (Int.tmod (wi a2day) 1000))))) - a1c.Offset))).bind fun j6 =>
  cond r1
   (cond (eqI j6 0)
    (some true)
    (some (eqI j6 (wi (a0a.To - a0a.From)))))
   (some false))
theorem g_law32_TariffWholeDay_ok (n : Nat) (a0a : GAr) (a1c : GCl) (a2day : Int) : ∀ r, g_law32_TariffWholeDay n a0a a1c a2day = some r → PCall Try.prog 5 [ag (GAr.cs a0a), ag (GCl.cs a1c), .p (.val (.int .u16 a2day))] (.ret (B r)) := by
 refine pcall_sim (X := fun r : Bool => AEnd.ret (B r)) Try.func5 rfl Try.ntmps5 rfl ?_
 unfold g_law32_TariffWholeDay
 refine sR tfm ⟨[2, 3, 4], [3, 4], [], []⟩ ⟨[(2, .p (.val (.int .u16 a2day))), (3, .ptr 3 0), (4, .ptr 4 0)], [(3, .box 23 (bxc (GAr.cs a0a))), (4, .box 27 (bxc (GCl.cs a1c)))]⟩ krf ?_
 refine sS ?_
 refine sG ?_
 refine xC [] krf (g_law32_head_ok n) krf krf (fun _ => by kernel_rfl) (fun r1 => ?_)
 refine xR 1 krf ?_
 refine xE ?_
 refine sN ⟨[2, 3, 4, 7], [3, 4], [], []⟩ ⟨[(2, .p (.val (.int .u16 a2day))), (3, .ptr 3 0), (4, .ptr 4 0), (7, B r1)], [(3, .box 23 (bxc (GAr.cs a0a))), (4, .box 27 (bxc (GCl.cs a1c)))]⟩ krf ?_
 refine sR tfm ⟨[2, 3, 4, 7], [3, 4], [], []⟩ ⟨[(2, .p (.val (.int .u16 a2day))), (3, .ptr 3 0), (4, .ptr 4 0), (7, B r1)], [(3, .box 23 (bxc (GAr.cs a0a))), (4, .box 27 [I a1c.Offset, .p (.val (.slice none 0 0)), .p (.sl 1 (List.map ci a1c.Holidays))])]⟩ krf ?_
 refine sS ?_
 refine sim_bind (fun j2 => ⟨[(2, .p (.val (.int .u16 a2day))), (3, .ptr 3 0), (4, .ptr 4 0), (7, B r1), (26, B j2)], [(3, .box 23 (bxc (GAr.cs a0a))), (4, .box 27 [I a1c.Offset, .p (.val (.slice none 0 0)), .p (.sl 1 (List.map ci a1c.Holidays))])]⟩ : Bool → St) ?_ ?_
 ·refine sG ?_
  refine xR 2 krf ?_
  refine xC [.id, .agg [.id, .sl 2, .id]] krf (g_law32_fits_ok n a0a (⟨a1c.Offset, [], a1c.Holidays⟩ : GCl)) krf krf (fun _ => by kernel_rfl) (fun r3 => ?_)
  refine xR 2 krf ?_
  refine xS (!r3) (fun h4 => ?_) (fun h4 => ?_)
  ·refine xN (want_ft krf h4) krf ?_
   refine xR 8 krf ?_
   refine xE ?_
   exact nq_n true ⟨[2, 3, 4, 7, 26], [3, 4], [], []⟩ krf
  ·refine xO (want_ff krf h4) krf ?_
   refine xR 4 krf ?_
   refine xS (eqI a0a.Kind 5) (fun h5 => ?_) (fun h5 => ?_)
   ·refine xN (want_ft krf h5) krf ?_
    refine xR 3 krf ?_
    refine xE ?_
    exact nq_n true ⟨[2, 3, 4, 7, 26], [3, 4], [], []⟩ krf
   ·refine xO (want_ff krf h5) krf ?_
    refine xR 3 krf ?_
    refine xE ?_
    exact nq_n (eqI a0a.Kind 6) ⟨[2, 3, 4, 7, 26], [3, 4], [], []⟩ krf
 ·rintro j2
  refine sC j2 krf ?_ ?_
  ·refine sR tfm ⟨[6], [], [], []⟩ ⟨[(6, B r1)], []⟩ krf ?_
   refine sT ?_
   refine sq_r ?_
   exact qR (.id) krf krf krf
  ·refine sK ?_
   refine sN ⟨[2, 3, 4, 7], [3, 4], [], []⟩ ⟨[(2, .p (.val (.int .u16 a2day))), (3, .ptr 3 0), (4, .ptr 4 0), (7, B r1)], [(3, .box 23 (bxc (GAr.cs a0a))), (4, .box 27 [I a1c.Offset, .p (.val (.slice none 0 0)), .p (.sl 1 (List.map ci a1c.Holidays))])]⟩ krf ?_
   refine sR tfm ⟨[3, 4, 7, 8], [3, 4], [], []⟩ ⟨[(3, .ptr 3 0), (4, .ptr 4 0), (7, B r1), (8, I (wi ((wi (1440 * (wi (2 + (Int.tmod (wi a2day) 1000))))) - a1c.Offset)))], [(3, .box 23 (bxc (GAr.cs a0a))), (4, .box 27 [I a1c.Offset, .p (.val (.slice none 0 0)), .p (.sl 1 (List.map ci a1c.Holidays))])]⟩ krf ?_
   refine sR tfm ⟨[3, 4, 7, 8, 9], [3, 4], [], []⟩ ⟨[(3, .ptr 3 0), (4, .ptr 4 0), (7, B r1), (8, I (wi ((wi (1440 * (wi (2 + (Int.tmod (wi a2day) 1000))))) - a1c.Offset))), (9, I 0)], [(3, .box 23 (bxc (GAr.cs a0a))), (4, .box 27 [I a1c.Offset, .p (.val (.slice none 0 0)), .p (.sl 1 (List.map ci a1c.Holidays))])]⟩ krf ?_
   refine sim_bind (fun j6 => ⟨[(3, .ptr 3 0), (7, B r1), (9, I j6)], [(3, .box 23 (bxc (GAr.cs a0a)))]⟩ : Int → St) ?_ ?_
   ·refine sR tfm ⟨[3, 4, 7, 8, 9, 10], [3, 4], [], []⟩ ⟨[(3, .ptr 3 0), (4, .ptr 4 0), (7, B r1), (8, I (wi ((wi (1440 * (wi (2 + (Int.tmod (wi a2day) 1000))))) - a1c.Offset))), (9, I 0), (10, I (wi ((wi (1440 * (wi (2 + (Int.tmod (wi a2day) 1000))))) - a1c.Offset)))], [(3, .box 23 (bxc (GAr.cs a0a))), (4, .box 27 [I a1c.Offset, .p (.val (.slice none 0 0)), .p (.sl 1 (List.map ci a1c.Holidays))])]⟩ krf ?_
    refine sB ?_
    refine sim_loop (fun (l7_1, l7_2) => ⟨[(3, .ptr 3 0), (4, .ptr 4 0), (7, B r1), (8, I (wi ((wi (1440 * (wi (2 + (Int.tmod (wi a2day) 1000))))) - a1c.Offset))), (9, I l7_1), (10, I l7_2)], [(3, .box 23 (bxc (GAr.cs a0a))), (4, .box 27 [I a1c.Offset, .p (.val (.slice none 0 0)), .p (.sl 1 (List.map ci a1c.Holidays))])]⟩ : (Int × Int) → St) (weak_shr (K := ⟨[3, 4, 7, 8, 9, 10], [3, 4], [], []⟩) krf) ?_
    rintro recl7 ⟨l7_1, l7_2⟩
    show SimE (g_law32_TariffWholeDay_l7 n a0a a1c a2day recl7 l7_1 l7_2) _ _ _ _ _ _
    unfold g_law32_TariffWholeDay_l7
    refine sS ?_
    refine sR tfm ⟨[3, 4, 7, 8, 9, 10, 40], [3, 4], [], []⟩ ⟨[(3, .ptr 3 0), (4, .ptr 4 0), (7, B r1), (8, I (wi ((wi (1440 * (wi (2 + (Int.tmod (wi a2day) 1000))))) - a1c.Offset))), (9, I l7_1), (10, I l7_2), (40, B (ltI l7_2 (wi ((wi ((wi (1440 * (wi (2 + (Int.tmod (wi a2day) 1000))))) - a1c.Offset)) + 1440))))], [(3, .box 23 (bxc (GAr.cs a0a))), (4, .box 27 [I a1c.Offset, .p (.val (.slice none 0 0)), .p (.sl 1 (List.map ci a1c.Holidays))])]⟩ krf ?_
    refine sC (ltI l7_2 (wi ((wi ((wi (1440 * (wi (2 + (Int.tmod (wi a2day) 1000))))) - a1c.Offset)) + 1440))) krf ?_ ?_
    ·refine sK ?_
     refine sN ⟨[3, 4, 7, 8, 9, 10], [3, 4], [], []⟩ ⟨[(3, .ptr 3 0), (4, .ptr 4 0), (7, B r1), (8, I (wi ((wi (1440 * (wi (2 + (Int.tmod (wi a2day) 1000))))) - a1c.Offset))), (9, I l7_1), (10, I l7_2)], [(3, .box 23 (bxc (GAr.cs a0a))), (4, .box 27 [I a1c.Offset, .p (.val (.slice none 0 0)), .p (.sl 1 (List.map ci a1c.Holidays))])]⟩ krf ?_
     refine sS ?_
     refine sB ?_
     refine sS ?_
     refine sG ?_
     refine xR 3 krf ?_
     refine xC [.id, .agg [.id, .sl 2, .id], .id] krf (g_t_Applies_ok n a0a (⟨a1c.Offset, [], a1c.Holidays⟩ : GCl) l7_2) krf krf (fun _ => by kernel_rfl) (fun r8 => ?_)
     refine xE ?_
     refine sN ⟨[3, 4, 7, 8, 9, 10, 46], [3, 4], [], []⟩ ⟨[(3, .ptr 3 0), (4, .ptr 4 0), (7, B r1), (8, I (wi ((wi (1440 * (wi (2 + (Int.tmod (wi a2day) 1000))))) - a1c.Offset))), (9, I l7_1), (10, I l7_2), (46, B r8)], [(3, .box 23 (bxc (GAr.cs a0a))), (4, .box 27 [I a1c.Offset, .p (.val (.slice none 0 0)), .p (.sl 1 (List.map ci a1c.Holidays))])]⟩ krf ?_
     refine sC r8 krf ?_ ?_
     ·refine sL tfm krf ?_
      refine bq_n ?_
      refine sN ⟨[3, 4, 7, 8, 9, 10], [3, 4], [], []⟩ ⟨[(3, .ptr 3 0), (4, .ptr 4 0), (7, B r1), (8, I (wi ((wi (1440 * (wi (2 + (Int.tmod (wi a2day) 1000))))) - a1c.Offset))), (9, I (wi (l7_1 + 1))), (10, I l7_2)], [(3, .box 23 (bxc (GAr.cs a0a))), (4, .box 27 [I a1c.Offset, .p (.val (.slice none 0 0)), .p (.sl 1 (List.map ci a1c.Holidays))])]⟩ krf ?_
      refine sL tfm krf ?_
      exact kq_n (wi (l7_1 + 1), wi (l7_2 + 1)) ⟨[3, 4, 7, 8, 9, 10], [3, 4], [], []⟩ krf
     ·refine sK ?_
      refine bq_n ?_
      refine sN ⟨[3, 4, 7, 8, 9, 10], [3, 4], [], []⟩ ⟨[(3, .ptr 3 0), (4, .ptr 4 0), (7, B r1), (8, I (wi ((wi (1440 * (wi (2 + (Int.tmod (wi a2day) 1000))))) - a1c.Offset))), (9, I l7_1), (10, I l7_2)], [(3, .box 23 (bxc (GAr.cs a0a))), (4, .box 27 [I a1c.Offset, .p (.val (.slice none 0 0)), .p (.sl 1 (List.map ci a1c.Holidays))])]⟩ krf ?_
      refine sL tfm krf ?_
      exact kq_n (l7_1, wi (l7_2 + 1)) ⟨[3, 4, 7, 8, 9, 10], [3, 4], [], []⟩ krf
    ·refine sim_exit ?_
     refine sq_x ?_
     refine kq_x ?_
     refine bq_hit ?_
     exact nq_n l7_1 ⟨[3, 7, 9], [3], [], []⟩ krf
   ·rintro j6
    refine sS ?_
    refine sG ?_
    refine xR 2 krf ?_
    refine xS r1 (fun h9 => ?_) (fun h9 => ?_)
    ·refine xO (want_tt krf h9) krf ?_
     refine xR 2 krf ?_
     refine xS (eqI j6 0) (fun h10 => ?_) (fun h10 => ?_)
     ·refine xN (want_ft krf h10) krf ?_
      refine xR 9 krf ?_
      refine xE ?_
      refine sN ⟨[6], [], [], []⟩ ⟨[(6, B true)], []⟩ krf ?_
      refine sT ?_
      exact qR (.id) krf krf krf
     ·refine xO (want_ff krf h10) krf ?_
      refine xR 9 krf ?_
      refine xE ?_
      refine sN ⟨[6], [], [], []⟩ ⟨[(6, B (eqI j6 (wi (a0a.To - a0a.From))))], []⟩ krf ?_
      refine sT ?_
      exact qR (.id) krf krf krf
    ·refine xN (want_tf krf h9) krf ?_
     refine xR 12 krf ?_
     refine xE ?_
     refine sN ⟨[6], [], [], []⟩ ⟨[(6, B false)], []⟩ krf ?_
     refine sT ?_
     exact qR (.id) krf krf krf
end Go.Proofs
namespace Go.Proofs
open Go Go.Abs
set_option maxRecDepth 100000
set_option linter.unusedVariables false
structure GQuoteQuoted where
 Tariff : GTf
 calendar : GCl
 from_ : Int
 to_ : Int
deriving DecidableEq
def GQuoteQuoted.cs (x : GQuoteQuoted) : List PV := [VS x.Tariff.Name, .sl 7 (List.map GAr.cs x.Tariff.Articles), VI x.calendar.Offset, .sl 2 (List.map GCh.cs x.calendar.Changes), .sl 1 (List.map ci x.calendar.Holidays), VI x.from_, VI x.to_]
structure GSl where
 Minute : Int
 Energy : Int
deriving DecidableEq
def GSl.cs (x : GSl) : List PV := [VI x.Minute, VI x.Energy]
structure GSs where
 From : Int
 To : Int
 End : Int
 Slices : List GSl
deriving DecidableEq
def GSs.cs (x : GSs) : List PV := [VI x.From, VI x.To, VI x.End, .sl 2 (List.map GSl.cs x.Slices)]
structure GLine where
 Article : Int
 Amount : Int
deriving DecidableEq
def GLine.cs (x : GLine) : List PV := [VI x.Article, VI x.Amount]
structure GBill where
 Lines : List GLine
 Net : Int
 Tax : Int
 Total : Int
deriving DecidableEq
def GBill.cs (x : GBill) : List PV := [.sl 2 (List.map GLine.cs x.Lines), VI x.Net, VI x.Tax, VI x.Total]
structure GBB where
 article : GAr
 calendar : GCl
 session : GSs
deriving DecidableEq
def GBB.cs (x : GBB) : List PV := [VI x.article.Kind, VI x.article.Days, VI x.article.From, VI x.article.To, VI x.article.Price, VI x.article.Unit, VI x.article.Free, VI x.calendar.Offset, .sl 2 (List.map GCh.cs x.calendar.Changes), .sl 1 (List.map ci x.calendar.Holidays), VI x.session.From, VI x.session.To, VI x.session.End, .sl 2 (List.map GSl.cs x.session.Slices)]
structure GReading where
 Serial : Int
 Number : Int
 Minute : Int
 Register : Int
 Link : Int
deriving DecidableEq
def GReading.cs (x : GReading) : List PV := [VI x.Serial, VI x.Number, VI x.Minute, VI x.Register, VU x.Link]
structure GClaim where
 Tariff : GTf
 Calendar : GCl
 Readings : List GReading
 Seed : Int
 Session : GSs
 Bill : GBill
deriving DecidableEq
def GClaim.cs (x : GClaim) : List PV := [VS x.Tariff.Name, .sl 7 (List.map GAr.cs x.Tariff.Articles), VI x.Calendar.Offset, .sl 2 (List.map GCh.cs x.Calendar.Changes), .sl 1 (List.map ci x.Calendar.Holidays), .sl 5 (List.map GReading.cs x.Readings), VU x.Seed, VI x.Session.From, VI x.Session.To, VI x.Session.End, .sl 2 (List.map GSl.cs x.Session.Slices), .sl 2 (List.map GLine.cs x.Bill.Lines), VI x.Bill.Net, VI x.Bill.Tax, VI x.Bill.Total]
structure GAE where
 Claim : GClaim
 follows : GSs
 bill : GBill
 rate : Int
deriving DecidableEq
def GAE.cs (x : GAE) : List PV := [VS x.Claim.Tariff.Name, .sl 7 (List.map GAr.cs x.Claim.Tariff.Articles), VI x.Claim.Calendar.Offset, .sl 2 (List.map GCh.cs x.Claim.Calendar.Changes), .sl 1 (List.map ci x.Claim.Calendar.Holidays), .sl 5 (List.map GReading.cs x.Claim.Readings), VU x.Claim.Seed, VI x.Claim.Session.From, VI x.Claim.Session.To, VI x.Claim.Session.End, .sl 2 (List.map GSl.cs x.Claim.Session.Slices), .sl 2 (List.map GLine.cs x.Claim.Bill.Lines), VI x.Claim.Bill.Net, VI x.Claim.Bill.Tax, VI x.Claim.Bill.Total, VI x.follows.From, VI x.follows.To, VI x.follows.End, .sl 2 (List.map GSl.cs x.follows.Slices), .sl 2 (List.map GLine.cs x.bill.Lines), VI x.bill.Net, VI x.bill.Tax, VI x.bill.Total, VI x.rate]
def g_a_inside (n : Nat) (a0n : Int) (a1least : Int) (a2greatest : Int) : Option Bool :=
 cond (leI a1least a0n)
  (some (leI a0n a2greatest))
  (some false)
def g_a_validArticle (n : Nat) (a0a : GAr) : Option Bool :=
 ((g_a_inside n a0a.Kind 1 6).bind fun r2 =>
 cond (!r2)
  (some true)
  ((g_a_inside n a0a.Days 1 7).bind fun r4 =>
  some (!r4))).bind fun j1 =>
 cond j1
  (some false)
  (((g_a_inside n a0a.From 0 1439).bind fun r6 =>
  cond (!r6)
   (some true)
   (cond (leI a0a.To a0a.From)
    (some true)
    (some (ltI 1440 a0a.To)))).bind fun j5 =>
  cond j5
   (some false)
   ((cond (eqI a0a.From 0)
    (cond (eqI a0a.To 1440)
     (some (eqI a0a.Days 7))
     (some false))
    (some false)).bind fun j9 =>
   (cond (eqI a0a.Unit 0)
    (some (eqI a0a.Free 0))
    (some false)).bind fun j12 =>
   (g_a_inside n a0a.Price 0 1000000).bind fun r14 =>
   (cond (eqI a0a.Kind 3)
    (some (eqI a0a.Kind 3))
    (some (eqI a0a.Kind 4))).bind fun j15 =>
   cond j15
    ((cond r14
     ((g_a_inside n a0a.Unit 1 1440).bind fun r18 =>
     cond r18
      ((g_a_inside n a0a.Free 0 1440).bind fun r20 =>
      some r20)
      (some false))
     (some false)).bind fun j16 =>
    some j16)
    (cond (eqI a0a.Kind 5)
     ((cond r14
      (cond j12
       (some j9)
       (some false))
      (some false)).bind fun j21 =>
     some j21)
     (cond (eqI a0a.Kind 6)
      (((g_a_inside n a0a.Price 0 10000).bind fun r25 =>
      cond r25
       (cond j12
        (some j9)
        (some false))
       (some false)).bind fun j24 =>
      some j24)
      (cond r14
       (some j12)
       (some false))))))
structure GLs where
 from_ : Int
 to_ : Int
deriving DecidableEq
def GLs.cs (x : GLs) : List PV := [VI x.from_, VI x.to_]
end Go.Proofs
namespace Go.Proofs
open Go Go.Abs Go.ChangeShapes Go.WideShapes Go.ChangeAt Go.RowKit Go.Proofs.Ytkgamjjfjekgnaa
set_option maxRecDepth 100000
set_option linter.unusedVariables false
structure GAr.wf (x : GAr) : Prop where
 Kind : i64b x.Kind
 Days : i64b x.Days
 From : i64b x.From
 To : i64b x.To
 Price : i64b x.Price
 Unit : i64b x.Unit
 Free : i64b x.Free
theorem sh_GAr {d : Nat} {cs : List PV} (h : Sh Try.prog (d + 2) 23 cs) : ∃ r : GAr, cs = GAr.cs r ∧ GAr.wf r := by
 have h := sh_struct Try.underlying23 h
 obtain ⟨_, _, rfl, h0, _, _, rfl, h1, _, _, rfl, h2, _, _, rfl, h3, _, _, rfl, h4, _, _, rfl, h5, _, _, rfl, h6, rfl⟩ := h
 obtain ⟨x0, rfl, w0⟩ := sh_i64 Try.underlying3 h0
 obtain ⟨x1, rfl, w1⟩ := sh_i64 Try.underlying3 h1
 obtain ⟨x2, rfl, w2⟩ := sh_i64 Try.underlying3 h2
 obtain ⟨x3, rfl, w3⟩ := sh_i64 Try.underlying3 h3
 obtain ⟨x4, rfl, w4⟩ := sh_i64 Try.underlying3 h4
 obtain ⟨x5, rfl, w5⟩ := sh_i64 Try.underlying3 h5
 obtain ⟨x6, rfl, w6⟩ := sh_i64 Try.underlying3 h6
 exact ⟨⟨x0, x1, x2, x3, x4, x5, x6⟩, rfl, ⟨w0, w1, w2, w3, w4, w5, w6⟩⟩
structure GCh.wf (x : GCh) : Prop where
 At : i64b x.At
 Offset : i64b x.Offset
theorem sh_GCh {d : Nat} {cs : List PV} (h : Sh Try.prog (d + 2) 56 cs) : ∃ r : GCh, cs = GCh.cs r ∧ GCh.wf r := by
 have h := sh_struct Try.underlying56 h
 obtain ⟨_, _, rfl, h0, _, _, rfl, h1, rfl⟩ := h
 obtain ⟨x0, rfl, w0⟩ := sh_i64 Try.underlying3 h0
 obtain ⟨x1, rfl, w1⟩ := sh_i64 Try.underlying3 h1
 exact ⟨⟨x0, x1⟩, rfl, ⟨w0, w1⟩⟩
structure GCl.wf (x : GCl) : Prop where
 Offset : i64b x.Offset
 Changes : (listb GCh.wf) x.Changes
 Holidays : (listb i64b) x.Holidays
theorem sh_GCl {d : Nat} {cs : List PV} (h : Sh Try.prog (d + 4) 27 cs) : ∃ r : GCl, cs = GCl.cs r ∧ GCl.wf r := by
 have h := sh_struct Try.underlying27 h
 obtain ⟨_, _, rfl, h0, _, _, rfl, h1, _, _, rfl, h2, rfl⟩ := h
 obtain ⟨x0, rfl, w0⟩ := sh_i64 Try.underlying3 h0
 obtain ⟨x1, rfl, w1⟩ := sh_list (S := 2) (f := GCh.cs) (W := GCh.wf) Try.underlying24 krf (fun c h => sh_GCh h) h1
 obtain ⟨x2, rfl, w2⟩ := sh_list (S := 1) (f := ci) (W := i64b) Try.underlying25 krf (fun c h => sh_i64 Try.underlying3 h) h2
 exact ⟨⟨x0, x1, x2⟩, rfl, ⟨w0, w1, w2⟩⟩
def TariffWholeDayPlain : Prop := ∀ (a0 : GAr) (a1 : GCl) (a2 : Int), GAr.wf a0 → GCl.wf a1 → u16b a2 → ∃ n, g_law32_TariffWholeDay n a0 a1 a2 = some true
theorem tariffWholeDay_call (h : TariffWholeDayPlain) : ∀ xs, ArgsSh Try.prog 9 Try.f5.params.toList xs → PCall Try.prog 5 xs (.ret (.p (.val (.bool true)))) := by
 intro xs ha
 rw [Try.params5] at ha
 obtain ⟨_, _, rfl, h0, _, _, rfl, h1, _, _, rfl, h2, rfl⟩ := ha
 obtain ⟨a0, rfl, w0⟩ := sh_GAr h0
 obtain ⟨a1, rfl, w1⟩ := sh_GCl h1
 obtain ⟨a2, rfl, w2⟩ := sh_u16 Try.underlying38 h2
 obtain ⟨n, hn⟩ := h a0 a1 a2 w0 w1 w2
 simp only [avOf_struct Try.underlying23, avOf_struct Try.underlying27, avOf_int Try.underlying38]
 exact g_law32_TariffWholeDay_ok n a0 a1 a2 true hn
set_option maxRecDepth 100000 in
theorem tariffWholeDay_lifted (h : TariffWholeDayPlain) (os : Os) (started : os.Started) (H : Type) (enc : TypeId × Value → H) :
  ReturnsInHanded {} Try.checked os 5 .any (Rows.tariffWholeDaySpec.pre6 enc Try.prog Try.f5 Rows.tariffWholeDayRow.domain false) (Rows.tariffWholeDaySpec.post enc Try.prog Try.f5 false true false false) := by
 refine returnsInHanded_of_change (C := Try.checked) krf started krf Try.func5
  (ChangeSpec.witness6 (enc := enc) (C := Try.checked) false ⟨#[], #[.agg #[.int .i64 0, .int .i64 0, .int .i64 0, .int .i64 0, .int .i64 0, .int .i64 0, .int .i64 0], .agg #[.int .i64 0, .slice none 0 0, .slice none 0 0], .int .u16 0], []⟩ 8 krf krf krf krf) ?_
 intro W base args ds gs before hval hW _ _
 exact law_contract (P := Try.prog) (f := 5) (fn := Try.f5) (s := Rows.tariffWholeDaySpec) (tb := 4) (d := 9) krf krf krf krf Try.underlying4 rfl
  (fun ds hd => by
   have hd : ds.length = 3 := by rw [hd, show Try.f5.params.size = 3 from by kernel_rfl]
   match ds, hd with
   | [d0, d1, d2], _ => rfl)
  (tariffWholeDay_call h) hval hW
theorem tariffWholeDay_said (h : TariffWholeDayPlain) : Rows.TariffWholeDaySaid :=
 OpenClaim.holds_of_wide 5 Try.f5 rfl rfl rfl rfl rfl rfl rfl ⟨rfl, rfl, rfl, rfl, rfl⟩ rfl rfl rfl rfl rfl krf Try.func5 krf
  (of_decide_eq_true krf) (by unfold Func.isWrapper; first | (rw [if_pos (by decide +kernel)]; kernel_rfl) | (rw [if_neg (by decide +kernel)]; exact ⟨rfl, rfl⟩))
  (fun os started H enc _ => tariffWholeDay_lifted h os started H enc)
end Go.Proofs
namespace Go.Proofs
open Go Go.Abs
set_option maxRecDepth 100000
set_option linter.unusedVariables false
def Does {α : Type} (m : Option α) (Q : α → Prop) : Prop := ∃ r, m = some r ∧ Q r
section
variable {α β V R E : Type}
theorem does_some {x : α} {Q : α → Prop} (h : Q x) : Does (some x) Q := ⟨x, rfl, h⟩
theorem does_cond {b : Bool} {x y : Option α} {Q : α → Prop} (h1 : b = true → Does x Q) (h2 : b = false → Does y Q) : Does (cond b x y) Q := by
 cases b
 ·exact h2 rfl
 ·exact h1 rfl
theorem does_loop {B : (V → Option R) → V → Option R} {Q : V → R → Prop} (μ : V → Nat) (Inv : V → Prop)
  (hB : ∀ rec v, Inv v → (∀ v', Inv v' → μ v' < μ v → Does (rec v') (Q v')) → Does (B rec v) (Q v)) : ∀ {n : Nat} {v : V}, Inv v → μ v < n → Does (loopN B n v) (Q v)
 | 0, _, _, h => absurd h (Nat.not_lt_zero _)
 | n + 1, v, hv, h => hB _ v hv (fun v' h1 h2 => does_loop μ Inv hB h1 (by omega))
end
theorem getI_nat {α : Type} {l : List α} {i : Nat} : getI l (i : Int) = l[i]? := by
 unfold getI; rw [if_neg (by omega)]; simp
theorem wi_id {x : Int} (h1 : -9223372036854775808 ≤ x) (h2 : x ≤ 9223372036854775807) : wi x = x := by
 simp [wi, IntKind.wrap, IntKind.signed, IntKind.bits]; omega
theorem a_inside (n : Nat) (x a b : Int) : g_a_inside n x a b = some (decide (a ≤ x ∧ x ≤ b)) := by
 unfold g_a_inside leI
 by_cases h : a ≤ x <;> simp [h]
def folB (a r : GReading) : Bool := if r.Serial = a.Serial then decide (a.Minute ≤ r.Minute ∧ a.Register ≤ r.Register) else decide (r.Minute = a.Minute)
def mixB (s x k : Int) : Int := wu ((bXor .u64 s (bAnd .u64 (shrI .u64 (wu x) k) 255)) * 1099511628211)
def mixW (s x : Int) : Int := [56, 48, 40, 32, 24, 16, 8, 0].foldl (fun s k => mixB s x k) s
def linkF (s : Int) (r : GReading) : Int := [r.Serial, r.Number, r.Minute, r.Register].foldl mixW s
def prevLink (seed : Int) (l : List GReading) (i : Nat) : Int := if i = 0 then seed else ((l[i - 1]?).map (·.Link)).getD 0
def chainAt (seed : Int) (l : List GReading) (i : Nat) : Prop := ∀ r ∈ l[i]?, (1 ≤ r.Serial ∧ r.Serial ≤ 1000000) ∧ r.Number = i + 1 ∧ (0 ≤ r.Minute ∧ r.Minute ≤ 52560000) ∧ (0 ≤ r.Register ∧ r.Register ≤ 1000000000) ∧
 (i ≠ 0 → ∀ a ∈ l[i - 1]?, folB a r = true) ∧ r.Link = linkF (prevLink seed l i) r
def chainOk (seed : Int) (l : List GReading) : Prop := (1 ≤ l.length ∧ l.length ≤ 64) ∧ ∀ i, i < l.length → chainAt seed l i
end Go.Proofs
namespace Go.Proofs
open Go Go.Abs
set_option maxRecDepth 100000
set_option linter.unusedVariables false
theorem eqI_d (x y : Int) : eqI x y = decide (x = y) := by unfold eqI; by_cases h : x = y <;> simp [h]
theorem cond_some {α : Type} {b : Bool} {x y : α} : cond b (some x) (some y) = some (cond b x y) := by cases b <;> rfl
def artB (a : GAr) : Bool := (g_a_validArticle 0 a).getD false
theorem loop_list {α R : Type} {l : List α} {B : (Int → Option R) → Int → Option R} {F : List α → R} (hlen : l.length ≤ 4611686018427387904)
  (hend : ∀ rec, B rec (l.length : Int) = some (F []))
  (hstep : ∀ (rec : Int → Option R) (i : Nat) (x : α) (r : List α), l.drop i = x :: r → l[i]? = some x → i < l.length → wi ((i : Int) + 1) = ((i + 1 : Nat) : Int) → (rec ((i + 1 : Nat) : Int) = some (F r)) → B rec (i : Int) = some (F (x :: r))) :
  ∀ {n : Nat} (i : Nat), i ≤ l.length → l.length - i < n → loopN B n (i : Int) = some (F (l.drop i))
 | 0, _, _, h => absurd h (Nat.not_lt_zero _)
 | n + 1, i, hi, h => by
  unfold loopN
  by_cases he : i = l.length
  ·subst he; rw [hend]; simp
  ·have hlt : i < l.length := by omega
   have hd : l.drop i = l[i] :: l.drop (i + 1) := by rw [List.drop_eq_getElem_cons hlt]
   rw [hd]
   exact hstep _ i _ _ hd (by simp [hlt]) hlt (by rw [wi_id] <;> omega) (loop_list hlen hend hstep (i + 1) (by omega) (by omega))
theorem loop_acc {α R A : Type} {l : List α} {B : (A × Int → Option R) → A × Int → Option R} {F : A → List α → R} (hlen : l.length ≤ 4611686018427387904)
  (hend : ∀ rec a, B rec (a, (l.length : Int)) = some (F a []))
  (hstep : ∀ (rec : A × Int → Option R) (a : A) (i : Nat) (x : α) (r : List α), l.drop i = x :: r → l[i]? = some x → i < l.length → wi ((i : Int) + 1) = ((i + 1 : Nat) : Int) → (∀ a, rec (a, ((i + 1 : Nat) : Int)) = some (F a r)) → B rec (a, (i : Int)) = some (F a (x :: r))) :
  ∀ {n : Nat} (i : Nat) (a : A), i ≤ l.length → l.length - i < n → loopN B n (a, (i : Int)) = some (F a (l.drop i))
 | 0, _, _, _, h => absurd h (Nat.not_lt_zero _)
 | n + 1, i, a, hi, h => by
  unfold loopN
  by_cases he : i = l.length
  ·subst he; rw [hend]; simp
  ·have hlt : i < l.length := by omega
   have hd : l.drop i = l[i] :: l.drop (i + 1) := by rw [List.drop_eq_getElem_cons hlt]
   rw [hd]
   exact hstep _ a i _ _ hd (by simp [hlt]) hlt (by rw [wi_id] <;> omega) (fun a => loop_acc hlen hend hstep (i + 1) a (by omega) (by omega))
def holB : Int → List Int → Bool
 | _, [] => true
 | a, x :: r => decide (a < x ∧ x ≤ 36500) && holB x r
def chgB : Int → List GCh → Bool
 | _, [] => true
 | a, x :: r => decide (a < x.At ∧ x.At ≤ 52560000 ∧ -1440 ≤ x.Offset ∧ x.Offset ≤ 1440) && chgB x.At r
def calB (c : GCl) : Bool := decide (-1440 ≤ c.Offset ∧ c.Offset ≤ 1440) && decide (c.Changes.length ≤ 16) && decide (c.Holidays.length ≤ 32) && chgB (-1) c.Changes && holB (-1) c.Holidays
theorem loop_gen {α R A V : Type} {l : List α} (S : A → Int → V) {B : (V → Option R) → V → Option R} {F : A → List α → R} (Inv : Nat → A → Prop) (hlen : l.length ≤ 4611686018427387904)
  (hend : ∀ rec a, Inv l.length a → B rec (S a (l.length : Int)) = some (F a []))
  (hstep : ∀ (rec : V → Option R) (a : A) (i : Nat) (x : α) (r : List α), Inv i a → l.drop i = x :: r → l[i]? = some x → i < l.length → wi ((i : Int) + 1) = ((i + 1 : Nat) : Int) → (∀ a, Inv (i + 1) a → rec (S a ((i + 1 : Nat) : Int)) = some (F a r)) → B rec (S a (i : Int)) = some (F a (x :: r))) :
  ∀ {n : Nat} (i : Nat) (a : A), Inv i a → i ≤ l.length → l.length - i < n → loopN B n (S a (i : Int)) = some (F a (l.drop i))
 | 0, _, _, _, _, h => absurd h (Nat.not_lt_zero _)
 | n + 1, i, a, ha, hi, h => by
  unfold loopN
  by_cases he : i = l.length
  ·subst he; rw [hend _ _ ha]; simp
  ·have hlt : i < l.length := by omega
   have hd : l.drop i = l[i] :: l.drop (i + 1) := by rw [List.drop_eq_getElem_cons hlt]
   rw [hd]
   exact hstep _ a i _ _ ha hd (by simp [hlt]) hlt (by rw [wi_id] <;> omega) (fun a ha => loop_gen S Inv hlen hend hstep (i + 1) a ha (by omega) (by omega))
end Go.Proofs
namespace Go.Proofs
open Go Go.Abs
set_option maxRecDepth 100000
set_option linter.unusedVariables false
def offF (m : Int) : Int → List GCh → Int
 | o, [] => o
 | o, x :: r => offF m (if x.At ≤ m then x.Offset else o) r
def wkF (d : Int) : Int := if Int.tmod (wi (d + 7)) 7 = 5 then 1 else if Int.tmod (wi (d + 7)) 7 = 6 then 2 else 0
def typF (d : Int) : List Int → Int
 | [] => wkF d
 | x :: r => if x = d then 2 else typF d r
theorem typF_range (d : Int) : ∀ l, 0 ≤ typF d l ∧ typF d l ≤ 2
 | [] => by
  unfold typF wkF
  split
  ·omega
  ·split <;> omega
 | x :: r => by
  have := typF_range d r
  unfold typF; split <;> omega
def appB (c : GCl) (a : GAr) (m : Int) : Bool :=
 let w := wi (wi (m + offF m c.Offset c.Changes) + 1440)
 decide (a.From ≤ Int.tmod w 1440) && decide (Int.tmod w 1440 < a.To) && !decide (bAnd .i64 a.Days (shlI .i64 1 (typF (wi (wi (Int.tdiv w 1440) - 1)) c.Holidays)) = 0)
end Go.Proofs
namespace Go.Proofs
open Go Go.Abs
set_option maxRecDepth 100000
set_option linter.unusedVariables false
theorem r_article (n : Nat) (a : GAr) : g_ref32_Article n a = some (artB a) := by
 unfold g_ref32_Article artB g_a_validArticle
 simp only [a_inside, cond_some, obs, Option.getD_some, eqI_d, ltI, leI]
 rw [sie, Bool.eq_iff_iff]
 obtain ⟨k, d, f, t, p, u, v⟩ := a
 simp only [Bool.cond_eq_ite]
 by_cases k1 : k = 1
 ·subst k1; simp; omega
 by_cases k2 : k = 2
 ·subst k2; simp; omega
 by_cases k3 : k = 3
 ·subst k3; simp; omega
 by_cases k4 : k = 4
 ·subst k4; simp; omega
 by_cases k5 : k = 5
 ·subst k5; simp; omega
 by_cases k6 : k = 6
 ·subst k6; simp; omega
 simp [k1, k2, k3, k4, k5, k6]
 omega
theorem r_off (n : Nat) (x : Int) : g_ref26_offset n x = some (decide (-1440 ≤ x ∧ x ≤ 1440)) := by
 unfold g_ref26_offset
 by_cases h : -1440 ≤ x <;> simp [leI, h]
theorem r_cal5 (n : Nat) (c : GCl) (hn : 1000 ≤ n) (hl : c.Holidays.length ≤ 900) : g_ref26_Valid_j5 n c = some (holB (-1) c.Holidays) := by
 unfold g_ref26_Valid_j5
 have := loop_gen (l := c.Holidays) (fun (_ : Int) i => i) (B := fun recl6 l6 => g_ref26_Valid_l6 c recl6 l6) (F := holB) (fun i a => -1 ≤ a ∧ (i = 0 → a = -1) ∧ (i ≠ 0 → c.Holidays[i - 1]? = some a)) (by omega) ?_ ?_ (n := n) 0 (-1) (by simp) (by omega) (by omega)
 ·exact this
 ·intro rec a ha
  simp only [g_ref26_Valid_l6, lenI, List.length_map, ltI]
  rw [dzF (by omega), cond_false]
  rfl
 ·intro rec a i x r ha hd hx hi hw hr
  simp only [g_ref26_Valid_l6, lenI, List.length_map, ltI, leI, getI_nat, hx, obs, hw]
  rw [dzT (by omega), cond_true, holB]
  by_cases c1 : x < 0
  ·rw [dzT c1]
   simp only [cond_true, obs]
   rw [dzF (show ¬ (a < x ∧ x ≤ 36500) by omega)]; rfl
  rw [dzF c1, cond_false]
  by_cases c2 : 36500 < x
  ·rw [dzT c2]
   simp only [cond_true, obs]
   rw [dzF (show ¬ (a < x ∧ x ≤ 36500) by omega)]; rfl
  rw [dzF c2, cond_false]
  have hrr := hr x ⟨by omega, by omega, fun _ => by simpa using hx⟩
  by_cases c3 : i = 0
  ·rw [dzF (show ¬ (0 : Int) < i by omega)]
   simp only [cond_false, obs]
   rw [hrr, dzT (show a < x ∧ x ≤ 36500 by have := ha.2.1 c3; omega)]; rfl
  ·rw [dzT (show (0 : Int) < i by omega), cond_true, show wi ((i : Int) - 1) = ((i - 1 : Nat) : Int) from by rw [wi_id] <;> omega, getI_nat, ha.2.2 c3]
   simp only [obs]
   by_cases c4 : x ≤ a
   ·rw [dzT c4, cond_true, dzF (show ¬ (a < x ∧ x ≤ 36500) by omega)]; rfl
   ·rw [dzF c4, cond_false, hrr, dzT (show a < x ∧ x ≤ 36500 by omega)]; rfl
theorem r_cal (n : Nat) (c : GCl) (hn : 1000 ≤ n) (h1 : c.Changes.length ≤ 900) (h2 : c.Holidays.length ≤ 900) : g_ref26_Valid n c = some (calB c) := by
 have key : loopN (fun recl13 l13 => g_ref26_Valid_l13 n c recl13 l13) n 0 = some (chgB (-1) c.Changes && holB (-1) c.Holidays) := by
  have := loop_gen (l := c.Changes) (fun (_ : Int) i => i) (B := fun recl13 l13 => g_ref26_Valid_l13 n c recl13 l13) (F := fun a r => chgB a r && holB (-1) c.Holidays) (fun i a => -1 ≤ a ∧ (i = 0 → a = -1) ∧ (i ≠ 0 → ∃ x, c.Changes[i - 1]? = some x ∧ x.At = a)) (by omega) ?_ ?_ (n := n) 0 (-1) (by simp) (by omega) (by omega)
  ·exact this
  ·intro rec a ha
   simp only [g_ref26_Valid_l13, lenI, List.length_map, ltI]
   rw [dzF (by omega), cond_false, r_cal5 n c hn h2]
   rfl
  ·intro rec a i x r ha hd hx hi hw hr
   simp only [g_ref26_Valid_l13, lenI, List.length_map, ltI, leI, getI_nat, hx, obs, hw, r_off]
   rw [dzT (by omega), cond_true, chgB]
   by_cases c0 : -1440 ≤ x.Offset ∧ x.Offset ≤ 1440
   rotate_left
   ·rw [dzF c0]
    simp only [Bool.not_false, cond_true, obs]
    rw [dzF (show ¬ (a < x.At ∧ x.At ≤ 52560000 ∧ -1440 ≤ x.Offset ∧ x.Offset ≤ 1440) by omega)]; rfl
   rw [dzT c0, Bool.not_true, cond_false]
   by_cases c1 : x.At < 0
   ·rw [dzT c1]
    simp only [cond_true, obs]
    rw [dzF (show ¬ (a < x.At ∧ x.At ≤ 52560000 ∧ -1440 ≤ x.Offset ∧ x.Offset ≤ 1440) by omega)]; rfl
   rw [dzF c1, cond_false]
   by_cases c2 : 52560000 < x.At
   ·rw [dzT c2]
    simp only [cond_true, obs]
    rw [dzF (show ¬ (a < x.At ∧ x.At ≤ 52560000 ∧ -1440 ≤ x.Offset ∧ x.Offset ≤ 1440) by omega)]; rfl
   rw [dzF c2, cond_false]
   have hrr := hr x.At ⟨by omega, by omega, fun _ => ⟨x, by simpa using hx, rfl⟩⟩
   by_cases c3 : i = 0
   ·rw [dzF (show ¬ (0 : Int) < i by omega)]
    simp only [cond_false, obs]
    rw [hrr, dzT (show a < x.At ∧ x.At ≤ 52560000 ∧ -1440 ≤ x.Offset ∧ x.Offset ≤ 1440 by have := ha.2.1 c3; omega)]; rfl
   ·obtain ⟨y, hy, hya⟩ := ha.2.2 c3
    rw [dzT (show (0 : Int) < i by omega), cond_true, show wi ((i : Int) - 1) = ((i - 1 : Nat) : Int) from by rw [wi_id] <;> omega, getI_nat, hy]
    simp only [obs, hya]
    by_cases c4 : x.At ≤ a
    ·rw [dzT c4, cond_true, dzF (show ¬ (a < x.At ∧ x.At ≤ 52560000 ∧ -1440 ≤ x.Offset ∧ x.Offset ≤ 1440) by omega)]; rfl
    ·rw [dzF c4, cond_false, hrr, dzT (show a < x.At ∧ x.At ≤ 52560000 ∧ -1440 ≤ x.Offset ∧ x.Offset ≤ 1440 by omega)]; rfl
 unfold g_ref26_Valid calB
 rw [key]
 simp only [r_off, obs, cond_some, lenI, List.length_map, ltI]
 by_cases c0 : -1440 ≤ c.Offset ∧ c.Offset ≤ 1440
 rotate_left
 ·rw [dzF c0]; rfl
 rw [dzT c0]
 by_cases c1 : c.Changes.length ≤ 16
 rotate_left
 ·rw [dzT (show (16 : Int) < c.Changes.length by omega), dzF c1]; rfl
 rw [dzF (show ¬ (16 : Int) < c.Changes.length by omega), dzT c1]
 by_cases c2 : c.Holidays.length ≤ 32
 rotate_left
 ·rw [dzT (show (32 : Int) < c.Holidays.length by omega), dzF c2]; rfl
 rw [dzF (show ¬ (32 : Int) < c.Holidays.length by omega), dzT c2]
 rfl
end Go.Proofs
namespace Go.Proofs
open Go Go.Abs
set_option maxRecDepth 100000
set_option linter.unusedVariables false
structure Art (a : GAr) : Prop where
 days : 1 ≤ a.Days ∧ a.Days ≤ 7
 from_ : 0 ≤ a.From ∧ a.From ≤ 1439
 to_ : a.From < a.To ∧ a.To ≤ 1440
 price : 0 ≤ a.Price ∧ a.Price ≤ 1000000
 kind : 1 ≤ a.Kind ∧ a.Kind ≤ 6
 unit : a.Kind = 3 ∨ a.Kind = 4 → 1 ≤ a.Unit ∧ a.Unit ≤ 1440 ∧ 0 ≤ a.Free ∧ a.Free ≤ 1440
 rate : a.Kind = 6 → a.Price ≤ 10000
theorem artB_art {a : GAr} (h : artB a = true) : Art a := by
 unfold artB g_a_validArticle at h
 simp only [a_inside, cond_some, obs, Option.getD_some, eqI_d, ltI, leI] at h
 obtain ⟨k, d, f, t, p, u, v⟩ := a
 simp only [Bool.cond_eq_ite] at h
 by_cases k1 : k = 1
 ·subst k1; simp at h; constructor <;> simp <;> omega
 by_cases k2 : k = 2
 ·subst k2; simp at h; constructor <;> simp <;> omega
 by_cases k3 : k = 3
 ·subst k3; simp at h; constructor <;> simp <;> omega
 by_cases k4 : k = 4
 ·subst k4; simp at h; constructor <;> simp <;> omega
 by_cases k5 : k = 5
 ·subst k5; simp at h; constructor <;> simp <;> omega
 by_cases k6 : k = 6
 ·subst k6; simp at h; constructor <;> simp <;> omega
 exfalso
 simp [k3, k4, k5, k6] at h
 omega
theorem offF_range (m : Int) : ∀ (l : List GCh) (p o : Int), chgB p l = true → (-1440 ≤ o ∧ o ≤ 1440) → -1440 ≤ offF m o l ∧ offF m o l ≤ 1440
 | [], _, o, _, h => h
 | x :: r, p, o, hc, h => by
  simp only [chgB, bae, decide_eq_true_eq] at hc
  unfold offF
  refine offF_range m r x.At _ hc.2 ?_
  split
  ·exact ⟨hc.1.2.2.1, hc.1.2.2.2⟩
  ·exact h
theorem cal_off {c : GCl} (m : Int) (h : calB c = true) : -1440 ≤ offF m c.Offset c.Changes ∧ offF m c.Offset c.Changes ≤ 1440 := by
 simp only [calB, bae, decide_eq_true_eq] at h
 exact offF_range m _ _ _ h.1.2 h.1.1.1.1
end Go.Proofs
namespace Go.Proofs
open Go Go.Abs
set_option maxRecDepth 100000
set_option linter.unusedVariables false
theorem b_inside (n : Nat) (x a b : Int) : g_t_inside n x a b = some (decide (a ≤ x ∧ x ≤ b)) := by
 unfold g_t_inside leI
 by_cases h : a ≤ x <;> simp [h]
theorem b_article (n : Nat) (a : GAr) : g_t_validArticle n a = some (artB a) := by
 have bad : ¬ Art a → some false = some (artB a) := by
  intro h
  cases hb : artB a
  ·rfl
  ·exact absurd (artB_art hb) h
 unfold g_t_validArticle g_t_isWhole g_t_isTime
 simp only [b_inside, obs]
 by_cases c2 : 1 ≤ a.Kind ∧ a.Kind ≤ 6
 rotate_left
 ·rw [dzF c2]; exact bad (fun h => c2 h.kind)
 rw [dzT c2]
 by_cases c4 : 0 ≤ a.From ∧ a.From ≤ 1439
 rotate_left
 ·rw [dzF c4]; exact bad (fun h => c4 h.from_)
 rw [dzT c4, wi_id (x := a.From + 1) (by omega) (by omega)]
 by_cases c6 : a.From + 1 ≤ a.To ∧ a.To ≤ 1440
 rotate_left
 ·rw [dzF c6]; exact bad (fun h => by have := h.to_; omega)
 rw [dzT c6]
 by_cases c8 : 1 ≤ a.Days ∧ a.Days ≤ 7
 rotate_left
 ·rw [dzF c8]; exact bad (fun h => c8 h.days)
 rw [dzT c8]
 unfold artB g_a_validArticle
 simp only [a_inside, cond_some, obs, Option.getD_some, eqI_d, Bool.not_true, cond_false]
 rw [sie, Bool.eq_iff_iff]
 obtain ⟨k, d, f, t, p, u, v⟩ := a
 simp only at c2 c4 c6 c8
 simp only [Bool.cond_eq_ite]
 have hk : k = 1 ∨ k = 2 ∨ k = 3 ∨ k = 4 ∨ k = 5 ∨ k = 6 := by omega
 rcases hk with rfl | rfl | rfl | rfl | rfl | rfl <;> simp [leI, ltI] <;> omega
def chK : Int → List GCh → Bool
 | _, [] => true
 | a, x :: r => decide (a < x.At ∧ x.At ≤ 52560000) && chK x.At r
def chO (l : List GCh) : Bool := l.all (fun x => decide (-1440 ≤ x.Offset ∧ x.Offset ≤ 1440))
theorem chgB_KO : ∀ (l : List GCh) (a : Int), chgB a l = (chO l && chK a l)
 | [], _ => rfl
 | x :: r, a => by
  unfold chgB chK
  rw [chgB_KO r x.At, show chO (x :: r) = (decide (-1440 ≤ x.Offset ∧ x.Offset ≤ 1440) && chO r) from List.all_cons]
  by_cases c1 : a < x.At ∧ x.At ≤ 52560000
  ·by_cases c2 : -1440 ≤ x.Offset ∧ x.Offset ≤ 1440
   ·rw [dzT (show a < x.At ∧ x.At ≤ 52560000 ∧ -1440 ≤ x.Offset ∧ x.Offset ≤ 1440 by omega), dzT c1, dzT c2]; rfl
   ·rw [dzF (show ¬ (a < x.At ∧ x.At ≤ 52560000 ∧ -1440 ≤ x.Offset ∧ x.Offset ≤ 1440) by omega), dzF c2]; rfl
  ·rw [dzF (show ¬ (a < x.At ∧ x.At ≤ 52560000 ∧ -1440 ≤ x.Offset ∧ x.Offset ≤ 1440) by omega), dzF c1]
   simp
theorem b_dinside (n : Nat) (x a b : Int) : g_days_inside n x a b = some (decide (a ≤ x ∧ x ≤ b)) := by
 unfold g_days_inside leI
 by_cases h : a ≤ x <;> simp [h]
theorem b_listC (n : Nat) (l : List GCh) (hn : 1000 ≤ n) (hl : l.length ≤ 900) : g_dv_api_Change n l 52560000 = some (chK (-1) l) := by
 unfold g_dv_api_Change
 have := loop_acc (l := l) (B := fun recl1 (v : Int × Int) => g_dv_api_Change_l1 n l 52560000 recl1 v.1 v.2) (F := chK) (by omega) ?_ ?_ (n := n) 0 (-1) (by omega) (by omega)
 ·exact this
 ·intro rec a; simp [g_dv_api_Change_l1, ltI, lenI, chK]
 ·intro rec a i x r hd hx hi hw hr
  simp only [g_dv_api_Change_l1, g_days_keys_1, lenI, List.length_map, getI_nat, hx, obs, hw, hr, ltI, leI, chK, cond_some]
  rw [dzT (by omega), cond_true]
  by_cases h1 : x.At ≤ a
  ·rw [dzT h1, dzF (show ¬ (a < x.At ∧ x.At ≤ 52560000) by omega)]; rfl
  ·rw [dzF h1]
   by_cases h2 : 52560000 < x.At
   ·rw [dzT h2, dzF (show ¬ (a < x.At ∧ x.At ≤ 52560000) by omega)]; rfl
   ·rw [dzF h2, dzT (show a < x.At ∧ x.At ≤ 52560000 by omega)]; rfl
theorem b_listI (n : Nat) (l : List Int) (hn : 1000 ≤ n) (hl : l.length ≤ 900) : g_dv_int n l 36500 = some (holB (-1) l) := by
 unfold g_dv_int
 have := loop_acc (l := l) (B := fun recl1 (v : Int × Int) => g_dv_int_l1 n l 36500 recl1 v.1 v.2) (F := holB) (by omega) ?_ ?_ (n := n) 0 (-1) (by omega) (by omega)
 ·exact this
 ·intro rec a; simp [g_dv_int_l1, ltI, lenI, holB]
 ·intro rec a i x r hd hx hi hw hr
  simp only [g_dv_int_l1, g_days_keys_2, lenI, List.length_map, getI_nat, hx, obs, hw, hr, ltI, leI, holB, cond_some]
  rw [dzT (by omega), cond_true]
  by_cases h1 : x ≤ a
  ·rw [dzT h1, dzF (show ¬ (a < x ∧ x ≤ 36500) by omega)]; rfl
  ·rw [dzF h1]
   by_cases h2 : 36500 < x
   ·rw [dzT h2, dzF (show ¬ (a < x ∧ x ≤ 36500) by omega)]; rfl
   ·rw [dzF h2, dzT (show a < x ∧ x ≤ 36500 by omega)]; rfl
theorem b_cal (n : Nat) (c : GCl) (hn : 1000 ≤ n) (h1 : c.Changes.length ≤ 900) (h2 : c.Holidays.length ≤ 900) : g_days_Valid n c = some (calB c) := by
 have key : loopN (fun recl9 l9 => g_days_Valid_l9 n c recl9 l9) n 0 = some (chO c.Changes && (chK (-1) c.Changes && holB (-1) c.Holidays)) := by
  have := loop_list (l := c.Changes) (B := fun recl9 l9 => g_days_Valid_l9 n c recl9 l9) (F := fun r => chO r && (chK (-1) c.Changes && holB (-1) c.Holidays)) (by omega) ?_ ?_ (n := n) 0 (by omega) (by omega)
  ·exact this
  ·intro rec
   simp only [g_days_Valid_l9, g_days_Valid_j5, lenI, List.length_map, ltI, b_listC n _ hn h1, b_listI n _ hn h2, obs, cond_some]
   rw [dzF (by omega), cond_false]
   cases chK (-1) c.Changes <;> rfl
  ·intro rec i x r hd hx hi hw hr
   simp only [g_days_Valid_l9, lenI, List.length_map, getI_nat, hx, obs, hw, hr, ltI, b_dinside]
   rw [dzT (by omega), cond_true, show chO (x :: r) = (decide (-1440 ≤ x.Offset ∧ x.Offset ≤ 1440) && chO r) from List.all_cons]
   cases decide (-1440 ≤ x.Offset ∧ x.Offset ≤ 1440) <;> rfl
 unfold g_days_Valid calB
 rw [key, chgB_KO]
 simp only [b_dinside, obs, cond_some, lenI, List.length_map, ltI]
 by_cases c1 : c.Changes.length ≤ 16
 rotate_left
 ·rw [dzT (show (16 : Int) < c.Changes.length by omega), dzF c1]; simp
 rw [dzF (show ¬ (16 : Int) < c.Changes.length by omega), dzT c1]
 by_cases c2 : c.Holidays.length ≤ 32
 rotate_left
 ·rw [dzT (show (32 : Int) < c.Holidays.length by omega), dzF c2]; simp
 rw [dzF (show ¬ (32 : Int) < c.Holidays.length by omega), dzT c2]
 generalize decide (-1440 ≤ c.Offset ∧ c.Offset ≤ 1440) = b0
 generalize chO c.Changes = b1
 generalize chK (-1) c.Changes = b2
 generalize holB (-1) c.Holidays = b3
 cases b0 <;> cases b1 <;> cases b2 <;> cases b3 <;> rfl
end Go.Proofs
namespace Go.Proofs
open Go Go.Abs
set_option maxRecDepth 100000
set_option linter.unusedVariables false
theorem chK_lt : ∀ (l : List GCh) (a : Int), chK a l = true → (∀ x ∈ l, a < x.At) ∧ l.Pairwise (fun x y => x.At < y.At)
 | [], _, _ => ⟨(fun x h => by cases h), List.Pairwise.nil⟩
 | x :: r, a, h => by
  simp only [chK, bae, decide_eq_true_eq] at h
  obtain ⟨h1, h2⟩ := chK_lt r x.At h.2
  refine ⟨fun y hy => ?_, List.pairwise_cons.2 ⟨h1, h2⟩⟩
  rcases List.mem_cons.1 hy with rfl | hy
  ·exact h.1.1
  ·have := h1 y hy; omega
theorem holB_lt : ∀ (l : List Int) (a : Int), holB a l = true → (∀ x ∈ l, a < x) ∧ l.Pairwise (fun x y => x < y)
 | [], _, _ => ⟨(fun x h => by cases h), List.Pairwise.nil⟩
 | x :: r, a, h => by
  simp only [holB, bae, decide_eq_true_eq] at h
  obtain ⟨h1, h2⟩ := holB_lt r x h.2
  refine ⟨fun y hy => ?_, List.pairwise_cons.2 ⟨h1, h2⟩⟩
  rcases List.mem_cons.1 hy with rfl | hy
  ·exact h.1.1
  ·have := h1 y hy; omega
structure LastOf {α : Type} (key : α → Int) (l : List α) (m r : Int) : Prop where
 lo : -1 ≤ r
 hi : r < l.length
 le : ∀ (i : Nat) (x : α), (i : Int) ≤ r → l[i]? = some x → key x ≤ m
 gt : ∀ (i : Nat) (x : α), r < (i : Int) → l[i]? = some x → m < key x
theorem last_gen {α : Type} {key : α → Int} {l : List α} {m : Int} {B : (Int × Int → Option Int) → Int × Int → Option Int} (hl : l.length ≤ 900) (hs : l.Pairwise (fun x y => key x < key y))
  (hB : ∀ rec lo hi, B rec (lo, hi) = cond (ltI lo hi) ((getI l (wi (lo + wi (Int.tdiv (wi (wi (hi - lo) + 1)) 2)))).bind fun x => cond (leI (key x) m) (rec (wi (lo + wi (Int.tdiv (wi (wi (hi - lo) + 1)) 2)), hi)) (rec (lo, wi (wi (lo + wi (Int.tdiv (wi (wi (hi - lo) + 1)) 2)) - 1)))) (some lo))
  {n : Nat} (hn : 1000 ≤ n) : Does (loopN B n (-1, (l.length : Int) - 1)) (LastOf key l m) := by
 have := does_loop (B := B) (Q := fun _ r => LastOf key l m r) (fun v => (v.2 - v.1).toNat) (fun v => -1 ≤ v.1 ∧ v.1 ≤ v.2 ∧ v.2 < l.length ∧ (∀ (i : Nat) (x : α), (i : Int) ≤ v.1 → l[i]? = some x → key x ≤ m) ∧ (∀ (i : Nat) (x : α), v.2 < (i : Int) → l[i]? = some x → m < key x)) ?_ (n := n) (v := (-1, (l.length : Int) - 1)) ⟨by simp, by simp; omega, by simp; omega, fun i x h => by simp only at h; omega, fun i x h hx => by
  have := (List.getElem?_eq_some_iff.1 hx).1
  simp only at h
  omega⟩ (by simp only; omega)
 ·exact this
 ·rintro rec ⟨lo, hi⟩ ⟨h1, h2, h3, h4, h5⟩ ih
  simp only at h1 h2 h3 h4 h5 ih
  rw [hB]
  by_cases hlt : lo < hi
  rotate_left
  ·rw [show ltI lo hi = false from by simp only [ltI]; rw [dzF hlt], cond_false]
   exact does_some ⟨h1, by omega, h4, fun i x hi' hx => h5 i x (by omega) hx⟩
  rw [show ltI lo hi = true from by simp only [ltI]; rw [dzT hlt], cond_true]
  rw [wi_id (x := hi - lo) (by omega) (by omega), wi_id (x := hi - lo + 1) (by omega) (by omega), Int.tdiv_eq_ediv_of_nonneg (by omega), wi_id (x := (hi - lo + 1) / 2) (by omega) (by omega), wi_id (x := lo + (hi - lo + 1) / 2) (by omega) (by omega), wi_id (x := lo + (hi - lo + 1) / 2 - 1) (by omega) (by omega)]
  generalize hmid : lo + (hi - lo + 1) / 2 = mid
  have hm : lo < mid ∧ mid ≤ hi := by omega
  obtain ⟨j, rfl⟩ : ∃ j : Nat, mid = (j : Int) := ⟨mid.toNat, by omega⟩
  have hx : l[j]? = some (l[j]'(by omega)) := by rw [List.getElem?_eq_getElem]
  generalize l[j]'(by omega) = x at hx
  rw [getI_nat, hx, obs]
  refine does_cond (fun hc => ?_) (fun hc => ?_)
  ·simp only [leI, decide_eq_true_eq] at hc
   refine ih (j, hi) ⟨by simp only; omega, by simp only; omega, h3, fun i y hi' hy => ?_, h5⟩ (by simp only; omega)
   simp only at hi'
   by_cases e : i = j
   ·subst e
    rw [hx] at hy; cases hy
    exact hc
   ·have hij : i < j := by omega
    have hy' := List.getElem?_eq_some_iff.1 hy
    have hx' := List.getElem?_eq_some_iff.1 hx
    have := List.pairwise_iff_getElem.1 hs i j hy'.1 hx'.1 hij
    rw [hy'.2, hx'.2] at this
    omega
  ·simp only [leI, decide_eq_false_iff_not] at hc
   refine ih (lo, (j : Int) - 1) ⟨h1, by simp only; omega, by simp only; omega, h4, fun i y hi' hy => ?_⟩ (by simp only; omega)
   simp only at hi'
   by_cases e : i = j
   ·subst e
    rw [hx] at hy; cases hy
    omega
   ·have hij : j < i := by omega
    have hy' := List.getElem?_eq_some_iff.1 hy
    have hx' := List.getElem?_eq_some_iff.1 hx
    have := List.pairwise_iff_getElem.1 hs j i hx'.1 hy'.1 hij
    rw [hy'.2, hx'.2] at this
    omega
theorem b_lastC (n : Nat) (l : List GCh) (m : Int) (hn : 1000 ≤ n) (hl : l.length ≤ 900) (hs : chK (-1) l = true) : Does (g_days_last_api_Change n l m) (LastOf GCh.At l m) := by
 unfold g_days_last_api_Change
 simp only [lenI, List.length_map]
 rw [wi_id (x := (l.length : Int) - 1) (by omega) (by omega)]
 exact last_gen (B := fun recl1 (v : Int × Int) => g_days_last_api_Change_l1 n l m recl1 v.1 v.2) hl (chK_lt l _ hs).2 (fun rec lo hi => rfl) hn
theorem b_lastI (n : Nat) (l : List Int) (m : Int) (hn : 1000 ≤ n) (hl : l.length ≤ 900) (hs : holB (-1) l = true) : Does (g_days_last_int n l m) (LastOf (fun x => x) l m) := by
 unfold g_days_last_int
 simp only [lenI, List.length_map]
 rw [wi_id (x := (l.length : Int) - 1) (by omega) (by omega)]
 exact last_gen (key := fun x => x) (B := fun recl1 (v : Int × Int) => g_days_last_int_l1 n l m recl1 v.1 v.2) hl (holB_lt l _ hs).2 (fun rec lo hi => rfl) hn
theorem offF_gt (m : Int) : ∀ (l : List GCh) (o : Int), (∀ x ∈ l, m < x.At) → offF m o l = o
 | [], _, _ => rfl
 | x :: r, o, h => by
  have := h x List.mem_cons_self
  unfold offF
  rw [if_neg (by omega)]
  exact offF_gt m r o (fun y hy => h y (List.mem_cons_of_mem _ hy))
theorem offF_at (m : Int) : ∀ (l : List GCh) (o : Int) (k : Nat) (x : GCh), l[k]? = some x → (∀ (i : Nat) (y : GCh), i ≤ k → l[i]? = some y → y.At ≤ m) → (∀ (i : Nat) (y : GCh), k < i → l[i]? = some y → m < y.At) → offF m o l = x.Offset
 | [], _, _, _, h, _, _ => by simp at h
 | z :: r, o, 0, x, h, h1, h2 => by
  simp at h
  subst h
  unfold offF
  rw [if_pos (h1 0 z (Nat.le_refl _) rfl)]
  exact offF_gt m r _ (fun y hy => by
   obtain ⟨i, hi⟩ := List.mem_iff_getElem?.1 hy
   exact h2 (i + 1) y (by omega) (by simpa using hi))
 | z :: r, o, k + 1, x, h, h1, h2 => by
  unfold offF
  exact offF_at m r _ k x (by simpa using h) (fun i y hi hy => h1 (i + 1) y (by omega) (by simpa using hy)) (fun i y hi hy => h2 (i + 1) y (by omega) (by simpa using hy))
theorem typF_mem (d : Int) : ∀ (l : List Int), typF d l = if d ∈ l then 2 else wkF d
 | [] => by simp [typF]
 | x :: r => by
  unfold typF
  rw [typF_mem d r]
  by_cases h : x = d
  ·simp [h]
  ·simp [h, Ne.symm h]
theorem tdiv_neg' (x : Int) (b : Int) (h : x ≤ 0) : Int.tdiv x b = -((-x) / b) ∧ Int.tmod x b = -((-x) % b) := by
 obtain ⟨y, rfl⟩ : ∃ y : Int, x = -y := ⟨-x, by omega⟩
 rw [Int.neg_tdiv, Int.neg_tmod, Int.neg_neg, Int.tdiv_eq_ediv_of_nonneg (by omega), Int.tmod_eq_emod_of_nonneg (by omega)]
 exact ⟨rfl, rfl⟩
theorem b_split1440 (n : Nat) (x : Int) (h : -1440 ≤ x ∧ x ≤ 100000000) : g_days_split n x 1440 = some ((x + 1440) / 1440 - 1, (x + 1440) % 1440) := by
 unfold g_days_split
 rw [show (!eqI 1440 0) = true from rfl, cond_true, cond_true]
 simp only [ltI]
 by_cases hx : 0 ≤ x
 ·rw [Int.tdiv_eq_ediv_of_nonneg hx, Int.tmod_eq_emod_of_nonneg hx, dzF (by omega), cond_false, wi_id (x := x / 1440) (by omega) (by omega)]
  congr 2
  ·omega
  ·omega
 ·obtain ⟨e1, e2⟩ := tdiv_neg' x 1440 (by omega)
  rw [e1, e2]
  by_cases hm : -((-x) % 1440) < 0
  ·rw [dzT hm, cond_true, wi_id (x := -((-x) / 1440)) (by omega) (by omega), wi_id (by omega) (by omega), wi_id (by omega) (by omega)]
   congr 2
   ·omega
   ·omega
  ·rw [dzF hm, cond_false, wi_id (x := -((-x) / 1440)) (by omega) (by omega)]
   congr 2
   ·omega
   ·omega
theorem b_local (n : Nat) (c : GCl) (m : Int) (hn : 1000 ≤ n) (h1 : c.Changes.length ≤ 900) (h2 : c.Holidays.length ≤ 900) (hc : calB c = true) (hm : 0 ≤ m ∧ m ≤ 52560000) :
  g_days_Local n c m = some ((m + offF m c.Offset c.Changes + 1440) / 1440 - 1, (m + offF m c.Offset c.Changes + 1440) % 1440, 0) := by
 have ho := cal_off m hc
 have hc' := hc
 simp only [calB, bae] at hc'
 have hK : chK (-1) c.Changes = true := by
  have := hc'.1.2
  rw [chgB_KO, bae] at this
  exact this.2
 unfold g_days_Local
 rw [b_cal n c hn h1 h2, hc, b_dinside, dzT hm]
 simp only [obs, Bool.not_true, cond_false]
 obtain ⟨r, e, L⟩ := b_lastC n c.Changes m hn h1 hK
 rw [e]
 simp only [obs]
 have hoff : (bif leI 0 r then (getI c.Changes r).bind fun x7 => some x7.Offset else some c.Offset) = some (offF m c.Offset c.Changes) := by
  by_cases h0 : 0 ≤ r
  ·obtain ⟨k, rfl⟩ : ∃ k : Nat, r = (k : Int) := ⟨r.toNat, by omega⟩
   have hk := L.hi
   have hx : c.Changes[k]? = some (c.Changes[k]'(by omega)) := by rw [List.getElem?_eq_getElem]
   rw [show leI 0 (k : Int) = true from by simp only [leI]; rw [dzT h0], cond_true, getI_nat, hx, obs]
   rw [offF_at m c.Changes c.Offset k _ hx (fun i y hi hy => L.le i y (by omega) hy) (fun i y hi hy => L.gt i y (by omega) hy)]
  ·rw [show leI 0 r = false from by simp only [leI]; rw [dzF h0], cond_false]
   rw [offF_gt m c.Changes c.Offset (fun x hx => by
    obtain ⟨i, hi⟩ := List.mem_iff_getElem?.1 hx
    exact L.gt i x (by omega) hi)]
 rw [hoff, obs]
 generalize offF m c.Offset c.Changes = o at ho
 rw [wi_id (x := m + o) (by omega) (by omega), b_split1440 n (m + o) (by omega), obs]
theorem b_split7 (n : Nat) (d : Int) (h : -1 ≤ d ∧ d ≤ 36501) : g_days_split n d 7 = some ((d + 7) / 7 - 1, (d + 7) % 7) := by
 unfold g_days_split
 rw [show (!eqI 7 0) = true from rfl, cond_true, cond_true]
 simp only [ltI]
 by_cases hx : 0 ≤ d
 ·rw [Int.tdiv_eq_ediv_of_nonneg hx, Int.tmod_eq_emod_of_nonneg hx, dzF (by omega), cond_false, wi_id (x := d / 7) (by omega) (by omega)]
  congr 2
  ·omega
  ·omega
 ·have : d = -1 := by omega
  subst this
  rfl
theorem b_type (n : Nat) (c : GCl) (d : Int) (hn : 1000 ≤ n) (h1 : c.Changes.length ≤ 900) (h2 : c.Holidays.length ≤ 900) (hc : calB c = true) (hd : -1 ≤ d ∧ d ≤ 36501) : g_days_Type n c d = some (typF d c.Holidays, 0) := by
 have hc' := hc
 simp only [calB, bae] at hc'
 unfold g_days_Type
 rw [b_cal n c hn h1 h2, hc, b_dinside, dzT hd]
 simp only [obs, Bool.not_true, cond_false]
 obtain ⟨r, e, L⟩ := b_lastI n c.Holidays d hn h2 hc'.2
 have hpw := (holB_lt _ _ hc'.2).2
 rw [e]
 simp only [obs]
 have hj : (bif leI 0 r then (getI c.Holidays r).bind fun x8 => some (eqI x8 d) else some false) = some (decide (d ∈ c.Holidays)) := by
  by_cases h0 : 0 ≤ r
  ·obtain ⟨k, rfl⟩ : ∃ k : Nat, r = (k : Int) := ⟨r.toNat, by omega⟩
   have hk := L.hi
   have hx : c.Holidays[k]? = some (c.Holidays[k]'(by omega)) := by rw [List.getElem?_eq_getElem]
   rw [show leI 0 (k : Int) = true from by simp only [leI]; rw [dzT h0], cond_true, getI_nat, hx, obs, eqI_d]
   generalize c.Holidays[k]'(by omega) = x at hx
   by_cases hxd : x = d
   ·rw [dzT hxd, dzT]
    rw [← hxd]
    exact List.mem_of_getElem? hx
   ·rw [dzF hxd, dzF]
    intro hmem
    obtain ⟨i, hi⟩ := List.mem_iff_getElem?.1 hmem
    have hik : (i : Int) ≤ k := by
     apply Classical.byContradiction
     intro h
     have := L.gt i d (by omega) hi
     omega
    by_cases e : i = k
    ·subst e
     rw [hx] at hi; cases hi
     exact hxd rfl
    ·have hi' := List.getElem?_eq_some_iff.1 hi
     have hx' := List.getElem?_eq_some_iff.1 hx
     have := List.pairwise_iff_getElem.1 hpw i k hi'.1 hx'.1 (by omega)
     rw [hi'.2, hx'.2] at this
     have := L.le k x (Int.le_refl _) hx
     omega
  ·rw [show leI 0 r = false from by simp only [leI]; rw [dzF h0], cond_false, dzF]
   intro hmem
   obtain ⟨i, hi⟩ := List.mem_iff_getElem?.1 hmem
   have := L.gt i d (by omega) hi
   omega
 rw [hj, obs, typF_mem]
 by_cases hmem : d ∈ c.Holidays
 ·rw [dzT hmem, if_pos hmem]; rfl
 ·rw [dzF hmem, if_neg hmem, cond_false, b_split7 n d hd]
  unfold g_days_week wkF
  simp only [obs]
  rw [wi_id (x := d + 7) (by omega) (by omega), Int.tmod_eq_emod_of_nonneg (a := d + 7) (by omega)]
  have hr : 0 ≤ (d + 7) % 7 ∧ (d + 7) % 7 < 7 := by omega
  generalize (d + 7) % 7 = w at hr
  have hw : w = 0 ∨ w = 1 ∨ w = 2 ∨ w = 3 ∨ w = 4 ∨ w = 5 ∨ w = 6 := by omega
  rcases hw with rfl | rfl | rfl | rfl | rfl | rfl | rfl <;> rfl
theorem b_applies (n : Nat) (c : GCl) (a : GAr) (m : Int) (hn : 1000 ≤ n) (h1 : c.Changes.length ≤ 900) (h2 : c.Holidays.length ≤ 900) (hc : calB c = true) (ha : artB a = true) (hm : 0 ≤ m ∧ m ≤ 52560000) :
  g_t_Applies n a c m = some (appB c a m) := by
 have ho := cal_off m hc
 unfold g_t_Applies appB
 rw [b_article, ha, b_local n c m hn h1 h2 hc hm]
 simp only [obs, Bool.not_true, cond_false, eqI_d, decide_true]
 generalize offF m c.Offset c.Changes = o at ho
 rw [wi_id (x := m + o) (by omega) (by omega), wi_id (x := m + o + 1440) (by omega) (by omega)]
 rw [Int.tdiv_eq_ediv_of_nonneg (a := m + o + 1440) (by omega), Int.tmod_eq_emod_of_nonneg (a := m + o + 1440) (by omega)]
 rw [wi_id (x := (m + o + 1440) / 1440) (by omega) (by omega), wi_id (x := (m + o + 1440) / 1440 - 1) (by omega) (by omega)]
 rw [b_type n c _ hn h1 h2 hc (by omega)]
 have ht := typF_range ((m + o + 1440) / 1440 - 1) c.Holidays
 simp only [obs, cond_some, leI, ltI, decide_true, cond_true]
 rw [dzF (show ¬ typF ((m + o + 1440) / 1440 - 1) c.Holidays < 0 by omega)]
 generalize decide (bAnd .i64 a.Days (shlI .i64 1 (typF ((m + o + 1440) / 1440 - 1) c.Holidays)) = 0) = b
 generalize (m + o + 1440) % 1440 = w
 by_cases c1 : a.From ≤ w
 ·by_cases c2 : w < a.To
  ·rw [dzF (show ¬ w < a.From by omega), dzF (show ¬ a.To ≤ w by omega), dzT c1, dzT c2]
   cases b <;> rfl
  ·rw [dzF (show ¬ w < a.From by omega), dzT (show a.To ≤ w by omega), dzF c2]
   cases b <;> simp
 ·rw [dzT (show w < a.From by omega), dzF c1]; rfl
end Go.Proofs
namespace Go.Proofs
open Go Go.Abs
theorem head32_big : g_law32_head 36893488147419103232 = some true := by kernel_rfl
end Go.Proofs
namespace Go.Proofs
open Go Go.Abs
set_option maxRecDepth 100000
set_option linter.unusedVariables false
theorem fits32 (n : Nat) (a : GAr) (c : GCl) (hn : 1000 ≤ n) : ∃ b, g_law32_fits n a c = some b ∧ (b = true → artB a = true ∧ calB c = true ∧ c.Changes.length ≤ 900 ∧ c.Holidays.length ≤ 900) := by
 unfold g_law32_fits g_ref26_Few
 rw [r_article, obs]
 cases ha : artB a
 ·exact ⟨false, rfl, fun h => by cases h⟩
 simp only [cond_true, cond_some, obs, lenI, List.length_map, leI]
 by_cases h1 : ((c.Changes.length : Int) ≤ 30)
 ·rw [dzT h1, cond_true]
  by_cases h2 : ((c.Holidays.length : Int) ≤ 60)
  ·rw [dzT h2, cond_true, r_cal n c hn (by omega) (by omega), obs]
   exact ⟨_, rfl, fun h => ⟨by trivial, h, by omega, by omega⟩⟩
  ·rw [dzF h2]; exact ⟨false, rfl, fun h => by cases h⟩
 ·rw [dzF h1]; exact ⟨false, rfl, fun h => by cases h⟩
def dayF (c : GCl) (m : Int) : Int := (m + offF m c.Offset c.Changes + 1440) / 1440 - 1
def ofF (c : GCl) (m : Int) : Int := (m + offF m c.Offset c.Changes + 1440) % 1440
theorem appB_eq {c : GCl} (a : GAr) {m : Int} (hc : calB c = true) (hm : 0 ≤ m ∧ m ≤ 52560000) :
  appB c a m = (decide (a.From ≤ ofF c m) && decide (ofF c m < a.To) && !decide (bAnd .i64 a.Days (shlI .i64 1 (typF (dayF c m) c.Holidays)) = 0)) := by
 have ho := cal_off m hc
 unfold appB dayF ofF
 generalize offF m c.Offset c.Changes = o at ho
 simp only
 rw [wi_id (x := m + o) (by omega) (by omega), wi_id (x := m + o + 1440) (by omega) (by omega)]
 rw [Int.tdiv_eq_ediv_of_nonneg (a := m + o + 1440) (by omega), Int.tmod_eq_emod_of_nonneg (a := m + o + 1440) (by omega)]
 rw [wi_id (x := (m + o + 1440) / 1440) (by omega) (by omega), wi_id (x := (m + o + 1440) / 1440 - 1) (by omega) (by omega)]
theorem loopN_s {V R : Type} (B : (V → Option R) → V → Option R) (n : Nat) (v : V) : loopN B (n + 1) v = B (loopN B n) v := rfl
def hitF (g : Bool) (f t j : Int) : Int := bif g then (if j ≤ f then 0 else if j ≤ t then j - f else t - f) else 0
theorem whole32_plain (a : GAr) (c : GCl) (d : Int) (hd : u16b d) : g_law32_TariffWholeDay 36893488147419103232 a c d = some true := by
 obtain ⟨n, hn⟩ : ∃ n : Nat, n = 36893488147419103232 := ⟨_, rfl⟩
 rw [← hn]
 have hh : g_law32_head n = some true := by rw [hn]; exact head32_big
 have h1000 : 1000 ≤ n := by omega
 have hn2 : 2000 ≤ n := by omega
 have hd0 : 0 ≤ d ∧ d ≤ 65535 := hd
 unfold g_law32_TariffWholeDay
 obtain ⟨b, hb, hfit⟩ := fits32 n a ⟨c.Offset, [], c.Holidays⟩ h1000
 rw [hh, hb]
 simp only [obs]
 cases b
 ·rfl
 obtain ⟨hA, hC, l1, l2⟩ := hfit rfl
 have hart := artB_art hA
 obtain ⟨q1, q2⟩ := hart.from_
 obtain ⟨q3, q4⟩ := hart.to_
 simp only [Bool.not_true, cond_false, eqI_d]
 by_cases k5 : a.Kind = 5
 ·rw [dzT k5]; rfl
 by_cases k6 : a.Kind = 6
 ·rw [dzF k5, dzT k6]; rfl
 rw [dzF k5, dzF k6]
 simp only [cond_false, obs]
 have ho : -1440 ≤ c.Offset ∧ c.Offset ≤ 1440 := by
  have := cal_off 0 hC
  simpa [offF] using this
 obtain ⟨D, hD⟩ : ∃ D, D = 2 + Int.tmod (wi d) 1000 := ⟨_, rfl⟩
 have hDr : 2 ≤ D ∧ D ≤ 1001 := by
  rw [hD, wi_id (x := d) (by omega) (by omega), Int.tmod_eq_emod_of_nonneg hd0.1]
  omega
 have hf : wi (wi (1440 * wi (2 + Int.tmod (wi d) 1000)) - c.Offset) = 1440 * D - c.Offset := by
  rw [← hD, wi_id (x := D) (by omega) (by omega), wi_id (x := 1440 * D) (by omega) (by omega), wi_id (by omega) (by omega)]
 obtain ⟨g, hg⟩ : ∃ g, g = !decide (bAnd .i64 a.Days (shlI .i64 1 (typF D c.Holidays)) = 0) := ⟨_, rfl⟩
 have happ : ∀ j : Int, 0 ≤ j ∧ j < 1440 → g_t_Applies n a ⟨c.Offset, [], c.Holidays⟩ (1440 * D - c.Offset + j) = some (decide (a.From ≤ j) && decide (j < a.To) && g) := by
  intro j hj
  rw [b_applies n _ a _ h1000 l1 l2 hC hA (by omega), appB_eq _ hC (by omega)]
  have e1 : ofF ⟨c.Offset, [], c.Holidays⟩ (1440 * D - c.Offset + j) = j := by simp only [ofF, offF]; omega
  have e2 : dayF ⟨c.Offset, [], c.Holidays⟩ (1440 * D - c.Offset + j) = D := by simp only [dayF, offF]; omega
  rw [e1, e2, hg]
 have key : ∀ (q : Nat) (p : Nat), (p : Int) ≤ 1440 → 1440 - (p : Int) < q → loopN (fun recl7 (v : Int × Int) => g_law32_TariffWholeDay_l7 n a c d recl7 v.1 v.2) q (hitF g a.From a.To p, 1440 * D - c.Offset + p) = some (hitF g a.From a.To 1440) := by
  intro q
  induction q with
  | zero => intro p h1 h2; omega
  | succ q ih =>
   intro p h1 h2
   rw [loopN_s]
   simp only
   generalize hL : loopN (fun recl7 (v : Int × Int) => g_law32_TariffWholeDay_l7 n a c d recl7 v.1 v.2) q = L at ih ⊢
   unfold g_law32_TariffWholeDay_l7
   rw [hf, wi_id (x := 1440 * D - c.Offset + 1440) (by omega) (by omega)]
   simp only [ltI]
   by_cases hp : (p : Int) = 1440
   ·rw [dzF (by omega), cond_false, hp]
   ·rw [dzT (by omega), cond_true, happ p (by omega), obs, wi_id (x := 1440 * D - c.Offset + p + 1) (by omega) (by omega)]
    have hnext := ih (p + 1) (by omega) (by omega)
    have e0 : 1440 * D - c.Offset + ((p + 1 : Nat) : Int) = 1440 * D - c.Offset + p + 1 := by omega
    rw [e0] at hnext
    have hbd : 0 ≤ hitF g a.From a.To p ∧ hitF g a.From a.To p ≤ 1440 := by
     unfold hitF
     cases g
     ·simp
     ·simp only [cond_true]; split
      ·omega
      ·split <;> omega
    have e1 : wi (hitF g a.From a.To p + 1) = hitF g a.From a.To p + 1 := wi_id (by omega) (by omega)
    have e2 : hitF g a.From a.To ((p + 1 : Nat) : Int) = bif (decide (a.From ≤ (p : Int)) && decide ((p : Int) < a.To) && g) then hitF g a.From a.To p + 1 else hitF g a.From a.To p := by
     unfold hitF
     cases g
     ·simp
     ·simp only [cond_true, Bool.and_true]
      by_cases c1 : a.From ≤ (p : Int) <;> by_cases c2 : (p : Int) < a.To <;> simp only [c1, c2, decide_true, decide_false, Bool.and_true, Bool.and_false, cond_true, cond_false] <;> (repeat' split) <;> omega
    rw [e2] at hnext
    cases hq : (decide (a.From ≤ (p : Int)) && decide ((p : Int) < a.To) && g)
    ·rw [hq, cond_false] at hnext
     rw [cond_false]; exact hnext
    ·rw [hq, cond_true] at hnext
     rw [cond_true, e1]; exact hnext
 have h0 := key n 0 (by omega) (by omega)
 have hc0 : hitF g a.From a.To ((0 : Nat) : Int) = 0 := by
  unfold hitF
  cases g
  ·rfl
  ·simp only [cond_true]; rw [if_pos (by omega)]
 rw [hc0] at h0
 rw [hf]
 have h0' : loopN (fun recl7 (v : Int × Int) => g_law32_TariffWholeDay_l7 n a c d recl7 v.1 v.2) n (0, 1440 * D - c.Offset) = some (hitF g a.From a.To 1440) := by
  have e : 1440 * D - c.Offset + ((0 : Nat) : Int) = 1440 * D - c.Offset := by omega
  rw [e] at h0; exact h0
 show ((loopN (fun recl7 (v : Int × Int) => g_law32_TariffWholeDay_l7 n a c d recl7 v.1 v.2) n (0, 1440 * D - c.Offset)).bind _) = _
 rw [h0', obs, cond_true, wi_id (x := a.To - a.From) (by omega) (by omega)]
 cases g
 ·rfl
 ·have : hitF true a.From a.To 1440 = a.To - a.From := by
   unfold hitF
   simp only [cond_true]
   rw [if_neg (by omega)]
   split <;> omega
  rw [this, dzT (rfl : a.To - a.From = a.To - a.From)]
  by_cases h : a.To - a.From = 0 <;> simp [h]
end Go.Proofs
namespace Go.Proofs.Ytkgamjjfjekgnaa
open Go Go.Abs Go.Proofs
theorem tariffWholeDay_holds : Rows.TariffWholeDaySaid :=
 tariffWholeDay_said (fun a c d _ _ h => ⟨_, whole32_plain a c d h⟩)
end Go.Proofs.Ytkgamjjfjekgnaa
