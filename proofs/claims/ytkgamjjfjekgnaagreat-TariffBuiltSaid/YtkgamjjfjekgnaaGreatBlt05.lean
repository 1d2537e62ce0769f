/-
  A part of the proof of a statement of the seat YtkgamjjfjekgnaaGreat.
-/
import Derived.Test.YtkgamjjfjekgnaaGreatBlt04
namespace Go.Proofs
open Go Go.Abs
set_option maxRecDepth 100000
set_option linter.unusedVariables false
theorem g_t_reader_number_ok (n : Nat) (a0r : GTr) : ∀ r, g_t_reader_number n a0r = some r → ACall Tryz.prog 67 [.ptr 1000 0] (Go.Abs.look [(1000, .box 102 (bxc (GTr.cs a0r)))]) (heapR (fun r : Int × GTr => ((.ret (I r.1), [(1000, .box 102 (bxc (GTr.cs r.2)))]) : AEnd × List (Nat × Blk))) r) := by
 refine acall_sim (X := fun r : Int × GTr => ((.ret (I r.1), [(1000, .box 102 (bxc (GTr.cs r.2)))]) : AEnd × List (Nat × Blk))) [(1000, .box 102 (bxc (GTr.cs a0r)))] Tryz.func67 rfl Tryz.ntmps67 rfl ?_
 unfold g_t_reader_number
 refine sR tfm ⟨[0], [1000], [], []⟩ ⟨[(0, .ptr 1000 0)], [(1000, .box 102 (bxc (GTr.cs a0r)))]⟩ krf ?_
 refine sS ?_
 refine sim_bind (fun j1 => ⟨[(0, .ptr 1000 0), (19, B j1)], [(1000, .box 102 (bxc (GTr.cs a0r)))]⟩ : Bool → St) ?_ ?_
 ·refine sG ?_
  refine xR 7 krf ?_
  refine xS (eqI (lenI (List.map idc a0r.values)) 0) (fun h2 => ?_) (fun h2 => ?_)
  ·refine xN (want_ft krf h2) krf ?_
   refine xR 8 krf ?_
   refine xE ?_
   exact nq_n true ⟨[0, 19], [1000], [], []⟩ krf
  ·refine xO (want_ff krf h2) krf ?_
   refine xR 3 krf ?_
   refine xG krf krf (aop_idxR (e := 24) (S := 5) (enc := GNode.cs) (dec := GNode.of) (l := a0r.values) (k := .i64) (n := 0) (sv := .p (.sl 5 (List.map idc a0r.values))) GNode.of_cs rfl krf krf krf krf krf) (fun x3 => ?_)
   refine xR 4 krf ?_
   refine xE ?_
   exact nq_n (!eqI x3.Kind 6) ⟨[0, 19], [1000], [], []⟩ krf
 ·rintro j1
  refine sC j1 krf ?_ ?_
  ·refine sR tfm ⟨[], [1000], [], []⟩ ⟨[], [(1000, .box 102 (bxc (GTr.cs ⟨a0r.article, a0r.values, false⟩)))]⟩ krf ?_
   refine sR tfm ⟨[2], [1000], [], []⟩ ⟨[(2, I 0)], [(1000, .box 102 (bxc (GTr.cs ⟨a0r.article, a0r.values, false⟩)))]⟩ krf ?_
   refine sT ?_
   refine sq_r ?_
   exact hq_ret (.id) [1000] [] krf krf krf krf
  ·refine sK ?_
   refine sN ⟨[0], [1000], [], []⟩ ⟨[(0, .ptr 1000 0)], [(1000, .box 102 (bxc (GTr.cs a0r)))]⟩ krf ?_
   refine sS ?_
   refine sG ?_
   refine xR 4 krf ?_
   refine xG krf krf (aop_idxR (e := 24) (S := 5) (enc := GNode.cs) (dec := GNode.of) (l := a0r.values) (k := .i64) (n := 0) (sv := .p (.sl 5 (List.map idc a0r.values))) GNode.of_cs rfl krf krf krf krf krf) (fun x4 => ?_)
   refine xR 3 krf ?_
   refine xE ?_
   refine sN ⟨[0, 3], [1000], [], []⟩ ⟨[(0, .ptr 1000 0), (3, I x4.N)], [(1000, .box 102 (bxc (GTr.cs a0r)))]⟩ krf ?_
   refine sS ?_
   refine sim_drw tfm rfl ?_
   refine xR 15 krf ?_
   refine xF krf krf (aop_slice3 (e := 24) (S := 5) (enc := idc) (l := a0r.values) (sv := .p (.sl 5 (List.map idc a0r.values))) (a := 1) (b := lenI (List.map idc a0r.values)) (c := lenI (List.map idc a0r.values)) rfl krf krf krf krf krf krf krf) ?_
   refine xR 3 krf ?_
   refine xs_endD krf ?_
   refine sN ⟨[3], [1000], [], []⟩ ⟨[(3, I x4.N)], [(1000, .box 102 (bxc (GTr.cs ⟨a0r.article, List.drop (Int.toNat 1) (List.take (Int.toNat (lenI (List.map idc a0r.values))) a0r.values), a0r.good⟩)))]⟩ krf ?_
   refine sR tfm ⟨[2], [1000], [], []⟩ ⟨[(2, I x4.N)], [(1000, .box 102 (bxc (GTr.cs ⟨a0r.article, List.drop (Int.toNat 1) (List.take (Int.toNat (lenI (List.map idc a0r.values))) a0r.values), a0r.good⟩)))]⟩ krf ?_
   refine sT ?_
   exact hq_ret (.id) [1000] [] krf krf krf krf
def g_t_isTime (n : Nat) (a0kind : Int) : Option Bool :=
 cond (eqI a0kind 3)
  (some true)
  (some (eqI a0kind 4))
theorem g_t_isTime_ok (n : Nat) (a0kind : Int) : ∀ r, g_t_isTime n a0kind = some r → PCall Tryz.prog 48 [I a0kind] (.ret (B r)) := by
 refine pcall_sim (X := fun r : Bool => AEnd.ret (B r)) Tryz.func48 rfl Tryz.ntmps48 rfl ?_
 unfold g_t_isTime
 refine sR tfm ⟨[0], [], [], []⟩ ⟨[(0, I a0kind)], []⟩ krf ?_
 refine sS ?_
 refine sG ?_
 refine xR 3 krf ?_
 refine xS (eqI a0kind 3) (fun h1 => ?_) (fun h1 => ?_)
 ·refine xN (want_ft krf h1) krf ?_
  refine xR 3 krf ?_
  refine xE ?_
  refine sN ⟨[2], [], [], []⟩ ⟨[(2, B true)], []⟩ krf ?_
  refine sT ?_
  exact qR (.id) krf krf krf
 ·refine xO (want_ff krf h1) krf ?_
  refine xR 3 krf ?_
  refine xE ?_
  refine sN ⟨[2], [], [], []⟩ ⟨[(2, B (eqI a0kind 4))], []⟩ krf ?_
  refine sT ?_
  exact qR (.id) krf krf krf
def g_t_isWhole (n : Nat) (a0kind : Int) : Option Bool :=
 cond (eqI a0kind 5)
  (some true)
  (some (eqI a0kind 6))
theorem g_t_isWhole_ok (n : Nat) (a0kind : Int) : ∀ r, g_t_isWhole n a0kind = some r → PCall Tryz.prog 47 [I a0kind] (.ret (B r)) := by
 refine pcall_sim (X := fun r : Bool => AEnd.ret (B r)) Tryz.func47 rfl Tryz.ntmps47 rfl ?_
 unfold g_t_isWhole
 refine sR tfm ⟨[0], [], [], []⟩ ⟨[(0, I a0kind)], []⟩ krf ?_
 refine sS ?_
 refine sG ?_
 refine xR 3 krf ?_
 refine xS (eqI a0kind 5) (fun h1 => ?_) (fun h1 => ?_)
 ·refine xN (want_ft krf h1) krf ?_
  refine xR 3 krf ?_
  refine xE ?_
  refine sN ⟨[2], [], [], []⟩ ⟨[(2, B true)], []⟩ krf ?_
  refine sT ?_
  exact qR (.id) krf krf krf
 ·refine xO (want_ff krf h1) krf ?_
  refine xR 3 krf ?_
  refine xE ?_
  refine sN ⟨[2], [], [], []⟩ ⟨[(2, B (eqI a0kind 6))], []⟩ krf ?_
  refine sT ?_
  exact qR (.id) krf krf krf
def g_t_reader_word (n : Nat) (a0r : GTr) : Option (List UInt8) :=
 (cond (eqI (lenI (List.map idc a0r.values)) 0)
  (some true)
  ((Option.bind (getI a0r.values 0) GNode.of).bind fun x3 =>
  some (!eqI x3.Kind 5))).bind fun j1 =>
 cond j1
  (some [])
  ((Option.bind (getI a0r.values 0) GNode.of).bind fun x4 =>
  some x4.Name)
theorem g_t_reader_word_ok (n : Nat) (a0r : GTr) : ∀ r, g_t_reader_word n a0r = some r → PCall Tryz.prog 69 [.eptr (GTr.cs a0r)] (.ret (S r)) := by
 refine pcall_sim (X := fun r : List UInt8 => AEnd.ret (S r)) Tryz.func69 rfl Tryz.ntmps69 rfl ?_
 unfold g_t_reader_word
 refine sR tfm ⟨[0], [], [], []⟩ ⟨[(0, .eptr (GTr.cs a0r))], []⟩ krf ?_
 refine sS ?_
 refine sim_bind (fun j1 => ⟨[(0, .eptr (GTr.cs a0r)), (18, B j1)], []⟩ : Bool → St) ?_ ?_
 ·refine sG ?_
  refine xR 7 krf ?_
  refine xS (eqI (lenI (List.map idc a0r.values)) 0) (fun h2 => ?_) (fun h2 => ?_)
  ·refine xN (want_ft krf h2) krf ?_
   refine xR 8 krf ?_
   refine xE ?_
   exact nq_n true ⟨[0, 18], [], [], []⟩ krf
  ·refine xO (want_ff krf h2) krf ?_
   refine xR 3 krf ?_
   refine xG krf krf (aop_idxR (e := 24) (S := 5) (enc := GNode.cs) (dec := GNode.of) (l := a0r.values) (k := .i64) (n := 0) (sv := .p (.sl 5 (List.map idc a0r.values))) GNode.of_cs rfl krf krf krf krf krf) (fun x3 => ?_)
   refine xR 4 krf ?_
   refine xE ?_
   exact nq_n (!eqI x3.Kind 5) ⟨[0, 18], [], [], []⟩ krf
 ·rintro j1
  refine sC j1 krf ?_ ?_
  ·refine sR tfm ⟨[2], [], [], []⟩ ⟨[(2, S [])], []⟩ krf ?_
   refine sT ?_
   refine sq_r ?_
   exact qR (.id) krf krf krf
  ·refine sK ?_
   refine sN ⟨[0], [], [], []⟩ ⟨[(0, .eptr (GTr.cs a0r))], []⟩ krf ?_
   refine sS ?_
   refine sG ?_
   refine xR 4 krf ?_
   refine xG krf krf (aop_idxR (e := 24) (S := 5) (enc := GNode.cs) (dec := GNode.of) (l := a0r.values) (k := .i64) (n := 0) (sv := .p (.sl 5 (List.map idc a0r.values))) GNode.of_cs rfl krf krf krf krf krf) (fun x4 => ?_)
   refine xR 3 krf ?_
   refine xE ?_
   refine sN ⟨[2], [], [], []⟩ ⟨[(2, S x4.Name)], []⟩ krf ?_
   refine sT ?_
   exact qR (.id) krf krf krf
def g_t_dayOf (n : Nat) (a0w : List UInt8) : Option Int :=
 cond (eqS a0w [119, 111, 114, 107])
  (some 1)
  (cond (eqS a0w [115, 97, 116, 117, 114, 100, 97, 121])
   (some 2)
   (cond (eqS a0w [115, 117, 110, 100, 97, 121])
    (some 4)
    (some 0)))
theorem g_t_dayOf_ok (n : Nat) (a0w : List UInt8) : ∀ r, g_t_dayOf n a0w = some r → PCall Tryz.prog 105 [S a0w] (.ret (I r)) := by
 refine pcall_sim (X := fun r : Int => AEnd.ret (I r)) Tryz.func105 rfl Tryz.ntmps105 rfl ?_
 unfold g_t_dayOf
 refine sR tfm ⟨[0], [], [], []⟩ ⟨[(0, S a0w)], []⟩ krf ?_
 refine sS ?_
 refine sR tfm ⟨[3], [], [], []⟩ ⟨[(3, S a0w)], []⟩ krf ?_
 refine sB ?_
 refine sR tfm ⟨[3, 4], [], [], []⟩ ⟨[(3, S a0w), (4, B (eqS a0w [119, 111, 114, 107]))], []⟩ krf ?_
 refine sC (eqS a0w [119, 111, 114, 107]) krf ?_ ?_
 ·refine sR tfm ⟨[2], [], [], []⟩ ⟨[(2, I 1)], []⟩ krf ?_
  refine sT ?_
  refine bq_r ?_
  refine sq_r ?_
  exact qR (.id) krf krf krf
 ·refine sR tfm ⟨[3, 6], [], [], []⟩ ⟨[(3, S a0w), (6, B (eqS a0w [115, 97, 116, 117, 114, 100, 97, 121]))], []⟩ krf ?_
  refine sC (eqS a0w [115, 97, 116, 117, 114, 100, 97, 121]) krf ?_ ?_
  ·refine sR tfm ⟨[2], [], [], []⟩ ⟨[(2, I 2)], []⟩ krf ?_
   refine sT ?_
   refine bq_r ?_
   refine sq_r ?_
   exact qR (.id) krf krf krf
  ·refine sR tfm ⟨[8], [], [], []⟩ ⟨[(8, B (eqS a0w [115, 117, 110, 100, 97, 121]))], []⟩ krf ?_
   refine sC (eqS a0w [115, 117, 110, 100, 97, 121]) krf ?_ ?_
   ·refine sR tfm ⟨[2], [], [], []⟩ ⟨[(2, I 4)], []⟩ krf ?_
    refine sT ?_
    refine bq_r ?_
    refine sq_r ?_
    exact qR (.id) krf krf krf
   ·refine sK ?_
    refine bq_n ?_
    refine sN ⟨[], [], [], []⟩ ⟨[], []⟩ krf ?_
    refine sR tfm ⟨[2], [], [], []⟩ ⟨[(2, I 0)], []⟩ krf ?_
    refine sT ?_
    exact qR (.id) krf krf krf
def g_t_reader_days_l4 (n : Nat) (a0r : GTr) (recl4 : (Int × Int × (List (List PV)) × Bool) → Option (Int × (List (List PV)) × Bool)) (l4_1 : Int) (l4_2 : Int) (l4_3 : List (List PV)) (l4_4 : Bool) : Option (Int × (List (List PV)) × Bool) :=
 cond (!eqI l4_2 0)
  ((cond (!eqI (bAnd .i64 l4_1 l4_2) 0)
   (some false)
   (some l4_4)).bind fun j5 =>
  cond (sliceB3 1 (lenI (List.map idc l4_3)) (lenI (List.map idc l4_3)) (List.length l4_3)) (
   (g_t_reader_word n (⟨a0r.article, List.drop (Int.toNat 1) (List.take (Int.toNat (lenI (List.map idc l4_3))) l4_3), j5⟩ : GTr)).bind fun r6 =>
   (g_t_dayOf n r6).bind fun r7 =>
   recl4 (bOr .i64 l4_1 l4_2, r7, List.drop (Int.toNat 1) (List.take (Int.toNat (lenI (List.map idc l4_3))) l4_3), j5)) none)
  (some (l4_1, l4_3, l4_4))
def g_t_reader_days (n : Nat) (a0r : GTr) : Option (Int × GTr) :=
 ((g_t_reader_word n a0r).bind fun r2 =>
 (g_t_dayOf n r2).bind fun r3 =>
 loopN (fun recl4 (l4_1, l4_2, l4_3, l4_4) => g_t_reader_days_l4 n a0r recl4 l4_1 l4_2 l4_3 l4_4) n (0, r3, a0r.values, a0r.good)).bind fun (j1_1, j1_2, j1_3) =>
 cond (eqI j1_1 0)
  (some (j1_1, (⟨a0r.article, j1_2, false⟩ : GTr)))
  (some (j1_1, (⟨a0r.article, j1_2, j1_3⟩ : GTr)))
theorem g_t_reader_days_ok (n : Nat) (a0r : GTr) : ∀ r, g_t_reader_days n a0r = some r → ACall Tryz.prog 91 [.ptr 1000 0] (Go.Abs.look [(1000, .box 102 (bxc (GTr.cs a0r)))]) (heapR (fun r : Int × GTr => ((.ret (I r.1), [(1000, .box 102 (bxc (GTr.cs r.2)))]) : AEnd × List (Nat × Blk))) r) := by
 refine acall_sim (X := fun r : Int × GTr => ((.ret (I r.1), [(1000, .box 102 (bxc (GTr.cs r.2)))]) : AEnd × List (Nat × Blk))) [(1000, .box 102 (bxc (GTr.cs a0r)))] Tryz.func91 rfl Tryz.ntmps91 rfl ?_
 unfold g_t_reader_days
 refine sR tfm ⟨[0], [1000], [], []⟩ ⟨[(0, .ptr 1000 0)], [(1000, .box 102 (bxc (GTr.cs a0r)))]⟩ krf ?_
 refine sR tfm ⟨[0, 3], [1000], [], []⟩ ⟨[(0, .ptr 1000 0), (3, I 0)], [(1000, .box 102 (bxc (GTr.cs a0r)))]⟩ krf ?_
 refine sim_bind (fun (j1_1, j1_2, j1_3) => ⟨[(0, .ptr 1000 0), (3, I j1_1)], [(1000, .box 102 (bxc (GTr.cs ⟨a0r.article, j1_2, j1_3⟩)))]⟩ : (Int × (List (List PV)) × Bool) → St) ?_ ?_
 ·refine sS ?_
  refine sG ?_
  refine xR 1 krf ?_
  refine xs_ro [.ro []] krf (g_t_reader_word_ok n a0r) krf krf (fun _ => by kernel_rfl) (fun r2 => ?_)
  refine xC [] krf (g_t_dayOf_ok n r2) krf krf (fun _ => by kernel_rfl) (fun r3 => ?_)
  refine xR 1 krf ?_
  refine xE ?_
  refine sN ⟨[0, 3, 4], [1000], [], []⟩ ⟨[(0, .ptr 1000 0), (3, I 0), (4, I r3)], [(1000, .box 102 (bxc (GTr.cs a0r)))]⟩ krf ?_
  refine sB ?_
  refine sim_loop (fun (l4_1, l4_2, l4_3, l4_4) => ⟨[(0, .ptr 1000 0), (3, I l4_1), (4, I l4_2)], [(1000, .box 102 (bxc (GTr.cs ⟨a0r.article, l4_3, l4_4⟩)))]⟩ : (Int × Int × (List (List PV)) × Bool) → St) (weak_shr (K := ⟨[0, 3, 4], [1000], [], []⟩) krf) ?_
  rintro recl4 ⟨l4_1, l4_2, l4_3, l4_4⟩
  show SimE (g_t_reader_days_l4 n a0r recl4 l4_1 l4_2 l4_3 l4_4) _ _ _ _ _ _
  unfold g_t_reader_days_l4
  refine sS ?_
  refine sR tfm ⟨[0, 3, 4, 9], [1000], [], []⟩ ⟨[(0, .ptr 1000 0), (3, I l4_1), (4, I l4_2), (9, B (!eqI l4_2 0))], [(1000, .box 102 (bxc (GTr.cs ⟨a0r.article, l4_3, l4_4⟩)))]⟩ krf ?_
  refine sC (!eqI l4_2 0) krf ?_ ?_
  ·refine sK ?_
   refine sN ⟨[0, 3, 4], [1000], [], []⟩ ⟨[(0, .ptr 1000 0), (3, I l4_1), (4, I l4_2)], [(1000, .box 102 (bxc (GTr.cs ⟨a0r.article, l4_3, l4_4⟩)))]⟩ krf ?_
   refine sS ?_
   refine sB ?_
   refine sim_bind (fun j5 => ⟨[(0, .ptr 1000 0), (3, I l4_1), (4, I l4_2)], [(1000, .box 102 (bxc (GTr.cs ⟨a0r.article, l4_3, j5⟩)))]⟩ : Bool → St) ?_ ?_
   ·refine sR tfm ⟨[0, 3, 4, 16], [1000], [], []⟩ ⟨[(0, .ptr 1000 0), (3, I l4_1), (4, I l4_2), (16, B (!eqI (bAnd .i64 l4_1 l4_2) 0))], [(1000, .box 102 (bxc (GTr.cs ⟨a0r.article, l4_3, l4_4⟩)))]⟩ krf ?_
    refine sC (!eqI (bAnd .i64 l4_1 l4_2) 0) krf ?_ ?_
    ·refine sL tfm krf ?_
     exact nq_n false ⟨[0, 3, 4], [1000], [], []⟩ krf
    ·refine sK ?_
     exact nq_n l4_4 ⟨[0, 3, 4], [1000], [], []⟩ krf
   ·rintro j5
    refine sR tfm ⟨[0, 3], [1000], [], []⟩ ⟨[(0, .ptr 1000 0), (3, I (bOr .i64 l4_1 l4_2))], [(1000, .box 102 (bxc (GTr.cs ⟨a0r.article, l4_3, j5⟩)))]⟩ krf ?_
    refine sim_drw tfm rfl ?_
    refine xR 15 krf ?_
    refine xF krf krf (aop_slice3 (e := 24) (S := 5) (enc := idc) (l := l4_3) (sv := .p (.sl 5 (List.map idc l4_3))) (a := 1) (b := lenI (List.map idc l4_3)) (c := lenI (List.map idc l4_3)) rfl krf krf krf krf krf krf krf) ?_
    refine xR 3 krf ?_
    refine xs_endD krf ?_
    refine bq_n ?_
    refine sN ⟨[0, 3], [1000], [], []⟩ ⟨[(0, .ptr 1000 0), (3, I (bOr .i64 l4_1 l4_2))], [(1000, .box 102 (bxc (GTr.cs ⟨a0r.article, List.drop (Int.toNat 1) (List.take (Int.toNat (lenI (List.map idc l4_3))) l4_3), j5⟩)))]⟩ krf ?_
    refine sG ?_
    refine xR 1 krf ?_
    refine xs_ro [.ro []] krf (g_t_reader_word_ok n (⟨a0r.article, List.drop (Int.toNat 1) (List.take (Int.toNat (lenI (List.map idc l4_3))) l4_3), j5⟩ : GTr)) krf krf (fun _ => by kernel_rfl) (fun r6 => ?_)
    refine xC [] krf (g_t_dayOf_ok n r6) krf krf (fun _ => by kernel_rfl) (fun r7 => ?_)
    refine xR 1 krf ?_
    refine xE ?_
    exact kq_n (bOr .i64 l4_1 l4_2, r7, List.drop (Int.toNat 1) (List.take (Int.toNat (lenI (List.map idc l4_3))) l4_3), j5) ⟨[0, 3, 4], [1000], [], []⟩ krf
  ·refine sim_exit ?_
   refine sq_x ?_
   refine kq_x ?_
   refine bq_hit ?_
   exact nq_n (l4_1, l4_3, l4_4) ⟨[0, 3], [1000], [], []⟩ krf
 ·rintro ⟨j1_1, j1_2, j1_3⟩
  refine sS ?_
  refine sR tfm ⟨[0, 3, 42], [1000], [], []⟩ ⟨[(0, .ptr 1000 0), (3, I j1_1), (42, B (eqI j1_1 0))], [(1000, .box 102 (bxc (GTr.cs ⟨a0r.article, j1_2, j1_3⟩)))]⟩ krf ?_
  refine sC (eqI j1_1 0) krf ?_ ?_
  ·refine sL tfm krf ?_
   refine sN ⟨[3], [1000], [], []⟩ ⟨[(3, I j1_1)], [(1000, .box 102 (bxc (GTr.cs ⟨a0r.article, j1_2, false⟩)))]⟩ krf ?_
   refine sR tfm ⟨[2], [1000], [], []⟩ ⟨[(2, I j1_1)], [(1000, .box 102 (bxc (GTr.cs ⟨a0r.article, j1_2, false⟩)))]⟩ krf ?_
   refine sT ?_
   exact hq_ret (.id) [1000] [] krf krf krf krf
  ·refine sK ?_
   refine sN ⟨[3], [1000], [], []⟩ ⟨[(3, I j1_1)], [(1000, .box 102 (bxc (GTr.cs ⟨a0r.article, j1_2, j1_3⟩)))]⟩ krf ?_
   refine sR tfm ⟨[2], [1000], [], []⟩ ⟨[(2, I j1_1)], [(1000, .box 102 (bxc (GTr.cs ⟨a0r.article, j1_2, j1_3⟩)))]⟩ krf ?_
   refine sT ?_
   exact hq_ret (.id) [1000] [] krf krf krf krf
def g_t_read_j8 (j8_1 : Bool) (j8_2 : Int) (j8_3 : Int) (j8_4 : Int) (j8_5 : Int) (j8_6 : Int) (j8_7 : Int) (j8_8 : Int) (j8_9 : List (List PV)) (j8_10 : Bool) : Option (GAr × Bool) :=
 cond j8_10
  (cond j8_1
   (some ((⟨j8_2, j8_3, j8_4, j8_5, j8_6, j8_7, j8_8⟩ : GAr), !eqI j8_2 0))
   (some ((⟨j8_2, j8_3, j8_4, j8_5, j8_6, j8_7, j8_8⟩ : GAr), false)))
  (some ((⟨j8_2, j8_3, j8_4, j8_5, j8_6, j8_7, j8_8⟩ : GAr), false))
def g_t_read_l11 (n : Nat) (recl11 : (Bool × Int × Int × Int × Int × Int × Int × Int × (List (List PV)) × Bool × Bool × Bool × Bool × Bool) → Option (GAr × Bool)) (l11_1 : Bool) (l11_2 : Int) (l11_3 : Int) (l11_4 : Int) (l11_5 : Int) (l11_6 : Int) (l11_7 : Int) (l11_8 : Int) (l11_9 : List (List PV)) (l11_10 : Bool) (l11_11 : Bool) (l11_12 : Bool) (l11_13 : Bool) (l11_14 : Bool) : Option (GAr × Bool) :=
 (cond l11_10
  (some (ltI 0 (lenI (List.map idc l11_9))))
  (some false)).bind fun j12 =>
 cond j12
  ((g_t_reader_word n (⟨(⟨l11_2, l11_3, l11_4, l11_5, l11_6, l11_7, l11_8⟩ : GAr), l11_9, l11_10⟩ : GTr)).bind fun r14 =>
  cond (eqS r14 [112, 101, 114] && l11_11)
   ((cond l11_1
    (some true)
    (some (eqS r14 [112, 101, 114]))).bind fun j17 =>
   cond (sliceB3 1 (lenI (List.map idc l11_9)) (lenI (List.map idc l11_9)) (List.length l11_9)) (
    (g_t_reader_number n (⟨(⟨l11_2, l11_3, l11_4, l11_5, l11_6, l11_7, l11_8⟩ : GAr), List.drop (Int.toNat 1) (List.take (Int.toNat (lenI (List.map idc l11_9))) l11_9), l11_10⟩ : GTr)).bind fun r19 =>
    recl11 (j17, r19.2.article.Kind, r19.2.article.Days, r19.2.article.From, r19.2.article.To, r19.2.article.Price, r19.1, r19.2.article.Free, r19.2.values, r19.2.good, !eqS r14 [112, 101, 114] && l11_11, !eqS r14 [102, 114, 101, 101] && l11_12, !eqS r14 [111, 110] && l11_13, !eqS r14 [98, 101, 116, 119, 101, 101, 110] && l11_14)) none)
   (cond (eqS r14 [102, 114, 101, 101] && l11_12)
    ((cond l11_1
     (some true)
     (some (eqS r14 [112, 101, 114]))).bind fun j21 =>
    cond (sliceB3 1 (lenI (List.map idc l11_9)) (lenI (List.map idc l11_9)) (List.length l11_9)) (
     (g_t_reader_number n (⟨(⟨l11_2, l11_3, l11_4, l11_5, l11_6, l11_7, l11_8⟩ : GAr), List.drop (Int.toNat 1) (List.take (Int.toNat (lenI (List.map idc l11_9))) l11_9), l11_10⟩ : GTr)).bind fun r23 =>
     recl11 (j21, r23.2.article.Kind, r23.2.article.Days, r23.2.article.From, r23.2.article.To, r23.2.article.Price, r23.2.article.Unit, r23.1, r23.2.values, r23.2.good, !eqS r14 [112, 101, 114] && l11_11, !eqS r14 [102, 114, 101, 101] && l11_12, !eqS r14 [111, 110] && l11_13, !eqS r14 [98, 101, 116, 119, 101, 101, 110] && l11_14)) none)
    (cond (eqS r14 [111, 110] && l11_13)
     ((cond l11_1
      (some true)
      (some (eqS r14 [112, 101, 114]))).bind fun j25 =>
     cond (sliceB3 1 (lenI (List.map idc l11_9)) (lenI (List.map idc l11_9)) (List.length l11_9)) (
      (g_t_reader_days n (⟨(⟨l11_2, l11_3, l11_4, l11_5, l11_6, l11_7, l11_8⟩ : GAr), List.drop (Int.toNat 1) (List.take (Int.toNat (lenI (List.map idc l11_9))) l11_9), l11_10⟩ : GTr)).bind fun r27 =>
      recl11 (j25, r27.2.article.Kind, r27.1, r27.2.article.From, r27.2.article.To, r27.2.article.Price, r27.2.article.Unit, r27.2.article.Free, r27.2.values, r27.2.good, !eqS r14 [112, 101, 114] && l11_11, !eqS r14 [102, 114, 101, 101] && l11_12, !eqS r14 [111, 110] && l11_13, !eqS r14 [98, 101, 116, 119, 101, 101, 110] && l11_14)) none)
     (cond (eqS r14 [98, 101, 116, 119, 101, 101, 110] && l11_14)
      ((cond l11_1
       (some true)
       (some (eqS r14 [112, 101, 114]))).bind fun j29 =>
      cond (sliceB3 1 (lenI (List.map idc l11_9)) (lenI (List.map idc l11_9)) (List.length l11_9)) (
       (g_t_reader_number n (⟨(⟨l11_2, l11_3, l11_4, l11_5, l11_6, l11_7, l11_8⟩ : GAr), List.drop (Int.toNat 1) (List.take (Int.toNat (lenI (List.map idc l11_9))) l11_9), l11_10⟩ : GTr)).bind fun r31 =>
       (g_t_reader_number n (⟨(⟨r31.2.article.Kind, r31.2.article.Days, r31.1, r31.2.article.To, r31.2.article.Price, r31.2.article.Unit, r31.2.article.Free⟩ : GAr), r31.2.values, r31.2.good⟩ : GTr)).bind fun r32 =>
       recl11 (j29, r32.2.article.Kind, r32.2.article.Days, r32.2.article.From, r32.1, r32.2.article.Price, r32.2.article.Unit, r32.2.article.Free, r32.2.values, r32.2.good, !eqS r14 [112, 101, 114] && l11_11, !eqS r14 [102, 114, 101, 101] && l11_12, !eqS r14 [111, 110] && l11_13, !eqS r14 [98, 101, 116, 119, 101, 101, 110] && l11_14)) none)
      (some ((⟨0, 0, 0, 0, 0, 0, 0⟩ : GAr), false))))))
  (g_t_read_j8 l11_1 l11_2 l11_3 l11_4 l11_5 l11_6 l11_7 l11_8 l11_9 l11_10)
def g_t_read (n : Nat) (a0n : GNode) : Option (GAr × Bool) :=
 (g_t_kindOf n a0n.Name).bind fun r1 =>
 (g_t_reader_number n (⟨(⟨r1, 7, 0, 1440, 0, 0, 0⟩ : GAr), a0n.Kids, true⟩ : GTr)).bind fun r2 =>
 ((g_t_isTime n r2.2.article.Kind).bind fun r4 =>
 cond r4
  (some true)
  (some false)).bind fun j3 =>
 ((g_t_isWhole n r2.2.article.Kind).bind fun r6 =>
 cond (!r6)
  (some true)
  (some false)).bind fun j5 =>
 (g_t_isTime n r2.2.article.Kind).bind fun r7 =>
 loopN (fun recl11 (l11_1, l11_2, l11_3, l11_4, l11_5, l11_6, l11_7, l11_8, l11_9, l11_10, l11_11, l11_12, l11_13, l11_14) => g_t_read_l11 n recl11 l11_1 l11_2 l11_3 l11_4 l11_5 l11_6 l11_7 l11_8 l11_9 l11_10 l11_11 l11_12 l11_13 l11_14) n (!r7, r2.2.article.Kind, r2.2.article.Days, r2.2.article.From, r2.2.article.To, r2.1, r2.2.article.Unit, r2.2.article.Free, r2.2.values, r2.2.good, j3, j3, j5, j5)
theorem g_t_read_ok (n : Nat) (a0n : GNode) : ∀ r, g_t_read n a0n = some r → PCall Tryz.prog 43 [ag (GNode.cs a0n)] (.ret (.tup [ag (GAr.cs r.1), B r.2])) := by
 refine pcall_sim (X := fun r : GAr × Bool => AEnd.ret (.tup [ag (GAr.cs r.1), B r.2])) Tryz.func43 rfl Tryz.ntmps43 rfl ?_
 unfold g_t_read
 refine sR tfm ⟨[1, 2], [1, 2], [], []⟩ ⟨[(1, .ptr 1 0), (2, .ptr 2 0)], [(1, .box 24 (bxc (GNode.cs a0n))), (2, .box 29 [I 0, I 0, I 0, I 0, I 0, I 0, I 0])]⟩ krf ?_
 refine sR tfm ⟨[1, 2, 4], [1, 2, 13], [], []⟩ ⟨[(1, .ptr 1 0), (2, .ptr 2 0), (4, .ptr 13 0)], [(1, .box 24 (bxc (GNode.cs a0n))), (2, .box 29 [I 0, I 0, I 0, I 0, I 0, I 0, I 0]), (13, .box 102 (bxc (GTr.cs ⟨(⟨0, 0, 0, 0, 0, 0, 0⟩ : GAr), a0n.Kids, true⟩)))]⟩ krf ?_
 refine sS ?_
 refine sG ?_
 refine xR 3 krf ?_
 refine xC [] krf (g_t_kindOf_ok n a0n.Name) krf krf (fun _ => by kernel_rfl) (fun r1 => ?_)
 refine xR 4 krf ?_
 refine xE ?_
 refine sN ⟨[2, 4], [2, 13], [], []⟩ ⟨[(2, .ptr 2 0), (4, .ptr 13 0)], [(2, .box 29 [I 0, I 0, I 0, I 0, I 0, I 0, I 0]), (13, .box 102 (bxc (GTr.cs ⟨(⟨r1, 7, 0, 1440, 0, 0, 0⟩ : GAr), a0n.Kids, true⟩)))]⟩ krf ?_
 refine sS ?_
 refine sG ?_
 refine xR 2 krf ?_
 refine xs_heap [(1000, 13)] [] [] krf (g_t_reader_number_ok n (⟨(⟨r1, 7, 0, 1440, 0, 0, 0⟩ : GAr), a0n.Kids, true⟩ : GTr)) krf krf krf (fun _ => by kernel_rfl) (fun _ => by kernel_rfl) (fun r2 => ?_)
 refine xR 4 krf ?_
 refine xE ?_
 refine sN ⟨[2, 4], [2, 13], [], []⟩ ⟨[(2, .ptr 2 0), (4, .ptr 13 0)], [(2, .box 29 [I 0, I 0, I 0, I 0, I 0, I 0, I 0]), (13, .box 102 (bxc (GTr.cs ⟨(⟨r2.2.article.Kind, r2.2.article.Days, r2.2.article.From, r2.2.article.To, r2.1, r2.2.article.Unit, r2.2.article.Free⟩ : GAr), r2.2.values, r2.2.good⟩)))]⟩ krf ?_
 refine sS ?_
 refine sG ?_
 refine xR 6 krf ?_
 refine xs_inline [(1000, .box 102 (bxc (GTr.cs ⟨(⟨r2.2.article.Kind, r2.2.article.Days, r2.2.article.From, r2.2.article.To, r2.1, r2.2.article.Unit, r2.2.article.Free⟩ : GAr), r2.2.values, r2.2.good⟩)))] [.ptr 1000 0, I r2.2.article.Kind] [(1000, 13), (2, 402), (6, 406)] [] [] krf Tryz.func68 rfl Tryz.ntmps68 rfl krf krf krf ?_
 refine sR tfm ⟨[1, 2], [2, 1000], [], []⟩ ⟨[(1, I r2.2.article.Kind), (2, .ptr 2 0)], [(2, .box 100 [.ptr 1000 0]), (1000, .box 102 (bxc (GTr.cs ⟨(⟨r2.2.article.Kind, r2.2.article.Days, r2.2.article.From, r2.2.article.To, r2.1, r2.2.article.Unit, r2.2.article.Free⟩ : GAr), r2.2.values, r2.2.good⟩)))]⟩ krf ?_
 refine sR tfm ⟨[1, 2, 5], [2, 6, 1000], [], []⟩ ⟨[(1, I r2.2.article.Kind), (2, .ptr 2 0), (5, .mv 6)], [(2, .box 100 [.ptr 1000 0]), (6, .mp []), (1000, .box 102 (bxc (GTr.cs ⟨(⟨r2.2.article.Kind, r2.2.article.Days, r2.2.article.From, r2.2.article.To, r2.1, r2.2.article.Unit, r2.2.article.Free⟩ : GAr), r2.2.values, r2.2.good⟩)))]⟩ krf ?_
 refine sim_bind (fun j3 => ⟨[(1, I r2.2.article.Kind), (2, .ptr 2 0), (5, .mv 6)], [(2, .box 100 [.ptr 1000 0]), (6, .mf [(j3, [112, 101, 114], .fn (.func 88) [] [.ptr 2 0]), (j3, [102, 114, 101, 101], .fn (.func 89) [] [.ptr 2 0])]), (1000, .box 102 (bxc (GTr.cs ⟨(⟨r2.2.article.Kind, r2.2.article.Days, r2.2.article.From, r2.2.article.To, r2.1, r2.2.article.Unit, r2.2.article.Free⟩ : GAr), r2.2.values, r2.2.good⟩)))]⟩ : Bool → St) ?_ ?_
 ·refine sS ?_
  refine sG ?_
  refine xR 1 krf ?_
  refine xC [] krf (g_t_isTime_ok n r2.2.article.Kind) krf krf (fun _ => by kernel_rfl) (fun r4 => ?_)
  refine xE ?_
  refine sN ⟨[1, 2, 5, 8], [2, 6, 1000], [], []⟩ ⟨[(1, I r2.2.article.Kind), (2, .ptr 2 0), (5, .mv 6), (8, B r4)], [(2, .box 100 [.ptr 1000 0]), (6, .mp []), (1000, .box 102 (bxc (GTr.cs ⟨(⟨r2.2.article.Kind, r2.2.article.Days, r2.2.article.From, r2.2.article.To, r2.1, r2.2.article.Unit, r2.2.article.Free⟩ : GAr), r2.2.values, r2.2.good⟩)))]⟩ krf ?_
  refine sC r4 krf ?_ ?_
  ·refine sR tfm ⟨[1, 2, 5], [2, 6, 1000], [], []⟩ ⟨[(1, I r2.2.article.Kind), (2, .ptr 2 0), (5, .mv 6)], [(2, .box 100 [.ptr 1000 0]), (6, .mf [(true, [112, 101, 114], .fn (.func 88) [] [.ptr 2 0])]), (1000, .box 102 (bxc (GTr.cs ⟨(⟨r2.2.article.Kind, r2.2.article.Days, r2.2.article.From, r2.2.article.To, r2.1, r2.2.article.Unit, r2.2.article.Free⟩ : GAr), r2.2.values, r2.2.good⟩)))]⟩ krf ?_
   refine sL tfm krf ?_
   exact nq_n true ⟨[1, 2, 5], [2, 6, 1000], [], []⟩ krf
  ·refine sK ?_
   exact nq_f false ⟨[1, 2, 5], [2, 6, 1000], [], []⟩ ⟨[(1, I r2.2.article.Kind), (2, .ptr 2 0), (5, .mv 6)], [(2, .box 100 [.ptr 1000 0]), (6, .mp []), (1000, .box 102 (bxc (GTr.cs ⟨(⟨r2.2.article.Kind, r2.2.article.Days, r2.2.article.From, r2.2.article.To, r2.1, r2.2.article.Unit, r2.2.article.Free⟩ : GAr), r2.2.values, r2.2.good⟩)))]⟩ krf (weak_mf 6 (es := []) [(false, [112, 101, 114], .fn (.func 88) [] [.ptr 2 0]), (false, [102, 114, 101, 101], .fn (.func 89) [] [.ptr 2 0])] krf krf) ⟨[1, 2, 5], [2, 6, 1000], [], []⟩ krf
 ·rintro j3
  refine sim_bind (fun j5 => ⟨[(5, .mv 6)], [(2, .box 100 [.ptr 1000 0]), (6, .mf [(j3, [112, 101, 114], .fn (.func 88) [] [.ptr 2 0]), (j3, [102, 114, 101, 101], .fn (.func 89) [] [.ptr 2 0]), (j5, [111, 110], .fn (.func 90) [] [.ptr 2 0]), (j5, [98, 101, 116, 119, 101, 101, 110], .fn (.func 92) [] [.ptr 2 0])]), (1000, .box 102 (bxc (GTr.cs ⟨(⟨r2.2.article.Kind, r2.2.article.Days, r2.2.article.From, r2.2.article.To, r2.1, r2.2.article.Unit, r2.2.article.Free⟩ : GAr), r2.2.values, r2.2.good⟩)))]⟩ : Bool → St) ?_ ?_
  ·refine sS ?_
   refine sG ?_
   refine xR 1 krf ?_
   refine xC [] krf (g_t_isWhole_ok n r2.2.article.Kind) krf krf (fun _ => by kernel_rfl) (fun r6 => ?_)
   refine xR 1 krf ?_
   refine xE ?_
   refine sN ⟨[2, 5, 15], [2, 6, 1000], [], []⟩ ⟨[(2, .ptr 2 0), (5, .mv 6), (15, B (!r6))], [(2, .box 100 [.ptr 1000 0]), (6, .mf [(j3, [112, 101, 114], .fn (.func 88) [] [.ptr 2 0]), (j3, [102, 114, 101, 101], .fn (.func 89) [] [.ptr 2 0])]), (1000, .box 102 (bxc (GTr.cs ⟨(⟨r2.2.article.Kind, r2.2.article.Days, r2.2.article.From, r2.2.article.To, r2.1, r2.2.article.Unit, r2.2.article.Free⟩ : GAr), r2.2.values, r2.2.good⟩)))]⟩ krf ?_
   refine sC (!r6) krf ?_ ?_
   ·refine sR tfm ⟨[2, 5], [2, 6, 1000], [], []⟩ ⟨[(2, .ptr 2 0), (5, .mv 6)], [(2, .box 100 [.ptr 1000 0]), (6, .mf [(j3, [112, 101, 114], .fn (.func 88) [] [.ptr 2 0]), (j3, [102, 114, 101, 101], .fn (.func 89) [] [.ptr 2 0]), (true, [111, 110], .fn (.func 90) [] [.ptr 2 0])]), (1000, .box 102 (bxc (GTr.cs ⟨(⟨r2.2.article.Kind, r2.2.article.Days, r2.2.article.From, r2.2.article.To, r2.1, r2.2.article.Unit, r2.2.article.Free⟩ : GAr), r2.2.values, r2.2.good⟩)))]⟩ krf ?_
    refine sL tfm krf ?_
    exact nq_n true ⟨[5], [2, 6, 1000], [], []⟩ krf
   ·refine sK ?_
    exact nq_f false ⟨[5], [2, 6, 1000], [], []⟩ ⟨[(5, .mv 6)], [(2, .box 100 [.ptr 1000 0]), (6, .mf [(j3, [112, 101, 114], .fn (.func 88) [] [.ptr 2 0]), (j3, [102, 114, 101, 101], .fn (.func 89) [] [.ptr 2 0])]), (1000, .box 102 (bxc (GTr.cs ⟨(⟨r2.2.article.Kind, r2.2.article.Days, r2.2.article.From, r2.2.article.To, r2.1, r2.2.article.Unit, r2.2.article.Free⟩ : GAr), r2.2.values, r2.2.good⟩)))]⟩ krf (weak_mf 6 (es := [(j3, [112, 101, 114], .fn (.func 88) [] [.ptr 2 0]), (j3, [102, 114, 101, 101], .fn (.func 89) [] [.ptr 2 0])]) [(j3, [112, 101, 114], .fn (.func 88) [] [.ptr 2 0]), (j3, [102, 114, 101, 101], .fn (.func 89) [] [.ptr 2 0]), (false, [111, 110], .fn (.func 90) [] [.ptr 2 0]), (false, [98, 101, 116, 119, 101, 101, 110], .fn (.func 92) [] [.ptr 2 0])] krf krf) ⟨[5], [2, 6, 1000], [], []⟩ krf
  ·rintro j5
   refine sR tfm ⟨[4], [2, 6, 1000], [], []⟩ ⟨[(4, .mv 6)], [(2, .box 100 [.ptr 1000 0]), (6, .mf [(j3, [112, 101, 114], .fn (.func 88) [] [.ptr 2 0]), (j3, [102, 114, 101, 101], .fn (.func 89) [] [.ptr 2 0]), (j5, [111, 110], .fn (.func 90) [] [.ptr 2 0]), (j5, [98, 101, 116, 119, 101, 101, 110], .fn (.func 92) [] [.ptr 2 0])]), (1000, .box 102 (bxc (GTr.cs ⟨(⟨r2.2.article.Kind, r2.2.article.Days, r2.2.article.From, r2.2.article.To, r2.1, r2.2.article.Unit, r2.2.article.Free⟩ : GAr), r2.2.values, r2.2.good⟩)))]⟩ krf ?_
   refine sT ?_
   refine iq_ret (.id) [2, 6, 1000] [] (.mv 6) krf krf ?_
   refine kr0 ?_
   refine xR 1 krf ?_
   refine xE ?_
   refine sN ⟨[2, 4, 5], [2, 13, 402, 406], [], []⟩ ⟨[(2, .ptr 2 0), (4, .ptr 13 0), (5, .mv 406)], [(2, .box 29 [I 0, I 0, I 0, I 0, I 0, I 0, I 0]), (13, .box 102 (bxc (GTr.cs ⟨(⟨r2.2.article.Kind, r2.2.article.Days, r2.2.article.From, r2.2.article.To, r2.1, r2.2.article.Unit, r2.2.article.Free⟩ : GAr), r2.2.values, r2.2.good⟩))), (402, .box 100 [.ptr 13 0]), (406, .mf [(j3, [112, 101, 114], .fn (.func 88) [] [.ptr 402 0]), (j3, [102, 114, 101, 101], .fn (.func 89) [] [.ptr 402 0]), (j5, [111, 110], .fn (.func 90) [] [.ptr 402 0]), (j5, [98, 101, 116, 119, 101, 101, 110], .fn (.func 92) [] [.ptr 402 0])])]⟩ krf ?_
   refine sS ?_
   refine sG ?_
   refine xR 5 krf ?_
   refine xC [] krf (g_t_isTime_ok n r2.2.article.Kind) krf krf (fun _ => by kernel_rfl) (fun r7 => ?_)
   refine xR 2 krf ?_
   refine xE ?_
   refine sN ⟨[2, 4, 5, 6], [2, 13, 402, 406], [], []⟩ ⟨[(2, .ptr 2 0), (4, .ptr 13 0), (5, .mv 406), (6, B (!r7))], [(2, .box 29 [I 0, I 0, I 0, I 0, I 0, I 0, I 0]), (13, .box 102 (bxc (GTr.cs ⟨(⟨r2.2.article.Kind, r2.2.article.Days, r2.2.article.From, r2.2.article.To, r2.1, r2.2.article.Unit, r2.2.article.Free⟩ : GAr), r2.2.values, r2.2.good⟩))), (402, .box 100 [.ptr 13 0]), (406, .mf [(j3, [112, 101, 114], .fn (.func 88) [] [.ptr 402 0]), (j3, [102, 114, 101, 101], .fn (.func 89) [] [.ptr 402 0]), (j5, [111, 110], .fn (.func 90) [] [.ptr 402 0]), (j5, [98, 101, 116, 119, 101, 101, 110], .fn (.func 92) [] [.ptr 402 0])])]⟩ krf ?_
   refine sim_cps (fun (j8_1, j8_2, j8_3, j8_4, j8_5, j8_6, j8_7, j8_8, j8_9, j8_10) => ⟨[(2, .ptr 2 0), (4, .ptr 13 0), (6, B j8_1)], [(2, .box 29 [I 0, I 0, I 0, I 0, I 0, I 0, I 0]), (13, .box 102 (bxc (GTr.cs ⟨(⟨j8_2, j8_3, j8_4, j8_5, j8_6, j8_7, j8_8⟩ : GAr), j8_9, j8_10⟩)))]⟩ : (Bool × Int × Int × Int × Int × Int × Int × Int × (List (List PV)) × Bool) → St) (fun (j8_1, j8_2, j8_3, j8_4, j8_5, j8_6, j8_7, j8_8, j8_9, j8_10) => g_t_read_j8 j8_1 j8_2 j8_3 j8_4 j8_5 j8_6 j8_7 j8_8 j8_9 j8_10) ?_ ?_
   ·rintro ⟨j8_1, j8_2, j8_3, j8_4, j8_5, j8_6, j8_7, j8_8, j8_9, j8_10⟩
    show SimE (g_t_read_j8 j8_1 j8_2 j8_3 j8_4 j8_5 j8_6 j8_7 j8_8 j8_9 j8_10) _ _ _ _ _ _
    unfold g_t_read_j8
    refine sS ?_
    refine sim_drw tfm rfl ?_
    refine xR 9 krf ?_
    refine xS j8_10 (fun h9 => ?_) (fun h9 => ?_)
    ·refine xO (want_tt krf h9) krf ?_
     refine xR 2 krf ?_
     refine xS j8_1 (fun h10 => ?_) (fun h10 => ?_)
     ·refine xO (want_tt krf h10) krf ?_
      refine xR 8 krf ?_
      refine xs_endD krf ?_
      refine sN ⟨[2, 3], [2], [], []⟩ ⟨[(2, .ptr 2 0), (3, B (!eqI j8_2 0))], [(2, .box 29 [I j8_2, I j8_3, I j8_4, I j8_5, I j8_6, I j8_7, I j8_8])]⟩ krf ?_
      refine sT ?_
      exact qR (.id) krf krf krf
     ·refine xN (want_tf krf h10) krf ?_
      refine xR 8 krf ?_
      refine xs_endD krf ?_
      refine sN ⟨[2, 3], [2], [], []⟩ ⟨[(2, .ptr 2 0), (3, B false)], [(2, .box 29 [I j8_2, I j8_3, I j8_4, I j8_5, I j8_6, I j8_7, I j8_8])]⟩ krf ?_
      refine sT ?_
      exact qR (.id) krf krf krf
    ·refine xN (want_tf krf h9) krf ?_
     refine xR 11 krf ?_
     refine xs_endD krf ?_
     refine sN ⟨[2, 3], [2], [], []⟩ ⟨[(2, .ptr 2 0), (3, B false)], [(2, .box 29 [I j8_2, I j8_3, I j8_4, I j8_5, I j8_6, I j8_7, I j8_8])]⟩ krf ?_
     refine sT ?_
     exact qR (.id) krf krf krf
   ·refine sB ?_
    refine sim_loop (fun (l11_1, l11_2, l11_3, l11_4, l11_5, l11_6, l11_7, l11_8, l11_9, l11_10, l11_11, l11_12, l11_13, l11_14) => ⟨[(2, .ptr 2 0), (4, .ptr 13 0), (5, .mv 406), (6, B l11_1)], [(2, .box 29 [I 0, I 0, I 0, I 0, I 0, I 0, I 0]), (13, .box 102 (bxc (GTr.cs ⟨(⟨l11_2, l11_3, l11_4, l11_5, l11_6, l11_7, l11_8⟩ : GAr), l11_9, l11_10⟩))), (402, .box 100 [.ptr 13 0]), (406, .mf [(l11_11, [112, 101, 114], .fn (.func 88) [] [.ptr 402 0]), (l11_12, [102, 114, 101, 101], .fn (.func 89) [] [.ptr 402 0]), (l11_13, [111, 110], .fn (.func 90) [] [.ptr 402 0]), (l11_14, [98, 101, 116, 119, 101, 101, 110], .fn (.func 92) [] [.ptr 402 0])])]⟩ : (Bool × Int × Int × Int × Int × Int × Int × Int × (List (List PV)) × Bool × Bool × Bool × Bool × Bool) → St) (weak_shr (K := ⟨[2, 4, 5, 6], [2, 13, 402, 406], [], []⟩) krf) ?_
    rintro recl11 ⟨l11_1, l11_2, l11_3, l11_4, l11_5, l11_6, l11_7, l11_8, l11_9, l11_10, l11_11, l11_12, l11_13, l11_14⟩
    show SimE (g_t_read_l11 n recl11 l11_1 l11_2 l11_3 l11_4 l11_5 l11_6 l11_7 l11_8 l11_9 l11_10 l11_11 l11_12 l11_13 l11_14) _ _ _ _ _ _
    unfold g_t_read_l11
    refine sS ?_
    refine sim_bind (fun j12 => ⟨[(2, .ptr 2 0), (4, .ptr 13 0), (5, .mv 406), (6, B l11_1), (52, B j12)], [(2, .box 29 [I 0, I 0, I 0, I 0, I 0, I 0, I 0]), (13, .box 102 (bxc (GTr.cs ⟨(⟨l11_2, l11_3, l11_4, l11_5, l11_6, l11_7, l11_8⟩ : GAr), l11_9, l11_10⟩))), (402, .box 100 [.ptr 13 0]), (406, .mf [(l11_11, [112, 101, 114], .fn (.func 88) [] [.ptr 402 0]), (l11_12, [102, 114, 101, 101], .fn (.func 89) [] [.ptr 402 0]), (l11_13, [111, 110], .fn (.func 90) [] [.ptr 402 0]), (l11_14, [98, 101, 116, 119, 101, 101, 110], .fn (.func 92) [] [.ptr 402 0])])]⟩ : Bool → St) ?_ ?_
    ·refine sG ?_
     refine xR 5 krf ?_
     refine xS l11_10 (fun h13 => ?_) (fun h13 => ?_)
     ·refine xO (want_tt krf h13) krf ?_
      refine xR 6 krf ?_
      refine xE ?_
      exact nq_n (ltI 0 (lenI (List.map idc l11_9))) ⟨[2, 4, 5, 6, 52], [2, 13, 402, 406], [], []⟩ krf
     ·refine xN (want_tf krf h13) krf ?_
      refine xR 6 krf ?_
      refine xE ?_
      exact nq_n false ⟨[2, 4, 5, 6, 52], [2, 13, 402, 406], [], []⟩ krf
    ·rintro j12
     refine sC j12 krf ?_ ?_
     ·refine sK ?_
      refine sN ⟨[2, 4, 5, 6], [2, 13, 402, 406], [], []⟩ ⟨[(2, .ptr 2 0), (4, .ptr 13 0), (5, .mv 406), (6, B l11_1)], [(2, .box 29 [I 0, I 0, I 0, I 0, I 0, I 0, I 0]), (13, .box 102 (bxc (GTr.cs ⟨(⟨l11_2, l11_3, l11_4, l11_5, l11_6, l11_7, l11_8⟩ : GAr), l11_9, l11_10⟩))), (402, .box 100 [.ptr 13 0]), (406, .mf [(l11_11, [112, 101, 114], .fn (.func 88) [] [.ptr 402 0]), (l11_12, [102, 114, 101, 101], .fn (.func 89) [] [.ptr 402 0]), (l11_13, [111, 110], .fn (.func 90) [] [.ptr 402 0]), (l11_14, [98, 101, 116, 119, 101, 101, 110], .fn (.func 92) [] [.ptr 402 0])])]⟩ krf ?_
      refine sB ?_
      refine sS ?_
      refine sG ?_
      refine xR 1 krf ?_
      refine xs_ro [.ro []] krf (g_t_reader_word_ok n (⟨(⟨l11_2, l11_3, l11_4, l11_5, l11_6, l11_7, l11_8⟩ : GAr), l11_9, l11_10⟩ : GTr)) krf krf (fun _ => by kernel_rfl) (fun r14 => ?_)
      refine xR 1 krf ?_
      refine xE ?_
      refine sN ⟨[2, 4, 5, 6, 7], [2, 13, 402, 406], [], []⟩ ⟨[(2, .ptr 2 0), (4, .ptr 13 0), (5, .mv 406), (6, B l11_1), (7, S r14)], [(2, .box 29 [I 0, I 0, I 0, I 0, I 0, I 0, I 0]), (13, .box 102 (bxc (GTr.cs ⟨(⟨l11_2, l11_3, l11_4, l11_5, l11_6, l11_7, l11_8⟩ : GAr), l11_9, l11_10⟩))), (402, .box 100 [.ptr 13 0]), (406, .mf [(l11_11, [112, 101, 114], .fn (.func 88) [] [.ptr 402 0]), (l11_12, [102, 114, 101, 101], .fn (.func 89) [] [.ptr 402 0]), (l11_13, [111, 110], .fn (.func 90) [] [.ptr 402 0]), (l11_14, [98, 101, 116, 119, 101, 101, 110], .fn (.func 92) [] [.ptr 402 0])])]⟩ krf ?_
      refine sS ?_
      refine sG ?_
      refine xR 2 krf ?_
      refine xS (eqS r14 [112, 101, 114] && l11_11) (fun h16 => ?_) (fun h16 => ?_)
      ·refine xs_u krf krf (aop_mfT (kt := 9) (e := 1) (b := 406) (w := r14) (ok := true) (es := [(l11_11, [112, 101, 114], .fn (.func 88) [] [.ptr 402 0]), (l11_12, [102, 114, 101, 101], .fn (.func 89) [] [.ptr 402 0]), (l11_13, [111, 110], .fn (.func 90) [] [.ptr 402 0]), (l11_14, [98, 101, 116, 119, 101, 101, 110], .fn (.func 92) [] [.ptr 402 0])]) (v := .fn (.func 88) [] [.ptr 402 0]) rfl krf krf krf krf krf (findF_t h16)) ?_
       refine xR 5 krf ?_
       refine xE ?_
       refine sN ⟨[2, 4, 5, 6, 7, 8, 9], [2, 13, 402, 406], [], []⟩ ⟨[(2, .ptr 2 0), (4, .ptr 13 0), (5, .mv 406), (6, B l11_1), (7, S r14), (8, .fn (.func 88) [] [.ptr 402 0]), (9, B true)], [(2, .box 29 [I 0, I 0, I 0, I 0, I 0, I 0, I 0]), (13, .box 102 (bxc (GTr.cs ⟨(⟨l11_2, l11_3, l11_4, l11_5, l11_6, l11_7, l11_8⟩ : GAr), l11_9, l11_10⟩))), (402, .box 100 [.ptr 13 0]), (406, .mf [(l11_11, [112, 101, 114], .fn (.func 88) [] [.ptr 402 0]), (l11_12, [102, 114, 101, 101], .fn (.func 89) [] [.ptr 402 0]), (l11_13, [111, 110], .fn (.func 90) [] [.ptr 402 0]), (l11_14, [98, 101, 116, 119, 101, 101, 110], .fn (.func 92) [] [.ptr 402 0])])]⟩ krf ?_
       refine sS ?_
       refine sR tfm ⟨[2, 4, 5, 6, 7, 8, 62], [2, 13, 402, 406], [], []⟩ ⟨[(2, .ptr 2 0), (4, .ptr 13 0), (5, .mv 406), (6, B l11_1), (7, S r14), (8, .fn (.func 88) [] [.ptr 402 0]), (62, B false)], [(2, .box 29 [I 0, I 0, I 0, I 0, I 0, I 0, I 0]), (13, .box 102 (bxc (GTr.cs ⟨(⟨l11_2, l11_3, l11_4, l11_5, l11_6, l11_7, l11_8⟩ : GAr), l11_9, l11_10⟩))), (402, .box 100 [.ptr 13 0]), (406, .mf [(l11_11, [112, 101, 114], .fn (.func 88) [] [.ptr 402 0]), (l11_12, [102, 114, 101, 101], .fn (.func 89) [] [.ptr 402 0]), (l11_13, [111, 110], .fn (.func 90) [] [.ptr 402 0]), (l11_14, [98, 101, 116, 119, 101, 101, 110], .fn (.func 92) [] [.ptr 402 0])])]⟩ krf ?_
       refine sim_condF krf ?_
       refine sK ?_
       refine sN ⟨[2, 4, 5, 6, 7, 8], [2, 13, 402, 406], [], []⟩ ⟨[(2, .ptr 2 0), (4, .ptr 13 0), (5, .mv 406), (6, B l11_1), (7, S r14), (8, .fn (.func 88) [] [.ptr 402 0])], [(2, .box 29 [I 0, I 0, I 0, I 0, I 0, I 0, I 0]), (13, .box 102 (bxc (GTr.cs ⟨(⟨l11_2, l11_3, l11_4, l11_5, l11_6, l11_7, l11_8⟩ : GAr), l11_9, l11_10⟩))), (402, .box 100 [.ptr 13 0]), (406, .mf [(l11_11, [112, 101, 114], .fn (.func 88) [] [.ptr 402 0]), (l11_12, [102, 114, 101, 101], .fn (.func 89) [] [.ptr 402 0]), (l11_13, [111, 110], .fn (.func 90) [] [.ptr 402 0]), (l11_14, [98, 101, 116, 119, 101, 101, 110], .fn (.func 92) [] [.ptr 402 0])])]⟩ krf ?_
       refine sR tfm ⟨[2, 4, 5, 6, 7, 8], [2, 13, 402, 406], [], []⟩ ⟨[(2, .ptr 2 0), (4, .ptr 13 0), (5, .mv 406), (6, B l11_1), (7, S r14), (8, .fn (.func 88) [] [.ptr 402 0])], [(2, .box 29 [I 0, I 0, I 0, I 0, I 0, I 0, I 0]), (13, .box 102 (bxc (GTr.cs ⟨(⟨l11_2, l11_3, l11_4, l11_5, l11_6, l11_7, l11_8⟩ : GAr), l11_9, l11_10⟩))), (402, .box 100 [.ptr 13 0]), (406, .mf [(!eqS r14 [112, 101, 114] && l11_11, [112, 101, 114], .fn (.func 88) [] [.ptr 402 0]), (!eqS r14 [102, 114, 101, 101] && l11_12, [102, 114, 101, 101], .fn (.func 89) [] [.ptr 402 0]), (!eqS r14 [111, 110] && l11_13, [111, 110], .fn (.func 90) [] [.ptr 402 0]), (!eqS r14 [98, 101, 116, 119, 101, 101, 110] && l11_14, [98, 101, 116, 119, 101, 101, 110], .fn (.func 92) [] [.ptr 402 0])])]⟩ krf ?_
       refine sim_bind (fun j17 => ⟨[(2, .ptr 2 0), (4, .ptr 13 0), (5, .mv 406), (6, B j17), (8, .fn (.func 88) [] [.ptr 402 0])], [(2, .box 29 [I 0, I 0, I 0, I 0, I 0, I 0, I 0]), (13, .box 102 (bxc (GTr.cs ⟨(⟨l11_2, l11_3, l11_4, l11_5, l11_6, l11_7, l11_8⟩ : GAr), l11_9, l11_10⟩))), (402, .box 100 [.ptr 13 0]), (406, .mf [(!eqS r14 [112, 101, 114] && l11_11, [112, 101, 114], .fn (.func 88) [] [.ptr 402 0]), (!eqS r14 [102, 114, 101, 101] && l11_12, [102, 114, 101, 101], .fn (.func 89) [] [.ptr 402 0]), (!eqS r14 [111, 110] && l11_13, [111, 110], .fn (.func 90) [] [.ptr 402 0]), (!eqS r14 [98, 101, 116, 119, 101, 101, 110] && l11_14, [98, 101, 116, 119, 101, 101, 110], .fn (.func 92) [] [.ptr 402 0])])]⟩ : Bool → St) ?_ ?_
       ·refine sG ?_
        refine xR 2 krf ?_
        refine xS l11_1 (fun h18 => ?_) (fun h18 => ?_)
        ·refine xN (want_ft krf h18) krf ?_
         refine xR 3 krf ?_
         refine xE ?_
         exact nq_n true ⟨[2, 4, 5, 6, 8], [2, 13, 402, 406], [], []⟩ krf
        ·refine xO (want_ff krf h18) krf ?_
         refine xR 3 krf ?_
         refine xE ?_
         exact nq_n (eqS r14 [112, 101, 114]) ⟨[2, 4, 5, 6, 8], [2, 13, 402, 406], [], []⟩ krf
       ·rintro j17
        refine sS ?_
        refine sim_drw tfm rfl ?_
        refine xR 15 krf ?_
        refine xF krf krf (aop_slice3 (e := 24) (S := 5) (enc := idc) (l := l11_9) (sv := .p (.sl 5 (List.map idc l11_9))) (a := 1) (b := lenI (List.map idc l11_9)) (c := lenI (List.map idc l11_9)) rfl krf krf krf krf krf krf krf) ?_
        refine xR 3 krf ?_
        refine xs_endD krf ?_
        refine sN ⟨[2, 4, 5, 6, 8], [2, 13, 402, 406], [], []⟩ ⟨[(2, .ptr 2 0), (4, .ptr 13 0), (5, .mv 406), (6, B j17), (8, .fn (.func 88) [] [.ptr 402 0])], [(2, .box 29 [I 0, I 0, I 0, I 0, I 0, I 0, I 0]), (13, .box 102 (bxc (GTr.cs ⟨(⟨l11_2, l11_3, l11_4, l11_5, l11_6, l11_7, l11_8⟩ : GAr), List.drop (Int.toNat 1) (List.take (Int.toNat (lenI (List.map idc l11_9))) l11_9), l11_10⟩))), (402, .box 100 [.ptr 13 0]), (406, .mf [(!eqS r14 [112, 101, 114] && l11_11, [112, 101, 114], .fn (.func 88) [] [.ptr 402 0]), (!eqS r14 [102, 114, 101, 101] && l11_12, [102, 114, 101, 101], .fn (.func 89) [] [.ptr 402 0]), (!eqS r14 [111, 110] && l11_13, [111, 110], .fn (.func 90) [] [.ptr 402 0]), (!eqS r14 [98, 101, 116, 119, 101, 101, 110] && l11_14, [98, 101, 116, 119, 101, 101, 110], .fn (.func 92) [] [.ptr 402 0])])]⟩ krf ?_
        refine sG ?_
        refine xR 1 krf ?_
        refine xs_inline [(1000, .box 102 (bxc (GTr.cs ⟨(⟨l11_2, l11_3, l11_4, l11_5, l11_6, l11_7, l11_8⟩ : GAr), List.drop (Int.toNat 1) (List.take (Int.toNat (lenI (List.map idc l11_9))) l11_9), l11_10⟩))), (1001, .box 100 [.ptr 1000 0])] [.ptr 1001 0] [(1000, 13), (1001, 402)] [] [] krf Tryz.func88 rfl Tryz.ntmps88 rfl krf krf krf ?_
        refine sim_hst [0, 1] [0] [(2, []), (3, []), (4, []), (5, []), (6, [])] tfm rfl krf krf ?_
        refine h_enter (f := 67) (args := [.ptr 1000 0]) (dst := some 3) krf krf ?_
        refine sc_heap [(1000, 1000)] [] [] (g_t_reader_number_ok n (⟨(⟨l11_2, l11_3, l11_4, l11_5, l11_6, l11_7, l11_8⟩ : GAr), List.drop (Int.toNat 1) (List.take (Int.toNat (lenI (List.map idc l11_9))) l11_9), l11_10⟩ : GTr)) krf krf krf (fun _ => by kernel_rfl) (fun _ => by kernel_rfl) (fun r19 => ?_)
        refine kh [0] krf (lates_cons (late_read (.ptr 1000 0) krf rfl) (lates_nil)) krf ?_
        refine h_op [] krf krf (lates_nil) ?_
        refine h_op [] krf krf (lates_nil) ?_
        refine h_op [] krf krf (lates_nil) ?_
        refine h_op [] krf krf (lates_nil) ?_
        refine h_end ?_
        refine iq_n (.id) [1000, 1001] [] (.tup []) krf krf ?_
        refine kr0 ?_
        refine xE ?_
        refine bq_n ?_
        exact kq_n (j17, r19.2.article.Kind, r19.2.article.Days, r19.2.article.From, r19.2.article.To, r19.2.article.Price, r19.1, r19.2.article.Free, r19.2.values, r19.2.good, !eqS r14 [112, 101, 114] && l11_11, !eqS r14 [102, 114, 101, 101] && l11_12, !eqS r14 [111, 110] && l11_13, !eqS r14 [98, 101, 116, 119, 101, 101, 110] && l11_14) ⟨[2, 4, 5, 6], [2, 13, 402, 406], [], []⟩ krf
      ·refine xS (eqS r14 [102, 114, 101, 101] && l11_12) (fun h20 => ?_) (fun h20 => ?_)
       ·refine xs_u krf krf (aop_mfT (kt := 9) (e := 1) (b := 406) (w := r14) (ok := true) (es := [(l11_11, [112, 101, 114], .fn (.func 88) [] [.ptr 402 0]), (l11_12, [102, 114, 101, 101], .fn (.func 89) [] [.ptr 402 0]), (l11_13, [111, 110], .fn (.func 90) [] [.ptr 402 0]), (l11_14, [98, 101, 116, 119, 101, 101, 110], .fn (.func 92) [] [.ptr 402 0])]) (v := .fn (.func 89) [] [.ptr 402 0]) rfl krf krf krf krf krf (findF_f h16 (findF_t h20))) ?_
        refine xR 5 krf ?_
        refine xE ?_
        refine sN ⟨[2, 4, 5, 6, 7, 8, 9], [2, 13, 402, 406], [], []⟩ ⟨[(2, .ptr 2 0), (4, .ptr 13 0), (5, .mv 406), (6, B l11_1), (7, S r14), (8, .fn (.func 89) [] [.ptr 402 0]), (9, B true)], [(2, .box 29 [I 0, I 0, I 0, I 0, I 0, I 0, I 0]), (13, .box 102 (bxc (GTr.cs ⟨(⟨l11_2, l11_3, l11_4, l11_5, l11_6, l11_7, l11_8⟩ : GAr), l11_9, l11_10⟩))), (402, .box 100 [.ptr 13 0]), (406, .mf [(l11_11, [112, 101, 114], .fn (.func 88) [] [.ptr 402 0]), (l11_12, [102, 114, 101, 101], .fn (.func 89) [] [.ptr 402 0]), (l11_13, [111, 110], .fn (.func 90) [] [.ptr 402 0]), (l11_14, [98, 101, 116, 119, 101, 101, 110], .fn (.func 92) [] [.ptr 402 0])])]⟩ krf ?_
        refine sS ?_
        refine sR tfm ⟨[2, 4, 5, 6, 7, 8, 62], [2, 13, 402, 406], [], []⟩ ⟨[(2, .ptr 2 0), (4, .ptr 13 0), (5, .mv 406), (6, B l11_1), (7, S r14), (8, .fn (.func 89) [] [.ptr 402 0]), (62, B false)], [(2, .box 29 [I 0, I 0, I 0, I 0, I 0, I 0, I 0]), (13, .box 102 (bxc (GTr.cs ⟨(⟨l11_2, l11_3, l11_4, l11_5, l11_6, l11_7, l11_8⟩ : GAr), l11_9, l11_10⟩))), (402, .box 100 [.ptr 13 0]), (406, .mf [(l11_11, [112, 101, 114], .fn (.func 88) [] [.ptr 402 0]), (l11_12, [102, 114, 101, 101], .fn (.func 89) [] [.ptr 402 0]), (l11_13, [111, 110], .fn (.func 90) [] [.ptr 402 0]), (l11_14, [98, 101, 116, 119, 101, 101, 110], .fn (.func 92) [] [.ptr 402 0])])]⟩ krf ?_
        refine sim_condF krf ?_
        refine sK ?_
        refine sN ⟨[2, 4, 5, 6, 7, 8], [2, 13, 402, 406], [], []⟩ ⟨[(2, .ptr 2 0), (4, .ptr 13 0), (5, .mv 406), (6, B l11_1), (7, S r14), (8, .fn (.func 89) [] [.ptr 402 0])], [(2, .box 29 [I 0, I 0, I 0, I 0, I 0, I 0, I 0]), (13, .box 102 (bxc (GTr.cs ⟨(⟨l11_2, l11_3, l11_4, l11_5, l11_6, l11_7, l11_8⟩ : GAr), l11_9, l11_10⟩))), (402, .box 100 [.ptr 13 0]), (406, .mf [(l11_11, [112, 101, 114], .fn (.func 88) [] [.ptr 402 0]), (l11_12, [102, 114, 101, 101], .fn (.func 89) [] [.ptr 402 0]), (l11_13, [111, 110], .fn (.func 90) [] [.ptr 402 0]), (l11_14, [98, 101, 116, 119, 101, 101, 110], .fn (.func 92) [] [.ptr 402 0])])]⟩ krf ?_
        refine sR tfm ⟨[2, 4, 5, 6, 7, 8], [2, 13, 402, 406], [], []⟩ ⟨[(2, .ptr 2 0), (4, .ptr 13 0), (5, .mv 406), (6, B l11_1), (7, S r14), (8, .fn (.func 89) [] [.ptr 402 0])], [(2, .box 29 [I 0, I 0, I 0, I 0, I 0, I 0, I 0]), (13, .box 102 (bxc (GTr.cs ⟨(⟨l11_2, l11_3, l11_4, l11_5, l11_6, l11_7, l11_8⟩ : GAr), l11_9, l11_10⟩))), (402, .box 100 [.ptr 13 0]), (406, .mf [(!eqS r14 [112, 101, 114] && l11_11, [112, 101, 114], .fn (.func 88) [] [.ptr 402 0]), (!eqS r14 [102, 114, 101, 101] && l11_12, [102, 114, 101, 101], .fn (.func 89) [] [.ptr 402 0]), (!eqS r14 [111, 110] && l11_13, [111, 110], .fn (.func 90) [] [.ptr 402 0]), (!eqS r14 [98, 101, 116, 119, 101, 101, 110] && l11_14, [98, 101, 116, 119, 101, 101, 110], .fn (.func 92) [] [.ptr 402 0])])]⟩ krf ?_
        refine sim_bind (fun j21 => ⟨[(2, .ptr 2 0), (4, .ptr 13 0), (5, .mv 406), (6, B j21), (8, .fn (.func 89) [] [.ptr 402 0])], [(2, .box 29 [I 0, I 0, I 0, I 0, I 0, I 0, I 0]), (13, .box 102 (bxc (GTr.cs ⟨(⟨l11_2, l11_3, l11_4, l11_5, l11_6, l11_7, l11_8⟩ : GAr), l11_9, l11_10⟩))), (402, .box 100 [.ptr 13 0]), (406, .mf [(!eqS r14 [112, 101, 114] && l11_11, [112, 101, 114], .fn (.func 88) [] [.ptr 402 0]), (!eqS r14 [102, 114, 101, 101] && l11_12, [102, 114, 101, 101], .fn (.func 89) [] [.ptr 402 0]), (!eqS r14 [111, 110] && l11_13, [111, 110], .fn (.func 90) [] [.ptr 402 0]), (!eqS r14 [98, 101, 116, 119, 101, 101, 110] && l11_14, [98, 101, 116, 119, 101, 101, 110], .fn (.func 92) [] [.ptr 402 0])])]⟩ : Bool → St) ?_ ?_
        ·refine sG ?_
         refine xR 2 krf ?_
         refine xS l11_1 (fun h22 => ?_) (fun h22 => ?_)
         ·refine xN (want_ft krf h22) krf ?_
          refine xR 3 krf ?_
          refine xE ?_
          exact nq_n true ⟨[2, 4, 5, 6, 8], [2, 13, 402, 406], [], []⟩ krf
         ·refine xO (want_ff krf h22) krf ?_
          refine xR 3 krf ?_
          refine xE ?_
          exact nq_n (eqS r14 [112, 101, 114]) ⟨[2, 4, 5, 6, 8], [2, 13, 402, 406], [], []⟩ krf
        ·rintro j21
         refine sS ?_
         refine sim_drw tfm rfl ?_
         refine xR 15 krf ?_
         refine xF krf krf (aop_slice3 (e := 24) (S := 5) (enc := idc) (l := l11_9) (sv := .p (.sl 5 (List.map idc l11_9))) (a := 1) (b := lenI (List.map idc l11_9)) (c := lenI (List.map idc l11_9)) rfl krf krf krf krf krf krf krf) ?_
         refine xR 3 krf ?_
         refine xs_endD krf ?_
         refine sN ⟨[2, 4, 5, 6, 8], [2, 13, 402, 406], [], []⟩ ⟨[(2, .ptr 2 0), (4, .ptr 13 0), (5, .mv 406), (6, B j21), (8, .fn (.func 89) [] [.ptr 402 0])], [(2, .box 29 [I 0, I 0, I 0, I 0, I 0, I 0, I 0]), (13, .box 102 (bxc (GTr.cs ⟨(⟨l11_2, l11_3, l11_4, l11_5, l11_6, l11_7, l11_8⟩ : GAr), List.drop (Int.toNat 1) (List.take (Int.toNat (lenI (List.map idc l11_9))) l11_9), l11_10⟩))), (402, .box 100 [.ptr 13 0]), (406, .mf [(!eqS r14 [112, 101, 114] && l11_11, [112, 101, 114], .fn (.func 88) [] [.ptr 402 0]), (!eqS r14 [102, 114, 101, 101] && l11_12, [102, 114, 101, 101], .fn (.func 89) [] [.ptr 402 0]), (!eqS r14 [111, 110] && l11_13, [111, 110], .fn (.func 90) [] [.ptr 402 0]), (!eqS r14 [98, 101, 116, 119, 101, 101, 110] && l11_14, [98, 101, 116, 119, 101, 101, 110], .fn (.func 92) [] [.ptr 402 0])])]⟩ krf ?_
         refine sG ?_
         refine xR 1 krf ?_
         refine xs_inline [(1000, .box 102 (bxc (GTr.cs ⟨(⟨l11_2, l11_3, l11_4, l11_5, l11_6, l11_7, l11_8⟩ : GAr), List.drop (Int.toNat 1) (List.take (Int.toNat (lenI (List.map idc l11_9))) l11_9), l11_10⟩))), (1001, .box 100 [.ptr 1000 0])] [.ptr 1001 0] [(1000, 13), (1001, 402)] [] [] krf Tryz.func89 rfl Tryz.ntmps89 rfl krf krf krf ?_
         refine sim_hst [0, 1] [0] [(2, []), (3, []), (4, []), (5, []), (6, [])] tfm rfl krf krf ?_
         refine h_enter (f := 67) (args := [.ptr 1000 0]) (dst := some 3) krf krf ?_
         refine sc_heap [(1000, 1000)] [] [] (g_t_reader_number_ok n (⟨(⟨l11_2, l11_3, l11_4, l11_5, l11_6, l11_7, l11_8⟩ : GAr), List.drop (Int.toNat 1) (List.take (Int.toNat (lenI (List.map idc l11_9))) l11_9), l11_10⟩ : GTr)) krf krf krf (fun _ => by kernel_rfl) (fun _ => by kernel_rfl) (fun r23 => ?_)
         refine kh [0] krf (lates_cons (late_read (.ptr 1000 0) krf rfl) (lates_nil)) krf ?_
         refine h_op [] krf krf (lates_nil) ?_
         refine h_op [] krf krf (lates_nil) ?_
         refine h_op [] krf krf (lates_nil) ?_
         refine h_op [] krf krf (lates_nil) ?_
         refine h_end ?_
         refine iq_n (.id) [1000, 1001] [] (.tup []) krf krf ?_
         refine kr0 ?_
         refine xE ?_
         refine bq_n ?_
         exact kq_n (j21, r23.2.article.Kind, r23.2.article.Days, r23.2.article.From, r23.2.article.To, r23.2.article.Price, r23.2.article.Unit, r23.1, r23.2.values, r23.2.good, !eqS r14 [112, 101, 114] && l11_11, !eqS r14 [102, 114, 101, 101] && l11_12, !eqS r14 [111, 110] && l11_13, !eqS r14 [98, 101, 116, 119, 101, 101, 110] && l11_14) ⟨[2, 4, 5, 6], [2, 13, 402, 406], [], []⟩ krf
       ·refine xS (eqS r14 [111, 110] && l11_13) (fun h24 => ?_) (fun h24 => ?_)
        ·refine xs_u krf krf (aop_mfT (kt := 9) (e := 1) (b := 406) (w := r14) (ok := true) (es := [(l11_11, [112, 101, 114], .fn (.func 88) [] [.ptr 402 0]), (l11_12, [102, 114, 101, 101], .fn (.func 89) [] [.ptr 402 0]), (l11_13, [111, 110], .fn (.func 90) [] [.ptr 402 0]), (l11_14, [98, 101, 116, 119, 101, 101, 110], .fn (.func 92) [] [.ptr 402 0])]) (v := .fn (.func 90) [] [.ptr 402 0]) rfl krf krf krf krf krf (findF_f h16 (findF_f h20 (findF_t h24)))) ?_
         refine xR 5 krf ?_
         refine xE ?_
         refine sN ⟨[2, 4, 5, 6, 7, 8, 9], [2, 13, 402, 406], [], []⟩ ⟨[(2, .ptr 2 0), (4, .ptr 13 0), (5, .mv 406), (6, B l11_1), (7, S r14), (8, .fn (.func 90) [] [.ptr 402 0]), (9, B true)], [(2, .box 29 [I 0, I 0, I 0, I 0, I 0, I 0, I 0]), (13, .box 102 (bxc (GTr.cs ⟨(⟨l11_2, l11_3, l11_4, l11_5, l11_6, l11_7, l11_8⟩ : GAr), l11_9, l11_10⟩))), (402, .box 100 [.ptr 13 0]), (406, .mf [(l11_11, [112, 101, 114], .fn (.func 88) [] [.ptr 402 0]), (l11_12, [102, 114, 101, 101], .fn (.func 89) [] [.ptr 402 0]), (l11_13, [111, 110], .fn (.func 90) [] [.ptr 402 0]), (l11_14, [98, 101, 116, 119, 101, 101, 110], .fn (.func 92) [] [.ptr 402 0])])]⟩ krf ?_
         refine sS ?_
         refine sR tfm ⟨[2, 4, 5, 6, 7, 8, 62], [2, 13, 402, 406], [], []⟩ ⟨[(2, .ptr 2 0), (4, .ptr 13 0), (5, .mv 406), (6, B l11_1), (7, S r14), (8, .fn (.func 90) [] [.ptr 402 0]), (62, B false)], [(2, .box 29 [I 0, I 0, I 0, I 0, I 0, I 0, I 0]), (13, .box 102 (bxc (GTr.cs ⟨(⟨l11_2, l11_3, l11_4, l11_5, l11_6, l11_7, l11_8⟩ : GAr), l11_9, l11_10⟩))), (402, .box 100 [.ptr 13 0]), (406, .mf [(l11_11, [112, 101, 114], .fn (.func 88) [] [.ptr 402 0]), (l11_12, [102, 114, 101, 101], .fn (.func 89) [] [.ptr 402 0]), (l11_13, [111, 110], .fn (.func 90) [] [.ptr 402 0]), (l11_14, [98, 101, 116, 119, 101, 101, 110], .fn (.func 92) [] [.ptr 402 0])])]⟩ krf ?_
         refine sim_condF krf ?_
         refine sK ?_
         refine sN ⟨[2, 4, 5, 6, 7, 8], [2, 13, 402, 406], [], []⟩ ⟨[(2, .ptr 2 0), (4, .ptr 13 0), (5, .mv 406), (6, B l11_1), (7, S r14), (8, .fn (.func 90) [] [.ptr 402 0])], [(2, .box 29 [I 0, I 0, I 0, I 0, I 0, I 0, I 0]), (13, .box 102 (bxc (GTr.cs ⟨(⟨l11_2, l11_3, l11_4, l11_5, l11_6, l11_7, l11_8⟩ : GAr), l11_9, l11_10⟩))), (402, .box 100 [.ptr 13 0]), (406, .mf [(l11_11, [112, 101, 114], .fn (.func 88) [] [.ptr 402 0]), (l11_12, [102, 114, 101, 101], .fn (.func 89) [] [.ptr 402 0]), (l11_13, [111, 110], .fn (.func 90) [] [.ptr 402 0]), (l11_14, [98, 101, 116, 119, 101, 101, 110], .fn (.func 92) [] [.ptr 402 0])])]⟩ krf ?_
         refine sR tfm ⟨[2, 4, 5, 6, 7, 8], [2, 13, 402, 406], [], []⟩ ⟨[(2, .ptr 2 0), (4, .ptr 13 0), (5, .mv 406), (6, B l11_1), (7, S r14), (8, .fn (.func 90) [] [.ptr 402 0])], [(2, .box 29 [I 0, I 0, I 0, I 0, I 0, I 0, I 0]), (13, .box 102 (bxc (GTr.cs ⟨(⟨l11_2, l11_3, l11_4, l11_5, l11_6, l11_7, l11_8⟩ : GAr), l11_9, l11_10⟩))), (402, .box 100 [.ptr 13 0]), (406, .mf [(!eqS r14 [112, 101, 114] && l11_11, [112, 101, 114], .fn (.func 88) [] [.ptr 402 0]), (!eqS r14 [102, 114, 101, 101] && l11_12, [102, 114, 101, 101], .fn (.func 89) [] [.ptr 402 0]), (!eqS r14 [111, 110] && l11_13, [111, 110], .fn (.func 90) [] [.ptr 402 0]), (!eqS r14 [98, 101, 116, 119, 101, 101, 110] && l11_14, [98, 101, 116, 119, 101, 101, 110], .fn (.func 92) [] [.ptr 402 0])])]⟩ krf ?_
         refine sim_bind (fun j25 => ⟨[(2, .ptr 2 0), (4, .ptr 13 0), (5, .mv 406), (6, B j25), (8, .fn (.func 90) [] [.ptr 402 0])], [(2, .box 29 [I 0, I 0, I 0, I 0, I 0, I 0, I 0]), (13, .box 102 (bxc (GTr.cs ⟨(⟨l11_2, l11_3, l11_4, l11_5, l11_6, l11_7, l11_8⟩ : GAr), l11_9, l11_10⟩))), (402, .box 100 [.ptr 13 0]), (406, .mf [(!eqS r14 [112, 101, 114] && l11_11, [112, 101, 114], .fn (.func 88) [] [.ptr 402 0]), (!eqS r14 [102, 114, 101, 101] && l11_12, [102, 114, 101, 101], .fn (.func 89) [] [.ptr 402 0]), (!eqS r14 [111, 110] && l11_13, [111, 110], .fn (.func 90) [] [.ptr 402 0]), (!eqS r14 [98, 101, 116, 119, 101, 101, 110] && l11_14, [98, 101, 116, 119, 101, 101, 110], .fn (.func 92) [] [.ptr 402 0])])]⟩ : Bool → St) ?_ ?_
         ·refine sG ?_
          refine xR 2 krf ?_
          refine xS l11_1 (fun h26 => ?_) (fun h26 => ?_)
          ·refine xN (want_ft krf h26) krf ?_
           refine xR 3 krf ?_
           refine xE ?_
           exact nq_n true ⟨[2, 4, 5, 6, 8], [2, 13, 402, 406], [], []⟩ krf
          ·refine xO (want_ff krf h26) krf ?_
           refine xR 3 krf ?_
           refine xE ?_
           exact nq_n (eqS r14 [112, 101, 114]) ⟨[2, 4, 5, 6, 8], [2, 13, 402, 406], [], []⟩ krf
         ·rintro j25
          refine sS ?_
          refine sim_drw tfm rfl ?_
          refine xR 15 krf ?_
          refine xF krf krf (aop_slice3 (e := 24) (S := 5) (enc := idc) (l := l11_9) (sv := .p (.sl 5 (List.map idc l11_9))) (a := 1) (b := lenI (List.map idc l11_9)) (c := lenI (List.map idc l11_9)) rfl krf krf krf krf krf krf krf) ?_
          refine xR 3 krf ?_
          refine xs_endD krf ?_
          refine sN ⟨[2, 4, 5, 6, 8], [2, 13, 402, 406], [], []⟩ ⟨[(2, .ptr 2 0), (4, .ptr 13 0), (5, .mv 406), (6, B j25), (8, .fn (.func 90) [] [.ptr 402 0])], [(2, .box 29 [I 0, I 0, I 0, I 0, I 0, I 0, I 0]), (13, .box 102 (bxc (GTr.cs ⟨(⟨l11_2, l11_3, l11_4, l11_5, l11_6, l11_7, l11_8⟩ : GAr), List.drop (Int.toNat 1) (List.take (Int.toNat (lenI (List.map idc l11_9))) l11_9), l11_10⟩))), (402, .box 100 [.ptr 13 0]), (406, .mf [(!eqS r14 [112, 101, 114] && l11_11, [112, 101, 114], .fn (.func 88) [] [.ptr 402 0]), (!eqS r14 [102, 114, 101, 101] && l11_12, [102, 114, 101, 101], .fn (.func 89) [] [.ptr 402 0]), (!eqS r14 [111, 110] && l11_13, [111, 110], .fn (.func 90) [] [.ptr 402 0]), (!eqS r14 [98, 101, 116, 119, 101, 101, 110] && l11_14, [98, 101, 116, 119, 101, 101, 110], .fn (.func 92) [] [.ptr 402 0])])]⟩ krf ?_
          refine sG ?_
          refine xR 1 krf ?_
          refine xs_inline [(1000, .box 102 (bxc (GTr.cs ⟨(⟨l11_2, l11_3, l11_4, l11_5, l11_6, l11_7, l11_8⟩ : GAr), List.drop (Int.toNat 1) (List.take (Int.toNat (lenI (List.map idc l11_9))) l11_9), l11_10⟩))), (1001, .box 100 [.ptr 1000 0])] [.ptr 1001 0] [(1000, 13), (1001, 402)] [] [] krf Tryz.func90 rfl Tryz.ntmps90 rfl krf krf krf ?_
          refine sim_hst [0, 1] [0] [(2, []), (3, []), (4, []), (5, []), (6, [])] tfm rfl krf krf ?_
          refine h_enter (f := 91) (args := [.ptr 1000 0]) (dst := some 3) krf krf ?_
          refine sc_heap [(1000, 1000)] [] [] (g_t_reader_days_ok n (⟨(⟨l11_2, l11_3, l11_4, l11_5, l11_6, l11_7, l11_8⟩ : GAr), List.drop (Int.toNat 1) (List.take (Int.toNat (lenI (List.map idc l11_9))) l11_9), l11_10⟩ : GTr)) krf krf krf (fun _ => by kernel_rfl) (fun _ => by kernel_rfl) (fun r27 => ?_)
          refine kh [0] krf (lates_cons (late_read (.ptr 1000 0) krf rfl) (lates_nil)) krf ?_
          refine h_op [] krf krf (lates_nil) ?_
          refine h_op [] krf krf (lates_nil) ?_
          refine h_op [] krf krf (lates_nil) ?_
          refine h_op [] krf krf (lates_nil) ?_
          refine h_end ?_
          refine iq_n (.id) [1000, 1001] [] (.tup []) krf krf ?_
          refine kr0 ?_
          refine xE ?_
          refine bq_n ?_
          exact kq_n (j25, r27.2.article.Kind, r27.1, r27.2.article.From, r27.2.article.To, r27.2.article.Price, r27.2.article.Unit, r27.2.article.Free, r27.2.values, r27.2.good, !eqS r14 [112, 101, 114] && l11_11, !eqS r14 [102, 114, 101, 101] && l11_12, !eqS r14 [111, 110] && l11_13, !eqS r14 [98, 101, 116, 119, 101, 101, 110] && l11_14) ⟨[2, 4, 5, 6], [2, 13, 402, 406], [], []⟩ krf
        ·refine xS (eqS r14 [98, 101, 116, 119, 101, 101, 110] && l11_14) (fun h28 => ?_) (fun h28 => ?_)
         ·refine xs_u krf krf (aop_mfT (kt := 9) (e := 1) (b := 406) (w := r14) (ok := true) (es := [(l11_11, [112, 101, 114], .fn (.func 88) [] [.ptr 402 0]), (l11_12, [102, 114, 101, 101], .fn (.func 89) [] [.ptr 402 0]), (l11_13, [111, 110], .fn (.func 90) [] [.ptr 402 0]), (l11_14, [98, 101, 116, 119, 101, 101, 110], .fn (.func 92) [] [.ptr 402 0])]) (v := .fn (.func 92) [] [.ptr 402 0]) rfl krf krf krf krf krf (findF_f h16 (findF_f h20 (findF_f h24 (findF_t h28))))) ?_
          refine xR 5 krf ?_
          refine xE ?_
          refine sN ⟨[2, 4, 5, 6, 7, 8, 9], [2, 13, 402, 406], [], []⟩ ⟨[(2, .ptr 2 0), (4, .ptr 13 0), (5, .mv 406), (6, B l11_1), (7, S r14), (8, .fn (.func 92) [] [.ptr 402 0]), (9, B true)], [(2, .box 29 [I 0, I 0, I 0, I 0, I 0, I 0, I 0]), (13, .box 102 (bxc (GTr.cs ⟨(⟨l11_2, l11_3, l11_4, l11_5, l11_6, l11_7, l11_8⟩ : GAr), l11_9, l11_10⟩))), (402, .box 100 [.ptr 13 0]), (406, .mf [(l11_11, [112, 101, 114], .fn (.func 88) [] [.ptr 402 0]), (l11_12, [102, 114, 101, 101], .fn (.func 89) [] [.ptr 402 0]), (l11_13, [111, 110], .fn (.func 90) [] [.ptr 402 0]), (l11_14, [98, 101, 116, 119, 101, 101, 110], .fn (.func 92) [] [.ptr 402 0])])]⟩ krf ?_
          refine sS ?_
          refine sR tfm ⟨[2, 4, 5, 6, 7, 8, 62], [2, 13, 402, 406], [], []⟩ ⟨[(2, .ptr 2 0), (4, .ptr 13 0), (5, .mv 406), (6, B l11_1), (7, S r14), (8, .fn (.func 92) [] [.ptr 402 0]), (62, B false)], [(2, .box 29 [I 0, I 0, I 0, I 0, I 0, I 0, I 0]), (13, .box 102 (bxc (GTr.cs ⟨(⟨l11_2, l11_3, l11_4, l11_5, l11_6, l11_7, l11_8⟩ : GAr), l11_9, l11_10⟩))), (402, .box 100 [.ptr 13 0]), (406, .mf [(l11_11, [112, 101, 114], .fn (.func 88) [] [.ptr 402 0]), (l11_12, [102, 114, 101, 101], .fn (.func 89) [] [.ptr 402 0]), (l11_13, [111, 110], .fn (.func 90) [] [.ptr 402 0]), (l11_14, [98, 101, 116, 119, 101, 101, 110], .fn (.func 92) [] [.ptr 402 0])])]⟩ krf ?_
          refine sim_condF krf ?_
          refine sK ?_
          refine sN ⟨[2, 4, 5, 6, 7, 8], [2, 13, 402, 406], [], []⟩ ⟨[(2, .ptr 2 0), (4, .ptr 13 0), (5, .mv 406), (6, B l11_1), (7, S r14), (8, .fn (.func 92) [] [.ptr 402 0])], [(2, .box 29 [I 0, I 0, I 0, I 0, I 0, I 0, I 0]), (13, .box 102 (bxc (GTr.cs ⟨(⟨l11_2, l11_3, l11_4, l11_5, l11_6, l11_7, l11_8⟩ : GAr), l11_9, l11_10⟩))), (402, .box 100 [.ptr 13 0]), (406, .mf [(l11_11, [112, 101, 114], .fn (.func 88) [] [.ptr 402 0]), (l11_12, [102, 114, 101, 101], .fn (.func 89) [] [.ptr 402 0]), (l11_13, [111, 110], .fn (.func 90) [] [.ptr 402 0]), (l11_14, [98, 101, 116, 119, 101, 101, 110], .fn (.func 92) [] [.ptr 402 0])])]⟩ krf ?_
          refine sR tfm ⟨[2, 4, 5, 6, 7, 8], [2, 13, 402, 406], [], []⟩ ⟨[(2, .ptr 2 0), (4, .ptr 13 0), (5, .mv 406), (6, B l11_1), (7, S r14), (8, .fn (.func 92) [] [.ptr 402 0])], [(2, .box 29 [I 0, I 0, I 0, I 0, I 0, I 0, I 0]), (13, .box 102 (bxc (GTr.cs ⟨(⟨l11_2, l11_3, l11_4, l11_5, l11_6, l11_7, l11_8⟩ : GAr), l11_9, l11_10⟩))), (402, .box 100 [.ptr 13 0]), (406, .mf [(!eqS r14 [112, 101, 114] && l11_11, [112, 101, 114], .fn (.func 88) [] [.ptr 402 0]), (!eqS r14 [102, 114, 101, 101] && l11_12, [102, 114, 101, 101], .fn (.func 89) [] [.ptr 402 0]), (!eqS r14 [111, 110] && l11_13, [111, 110], .fn (.func 90) [] [.ptr 402 0]), (!eqS r14 [98, 101, 116, 119, 101, 101, 110] && l11_14, [98, 101, 116, 119, 101, 101, 110], .fn (.func 92) [] [.ptr 402 0])])]⟩ krf ?_
          refine sim_bind (fun j29 => ⟨[(2, .ptr 2 0), (4, .ptr 13 0), (5, .mv 406), (6, B j29), (8, .fn (.func 92) [] [.ptr 402 0])], [(2, .box 29 [I 0, I 0, I 0, I 0, I 0, I 0, I 0]), (13, .box 102 (bxc (GTr.cs ⟨(⟨l11_2, l11_3, l11_4, l11_5, l11_6, l11_7, l11_8⟩ : GAr), l11_9, l11_10⟩))), (402, .box 100 [.ptr 13 0]), (406, .mf [(!eqS r14 [112, 101, 114] && l11_11, [112, 101, 114], .fn (.func 88) [] [.ptr 402 0]), (!eqS r14 [102, 114, 101, 101] && l11_12, [102, 114, 101, 101], .fn (.func 89) [] [.ptr 402 0]), (!eqS r14 [111, 110] && l11_13, [111, 110], .fn (.func 90) [] [.ptr 402 0]), (!eqS r14 [98, 101, 116, 119, 101, 101, 110] && l11_14, [98, 101, 116, 119, 101, 101, 110], .fn (.func 92) [] [.ptr 402 0])])]⟩ : Bool → St) ?_ ?_
          ·refine sG ?_
           refine xR 2 krf ?_
           refine xS l11_1 (fun h30 => ?_) (fun h30 => ?_)
           ·refine xN (want_ft krf h30) krf ?_
            refine xR 3 krf ?_
            refine xE ?_
            exact nq_n true ⟨[2, 4, 5, 6, 8], [2, 13, 402, 406], [], []⟩ krf
           ·refine xO (want_ff krf h30) krf ?_
            refine xR 3 krf ?_
            refine xE ?_
            exact nq_n (eqS r14 [112, 101, 114]) ⟨[2, 4, 5, 6, 8], [2, 13, 402, 406], [], []⟩ krf
          ·rintro j29
           refine sS ?_
           refine sim_drw tfm rfl ?_
           refine xR 15 krf ?_
           refine xF krf krf (aop_slice3 (e := 24) (S := 5) (enc := idc) (l := l11_9) (sv := .p (.sl 5 (List.map idc l11_9))) (a := 1) (b := lenI (List.map idc l11_9)) (c := lenI (List.map idc l11_9)) rfl krf krf krf krf krf krf krf) ?_
           refine xR 3 krf ?_
           refine xs_endD krf ?_
           refine sN ⟨[2, 4, 5, 6, 8], [2, 13, 402, 406], [], []⟩ ⟨[(2, .ptr 2 0), (4, .ptr 13 0), (5, .mv 406), (6, B j29), (8, .fn (.func 92) [] [.ptr 402 0])], [(2, .box 29 [I 0, I 0, I 0, I 0, I 0, I 0, I 0]), (13, .box 102 (bxc (GTr.cs ⟨(⟨l11_2, l11_3, l11_4, l11_5, l11_6, l11_7, l11_8⟩ : GAr), List.drop (Int.toNat 1) (List.take (Int.toNat (lenI (List.map idc l11_9))) l11_9), l11_10⟩))), (402, .box 100 [.ptr 13 0]), (406, .mf [(!eqS r14 [112, 101, 114] && l11_11, [112, 101, 114], .fn (.func 88) [] [.ptr 402 0]), (!eqS r14 [102, 114, 101, 101] && l11_12, [102, 114, 101, 101], .fn (.func 89) [] [.ptr 402 0]), (!eqS r14 [111, 110] && l11_13, [111, 110], .fn (.func 90) [] [.ptr 402 0]), (!eqS r14 [98, 101, 116, 119, 101, 101, 110] && l11_14, [98, 101, 116, 119, 101, 101, 110], .fn (.func 92) [] [.ptr 402 0])])]⟩ krf ?_
           refine sG ?_
           refine xR 1 krf ?_
           refine xs_inline [(1000, .box 102 (bxc (GTr.cs ⟨(⟨l11_2, l11_3, l11_4, l11_5, l11_6, l11_7, l11_8⟩ : GAr), List.drop (Int.toNat 1) (List.take (Int.toNat (lenI (List.map idc l11_9))) l11_9), l11_10⟩))), (1001, .box 100 [.ptr 1000 0])] [.ptr 1001 0] [(1000, 13), (1001, 402)] [] [] krf Tryz.func92 rfl Tryz.ntmps92 rfl krf krf krf ?_
           refine sS ?_
           refine sim_hst [0, 1] [0] [(2, []), (3, []), (4, []), (5, []), (6, [])] tfm rfl krf krf ?_
           refine h_enter (f := 67) (args := [.ptr 1000 0]) (dst := some 3) krf krf ?_
           refine sc_heap [(1000, 1000)] [] [] (g_t_reader_number_ok n (⟨(⟨l11_2, l11_3, l11_4, l11_5, l11_6, l11_7, l11_8⟩ : GAr), List.drop (Int.toNat 1) (List.take (Int.toNat (lenI (List.map idc l11_9))) l11_9), l11_10⟩ : GTr)) krf krf krf (fun _ => by kernel_rfl) (fun _ => by kernel_rfl) (fun r31 => ?_)
           refine kh [0] krf (lates_cons (late_read (.ptr 1000 0) krf rfl) (lates_nil)) krf ?_
           refine h_op [] krf krf (lates_nil) ?_
           refine h_op [] krf krf (lates_nil) ?_
           refine h_op [] krf krf (lates_nil) ?_
           refine h_op [] krf krf (lates_nil) ?_
           refine h_end ?_
           refine sN ⟨[0], [1000, 1001], [], []⟩ ⟨[(0, .ptr 1001 0)], [(1000, .box 102 (bxc (GTr.cs ⟨(⟨r31.2.article.Kind, r31.2.article.Days, r31.1, r31.2.article.To, r31.2.article.Price, r31.2.article.Unit, r31.2.article.Free⟩ : GAr), r31.2.values, r31.2.good⟩))), (1001, .box 100 [.ptr 1000 0])]⟩ krf ?_
           refine sim_hst [0, 1] [0] [(2, []), (3, []), (4, []), (5, []), (6, [])] tfm rfl krf krf ?_
           refine h_enter (f := 67) (args := [.ptr 1000 0]) (dst := some 9) krf krf ?_
           refine sc_heap [(1000, 1000)] [] [] (g_t_reader_number_ok n (⟨(⟨r31.2.article.Kind, r31.2.article.Days, r31.1, r31.2.article.To, r31.2.article.Price, r31.2.article.Unit, r31.2.article.Free⟩ : GAr), r31.2.values, r31.2.good⟩ : GTr)) krf krf krf (fun _ => by kernel_rfl) (fun _ => by kernel_rfl) (fun r32 => ?_)
           refine kh [0] krf (lates_cons (late_read (.ptr 1000 0) krf rfl) (lates_nil)) krf ?_
           refine h_op [] krf krf (lates_nil) ?_
           refine h_op [] krf krf (lates_nil) ?_
           refine h_op [] krf krf (lates_nil) ?_
           refine h_op [] krf krf (lates_nil) ?_
           refine h_end ?_
           refine iq_n (.id) [1000, 1001] [] (.tup []) krf krf ?_
           refine kr0 ?_
           refine xE ?_
           refine bq_n ?_
           exact kq_n (j29, r32.2.article.Kind, r32.2.article.Days, r32.2.article.From, r32.1, r32.2.article.Price, r32.2.article.Unit, r32.2.article.Free, r32.2.values, r32.2.good, !eqS r14 [112, 101, 114] && l11_11, !eqS r14 [102, 114, 101, 101] && l11_12, !eqS r14 [111, 110] && l11_13, !eqS r14 [98, 101, 116, 119, 101, 101, 110] && l11_14) ⟨[2, 4, 5, 6], [2, 13, 402, 406], [], []⟩ krf
         ·refine xs_u krf krf (aop_mfN (kt := 9) (e := 1) (b := 406) (w := r14) (ok := true) (es := [(l11_11, [112, 101, 114], .fn (.func 88) [] [.ptr 402 0]), (l11_12, [102, 114, 101, 101], .fn (.func 89) [] [.ptr 402 0]), (l11_13, [111, 110], .fn (.func 90) [] [.ptr 402 0]), (l11_14, [98, 101, 116, 119, 101, 101, 110], .fn (.func 92) [] [.ptr 402 0])]) (z := .nilFunc) rfl krf krf krf krf krf krf (findF_f h16 (findF_f h20 (findF_f h24 (findF_f h28 (findF_n)))))) ?_
          refine xR 5 krf ?_
          refine xE ?_
          refine sN ⟨[2, 4, 5, 6, 7, 8, 9], [2, 13, 402, 406], [], []⟩ ⟨[(2, .ptr 2 0), (4, .ptr 13 0), (5, .mv 406), (6, B l11_1), (7, S r14), (8, .p (.val (.nilFunc))), (9, B false)], [(2, .box 29 [I 0, I 0, I 0, I 0, I 0, I 0, I 0]), (13, .box 102 (bxc (GTr.cs ⟨(⟨l11_2, l11_3, l11_4, l11_5, l11_6, l11_7, l11_8⟩ : GAr), l11_9, l11_10⟩))), (402, .box 100 [.ptr 13 0]), (406, .mf [(l11_11, [112, 101, 114], .fn (.func 88) [] [.ptr 402 0]), (l11_12, [102, 114, 101, 101], .fn (.func 89) [] [.ptr 402 0]), (l11_13, [111, 110], .fn (.func 90) [] [.ptr 402 0]), (l11_14, [98, 101, 116, 119, 101, 101, 110], .fn (.func 92) [] [.ptr 402 0])])]⟩ krf ?_
          refine sS ?_
          refine sR tfm ⟨[2, 4, 5, 6, 7, 8, 62], [2, 13, 402, 406], [], []⟩ ⟨[(2, .ptr 2 0), (4, .ptr 13 0), (5, .mv 406), (6, B l11_1), (7, S r14), (8, .p (.val (.nilFunc))), (62, B true)], [(2, .box 29 [I 0, I 0, I 0, I 0, I 0, I 0, I 0]), (13, .box 102 (bxc (GTr.cs ⟨(⟨l11_2, l11_3, l11_4, l11_5, l11_6, l11_7, l11_8⟩ : GAr), l11_9, l11_10⟩))), (402, .box 100 [.ptr 13 0]), (406, .mf [(l11_11, [112, 101, 114], .fn (.func 88) [] [.ptr 402 0]), (l11_12, [102, 114, 101, 101], .fn (.func 89) [] [.ptr 402 0]), (l11_13, [111, 110], .fn (.func 90) [] [.ptr 402 0]), (l11_14, [98, 101, 116, 119, 101, 101, 110], .fn (.func 92) [] [.ptr 402 0])])]⟩ krf ?_
          refine sim_condT krf ?_
          refine sR tfm ⟨[2, 3], [2], [], []⟩ ⟨[(2, .ptr 2 0), (3, B false)], [(2, .box 29 [I 0, I 0, I 0, I 0, I 0, I 0, I 0])]⟩ krf ?_
          refine sT ?_
          refine sq_r ?_
          refine bq_r ?_
          refine kq_r ?_
          refine bq_r ?_
          refine kq_r ?_
          exact qR (.id) krf krf krf
     ·refine sim_exit ?_
      refine sq_x ?_
      refine kq_x ?_
      refine bq_hit ?_
      exact kq_n (k := fun (j8_1, j8_2, j8_3, j8_4, j8_5, j8_6, j8_7, j8_8, j8_9, j8_10) => g_t_read_j8 j8_1 j8_2 j8_3 j8_4 j8_5 j8_6 j8_7 j8_8 j8_9 j8_10) (l11_1, l11_2, l11_3, l11_4, l11_5, l11_6, l11_7, l11_8, l11_9, l11_10) ⟨[2, 4, 6], [2, 13], [], []⟩ krf
def g_t_inside (n : Nat) (a0n : Int) (a1least : Int) (a2greatest : Int) : Option Bool :=
 cond (leI a1least a0n)
  (some (leI a0n a2greatest))
  (some false)
theorem g_t_inside_ok (n : Nat) (a0n : Int) (a1least : Int) (a2greatest : Int) : ∀ r, g_t_inside n a0n a1least a2greatest = some r → PCall Tryz.prog 46 [I a0n, I a1least, I a2greatest] (.ret (B r)) := by
 refine pcall_sim (X := fun r : Bool => AEnd.ret (B r)) Tryz.func46 rfl Tryz.ntmps46 rfl ?_
 unfold g_t_inside
 refine sR tfm ⟨[0, 1, 2], [], [], []⟩ ⟨[(0, I a0n), (1, I a1least), (2, I a2greatest)], []⟩ krf ?_
 refine sS ?_
 refine sG ?_
 refine xR 4 krf ?_
 refine xS (leI a1least a0n) (fun h1 => ?_) (fun h1 => ?_)
 ·refine xO (want_tt krf h1) krf ?_
  refine xR 4 krf ?_
  refine xE ?_
  refine sN ⟨[6], [], [], []⟩ ⟨[(6, B (leI a0n a2greatest))], []⟩ krf ?_
  refine sT ?_
  exact qR (.id) krf krf krf
 ·refine xN (want_tf krf h1) krf ?_
  refine xR 4 krf ?_
  refine xE ?_
  refine sN ⟨[6], [], [], []⟩ ⟨[(6, B false)], []⟩ krf ?_
  refine sT ?_
  exact qR (.id) krf krf krf
def g_t_validArticle (n : Nat) (a0a : GAr) : Option Bool :=
 ((g_t_inside n a0a.Kind 1 6).bind fun r2 =>
 cond (!r2)
  (some true)
  ((g_t_inside n a0a.From 0 1439).bind fun r4 =>
  cond (!r4)
   (some true)
   ((g_t_inside n a0a.To (wi (a0a.From + 1)) 1440).bind fun r6 =>
   cond (!r6)
    (some true)
    ((g_t_inside n a0a.Days 1 7).bind fun r8 =>
    some (!r8))))).bind fun j1 =>
 cond j1
  (some false)
  (((g_t_isWhole n a0a.Kind).bind fun r10 =>
  cond r10
   (cond (!eqI a0a.From 0)
    (some true)
    (cond (!eqI a0a.To 1440)
     (some true)
     (some (!eqI a0a.Days 7))))
   (some false)).bind fun j9 =>
  cond j9
   (some false)
   ((cond (eqI a0a.Kind 6)
    (some 10000)
    (some 1000000)).bind fun j14 =>
   (g_t_inside n a0a.Price 0 j14).bind fun r15 =>
   cond (!r15)
    (some false)
    ((g_t_isTime n a0a.Kind).bind fun r16 =>
    cond r16
     (((g_t_inside n a0a.Unit 1 1440).bind fun r18 =>
     cond r18
      ((g_t_inside n a0a.Free 0 1440).bind fun r20 =>
      some r20)
      (some false)).bind fun j17 =>
     some j17)
     (cond (eqI a0a.Unit 0)
      (some (eqI a0a.Free 0))
      (some false)))))
theorem g_t_validArticle_ok (n : Nat) (a0a : GAr) : ∀ r, g_t_validArticle n a0a = some r → PCall Tryz.prog 33 [ag (GAr.cs a0a)] (.ret (B r)) := by
 refine pcall_sim (X := fun r : Bool => AEnd.ret (B r)) Tryz.func33 rfl Tryz.ntmps33 rfl ?_
 unfold g_t_validArticle
 refine sR tfm ⟨[1], [1], [], []⟩ ⟨[(1, .ptr 1 0)], [(1, .box 29 (bxc (GAr.cs a0a)))]⟩ krf ?_
 refine sS ?_
 refine sim_bind (fun j1 => ⟨[(1, .ptr 1 0), (28, B j1)], [(1, .box 29 (bxc (GAr.cs a0a)))]⟩ : Bool → St) ?_ ?_
 ·refine sG ?_
  refine xR 2 krf ?_
  refine xC [] krf (g_t_inside_ok n a0a.Kind 1 6) krf krf (fun _ => by kernel_rfl) (fun r2 => ?_)
  refine xR 2 krf ?_
  refine xS (!r2) (fun h3 => ?_) (fun h3 => ?_)
  ·refine xN (want_ft krf h3) krf ?_
   refine xR 19 krf ?_
   refine xE ?_
   exact nq_n true ⟨[1, 28], [1], [], []⟩ krf
  ·refine xO (want_ff krf h3) krf ?_
   refine xR 1 krf ?_
   refine xC [] krf (g_t_inside_ok n a0a.From 0 1439) krf krf (fun _ => by kernel_rfl) (fun r4 => ?_)
   refine xR 3 krf ?_
   refine xS (!r4) (fun h5 => ?_) (fun h5 => ?_)
   ·refine xN (want_ft krf h5) krf ?_
    refine xR 13 krf ?_
    refine xE ?_
    exact nq_n true ⟨[1, 28], [1], [], []⟩ krf
   ·refine xO (want_ff krf h5) krf ?_
    refine xR 4 krf ?_
    refine xC [] krf (g_t_inside_ok n a0a.To (wi (a0a.From + 1)) 1440) krf krf (fun _ => by kernel_rfl) (fun r6 => ?_)
    refine xR 3 krf ?_
    refine xS (!r6) (fun h7 => ?_) (fun h7 => ?_)
    ·refine xN (want_ft krf h7) krf ?_
     refine xR 4 krf ?_
     refine xE ?_
     exact nq_n true ⟨[1, 28], [1], [], []⟩ krf
    ·refine xO (want_ff krf h7) krf ?_
     refine xR 1 krf ?_
     refine xC [] krf (g_t_inside_ok n a0a.Days 1 7) krf krf (fun _ => by kernel_rfl) (fun r8 => ?_)
     refine xR 2 krf ?_
     refine xE ?_
     exact nq_n (!r8) ⟨[1, 28], [1], [], []⟩ krf
 ·rintro j1
  refine sC j1 krf ?_ ?_
  ·refine sR tfm ⟨[2], [], [], []⟩ ⟨[(2, B false)], []⟩ krf ?_
   refine sT ?_
   refine sq_r ?_
   exact qR (.id) krf krf krf
  ·refine sK ?_
   refine sN ⟨[1], [1], [], []⟩ ⟨[(1, .ptr 1 0)], [(1, .box 29 (bxc (GAr.cs a0a)))]⟩ krf ?_
   refine sS ?_
   refine sim_bind (fun j9 => ⟨[(1, .ptr 1 0), (46, B j9)], [(1, .box 29 (bxc (GAr.cs a0a)))]⟩ : Bool → St) ?_ ?_
   ·refine sG ?_
    refine xR 2 krf ?_
    refine xC [] krf (g_t_isWhole_ok n a0a.Kind) krf krf (fun _ => by kernel_rfl) (fun r10 => ?_)
    refine xR 1 krf ?_
    refine xS r10 (fun h11 => ?_) (fun h11 => ?_)
    ·refine xO (want_tt krf h11) krf ?_
     refine xR 3 krf ?_
     refine xS (!eqI a0a.From 0) (fun h12 => ?_) (fun h12 => ?_)
     ·refine xN (want_ft krf h12) krf ?_
      refine xR 9 krf ?_
      refine xE ?_
      exact nq_n true ⟨[1, 46], [1], [], []⟩ krf
     ·refine xO (want_ff krf h12) krf ?_
      refine xR 4 krf ?_
      refine xS (!eqI a0a.To 1440) (fun h13 => ?_) (fun h13 => ?_)
      ·refine xN (want_ft krf h13) krf ?_
       refine xR 4 krf ?_
       refine xE ?_
       exact nq_n true ⟨[1, 46], [1], [], []⟩ krf
      ·refine xO (want_ff krf h13) krf ?_
       refine xR 4 krf ?_
       refine xE ?_
       exact nq_n (!eqI a0a.Days 7) ⟨[1, 46], [1], [], []⟩ krf
    ·refine xN (want_tf krf h11) krf ?_
     refine xR 13 krf ?_
     refine xE ?_
     exact nq_n false ⟨[1, 46], [1], [], []⟩ krf
   ·rintro j9
    refine sC j9 krf ?_ ?_
    ·refine sR tfm ⟨[2], [], [], []⟩ ⟨[(2, B false)], []⟩ krf ?_
     refine sT ?_
     refine sq_r ?_
     exact qR (.id) krf krf krf
    ·refine sK ?_
     refine sN ⟨[1], [1], [], []⟩ ⟨[(1, .ptr 1 0)], [(1, .box 29 (bxc (GAr.cs a0a)))]⟩ krf ?_
     refine sR tfm ⟨[1, 3], [1], [], []⟩ ⟨[(1, .ptr 1 0), (3, I 1000000)], [(1, .box 29 (bxc (GAr.cs a0a)))]⟩ krf ?_
     refine sim_bind (fun j14 => ⟨[(1, .ptr 1 0), (3, I j14)], [(1, .box 29 (bxc (GAr.cs a0a)))]⟩ : Int → St) ?_ ?_
     ·refine sR tfm ⟨[1, 3, 49], [1], [], []⟩ ⟨[(1, .ptr 1 0), (3, I 1000000), (49, B (eqI a0a.Kind 6))], [(1, .box 29 (bxc (GAr.cs a0a)))]⟩ krf ?_
      refine sC (eqI a0a.Kind 6) krf ?_ ?_
      ·refine sL tfm krf ?_
       exact nq_n 10000 ⟨[1, 3], [1], [], []⟩ krf
      ·refine sK ?_
       exact nq_n 1000000 ⟨[1, 3], [1], [], []⟩ krf
     ·rintro j14
      refine sS ?_
      refine sS ?_
      refine sG ?_
      refine xR 3 krf ?_
      refine xC [] krf (g_t_inside_ok n a0a.Price 0 j14) krf krf (fun _ => by kernel_rfl) (fun r15 => ?_)
      refine xR 1 krf ?_
      refine xE ?_
      refine sN ⟨[1, 54], [1], [], []⟩ ⟨[(1, .ptr 1 0), (54, B (!r15))], [(1, .box 29 (bxc (GAr.cs a0a)))]⟩ krf ?_
      refine sC (!r15) krf ?_ ?_
      ·refine sR tfm ⟨[2], [], [], []⟩ ⟨[(2, B false)], []⟩ krf ?_
       refine sT ?_
       refine sq_r ?_
       exact qR (.id) krf krf krf
      ·refine sK ?_
       refine sN ⟨[1], [1], [], []⟩ ⟨[(1, .ptr 1 0)], [(1, .box 29 (bxc (GAr.cs a0a)))]⟩ krf ?_
       refine sS ?_
       refine sS ?_
       refine sG ?_
       refine xR 2 krf ?_
       refine xC [] krf (g_t_isTime_ok n a0a.Kind) krf krf (fun _ => by kernel_rfl) (fun r16 => ?_)
       refine xE ?_
       refine sN ⟨[1, 57], [1], [], []⟩ ⟨[(1, .ptr 1 0), (57, B r16)], [(1, .box 29 (bxc (GAr.cs a0a)))]⟩ krf ?_
       refine sC r16 krf ?_ ?_
       ·refine sim_bind (fun j17 => ⟨[(2, B j17)], []⟩ : Bool → St) ?_ ?_
        ·refine sG ?_
         refine xR 2 krf ?_
         refine xC [] krf (g_t_inside_ok n a0a.Unit 1 1440) krf krf (fun _ => by kernel_rfl) (fun r18 => ?_)
         refine xR 1 krf ?_
         refine xS r18 (fun h19 => ?_) (fun h19 => ?_)
         ·refine xO (want_tt krf h19) krf ?_
          refine xR 1 krf ?_
          refine xC [] krf (g_t_inside_ok n a0a.Free 0 1440) krf krf (fun _ => by kernel_rfl) (fun r20 => ?_)
          refine xR 2 krf ?_
          refine xE ?_
          exact nq_n r20 ⟨[2], [], [], []⟩ krf
         ·refine xN (want_tf krf h19) krf ?_
          refine xR 4 krf ?_
          refine xE ?_
          exact nq_n false ⟨[2], [], [], []⟩ krf
        ·rintro j17
         refine sT ?_
         refine sq_r ?_
         exact qR (.id) krf krf krf
       ·refine sK ?_
        refine sN ⟨[1], [1], [], []⟩ ⟨[(1, .ptr 1 0)], [(1, .box 29 (bxc (GAr.cs a0a)))]⟩ krf ?_
        refine sS ?_
        refine sG ?_
        refine xR 4 krf ?_
        refine xS (eqI a0a.Unit 0) (fun h21 => ?_) (fun h21 => ?_)
        ·refine xO (want_tt krf h21) krf ?_
         refine xR 4 krf ?_
         refine xE ?_
         refine sN ⟨[2], [], [], []⟩ ⟨[(2, B (eqI a0a.Free 0))], []⟩ krf ?_
         refine sT ?_
         exact qR (.id) krf krf krf
        ·refine xN (want_tf krf h21) krf ?_
         refine xR 4 krf ?_
         refine xE ?_
         refine sN ⟨[2], [], [], []⟩ ⟨[(2, B false)], []⟩ krf ?_
         refine sT ?_
         exact qR (.id) krf krf krf
def g_t_articles_l1 (n : Nat) (a0item : GNode) (recl1 : ((List GAr) × Bool × Int) → Option ((List GAr) × GDg)) (l1_1 : List GAr) (l1_2 : Bool) (l1_3 : Int) : Option ((List GAr) × GDg) :=
 cond (ltI l1_3 (lenI (List.map idc a0item.Kids)))
  ((Option.bind (getI a0item.Kids l1_3) GNode.of).bind fun x2 =>
  cond (eqI x2.Kind 3)
   (some ([], (⟨9, x2.At⟩ : GDg)))
   (cond (eqI (lenI (List.map GAr.cs l1_1)) 12)
    (some ([], (⟨2, x2.At⟩ : GDg)))
    ((g_t_read n x2).bind fun r3 =>
    cond (!r3.2)
     (some ([], (⟨9, x2.At⟩ : GDg)))
     ((g_t_validArticle n r3.1).bind fun r4 =>
     cond (!r4)
      (some ([], (⟨3, x2.At⟩ : GDg)))
      ((cond (eqI r3.1.Kind 6)
       (some l1_2)
       (some false)).bind fun j5 =>
      cond j5
       (some ([], (⟨5, x2.At⟩ : GDg)))
       (cond l1_2
        (cond (roomB (List.length (l1_1 ++ [r3.1])) 56) (
         recl1 (l1_1 ++ [r3.1], true, wi (l1_3 + 1))) none)
        (cond (roomB (List.length (l1_1 ++ [r3.1])) 56) (
         recl1 (l1_1 ++ [r3.1], eqI r3.1.Kind 6, wi (l1_3 + 1))) none)))))))
  (some (l1_1, (⟨0, 0⟩ : GDg)))
def g_t_articles (n : Nat) (a0item : GNode) : Option ((List GAr) × GDg) :=
 loopN (fun recl1 (l1_1, l1_2, l1_3) => g_t_articles_l1 n a0item recl1 l1_1 l1_2 l1_3) n ([], false, 0)
theorem g_t_articles_ok (n : Nat) (a0item : GNode) : ∀ r, g_t_articles n a0item = some r → PCall Tryz.prog 29 [ag (GNode.cs a0item)] (.ret (.tup [.p (.sl 7 (List.map GAr.cs r.1)), ag (GDg.cs r.2)])) := by
 refine pcall_sim (X := fun r : (List GAr) × GDg => AEnd.ret (.tup [.p (.sl 7 (List.map GAr.cs r.1)), ag (GDg.cs r.2)])) Tryz.func29 rfl Tryz.ntmps29 rfl ?_
 unfold g_t_articles
 refine sR tfm ⟨[1, 3], [1, 3], [], []⟩ ⟨[(1, .ptr 1 0), (3, .ptr 3 0)], [(1, .box 24 (bxc (GNode.cs a0item))), (3, .box 56 [I 0, I 0])]⟩ krf ?_
 refine sR tfm ⟨[1, 3, 4], [1, 3], [], []⟩ ⟨[(1, .ptr 1 0), (3, .ptr 3 0), (4, .p (.val (.slice none 0 0)))], [(1, .box 24 (bxc (GNode.cs a0item))), (3, .box 56 [I 0, I 0])]⟩ krf ?_
 refine sR tfm ⟨[1, 3, 4, 5], [1, 3], [], []⟩ ⟨[(1, .ptr 1 0), (3, .ptr 3 0), (4, .p (.val (.slice none 0 0))), (5, B false)], [(1, .box 24 (bxc (GNode.cs a0item))), (3, .box 56 [I 0, I 0])]⟩ krf ?_
 refine sS ?_
 refine sR tfm ⟨[3, 4, 5, 11, 12, 13], [3], [], []⟩ ⟨[(3, .ptr 3 0), (4, .p (.val (.slice none 0 0))), (5, B false), (11, .p (.sl 5 (List.map idc a0item.Kids))), (12, I (lenI (List.map idc a0item.Kids))), (13, I 0)], [(3, .box 56 [I 0, I 0])]⟩ krf ?_
 refine sB ?_
 refine sP ⟨[3, 4, 5, 11, 12, 13], [3], [], []⟩ ⟨[(3, .ptr 3 0), (4, .p (.val (.slice none 0 0))), (5, B false), (11, .p (.sl 5 (List.map idc a0item.Kids))), (12, I (lenI (List.map idc a0item.Kids))), (13, I 0)], [(3, .box 56 [I 0, I 0])]⟩ krf ?_
 refine sim_weak (weak_pn 29 7 66 [4] [] krf) ?_
 refine sim_loop (fun (l1_1, l1_2, l1_3) => ⟨[(3, .ptr 3 0), (4, .tsl 7 (List.map GAr.cs l1_1) 66), (5, B l1_2), (11, .p (.sl 5 (List.map idc a0item.Kids))), (12, I (lenI (List.map idc a0item.Kids))), (13, I l1_3)], [(3, .box 56 [I 0, I 0]), (66, .arr 29 7 (List.map GAr.cs l1_1).length)]⟩ : ((List GAr) × Bool × Int) → St) (weak_shr (K := ⟨[3, 4, 5, 11, 12, 13], [3, 66], [], []⟩) krf) ?_
 rintro recl1 ⟨l1_1, l1_2, l1_3⟩
 show SimE (g_t_articles_l1 n a0item recl1 l1_1 l1_2 l1_3) _ _ _ _ _ _
 unfold g_t_articles_l1
 refine sR tfm ⟨[3, 4, 5, 11, 12, 13, 14], [3, 66], [], []⟩ ⟨[(3, .ptr 3 0), (4, .tsl 7 (List.map GAr.cs l1_1) 66), (5, B l1_2), (11, .p (.sl 5 (List.map idc a0item.Kids))), (12, I (lenI (List.map idc a0item.Kids))), (13, I l1_3), (14, B (ltI l1_3 (lenI (List.map idc a0item.Kids))))], [(3, .box 56 [I 0, I 0]), (66, .arr 29 7 (List.map GAr.cs l1_1).length)]⟩ krf ?_
 refine sS ?_
 refine sC (ltI l1_3 (lenI (List.map idc a0item.Kids))) krf ?_ ?_
 ·refine sK ?_
  refine sN ⟨[3, 4, 5, 11, 12, 13], [3, 66], [], []⟩ ⟨[(3, .ptr 3 0), (4, .tsl 7 (List.map GAr.cs l1_1) 66), (5, B l1_2), (11, .p (.sl 5 (List.map idc a0item.Kids))), (12, I (lenI (List.map idc a0item.Kids))), (13, I l1_3)], [(3, .box 56 [I 0, I 0]), (66, .arr 29 7 (List.map GAr.cs l1_1).length)]⟩ krf ?_
  refine sS ?_
  refine sB ?_
  refine sS ?_
  refine sG ?_
  refine xG krf krf (aop_idxR (e := 24) (S := 5) (enc := GNode.cs) (dec := GNode.of) (l := a0item.Kids) (k := .i64) (n := l1_3) (sv := .p (.sl 5 (List.map idc a0item.Kids))) GNode.of_cs rfl krf krf krf krf krf) (fun x2 => ?_)
  refine xR 3 krf ?_
  refine xE ?_
  refine sN ⟨[3, 4, 5, 7, 11, 12, 13], [3, 7, 66], [], []⟩ ⟨[(3, .ptr 3 0), (4, .tsl 7 (List.map GAr.cs l1_1) 66), (5, B l1_2), (7, .ptr 7 0), (11, .p (.sl 5 (List.map idc a0item.Kids))), (12, I (lenI (List.map idc a0item.Kids))), (13, I l1_3)], [(3, .box 56 [I 0, I 0]), (7, .box 24 (bxc (GNode.cs x2))), (66, .arr 29 7 (List.map GAr.cs l1_1).length)]⟩ krf ?_
  refine sS ?_
  refine sR tfm ⟨[3, 4, 5, 7, 11, 12, 13, 19], [3, 7, 66], [], []⟩ ⟨[(3, .ptr 3 0), (4, .tsl 7 (List.map GAr.cs l1_1) 66), (5, B l1_2), (7, .ptr 7 0), (11, .p (.sl 5 (List.map idc a0item.Kids))), (12, I (lenI (List.map idc a0item.Kids))), (13, I l1_3), (19, B (eqI x2.Kind 3))], [(3, .box 56 [I 0, I 0]), (7, .box 24 (bxc (GNode.cs x2))), (66, .arr 29 7 (List.map GAr.cs l1_1).length)]⟩ krf ?_
  refine sC (eqI x2.Kind 3) krf ?_ ?_
  ·refine sR tfm ⟨[2, 3], [3], [], []⟩ ⟨[(2, .p (.val (.slice none 0 0))), (3, .ptr 3 0)], [(3, .box 56 [I 9, I x2.At])]⟩ krf ?_
   refine sT ?_
   refine sq_r ?_
   refine bq_r ?_
   refine sq_r ?_
   refine kq_r ?_
   refine bq_r ?_
   refine sq_r ?_
   exact qR (.agg [.sl 7, .id]) krf krf krf
  ·refine sK ?_
   refine sN ⟨[3, 4, 5, 7, 11, 12, 13], [3, 7, 66], [], []⟩ ⟨[(3, .ptr 3 0), (4, .tsl 7 (List.map GAr.cs l1_1) 66), (5, B l1_2), (7, .ptr 7 0), (11, .p (.sl 5 (List.map idc a0item.Kids))), (12, I (lenI (List.map idc a0item.Kids))), (13, I l1_3)], [(3, .box 56 [I 0, I 0]), (7, .box 24 (bxc (GNode.cs x2))), (66, .arr 29 7 (List.map GAr.cs l1_1).length)]⟩ krf ?_
   refine sS ?_
   refine sR tfm ⟨[3, 4, 5, 7, 11, 12, 13, 25], [3, 7, 66], [], []⟩ ⟨[(3, .ptr 3 0), (4, .tsl 7 (List.map GAr.cs l1_1) 66), (5, B l1_2), (7, .ptr 7 0), (11, .p (.sl 5 (List.map idc a0item.Kids))), (12, I (lenI (List.map idc a0item.Kids))), (13, I l1_3), (25, B (eqI (lenI (List.map GAr.cs l1_1)) 12))], [(3, .box 56 [I 0, I 0]), (7, .box 24 (bxc (GNode.cs x2))), (66, .arr 29 7 (List.map GAr.cs l1_1).length)]⟩ krf ?_
   refine sC (eqI (lenI (List.map GAr.cs l1_1)) 12) krf ?_ ?_
   ·refine sR tfm ⟨[2, 3], [3], [], []⟩ ⟨[(2, .p (.val (.slice none 0 0))), (3, .ptr 3 0)], [(3, .box 56 [I 2, I x2.At])]⟩ krf ?_
    refine sT ?_
    refine sq_r ?_
    refine bq_r ?_
    refine sq_r ?_
    refine kq_r ?_
    refine bq_r ?_
    refine sq_r ?_
    exact qR (.agg [.sl 7, .id]) krf krf krf
   ·refine sK ?_
    refine sN ⟨[3, 4, 5, 7, 11, 12, 13], [3, 7, 66], [], []⟩ ⟨[(3, .ptr 3 0), (4, .tsl 7 (List.map GAr.cs l1_1) 66), (5, B l1_2), (7, .ptr 7 0), (11, .p (.sl 5 (List.map idc a0item.Kids))), (12, I (lenI (List.map idc a0item.Kids))), (13, I l1_3)], [(3, .box 56 [I 0, I 0]), (7, .box 24 (bxc (GNode.cs x2))), (66, .arr 29 7 (List.map GAr.cs l1_1).length)]⟩ krf ?_
    refine sS ?_
    refine sG ?_
    refine xR 1 krf ?_
    refine xC [] krf (g_t_read_ok n x2) krf krf (fun _ => by kernel_rfl) (fun r3 => ?_)
    refine xR 6 krf ?_
    refine xE ?_
    refine sN ⟨[3, 4, 5, 7, 8, 9, 11, 12, 13], [3, 7, 8, 66], [], []⟩ ⟨[(3, .ptr 3 0), (4, .tsl 7 (List.map GAr.cs l1_1) 66), (5, B l1_2), (7, .ptr 7 0), (8, .ptr 8 0), (9, B r3.2), (11, .p (.sl 5 (List.map idc a0item.Kids))), (12, I (lenI (List.map idc a0item.Kids))), (13, I l1_3)], [(3, .box 56 [I 0, I 0]), (7, .box 24 (bxc (GNode.cs x2))), (8, .box 29 (bxc (GAr.cs r3.1))), (66, .arr 29 7 (List.map GAr.cs l1_1).length)]⟩ krf ?_
    refine sS ?_
    refine sB ?_
    refine sR tfm ⟨[3, 4, 5, 7, 8, 11, 12, 13, 34], [3, 7, 8, 66], [], []⟩ ⟨[(3, .ptr 3 0), (4, .tsl 7 (List.map GAr.cs l1_1) 66), (5, B l1_2), (7, .ptr 7 0), (8, .ptr 8 0), (11, .p (.sl 5 (List.map idc a0item.Kids))), (12, I (lenI (List.map idc a0item.Kids))), (13, I l1_3), (34, B (!r3.2))], [(3, .box 56 [I 0, I 0]), (7, .box 24 (bxc (GNode.cs x2))), (8, .box 29 (bxc (GAr.cs r3.1))), (66, .arr 29 7 (List.map GAr.cs l1_1).length)]⟩ krf ?_
    refine sC (!r3.2) krf ?_ ?_
    ·refine sR tfm ⟨[2, 3], [3], [], []⟩ ⟨[(2, .p (.val (.slice none 0 0))), (3, .ptr 3 0)], [(3, .box 56 [I 9, I x2.At])]⟩ krf ?_
     refine sT ?_
     refine bq_r ?_
     refine sq_r ?_
     refine bq_r ?_
     refine sq_r ?_
     refine kq_r ?_
     refine bq_r ?_
     refine sq_r ?_
     exact qR (.agg [.sl 7, .id]) krf krf krf
    ·refine sS ?_
     refine sG ?_
     refine xR 1 krf ?_
     refine xC [] krf (g_t_validArticle_ok n r3.1) krf krf (fun _ => by kernel_rfl) (fun r4 => ?_)
     refine xR 2 krf ?_
     refine xE ?_
     refine sN ⟨[3, 4, 5, 7, 8, 11, 12, 13, 40], [3, 7, 8, 66], [], []⟩ ⟨[(3, .ptr 3 0), (4, .tsl 7 (List.map GAr.cs l1_1) 66), (5, B l1_2), (7, .ptr 7 0), (8, .ptr 8 0), (11, .p (.sl 5 (List.map idc a0item.Kids))), (12, I (lenI (List.map idc a0item.Kids))), (13, I l1_3), (40, B (!r4))], [(3, .box 56 [I 0, I 0]), (7, .box 24 (bxc (GNode.cs x2))), (8, .box 29 (bxc (GAr.cs r3.1))), (66, .arr 29 7 (List.map GAr.cs l1_1).length)]⟩ krf ?_
     refine sC (!r4) krf ?_ ?_
     ·refine sR tfm ⟨[2, 3], [3], [], []⟩ ⟨[(2, .p (.val (.slice none 0 0))), (3, .ptr 3 0)], [(3, .box 56 [I 3, I x2.At])]⟩ krf ?_
      refine sT ?_
      refine bq_r ?_
      refine sq_r ?_
      refine bq_r ?_
      refine sq_r ?_
      refine kq_r ?_
      refine bq_r ?_
      refine sq_r ?_
      exact qR (.agg [.sl 7, .id]) krf krf krf
     ·refine sim_bind (fun j5 => ⟨[(3, .ptr 3 0), (4, .tsl 7 (List.map GAr.cs l1_1) 66), (5, B l1_2), (7, .ptr 7 0), (8, .ptr 8 0), (11, .p (.sl 5 (List.map idc a0item.Kids))), (12, I (lenI (List.map idc a0item.Kids))), (13, I l1_3), (47, B j5)], [(3, .box 56 [I 0, I 0]), (7, .box 24 (bxc (GNode.cs x2))), (8, .box 29 (bxc (GAr.cs r3.1))), (66, .arr 29 7 (List.map GAr.cs l1_1).length)]⟩ : Bool → St) ?_ ?_
      ·refine sG ?_
       refine xR 4 krf ?_
       refine xS (eqI r3.1.Kind 6) (fun h6 => ?_) (fun h6 => ?_)
       ·refine xO (want_tt krf h6) krf ?_
        refine xR 2 krf ?_
        refine xE ?_
        exact nq_n l1_2 ⟨[3, 4, 5, 7, 8, 11, 12, 13, 47], [3, 7, 8, 66], [], []⟩ krf
       ·refine xN (want_tf krf h6) krf ?_
        refine xR 2 krf ?_
        refine xE ?_
        exact nq_n false ⟨[3, 4, 5, 7, 8, 11, 12, 13, 47], [3, 7, 8, 66], [], []⟩ krf
      ·rintro j5
       refine sC j5 krf ?_ ?_
       ·refine sR tfm ⟨[2, 3], [3], [], []⟩ ⟨[(2, .p (.val (.slice none 0 0))), (3, .ptr 3 0)], [(3, .box 56 [I 5, I x2.At])]⟩ krf ?_
        refine sT ?_
        refine bq_r ?_
        refine sq_r ?_
        refine bq_r ?_
        refine sq_r ?_
        refine kq_r ?_
        refine bq_r ?_
        refine sq_r ?_
        exact qR (.agg [.sl 7, .id]) krf krf krf
       ·refine sK ?_
        refine bq_n ?_
        refine sN ⟨[3, 4, 5, 8, 11, 12, 13], [3, 8, 66], [], []⟩ ⟨[(3, .ptr 3 0), (4, .tsl 7 (List.map GAr.cs l1_1) 66), (5, B l1_2), (8, .ptr 8 0), (11, .p (.sl 5 (List.map idc a0item.Kids))), (12, I (lenI (List.map idc a0item.Kids))), (13, I l1_3)], [(3, .box 56 [I 0, I 0]), (8, .box 29 (bxc (GAr.cs r3.1))), (66, .arr 29 7 (List.map GAr.cs l1_1).length)]⟩ krf ?_
        refine sS ?_
        refine sG ?_
        refine xR 2 krf ?_
        refine xS l1_2 (fun h7 => ?_) (fun h7 => ?_)
        ·refine xN (want_ft krf h7) krf ?_
         refine xR 4 krf ?_
         refine xE ?_
         refine sN ⟨[3, 4, 5, 8, 11, 12, 13], [3, 8, 66], [], []⟩ ⟨[(3, .ptr 3 0), (4, .tsl 7 (List.map GAr.cs l1_1) 66), (5, B true), (8, .ptr 8 0), (11, .p (.sl 5 (List.map idc a0item.Kids))), (12, I (lenI (List.map idc a0item.Kids))), (13, I l1_3)], [(3, .box 56 [I 0, I 0]), (8, .box 29 (bxc (GAr.cs r3.1))), (66, .arr 29 7 (List.map GAr.cs l1_1).length)]⟩ krf ?_
         refine sG ?_
         refine xR 3 krf ?_
         refine xF krf krf (aop_app (e := 29) (S := 7) (by_ := 56) (enc := GAr.cs) (tk := 66) (l := l1_1) (l2 := [r3.1]) (xv := .tsl 7 (List.map GAr.cs [r3.1]) 65) rfl krf krf rfl krf krf krf rfl krf) ?_
         refine xR 1 krf ?_
         refine xE ?_
         refine bq_n ?_
         refine sN ⟨[3, 4, 5, 11, 12, 13], [3, 66], [], []⟩ ⟨[(3, .ptr 3 0), (4, .tsl 7 (List.map GAr.cs (l1_1 ++ [r3.1])) 66), (5, B true), (11, .p (.sl 5 (List.map idc a0item.Kids))), (12, I (lenI (List.map idc a0item.Kids))), (13, I l1_3)], [(3, .box 56 [I 0, I 0]), (66, .arr 29 7 (List.map GAr.cs (l1_1 ++ [r3.1])).length)]⟩ krf ?_
         refine sL tfm krf ?_
         exact kq_n (l1_1 ++ [r3.1], true, wi (l1_3 + 1)) ⟨[3, 4, 5, 11, 12, 13], [3, 66], [], []⟩ krf
        ·refine xO (want_ff krf h7) krf ?_
         refine xR 4 krf ?_
         refine xE ?_
         refine sN ⟨[3, 4, 5, 8, 11, 12, 13, 59, 60, 61], [3, 8, 66], [], []⟩ ⟨[(3, .ptr 3 0), (4, .tsl 7 (List.map GAr.cs l1_1) 66), (5, B (eqI r3.1.Kind 6)), (8, .ptr 8 0), (11, .p (.sl 5 (List.map idc a0item.Kids))), (12, I (lenI (List.map idc a0item.Kids))), (13, I l1_3), (59, .ptr 8 0), (60, I r3.1.Kind), (61, B (eqI r3.1.Kind 6))], [(3, .box 56 [I 0, I 0]), (8, .box 29 (bxc (GAr.cs r3.1))), (66, .arr 29 7 (List.map GAr.cs l1_1).length)]⟩ krf ?_
         refine sG ?_
         refine xR 3 krf ?_
         refine xF krf krf (aop_app (e := 29) (S := 7) (by_ := 56) (enc := GAr.cs) (tk := 66) (l := l1_1) (l2 := [r3.1]) (xv := .tsl 7 (List.map GAr.cs [r3.1]) 65) rfl krf krf rfl krf krf krf rfl krf) ?_
         refine xR 1 krf ?_
         refine xE ?_
         refine bq_n ?_
         refine sN ⟨[3, 4, 5, 11, 12, 13, 59, 60, 61], [3, 8, 66], [], []⟩ ⟨[(3, .ptr 3 0), (4, .tsl 7 (List.map GAr.cs (l1_1 ++ [r3.1])) 66), (5, B (eqI r3.1.Kind 6)), (11, .p (.sl 5 (List.map idc a0item.Kids))), (12, I (lenI (List.map idc a0item.Kids))), (13, I l1_3), (59, .ptr 8 0), (60, I r3.1.Kind), (61, B (eqI r3.1.Kind 6))], [(3, .box 56 [I 0, I 0]), (8, .box 29 (bxc (GAr.cs r3.1))), (66, .arr 29 7 (List.map GAr.cs (l1_1 ++ [r3.1])).length)]⟩ krf ?_
         refine sL tfm krf ?_
         exact kq_n (l1_1 ++ [r3.1], eqI r3.1.Kind 6, wi (l1_3 + 1)) ⟨[3, 4, 5, 11, 12, 13], [3, 66], [], []⟩ krf
 ·refine sim_exit ?_
  refine sq_x ?_
  refine kq_x ?_
  refine bq_hit ?_
  refine sN ⟨[3, 4], [3, 66], [], []⟩ ⟨[(3, .ptr 3 0), (4, .tsl 7 (List.map GAr.cs l1_1) 66)], [(3, .box 56 [I 0, I 0]), (66, .arr 29 7 (List.map GAr.cs l1_1).length)]⟩ krf ?_
  refine sR tfm ⟨[2, 3], [3, 66], [], []⟩ ⟨[(2, .tsl 7 (List.map GAr.cs l1_1) 66), (3, .ptr 3 0)], [(3, .box 56 [I 0, I 0]), (66, .arr 29 7 (List.map GAr.cs l1_1).length)]⟩ krf ?_
  refine sT ?_
  exact qR (.agg [.sl 7, .id]) krf krf krf
def g_t_Build_l3 (n : Nat) (a0n : GNode) (recl3 : ((List GTf) × (List GDg) × Int × Int × (List ((List UInt8) × Bool))) → Option ((List GTf) × (List GDg))) (l3_1 : List GTf) (l3_2 : List GDg) (l3_3 : Int) (l3_4 : Int) (l3_5 : List ((List UInt8) × Bool)) : Option ((List GTf) × (List GDg)) :=
 cond (ltI l3_4 (lenI (List.map idc a0n.Kids)))
  ((Option.bind (getI a0n.Kids l3_4) GNode.of).bind fun x4 =>
  cond (!eqI x4.N 7)
   (recl3 (l3_1, l3_2, l3_3, wi (l3_4 + 1), l3_5))
   ((cond (mgetD me_msb x4.Name false l3_5)
    (some ([], 5, x4.At))
    (cond (leI 8 l3_3)
     (some ([], 2, x4.At))
     ((g_t_articles n x4).bind fun r6 =>
     some (r6.1, r6.2.Err, r6.2.At)))).bind fun (j5_1, j5_2, j5_3) =>
   (cond (!eqI j5_2 0)
    (cond (roomB (List.length (l3_2 ++ [(⟨j5_2, j5_3⟩ : GDg)])) 16) (
     some (l3_2 ++ [(⟨j5_2, j5_3⟩ : GDg)])) none)
    (some l3_2)).bind fun j7 =>
   cond (eqI (lenI (List.map GDg.cs j7)) 20)
    (some (l3_1, j7))
    (cond (roomB (List.length (l3_1 ++ [(⟨x4.Name, j5_1⟩ : GTf)])) 40) (
     recl3 (l3_1 ++ [(⟨x4.Name, j5_1⟩ : GTf)], j7, wi (l3_3 + 1), wi (l3_4 + 1), mset me_msb x4.Name true l3_5)) none)))
  (some (l3_1, l3_2))
def g_t_Build (n : Nat) (a0n : GNode) : Option ((List GTf) × (List GDg)) :=
 (g_p_Valid n a0n).bind fun r1 =>
 cond (!r1)
  (some ([], [(⟨1, 0⟩ : GDg)]))
  ((loopN (fun recl3 (l3_1, l3_2, l3_3, l3_4, l3_5) => g_t_Build_l3 n a0n recl3 l3_1 l3_2 l3_3 l3_4 l3_5) n ([], [], 0, 0, [])).bind fun (j2_1, j2_2) =>
  cond (ltI 0 (lenI (List.map GDg.cs j2_2)))
   (some ([], j2_2))
   (some (j2_1, [])))
theorem g_t_Build_ok (n : Nat) (a0n : GNode) : ∀ r, g_t_Build n a0n = some r → PCall Tryz.prog 11 [ag (GNode.cs a0n)] (.ret (.tup [.p (.sl 2 (List.map GTf.cs r.1)), .p (.sl 2 (List.map GDg.cs r.2))])) := by
 refine pcall_sim (X := fun r : (List GTf) × (List GDg) => AEnd.ret (.tup [.p (.sl 2 (List.map GTf.cs r.1)), .p (.sl 2 (List.map GDg.cs r.2))])) Tryz.func11 rfl Tryz.ntmps11 rfl ?_
 unfold g_t_Build
 refine sR tfm ⟨[1], [1], [], []⟩ ⟨[(1, .ptr 1 0)], [(1, .box 24 (bxc (GNode.cs a0n)))]⟩ krf ?_
 refine sS ?_
 refine sS ?_
 refine sG ?_
 refine xR 1 krf ?_
 refine xC [] krf (g_p_Valid_ok n a0n) krf krf (fun _ => by kernel_rfl) (fun r1 => ?_)
 refine xR 1 krf ?_
 refine xE ?_
 refine sN ⟨[1, 14], [1], [], []⟩ ⟨[(1, .ptr 1 0), (14, B (!r1))], [(1, .box 24 (bxc (GNode.cs a0n)))]⟩ krf ?_
 refine sC (!r1) krf ?_ ?_
 ·refine sR tfm ⟨[2, 3], [16], [], []⟩ ⟨[(2, .p (.val (.slice none 0 0))), (3, .tsl 2 (List.map GDg.cs [(⟨1, 0⟩ : GDg)]) 16)], [(16, .arr 56 2 (List.map GDg.cs [(⟨1, 0⟩ : GDg)]).length)]⟩ krf ?_
  refine sT ?_
  refine sq_r ?_
  exact qR (.agg [.sl 2, .sl 2]) krf krf krf
 ·refine sK ?_
  refine sN ⟨[1], [1], [], []⟩ ⟨[(1, .ptr 1 0)], [(1, .box 24 (bxc (GNode.cs a0n)))]⟩ krf ?_
  refine sR tfm ⟨[1, 4], [1], [], []⟩ ⟨[(1, .ptr 1 0), (4, .p (.val (.slice none 0 0)))], [(1, .box 24 (bxc (GNode.cs a0n)))]⟩ krf ?_
  refine sR tfm ⟨[1, 4, 5], [1], [], []⟩ ⟨[(1, .ptr 1 0), (4, .p (.val (.slice none 0 0))), (5, .p (.val (.slice none 0 0)))], [(1, .box 24 (bxc (GNode.cs a0n)))]⟩ krf ?_
  refine sS ?_
  refine sG ?_
  refine xs_u krf krf (aop_mk (d := 17) (rsv := none) rfl rfl krf) ?_
  refine xR 1 krf ?_
  refine xE ?_
  refine sN ⟨[1, 4, 5, 6], [1, 17], [], []⟩ ⟨[(1, .ptr 1 0), (4, .p (.val (.slice none 0 0))), (5, .p (.val (.slice none 0 0))), (6, .mv 17)], [(1, .box 24 (bxc (GNode.cs a0n))), (17, .mp (mpL mk_msb mv_msb []))]⟩ krf ?_
  refine sR tfm ⟨[1, 4, 5, 6, 7], [1, 17], [], []⟩ ⟨[(1, .ptr 1 0), (4, .p (.val (.slice none 0 0))), (5, .p (.val (.slice none 0 0))), (6, .mv 17), (7, I 0)], [(1, .box 24 (bxc (GNode.cs a0n))), (17, .mp (mpL mk_msb mv_msb []))]⟩ krf ?_
  refine sim_bind (fun (j2_1, j2_2) => ⟨[(4, .tsl 2 (List.map GTf.cs j2_1) 68), (5, .tsl 2 (List.map GDg.cs j2_2) 58)], [(58, .arr 56 2 (List.map GDg.cs j2_2).length), (68, .arr 27 2 (List.map GTf.cs j2_1).length)]⟩ : ((List GTf) × (List GDg)) → St) ?_ ?_
  ·refine sR tfm ⟨[4, 5, 6, 7, 19, 20, 21], [17], [], []⟩ ⟨[(4, .p (.val (.slice none 0 0))), (5, .p (.val (.slice none 0 0))), (6, .mv 17), (7, I 0), (19, .p (.sl 5 (List.map idc a0n.Kids))), (20, I (lenI (List.map idc a0n.Kids))), (21, I 0)], [(17, .mp (mpL mk_msb mv_msb []))]⟩ krf ?_
   refine sB ?_
   refine sP ⟨[4, 5, 6, 7, 19, 20, 21], [17], [], []⟩ ⟨[(4, .p (.val (.slice none 0 0))), (5, .p (.val (.slice none 0 0))), (6, .mv 17), (7, I 0), (19, .p (.sl 5 (List.map idc a0n.Kids))), (20, I (lenI (List.map idc a0n.Kids))), (21, I 0)], [(17, .mp (mpL mk_msb mv_msb []))]⟩ krf ?_
   refine sim_weak (Weak.trans (weak_pn 56 2 58 [5] [] krf) (weak_pn 27 2 68 [4] [] krf)) ?_
   refine sim_loop (fun (l3_1, l3_2, l3_3, l3_4, l3_5) => ⟨[(4, .tsl 2 (List.map GTf.cs l3_1) 68), (5, .tsl 2 (List.map GDg.cs l3_2) 58), (6, .mv 17), (7, I l3_3), (19, .p (.sl 5 (List.map idc a0n.Kids))), (20, I (lenI (List.map idc a0n.Kids))), (21, I l3_4)], [(17, .mp (mpL mk_msb mv_msb l3_5)), (58, .arr 56 2 (List.map GDg.cs l3_2).length), (68, .arr 27 2 (List.map GTf.cs l3_1).length)]⟩ : ((List GTf) × (List GDg) × Int × Int × (List ((List UInt8) × Bool))) → St) (weak_shr (K := ⟨[4, 5, 6, 7, 19, 20, 21], [17, 58, 68], [], []⟩) krf) ?_
   rintro recl3 ⟨l3_1, l3_2, l3_3, l3_4, l3_5⟩
   show SimE (g_t_Build_l3 n a0n recl3 l3_1 l3_2 l3_3 l3_4 l3_5) _ _ _ _ _ _
   unfold g_t_Build_l3
   refine sR tfm ⟨[4, 5, 6, 7, 19, 20, 21, 22], [17, 58, 68], [], []⟩ ⟨[(4, .tsl 2 (List.map GTf.cs l3_1) 68), (5, .tsl 2 (List.map GDg.cs l3_2) 58), (6, .mv 17), (7, I l3_3), (19, .p (.sl 5 (List.map idc a0n.Kids))), (20, I (lenI (List.map idc a0n.Kids))), (21, I l3_4), (22, B (ltI l3_4 (lenI (List.map idc a0n.Kids))))], [(17, .mp (mpL mk_msb mv_msb l3_5)), (58, .arr 56 2 (List.map GDg.cs l3_2).length), (68, .arr 27 2 (List.map GTf.cs l3_1).length)]⟩ krf ?_
   refine sS ?_
   refine sC (ltI l3_4 (lenI (List.map idc a0n.Kids))) krf ?_ ?_
   ·refine sK ?_
    refine sN ⟨[4, 5, 6, 7, 19, 20, 21], [17, 58, 68], [], []⟩ ⟨[(4, .tsl 2 (List.map GTf.cs l3_1) 68), (5, .tsl 2 (List.map GDg.cs l3_2) 58), (6, .mv 17), (7, I l3_3), (19, .p (.sl 5 (List.map idc a0n.Kids))), (20, I (lenI (List.map idc a0n.Kids))), (21, I l3_4)], [(17, .mp (mpL mk_msb mv_msb l3_5)), (58, .arr 56 2 (List.map GDg.cs l3_2).length), (68, .arr 27 2 (List.map GTf.cs l3_1).length)]⟩ krf ?_
    refine sS ?_
    refine sB ?_
    refine sS ?_
    refine sG ?_
    refine xG krf krf (aop_idxR (e := 24) (S := 5) (enc := GNode.cs) (dec := GNode.of) (l := a0n.Kids) (k := .i64) (n := l3_4) (sv := .p (.sl 5 (List.map idc a0n.Kids))) GNode.of_cs rfl krf krf krf krf krf) (fun x4 => ?_)
    refine xR 3 krf ?_
    refine xE ?_
    refine sN ⟨[4, 5, 6, 7, 9, 19, 20, 21], [9, 17, 58, 68], [], []⟩ ⟨[(4, .tsl 2 (List.map GTf.cs l3_1) 68), (5, .tsl 2 (List.map GDg.cs l3_2) 58), (6, .mv 17), (7, I l3_3), (9, .ptr 9 0), (19, .p (.sl 5 (List.map idc a0n.Kids))), (20, I (lenI (List.map idc a0n.Kids))), (21, I l3_4)], [(9, .box 24 (bxc (GNode.cs x4))), (17, .mp (mpL mk_msb mv_msb l3_5)), (58, .arr 56 2 (List.map GDg.cs l3_2).length), (68, .arr 27 2 (List.map GTf.cs l3_1).length)]⟩ krf ?_
    refine sS ?_
    refine sR tfm ⟨[4, 5, 6, 7, 9, 19, 20, 21, 27], [9, 17, 58, 68], [], []⟩ ⟨[(4, .tsl 2 (List.map GTf.cs l3_1) 68), (5, .tsl 2 (List.map GDg.cs l3_2) 58), (6, .mv 17), (7, I l3_3), (9, .ptr 9 0), (19, .p (.sl 5 (List.map idc a0n.Kids))), (20, I (lenI (List.map idc a0n.Kids))), (21, I l3_4), (27, B (!eqI x4.N 7))], [(9, .box 24 (bxc (GNode.cs x4))), (17, .mp (mpL mk_msb mv_msb l3_5)), (58, .arr 56 2 (List.map GDg.cs l3_2).length), (68, .arr 27 2 (List.map GTf.cs l3_1).length)]⟩ krf ?_
    refine sC (!eqI x4.N 7) krf ?_ ?_
    ·refine sim_exit ?_
     refine sq_x ?_
     refine bq_hit ?_
     refine sN ⟨[4, 5, 6, 7, 19, 20, 21], [17, 58, 68], [], []⟩ ⟨[(4, .tsl 2 (List.map GTf.cs l3_1) 68), (5, .tsl 2 (List.map GDg.cs l3_2) 58), (6, .mv 17), (7, I l3_3), (19, .p (.sl 5 (List.map idc a0n.Kids))), (20, I (lenI (List.map idc a0n.Kids))), (21, I l3_4)], [(17, .mp (mpL mk_msb mv_msb l3_5)), (58, .arr 56 2 (List.map GDg.cs l3_2).length), (68, .arr 27 2 (List.map GTf.cs l3_1).length)]⟩ krf ?_
     refine sL tfm krf ?_
     exact kq_n (l3_1, l3_2, l3_3, wi (l3_4 + 1), l3_5) ⟨[4, 5, 6, 7, 19, 20, 21], [17, 58, 68], [], []⟩ krf
    ·refine sK ?_
     refine sN ⟨[4, 5, 6, 7, 9, 19, 20, 21], [9, 17, 58, 68], [], []⟩ ⟨[(4, .tsl 2 (List.map GTf.cs l3_1) 68), (5, .tsl 2 (List.map GDg.cs l3_2) 58), (6, .mv 17), (7, I l3_3), (9, .ptr 9 0), (19, .p (.sl 5 (List.map idc a0n.Kids))), (20, I (lenI (List.map idc a0n.Kids))), (21, I l3_4)], [(9, .box 24 (bxc (GNode.cs x4))), (17, .mp (mpL mk_msb mv_msb l3_5)), (58, .arr 56 2 (List.map GDg.cs l3_2).length), (68, .arr 27 2 (List.map GTf.cs l3_1).length)]⟩ krf ?_
     refine sR tfm ⟨[4, 5, 6, 7, 9, 10, 19, 20, 21], [9, 17, 58, 68], [], []⟩ ⟨[(4, .tsl 2 (List.map GTf.cs l3_1) 68), (5, .tsl 2 (List.map GDg.cs l3_2) 58), (6, .mv 17), (7, I l3_3), (9, .ptr 9 0), (10, .p (.val (.slice none 0 0))), (19, .p (.sl 5 (List.map idc a0n.Kids))), (20, I (lenI (List.map idc a0n.Kids))), (21, I l3_4)], [(9, .box 24 (bxc (GNode.cs x4))), (17, .mp (mpL mk_msb mv_msb l3_5)), (58, .arr 56 2 (List.map GDg.cs l3_2).length), (68, .arr 27 2 (List.map GTf.cs l3_1).length)]⟩ krf ?_
     refine sR tfm ⟨[4, 5, 6, 7, 9, 10, 11, 19, 20, 21], [9, 11, 17, 58, 68], [], []⟩ ⟨[(4, .tsl 2 (List.map GTf.cs l3_1) 68), (5, .tsl 2 (List.map GDg.cs l3_2) 58), (6, .mv 17), (7, I l3_3), (9, .ptr 9 0), (10, .p (.val (.slice none 0 0))), (11, .ptr 11 0), (19, .p (.sl 5 (List.map idc a0n.Kids))), (20, I (lenI (List.map idc a0n.Kids))), (21, I l3_4)], [(9, .box 24 (bxc (GNode.cs x4))), (11, .box 56 [I 0, I 0]), (17, .mp (mpL mk_msb mv_msb l3_5)), (58, .arr 56 2 (List.map GDg.cs l3_2).length), (68, .arr 27 2 (List.map GTf.cs l3_1).length)]⟩ krf ?_
     refine sim_bind (fun (j5_1, j5_2, j5_3) => ⟨[(4, .tsl 2 (List.map GTf.cs l3_1) 68), (5, .tsl 2 (List.map GDg.cs l3_2) 58), (6, .mv 17), (7, I l3_3), (9, .ptr 9 0), (10, .p (.sl 7 (List.map GAr.cs j5_1))), (11, .ptr 11 0), (19, .p (.sl 5 (List.map idc a0n.Kids))), (20, I (lenI (List.map idc a0n.Kids))), (21, I l3_4)], [(9, .box 24 (bxc (GNode.cs x4))), (11, .box 56 [I j5_2, I j5_3]), (17, .mp (mpL mk_msb mv_msb l3_5)), (58, .arr 56 2 (List.map GDg.cs l3_2).length), (68, .arr 27 2 (List.map GTf.cs l3_1).length)]⟩ : ((List GAr) × Int × Int) → St) ?_ ?_
     ·refine sB ?_
      refine sS ?_
      refine sG ?_
      refine xR 3 krf ?_
      refine xs_u krf krf (aop_look (kt := 9) (e := 4) (ke := mk_msb) (ve := mv_msb) (eq := me_msb) (b := 17) (m := l3_5) (k := x4.Name) (z0 := false) rfl krf krf krf krf krf (fun _ => by kernel_rfl) (fun _ _ => eqV_strK rfl _ _) krf) ?_
      refine xR 1 krf ?_
      refine xE ?_
      refine sN ⟨[4, 5, 6, 7, 9, 10, 11, 19, 20, 21, 33], [9, 11, 17, 58, 68], [], []⟩ ⟨[(4, .tsl 2 (List.map GTf.cs l3_1) 68), (5, .tsl 2 (List.map GDg.cs l3_2) 58), (6, .mv 17), (7, I l3_3), (9, .ptr 9 0), (10, .p (.val (.slice none 0 0))), (11, .ptr 11 0), (19, .p (.sl 5 (List.map idc a0n.Kids))), (20, I (lenI (List.map idc a0n.Kids))), (21, I l3_4), (33, B (mgetD me_msb x4.Name false l3_5))], [(9, .box 24 (bxc (GNode.cs x4))), (11, .box 56 [I 0, I 0]), (17, .mp (mpL mk_msb mv_msb l3_5)), (58, .arr 56 2 (List.map GDg.cs l3_2).length), (68, .arr 27 2 (List.map GTf.cs l3_1).length)]⟩ krf ?_
      refine sC (mgetD me_msb x4.Name false l3_5) krf ?_ ?_
      ·refine sL tfm krf ?_
       refine bq_n ?_
       exact nq_n ([], 5, x4.At) ⟨[4, 5, 6, 7, 9, 10, 11, 19, 20, 21], [9, 11, 17, 58, 68], [(10, .sl 7)], []⟩ krf
      ·refine sR tfm ⟨[4, 5, 6, 7, 9, 10, 11, 19, 20, 21, 41], [9, 11, 17, 58, 68], [], []⟩ ⟨[(4, .tsl 2 (List.map GTf.cs l3_1) 68), (5, .tsl 2 (List.map GDg.cs l3_2) 58), (6, .mv 17), (7, I l3_3), (9, .ptr 9 0), (10, .p (.val (.slice none 0 0))), (11, .ptr 11 0), (19, .p (.sl 5 (List.map idc a0n.Kids))), (20, I (lenI (List.map idc a0n.Kids))), (21, I l3_4), (41, B (leI 8 l3_3))], [(9, .box 24 (bxc (GNode.cs x4))), (11, .box 56 [I 0, I 0]), (17, .mp (mpL mk_msb mv_msb l3_5)), (58, .arr 56 2 (List.map GDg.cs l3_2).length), (68, .arr 27 2 (List.map GTf.cs l3_1).length)]⟩ krf ?_
       refine sC (leI 8 l3_3) krf ?_ ?_
       ·refine sL tfm krf ?_
        refine bq_n ?_
        exact nq_n ([], 2, x4.At) ⟨[4, 5, 6, 7, 9, 10, 11, 19, 20, 21], [9, 11, 17, 58, 68], [(10, .sl 7)], []⟩ krf
       ·refine sG ?_
        refine xR 1 krf ?_
        refine xC [] krf (g_t_articles_ok n x4) krf krf (fun _ => by kernel_rfl) (fun r6 => ?_)
        refine xR 5 krf ?_
        refine xE ?_
        refine bq_n ?_
        exact nq_n (r6.1, r6.2.Err, r6.2.At) ⟨[4, 5, 6, 7, 9, 10, 11, 19, 20, 21], [9, 11, 17, 58, 68], [], []⟩ krf
     ·rintro ⟨j5_1, j5_2, j5_3⟩
      refine sS ?_
      refine sG ?_
      refine xR 3 krf ?_
      refine xs_u krf krf (aop_mset (kt := 9) (e := 4) (ke := mk_msb) (ve := mv_msb) (eq := me_msb) (b := 17) (m := l3_5) (k := x4.Name) (v := true) rfl krf krf krf krf krf krf (fun _ => by kernel_rfl) (fun _ _ => eqV_strK rfl _ _)) ?_
      refine xE ?_
      refine sN ⟨[4, 5, 6, 7, 9, 10, 11, 19, 20, 21], [9, 11, 17, 58, 68], [], []⟩ ⟨[(4, .tsl 2 (List.map GTf.cs l3_1) 68), (5, .tsl 2 (List.map GDg.cs l3_2) 58), (6, .mv 17), (7, I l3_3), (9, .ptr 9 0), (10, .p (.sl 7 (List.map GAr.cs j5_1))), (11, .ptr 11 0), (19, .p (.sl 5 (List.map idc a0n.Kids))), (20, I (lenI (List.map idc a0n.Kids))), (21, I l3_4)], [(9, .box 24 (bxc (GNode.cs x4))), (11, .box 56 [I j5_2, I j5_3]), (17, .mp (mpL mk_msb mv_msb (mset me_msb x4.Name true l3_5))), (58, .arr 56 2 (List.map GDg.cs l3_2).length), (68, .arr 27 2 (List.map GTf.cs l3_1).length)]⟩ krf ?_
      refine sR tfm ⟨[4, 5, 6, 7, 9, 10, 11, 19, 20, 21], [9, 11, 17, 58, 68], [], []⟩ ⟨[(4, .tsl 2 (List.map GTf.cs l3_1) 68), (5, .tsl 2 (List.map GDg.cs l3_2) 58), (6, .mv 17), (7, I (wi (l3_3 + 1))), (9, .ptr 9 0), (10, .p (.sl 7 (List.map GAr.cs j5_1))), (11, .ptr 11 0), (19, .p (.sl 5 (List.map idc a0n.Kids))), (20, I (lenI (List.map idc a0n.Kids))), (21, I l3_4)], [(9, .box 24 (bxc (GNode.cs x4))), (11, .box 56 [I j5_2, I j5_3]), (17, .mp (mpL mk_msb mv_msb (mset me_msb x4.Name true l3_5))), (58, .arr 56 2 (List.map GDg.cs l3_2).length), (68, .arr 27 2 (List.map GTf.cs l3_1).length)]⟩ krf ?_
      refine sim_bind (fun j7 => ⟨[(4, .tsl 2 (List.map GTf.cs l3_1) 68), (5, .tsl 2 (List.map GDg.cs j7) 58), (6, .mv 17), (7, I (wi (l3_3 + 1))), (9, .ptr 9 0), (10, .p (.sl 7 (List.map GAr.cs j5_1))), (19, .p (.sl 5 (List.map idc a0n.Kids))), (20, I (lenI (List.map idc a0n.Kids))), (21, I l3_4)], [(9, .box 24 (bxc (GNode.cs x4))), (17, .mp (mpL mk_msb mv_msb (mset me_msb x4.Name true l3_5))), (58, .arr 56 2 (List.map GDg.cs j7).length), (68, .arr 27 2 (List.map GTf.cs l3_1).length)]⟩ : (List GDg) → St) ?_ ?_
      ·refine sR tfm ⟨[4, 5, 6, 7, 9, 10, 11, 19, 20, 21, 54], [9, 11, 17, 58, 68], [], []⟩ ⟨[(4, .tsl 2 (List.map GTf.cs l3_1) 68), (5, .tsl 2 (List.map GDg.cs l3_2) 58), (6, .mv 17), (7, I (wi (l3_3 + 1))), (9, .ptr 9 0), (10, .p (.sl 7 (List.map GAr.cs j5_1))), (11, .ptr 11 0), (19, .p (.sl 5 (List.map idc a0n.Kids))), (20, I (lenI (List.map idc a0n.Kids))), (21, I l3_4), (54, B (!eqI j5_2 0))], [(9, .box 24 (bxc (GNode.cs x4))), (11, .box 56 [I j5_2, I j5_3]), (17, .mp (mpL mk_msb mv_msb (mset me_msb x4.Name true l3_5))), (58, .arr 56 2 (List.map GDg.cs l3_2).length), (68, .arr 27 2 (List.map GTf.cs l3_1).length)]⟩ krf ?_
       refine sC (!eqI j5_2 0) krf ?_ ?_
       ·refine sG ?_
        refine xR 3 krf ?_
        refine xF krf krf (aop_app (e := 56) (S := 2) (by_ := 16) (enc := GDg.cs) (tk := 58) (l := l3_2) (l2 := [(⟨j5_2, j5_3⟩ : GDg)]) (xv := .tsl 2 (List.map GDg.cs [(⟨j5_2, j5_3⟩ : GDg)]) 57) rfl krf krf rfl krf krf krf rfl krf) ?_
        refine xR 1 krf ?_
        refine xE ?_
        exact nq_n (l3_2 ++ [(⟨j5_2, j5_3⟩ : GDg)]) ⟨[4, 5, 6, 7, 9, 10, 19, 20, 21], [9, 17, 58, 68], [], []⟩ krf
       ·refine sK ?_
        exact nq_n l3_2 ⟨[4, 5, 6, 7, 9, 10, 19, 20, 21], [9, 17, 58, 68], [], []⟩ krf
      ·rintro j7
       refine sS ?_
       refine sR tfm ⟨[4, 5, 6, 7, 9, 10, 19, 20, 21, 61], [9, 17, 58, 68], [], []⟩ ⟨[(4, .tsl 2 (List.map GTf.cs l3_1) 68), (5, .tsl 2 (List.map GDg.cs j7) 58), (6, .mv 17), (7, I (wi (l3_3 + 1))), (9, .ptr 9 0), (10, .p (.sl 7 (List.map GAr.cs j5_1))), (19, .p (.sl 5 (List.map idc a0n.Kids))), (20, I (lenI (List.map idc a0n.Kids))), (21, I l3_4), (61, B (eqI (lenI (List.map GDg.cs j7)) 20))], [(9, .box 24 (bxc (GNode.cs x4))), (17, .mp (mpL mk_msb mv_msb (mset me_msb x4.Name true l3_5))), (58, .arr 56 2 (List.map GDg.cs j7).length), (68, .arr 27 2 (List.map GTf.cs l3_1).length)]⟩ krf ?_
       refine sC (eqI (lenI (List.map GDg.cs j7)) 20) krf ?_ ?_
       ·refine sim_exit ?_
        refine sq_x ?_
        refine bq_miss rfl ?_
        refine sq_x ?_
        refine kq_x ?_
        refine bq_hit ?_
        exact nq_n (l3_1, j7) ⟨[4, 5], [58, 68], [], []⟩ krf
       ·refine sK ?_
        refine sN ⟨[4, 5, 6, 7, 9, 10, 19, 20, 21], [9, 17, 58, 68], [], []⟩ ⟨[(4, .tsl 2 (List.map GTf.cs l3_1) 68), (5, .tsl 2 (List.map GDg.cs j7) 58), (6, .mv 17), (7, I (wi (l3_3 + 1))), (9, .ptr 9 0), (10, .p (.sl 7 (List.map GAr.cs j5_1))), (19, .p (.sl 5 (List.map idc a0n.Kids))), (20, I (lenI (List.map idc a0n.Kids))), (21, I l3_4)], [(9, .box 24 (bxc (GNode.cs x4))), (17, .mp (mpL mk_msb mv_msb (mset me_msb x4.Name true l3_5))), (58, .arr 56 2 (List.map GDg.cs j7).length), (68, .arr 27 2 (List.map GTf.cs l3_1).length)]⟩ krf ?_
        refine sG ?_
        refine xR 6 krf ?_
        refine xF krf krf (aop_app (e := 27) (S := 2) (by_ := 40) (enc := GTf.cs) (tk := 68) (l := l3_1) (l2 := [(⟨x4.Name, j5_1⟩ : GTf)]) (xv := .tsl 2 (List.map GTf.cs [(⟨x4.Name, j5_1⟩ : GTf)]) 67) rfl krf krf rfl krf krf krf rfl krf) ?_
        refine xR 1 krf ?_
        refine xE ?_
        refine bq_n ?_
        refine sN ⟨[4, 5, 6, 7, 19, 20, 21], [17, 58, 68], [], []⟩ ⟨[(4, .tsl 2 (List.map GTf.cs (l3_1 ++ [(⟨x4.Name, j5_1⟩ : GTf)])) 68), (5, .tsl 2 (List.map GDg.cs j7) 58), (6, .mv 17), (7, I (wi (l3_3 + 1))), (19, .p (.sl 5 (List.map idc a0n.Kids))), (20, I (lenI (List.map idc a0n.Kids))), (21, I l3_4)], [(17, .mp (mpL mk_msb mv_msb (mset me_msb x4.Name true l3_5))), (58, .arr 56 2 (List.map GDg.cs j7).length), (68, .arr 27 2 (List.map GTf.cs (l3_1 ++ [(⟨x4.Name, j5_1⟩ : GTf)])).length)]⟩ krf ?_
        refine sL tfm krf ?_
        exact kq_n (l3_1 ++ [(⟨x4.Name, j5_1⟩ : GTf)], j7, wi (l3_3 + 1), wi (l3_4 + 1), mset me_msb x4.Name true l3_5) ⟨[4, 5, 6, 7, 19, 20, 21], [17, 58, 68], [], []⟩ krf
   ·refine sim_exit ?_
    refine sq_x ?_
    refine kq_x ?_
    refine bq_hit ?_
    exact nq_n (l3_1, l3_2) ⟨[4, 5], [58, 68], [], []⟩ krf
  ·rintro ⟨j2_1, j2_2⟩
   refine sS ?_
   refine sR tfm ⟨[4, 5, 72], [58, 68], [], []⟩ ⟨[(4, .tsl 2 (List.map GTf.cs j2_1) 68), (5, .tsl 2 (List.map GDg.cs j2_2) 58), (72, B (ltI 0 (lenI (List.map GDg.cs j2_2))))], [(58, .arr 56 2 (List.map GDg.cs j2_2).length), (68, .arr 27 2 (List.map GTf.cs j2_1).length)]⟩ krf ?_
   refine sC (ltI 0 (lenI (List.map GDg.cs j2_2))) krf ?_ ?_
   ·refine sR tfm ⟨[2, 3], [58], [], []⟩ ⟨[(2, .p (.val (.slice none 0 0))), (3, .tsl 2 (List.map GDg.cs j2_2) 58)], [(58, .arr 56 2 (List.map GDg.cs j2_2).length)]⟩ krf ?_
    refine sT ?_
    refine sq_r ?_
    exact qR (.agg [.sl 2, .sl 2]) krf krf krf
   ·refine sK ?_
    refine sN ⟨[4], [68], [], []⟩ ⟨[(4, .tsl 2 (List.map GTf.cs j2_1) 68)], [(68, .arr 27 2 (List.map GTf.cs j2_1).length)]⟩ krf ?_
    refine sR tfm ⟨[2, 3], [68], [], []⟩ ⟨[(2, .tsl 2 (List.map GTf.cs j2_1) 68), (3, .p (.val (.slice none 0 0)))], [(68, .arr 27 2 (List.map GTf.cs j2_1).length)]⟩ krf ?_
    refine sT ?_
    exact qR (.agg [.sl 2, .sl 2]) krf krf krf
def g_law32_builds (n : Nat) (a0z : List UInt8) : Option ((List GTf) × (List GDg) × Bool) :=
 (g_p_Parse n a0z).bind fun r1 =>
 (g_t_Build n r1.1).bind fun r2 =>
 some (r2.1, r2.2, eqI (lenI (List.map GDg.cs r1.2)) 0)
theorem g_law32_builds_ok (n : Nat) (a0z : List UInt8) : ∀ r, g_law32_builds n a0z = some r → PCall Tryz.prog 41 [S a0z] (.ret (.tup [.p (.sl 2 (List.map GTf.cs r.1)), .p (.sl 2 (List.map GDg.cs r.2.1)), B r.2.2])) := by
 refine pcall_sim (X := fun r : (List GTf) × (List GDg) × Bool => AEnd.ret (.tup [.p (.sl 2 (List.map GTf.cs r.1)), .p (.sl 2 (List.map GDg.cs r.2.1)), B r.2.2])) Tryz.func41 rfl Tryz.ntmps41 rfl ?_
 unfold g_law32_builds
 refine sR tfm ⟨[0], [], [], []⟩ ⟨[(0, S a0z)], []⟩ krf ?_
 refine sS ?_
 refine sG ?_
 refine xR 1 krf ?_
 refine xC [] krf (g_p_Parse_ok n a0z) krf krf (fun _ => by kernel_rfl) (fun r1 => ?_)
 refine xR 6 krf ?_
 refine xE ?_
 refine sN ⟨[5, 6], [5], [], []⟩ ⟨[(5, .ptr 5 0), (6, .p (.sl 2 (List.map GDg.cs r1.2)))], [(5, .box 24 (bxc (GNode.cs r1.1)))]⟩ krf ?_
 refine sS ?_
 refine sG ?_
 refine xR 1 krf ?_
 refine xC [] krf (g_t_Build_ok n r1.1) krf krf (fun _ => by kernel_rfl) (fun r2 => ?_)
 refine xR 5 krf ?_
 refine xE ?_
 refine sN ⟨[6, 7, 8], [], [], []⟩ ⟨[(6, .p (.sl 2 (List.map GDg.cs r1.2))), (7, .p (.sl 2 (List.map GTf.cs r2.1))), (8, .p (.sl 2 (List.map GDg.cs r2.2)))], []⟩ krf ?_
 refine sR tfm ⟨[2, 3, 4], [], [], []⟩ ⟨[(2, .p (.sl 2 (List.map GTf.cs r2.1))), (3, .p (.sl 2 (List.map GDg.cs r2.2))), (4, B (eqI (lenI (List.map GDg.cs r1.2)) 0))], []⟩ krf ?_
 refine sT ?_
 exact qR (.id) krf krf krf
def g_ref32_Same_l3 (a0a : GTf) (a1b : GTf) (recl3 : Int → Option Bool) (l3 : Int) : Option Bool :=
 cond (ltI l3 (lenI (List.map GAr.cs a0a.Articles)))
  ((getI a0a.Articles l3).bind fun x4 =>
  (getI a1b.Articles l3).bind fun x5 =>
  cond (!opq ((eqI x4.Kind x5.Kind) && ((eqI x4.Days x5.Days) && ((eqI x4.From x5.From) && ((eqI x4.To x5.To) && ((eqI x4.Price x5.Price) && ((eqI x4.Unit x5.Unit) && ((eqI x4.Free x5.Free) && true))))))))
   (some false)
   (recl3 (wi (l3 + 1))))
  (some true)
def g_ref32_Same (n : Nat) (a0a : GTf) (a1b : GTf) : Option Bool :=
 (cond (!eqS a0a.Name a1b.Name)
  (some true)
  (some (!eqI (lenI (List.map GAr.cs a0a.Articles)) (lenI (List.map GAr.cs a1b.Articles))))).bind fun j1 =>
 cond j1
  (some false)
  (loopN (fun recl3 l3 => g_ref32_Same_l3 a0a a1b recl3 l3) n 0)
theorem g_ref32_Same_ok (n : Nat) (a0a : GTf) (a1b : GTf) : ∀ r, g_ref32_Same n a0a a1b = some r → PCall Tryz.prog 21 [ag (GTf.cs a0a), ag (GTf.cs a1b)] (.ret (B r)) := by
 refine pcall_sim (X := fun r : Bool => AEnd.ret (B r)) Tryz.func21 rfl Tryz.ntmps21 rfl ?_
 unfold g_ref32_Same
 refine sR tfm ⟨[2, 3], [2, 3], [], []⟩ ⟨[(2, .ptr 2 0), (3, .ptr 3 0)], [(2, .box 27 (bxc (GTf.cs a0a))), (3, .box 27 (bxc (GTf.cs a1b)))]⟩ krf ?_
 refine sS ?_
 refine sim_bind (fun j1 => ⟨[(2, .ptr 2 0), (3, .ptr 3 0), (19, B j1)], [(2, .box 27 (bxc (GTf.cs a0a))), (3, .box 27 (bxc (GTf.cs a1b)))]⟩ : Bool → St) ?_ ?_
 ·refine sG ?_
  refine xR 6 krf ?_
  refine xS (!eqS a0a.Name a1b.Name) (fun h2 => ?_) (fun h2 => ?_)
  ·refine xN (want_ft krf h2) krf ?_
   refine xR 7 krf ?_
   refine xE ?_
   exact nq_n true ⟨[2, 3, 19], [2, 3], [], []⟩ krf
  ·refine xO (want_ff krf h2) krf ?_
   refine xR 7 krf ?_
   refine xE ?_
   exact nq_n (!eqI (lenI (List.map GAr.cs a0a.Articles)) (lenI (List.map GAr.cs a1b.Articles))) ⟨[2, 3, 19], [2, 3], [], []⟩ krf
 ·rintro j1
  refine sC j1 krf ?_ ?_
  ·refine sR tfm ⟨[4], [], [], []⟩ ⟨[(4, B false)], []⟩ krf ?_
   refine sT ?_
   refine sq_r ?_
   exact qR (.id) krf krf krf
  ·refine sK ?_
   refine sN ⟨[2, 3], [2, 3], [], []⟩ ⟨[(2, .ptr 2 0), (3, .ptr 3 0)], [(2, .box 27 (bxc (GTf.cs a0a))), (3, .box 27 (bxc (GTf.cs a1b)))]⟩ krf ?_
   refine sS ?_
   refine sR tfm ⟨[2, 3, 5], [2, 3], [], []⟩ ⟨[(2, .ptr 2 0), (3, .ptr 3 0), (5, I 0)], [(2, .box 27 (bxc (GTf.cs a0a))), (3, .box 27 (bxc (GTf.cs a1b)))]⟩ krf ?_
   refine sB ?_
   refine sim_loop (fun l3 => ⟨[(2, .ptr 2 0), (3, .ptr 3 0), (5, I l3)], [(2, .box 27 (bxc (GTf.cs a0a))), (3, .box 27 (bxc (GTf.cs a1b)))]⟩ : Int → St) (weak_shr (K := ⟨[2, 3, 5], [2, 3], [], []⟩) krf) ?_
   rintro recl3 l3
   show SimE (g_ref32_Same_l3 a0a a1b recl3 l3) _ _ _ _ _ _
   unfold g_ref32_Same_l3
   refine sS ?_
   refine sR tfm ⟨[2, 3, 5, 24], [2, 3], [], []⟩ ⟨[(2, .ptr 2 0), (3, .ptr 3 0), (5, I l3), (24, B (ltI l3 (lenI (List.map GAr.cs a0a.Articles))))], [(2, .box 27 (bxc (GTf.cs a0a))), (3, .box 27 (bxc (GTf.cs a1b)))]⟩ krf ?_
   refine sC (ltI l3 (lenI (List.map GAr.cs a0a.Articles))) krf ?_ ?_
   ·refine sK ?_
    refine sN ⟨[2, 3, 5], [2, 3], [], []⟩ ⟨[(2, .ptr 2 0), (3, .ptr 3 0), (5, I l3)], [(2, .box 27 (bxc (GTf.cs a0a))), (3, .box 27 (bxc (GTf.cs a1b)))]⟩ krf ?_
    refine sS ?_
    refine sB ?_
    refine sS ?_
    refine sim_drw tfm rfl ?_
    refine xR 3 krf ?_
    refine xG krf krf (aop_idx (e := 29) (S := 7) (enc := GAr.cs) (l := a0a.Articles) (k := .i64) (n := l3) (sv := .p (.sl 7 (List.map GAr.cs a0a.Articles))) rfl krf krf krf krf krf) (fun x4 => ?_)
    refine xR 4 krf ?_
    refine xG krf krf (aop_idx (e := 29) (S := 7) (enc := GAr.cs) (l := a1b.Articles) (k := .i64) (n := l3) (sv := .p (.sl 7 (List.map GAr.cs a1b.Articles))) rfl krf krf krf krf krf) (fun x5 => ?_)
    refine xR 1 krf ?_
    refine xs_u krf krf (aop_neq (xs := [I x4.Kind, I x4.Days, I x4.From, I x4.To, I x4.Price, I x4.Unit, I x4.Free]) (ys := [I x5.Kind, I x5.Days, I x5.From, I x5.To, I x5.Price, I x5.Unit, I x5.Free]) (vx := [.int .i64 x4.Kind, .int .i64 x4.Days, .int .i64 x4.From, .int .i64 x4.To, .int .i64 x4.Price, .int .i64 x4.Unit, .int .i64 x4.Free]) (vy := [.int .i64 x5.Kind, .int .i64 x5.Days, .int .i64 x5.From, .int .i64 x5.To, .int .i64 x5.Price, .int .i64 x5.Unit, .int .i64 x5.Free]) (b := (eqI x4.Kind x5.Kind) && ((eqI x4.Days x5.Days) && ((eqI x4.From x5.From) && ((eqI x4.To x5.To) && ((eqI x4.Price x5.Price) && ((eqI x4.Unit x5.Unit) && ((eqI x4.Free x5.Free) && true))))))) rfl krf krf krf krf krf krf) ?_
    refine xs_endD krf ?_
    refine sN ⟨[2, 3, 5, 37], [2, 3], [], []⟩ ⟨[(2, .ptr 2 0), (3, .ptr 3 0), (5, I l3), (37, B (!opq ((eqI x4.Kind x5.Kind) && ((eqI x4.Days x5.Days) && ((eqI x4.From x5.From) && ((eqI x4.To x5.To) && ((eqI x4.Price x5.Price) && ((eqI x4.Unit x5.Unit) && ((eqI x4.Free x5.Free) && true)))))))))], [(2, .box 27 (bxc (GTf.cs a0a))), (3, .box 27 (bxc (GTf.cs a1b)))]⟩ krf ?_
    refine sC (!opq ((eqI x4.Kind x5.Kind) && ((eqI x4.Days x5.Days) && ((eqI x4.From x5.From) && ((eqI x4.To x5.To) && ((eqI x4.Price x5.Price) && ((eqI x4.Unit x5.Unit) && ((eqI x4.Free x5.Free) && true)))))))) krf ?_ ?_
    ·refine sR tfm ⟨[4], [], [], []⟩ ⟨[(4, B false)], []⟩ krf ?_
     refine sT ?_
     refine bq_r ?_
     refine sq_r ?_
     refine kq_r ?_
     refine bq_r ?_
     refine sq_r ?_
     exact qR (.id) krf krf krf
    ·refine sK ?_
     refine bq_n ?_
     refine sN ⟨[2, 3, 5], [2, 3], [], []⟩ ⟨[(2, .ptr 2 0), (3, .ptr 3 0), (5, I l3)], [(2, .box 27 (bxc (GTf.cs a0a))), (3, .box 27 (bxc (GTf.cs a1b)))]⟩ krf ?_
     refine sL tfm krf ?_
     exact kq_n (wi (l3 + 1)) ⟨[2, 3, 5], [2, 3], [], []⟩ krf
   ·refine sim_exit ?_
    refine sq_x ?_
    refine kq_x ?_
    refine bq_hit ?_
    refine sN ⟨[], [], [], []⟩ ⟨[], []⟩ krf ?_
    refine sR tfm ⟨[4], [], [], []⟩ ⟨[(4, B true)], []⟩ krf ?_
    refine sT ?_
    exact qR (.id) krf krf krf
def g_law32_is (n : Nat) (a0z : List UInt8) (a1a : GAr) : Option Bool :=
 (g_law32_builds n a0z).bind fun r1 =>
 cond r1.2.2
  (cond (eqI (lenI (List.map GDg.cs r1.2.1)) 0)
   (cond (eqI (lenI (List.map GTf.cs r1.1)) 1)
    ((getI r1.1 0).bind fun x5 =>
    (g_ref32_Same n x5 (⟨[116], [a1a]⟩ : GTf)).bind fun r6 =>
    some r6)
    (some false))
   (some false))
  (some false)
theorem g_law32_is_ok (n : Nat) (a0z : List UInt8) (a1a : GAr) : ∀ r, g_law32_is n a0z a1a = some r → PCall Tryz.prog 24 [S a0z, ag (GAr.cs a1a)] (.ret (B r)) := by
 refine pcall_sim (X := fun r : Bool => AEnd.ret (B r)) Tryz.func24 rfl Tryz.ntmps24 rfl ?_
 unfold g_law32_is
 refine sR tfm ⟨[0, 3], [3], [], []⟩ ⟨[(0, S a0z), (3, .ptr 3 0)], [(3, .box 29 (bxc (GAr.cs a1a)))]⟩ krf ?_
 refine sS ?_
 refine sG ?_
 refine xR 1 krf ?_
 refine xC [] krf (g_law32_builds_ok n a0z) krf krf (fun _ => by kernel_rfl) (fun r1 => ?_)
 refine xR 7 krf ?_
 refine xE ?_
 refine sN ⟨[3, 5, 6, 7], [3], [], []⟩ ⟨[(3, .ptr 3 0), (5, .p (.sl 2 (List.map GTf.cs r1.1))), (6, .p (.sl 2 (List.map GDg.cs r1.2.1))), (7, B r1.2.2)], [(3, .box 29 (bxc (GAr.cs a1a)))]⟩ krf ?_
 refine sS ?_
 refine sim_drw tfm rfl ?_
 refine xR 2 krf ?_
 refine xS r1.2.2 (fun h2 => ?_) (fun h2 => ?_)
 ·refine xO (want_tt krf h2) krf ?_
  refine xR 4 krf ?_
  refine xS (eqI (lenI (List.map GDg.cs r1.2.1)) 0) (fun h3 => ?_) (fun h3 => ?_)
  ·refine xO (want_tt krf h3) krf ?_
   refine xR 4 krf ?_
   refine xS (eqI (lenI (List.map GTf.cs r1.1)) 1) (fun h4 => ?_) (fun h4 => ?_)
   ·refine xO (want_tt krf h4) krf ?_
    refine xG krf krf (aop_idx (e := 27) (S := 2) (enc := GTf.cs) (l := r1.1) (k := .i64) (n := 0) (sv := .p (.sl 2 (List.map GTf.cs r1.1))) rfl krf krf krf krf krf) (fun x5 => ?_)
    refine xR 4 krf ?_
    refine xC [.id, .agg [.id, .sl 7]] krf (g_ref32_Same_ok n x5 (⟨[116], [a1a]⟩ : GTf)) krf krf (fun _ => by kernel_rfl) (fun r6 => ?_)
    refine xR 2 krf ?_
    refine xs_endD krf ?_
    refine sN ⟨[4], [], [], []⟩ ⟨[(4, B r6)], []⟩ krf ?_
    refine sT ?_
    exact qR (.id) krf krf krf
   ·refine xN (want_tf krf h4) krf ?_
    refine xR 8 krf ?_
    refine xs_endD krf ?_
    refine sN ⟨[4], [], [], []⟩ ⟨[(4, B false)], []⟩ krf ?_
    refine sT ?_
    exact qR (.id) krf krf krf
  ·refine xN (want_tf krf h3) krf ?_
   refine xR 13 krf ?_
   refine xs_endD krf ?_
   refine sN ⟨[4], [], [], []⟩ ⟨[(4, B false)], []⟩ krf ?_
   refine sT ?_
   exact qR (.id) krf krf krf
 ·refine xN (want_tf krf h2) krf ?_
  refine xR 18 krf ?_
  refine xs_endD krf ?_
  refine sN ⟨[4], [], [], []⟩ ⟨[(4, B false)], []⟩ krf ?_
  refine sT ?_
  exact qR (.id) krf krf krf
def g_ref02_SameDiags_l1 (a0a : List GDg) (a1b : List GDg) (recl1 : Int → Option Bool) (l1 : Int) : Option Bool :=
 cond (ltI l1 (lenI (List.map GDg.cs a0a)))
  ((getI a0a l1).bind fun x2 =>
  (getI a1b l1).bind fun x3 =>
  cond (!opq ((eqI x2.Err x3.Err) && ((eqI x2.At x3.At) && true)))
   (some false)
   (recl1 (wi (l1 + 1))))
  (some true)
def g_ref02_SameDiags (n : Nat) (a0a : List GDg) (a1b : List GDg) : Option Bool :=
 cond (!eqI (lenI (List.map GDg.cs a0a)) (lenI (List.map GDg.cs a1b)))
  (some false)
  (loopN (fun recl1 l1 => g_ref02_SameDiags_l1 a0a a1b recl1 l1) n 0)
theorem g_ref02_SameDiags_ok (n : Nat) (a0a : List GDg) (a1b : List GDg) : ∀ r, g_ref02_SameDiags n a0a a1b = some r → PCall Tryz.prog 14 [.p (.sl 2 (List.map GDg.cs a0a)), .p (.sl 2 (List.map GDg.cs a1b))] (.ret (B r)) := by
 refine pcall_sim (X := fun r : Bool => AEnd.ret (B r)) Tryz.func14 rfl Tryz.ntmps14 rfl ?_
 unfold g_ref02_SameDiags
 refine sR tfm ⟨[0, 1], [], [], []⟩ ⟨[(0, .p (.sl 2 (List.map GDg.cs a0a))), (1, .p (.sl 2 (List.map GDg.cs a1b)))], []⟩ krf ?_
 refine sS ?_
 refine sR tfm ⟨[0, 1, 10], [], [], []⟩ ⟨[(0, .p (.sl 2 (List.map GDg.cs a0a))), (1, .p (.sl 2 (List.map GDg.cs a1b))), (10, B (!eqI (lenI (List.map GDg.cs a0a)) (lenI (List.map GDg.cs a1b))))], []⟩ krf ?_
 refine sC (!eqI (lenI (List.map GDg.cs a0a)) (lenI (List.map GDg.cs a1b))) krf ?_ ?_
 ·refine sR tfm ⟨[4], [], [], []⟩ ⟨[(4, B false)], []⟩ krf ?_
  refine sT ?_
  refine sq_r ?_
  exact qR (.id) krf krf krf
 ·refine sK ?_
  refine sN ⟨[0, 1], [], [], []⟩ ⟨[(0, .p (.sl 2 (List.map GDg.cs a0a))), (1, .p (.sl 2 (List.map GDg.cs a1b)))], []⟩ krf ?_
  refine sS ?_
  refine sR tfm ⟨[0, 1, 5], [], [], []⟩ ⟨[(0, .p (.sl 2 (List.map GDg.cs a0a))), (1, .p (.sl 2 (List.map GDg.cs a1b))), (5, I 0)], []⟩ krf ?_
  refine sB ?_
  refine sim_loop (fun l1 => ⟨[(0, .p (.sl 2 (List.map GDg.cs a0a))), (1, .p (.sl 2 (List.map GDg.cs a1b))), (5, I l1)], []⟩ : Int → St) (weak_shr (K := ⟨[0, 1, 5], [], [], []⟩) krf) ?_
  rintro recl1 l1
  show SimE (g_ref02_SameDiags_l1 a0a a1b recl1 l1) _ _ _ _ _ _
  unfold g_ref02_SameDiags_l1
  refine sS ?_
  refine sR tfm ⟨[0, 1, 5, 14], [], [], []⟩ ⟨[(0, .p (.sl 2 (List.map GDg.cs a0a))), (1, .p (.sl 2 (List.map GDg.cs a1b))), (5, I l1), (14, B (ltI l1 (lenI (List.map GDg.cs a0a))))], []⟩ krf ?_
  refine sC (ltI l1 (lenI (List.map GDg.cs a0a))) krf ?_ ?_
  ·refine sK ?_
   refine sN ⟨[0, 1, 5], [], [], []⟩ ⟨[(0, .p (.sl 2 (List.map GDg.cs a0a))), (1, .p (.sl 2 (List.map GDg.cs a1b))), (5, I l1)], []⟩ krf ?_
   refine sS ?_
   refine sB ?_
   refine sS ?_
   refine sim_drw tfm rfl ?_
   refine xR 2 krf ?_
   refine xG krf krf (aop_idx (e := 56) (S := 2) (enc := GDg.cs) (l := a0a) (k := .i64) (n := l1) (sv := .p (.sl 2 (List.map GDg.cs a0a))) rfl krf krf krf krf krf) (fun x2 => ?_)
   refine xR 3 krf ?_
   refine xG krf krf (aop_idx (e := 56) (S := 2) (enc := GDg.cs) (l := a1b) (k := .i64) (n := l1) (sv := .p (.sl 2 (List.map GDg.cs a1b))) rfl krf krf krf krf krf) (fun x3 => ?_)
   refine xR 1 krf ?_
   refine xs_u krf krf (aop_neq (xs := [I x2.Err, I x2.At]) (ys := [I x3.Err, I x3.At]) (vx := [.int .i64 x2.Err, .int .i64 x2.At]) (vy := [.int .i64 x3.Err, .int .i64 x3.At]) (b := (eqI x2.Err x3.Err) && ((eqI x2.At x3.At) && true)) rfl krf krf krf krf krf krf) ?_
   refine xs_endD krf ?_
   refine sN ⟨[0, 1, 5, 25], [], [], []⟩ ⟨[(0, .p (.sl 2 (List.map GDg.cs a0a))), (1, .p (.sl 2 (List.map GDg.cs a1b))), (5, I l1), (25, B (!opq ((eqI x2.Err x3.Err) && ((eqI x2.At x3.At) && true))))], []⟩ krf ?_
   refine sC (!opq ((eqI x2.Err x3.Err) && ((eqI x2.At x3.At) && true))) krf ?_ ?_
   ·refine sR tfm ⟨[4], [], [], []⟩ ⟨[(4, B false)], []⟩ krf ?_
    refine sT ?_
    refine bq_r ?_
    refine sq_r ?_
    refine kq_r ?_
    refine bq_r ?_
    refine sq_r ?_
    exact qR (.id) krf krf krf
   ·refine sK ?_
    refine bq_n ?_
    refine sN ⟨[0, 1, 5], [], [], []⟩ ⟨[(0, .p (.sl 2 (List.map GDg.cs a0a))), (1, .p (.sl 2 (List.map GDg.cs a1b))), (5, I l1)], []⟩ krf ?_
    refine sL tfm krf ?_
    exact kq_n (wi (l1 + 1)) ⟨[0, 1, 5], [], [], []⟩ krf
  ·refine sim_exit ?_
   refine sq_x ?_
   refine kq_x ?_
   refine bq_hit ?_
   refine sN ⟨[], [], [], []⟩ ⟨[], []⟩ krf ?_
   refine sR tfm ⟨[4], [], [], []⟩ ⟨[(4, B true)], []⟩ krf ?_
   refine sT ?_
   exact qR (.id) krf krf krf
def g_law32_fails (n : Nat) (a0z : List UInt8) (a1e : Int) (a2at : Int) : Option Bool :=
 (g_law32_builds n a0z).bind fun r1 =>
 cond r1.2.2
  (cond (eqI (lenI (List.map GTf.cs r1.1)) 0)
   ((g_ref02_SameDiags n r1.2.1 [(⟨a1e, a2at⟩ : GDg)]).bind fun r4 =>
   some r4)
   (some false))
  (some false)
theorem g_law32_fails_ok (n : Nat) (a0z : List UInt8) (a1e : Int) (a2at : Int) : ∀ r, g_law32_fails n a0z a1e a2at = some r → PCall Tryz.prog 25 [S a0z, I a1e, I a2at] (.ret (B r)) := by
 refine pcall_sim (X := fun r : Bool => AEnd.ret (B r)) Tryz.func25 rfl Tryz.ntmps25 rfl ?_
 unfold g_law32_fails
 refine sR tfm ⟨[0, 1, 2], [], [], []⟩ ⟨[(0, S a0z), (1, I a1e), (2, I a2at)], []⟩ krf ?_
 refine sS ?_
 refine sG ?_
 refine xR 1 krf ?_
 refine xC [] krf (g_law32_builds_ok n a0z) krf krf (fun _ => by kernel_rfl) (fun r1 => ?_)
 refine xR 7 krf ?_
 refine xE ?_
 refine sN ⟨[1, 2, 7, 8, 9], [], [], []⟩ ⟨[(1, I a1e), (2, I a2at), (7, .p (.sl 2 (List.map GTf.cs r1.1))), (8, .p (.sl 2 (List.map GDg.cs r1.2.1))), (9, B r1.2.2)], []⟩ krf ?_
 refine sS ?_
 refine sG ?_
 refine xR 2 krf ?_
 refine xS r1.2.2 (fun h2 => ?_) (fun h2 => ?_)
 ·refine xO (want_tt krf h2) krf ?_
  refine xR 4 krf ?_
  refine xS (eqI (lenI (List.map GTf.cs r1.1)) 0) (fun h3 => ?_) (fun h3 => ?_)
  ·refine xO (want_tt krf h3) krf ?_
   refine xR 4 krf ?_
   refine xC [.id, .sl 2] krf (g_ref02_SameDiags_ok n r1.2.1 [(⟨a1e, a2at⟩ : GDg)]) krf krf (fun _ => by kernel_rfl) (fun r4 => ?_)
   refine xR 2 krf ?_
   refine xE ?_
   refine sN ⟨[6], [], [], []⟩ ⟨[(6, B r4)], []⟩ krf ?_
   refine sT ?_
   exact qR (.id) krf krf krf
  ·refine xN (want_tf krf h3) krf ?_
   refine xR 7 krf ?_
   refine xE ?_
   refine sN ⟨[6], [], [], []⟩ ⟨[(6, B false)], []⟩ krf ?_
   refine sT ?_
   exact qR (.id) krf krf krf
 ·refine xN (want_tf krf h2) krf ?_
  refine xR 12 krf ?_
  refine xE ?_
  refine sN ⟨[6], [], [], []⟩ ⟨[(6, B false)], []⟩ krf ?_
  refine sT ?_
  exact qR (.id) krf krf krf
def g_days_inside (n : Nat) (a0n : Int) (a1least : Int) (a2greatest : Int) : Option Bool :=
 cond (leI a1least a0n)
  (some (leI a0n a2greatest))
  (some false)
theorem g_days_inside_ok (n : Nat) (a0n : Int) (a1least : Int) (a2greatest : Int) : ∀ r, g_days_inside n a0n a1least a2greatest = some r → PCall Tryz.prog 54 [I a0n, I a1least, I a2greatest] (.ret (B r)) := by
 refine pcall_sim (X := fun r : Bool => AEnd.ret (B r)) Tryz.func54 rfl Tryz.ntmps54 rfl ?_
 unfold g_days_inside
 refine sR tfm ⟨[0, 1, 2], [], [], []⟩ ⟨[(0, I a0n), (1, I a1least), (2, I a2greatest)], []⟩ krf ?_
 refine sS ?_
 refine sG ?_
 refine xR 4 krf ?_
 refine xS (leI a1least a0n) (fun h1 => ?_) (fun h1 => ?_)
 ·refine xO (want_tt krf h1) krf ?_
  refine xR 4 krf ?_
  refine xE ?_
  refine sN ⟨[6], [], [], []⟩ ⟨[(6, B (leI a0n a2greatest))], []⟩ krf ?_
  refine sT ?_
  exact qR (.id) krf krf krf
 ·refine xN (want_tf krf h1) krf ?_
  refine xR 4 krf ?_
  refine xE ?_
  refine sN ⟨[6], [], [], []⟩ ⟨[(6, B false)], []⟩ krf ?_
  refine sT ?_
  exact qR (.id) krf krf krf
def g_days_keys_1 (n : Nat) (a0c : GCh) : Option Int :=
 some a0c.At
theorem g_days_keys_1_ok (n : Nat) (a0c : GCh) : ∀ r, g_days_keys_1 n a0c = some r → PCall Tryz.prog 76 [ag (GCh.cs a0c)] (.ret (I r)) := by
 refine pcall_sim (X := fun r : Int => AEnd.ret (I r)) Tryz.func76 rfl Tryz.ntmps76 rfl ?_
 unfold g_days_keys_1
 refine sR tfm ⟨[1], [1], [], []⟩ ⟨[(1, .ptr 1 0)], [(1, .box 89 (bxc (GCh.cs a0c)))]⟩ krf ?_
 refine sR tfm ⟨[2], [], [], []⟩ ⟨[(2, I a0c.At)], []⟩ krf ?_
 refine sT ?_
 exact qR (.id) krf krf krf
def g_dv_api_Change_l1 (n : Nat) (a0list : List GCh) (a1most : Int) (recl1 : (Int × Int) → Option Bool) (l1_1 : Int) (l1_2 : Int) : Option Bool :=
 cond (ltI l1_2 (lenI (List.map GCh.cs a0list)))
  ((getI a0list l1_2).bind fun x2 =>
  (g_days_keys_1 n x2).bind fun r3 =>
  (cond (leI r3 l1_1)
   (some true)
   (some (ltI a1most r3))).bind fun j4 =>
  cond j4
   (some false)
   ((g_days_keys_1 n x2).bind fun r6 =>
   recl1 (r6, wi (l1_2 + 1))))
  (some true)
def g_dv_api_Change (n : Nat) (a0list : List GCh) (a1most : Int) : Option Bool :=
 loopN (fun recl1 (l1_1, l1_2) => g_dv_api_Change_l1 n a0list a1most recl1 l1_1 l1_2) n ((-1), 0)
theorem g_dv_api_Change_ok (n : Nat) (a0list : List GCh) (a1most : Int) : ∀ r, g_dv_api_Change n a0list a1most = some r → PCall Tryz.prog 74 [.p (.sl 2 (List.map GCh.cs a0list)), I a1most, .p (.val (.func (.func 76) #[] #[]))] (.ret (B r)) := by
 refine pcall_sim (X := fun r : Bool => AEnd.ret (B r)) Tryz.func74 rfl Tryz.ntmps74 rfl ?_
 unfold g_dv_api_Change
 refine sR tfm ⟨[0, 1, 2], [], [], []⟩ ⟨[(0, .p (.sl 2 (List.map GCh.cs a0list))), (1, I a1most), (2, .p (.val (.func (.func 76) #[] #[])))], []⟩ krf ?_
 refine sR tfm ⟨[0, 1, 2, 7], [], [], []⟩ ⟨[(0, .p (.sl 2 (List.map GCh.cs a0list))), (1, I a1most), (2, .p (.val (.func (.func 76) #[] #[]))), (7, I (-1))], []⟩ krf ?_
 refine sS ?_
 refine sR tfm ⟨[1, 2, 7, 11, 12, 13], [], [], []⟩ ⟨[(1, I a1most), (2, .p (.val (.func (.func 76) #[] #[]))), (7, I (-1)), (11, .p (.sl 2 (List.map GCh.cs a0list))), (12, I (lenI (List.map GCh.cs a0list))), (13, I 0)], []⟩ krf ?_
 refine sB ?_
 refine sim_loop (fun (l1_1, l1_2) => ⟨[(1, I a1most), (2, .p (.val (.func (.func 76) #[] #[]))), (7, I l1_1), (11, .p (.sl 2 (List.map GCh.cs a0list))), (12, I (lenI (List.map GCh.cs a0list))), (13, I l1_2)], []⟩ : (Int × Int) → St) (weak_shr (K := ⟨[1, 2, 7, 11, 12, 13], [], [], []⟩) krf) ?_
 rintro recl1 ⟨l1_1, l1_2⟩
 show SimE (g_dv_api_Change_l1 n a0list a1most recl1 l1_1 l1_2) _ _ _ _ _ _
 unfold g_dv_api_Change_l1
 refine sR tfm ⟨[1, 2, 7, 11, 12, 13, 14], [], [], []⟩ ⟨[(1, I a1most), (2, .p (.val (.func (.func 76) #[] #[]))), (7, I l1_1), (11, .p (.sl 2 (List.map GCh.cs a0list))), (12, I (lenI (List.map GCh.cs a0list))), (13, I l1_2), (14, B (ltI l1_2 (lenI (List.map GCh.cs a0list))))], []⟩ krf ?_
 refine sS ?_
 refine sC (ltI l1_2 (lenI (List.map GCh.cs a0list))) krf ?_ ?_
 ·refine sK ?_
  refine sN ⟨[1, 2, 7, 11, 12, 13], [], [], []⟩ ⟨[(1, I a1most), (2, .p (.val (.func (.func 76) #[] #[]))), (7, I l1_1), (11, .p (.sl 2 (List.map GCh.cs a0list))), (12, I (lenI (List.map GCh.cs a0list))), (13, I l1_2)], []⟩ krf ?_
  refine sS ?_
  refine sB ?_
  refine sS ?_
  refine sG ?_
  refine xG krf krf (aop_idx (e := 89) (S := 2) (enc := GCh.cs) (l := a0list) (k := .i64) (n := l1_2) (sv := .p (.sl 2 (List.map GCh.cs a0list))) rfl krf krf krf krf krf) (fun x2 => ?_)
  refine xR 3 krf ?_
  refine xE ?_
  refine sN ⟨[1, 2, 7, 9, 11, 12, 13], [9], [], []⟩ ⟨[(1, I a1most), (2, .p (.val (.func (.func 76) #[] #[]))), (7, I l1_1), (9, .ptr 9 0), (11, .p (.sl 2 (List.map GCh.cs a0list))), (12, I (lenI (List.map GCh.cs a0list))), (13, I l1_2)], [(9, .box 89 (bxc (GCh.cs x2)))]⟩ krf ?_
  refine sS ?_
  refine sS ?_
  refine sG ?_
  refine xR 2 krf ?_
  refine xC [] krf (g_days_keys_1_ok n x2) krf krf (fun _ => by kernel_rfl) (fun r3 => ?_)
  refine xR 1 krf ?_
  refine xE ?_
  refine sN ⟨[1, 2, 7, 9, 10, 11, 12, 13], [9], [], []⟩ ⟨[(1, I a1most), (2, .p (.val (.func (.func 76) #[] #[]))), (7, I l1_1), (9, .ptr 9 0), (10, I r3), (11, .p (.sl 2 (List.map GCh.cs a0list))), (12, I (lenI (List.map GCh.cs a0list))), (13, I l1_2)], [(9, .box 89 (bxc (GCh.cs x2)))]⟩ krf ?_
  refine sim_bind (fun j4 => ⟨[(1, I a1most), (2, .p (.val (.func (.func 76) #[] #[]))), (9, .ptr 9 0), (11, .p (.sl 2 (List.map GCh.cs a0list))), (12, I (lenI (List.map GCh.cs a0list))), (13, I l1_2), (27, B j4)], [(9, .box 89 (bxc (GCh.cs x2)))]⟩ : Bool → St) ?_ ?_
  ·refine sG ?_
   refine xR 4 krf ?_
   refine xS (leI r3 l1_1) (fun h5 => ?_) (fun h5 => ?_)
   ·refine xN (want_ft krf h5) krf ?_
    refine xR 3 krf ?_
    refine xE ?_
    exact nq_n true ⟨[1, 2, 9, 11, 12, 13, 27], [9], [], []⟩ krf
   ·refine xO (want_ff krf h5) krf ?_
    refine xR 3 krf ?_
    refine xE ?_
    exact nq_n (ltI a1most r3) ⟨[1, 2, 9, 11, 12, 13, 27], [9], [], []⟩ krf
  ·rintro j4
   refine sC j4 krf ?_ ?_
   ·refine sR tfm ⟨[6], [], [], []⟩ ⟨[(6, B false)], []⟩ krf ?_
    refine sT ?_
    refine sq_r ?_
    refine bq_r ?_
    refine sq_r ?_
    refine kq_r ?_
    refine bq_r ?_
    refine sq_r ?_
    exact qR (.id) krf krf krf
   ·refine sK ?_
    refine sN ⟨[1, 2, 9, 11, 12, 13], [9], [], []⟩ ⟨[(1, I a1most), (2, .p (.val (.func (.func 76) #[] #[]))), (9, .ptr 9 0), (11, .p (.sl 2 (List.map GCh.cs a0list))), (12, I (lenI (List.map GCh.cs a0list))), (13, I l1_2)], [(9, .box 89 (bxc (GCh.cs x2)))]⟩ krf ?_
    refine sG ?_
    refine xR 2 krf ?_
    refine xC [] krf (g_days_keys_1_ok n x2) krf krf (fun _ => by kernel_rfl) (fun r6 => ?_)
    refine xR 1 krf ?_
    refine xE ?_
    refine bq_n ?_
    refine sN ⟨[1, 2, 7, 11, 12, 13], [], [], []⟩ ⟨[(1, I a1most), (2, .p (.val (.func (.func 76) #[] #[]))), (7, I r6), (11, .p (.sl 2 (List.map GCh.cs a0list))), (12, I (lenI (List.map GCh.cs a0list))), (13, I l1_2)], []⟩ krf ?_
    refine sL tfm krf ?_
    exact kq_n (r6, wi (l1_2 + 1)) ⟨[1, 2, 7, 11, 12, 13], [], [], []⟩ krf
 ·refine sim_exit ?_
  refine sq_x ?_
  refine kq_x ?_
  refine bq_hit ?_
  refine sN ⟨[], [], [], []⟩ ⟨[], []⟩ krf ?_
  refine sR tfm ⟨[6], [], [], []⟩ ⟨[(6, B true)], []⟩ krf ?_
  refine sT ?_
  exact qR (.id) krf krf krf
def g_days_keys_2 (n : Nat) (a0day : Int) : Option Int :=
 some a0day
theorem g_days_keys_2_ok (n : Nat) (a0day : Int) : ∀ r, g_days_keys_2 n a0day = some r → PCall Tryz.prog 77 [I a0day] (.ret (I r)) := by
 refine pcall_sim (X := fun r : Int => AEnd.ret (I r)) Tryz.func77 rfl Tryz.ntmps77 rfl ?_
 unfold g_days_keys_2
 refine sR tfm ⟨[0], [], [], []⟩ ⟨[(0, I a0day)], []⟩ krf ?_
 refine sR tfm ⟨[2], [], [], []⟩ ⟨[(2, I a0day)], []⟩ krf ?_
 refine sT ?_
 exact qR (.id) krf krf krf
def g_dv_int_l1 (n : Nat) (a0list : List Int) (a1most : Int) (recl1 : (Int × Int) → Option Bool) (l1_1 : Int) (l1_2 : Int) : Option Bool :=
 cond (ltI l1_2 (lenI (List.map ci a0list)))
  ((getI a0list l1_2).bind fun x2 =>
  (g_days_keys_2 n x2).bind fun r3 =>
  (cond (leI r3 l1_1)
   (some true)
   (some (ltI a1most r3))).bind fun j4 =>
  cond j4
   (some false)
   ((g_days_keys_2 n x2).bind fun r6 =>
   recl1 (r6, wi (l1_2 + 1))))
  (some true)
def g_dv_int (n : Nat) (a0list : List Int) (a1most : Int) : Option Bool :=
 loopN (fun recl1 (l1_1, l1_2) => g_dv_int_l1 n a0list a1most recl1 l1_1 l1_2) n ((-1), 0)
theorem g_dv_int_ok (n : Nat) (a0list : List Int) (a1most : Int) : ∀ r, g_dv_int n a0list a1most = some r → PCall Tryz.prog 75 [.p (.sl 1 (List.map ci a0list)), I a1most, .p (.val (.func (.func 77) #[] #[]))] (.ret (B r)) := by
 refine pcall_sim (X := fun r : Bool => AEnd.ret (B r)) Tryz.func75 rfl Tryz.ntmps75 rfl ?_
 unfold g_dv_int
 refine sR tfm ⟨[0, 1, 2], [], [], []⟩ ⟨[(0, .p (.sl 1 (List.map ci a0list))), (1, I a1most), (2, .p (.val (.func (.func 77) #[] #[])))], []⟩ krf ?_
 refine sR tfm ⟨[0, 1, 2, 7], [], [], []⟩ ⟨[(0, .p (.sl 1 (List.map ci a0list))), (1, I a1most), (2, .p (.val (.func (.func 77) #[] #[]))), (7, I (-1))], []⟩ krf ?_
 refine sS ?_
 refine sR tfm ⟨[1, 2, 7, 11, 12, 13], [], [], []⟩ ⟨[(1, I a1most), (2, .p (.val (.func (.func 77) #[] #[]))), (7, I (-1)), (11, .p (.sl 1 (List.map ci a0list))), (12, I (lenI (List.map ci a0list))), (13, I 0)], []⟩ krf ?_
 refine sB ?_
 refine sim_loop (fun (l1_1, l1_2) => ⟨[(1, I a1most), (2, .p (.val (.func (.func 77) #[] #[]))), (7, I l1_1), (11, .p (.sl 1 (List.map ci a0list))), (12, I (lenI (List.map ci a0list))), (13, I l1_2)], []⟩ : (Int × Int) → St) (weak_shr (K := ⟨[1, 2, 7, 11, 12, 13], [], [], []⟩) krf) ?_
 rintro recl1 ⟨l1_1, l1_2⟩
 show SimE (g_dv_int_l1 n a0list a1most recl1 l1_1 l1_2) _ _ _ _ _ _
 unfold g_dv_int_l1
 refine sR tfm ⟨[1, 2, 7, 11, 12, 13, 14], [], [], []⟩ ⟨[(1, I a1most), (2, .p (.val (.func (.func 77) #[] #[]))), (7, I l1_1), (11, .p (.sl 1 (List.map ci a0list))), (12, I (lenI (List.map ci a0list))), (13, I l1_2), (14, B (ltI l1_2 (lenI (List.map ci a0list))))], []⟩ krf ?_
 refine sS ?_
 refine sC (ltI l1_2 (lenI (List.map ci a0list))) krf ?_ ?_
 ·refine sK ?_
  refine sN ⟨[1, 2, 7, 11, 12, 13], [], [], []⟩ ⟨[(1, I a1most), (2, .p (.val (.func (.func 77) #[] #[]))), (7, I l1_1), (11, .p (.sl 1 (List.map ci a0list))), (12, I (lenI (List.map ci a0list))), (13, I l1_2)], []⟩ krf ?_
  refine sS ?_
  refine sB ?_
  refine sS ?_
  refine sG ?_
  refine xG krf krf (aop_idx (e := 3) (S := 1) (enc := ci) (l := a0list) (k := .i64) (n := l1_2) (sv := .p (.sl 1 (List.map ci a0list))) rfl krf krf krf krf krf) (fun x2 => ?_)
  refine xR 2 krf ?_
  refine xE ?_
  refine sN ⟨[1, 2, 7, 9, 11, 12, 13], [], [], []⟩ ⟨[(1, I a1most), (2, .p (.val (.func (.func 77) #[] #[]))), (7, I l1_1), (9, I x2), (11, .p (.sl 1 (List.map ci a0list))), (12, I (lenI (List.map ci a0list))), (13, I l1_2)], []⟩ krf ?_
  refine sS ?_
  refine sS ?_
  refine sG ?_
  refine xR 2 krf ?_
  refine xC [] krf (g_days_keys_2_ok n x2) krf krf (fun _ => by kernel_rfl) (fun r3 => ?_)
  refine xR 1 krf ?_
  refine xE ?_
  refine sN ⟨[1, 2, 7, 9, 10, 11, 12, 13], [], [], []⟩ ⟨[(1, I a1most), (2, .p (.val (.func (.func 77) #[] #[]))), (7, I l1_1), (9, I x2), (10, I r3), (11, .p (.sl 1 (List.map ci a0list))), (12, I (lenI (List.map ci a0list))), (13, I l1_2)], []⟩ krf ?_
  refine sim_bind (fun j4 => ⟨[(1, I a1most), (2, .p (.val (.func (.func 77) #[] #[]))), (9, I x2), (11, .p (.sl 1 (List.map ci a0list))), (12, I (lenI (List.map ci a0list))), (13, I l1_2), (27, B j4)], []⟩ : Bool → St) ?_ ?_
  ·refine sG ?_
   refine xR 4 krf ?_
   refine xS (leI r3 l1_1) (fun h5 => ?_) (fun h5 => ?_)
   ·refine xN (want_ft krf h5) krf ?_
    refine xR 3 krf ?_
    refine xE ?_
    exact nq_n true ⟨[1, 2, 9, 11, 12, 13, 27], [], [], []⟩ krf
   ·refine xO (want_ff krf h5) krf ?_
    refine xR 3 krf ?_
    refine xE ?_
    exact nq_n (ltI a1most r3) ⟨[1, 2, 9, 11, 12, 13, 27], [], [], []⟩ krf
  ·rintro j4
   refine sC j4 krf ?_ ?_
   ·refine sR tfm ⟨[6], [], [], []⟩ ⟨[(6, B false)], []⟩ krf ?_
    refine sT ?_
    refine sq_r ?_
    refine bq_r ?_
    refine sq_r ?_
    refine kq_r ?_
    refine bq_r ?_
    refine sq_r ?_
    exact qR (.id) krf krf krf
   ·refine sK ?_
    refine sN ⟨[1, 2, 9, 11, 12, 13], [], [], []⟩ ⟨[(1, I a1most), (2, .p (.val (.func (.func 77) #[] #[]))), (9, I x2), (11, .p (.sl 1 (List.map ci a0list))), (12, I (lenI (List.map ci a0list))), (13, I l1_2)], []⟩ krf ?_
    refine sG ?_
    refine xR 2 krf ?_
    refine xC [] krf (g_days_keys_2_ok n x2) krf krf (fun _ => by kernel_rfl) (fun r6 => ?_)
    refine xR 1 krf ?_
    refine xE ?_
    refine bq_n ?_
    refine sN ⟨[1, 2, 7, 11, 12, 13], [], [], []⟩ ⟨[(1, I a1most), (2, .p (.val (.func (.func 77) #[] #[]))), (7, I r6), (11, .p (.sl 1 (List.map ci a0list))), (12, I (lenI (List.map ci a0list))), (13, I l1_2)], []⟩ krf ?_
    refine sL tfm krf ?_
    exact kq_n (r6, wi (l1_2 + 1)) ⟨[1, 2, 7, 11, 12, 13], [], [], []⟩ krf
 ·refine sim_exit ?_
  refine sq_x ?_
  refine kq_x ?_
  refine bq_hit ?_
  refine sN ⟨[], [], [], []⟩ ⟨[], []⟩ krf ?_
  refine sR tfm ⟨[6], [], [], []⟩ ⟨[(6, B true)], []⟩ krf ?_
  refine sT ?_
  exact qR (.id) krf krf krf
def g_days_Valid_j5 (n : Nat) (a0c : GCl) : Option Bool :=
 (g_dv_api_Change n a0c.Changes 52560000).bind fun r6 =>
 cond r6
  ((g_dv_int n a0c.Holidays 36500).bind fun r8 =>
  some r8)
  (some false)
def g_days_Valid_l9 (n : Nat) (a0c : GCl) (recl9 : Int → Option Bool) (l9 : Int) : Option Bool :=
 cond (ltI l9 (lenI (List.map GCh.cs a0c.Changes)))
  ((getI a0c.Changes l9).bind fun x10 =>
  (g_days_inside n x10.Offset (-1440) 1440).bind fun r11 =>
  cond (!r11)
   (some false)
   (recl9 (wi (l9 + 1))))
  (g_days_Valid_j5 n a0c)
def g_days_Valid (n : Nat) (a0c : GCl) : Option Bool :=
 (cond (ltI 16 (lenI (List.map GCh.cs a0c.Changes)))
  (some true)
  (cond (ltI 32 (lenI (List.map ci a0c.Holidays)))
   (some true)
   ((g_days_inside n a0c.Offset (-1440) 1440).bind fun r4 =>
   some (!r4)))).bind fun j1 =>
 cond j1
  (some false)
  (loopN (fun recl9 l9 => g_days_Valid_l9 n a0c recl9 l9) n 0)
theorem g_days_Valid_ok (n : Nat) (a0c : GCl) : ∀ r, g_days_Valid n a0c = some r → PCall Tryz.prog 53 [ag (GCl.cs a0c)] (.ret (B r)) := by
 refine pcall_sim (X := fun r : Bool => AEnd.ret (B r)) Tryz.func53 rfl Tryz.ntmps53 rfl ?_
 unfold g_days_Valid
 refine sR tfm ⟨[1], [1], [], []⟩ ⟨[(1, .ptr 1 0)], [(1, .box 33 (bxc (GCl.cs a0c)))]⟩ krf ?_
 refine sS ?_
 refine sim_bind (fun j1 => ⟨[(1, .ptr 1 0), (22, B j1)], [(1, .box 33 (bxc (GCl.cs a0c)))]⟩ : Bool → St) ?_ ?_
 ·refine sG ?_
  refine xR 5 krf ?_
  refine xS (ltI 16 (lenI (List.map GCh.cs a0c.Changes))) (fun h2 => ?_) (fun h2 => ?_)
  ·refine xN (want_ft krf h2) krf ?_
   refine xR 10 krf ?_
   refine xE ?_
   exact nq_n true ⟨[1, 22], [1], [], []⟩ krf
  ·refine xO (want_ff krf h2) krf ?_
   refine xR 5 krf ?_
   refine xS (ltI 32 (lenI (List.map ci a0c.Holidays))) (fun h3 => ?_) (fun h3 => ?_)
   ·refine xN (want_ft krf h3) krf ?_
    refine xR 4 krf ?_
    refine xE ?_
    exact nq_n true ⟨[1, 22], [1], [], []⟩ krf
   ·refine xO (want_ff krf h3) krf ?_
    refine xR 1 krf ?_
    refine xC [] krf (g_days_inside_ok n a0c.Offset (-1440) 1440) krf krf (fun _ => by kernel_rfl) (fun r4 => ?_)
    refine xR 2 krf ?_
    refine xE ?_
    exact nq_n (!r4) ⟨[1, 22], [1], [], []⟩ krf
 ·rintro j1
  refine sC j1 krf ?_ ?_
  ·refine sR tfm ⟨[2], [], [], []⟩ ⟨[(2, B false)], []⟩ krf ?_
   refine sT ?_
   refine sq_r ?_
   exact qR (.id) krf krf krf
  ·refine sK ?_
   refine sN ⟨[1], [1], [], []⟩ ⟨[(1, .ptr 1 0)], [(1, .box 33 (bxc (GCl.cs a0c)))]⟩ krf ?_
   refine sim_cps (fun _ => ⟨[(1, .ptr 1 0)], [(1, .box 33 (bxc (GCl.cs a0c)))]⟩ : Unit → St) (fun _ => g_days_Valid_j5 n a0c) ?_ ?_
   ·rintro _
    show SimE (g_days_Valid_j5 n a0c) _ _ _ _ _ _
    unfold g_days_Valid_j5
    refine sS ?_
    refine sG ?_
    refine xs_inline [] [] [] [] [] krf Tryz.func55 rfl Tryz.ntmps55 rfl krf krf krf ?_
    refine sR tfm ⟨[], [], [], []⟩ ⟨[], []⟩ krf ?_
    refine sR tfm ⟨[0, 1], [], [], []⟩ ⟨[(0, .p (.val (.func (.func 76) #[] #[]))), (1, .p (.val (.func (.func 77) #[] #[])))], []⟩ krf ?_
    refine sT ?_
    refine iq_ret (.id) [] [] (.tup [.p (.val (.func (.func 76) #[] #[])), .p (.val (.func (.func 77) #[] #[]))]) krf krf ?_
    refine kr0 ?_
    refine xR 5 krf ?_
    refine xE ?_
    refine sN ⟨[1, 5, 6], [1], [], []⟩ ⟨[(1, .ptr 1 0), (5, .p (.val (.func (.func 76) #[] #[]))), (6, .p (.val (.func (.func 77) #[] #[])))], [(1, .box 33 (bxc (GCl.cs a0c)))]⟩ krf ?_
    refine sS ?_
    refine sG ?_
    refine xR 3 krf ?_
    refine xC [] krf (g_dv_api_Change_ok n a0c.Changes 52560000) krf krf (fun _ => by kernel_rfl) (fun r6 => ?_)
    refine xR 1 krf ?_
    refine xS r6 (fun h7 => ?_) (fun h7 => ?_)
    ·refine xO (want_tt krf h7) krf ?_
     refine xR 2 krf ?_
     refine xC [] krf (g_dv_int_ok n a0c.Holidays 36500) krf krf (fun _ => by kernel_rfl) (fun r8 => ?_)
     refine xR 2 krf ?_
     refine xE ?_
     refine sN ⟨[2], [], [], []⟩ ⟨[(2, B r8)], []⟩ krf ?_
     refine sT ?_
     exact qR (.id) krf krf krf
    ·refine xN (want_tf krf h7) krf ?_
     refine xR 5 krf ?_
     refine xE ?_
     refine sN ⟨[2], [], [], []⟩ ⟨[(2, B false)], []⟩ krf ?_
     refine sT ?_
     exact qR (.id) krf krf krf
   ·refine sR tfm ⟨[1, 24, 25, 26], [1], [], []⟩ ⟨[(1, .ptr 1 0), (24, .p (.sl 2 (List.map GCh.cs a0c.Changes))), (25, I (lenI (List.map GCh.cs a0c.Changes))), (26, I 0)], [(1, .box 33 (bxc (GCl.cs a0c)))]⟩ krf ?_
    refine sB ?_
    refine sim_loop (fun l9 => ⟨[(1, .ptr 1 0), (24, .p (.sl 2 (List.map GCh.cs a0c.Changes))), (25, I (lenI (List.map GCh.cs a0c.Changes))), (26, I l9)], [(1, .box 33 (bxc (GCl.cs a0c)))]⟩ : Int → St) (weak_shr (K := ⟨[1, 24, 25, 26], [1], [], []⟩) krf) ?_
    rintro recl9 l9
    show SimE (g_days_Valid_l9 n a0c recl9 l9) _ _ _ _ _ _
    unfold g_days_Valid_l9
    refine sR tfm ⟨[1, 24, 25, 26, 27], [1], [], []⟩ ⟨[(1, .ptr 1 0), (24, .p (.sl 2 (List.map GCh.cs a0c.Changes))), (25, I (lenI (List.map GCh.cs a0c.Changes))), (26, I l9), (27, B (ltI l9 (lenI (List.map GCh.cs a0c.Changes))))], [(1, .box 33 (bxc (GCl.cs a0c)))]⟩ krf ?_
    refine sS ?_
    refine sC (ltI l9 (lenI (List.map GCh.cs a0c.Changes))) krf ?_ ?_
    ·refine sK ?_
     refine sN ⟨[1, 24, 25, 26], [1], [], []⟩ ⟨[(1, .ptr 1 0), (24, .p (.sl 2 (List.map GCh.cs a0c.Changes))), (25, I (lenI (List.map GCh.cs a0c.Changes))), (26, I l9)], [(1, .box 33 (bxc (GCl.cs a0c)))]⟩ krf ?_
     refine sS ?_
     refine sB ?_
     refine sS ?_
     refine sG ?_
     refine xG krf krf (aop_idx (e := 89) (S := 2) (enc := GCh.cs) (l := a0c.Changes) (k := .i64) (n := l9) (sv := .p (.sl 2 (List.map GCh.cs a0c.Changes))) rfl krf krf krf krf krf) (fun x10 => ?_)
     refine xR 3 krf ?_
     refine xE ?_
     refine sN ⟨[1, 4, 24, 25, 26], [1, 4], [], []⟩ ⟨[(1, .ptr 1 0), (4, .ptr 4 0), (24, .p (.sl 2 (List.map GCh.cs a0c.Changes))), (25, I (lenI (List.map GCh.cs a0c.Changes))), (26, I l9)], [(1, .box 33 (bxc (GCl.cs a0c))), (4, .box 89 (bxc (GCh.cs x10)))]⟩ krf ?_
     refine sS ?_
     refine sG ?_
     refine xR 2 krf ?_
     refine xC [] krf (g_days_inside_ok n x10.Offset (-1440) 1440) krf krf (fun _ => by kernel_rfl) (fun r11 => ?_)
     refine xR 1 krf ?_
     refine xE ?_
     refine sN ⟨[1, 24, 25, 26, 33], [1], [], []⟩ ⟨[(1, .ptr 1 0), (24, .p (.sl 2 (List.map GCh.cs a0c.Changes))), (25, I (lenI (List.map GCh.cs a0c.Changes))), (26, I l9), (33, B (!r11))], [(1, .box 33 (bxc (GCl.cs a0c)))]⟩ krf ?_
     refine sC (!r11) krf ?_ ?_
     ·refine sR tfm ⟨[2], [], [], []⟩ ⟨[(2, B false)], []⟩ krf ?_
      refine sT ?_
      refine bq_r ?_
      refine sq_r ?_
      refine kq_r ?_
      refine bq_r ?_
      refine kq_r ?_
      exact qR (.id) krf krf krf
     ·refine sK ?_
      refine bq_n ?_
      refine sN ⟨[1, 24, 25, 26], [1], [], []⟩ ⟨[(1, .ptr 1 0), (24, .p (.sl 2 (List.map GCh.cs a0c.Changes))), (25, I (lenI (List.map GCh.cs a0c.Changes))), (26, I l9)], [(1, .box 33 (bxc (GCl.cs a0c)))]⟩ krf ?_
      refine sL tfm krf ?_
      exact kq_n (wi (l9 + 1)) ⟨[1, 24, 25, 26], [1], [], []⟩ krf
    ·refine sim_exit ?_
     refine sq_x ?_
     refine kq_x ?_
     refine bq_hit ?_
     exact kq_n (k := fun _ => g_days_Valid_j5 n a0c) () ⟨[1], [1], [], []⟩ krf
def g_days_last_api_Change_l1 (n : Nat) (a0list : List GCh) (a1number : Int) (recl1 : (Int × Int) → Option Int) (l1_1 : Int) (l1_2 : Int) : Option Int :=
 cond (ltI l1_1 l1_2)
  ((getI a0list (wi (l1_1 + (wi (Int.tdiv (wi ((wi (l1_2 - l1_1)) + 1)) 2))))).bind fun x2 =>
  (g_days_keys_1 n x2).bind fun r3 =>
  cond (leI r3 a1number)
   (recl1 (wi (l1_1 + (wi (Int.tdiv (wi ((wi (l1_2 - l1_1)) + 1)) 2))), l1_2))
   (recl1 (l1_1, wi ((wi (l1_1 + (wi (Int.tdiv (wi ((wi (l1_2 - l1_1)) + 1)) 2)))) - 1))))
  (some l1_1)
def g_days_last_api_Change (n : Nat) (a0list : List GCh) (a1number : Int) : Option Int :=
 loopN (fun recl1 (l1_1, l1_2) => g_days_last_api_Change_l1 n a0list a1number recl1 l1_1 l1_2) n ((-1), wi ((lenI (List.map GCh.cs a0list)) - 1))
theorem g_days_last_api_Change_ok (n : Nat) (a0list : List GCh) (a1number : Int) : ∀ r, g_days_last_api_Change n a0list a1number = some r → PCall Tryz.prog 56 [.p (.sl 2 (List.map GCh.cs a0list)), I a1number, .p (.val (.func (.func 76) #[] #[]))] (.ret (I r)) := by
 refine pcall_sim (X := fun r : Int => AEnd.ret (I r)) Tryz.func56 rfl Tryz.ntmps56 rfl ?_
 unfold g_days_last_api_Change
 refine sR tfm ⟨[0, 1, 2], [], [], []⟩ ⟨[(0, .p (.sl 2 (List.map GCh.cs a0list))), (1, I a1number), (2, .p (.val (.func (.func 76) #[] #[])))], []⟩ krf ?_
 refine sR tfm ⟨[0, 1, 2, 7, 8], [], [], []⟩ ⟨[(0, .p (.sl 2 (List.map GCh.cs a0list))), (1, I a1number), (2, .p (.val (.func (.func 76) #[] #[]))), (7, I (-1)), (8, I (wi ((lenI (List.map GCh.cs a0list)) - 1)))], []⟩ krf ?_
 refine sS ?_
 refine sB ?_
 refine sim_loop (fun (l1_1, l1_2) => ⟨[(0, .p (.sl 2 (List.map GCh.cs a0list))), (1, I a1number), (2, .p (.val (.func (.func 76) #[] #[]))), (7, I l1_1), (8, I l1_2)], []⟩ : (Int × Int) → St) (weak_shr (K := ⟨[0, 1, 2, 7, 8], [], [], []⟩) krf) ?_
 rintro recl1 ⟨l1_1, l1_2⟩
 show SimE (g_days_last_api_Change_l1 n a0list a1number recl1 l1_1 l1_2) _ _ _ _ _ _
 unfold g_days_last_api_Change_l1
 refine sS ?_
 refine sR tfm ⟨[0, 1, 2, 7, 8, 15], [], [], []⟩ ⟨[(0, .p (.sl 2 (List.map GCh.cs a0list))), (1, I a1number), (2, .p (.val (.func (.func 76) #[] #[]))), (7, I l1_1), (8, I l1_2), (15, B (ltI l1_1 l1_2))], []⟩ krf ?_
 refine sC (ltI l1_1 l1_2) krf ?_ ?_
 ·refine sK ?_
  refine sN ⟨[0, 1, 2, 7, 8], [], [], []⟩ ⟨[(0, .p (.sl 2 (List.map GCh.cs a0list))), (1, I a1number), (2, .p (.val (.func (.func 76) #[] #[]))), (7, I l1_1), (8, I l1_2)], []⟩ krf ?_
  refine sB ?_
  refine sR tfm ⟨[0, 1, 2, 7, 8, 9], [], [], []⟩ ⟨[(0, .p (.sl 2 (List.map GCh.cs a0list))), (1, I a1number), (2, .p (.val (.func (.func 76) #[] #[]))), (7, I l1_1), (8, I l1_2), (9, I (wi (l1_1 + (wi (Int.tdiv (wi ((wi (l1_2 - l1_1)) + 1)) 2)))))], []⟩ krf ?_
  refine sS ?_
  refine sG ?_
  refine xR 3 krf ?_
  refine xG krf krf (aop_idx (e := 89) (S := 2) (enc := GCh.cs) (l := a0list) (k := .i64) (n := wi (l1_1 + (wi (Int.tdiv (wi ((wi (l1_2 - l1_1)) + 1)) 2)))) (sv := .p (.sl 2 (List.map GCh.cs a0list))) rfl krf krf krf krf krf) (fun x2 => ?_)
  refine xR 1 krf ?_
  refine xC [] krf (g_days_keys_1_ok n x2) krf krf (fun _ => by kernel_rfl) (fun r3 => ?_)
  refine xR 2 krf ?_
  refine xE ?_
  refine sN ⟨[0, 1, 2, 7, 8, 9, 30], [], [], []⟩ ⟨[(0, .p (.sl 2 (List.map GCh.cs a0list))), (1, I a1number), (2, .p (.val (.func (.func 76) #[] #[]))), (7, I l1_1), (8, I l1_2), (9, I (wi (l1_1 + (wi (Int.tdiv (wi ((wi (l1_2 - l1_1)) + 1)) 2))))), (30, B (leI r3 a1number))], []⟩ krf ?_
  refine sC (leI r3 a1number) krf ?_ ?_
  ·refine sL tfm krf ?_
   refine bq_n ?_
   exact kq_n (wi (l1_1 + (wi (Int.tdiv (wi ((wi (l1_2 - l1_1)) + 1)) 2))), l1_2) ⟨[0, 1, 2, 7, 8], [], [], []⟩ krf
  ·refine sL tfm krf ?_
   refine bq_n ?_
   exact kq_n (l1_1, wi ((wi (l1_1 + (wi (Int.tdiv (wi ((wi (l1_2 - l1_1)) + 1)) 2)))) - 1)) ⟨[0, 1, 2, 7, 8], [], [], []⟩ krf
 ·refine sim_exit ?_
  refine sq_x ?_
  refine kq_x ?_
  refine bq_hit ?_
  refine sN ⟨[7], [], [], []⟩ ⟨[(7, I l1_1)], []⟩ krf ?_
  refine sR tfm ⟨[6], [], [], []⟩ ⟨[(6, I l1_1)], []⟩ krf ?_
  refine sT ?_
  exact qR (.id) krf krf krf
def g_days_split (n : Nat) (a0n : Int) (a1by : Int) : Option (Int × Int) :=
 cond (!eqI a1by 0) (
  cond (!eqI a1by 0) (
   cond (ltI (Int.tmod a0n a1by) 0)
    (some (wi ((wi (Int.tdiv a0n a1by)) - 1), wi ((Int.tmod a0n a1by) + a1by)))
    (some (wi (Int.tdiv a0n a1by), Int.tmod a0n a1by))) none) none
theorem g_days_split_ok (n : Nat) (a0n : Int) (a1by : Int) : ∀ r, g_days_split n a0n a1by = some r → PCall Tryz.prog 57 [I a0n, I a1by] (.ret (.tup [I r.1, I r.2])) := by
 refine pcall_sim (X := fun r : Int × Int => AEnd.ret (.tup [I r.1, I r.2])) Tryz.func57 rfl Tryz.ntmps57 rfl ?_
 unfold g_days_split
 refine sR tfm ⟨[0, 1], [], [], []⟩ ⟨[(0, I a0n), (1, I a1by)], []⟩ krf ?_
 refine sS ?_
 refine sim_drw tfm rfl ?_
 refine xR 2 krf ?_
 refine xF krf krf (aop_quo (k := .i64) (a := a0n) (b := a1by) rfl krf krf) ?_
 refine xR 2 krf ?_
 refine xF krf krf (aop_rem (k := .i64) (a := a0n) (b := a1by) rfl krf krf) ?_
 refine xR 2 krf ?_
 refine xs_endD krf ?_
 refine sN ⟨[1, 6, 7], [], [], []⟩ ⟨[(1, I a1by), (6, I (wi (Int.tdiv a0n a1by))), (7, I (Int.tmod a0n a1by))], []⟩ krf ?_
 refine sS ?_
 refine sR tfm ⟨[1, 6, 7, 15], [], [], []⟩ ⟨[(1, I a1by), (6, I (wi (Int.tdiv a0n a1by))), (7, I (Int.tmod a0n a1by)), (15, B (ltI (Int.tmod a0n a1by) 0))], []⟩ krf ?_
 refine sC (ltI (Int.tmod a0n a1by) 0) krf ?_ ?_
 ·refine sL tfm krf ?_
  refine sN ⟨[6, 7], [], [], []⟩ ⟨[(6, I (wi ((wi (Int.tdiv a0n a1by)) - 1))), (7, I (wi ((Int.tmod a0n a1by) + a1by)))], []⟩ krf ?_
  refine sR tfm ⟨[4, 5], [], [], []⟩ ⟨[(4, I (wi ((wi (Int.tdiv a0n a1by)) - 1))), (5, I (wi ((Int.tmod a0n a1by) + a1by)))], []⟩ krf ?_
  refine sT ?_
  exact qR (.id) krf krf krf
 ·refine sK ?_
  refine sN ⟨[6, 7], [], [], []⟩ ⟨[(6, I (wi (Int.tdiv a0n a1by))), (7, I (Int.tmod a0n a1by))], []⟩ krf ?_
  refine sR tfm ⟨[4, 5], [], [], []⟩ ⟨[(4, I (wi (Int.tdiv a0n a1by))), (5, I (Int.tmod a0n a1by))], []⟩ krf ?_
  refine sT ?_
  exact qR (.id) krf krf krf
def g_days_Local (n : Nat) (a0c : GCl) (a1minute : Int) : Option (Int × Int × Int) :=
 ((g_days_Valid n a0c).bind fun r2 =>
 cond (!r2)
  (some true)
  ((g_days_inside n a1minute 0 52560000).bind fun r4 =>
  some (!r4))).bind fun j1 =>
 cond j1
  (some (0, 0, 1))
  (((g_days_last_api_Change n a0c.Changes a1minute).bind fun r6 =>
  cond (leI 0 r6)
   ((getI a0c.Changes r6).bind fun x7 =>
   some x7.Offset)
   (some a0c.Offset)).bind fun j5 =>
  (g_days_split n (wi (a1minute + j5)) 1440).bind fun r8 =>
  some (r8.1, r8.2, 0))
theorem g_days_Local_ok (n : Nat) (a0c : GCl) (a1minute : Int) : ∀ r, g_days_Local n a0c a1minute = some r → PCall Tryz.prog 36 [ag (GCl.cs a0c), I a1minute] (.ret (.tup [I r.1, I r.2.1, I r.2.2])) := by
 refine pcall_sim (X := fun r : Int × Int × Int => AEnd.ret (.tup [I r.1, I r.2.1, I r.2.2])) Tryz.func36 rfl Tryz.ntmps36 rfl ?_
 unfold g_days_Local
 refine sR tfm ⟨[1, 2], [2], [], []⟩ ⟨[(1, I a1minute), (2, .ptr 2 0)], [(2, .box 33 (bxc (GCl.cs a0c)))]⟩ krf ?_
 refine sS ?_
 refine sim_bind (fun j1 => ⟨[(1, I a1minute), (2, .ptr 2 0), (20, B j1)], [(2, .box 33 (bxc (GCl.cs a0c)))]⟩ : Bool → St) ?_ ?_
 ·refine sG ?_
  refine xR 1 krf ?_
  refine xC [] krf (g_days_Valid_ok n a0c) krf krf (fun _ => by kernel_rfl) (fun r2 => ?_)
  refine xR 2 krf ?_
  refine xS (!r2) (fun h3 => ?_) (fun h3 => ?_)
  ·refine xN (want_ft krf h3) krf ?_
   refine xR 3 krf ?_
   refine xE ?_
   exact nq_n true ⟨[1, 2, 20], [2], [], []⟩ krf
  ·refine xO (want_ff krf h3) krf ?_
   refine xC [] krf (g_days_inside_ok n a1minute 0 52560000) krf krf (fun _ => by kernel_rfl) (fun r4 => ?_)
   refine xR 2 krf ?_
   refine xE ?_
   exact nq_n (!r4) ⟨[1, 2, 20], [2], [], []⟩ krf
 ·rintro j1
  refine sC j1 krf ?_ ?_
  ·refine sR tfm ⟨[4, 5, 6], [], [], []⟩ ⟨[(4, I 0), (5, I 0), (6, I 1)], []⟩ krf ?_
   refine sT ?_
   refine sq_r ?_
   exact qR (.id) krf krf krf
  ·refine sK ?_
   refine sN ⟨[1, 2], [2], [], []⟩ ⟨[(1, I a1minute), (2, .ptr 2 0)], [(2, .box 33 (bxc (GCl.cs a0c)))]⟩ krf ?_
   refine sR tfm ⟨[1, 2, 7], [2], [], []⟩ ⟨[(1, I a1minute), (2, .ptr 2 0), (7, I a0c.Offset)], [(2, .box 33 (bxc (GCl.cs a0c)))]⟩ krf ?_
   refine sS ?_
   refine sG ?_
   refine xs_inline [] [] [] [] [] krf Tryz.func55 rfl Tryz.ntmps55 rfl krf krf krf ?_
   refine sR tfm ⟨[], [], [], []⟩ ⟨[], []⟩ krf ?_
   refine sR tfm ⟨[0, 1], [], [], []⟩ ⟨[(0, .p (.val (.func (.func 76) #[] #[]))), (1, .p (.val (.func (.func 77) #[] #[])))], []⟩ krf ?_
   refine sT ?_
   refine iq_ret (.id) [] [] (.tup [.p (.val (.func (.func 76) #[] #[])), .p (.val (.func (.func 77) #[] #[]))]) krf krf ?_
   refine kr0 ?_
   refine xR 5 krf ?_
   refine xE ?_
   refine sN ⟨[1, 2, 7, 8], [2], [], []⟩ ⟨[(1, I a1minute), (2, .ptr 2 0), (7, I a0c.Offset), (8, .p (.val (.func (.func 76) #[] #[])))], [(2, .box 33 (bxc (GCl.cs a0c)))]⟩ krf ?_
   refine sim_bind (fun j5 => ⟨[(1, I a1minute), (7, I j5)], []⟩ : Int → St) ?_ ?_
   ·refine sS ?_
    refine sG ?_
    refine xR 4 krf ?_
    refine xC [] krf (g_days_last_api_Change_ok n a0c.Changes a1minute) krf krf (fun _ => by kernel_rfl) (fun r6 => ?_)
    refine xR 1 krf ?_
    refine xE ?_
    refine sN ⟨[1, 2, 7, 10], [2], [], []⟩ ⟨[(1, I a1minute), (2, .ptr 2 0), (7, I a0c.Offset), (10, I r6)], [(2, .box 33 (bxc (GCl.cs a0c)))]⟩ krf ?_
    refine sR tfm ⟨[1, 2, 7, 10, 33], [2], [], []⟩ ⟨[(1, I a1minute), (2, .ptr 2 0), (7, I a0c.Offset), (10, I r6), (33, B (leI 0 r6))], [(2, .box 33 (bxc (GCl.cs a0c)))]⟩ krf ?_
    refine sC (leI 0 r6) krf ?_ ?_
    ·refine sG ?_
     refine xR 3 krf ?_
     refine xG krf krf (aop_idx (e := 89) (S := 2) (enc := GCh.cs) (l := a0c.Changes) (k := .i64) (n := r6) (sv := .p (.sl 2 (List.map GCh.cs a0c.Changes))) rfl krf krf krf krf krf) (fun x7 => ?_)
     refine xR 3 krf ?_
     refine xE ?_
     exact nq_n x7.Offset ⟨[1, 7], [], [], []⟩ krf
    ·refine sK ?_
     exact nq_n a0c.Offset ⟨[1, 7], [], [], []⟩ krf
   ·rintro j5
    refine sS ?_
    refine sG ?_
    refine xR 3 krf ?_
    refine xC [] krf (g_days_split_ok n (wi (a1minute + j5)) 1440) krf krf (fun _ => by kernel_rfl) (fun r8 => ?_)
    refine xR 5 krf ?_
    refine xE ?_
    refine sN ⟨[11, 12], [], [], []⟩ ⟨[(11, I r8.1), (12, I r8.2)], []⟩ krf ?_
    refine sR tfm ⟨[4, 5, 6], [], [], []⟩ ⟨[(4, I r8.1), (5, I r8.2), (6, I 0)], []⟩ krf ?_
    refine sT ?_
    exact qR (.id) krf krf krf
def g_days_last_int_l1 (n : Nat) (a0list : List Int) (a1number : Int) (recl1 : (Int × Int) → Option Int) (l1_1 : Int) (l1_2 : Int) : Option Int :=
 cond (ltI l1_1 l1_2)
  ((getI a0list (wi (l1_1 + (wi (Int.tdiv (wi ((wi (l1_2 - l1_1)) + 1)) 2))))).bind fun x2 =>
  (g_days_keys_2 n x2).bind fun r3 =>
  cond (leI r3 a1number)
   (recl1 (wi (l1_1 + (wi (Int.tdiv (wi ((wi (l1_2 - l1_1)) + 1)) 2))), l1_2))
   (recl1 (l1_1, wi ((wi (l1_1 + (wi (Int.tdiv (wi ((wi (l1_2 - l1_1)) + 1)) 2)))) - 1))))
  (some l1_1)
def g_days_last_int (n : Nat) (a0list : List Int) (a1number : Int) : Option Int :=
 loopN (fun recl1 (l1_1, l1_2) => g_days_last_int_l1 n a0list a1number recl1 l1_1 l1_2) n ((-1), wi ((lenI (List.map ci a0list)) - 1))
theorem g_days_last_int_ok (n : Nat) (a0list : List Int) (a1number : Int) : ∀ r, g_days_last_int n a0list a1number = some r → PCall Tryz.prog 58 [.p (.sl 1 (List.map ci a0list)), I a1number, .p (.val (.func (.func 77) #[] #[]))] (.ret (I r)) := by
 refine pcall_sim (X := fun r : Int => AEnd.ret (I r)) Tryz.func58 rfl Tryz.ntmps58 rfl ?_
 unfold g_days_last_int
 refine sR tfm ⟨[0, 1, 2], [], [], []⟩ ⟨[(0, .p (.sl 1 (List.map ci a0list))), (1, I a1number), (2, .p (.val (.func (.func 77) #[] #[])))], []⟩ krf ?_
 refine sR tfm ⟨[0, 1, 2, 7, 8], [], [], []⟩ ⟨[(0, .p (.sl 1 (List.map ci a0list))), (1, I a1number), (2, .p (.val (.func (.func 77) #[] #[]))), (7, I (-1)), (8, I (wi ((lenI (List.map ci a0list)) - 1)))], []⟩ krf ?_
 refine sS ?_
 refine sB ?_
 refine sim_loop (fun (l1_1, l1_2) => ⟨[(0, .p (.sl 1 (List.map ci a0list))), (1, I a1number), (2, .p (.val (.func (.func 77) #[] #[]))), (7, I l1_1), (8, I l1_2)], []⟩ : (Int × Int) → St) (weak_shr (K := ⟨[0, 1, 2, 7, 8], [], [], []⟩) krf) ?_
 rintro recl1 ⟨l1_1, l1_2⟩
 show SimE (g_days_last_int_l1 n a0list a1number recl1 l1_1 l1_2) _ _ _ _ _ _
 unfold g_days_last_int_l1
 refine sS ?_
 refine sR tfm ⟨[0, 1, 2, 7, 8, 15], [], [], []⟩ ⟨[(0, .p (.sl 1 (List.map ci a0list))), (1, I a1number), (2, .p (.val (.func (.func 77) #[] #[]))), (7, I l1_1), (8, I l1_2), (15, B (ltI l1_1 l1_2))], []⟩ krf ?_
 refine sC (ltI l1_1 l1_2) krf ?_ ?_
 ·refine sK ?_
  refine sN ⟨[0, 1, 2, 7, 8], [], [], []⟩ ⟨[(0, .p (.sl 1 (List.map ci a0list))), (1, I a1number), (2, .p (.val (.func (.func 77) #[] #[]))), (7, I l1_1), (8, I l1_2)], []⟩ krf ?_
  refine sB ?_
  refine sR tfm ⟨[0, 1, 2, 7, 8, 9], [], [], []⟩ ⟨[(0, .p (.sl 1 (List.map ci a0list))), (1, I a1number), (2, .p (.val (.func (.func 77) #[] #[]))), (7, I l1_1), (8, I l1_2), (9, I (wi (l1_1 + (wi (Int.tdiv (wi ((wi (l1_2 - l1_1)) + 1)) 2)))))], []⟩ krf ?_
  refine sS ?_
  refine sG ?_
  refine xR 3 krf ?_
  refine xG krf krf (aop_idx (e := 3) (S := 1) (enc := ci) (l := a0list) (k := .i64) (n := wi (l1_1 + (wi (Int.tdiv (wi ((wi (l1_2 - l1_1)) + 1)) 2)))) (sv := .p (.sl 1 (List.map ci a0list))) rfl krf krf krf krf krf) (fun x2 => ?_)
  refine xR 1 krf ?_
  refine xC [] krf (g_days_keys_2_ok n x2) krf krf (fun _ => by kernel_rfl) (fun r3 => ?_)
  refine xR 2 krf ?_
  refine xE ?_
  refine sN ⟨[0, 1, 2, 7, 8, 9, 30], [], [], []⟩ ⟨[(0, .p (.sl 1 (List.map ci a0list))), (1, I a1number), (2, .p (.val (.func (.func 77) #[] #[]))), (7, I l1_1), (8, I l1_2), (9, I (wi (l1_1 + (wi (Int.tdiv (wi ((wi (l1_2 - l1_1)) + 1)) 2))))), (30, B (leI r3 a1number))], []⟩ krf ?_
  refine sC (leI r3 a1number) krf ?_ ?_
  ·refine sL tfm krf ?_
   refine bq_n ?_
   exact kq_n (wi (l1_1 + (wi (Int.tdiv (wi ((wi (l1_2 - l1_1)) + 1)) 2))), l1_2) ⟨[0, 1, 2, 7, 8], [], [], []⟩ krf
  ·refine sL tfm krf ?_
   refine bq_n ?_
   exact kq_n (l1_1, wi ((wi (l1_1 + (wi (Int.tdiv (wi ((wi (l1_2 - l1_1)) + 1)) 2)))) - 1)) ⟨[0, 1, 2, 7, 8], [], [], []⟩ krf
 ·refine sim_exit ?_
  refine sq_x ?_
  refine kq_x ?_
  refine bq_hit ?_
  refine sN ⟨[7], [], [], []⟩ ⟨[(7, I l1_1)], []⟩ krf ?_
  refine sR tfm ⟨[6], [], [], []⟩ ⟨[(6, I l1_1)], []⟩ krf ?_
  refine sT ?_
  exact qR (.id) krf krf krf
def g_days_week (n : Nat) : Option (Int × Int × Int × Int × Int × Int × Int) :=
 some (0, 0, 0, 0, 0, 1, 2)
theorem g_days_week_ok (n : Nat) : ∀ r, g_days_week n = some r → PCall Tryz.prog 59 [] (.ret (.agg [I r.1, I r.2.1, I r.2.2.1, I r.2.2.2.1, I r.2.2.2.2.1, I r.2.2.2.2.2.1, I r.2.2.2.2.2.2])) := by
 refine pcall_sim (X := fun r : Int × Int × Int × Int × Int × Int × Int => AEnd.ret (.agg [I r.1, I r.2.1, I r.2.2.1, I r.2.2.2.1, I r.2.2.2.2.1, I r.2.2.2.2.2.1, I r.2.2.2.2.2.2])) Tryz.func59 rfl Tryz.ntmps59 rfl ?_
 unfold g_days_week
 refine sR tfm ⟨[0], [0], [], []⟩ ⟨[(0, .ptr 0 0)], [(0, .box 93 [I 0, I 0, I 0, I 0, I 0, I 0, I 0])]⟩ krf ?_
 refine sR tfm ⟨[0], [0], [], []⟩ ⟨[(0, .ptr 0 0)], [(0, .box 93 [I 0, I 0, I 0, I 0, I 0, I 1, I 2])]⟩ krf ?_
 refine sT ?_
 exact qR (.id) krf krf krf
def g_days_Type (n : Nat) (a0c : GCl) (a1day : Int) : Option (Int × Int) :=
 ((g_days_Valid n a0c).bind fun r2 =>
 cond (!r2)
  (some true)
  ((g_days_inside n a1day (-1) 36501).bind fun r4 =>
  some (!r4))).bind fun j1 =>
 cond j1
  (some (0, 1))
  ((g_days_last_int n a0c.Holidays a1day).bind fun r5 =>
  (cond (leI 0 r5)
   ((getI a0c.Holidays r5).bind fun x8 =>
   some (eqI x8 a1day))
   (some false)).bind fun j6 =>
  cond j6
   (some (2, 0))
   ((g_days_week n).bind fun r9 =>
   (g_days_split n a1day 7).bind fun r10 =>
   (getI [r9.1, r9.2.1, r9.2.2.1, r9.2.2.2.1, r9.2.2.2.2.1, r9.2.2.2.2.2.1, r9.2.2.2.2.2.2] r10.2).bind fun x11 =>
   some (x11, 0)))
theorem g_days_Type_ok (n : Nat) (a0c : GCl) (a1day : Int) : ∀ r, g_days_Type n a0c a1day = some r → PCall Tryz.prog 37 [ag (GCl.cs a0c), I a1day] (.ret (.tup [I r.1, I r.2])) := by
 refine pcall_sim (X := fun r : Int × Int => AEnd.ret (.tup [I r.1, I r.2])) Tryz.func37 rfl Tryz.ntmps37 rfl ?_
 unfold g_days_Type
 refine sR tfm ⟨[1, 2], [2], [], []⟩ ⟨[(1, I a1day), (2, .ptr 2 0)], [(2, .box 33 (bxc (GCl.cs a0c)))]⟩ krf ?_
 refine sS ?_
 refine sim_bind (fun j1 => ⟨[(1, I a1day), (2, .ptr 2 0), (19, B j1)], [(2, .box 33 (bxc (GCl.cs a0c)))]⟩ : Bool → St) ?_ ?_
 ·refine sG ?_
  refine xR 1 krf ?_
  refine xC [] krf (g_days_Valid_ok n a0c) krf krf (fun _ => by kernel_rfl) (fun r2 => ?_)
  refine xR 2 krf ?_
  refine xS (!r2) (fun h3 => ?_) (fun h3 => ?_)
  ·refine xN (want_ft krf h3) krf ?_
   refine xR 3 krf ?_
   refine xE ?_
   exact nq_n true ⟨[1, 2, 19], [2], [], []⟩ krf
  ·refine xO (want_ff krf h3) krf ?_
   refine xC [] krf (g_days_inside_ok n a1day (-1) 36501) krf krf (fun _ => by kernel_rfl) (fun r4 => ?_)
   refine xR 2 krf ?_
   refine xE ?_
   exact nq_n (!r4) ⟨[1, 2, 19], [2], [], []⟩ krf
 ·rintro j1
  refine sC j1 krf ?_ ?_
  ·refine sR tfm ⟨[4, 5], [], [], []⟩ ⟨[(4, I 0), (5, I 1)], []⟩ krf ?_
   refine sT ?_
   refine sq_r ?_
   exact qR (.id) krf krf krf
  ·refine sK ?_
   refine sN ⟨[1, 2], [2], [], []⟩ ⟨[(1, I a1day), (2, .ptr 2 0)], [(2, .box 33 (bxc (GCl.cs a0c)))]⟩ krf ?_
   refine sS ?_
   refine sG ?_
   refine xs_inline [] [] [] [] [] krf Tryz.func55 rfl Tryz.ntmps55 rfl krf krf krf ?_
   refine sR tfm ⟨[], [], [], []⟩ ⟨[], []⟩ krf ?_
   refine sR tfm ⟨[0, 1], [], [], []⟩ ⟨[(0, .p (.val (.func (.func 76) #[] #[]))), (1, .p (.val (.func (.func 77) #[] #[])))], []⟩ krf ?_
   refine sT ?_
   refine iq_ret (.id) [] [] (.tup [.p (.val (.func (.func 76) #[] #[])), .p (.val (.func (.func 77) #[] #[]))]) krf krf ?_
   refine kr0 ?_
   refine xR 5 krf ?_
   refine xE ?_
   refine sN ⟨[1, 2, 7], [2], [], []⟩ ⟨[(1, I a1day), (2, .ptr 2 0), (7, .p (.val (.func (.func 77) #[] #[])))], [(2, .box 33 (bxc (GCl.cs a0c)))]⟩ krf ?_
   refine sS ?_
   refine sS ?_
   refine sG ?_
   refine xR 4 krf ?_
   refine xC [] krf (g_days_last_int_ok n a0c.Holidays a1day) krf krf (fun _ => by kernel_rfl) (fun r5 => ?_)
   refine xR 1 krf ?_
   refine xE ?_
   refine sN ⟨[1, 2, 8], [2], [], []⟩ ⟨[(1, I a1day), (2, .ptr 2 0), (8, I r5)], [(2, .box 33 (bxc (GCl.cs a0c)))]⟩ krf ?_
   refine sim_bind (fun j6 => ⟨[(1, I a1day), (39, B j6)], []⟩ : Bool → St) ?_ ?_
   ·refine sG ?_
    refine xR 3 krf ?_
    refine xS (leI 0 r5) (fun h7 => ?_) (fun h7 => ?_)
    ·refine xO (want_tt krf h7) krf ?_
     refine xR 2 krf ?_
     refine xG krf krf (aop_idx (e := 3) (S := 1) (enc := ci) (l := a0c.Holidays) (k := .i64) (n := r5) (sv := .p (.sl 1 (List.map ci a0c.Holidays))) rfl krf krf krf krf krf) (fun x8 => ?_)
     refine xR 4 krf ?_
     refine xE ?_
     exact nq_n (eqI x8 a1day) ⟨[1, 39], [], [], []⟩ krf
    ·refine xN (want_tf krf h7) krf ?_
     refine xR 7 krf ?_
     refine xE ?_
     exact nq_n false ⟨[1, 39], [], [], []⟩ krf
   ·rintro j6
    refine sC j6 krf ?_ ?_
    ·refine sR tfm ⟨[4, 5], [], [], []⟩ ⟨[(4, I 2), (5, I 0)], []⟩ krf ?_
     refine sT ?_
     refine sq_r ?_
     exact qR (.id) krf krf krf
    ·refine sK ?_
     refine sN ⟨[1], [], [], []⟩ ⟨[(1, I a1day)], []⟩ krf ?_
     refine sS ?_
     refine sG ?_
     refine xC [] krf (g_days_week_ok n) krf krf (fun _ => by kernel_rfl) (fun r9 => ?_)
     refine xR 2 krf ?_
     refine xE ?_
     refine sN ⟨[1, 9], [9], [], []⟩ ⟨[(1, I a1day), (9, .ptr 9 0)], [(9, .box 93 [I r9.1, I r9.2.1, I r9.2.2.1, I r9.2.2.2.1, I r9.2.2.2.2.1, I r9.2.2.2.2.2.1, I r9.2.2.2.2.2.2])]⟩ krf ?_
     refine sS ?_
     refine sG ?_
     refine xR 1 krf ?_
     refine xC [] krf (g_days_split_ok n a1day 7) krf krf (fun _ => by kernel_rfl) (fun r10 => ?_)
     refine xR 5 krf ?_
     refine xE ?_
     refine sN ⟨[9, 11], [9], [], []⟩ ⟨[(9, .ptr 9 0), (11, I r10.2)], [(9, .box 93 [I r9.1, I r9.2.1, I r9.2.2.1, I r9.2.2.2.1, I r9.2.2.2.2.1, I r9.2.2.2.2.2.1, I r9.2.2.2.2.2.2])]⟩ krf ?_
     refine sS ?_
     refine sG ?_
     refine xR 1 krf ?_
     refine xs_getH krf krf (aop_arrL (b := 9) (k := .i64) (n := r10.2) (len := 7) (e := 3) (l := [r9.1, r9.2.1, r9.2.2.1, r9.2.2.2.1, r9.2.2.2.2.1, r9.2.2.2.2.2.1, r9.2.2.2.2.2.2]) rfl krf krf krf krf rfl) (fun x11 hx11 => ?_)
     refine xs_u krf krf (aop_ldL (g := I) (l := [r9.1, r9.2.1, r9.2.2.1, r9.2.2.2.1, r9.2.2.2.2.1, r9.2.2.2.2.2.1, r9.2.2.2.2.2.2]) (tb := 93) (b := 9) (n := r10.2) (v := x11) rfl krf krf krf (getI_at hx11)) ?_
     refine xR 2 krf ?_
     refine xE ?_
     refine sN ⟨[4, 5], [], [], []⟩ ⟨[(4, I x11), (5, I 0)], []⟩ krf ?_
     refine sT ?_
     exact qR (.id) krf krf krf
def g_t_Applies (n : Nat) (a0a : GAr) (a1c : GCl) (a2minute : Int) : Option Bool :=
 (g_t_validArticle n a0a).bind fun r1 =>
 cond (!r1)
  (some false)
  ((g_days_Local n a1c a2minute).bind fun r2 =>
  (cond (!eqI r2.2.2 0)
   (some true)
   (cond (ltI r2.2.1 a0a.From)
    (some true)
    (some (leI a0a.To r2.2.1)))).bind fun j3 =>
  cond j3
   (some false)
   ((g_days_Type n a1c r2.1).bind fun r6 =>
   cond (eqI r6.2 0)
    (cond (!ltI r6.1 0) (
     some (!eqI (bAnd .i64 a0a.Days (shlI .i64 1 r6.1)) 0)) none)
    (some false)))
theorem g_t_Applies_ok (n : Nat) (a0a : GAr) (a1c : GCl) (a2minute : Int) : ∀ r, g_t_Applies n a0a a1c a2minute = some r → PCall Tryz.prog 17 [ag (GAr.cs a0a), ag (GCl.cs a1c), I a2minute] (.ret (B r)) := by
 refine pcall_sim (X := fun r : Bool => AEnd.ret (B r)) Tryz.func17 rfl Tryz.ntmps17 rfl ?_
 unfold g_t_Applies
 refine sR tfm ⟨[2, 3, 4], [3, 4], [], []⟩ ⟨[(2, I a2minute), (3, .ptr 3 0), (4, .ptr 4 0)], [(3, .box 29 (bxc (GAr.cs a0a))), (4, .box 33 (bxc (GCl.cs a1c)))]⟩ krf ?_
 refine sS ?_
 refine sS ?_
 refine sG ?_
 refine xR 1 krf ?_
 refine xC [] krf (g_t_validArticle_ok n a0a) krf krf (fun _ => by kernel_rfl) (fun r1 => ?_)
 refine xR 1 krf ?_
 refine xE ?_
 refine sN ⟨[2, 3, 4, 13], [3, 4], [], []⟩ ⟨[(2, I a2minute), (3, .ptr 3 0), (4, .ptr 4 0), (13, B (!r1))], [(3, .box 29 (bxc (GAr.cs a0a))), (4, .box 33 (bxc (GCl.cs a1c)))]⟩ krf ?_
 refine sC (!r1) krf ?_ ?_
 ·refine sR tfm ⟨[6], [], [], []⟩ ⟨[(6, B false)], []⟩ krf ?_
  refine sT ?_
  refine sq_r ?_
  exact qR (.id) krf krf krf
 ·refine sK ?_
  refine sN ⟨[2, 3, 4], [3, 4], [], []⟩ ⟨[(2, I a2minute), (3, .ptr 3 0), (4, .ptr 4 0)], [(3, .box 29 (bxc (GAr.cs a0a))), (4, .box 33 (bxc (GCl.cs a1c)))]⟩ krf ?_
  refine sS ?_
  refine sG ?_
  refine xR 2 krf ?_
  refine xC [] krf (g_days_Local_ok n a1c a2minute) krf krf (fun _ => by kernel_rfl) (fun r2 => ?_)
  refine xR 7 krf ?_
  refine xE ?_
  refine sN ⟨[3, 4, 7, 8, 9], [3, 4], [], []⟩ ⟨[(3, .ptr 3 0), (4, .ptr 4 0), (7, I r2.1), (8, I r2.2.1), (9, I r2.2.2)], [(3, .box 29 (bxc (GAr.cs a0a))), (4, .box 33 (bxc (GCl.cs a1c)))]⟩ krf ?_
  refine sS ?_
  refine sim_bind (fun j3 => ⟨[(3, .ptr 3 0), (4, .ptr 4 0), (7, I r2.1), (34, B j3)], [(3, .box 29 (bxc (GAr.cs a0a))), (4, .box 33 (bxc (GCl.cs a1c)))]⟩ : Bool → St) ?_ ?_
  ·refine sG ?_
   refine xR 3 krf ?_
   refine xS (!eqI r2.2.2 0) (fun h4 => ?_) (fun h4 => ?_)
   ·refine xN (want_ft krf h4) krf ?_
    refine xR 10 krf ?_
    refine xE ?_
    exact nq_n true ⟨[3, 4, 7, 34], [3, 4], [], []⟩ krf
   ·refine xO (want_ff krf h4) krf ?_
    refine xR 5 krf ?_
    refine xS (ltI r2.2.1 a0a.From) (fun h5 => ?_) (fun h5 => ?_)
    ·refine xN (want_ft krf h5) krf ?_
     refine xR 4 krf ?_
     refine xE ?_
     exact nq_n true ⟨[3, 4, 7, 34], [3, 4], [], []⟩ krf
    ·refine xO (want_ff krf h5) krf ?_
     refine xR 4 krf ?_
     refine xE ?_
     exact nq_n (leI a0a.To r2.2.1) ⟨[3, 4, 7, 34], [3, 4], [], []⟩ krf
  ·rintro j3
   refine sC j3 krf ?_ ?_
   ·refine sR tfm ⟨[6], [], [], []⟩ ⟨[(6, B false)], []⟩ krf ?_
    refine sT ?_
    refine sq_r ?_
    exact qR (.id) krf krf krf
   ·refine sK ?_
    refine sN ⟨[3, 4, 7], [3, 4], [], []⟩ ⟨[(3, .ptr 3 0), (4, .ptr 4 0), (7, I r2.1)], [(3, .box 29 (bxc (GAr.cs a0a))), (4, .box 33 (bxc (GCl.cs a1c)))]⟩ krf ?_
    refine sS ?_
    refine sG ?_
    refine xR 2 krf ?_
    refine xC [] krf (g_days_Type_ok n a1c r2.1) krf krf (fun _ => by kernel_rfl) (fun r6 => ?_)
    refine xR 5 krf ?_
    refine xE ?_
    refine sN ⟨[3, 9, 10], [3], [], []⟩ ⟨[(3, .ptr 3 0), (9, I r6.2), (10, I r6.1)], [(3, .box 29 (bxc (GAr.cs a0a)))]⟩ krf ?_
    refine sS ?_
    refine sim_drw tfm rfl ?_
    refine xR 3 krf ?_
    refine xS (eqI r6.2 0) (fun h7 => ?_) (fun h7 => ?_)
    ·refine xO (want_tt krf h7) krf ?_
     refine xR 2 krf ?_
     refine xF krf krf (aop_shl (k := .i64) (k' := .i64) (a := 1) (b := r6.1) rfl krf krf) ?_
     refine xR 4 krf ?_
     refine xs_endD krf ?_
     refine sN ⟨[6], [], [], []⟩ ⟨[(6, B (!eqI (bAnd .i64 a0a.Days (shlI .i64 1 r6.1)) 0))], []⟩ krf ?_
     refine sT ?_
     exact qR (.id) krf krf krf
    ·refine xN (want_tf krf h7) krf ?_
     refine xR 7 krf ?_
     refine xs_endD krf ?_
     refine sN ⟨[6], [], [], []⟩ ⟨[(6, B false)], []⟩ krf ?_
     refine sT ?_
     exact qR (.id) krf krf krf
def g_t_Valid_l4 (n : Nat) (a0t : GTf) (recl4 : (Int × Int) → Option Bool) (l4_1 : Int) (l4_2 : Int) : Option Bool :=
 cond (ltI l4_2 (lenI (List.map GAr.cs a0t.Articles)))
  ((getI a0t.Articles l4_2).bind fun x5 =>
  (g_t_validArticle n x5).bind fun r6 =>
  cond (!r6)
   (some false)
   (cond (eqI x5.Kind 6)
    (recl4 (wi (l4_1 + 1), wi (l4_2 + 1)))
    (recl4 (l4_1, wi (l4_2 + 1)))))
  (some (leI l4_1 1))
def g_t_Valid (n : Nat) (a0t : GTf) : Option Bool :=
 ((g_p_Valid n (⟨1, [], 0, 0, [GNode.cs (⟨2, a0t.Name, 3, 0, []⟩ : GNode)]⟩ : GNode)).bind fun r2 =>
 cond (!r2)
  (some true)
  (some (ltI 12 (lenI (List.map GAr.cs a0t.Articles))))).bind fun j1 =>
 cond j1
  (some false)
  (loopN (fun recl4 (l4_1, l4_2) => g_t_Valid_l4 n a0t recl4 l4_1 l4_2) n (0, 0))
theorem g_t_Valid_ok (n : Nat) (a0t : GTf) : ∀ r, g_t_Valid n a0t = some r → PCall Tryz.prog 15 [ag (GTf.cs a0t)] (.ret (B r)) := by
 refine pcall_sim (X := fun r : Bool => AEnd.ret (B r)) Tryz.func15 rfl Tryz.ntmps15 rfl ?_
 unfold g_t_Valid
 refine sR tfm ⟨[1], [1], [], []⟩ ⟨[(1, .ptr 1 0)], [(1, .box 27 (bxc (GTf.cs a0t)))]⟩ krf ?_
 refine sR tfm ⟨[1, 3], [1, 3], [], [(3, [.id, .id, .id, .id, .sl 5])]⟩ ⟨[(1, .ptr 1 0), (3, .ptr 3 0)], [(1, .box 27 (bxc (GTf.cs a0t))), (3, .box 24 (bxc (GNode.cs ⟨2, a0t.Name, 3, 0, []⟩)))]⟩ krf ?_
 refine sS ?_
 refine sim_bind (fun j1 => ⟨[(1, .ptr 1 0), (20, B j1)], [(1, .box 27 (bxc (GTf.cs a0t)))]⟩ : Bool → St) ?_ ?_
 ·refine sG ?_
  refine xR 3 krf ?_
  refine xC [.agg [.id, .id, .id, .id, .sl 5]] krf (g_p_Valid_ok n (⟨1, [], 0, 0, [GNode.cs (⟨2, a0t.Name, 3, 0, []⟩ : GNode)]⟩ : GNode)) krf krf (fun _ => by kernel_rfl) (fun r2 => ?_)
  refine xR 2 krf ?_
  refine xS (!r2) (fun h3 => ?_) (fun h3 => ?_)
  ·refine xN (want_ft krf h3) krf ?_
   refine xR 4 krf ?_
   refine xE ?_
   exact nq_n true ⟨[1, 20], [1], [], []⟩ krf
  ·refine xO (want_ff krf h3) krf ?_
   refine xR 4 krf ?_
   refine xE ?_
   exact nq_n (ltI 12 (lenI (List.map GAr.cs a0t.Articles))) ⟨[1, 20], [1], [], []⟩ krf
 ·rintro j1
  refine sC j1 krf ?_ ?_
  ·refine sR tfm ⟨[2], [], [], []⟩ ⟨[(2, B false)], []⟩ krf ?_
   refine sT ?_
   refine sq_r ?_
   exact qR (.id) krf krf krf
  ·refine sK ?_
   refine sN ⟨[1], [1], [], []⟩ ⟨[(1, .ptr 1 0)], [(1, .box 27 (bxc (GTf.cs a0t)))]⟩ krf ?_
   refine sR tfm ⟨[1, 4], [1], [], []⟩ ⟨[(1, .ptr 1 0), (4, I 0)], [(1, .box 27 (bxc (GTf.cs a0t)))]⟩ krf ?_
   refine sS ?_
   refine sR tfm ⟨[4, 22, 23, 24], [], [], []⟩ ⟨[(4, I 0), (22, .p (.sl 7 (List.map GAr.cs a0t.Articles))), (23, I (lenI (List.map GAr.cs a0t.Articles))), (24, I 0)], []⟩ krf ?_
   refine sB ?_
   refine sim_loop (fun (l4_1, l4_2) => ⟨[(4, I l4_1), (22, .p (.sl 7 (List.map GAr.cs a0t.Articles))), (23, I (lenI (List.map GAr.cs a0t.Articles))), (24, I l4_2)], []⟩ : (Int × Int) → St) (weak_shr (K := ⟨[4, 22, 23, 24], [], [], []⟩) krf) ?_
   rintro recl4 ⟨l4_1, l4_2⟩
   show SimE (g_t_Valid_l4 n a0t recl4 l4_1 l4_2) _ _ _ _ _ _
   unfold g_t_Valid_l4
   refine sR tfm ⟨[4, 22, 23, 24, 25], [], [], []⟩ ⟨[(4, I l4_1), (22, .p (.sl 7 (List.map GAr.cs a0t.Articles))), (23, I (lenI (List.map GAr.cs a0t.Articles))), (24, I l4_2), (25, B (ltI l4_2 (lenI (List.map GAr.cs a0t.Articles))))], []⟩ krf ?_
   refine sS ?_
   refine sC (ltI l4_2 (lenI (List.map GAr.cs a0t.Articles))) krf ?_ ?_
   ·refine sK ?_
    refine sN ⟨[4, 22, 23, 24], [], [], []⟩ ⟨[(4, I l4_1), (22, .p (.sl 7 (List.map GAr.cs a0t.Articles))), (23, I (lenI (List.map GAr.cs a0t.Articles))), (24, I l4_2)], []⟩ krf ?_
    refine sS ?_
    refine sB ?_
    refine sS ?_
    refine sG ?_
    refine xG krf krf (aop_idx (e := 29) (S := 7) (enc := GAr.cs) (l := a0t.Articles) (k := .i64) (n := l4_2) (sv := .p (.sl 7 (List.map GAr.cs a0t.Articles))) rfl krf krf krf krf krf) (fun x5 => ?_)
    refine xR 3 krf ?_
    refine xE ?_
    refine sN ⟨[4, 6, 22, 23, 24], [6], [], []⟩ ⟨[(4, I l4_1), (6, .ptr 6 0), (22, .p (.sl 7 (List.map GAr.cs a0t.Articles))), (23, I (lenI (List.map GAr.cs a0t.Articles))), (24, I l4_2)], [(6, .box 29 (bxc (GAr.cs x5)))]⟩ krf ?_
    refine sS ?_
    refine sS ?_
    refine sG ?_
    refine xR 1 krf ?_
    refine xC [] krf (g_t_validArticle_ok n x5) krf krf (fun _ => by kernel_rfl) (fun r6 => ?_)
    refine xR 1 krf ?_
    refine xE ?_
    refine sN ⟨[4, 6, 22, 23, 24, 30], [6], [], []⟩ ⟨[(4, I l4_1), (6, .ptr 6 0), (22, .p (.sl 7 (List.map GAr.cs a0t.Articles))), (23, I (lenI (List.map GAr.cs a0t.Articles))), (24, I l4_2), (30, B (!r6))], [(6, .box 29 (bxc (GAr.cs x5)))]⟩ krf ?_
    refine sC (!r6) krf ?_ ?_
    ·refine sR tfm ⟨[2], [], [], []⟩ ⟨[(2, B false)], []⟩ krf ?_
     refine sT ?_
     refine sq_r ?_
     refine bq_r ?_
     refine sq_r ?_
     refine kq_r ?_
     refine bq_r ?_
     refine sq_r ?_
     exact qR (.id) krf krf krf
    ·refine sK ?_
     refine sN ⟨[4, 6, 22, 23, 24], [6], [], []⟩ ⟨[(4, I l4_1), (6, .ptr 6 0), (22, .p (.sl 7 (List.map GAr.cs a0t.Articles))), (23, I (lenI (List.map GAr.cs a0t.Articles))), (24, I l4_2)], [(6, .box 29 (bxc (GAr.cs x5)))]⟩ krf ?_
     refine sR tfm ⟨[4, 22, 23, 24, 33], [], [], []⟩ ⟨[(4, I l4_1), (22, .p (.sl 7 (List.map GAr.cs a0t.Articles))), (23, I (lenI (List.map GAr.cs a0t.Articles))), (24, I l4_2), (33, B (eqI x5.Kind 6))], []⟩ krf ?_
     refine sC (eqI x5.Kind 6) krf ?_ ?_
     ·refine sL tfm krf ?_
      refine bq_n ?_
      refine sN ⟨[4, 22, 23, 24], [], [], []⟩ ⟨[(4, I (wi (l4_1 + 1))), (22, .p (.sl 7 (List.map GAr.cs a0t.Articles))), (23, I (lenI (List.map GAr.cs a0t.Articles))), (24, I l4_2)], []⟩ krf ?_
      refine sL tfm krf ?_
      exact kq_n (wi (l4_1 + 1), wi (l4_2 + 1)) ⟨[4, 22, 23, 24], [], [], []⟩ krf
     ·refine sK ?_
      refine bq_n ?_
      refine sN ⟨[4, 22, 23, 24], [], [], []⟩ ⟨[(4, I l4_1), (22, .p (.sl 7 (List.map GAr.cs a0t.Articles))), (23, I (lenI (List.map GAr.cs a0t.Articles))), (24, I l4_2)], []⟩ krf ?_
      refine sL tfm krf ?_
      exact kq_n (l4_1, wi (l4_2 + 1)) ⟨[4, 22, 23, 24], [], [], []⟩ krf
   ·refine sim_exit ?_
    refine sq_x ?_
    refine kq_x ?_
    refine bq_hit ?_
    refine sN ⟨[4], [], [], []⟩ ⟨[(4, I l4_1)], []⟩ krf ?_
    refine sR tfm ⟨[2], [], [], []⟩ ⟨[(2, B (leI l4_1 1))], []⟩ krf ?_
    refine sT ?_
    exact qR (.id) krf krf krf
def g_law32_head (n : Nat) : Option Bool :=
 ((g_law32_is n [116, 97, 114, 105, 102, 102, 32, 116, 32, 123, 32, 101, 110, 101, 114, 103, 121, 32, 51, 48, 32, 111, 110, 32, 119, 111, 114, 107, 32, 98, 101, 116, 119, 101, 101, 110, 32, 52, 56, 48, 32, 49, 50, 48, 48, 59, 32, 125] (⟨2, 1, 480, 1200, 30, 0, 0⟩ : GAr)).bind fun r2 =>
 cond r2
  ((g_law32_is n [116, 97, 114, 105, 102, 102, 32, 116, 32, 123, 32, 116, 105, 109, 101, 32, 53, 32, 102, 114, 101, 101, 32, 49, 48, 32, 112, 101, 114, 32, 49, 53, 59, 32, 125] (⟨3, 7, 0, 1440, 5, 15, 10⟩ : GAr)).bind fun r4 =>
  some r4)
  (some false)).bind fun j1 =>
 (cond j1
  ((g_law32_fails n [116, 97, 114, 105, 102, 102, 32, 116, 32, 123, 32, 116, 105, 109, 101, 32, 53, 59, 32, 125] 9 11).bind fun r7 =>
  cond r7
   ((g_law32_fails n [116, 97, 114, 105, 102, 102, 32, 116, 32, 123, 32, 101, 110, 101, 114, 103, 121, 32, 53, 32, 98, 101, 116, 119, 101, 101, 110, 32, 57, 32, 57, 59, 32, 125] 3 11).bind fun r9 =>
   some r9)
   (some false))
  (some false)).bind fun j5 =>
 (cond j5
  ((g_t_Applies n (⟨2, 1, 480, 1200, 30, 0, 0⟩ : GAr) (⟨0, [], []⟩ : GCl) 480).bind fun r12 =>
  cond r12
   ((g_t_Applies n (⟨2, 1, 480, 1200, 30, 0, 0⟩ : GAr) (⟨0, [], []⟩ : GCl) 1199).bind fun r14 =>
   cond r14
    ((g_t_Applies n (⟨2, 1, 480, 1200, 30, 0, 0⟩ : GAr) (⟨0, [], []⟩ : GCl) 479).bind fun r16 =>
    cond (!r16)
     ((g_t_Applies n (⟨2, 1, 480, 1200, 30, 0, 0⟩ : GAr) (⟨0, [], []⟩ : GCl) 1200).bind fun r18 =>
     cond (!r18)
      ((g_t_Applies n (⟨2, 1, 480, 1200, 30, 0, 0⟩ : GAr) (⟨0, [], []⟩ : GCl) 7700).bind fun r20 =>
      cond (!r20)
       ((g_t_Applies n (⟨2, 1, 480, 1200, 30, 0, 0⟩ : GAr) (⟨0, [], []⟩ : GCl) 10580).bind fun r22 =>
       some r22)
       (some false))
      (some false))
     (some false))
    (some false))
   (some false))
  (some false)).bind fun j10 =>
 cond j10
  ((g_t_Valid n (⟨[116], [(⟨2, 1, 480, 1200, 30, 0, 0⟩ : GAr)]⟩ : GTf)).bind fun r24 =>
  cond r24
   ((g_t_Valid n (⟨[111, 110], []⟩ : GTf)).bind fun r26 =>
   some (!r26))
   (some false))
  (some false)
theorem g_law32_head_ok (n : Nat) : ∀ r, g_law32_head n = some r → PCall Tryz.prog 7 [] (.ret (B r)) := by
 refine pcall_sim (X := fun r : Bool => AEnd.ret (B r)) Tryz.func7 rfl Tryz.ntmps7 rfl ?_
 unfold g_law32_head
 refine sR tfm ⟨[], [], [], []⟩ ⟨[], []⟩ krf ?_
 refine sR tfm ⟨[1], [1], [], []⟩ ⟨[(1, .ptr 1 0)], [(1, .box 29 [I 2, I 1, I 480, I 1200, I 30, I 0, I 0])]⟩ krf ?_
 refine sim_bind (fun j1 => ⟨[(1, .ptr 1 0), (2, B j1)], [(1, .box 29 [I 2, I 1, I 480, I 1200, I 30, I 0, I 0])]⟩ : Bool → St) ?_ ?_
 ·refine sG ?_
  refine xR 1 krf ?_
  refine xC [] krf (g_law32_is_ok n [116, 97, 114, 105, 102, 102, 32, 116, 32, 123, 32, 101, 110, 101, 114, 103, 121, 32, 51, 48, 32, 111, 110, 32, 119, 111, 114, 107, 32, 98, 101, 116, 119, 101, 101, 110, 32, 52, 56, 48, 32, 49, 50, 48, 48, 59, 32, 125] (⟨2, 1, 480, 1200, 30, 0, 0⟩ : GAr)) krf krf (fun _ => by kernel_rfl) (fun r2 => ?_)
  refine xR 1 krf ?_
  refine xS r2 (fun h3 => ?_) (fun h3 => ?_)
  ·refine xO (want_tt krf h3) krf ?_
   refine xC [] krf (g_law32_is_ok n [116, 97, 114, 105, 102, 102, 32, 116, 32, 123, 32, 116, 105, 109, 101, 32, 53, 32, 102, 114, 101, 101, 32, 49, 48, 32, 112, 101, 114, 32, 49, 53, 59, 32, 125] (⟨3, 7, 0, 1440, 5, 15, 10⟩ : GAr)) krf krf (fun _ => by kernel_rfl) (fun r4 => ?_)
   refine xR 2 krf ?_
   refine xE ?_
   exact nq_n r4 ⟨[1, 2], [1], [], []⟩ krf
  ·refine xN (want_tf krf h3) krf ?_
   refine xR 3 krf ?_
   refine xE ?_
   exact nq_n false ⟨[1, 2], [1], [], []⟩ krf
 ·rintro j1
  refine sim_bind (fun j5 => ⟨[(1, .ptr 1 0), (2, B j5)], [(1, .box 29 [I 2, I 1, I 480, I 1200, I 30, I 0, I 0])]⟩ : Bool → St) ?_ ?_
  ·refine sG ?_
   refine xR 2 krf ?_
   refine xS j1 (fun h6 => ?_) (fun h6 => ?_)
   ·refine xC [] (want_tt krf h6) (g_law32_fails_ok n [116, 97, 114, 105, 102, 102, 32, 116, 32, 123, 32, 116, 105, 109, 101, 32, 53, 59, 32, 125] 9 11) krf krf (fun _ => by kernel_rfl) (fun r7 => ?_)
    refine xR 2 krf ?_
    refine xS r7 (fun h8 => ?_) (fun h8 => ?_)
    ·refine xC [] (want_tt krf h8) (g_law32_fails_ok n [116, 97, 114, 105, 102, 102, 32, 116, 32, 123, 32, 101, 110, 101, 114, 103, 121, 32, 53, 32, 98, 101, 116, 119, 101, 101, 110, 32, 57, 32, 57, 59, 32, 125] 3 11) krf krf (fun _ => by kernel_rfl) (fun r9 => ?_)
     refine xR 2 krf ?_
     refine xE ?_
     exact nq_n r9 ⟨[1, 2], [1], [], []⟩ krf
    ·refine xN (want_tf krf h8) krf ?_
     refine xR 2 krf ?_
     refine xE ?_
     exact nq_n false ⟨[1, 2], [1], [], []⟩ krf
   ·refine xN (want_tf krf h6) krf ?_
    refine xR 5 krf ?_
    refine xE ?_
    exact nq_n false ⟨[1, 2], [1], [], []⟩ krf
  ·rintro j5
   refine sR tfm ⟨[1, 2, 3], [1, 3], [], []⟩ ⟨[(1, .ptr 1 0), (2, B j5), (3, .ptr 3 0)], [(1, .box 29 [I 2, I 1, I 480, I 1200, I 30, I 0, I 0]), (3, .box 33 [I 0, .p (.val (.slice none 0 0)), .p (.val (.slice none 0 0))])]⟩ krf ?_
   refine sim_bind (fun j10 => ⟨[(1, .ptr 1 0), (2, B j10)], [(1, .box 29 [I 2, I 1, I 480, I 1200, I 30, I 0, I 0])]⟩ : Bool → St) ?_ ?_
   ·refine sG ?_
    refine xR 2 krf ?_
    refine xS j5 (fun h11 => ?_) (fun h11 => ?_)
    ·refine xO (want_tt krf h11) krf ?_
     refine xR 1 krf ?_
     refine xC [.id, .agg [.id, .sl 2, .sl 1], .id] krf (g_t_Applies_ok n (⟨2, 1, 480, 1200, 30, 0, 0⟩ : GAr) (⟨0, [], []⟩ : GCl) 480) krf krf (fun _ => by kernel_rfl) (fun r12 => ?_)
     refine xR 2 krf ?_
     refine xS r12 (fun h13 => ?_) (fun h13 => ?_)
     ·refine xO (want_tt krf h13) krf ?_
      refine xR 1 krf ?_
      refine xC [.id, .agg [.id, .sl 2, .sl 1], .id] krf (g_t_Applies_ok n (⟨2, 1, 480, 1200, 30, 0, 0⟩ : GAr) (⟨0, [], []⟩ : GCl) 1199) krf krf (fun _ => by kernel_rfl) (fun r14 => ?_)
      refine xR 2 krf ?_
      refine xS r14 (fun h15 => ?_) (fun h15 => ?_)
      ·refine xO (want_tt krf h15) krf ?_
       refine xR 1 krf ?_
       refine xC [.id, .agg [.id, .sl 2, .sl 1], .id] krf (g_t_Applies_ok n (⟨2, 1, 480, 1200, 30, 0, 0⟩ : GAr) (⟨0, [], []⟩ : GCl) 479) krf krf (fun _ => by kernel_rfl) (fun r16 => ?_)
       refine xR 3 krf ?_
       refine xS (!r16) (fun h17 => ?_) (fun h17 => ?_)
       ·refine xO (want_tt krf h17) krf ?_
        refine xR 1 krf ?_
        refine xC [.id, .agg [.id, .sl 2, .sl 1], .id] krf (g_t_Applies_ok n (⟨2, 1, 480, 1200, 30, 0, 0⟩ : GAr) (⟨0, [], []⟩ : GCl) 1200) krf krf (fun _ => by kernel_rfl) (fun r18 => ?_)
        refine xR 3 krf ?_
        refine xS (!r18) (fun h19 => ?_) (fun h19 => ?_)
        ·refine xO (want_tt krf h19) krf ?_
         refine xR 1 krf ?_
         refine xC [.id, .agg [.id, .sl 2, .sl 1], .id] krf (g_t_Applies_ok n (⟨2, 1, 480, 1200, 30, 0, 0⟩ : GAr) (⟨0, [], []⟩ : GCl) 7700) krf krf (fun _ => by kernel_rfl) (fun r20 => ?_)
         refine xR 3 krf ?_
         refine xS (!r20) (fun h21 => ?_) (fun h21 => ?_)
         ·refine xO (want_tt krf h21) krf ?_
          refine xR 1 krf ?_
          refine xC [.id, .agg [.id, .sl 2, .sl 1], .id] krf (g_t_Applies_ok n (⟨2, 1, 480, 1200, 30, 0, 0⟩ : GAr) (⟨0, [], []⟩ : GCl) 10580) krf krf (fun _ => by kernel_rfl) (fun r22 => ?_)
          refine xR 2 krf ?_
          refine xE ?_
          exact nq_n r22 ⟨[1, 2], [1], [], []⟩ krf
         ·refine xN (want_tf krf h21) krf ?_
          refine xR 4 krf ?_
          refine xE ?_
          exact nq_n false ⟨[1, 2], [1], [], []⟩ krf
        ·refine xN (want_tf krf h19) krf ?_
         refine xR 10 krf ?_
         refine xE ?_
         exact nq_n false ⟨[1, 2], [1], [], []⟩ krf
       ·refine xN (want_tf krf h17) krf ?_
        refine xR 16 krf ?_
        refine xE ?_
        exact nq_n false ⟨[1, 2], [1], [], []⟩ krf
      ·refine xN (want_tf krf h15) krf ?_
       refine xR 22 krf ?_
       refine xE ?_
       exact nq_n false ⟨[1, 2], [1], [], []⟩ krf
     ·refine xN (want_tf krf h13) krf ?_
      refine xR 27 krf ?_
      refine xE ?_
      exact nq_n false ⟨[1, 2], [1], [], []⟩ krf
    ·refine xN (want_tf krf h11) krf ?_
     refine xR 32 krf ?_
     refine xE ?_
     exact nq_n false ⟨[1, 2], [1], [], []⟩ krf
   ·rintro j10
    refine sS ?_
    refine sG ?_
    refine xR 2 krf ?_
    refine xS j10 (fun h23 => ?_) (fun h23 => ?_)
    ·refine xO (want_tt krf h23) krf ?_
     refine xR 2 krf ?_
     refine xC [.agg [.id, .sl 7]] krf (g_t_Valid_ok n (⟨[116], [(⟨2, 1, 480, 1200, 30, 0, 0⟩ : GAr)]⟩ : GTf)) krf krf (fun _ => by kernel_rfl) (fun r24 => ?_)
     refine xR 2 krf ?_
     refine xS r24 (fun h25 => ?_) (fun h25 => ?_)
     ·refine xO (want_tt krf h25) krf ?_
      refine xC [.agg [.id, .sl 7]] krf (g_t_Valid_ok n (⟨[111, 110], []⟩ : GTf)) krf krf (fun _ => by kernel_rfl) (fun r26 => ?_)
      refine xR 3 krf ?_
      refine xE ?_
      refine sN ⟨[0], [], [], []⟩ ⟨[(0, B (!r26))], []⟩ krf ?_
      refine sT ?_
      exact qR (.id) krf krf krf
     ·refine xN (want_tf krf h25) krf ?_
      refine xR 4 krf ?_
      refine xE ?_
      refine sN ⟨[0], [], [], []⟩ ⟨[(0, B false)], []⟩ krf ?_
      refine sT ?_
      exact qR (.id) krf krf krf
    ·refine xN (want_tf krf h23) krf ?_
     refine xR 10 krf ?_
     refine xE ?_
     refine sN ⟨[0], [], [], []⟩ ⟨[(0, B false)], []⟩ krf ?_
     refine sT ?_
     exact qR (.id) krf krf krf
def g_ref02_Count_l1 (a0n : GNode) (a1most : Int) (rf_ref02_Count : GNode → Int → Option Int) (recl1 : (Int × Int) → Option Int) (l1_1 : Int) (l1_2 : Int) : Option Int :=
 (cond (ltI l1_2 (lenI (List.map idc a0n.Kids)))
  (some (leI l1_1 a1most))
  (some false)).bind fun j2 =>
 cond j2
  ((Option.bind (getI a0n.Kids l1_2) GNode.of).bind fun x4 =>
  (rf_ref02_Count x4 (wi (a1most - l1_1))).bind fun r5 =>
  recl1 (wi (l1_1 + r5), wi (l1_2 + 1)))
  (some l1_1)
def g_ref02_Count_body (n : Nat) (rf_ref02_Count : GNode → Int → Option Int) (a0n : GNode) (a1most : Int) : Option Int :=
 loopN (fun recl1 (l1_1, l1_2) => g_ref02_Count_l1 a0n a1most rf_ref02_Count recl1 l1_1 l1_2) n (1, 0)
def g_ref02_Count : Nat → GNode → Int → Option Int
 | 0, _, _ => none
 | n + 1, a0n, a1most => g_ref02_Count_body n (g_ref02_Count n) a0n a1most
theorem g_ref02_Count_ok (n : Nat) (a0n : GNode) (a1most : Int) : ∀ r, g_ref02_Count n a0n a1most = some r → PCall Tryz.prog 26 [ag (GNode.cs a0n), I a1most] (.ret (I r)) := by
 induction n generalizing a0n a1most with
 | zero => intro r hr; cases (show (none : Option Int) = some r from hr)
 | succ n ih =>
 show ∀ r, g_ref02_Count_body n (g_ref02_Count n) a0n a1most = some r → _
 generalize g_ref02_Count n = rf_ref02_Count at ih ⊢
 refine pcall_sim (X := fun r : Int => AEnd.ret (I r)) Tryz.func26 rfl Tryz.ntmps26 rfl ?_
 unfold g_ref02_Count_body
 refine sR tfm ⟨[1, 2], [2], [], []⟩ ⟨[(1, I a1most), (2, .ptr 2 0)], [(2, .box 24 (bxc (GNode.cs a0n)))]⟩ krf ?_
 refine sR tfm ⟨[1, 2, 5], [2], [], []⟩ ⟨[(1, I a1most), (2, .ptr 2 0), (5, I 1)], [(2, .box 24 (bxc (GNode.cs a0n)))]⟩ krf ?_
 refine sS ?_
 refine sR tfm ⟨[1, 2, 5, 6], [2], [], []⟩ ⟨[(1, I a1most), (2, .ptr 2 0), (5, I 1), (6, I 0)], [(2, .box 24 (bxc (GNode.cs a0n)))]⟩ krf ?_
 refine sB ?_
 refine sim_loop (fun (l1_1, l1_2) => ⟨[(1, I a1most), (2, .ptr 2 0), (5, I l1_1), (6, I l1_2)], [(2, .box 24 (bxc (GNode.cs a0n)))]⟩ : (Int × Int) → St) (weak_shr (K := ⟨[1, 2, 5, 6], [2], [], []⟩) krf) ?_
 rintro recl1 ⟨l1_1, l1_2⟩
 show SimE (g_ref02_Count_l1 a0n a1most rf_ref02_Count recl1 l1_1 l1_2) _ _ _ _ _ _
 unfold g_ref02_Count_l1
 refine sS ?_
 refine sim_bind (fun j2 => ⟨[(1, I a1most), (2, .ptr 2 0), (5, I l1_1), (6, I l1_2), (16, B j2)], [(2, .box 24 (bxc (GNode.cs a0n)))]⟩ : Bool → St) ?_ ?_
 ·refine sG ?_
  refine xR 6 krf ?_
  refine xS (ltI l1_2 (lenI (List.map idc a0n.Kids))) (fun h3 => ?_) (fun h3 => ?_)
  ·refine xO (want_tt krf h3) krf ?_
   refine xR 3 krf ?_
   refine xE ?_
   exact nq_n (leI l1_1 a1most) ⟨[1, 2, 5, 6, 16], [2], [], []⟩ krf
  ·refine xN (want_tf krf h3) krf ?_
   refine xR 3 krf ?_
   refine xE ?_
   exact nq_n false ⟨[1, 2, 5, 6, 16], [2], [], []⟩ krf
 ·rintro j2
  refine sC j2 krf ?_ ?_
  ·refine sK ?_
   refine sN ⟨[1, 2, 5, 6], [2], [], []⟩ ⟨[(1, I a1most), (2, .ptr 2 0), (5, I l1_1), (6, I l1_2)], [(2, .box 24 (bxc (GNode.cs a0n)))]⟩ krf ?_
   refine sS ?_
   refine sB ?_
   refine sG ?_
   refine xR 4 krf ?_
   refine xG krf krf (aop_idxR (e := 24) (S := 5) (enc := GNode.cs) (dec := GNode.of) (l := a0n.Kids) (k := .i64) (n := l1_2) (sv := .p (.sl 5 (List.map idc a0n.Kids))) GNode.of_cs rfl krf krf krf krf krf) (fun x4 => ?_)
   refine xR 4 krf ?_
   refine xC [] krf (ih x4 (wi (a1most - l1_1))) krf krf (fun _ => by kernel_rfl) (fun r5 => ?_)
   refine xR 2 krf ?_
   refine xE ?_
   refine bq_n ?_
   refine sN ⟨[1, 2, 5, 6], [2], [], []⟩ ⟨[(1, I a1most), (2, .ptr 2 0), (5, I (wi (l1_1 + r5))), (6, I l1_2)], [(2, .box 24 (bxc (GNode.cs a0n)))]⟩ krf ?_
   refine sL tfm krf ?_
   exact kq_n (wi (l1_1 + r5), wi (l1_2 + 1)) ⟨[1, 2, 5, 6], [2], [], []⟩ krf
  ·refine sim_exit ?_
   refine sq_x ?_
   refine kq_x ?_
   refine bq_hit ?_
   refine sN ⟨[5], [], [], []⟩ ⟨[(5, I l1_1)], []⟩ krf ?_
   refine sR tfm ⟨[4], [], [], []⟩ ⟨[(4, I l1_1)], []⟩ krf ?_
   refine sT ?_
   exact qR (.id) krf krf krf
def g_ref02_names_l3 (a0n : GNode) (a1depth : Int) (rf_ref02_names : GNode → Int → Option Bool) (recl3 : Int → Option Bool) (l3 : Int) : Option Bool :=
 cond (ltI l3 (lenI (List.map idc a0n.Kids)))
  ((Option.bind (getI a0n.Kids l3) GNode.of).bind fun x4 =>
  (rf_ref02_names x4 (wi (a1depth - 1))).bind fun r5 =>
  cond (!r5)
   (some false)
   (recl3 (wi (l3 + 1))))
  (some true)
def g_ref02_names_body (n : Nat) (rf_ref02_names : GNode → Int → Option Bool) (a0n : GNode) (a1depth : Int) : Option Bool :=
 (cond (eqI a1depth 0)
  (some true)
  (some (ltI 40 (lenI a0n.Name)))).bind fun j1 =>
 cond j1
  (some false)
  (loopN (fun recl3 l3 => g_ref02_names_l3 a0n a1depth rf_ref02_names recl3 l3) n 0)
def g_ref02_names : Nat → GNode → Int → Option Bool
 | 0, _, _ => none
 | n + 1, a0n, a1depth => g_ref02_names_body n (g_ref02_names n) a0n a1depth
theorem g_ref02_names_ok (n : Nat) (a0n : GNode) (a1depth : Int) : ∀ r, g_ref02_names n a0n a1depth = some r → PCall Tryz.prog 27 [ag (GNode.cs a0n), I a1depth] (.ret (B r)) := by
 induction n generalizing a0n a1depth with
 | zero => intro r hr; cases (show (none : Option Bool) = some r from hr)
 | succ n ih =>
 show ∀ r, g_ref02_names_body n (g_ref02_names n) a0n a1depth = some r → _
 generalize g_ref02_names n = rf_ref02_names at ih ⊢
 refine pcall_sim (X := fun r : Bool => AEnd.ret (B r)) Tryz.func27 rfl Tryz.ntmps27 rfl ?_
 unfold g_ref02_names_body
 refine sR tfm ⟨[1, 2], [2], [], []⟩ ⟨[(1, I a1depth), (2, .ptr 2 0)], [(2, .box 24 (bxc (GNode.cs a0n)))]⟩ krf ?_
 refine sS ?_
 refine sim_bind (fun j1 => ⟨[(1, I a1depth), (2, .ptr 2 0), (13, B j1)], [(2, .box 24 (bxc (GNode.cs a0n)))]⟩ : Bool → St) ?_ ?_
 ·refine sG ?_
  refine xR 3 krf ?_
  refine xS (eqI a1depth 0) (fun h2 => ?_) (fun h2 => ?_)
  ·refine xN (want_ft krf h2) krf ?_
   refine xR 4 krf ?_
   refine xE ?_
   exact nq_n true ⟨[1, 2, 13], [2], [], []⟩ krf
  ·refine xO (want_ff krf h2) krf ?_
   refine xR 4 krf ?_
   refine xE ?_
   exact nq_n (ltI 40 (lenI a0n.Name)) ⟨[1, 2, 13], [2], [], []⟩ krf
 ·rintro j1
  refine sC j1 krf ?_ ?_
  ·refine sR tfm ⟨[4], [], [], []⟩ ⟨[(4, B false)], []⟩ krf ?_
   refine sT ?_
   refine sq_r ?_
   exact qR (.id) krf krf krf
  ·refine sK ?_
   refine sN ⟨[1, 2], [2], [], []⟩ ⟨[(1, I a1depth), (2, .ptr 2 0)], [(2, .box 24 (bxc (GNode.cs a0n)))]⟩ krf ?_
   refine sS ?_
   refine sR tfm ⟨[1, 2, 5], [2], [], []⟩ ⟨[(1, I a1depth), (2, .ptr 2 0), (5, I 0)], [(2, .box 24 (bxc (GNode.cs a0n)))]⟩ krf ?_
   refine sB ?_
   refine sim_loop (fun l3 => ⟨[(1, I a1depth), (2, .ptr 2 0), (5, I l3)], [(2, .box 24 (bxc (GNode.cs a0n)))]⟩ : Int → St) (weak_shr (K := ⟨[1, 2, 5], [2], [], []⟩) krf) ?_
   rintro recl3 l3
   show SimE (g_ref02_names_l3 a0n a1depth rf_ref02_names recl3 l3) _ _ _ _ _ _
   unfold g_ref02_names_l3
   refine sS ?_
   refine sR tfm ⟨[1, 2, 5, 18], [2], [], []⟩ ⟨[(1, I a1depth), (2, .ptr 2 0), (5, I l3), (18, B (ltI l3 (lenI (List.map idc a0n.Kids))))], [(2, .box 24 (bxc (GNode.cs a0n)))]⟩ krf ?_
   refine sC (ltI l3 (lenI (List.map idc a0n.Kids))) krf ?_ ?_
   ·refine sK ?_
    refine sN ⟨[1, 2, 5], [2], [], []⟩ ⟨[(1, I a1depth), (2, .ptr 2 0), (5, I l3)], [(2, .box 24 (bxc (GNode.cs a0n)))]⟩ krf ?_
    refine sS ?_
    refine sB ?_
    refine sS ?_
    refine sG ?_
    refine xR 3 krf ?_
    refine xG krf krf (aop_idxR (e := 24) (S := 5) (enc := GNode.cs) (dec := GNode.of) (l := a0n.Kids) (k := .i64) (n := l3) (sv := .p (.sl 5 (List.map idc a0n.Kids))) GNode.of_cs rfl krf krf krf krf krf) (fun x4 => ?_)
    refine xR 3 krf ?_
    refine xC [] krf (ih x4 (wi (a1depth - 1))) krf krf (fun _ => by kernel_rfl) (fun r5 => ?_)
    refine xR 1 krf ?_
    refine xE ?_
    refine sN ⟨[1, 2, 5, 29], [2], [], []⟩ ⟨[(1, I a1depth), (2, .ptr 2 0), (5, I l3), (29, B (!r5))], [(2, .box 24 (bxc (GNode.cs a0n)))]⟩ krf ?_
    refine sC (!r5) krf ?_ ?_
    ·refine sR tfm ⟨[4], [], [], []⟩ ⟨[(4, B false)], []⟩ krf ?_
     refine sT ?_
     refine bq_r ?_
     refine sq_r ?_
     refine kq_r ?_
     refine bq_r ?_
     refine sq_r ?_
     exact qR (.id) krf krf krf
    ·refine sK ?_
     refine bq_n ?_
     refine sN ⟨[1, 2, 5], [2], [], []⟩ ⟨[(1, I a1depth), (2, .ptr 2 0), (5, I l3)], [(2, .box 24 (bxc (GNode.cs a0n)))]⟩ krf ?_
     refine sL tfm krf ?_
     exact kq_n (wi (l3 + 1)) ⟨[1, 2, 5], [2], [], []⟩ krf
   ·refine sim_exit ?_
    refine sq_x ?_
    refine kq_x ?_
    refine bq_hit ?_
    refine sN ⟨[], [], [], []⟩ ⟨[], []⟩ krf ?_
    refine sR tfm ⟨[4], [], [], []⟩ ⟨[(4, B true)], []⟩ krf ?_
    refine sT ?_
    exact qR (.id) krf krf krf
def g_ref02_Few (n : Nat) (a0n : GNode) (a1most : Int) : Option Bool :=
 (g_ref02_Count n a0n a1most).bind fun r1 =>
 cond (leI r1 a1most)
  ((g_ref02_names n a0n 50).bind fun r3 =>
  some r3)
  (some false)
theorem g_ref02_Few_ok (n : Nat) (a0n : GNode) (a1most : Int) : ∀ r, g_ref02_Few n a0n a1most = some r → PCall Tryz.prog 8 [ag (GNode.cs a0n), I a1most] (.ret (B r)) := by
 refine pcall_sim (X := fun r : Bool => AEnd.ret (B r)) Tryz.func8 rfl Tryz.ntmps8 rfl ?_
 unfold g_ref02_Few
 refine sR tfm ⟨[1, 2], [2], [], []⟩ ⟨[(1, I a1most), (2, .ptr 2 0)], [(2, .box 24 (bxc (GNode.cs a0n)))]⟩ krf ?_
 refine sS ?_
 refine sG ?_
 refine xR 2 krf ?_
 refine xC [] krf (g_ref02_Count_ok n a0n a1most) krf krf (fun _ => by kernel_rfl) (fun r1 => ?_)
 refine xR 3 krf ?_
 refine xS (leI r1 a1most) (fun h2 => ?_) (fun h2 => ?_)
 ·refine xO (want_tt krf h2) krf ?_
  refine xC [] krf (g_ref02_names_ok n a0n 50) krf krf (fun _ => by kernel_rfl) (fun r3 => ?_)
  refine xR 2 krf ?_
  refine xE ?_
  refine sN ⟨[4], [], [], []⟩ ⟨[(4, B r3)], []⟩ krf ?_
  refine sT ?_
  exact qR (.id) krf krf krf
 ·refine xN (want_tf krf h2) krf ?_
  refine xR 3 krf ?_
  refine xE ?_
  refine sN ⟨[4], [], [], []⟩ ⟨[(4, B false)], []⟩ krf ?_
  refine sT ?_
  exact qR (.id) krf krf krf
def g_ref02_Kinds (n : Nat) : Option (List (List UInt8)) :=
 some [[102, 101, 101, 100, 101, 114], [99, 97, 98, 108, 101], [111, 119, 110, 101, 114], [99, 111, 110, 116, 114, 97, 99, 116], [99, 104, 97, 114, 103, 101, 114], [98, 97, 121], [116, 97, 114, 105, 102, 102]]
theorem g_ref02_Kinds_ok (n : Nat) : ∀ r, g_ref02_Kinds n = some r → PCall Tryz.prog 49 [] (.ret (.p (.sl 1 (List.map cstr r)))) := by
 refine pcall_sim (X := fun r : List (List UInt8) => AEnd.ret (.p (.sl 1 (List.map cstr r)))) Tryz.func49 rfl Tryz.ntmps49 rfl ?_
 unfold g_ref02_Kinds
 refine sR tfm ⟨[], [], [], []⟩ ⟨[], []⟩ krf ?_
 refine sR tfm ⟨[0], [1], [], []⟩ ⟨[(0, .tsl 1 (List.map cstr [[102, 101, 101, 100, 101, 114], [99, 97, 98, 108, 101], [111, 119, 110, 101, 114], [99, 111, 110, 116, 114, 97, 99, 116], [99, 104, 97, 114, 103, 101, 114], [98, 97, 121], [116, 97, 114, 105, 102, 102]]) 1)], [(1, .arr 9 1 (List.map cstr [[102, 101, 101, 100, 101, 114], [99, 97, 98, 108, 101], [111, 119, 110, 101, 114], [99, 111, 110, 116, 114, 97, 99, 116], [99, 104, 97, 114, 103, 101, 114], [98, 97, 121], [116, 97, 114, 105, 102, 102]]).length)]⟩ krf ?_
 refine sT ?_
 exact qR (.sl 1) krf krf krf
def g_ref02_In_l1 (a0l : List (List UInt8)) (a1s : List UInt8) (recl1 : Int → Option Int) (l1 : Int) : Option Int :=
 cond (ltI l1 (lenI (List.map cstr a0l)))
  ((getI a0l l1).bind fun x2 =>
  cond (eqS x2 a1s)
   (some l1)
   (recl1 (wi (l1 + 1))))
  (some (-1))
def g_ref02_In (n : Nat) (a0l : List (List UInt8)) (a1s : List UInt8) : Option Int :=
 loopN (fun recl1 l1 => g_ref02_In_l1 a0l a1s recl1 l1) n 0
theorem g_ref02_In_ok (n : Nat) (a0l : List (List UInt8)) (a1s : List UInt8) : ∀ r, g_ref02_In n a0l a1s = some r → PCall Tryz.prog 32 [.p (.sl 1 (List.map cstr a0l)), S a1s] (.ret (I r)) := by
 refine pcall_sim (X := fun r : Int => AEnd.ret (I r)) Tryz.func32 rfl Tryz.ntmps32 rfl ?_
 unfold g_ref02_In
 refine sR tfm ⟨[0, 1], [], [], []⟩ ⟨[(0, .p (.sl 1 (List.map cstr a0l))), (1, S a1s)], []⟩ krf ?_
 refine sS ?_
 refine sR tfm ⟨[0, 1, 5], [], [], []⟩ ⟨[(0, .p (.sl 1 (List.map cstr a0l))), (1, S a1s), (5, I 0)], []⟩ krf ?_
 refine sB ?_
 refine sim_loop (fun l1 => ⟨[(0, .p (.sl 1 (List.map cstr a0l))), (1, S a1s), (5, I l1)], []⟩ : Int → St) (weak_shr (K := ⟨[0, 1, 5], [], [], []⟩) krf) ?_
 rintro recl1 l1
 show SimE (g_ref02_In_l1 a0l a1s recl1 l1) _ _ _ _ _ _
 unfold g_ref02_In_l1
 refine sS ?_
 refine sR tfm ⟨[0, 1, 5, 9], [], [], []⟩ ⟨[(0, .p (.sl 1 (List.map cstr a0l))), (1, S a1s), (5, I l1), (9, B (ltI l1 (lenI (List.map cstr a0l))))], []⟩ krf ?_
 refine sC (ltI l1 (lenI (List.map cstr a0l))) krf ?_ ?_
 ·refine sK ?_
  refine sN ⟨[0, 1, 5], [], [], []⟩ ⟨[(0, .p (.sl 1 (List.map cstr a0l))), (1, S a1s), (5, I l1)], []⟩ krf ?_
  refine sS ?_
  refine sB ?_
  refine sS ?_
  refine sG ?_
  refine xR 2 krf ?_
  refine xG krf krf (aop_idx (e := 9) (S := 1) (enc := cstr) (l := a0l) (k := .i64) (n := l1) (sv := .p (.sl 1 (List.map cstr a0l))) rfl krf krf krf krf krf) (fun x2 => ?_)
  refine xR 3 krf ?_
  refine xE ?_
  refine sN ⟨[0, 1, 5, 17], [], [], []⟩ ⟨[(0, .p (.sl 1 (List.map cstr a0l))), (1, S a1s), (5, I l1), (17, B (eqS x2 a1s))], []⟩ krf ?_
  refine sC (eqS x2 a1s) krf ?_ ?_
  ·refine sR tfm ⟨[4], [], [], []⟩ ⟨[(4, I l1)], []⟩ krf ?_
   refine sT ?_
   refine bq_r ?_
   refine sq_r ?_
   refine kq_r ?_
   refine bq_r ?_
   refine sq_r ?_
   exact qR (.id) krf krf krf
  ·refine sK ?_
   refine bq_n ?_
   refine sN ⟨[0, 1, 5], [], [], []⟩ ⟨[(0, .p (.sl 1 (List.map cstr a0l))), (1, S a1s), (5, I l1)], []⟩ krf ?_
   refine sL tfm krf ?_
   exact kq_n (wi (l1 + 1)) ⟨[0, 1, 5], [], [], []⟩ krf
 ·refine sim_exit ?_
  refine sq_x ?_
  refine kq_x ?_
  refine bq_hit ?_
  refine sN ⟨[], [], [], []⟩ ⟨[], []⟩ krf ?_
  refine sR tfm ⟨[4], [], [], []⟩ ⟨[(4, I (-1))], []⟩ krf ?_
  refine sT ?_
  exact qR (.id) krf krf krf
def g_ref02_Attrs (n : Nat) : Option (List (List UInt8)) :=
 some [[108, 105, 109, 105, 116], [110, 101, 117, 116, 114, 97, 108], [102, 117, 115, 101], [116, 104, 101, 114, 109, 97, 108], [102, 114, 111, 109], [97, 116], [112, 104, 97, 115, 101, 115], [97, 109, 112, 115], [102, 97, 108, 108, 98, 97, 99, 107], [111, 119, 110, 101, 114], [99, 97, 114, 100], [114, 97, 110, 107], [99, 104, 97, 114, 103, 101, 114]]
theorem g_ref02_Attrs_ok (n : Nat) : ∀ r, g_ref02_Attrs n = some r → PCall Tryz.prog 50 [] (.ret (.p (.sl 1 (List.map cstr r)))) := by
 refine pcall_sim (X := fun r : List (List UInt8) => AEnd.ret (.p (.sl 1 (List.map cstr r)))) Tryz.func50 rfl Tryz.ntmps50 rfl ?_
 unfold g_ref02_Attrs
 refine sR tfm ⟨[], [], [], []⟩ ⟨[], []⟩ krf ?_
 refine sR tfm ⟨[0], [1], [], []⟩ ⟨[(0, .tsl 1 (List.map cstr [[108, 105, 109, 105, 116], [110, 101, 117, 116, 114, 97, 108], [102, 117, 115, 101], [116, 104, 101, 114, 109, 97, 108], [102, 114, 111, 109], [97, 116], [112, 104, 97, 115, 101, 115], [97, 109, 112, 115], [102, 97, 108, 108, 98, 97, 99, 107], [111, 119, 110, 101, 114], [99, 97, 114, 100], [114, 97, 110, 107], [99, 104, 97, 114, 103, 101, 114]]) 1)], [(1, .arr 9 1 (List.map cstr [[108, 105, 109, 105, 116], [110, 101, 117, 116, 114, 97, 108], [102, 117, 115, 101], [116, 104, 101, 114, 109, 97, 108], [102, 114, 111, 109], [97, 116], [112, 104, 97, 115, 101, 115], [97, 109, 112, 115], [102, 97, 108, 108, 98, 97, 99, 107], [111, 119, 110, 101, 114], [99, 97, 114, 100], [114, 97, 110, 107], [99, 104, 97, 114, 103, 101, 114]]).length)]⟩ krf ?_
 refine sT ?_
 exact qR (.sl 1) krf krf krf
def g_ref02_Articles (n : Nat) : Option (List (List UInt8)) :=
 some [[115, 116, 97, 114, 116], [101, 110, 101, 114, 103, 121], [116, 105, 109, 101], [105, 100, 108, 101], [99, 97, 112], [116, 97, 120]]
theorem g_ref02_Articles_ok (n : Nat) : ∀ r, g_ref02_Articles n = some r → PCall Tryz.prog 51 [] (.ret (.p (.sl 1 (List.map cstr r)))) := by
 refine pcall_sim (X := fun r : List (List UInt8) => AEnd.ret (.p (.sl 1 (List.map cstr r)))) Tryz.func51 rfl Tryz.ntmps51 rfl ?_
 unfold g_ref02_Articles
 refine sR tfm ⟨[], [], [], []⟩ ⟨[], []⟩ krf ?_
 refine sR tfm ⟨[0], [1], [], []⟩ ⟨[(0, .tsl 1 (List.map cstr [[115, 116, 97, 114, 116], [101, 110, 101, 114, 103, 121], [116, 105, 109, 101], [105, 100, 108, 101], [99, 97, 112], [116, 97, 120]]) 1)], [(1, .arr 9 1 (List.map cstr [[115, 116, 97, 114, 116], [101, 110, 101, 114, 103, 121], [116, 105, 109, 101], [105, 100, 108, 101], [99, 97, 112], [116, 97, 120]]).length)]⟩ krf ?_
 refine sT ?_
 exact qR (.sl 1) krf krf krf
def g_ref02_Words (n : Nat) : Option (List (List UInt8)) :=
 some [[111, 110], [119, 111, 114, 107], [115, 97, 116, 117, 114, 100, 97, 121], [115, 117, 110, 100, 97, 121], [98, 101, 116, 119, 101, 101, 110], [112, 101, 114], [102, 114, 101, 101]]
theorem g_ref02_Words_ok (n : Nat) : ∀ r, g_ref02_Words n = some r → PCall Tryz.prog 52 [] (.ret (.p (.sl 1 (List.map cstr r)))) := by
 refine pcall_sim (X := fun r : List (List UInt8) => AEnd.ret (.p (.sl 1 (List.map cstr r)))) Tryz.func52 rfl Tryz.ntmps52 rfl ?_
 unfold g_ref02_Words
 refine sR tfm ⟨[], [], [], []⟩ ⟨[], []⟩ krf ?_
 refine sR tfm ⟨[0], [1], [], []⟩ ⟨[(0, .tsl 1 (List.map cstr [[111, 110], [119, 111, 114, 107], [115, 97, 116, 117, 114, 100, 97, 121], [115, 117, 110, 100, 97, 121], [98, 101, 116, 119, 101, 101, 110], [112, 101, 114], [102, 114, 101, 101]]) 1)], [(1, .arr 9 1 (List.map cstr [[111, 110], [119, 111, 114, 107], [115, 97, 116, 117, 114, 100, 97, 121], [115, 117, 110, 100, 97, 121], [98, 101, 116, 119, 101, 101, 110], [112, 101, 114], [102, 114, 101, 101]]).length)]⟩ krf ?_
 refine sT ?_
 exact qR (.sl 1) krf krf krf
def g_ref02_Name_j1 (n : Nat) (a0s : List UInt8) : Option Bool :=
 ((g_ref02_Kinds n).bind fun r3 =>
 (g_ref02_In n r3 a0s).bind fun r4 =>
 cond (leI 0 r4)
  (some true)
  ((g_ref02_Attrs n).bind fun r6 =>
  (g_ref02_In n r6 a0s).bind fun r7 =>
  cond (leI 0 r7)
   (some true)
   ((g_ref02_Articles n).bind fun r9 =>
   (g_ref02_In n r9 a0s).bind fun r10 =>
   cond (leI 0 r10)
    (some true)
    ((g_ref02_Words n).bind fun r12 =>
    (g_ref02_In n r12 a0s).bind fun r13 =>
    some (leI 0 r13))))).bind fun j2 =>
 cond (leI 1 (lenI a0s))
  (cond (leI (lenI a0s) 12)
   (some (!j2))
   (some false))
  (some false)
def g_ref02_Name_l16 (n : Nat) (a0s : List UInt8) (recl16 : Int → Option Bool) (l16 : Int) : Option Bool :=
 cond (ltI l16 (lenI a0s))
  ((getI a0s l16).bind fun x17 =>
  (cond (ltI (b2i x17) 97)
   (cond (eqI l16 0)
    (some true)
    (cond (ltI (b2i x17) 48)
     (some (!eqI (b2i x17) 95))
     (cond (ltI 57 (b2i x17))
      (some (!eqI (b2i x17) 95))
      (some false))))
   (cond (ltI 122 (b2i x17))
    (cond (eqI l16 0)
     (some true)
     (cond (ltI (b2i x17) 48)
      (some (!eqI (b2i x17) 95))
      (cond (ltI 57 (b2i x17))
       (some (!eqI (b2i x17) 95))
       (some false))))
    (some false))).bind fun j18 =>
  cond j18
   (some false)
   (recl16 (wi (l16 + 1))))
  (g_ref02_Name_j1 n a0s)
def g_ref02_Name (n : Nat) (a0s : List UInt8) : Option Bool :=
 loopN (fun recl16 l16 => g_ref02_Name_l16 n a0s recl16 l16) n 0
theorem g_ref02_Name_ok (n : Nat) (a0s : List UInt8) : ∀ r, g_ref02_Name n a0s = some r → PCall Tryz.prog 34 [S a0s] (.ret (B r)) := by
 refine pcall_sim (X := fun r : Bool => AEnd.ret (B r)) Tryz.func34 rfl Tryz.ntmps34 rfl ?_
 unfold g_ref02_Name
 refine sR tfm ⟨[0], [], [], []⟩ ⟨[(0, S a0s)], []⟩ krf ?_
 refine sim_cps (fun _ => ⟨[(0, S a0s)], []⟩ : Unit → St) (fun _ => g_ref02_Name_j1 n a0s) ?_ ?_
 ·rintro _
  show SimE (g_ref02_Name_j1 n a0s) _ _ _ _ _ _
  unfold g_ref02_Name_j1
  refine sim_bind (fun j2 => ⟨[(0, S a0s), (5, B j2)], []⟩ : Bool → St) ?_ ?_
  ·refine sG ?_
   refine xC [] krf (g_ref02_Kinds_ok n) krf krf (fun _ => by kernel_rfl) (fun r3 => ?_)
   refine xR 1 krf ?_
   refine xC [] krf (g_ref02_In_ok n r3 a0s) krf krf (fun _ => by kernel_rfl) (fun r4 => ?_)
   refine xR 2 krf ?_
   refine xS (leI 0 r4) (fun h5 => ?_) (fun h5 => ?_)
   ·refine xN (want_ft krf h5) krf ?_
    refine xR 17 krf ?_
    refine xE ?_
    exact nq_n true ⟨[0, 5], [], [], []⟩ krf
   ·refine xC [] (want_ff krf h5) (g_ref02_Attrs_ok n) krf krf (fun _ => by kernel_rfl) (fun r6 => ?_)
    refine xR 1 krf ?_
    refine xC [] krf (g_ref02_In_ok n r6 a0s) krf krf (fun _ => by kernel_rfl) (fun r7 => ?_)
    refine xR 3 krf ?_
    refine xS (leI 0 r7) (fun h8 => ?_) (fun h8 => ?_)
    ·refine xN (want_ft krf h8) krf ?_
     refine xR 11 krf ?_
     refine xE ?_
     exact nq_n true ⟨[0, 5], [], [], []⟩ krf
    ·refine xC [] (want_ff krf h8) (g_ref02_Articles_ok n) krf krf (fun _ => by kernel_rfl) (fun r9 => ?_)
     refine xR 1 krf ?_
     refine xC [] krf (g_ref02_In_ok n r9 a0s) krf krf (fun _ => by kernel_rfl) (fun r10 => ?_)
     refine xR 3 krf ?_
     refine xS (leI 0 r10) (fun h11 => ?_) (fun h11 => ?_)
     ·refine xN (want_ft krf h11) krf ?_
      refine xR 5 krf ?_
      refine xE ?_
      exact nq_n true ⟨[0, 5], [], [], []⟩ krf
     ·refine xC [] (want_ff krf h11) (g_ref02_Words_ok n) krf krf (fun _ => by kernel_rfl) (fun r12 => ?_)
      refine xR 1 krf ?_
      refine xC [] krf (g_ref02_In_ok n r12 a0s) krf krf (fun _ => by kernel_rfl) (fun r13 => ?_)
      refine xR 3 krf ?_
      refine xE ?_
      exact nq_n (leI 0 r13) ⟨[0, 5], [], [], []⟩ krf
  ·rintro j2
   refine sS ?_
   refine sG ?_
   refine xR 4 krf ?_
   refine xS (leI 1 (lenI a0s)) (fun h14 => ?_) (fun h14 => ?_)
   ·refine xO (want_tt krf h14) krf ?_
    refine xR 4 krf ?_
    refine xS (leI (lenI a0s) 12) (fun h15 => ?_) (fun h15 => ?_)
    ·refine xO (want_tt krf h15) krf ?_
     refine xR 3 krf ?_
     refine xE ?_
     refine sN ⟨[2], [], [], []⟩ ⟨[(2, B (!j2))], []⟩ krf ?_
     refine sT ?_
     exact qR (.id) krf krf krf
    ·refine xN (want_tf krf h15) krf ?_
     refine xR 3 krf ?_
     refine xE ?_
     refine sN ⟨[2], [], [], []⟩ ⟨[(2, B false)], []⟩ krf ?_
     refine sT ?_
     exact qR (.id) krf krf krf
   ·refine xN (want_tf krf h14) krf ?_
    refine xR 8 krf ?_
    refine xE ?_
    refine sN ⟨[2], [], [], []⟩ ⟨[(2, B false)], []⟩ krf ?_
    refine sT ?_
    exact qR (.id) krf krf krf
 ·refine sR tfm ⟨[0, 3], [], [], []⟩ ⟨[(0, S a0s), (3, I 0)], []⟩ krf ?_
  refine sB ?_
  refine sim_loop (fun l16 => ⟨[(0, S a0s), (3, I l16)], []⟩ : Int → St) (weak_shr (K := ⟨[0, 3], [], [], []⟩) krf) ?_
  rintro recl16 l16
  show SimE (g_ref02_Name_l16 n a0s recl16 l16) _ _ _ _ _ _
  unfold g_ref02_Name_l16
  refine sS ?_
  refine sR tfm ⟨[0, 3, 9], [], [], []⟩ ⟨[(0, S a0s), (3, I l16), (9, B (ltI l16 (lenI a0s)))], []⟩ krf ?_
  refine sC (ltI l16 (lenI a0s)) krf ?_ ?_
  ·refine sK ?_
   refine sN ⟨[0, 3], [], [], []⟩ ⟨[(0, S a0s), (3, I l16)], []⟩ krf ?_
   refine sS ?_
   refine sB ?_
   refine sS ?_
   refine sG ?_
   refine xR 2 krf ?_
   refine xG krf krf (aop_sidx (l := a0s) (k := .i64) (n := l16) rfl krf krf krf) (fun x17 => ?_)
   refine xR 1 krf ?_
   refine xE ?_
   refine sN ⟨[0, 3, 4], [], [], []⟩ ⟨[(0, S a0s), (3, I l16), (4, B8 (b2i x17))], []⟩ krf ?_
   refine sim_bind (fun j18 => ⟨[(0, S a0s), (3, I l16), (36, B j18)], []⟩ : Bool → St) ?_ ?_
   ·refine sG ?_
    refine xR 3 krf ?_
    refine xS (ltI (b2i x17) 97) (fun h19 => ?_) (fun h19 => ?_)
    ·refine xN (want_ft krf h19) krf ?_
     refine xR 6 krf ?_
     refine xS (eqI l16 0) (fun h20 => ?_) (fun h20 => ?_)
     ·refine xN (want_ft krf h20) krf ?_
      refine xR 11 krf ?_
      refine xE ?_
      exact nq_n true ⟨[0, 3, 36], [], [], []⟩ krf
     ·refine xO (want_ff krf h20) krf ?_
      refine xR 2 krf ?_
      refine xS (ltI (b2i x17) 48) (fun h21 => ?_) (fun h21 => ?_)
      ·refine xN (want_ft krf h21) krf ?_
       refine xR 8 krf ?_
       refine xE ?_
       exact nq_n (!eqI (b2i x17) 95) ⟨[0, 3, 36], [], [], []⟩ krf
      ·refine xO (want_ff krf h21) krf ?_
       refine xR 3 krf ?_
       refine xS (ltI 57 (b2i x17)) (fun h22 => ?_) (fun h22 => ?_)
       ·refine xO (want_tt krf h22) krf ?_
        refine xR 4 krf ?_
        refine xE ?_
        exact nq_n (!eqI (b2i x17) 95) ⟨[0, 3, 36], [], [], []⟩ krf
       ·refine xN (want_tf krf h22) krf ?_
        refine xR 4 krf ?_
        refine xE ?_
        exact nq_n false ⟨[0, 3, 36], [], [], []⟩ krf
    ·refine xO (want_ff krf h19) krf ?_
     refine xR 3 krf ?_
     refine xS (ltI 122 (b2i x17)) (fun h23 => ?_) (fun h23 => ?_)
     ·refine xO (want_tt krf h23) krf ?_
      refine xR 2 krf ?_
      refine xS (eqI l16 0) (fun h24 => ?_) (fun h24 => ?_)
      ·refine xN (want_ft krf h24) krf ?_
       refine xR 11 krf ?_
       refine xE ?_
       exact nq_n true ⟨[0, 3, 36], [], [], []⟩ krf
      ·refine xO (want_ff krf h24) krf ?_
       refine xR 2 krf ?_
       refine xS (ltI (b2i x17) 48) (fun h25 => ?_) (fun h25 => ?_)
       ·refine xN (want_ft krf h25) krf ?_
        refine xR 8 krf ?_
        refine xE ?_
        exact nq_n (!eqI (b2i x17) 95) ⟨[0, 3, 36], [], [], []⟩ krf
       ·refine xO (want_ff krf h25) krf ?_
        refine xR 3 krf ?_
        refine xS (ltI 57 (b2i x17)) (fun h26 => ?_) (fun h26 => ?_)
        ·refine xO (want_tt krf h26) krf ?_
         refine xR 4 krf ?_
         refine xE ?_
         exact nq_n (!eqI (b2i x17) 95) ⟨[0, 3, 36], [], [], []⟩ krf
        ·refine xN (want_tf krf h26) krf ?_
         refine xR 4 krf ?_
         refine xE ?_
         exact nq_n false ⟨[0, 3, 36], [], [], []⟩ krf
     ·refine xN (want_tf krf h23) krf ?_
      refine xR 14 krf ?_
      refine xE ?_
      exact nq_n false ⟨[0, 3, 36], [], [], []⟩ krf
   ·rintro j18
    refine sC j18 krf ?_ ?_
    ·refine sR tfm ⟨[2], [], [], []⟩ ⟨[(2, B false)], []⟩ krf ?_
     refine sT ?_
     refine bq_r ?_
     refine sq_r ?_
     refine kq_r ?_
     refine bq_r ?_
     refine kq_r ?_
     exact qR (.id) krf krf krf
    ·refine sK ?_
     refine bq_n ?_
     refine sN ⟨[0, 3], [], [], []⟩ ⟨[(0, S a0s), (3, I l16)], []⟩ krf ?_
     refine sL tfm krf ?_
     exact kq_n (wi (l16 + 1)) ⟨[0, 3], [], [], []⟩ krf
  ·refine sim_exit ?_
   refine sq_x ?_
   refine kq_x ?_
   refine bq_hit ?_
   exact kq_n (k := fun _ => g_ref02_Name_j1 n a0s) () ⟨[0], [], [], []⟩ krf
def g_ref02_value (n : Nat) (a0n : GNode) (a1words : Bool) : Option Bool :=
 cond (ltI 0 (lenI (List.map idc a0n.Kids)))
  (some false)
  (cond (eqI a0n.Kind 6)
   ((cond (eqS a0n.Name [])
    (cond (leI 0 a0n.N)
     (some (leI a0n.N 1000000))
     (some false))
    (some false)).bind fun j1 =>
   some j1)
   ((cond (eqI a0n.Kind 5)
    (cond (eqI a0n.N 0)
     ((g_ref02_Name n a0n.Name).bind fun r7 =>
     cond r7
      (some true)
      (cond a1words
       ((g_ref02_Words n).bind fun r10 =>
       (g_ref02_In n r10 a0n.Name).bind fun r11 =>
       some (leI 0 r11))
       (some false)))
     (some false))
    (some false)).bind fun j4 =>
   some j4))
theorem g_ref02_value_ok (n : Nat) (a0n : GNode) (a1words : Bool) : ∀ r, g_ref02_value n a0n a1words = some r → PCall Tryz.prog 93 [ag (GNode.cs a0n), B a1words] (.ret (B r)) := by
 refine pcall_sim (X := fun r : Bool => AEnd.ret (B r)) Tryz.func93 rfl Tryz.ntmps93 rfl ?_
 unfold g_ref02_value
 refine sR tfm ⟨[1, 2], [2], [], []⟩ ⟨[(1, B a1words), (2, .ptr 2 0)], [(2, .box 24 (bxc (GNode.cs a0n)))]⟩ krf ?_
 refine sS ?_
 refine sR tfm ⟨[1, 2, 8], [2], [], []⟩ ⟨[(1, B a1words), (2, .ptr 2 0), (8, B (ltI 0 (lenI (List.map idc a0n.Kids))))], [(2, .box 24 (bxc (GNode.cs a0n)))]⟩ krf ?_
 refine sC (ltI 0 (lenI (List.map idc a0n.Kids))) krf ?_ ?_
 ·refine sR tfm ⟨[4], [], [], []⟩ ⟨[(4, B false)], []⟩ krf ?_
  refine sT ?_
  refine sq_r ?_
  exact qR (.id) krf krf krf
 ·refine sK ?_
  refine sN ⟨[1, 2], [2], [], []⟩ ⟨[(1, B a1words), (2, .ptr 2 0)], [(2, .box 24 (bxc (GNode.cs a0n)))]⟩ krf ?_
  refine sS ?_
  refine sR tfm ⟨[1, 2, 11], [2], [], []⟩ ⟨[(1, B a1words), (2, .ptr 2 0), (11, B (eqI a0n.Kind 6))], [(2, .box 24 (bxc (GNode.cs a0n)))]⟩ krf ?_
  refine sC (eqI a0n.Kind 6) krf ?_ ?_
  ·refine sim_bind (fun j1 => ⟨[(4, B j1)], []⟩ : Bool → St) ?_ ?_
   ·refine sG ?_
    refine xR 4 krf ?_
    refine xS (eqS a0n.Name []) (fun h2 => ?_) (fun h2 => ?_)
    ·refine xO (want_tt krf h2) krf ?_
     refine xR 4 krf ?_
     refine xS (leI 0 a0n.N) (fun h3 => ?_) (fun h3 => ?_)
     ·refine xO (want_tt krf h3) krf ?_
      refine xR 4 krf ?_
      refine xE ?_
      exact nq_n (leI a0n.N 1000000) ⟨[4], [], [], []⟩ krf
     ·refine xN (want_tf krf h3) krf ?_
      refine xR 4 krf ?_
      refine xE ?_
      exact nq_n false ⟨[4], [], [], []⟩ krf
    ·refine xN (want_tf krf h2) krf ?_
     refine xR 9 krf ?_
     refine xE ?_
     exact nq_n false ⟨[4], [], [], []⟩ krf
   ·rintro j1
    refine sT ?_
    refine sq_r ?_
    exact qR (.id) krf krf krf
  ·refine sK ?_
   refine sN ⟨[1, 2], [2], [], []⟩ ⟨[(1, B a1words), (2, .ptr 2 0)], [(2, .box 24 (bxc (GNode.cs a0n)))]⟩ krf ?_
   refine sim_bind (fun j4 => ⟨[(4, B j4)], []⟩ : Bool → St) ?_ ?_
   ·refine sim_drw tfm rfl ?_
    refine xR 4 krf ?_
    refine xS (eqI a0n.Kind 5) (fun h5 => ?_) (fun h5 => ?_)
    ·refine xO (want_tt krf h5) krf ?_
     refine xR 4 krf ?_
     refine xS (eqI a0n.N 0) (fun h6 => ?_) (fun h6 => ?_)
     ·refine xO (want_tt krf h6) krf ?_
      refine xR 1 krf ?_
      refine xC [] krf (g_ref02_Name_ok n a0n.Name) krf krf (fun _ => by kernel_rfl) (fun r7 => ?_)
      refine xR 1 krf ?_
      refine xS r7 (fun h8 => ?_) (fun h8 => ?_)
      ·refine xN (want_ft krf h8) krf ?_
       refine xR 10 krf ?_
       refine xs_endD krf ?_
       exact nq_n true ⟨[4], [], [], []⟩ krf
      ·refine xO (want_ff krf h8) krf ?_
       refine xR 1 krf ?_
       refine xS a1words (fun h9 => ?_) (fun h9 => ?_)
       ·refine xC [] (want_tt krf h9) (g_ref02_Words_ok n) krf krf (fun _ => by kernel_rfl) (fun r10 => ?_)
        refine xR 2 krf ?_
        refine xC [] krf (g_ref02_In_ok n r10 a0n.Name) krf krf (fun _ => by kernel_rfl) (fun r11 => ?_)
        refine xR 5 krf ?_
        refine xs_endD krf ?_
        exact nq_n (leI 0 r11) ⟨[4], [], [], []⟩ krf
       ·refine xN (want_tf krf h9) krf ?_
        refine xR 8 krf ?_
        refine xs_endD krf ?_
        exact nq_n false ⟨[4], [], [], []⟩ krf
     ·refine xN (want_tf krf h6) krf ?_
      refine xR 14 krf ?_
      refine xs_endD krf ?_
      exact nq_n false ⟨[4], [], [], []⟩ krf
    ·refine xN (want_tf krf h5) krf ?_
     refine xR 19 krf ?_
     refine xs_endD krf ?_
     exact nq_n false ⟨[4], [], [], []⟩ krf
   ·rintro j4
    refine sT ?_
    exact qR (.id) krf krf krf
def g_ref02_part_l13 (n : Nat) (a0n : GNode) (recl13 : Int → Option Bool) (l13 : Int) : Option Bool :=
 cond (ltI l13 (lenI (List.map idc a0n.Kids)))
  ((Option.bind (getI a0n.Kids l13) GNode.of).bind fun x14 =>
  (g_ref02_value n x14 (eqI a0n.Kind 4)).bind fun r15 =>
  cond (!r15)
   (some false)
   (recl13 (wi (l13 + 1))))
  (some true)
def g_ref02_part (n : Nat) (a0n : GNode) : Option Bool :=
 (cond (!eqI a0n.N 0)
  (some true)
  (cond (eqI a0n.Kind 3)
   ((g_ref02_Attrs n).bind fun r4 =>
   (g_ref02_In n r4 a0n.Name).bind fun r5 =>
   cond (leI 0 r5)
    (some false)
    (cond (eqI a0n.Kind 4)
     ((g_ref02_Articles n).bind fun r8 =>
     (g_ref02_In n r8 a0n.Name).bind fun r9 =>
     some (!(leI 0 r9)))
     (some true)))
   (cond (eqI a0n.Kind 4)
    ((g_ref02_Articles n).bind fun r11 =>
    (g_ref02_In n r11 a0n.Name).bind fun r12 =>
    some (!(leI 0 r12)))
    (some true)))).bind fun j1 =>
 cond j1
  (some false)
  (loopN (fun recl13 l13 => g_ref02_part_l13 n a0n recl13 l13) n 0)
theorem g_ref02_part_ok (n : Nat) (a0n : GNode) : ∀ r, g_ref02_part n a0n = some r → PCall Tryz.prog 70 [ag (GNode.cs a0n)] (.ret (B r)) := by
 refine pcall_sim (X := fun r : Bool => AEnd.ret (B r)) Tryz.func70 rfl Tryz.ntmps70 rfl ?_
 unfold g_ref02_part
 refine sR tfm ⟨[1], [1], [], []⟩ ⟨[(1, .ptr 1 0)], [(1, .box 24 (bxc (GNode.cs a0n)))]⟩ krf ?_
 refine sS ?_
 refine sim_bind (fun j1 => ⟨[(1, .ptr 1 0), (31, B j1)], [(1, .box 24 (bxc (GNode.cs a0n)))]⟩ : Bool → St) ?_ ?_
 ·refine sim_drw tfm rfl ?_
  refine xR 4 krf ?_
  refine xS (!eqI a0n.N 0) (fun h2 => ?_) (fun h2 => ?_)
  ·refine xN (want_ft krf h2) krf ?_
   refine xR 23 krf ?_
   refine xs_endD krf ?_
   exact nq_n true ⟨[1, 31], [1], [], []⟩ krf
  ·refine xO (want_ff krf h2) krf ?_
   refine xR 3 krf ?_
   refine xS (eqI a0n.Kind 3) (fun h3 => ?_) (fun h3 => ?_)
   ·refine xC [] (want_tt krf h3) (g_ref02_Attrs_ok n) krf krf (fun _ => by kernel_rfl) (fun r4 => ?_)
    refine xR 2 krf ?_
    refine xC [] krf (g_ref02_In_ok n r4 a0n.Name) krf krf (fun _ => by kernel_rfl) (fun r5 => ?_)
    refine xR 3 krf ?_
    refine xS (leI 0 r5) (fun h6 => ?_) (fun h6 => ?_)
    ·refine xN (want_ft krf h6) krf ?_
     refine xR 12 krf ?_
     refine xs_endD krf ?_
     exact nq_n false ⟨[1, 31], [1], [], []⟩ krf
    ·refine xO (want_ff krf h6) krf ?_
     refine xR 3 krf ?_
     refine xS (eqI a0n.Kind 4) (fun h7 => ?_) (fun h7 => ?_)
     ·refine xC [] (want_tt krf h7) (g_ref02_Articles_ok n) krf krf (fun _ => by kernel_rfl) (fun r8 => ?_)
      refine xR 2 krf ?_
      refine xC [] krf (g_ref02_In_ok n r8 a0n.Name) krf krf (fun _ => by kernel_rfl) (fun r9 => ?_)
      refine xR 5 krf ?_
      refine xs_endD krf ?_
      exact nq_n (!(leI 0 r9)) ⟨[1, 31], [1], [], []⟩ krf
     ·refine xN (want_tf krf h7) krf ?_
      refine xR 8 krf ?_
      refine xs_endD krf ?_
      exact nq_n true ⟨[1, 31], [1], [], []⟩ krf
   ·refine xN (want_tf krf h3) krf ?_
    refine xR 10 krf ?_
    refine xS (eqI a0n.Kind 4) (fun h10 => ?_) (fun h10 => ?_)
    ·refine xC [] (want_tt krf h10) (g_ref02_Articles_ok n) krf krf (fun _ => by kernel_rfl) (fun r11 => ?_)
     refine xR 2 krf ?_
     refine xC [] krf (g_ref02_In_ok n r11 a0n.Name) krf krf (fun _ => by kernel_rfl) (fun r12 => ?_)
     refine xR 5 krf ?_
     refine xs_endD krf ?_
     exact nq_n (!(leI 0 r12)) ⟨[1, 31], [1], [], []⟩ krf
    ·refine xN (want_tf krf h10) krf ?_
     refine xR 8 krf ?_
     refine xs_endD krf ?_
     exact nq_n true ⟨[1, 31], [1], [], []⟩ krf
 ·rintro j1
  refine sC j1 krf ?_ ?_
  ·refine sR tfm ⟨[2], [], [], []⟩ ⟨[(2, B false)], []⟩ krf ?_
   refine sT ?_
   refine sq_r ?_
   exact qR (.id) krf krf krf
  ·refine sK ?_
   refine sN ⟨[1], [1], [], []⟩ ⟨[(1, .ptr 1 0)], [(1, .box 24 (bxc (GNode.cs a0n)))]⟩ krf ?_
   refine sS ?_
   refine sR tfm ⟨[1, 3], [1], [], []⟩ ⟨[(1, .ptr 1 0), (3, I 0)], [(1, .box 24 (bxc (GNode.cs a0n)))]⟩ krf ?_
   refine sB ?_
   refine sim_loop (fun l13 => ⟨[(1, .ptr 1 0), (3, I l13)], [(1, .box 24 (bxc (GNode.cs a0n)))]⟩ : Int → St) (weak_shr (K := ⟨[1, 3], [1], [], []⟩) krf) ?_
   rintro recl13 l13
   show SimE (g_ref02_part_l13 n a0n recl13 l13) _ _ _ _ _ _
   unfold g_ref02_part_l13
   refine sS ?_
   refine sR tfm ⟨[1, 3, 36], [1], [], []⟩ ⟨[(1, .ptr 1 0), (3, I l13), (36, B (ltI l13 (lenI (List.map idc a0n.Kids))))], [(1, .box 24 (bxc (GNode.cs a0n)))]⟩ krf ?_
   refine sC (ltI l13 (lenI (List.map idc a0n.Kids))) krf ?_ ?_
   ·refine sK ?_
    refine sN ⟨[1, 3], [1], [], []⟩ ⟨[(1, .ptr 1 0), (3, I l13)], [(1, .box 24 (bxc (GNode.cs a0n)))]⟩ krf ?_
    refine sS ?_
    refine sB ?_
    refine sS ?_
    refine sim_drw tfm rfl ?_
    refine xR 3 krf ?_
    refine xG krf krf (aop_idxR (e := 24) (S := 5) (enc := GNode.cs) (dec := GNode.of) (l := a0n.Kids) (k := .i64) (n := l13) (sv := .p (.sl 5 (List.map idc a0n.Kids))) GNode.of_cs rfl krf krf krf krf krf) (fun x14 => ?_)
    refine xR 4 krf ?_
    refine xC [] krf (g_ref02_value_ok n x14 (eqI a0n.Kind 4)) krf krf (fun _ => by kernel_rfl) (fun r15 => ?_)
    refine xR 1 krf ?_
    refine xs_endD krf ?_
    refine sN ⟨[1, 3, 48], [1], [], []⟩ ⟨[(1, .ptr 1 0), (3, I l13), (48, B (!r15))], [(1, .box 24 (bxc (GNode.cs a0n)))]⟩ krf ?_
    refine sC (!r15) krf ?_ ?_
    ·refine sR tfm ⟨[2], [], [], []⟩ ⟨[(2, B false)], []⟩ krf ?_
     refine sT ?_
     refine bq_r ?_
     refine sq_r ?_
     refine kq_r ?_
     refine bq_r ?_
     refine sq_r ?_
     exact qR (.id) krf krf krf
    ·refine sK ?_
     refine bq_n ?_
     refine sN ⟨[1, 3], [1], [], []⟩ ⟨[(1, .ptr 1 0), (3, I l13)], [(1, .box 24 (bxc (GNode.cs a0n)))]⟩ krf ?_
     refine sL tfm krf ?_
     exact kq_n (wi (l13 + 1)) ⟨[1, 3], [1], [], []⟩ krf
   ·refine sim_exit ?_
    refine sq_x ?_
    refine kq_x ?_
    refine bq_hit ?_
    refine sN ⟨[], [], [], []⟩ ⟨[], []⟩ krf ?_
    refine sR tfm ⟨[2], [], [], []⟩ ⟨[(2, B true)], []⟩ krf ?_
    refine sT ?_
    exact qR (.id) krf krf krf
def g_ref02_item_l6 (n : Nat) (a0n : GNode) (recl6 : Int → Option Bool) (l6 : Int) : Option Bool :=
 cond (ltI l6 (lenI (List.map idc a0n.Kids)))
  ((Option.bind (getI a0n.Kids l6) GNode.of).bind fun x7 =>
  ((g_ref02_part n x7).bind fun r9 =>
  cond (!r9)
   (some true)
   (cond (eqI x7.Kind 4)
    (cond (!eqI a0n.N 7)
     (some true)
     (cond (eqI x7.Kind 3)
      (cond (ltI 0 l6)
       ((Option.bind (getI a0n.Kids (wi (l6 - 1))) GNode.of).bind fun x15 =>
       some (eqI x15.Kind 4))
       (some false))
      (some false)))
    (cond (eqI x7.Kind 3)
     (cond (ltI 0 l6)
      ((Option.bind (getI a0n.Kids (wi (l6 - 1))) GNode.of).bind fun x18 =>
      some (eqI x18.Kind 4))
      (some false))
     (some false)))).bind fun j8 =>
  cond j8
   (some false)
   (recl6 (wi (l6 + 1))))
  (some true)
def g_ref02_item (n : Nat) (a0n : GNode) : Option Bool :=
 (cond (!eqI a0n.Kind 2)
  (some true)
  (cond (ltI a0n.N 1)
   (some true)
   (cond (ltI 7 a0n.N)
    (some true)
    ((g_ref02_Name n a0n.Name).bind fun r5 =>
    some (!r5))))).bind fun j1 =>
 cond j1
  (some false)
  (loopN (fun recl6 l6 => g_ref02_item_l6 n a0n recl6 l6) n 0)
theorem g_ref02_item_ok (n : Nat) (a0n : GNode) : ∀ r, g_ref02_item n a0n = some r → PCall Tryz.prog 44 [ag (GNode.cs a0n)] (.ret (B r)) := by
 refine pcall_sim (X := fun r : Bool => AEnd.ret (B r)) Tryz.func44 rfl Tryz.ntmps44 rfl ?_
 unfold g_ref02_item
 refine sR tfm ⟨[1], [1], [], []⟩ ⟨[(1, .ptr 1 0)], [(1, .box 24 (bxc (GNode.cs a0n)))]⟩ krf ?_
 refine sS ?_
 refine sim_bind (fun j1 => ⟨[(1, .ptr 1 0), (23, B j1)], [(1, .box 24 (bxc (GNode.cs a0n)))]⟩ : Bool → St) ?_ ?_
 ·refine sG ?_
  refine xR 4 krf ?_
  refine xS (!eqI a0n.Kind 2) (fun h2 => ?_) (fun h2 => ?_)
  ·refine xN (want_ft krf h2) krf ?_
   refine xR 14 krf ?_
   refine xE ?_
   exact nq_n true ⟨[1, 23], [1], [], []⟩ krf
  ·refine xO (want_ff krf h2) krf ?_
   refine xR 4 krf ?_
   refine xS (ltI a0n.N 1) (fun h3 => ?_) (fun h3 => ?_)
   ·refine xN (want_ft krf h3) krf ?_
    refine xR 9 krf ?_
    refine xE ?_
    exact nq_n true ⟨[1, 23], [1], [], []⟩ krf
   ·refine xO (want_ff krf h3) krf ?_
    refine xR 4 krf ?_
    refine xS (ltI 7 a0n.N) (fun h4 => ?_) (fun h4 => ?_)
    ·refine xN (want_ft krf h4) krf ?_
     refine xR 4 krf ?_
     refine xE ?_
     exact nq_n true ⟨[1, 23], [1], [], []⟩ krf
    ·refine xO (want_ff krf h4) krf ?_
     refine xR 1 krf ?_
     refine xC [] krf (g_ref02_Name_ok n a0n.Name) krf krf (fun _ => by kernel_rfl) (fun r5 => ?_)
     refine xR 2 krf ?_
     refine xE ?_
     exact nq_n (!r5) ⟨[1, 23], [1], [], []⟩ krf
 ·rintro j1
  refine sC j1 krf ?_ ?_
  ·refine sR tfm ⟨[2], [], [], []⟩ ⟨[(2, B false)], []⟩ krf ?_
   refine sT ?_
   refine sq_r ?_
   exact qR (.id) krf krf krf
  ·refine sK ?_
   refine sN ⟨[1], [1], [], []⟩ ⟨[(1, .ptr 1 0)], [(1, .box 24 (bxc (GNode.cs a0n)))]⟩ krf ?_
   refine sS ?_
   refine sR tfm ⟨[1, 3], [1], [], []⟩ ⟨[(1, .ptr 1 0), (3, I 0)], [(1, .box 24 (bxc (GNode.cs a0n)))]⟩ krf ?_
   refine sB ?_
   refine sim_loop (fun l6 => ⟨[(1, .ptr 1 0), (3, I l6)], [(1, .box 24 (bxc (GNode.cs a0n)))]⟩ : Int → St) (weak_shr (K := ⟨[1, 3], [1], [], []⟩) krf) ?_
   rintro recl6 l6
   show SimE (g_ref02_item_l6 n a0n recl6 l6) _ _ _ _ _ _
   unfold g_ref02_item_l6
   refine sS ?_
   refine sR tfm ⟨[1, 3, 28], [1], [], []⟩ ⟨[(1, .ptr 1 0), (3, I l6), (28, B (ltI l6 (lenI (List.map idc a0n.Kids))))], [(1, .box 24 (bxc (GNode.cs a0n)))]⟩ krf ?_
   refine sC (ltI l6 (lenI (List.map idc a0n.Kids))) krf ?_ ?_
   ·refine sK ?_
    refine sN ⟨[1, 3], [1], [], []⟩ ⟨[(1, .ptr 1 0), (3, I l6)], [(1, .box 24 (bxc (GNode.cs a0n)))]⟩ krf ?_
    refine sS ?_
    refine sB ?_
    refine sS ?_
    refine sG ?_
    refine xR 3 krf ?_
    refine xG krf krf (aop_idxR (e := 24) (S := 5) (enc := GNode.cs) (dec := GNode.of) (l := a0n.Kids) (k := .i64) (n := l6) (sv := .p (.sl 5 (List.map idc a0n.Kids))) GNode.of_cs rfl krf krf krf krf krf) (fun x7 => ?_)
    refine xR 3 krf ?_
    refine xE ?_
    refine sN ⟨[1, 3, 4], [1, 4], [], []⟩ ⟨[(1, .ptr 1 0), (3, I l6), (4, .ptr 4 0)], [(1, .box 24 (bxc (GNode.cs a0n))), (4, .box 24 (bxc (GNode.cs x7)))]⟩ krf ?_
    refine sim_bind (fun j8 => ⟨[(1, .ptr 1 0), (3, I l6), (67, B j8)], [(1, .box 24 (bxc (GNode.cs a0n)))]⟩ : Bool → St) ?_ ?_
    ·refine sG ?_
     refine xR 1 krf ?_
     refine xC [] krf (g_ref02_part_ok n x7) krf krf (fun _ => by kernel_rfl) (fun r9 => ?_)
     refine xR 2 krf ?_
     refine xS (!r9) (fun h10 => ?_) (fun h10 => ?_)
     ·refine xN (want_ft krf h10) krf ?_
      refine xR 27 krf ?_
      refine xE ?_
      exact nq_n true ⟨[1, 3, 67], [1], [], []⟩ krf
     ·refine xO (want_ff krf h10) krf ?_
      refine xR 3 krf ?_
      refine xS (eqI x7.Kind 4) (fun h11 => ?_) (fun h11 => ?_)
      ·refine xO (want_tt krf h11) krf ?_
       refine xR 5 krf ?_
       refine xS (!eqI a0n.N 7) (fun h12 => ?_) (fun h12 => ?_)
       ·refine xN (want_ft krf h12) krf ?_
        refine xR 17 krf ?_
        refine xE ?_
        exact nq_n true ⟨[1, 3, 67], [1], [], []⟩ krf
       ·refine xO (want_ff krf h12) krf ?_
        refine xR 3 krf ?_
        refine xS (eqI x7.Kind 3) (fun h13 => ?_) (fun h13 => ?_)
        ·refine xO (want_tt krf h13) krf ?_
         refine xR 3 krf ?_
         refine xS (ltI 0 l6) (fun h14 => ?_) (fun h14 => ?_)
         ·refine xO (want_tt krf h14) krf ?_
          refine xR 3 krf ?_
          refine xG krf krf (aop_idxR (e := 24) (S := 5) (enc := GNode.cs) (dec := GNode.of) (l := a0n.Kids) (k := .i64) (n := wi (l6 - 1)) (sv := .p (.sl 5 (List.map idc a0n.Kids))) GNode.of_cs rfl krf krf krf krf krf) (fun x15 => ?_)
          refine xR 5 krf ?_
          refine xE ?_
          exact nq_n (eqI x15.Kind 4) ⟨[1, 3, 67], [1], [], []⟩ krf
         ·refine xN (want_tf krf h14) krf ?_
          refine xR 9 krf ?_
          refine xE ?_
          exact nq_n false ⟨[1, 3, 67], [1], [], []⟩ krf
        ·refine xN (want_tf krf h13) krf ?_
         refine xR 13 krf ?_
         refine xE ?_
         exact nq_n false ⟨[1, 3, 67], [1], [], []⟩ krf
      ·refine xN (want_tf krf h11) krf ?_
       refine xR 9 krf ?_
       refine xS (eqI x7.Kind 3) (fun h16 => ?_) (fun h16 => ?_)
       ·refine xO (want_tt krf h16) krf ?_
        refine xR 3 krf ?_
        refine xS (ltI 0 l6) (fun h17 => ?_) (fun h17 => ?_)
        ·refine xO (want_tt krf h17) krf ?_
         refine xR 3 krf ?_
         refine xG krf krf (aop_idxR (e := 24) (S := 5) (enc := GNode.cs) (dec := GNode.of) (l := a0n.Kids) (k := .i64) (n := wi (l6 - 1)) (sv := .p (.sl 5 (List.map idc a0n.Kids))) GNode.of_cs rfl krf krf krf krf krf) (fun x18 => ?_)
         refine xR 5 krf ?_
         refine xE ?_
         exact nq_n (eqI x18.Kind 4) ⟨[1, 3, 67], [1], [], []⟩ krf
        ·refine xN (want_tf krf h17) krf ?_
         refine xR 9 krf ?_
         refine xE ?_
         exact nq_n false ⟨[1, 3, 67], [1], [], []⟩ krf
       ·refine xN (want_tf krf h16) krf ?_
        refine xR 13 krf ?_
        refine xE ?_
        exact nq_n false ⟨[1, 3, 67], [1], [], []⟩ krf
    ·rintro j8
     refine sC j8 krf ?_ ?_
     ·refine sR tfm ⟨[2], [], [], []⟩ ⟨[(2, B false)], []⟩ krf ?_
      refine sT ?_
      refine bq_r ?_
      refine sq_r ?_
      refine kq_r ?_
      refine bq_r ?_
      refine sq_r ?_
      exact qR (.id) krf krf krf
     ·refine sK ?_
      refine bq_n ?_
      refine sN ⟨[1, 3], [1], [], []⟩ ⟨[(1, .ptr 1 0), (3, I l6)], [(1, .box 24 (bxc (GNode.cs a0n)))]⟩ krf ?_
      refine sL tfm krf ?_
      exact kq_n (wi (l6 + 1)) ⟨[1, 3], [1], [], []⟩ krf
   ·refine sim_exit ?_
    refine sq_x ?_
    refine kq_x ?_
    refine bq_hit ?_
    refine sN ⟨[], [], [], []⟩ ⟨[], []⟩ krf ?_
    refine sR tfm ⟨[2], [], [], []⟩ ⟨[(2, B true)], []⟩ krf ?_
    refine sT ?_
    exact qR (.id) krf krf krf
def g_ref02_Valid_l6 (n : Nat) (a0n : GNode) (recl6 : Int → Option Bool) (l6 : Int) : Option Bool :=
 cond (ltI l6 (lenI (List.map idc a0n.Kids)))
  ((Option.bind (getI a0n.Kids l6) GNode.of).bind fun x7 =>
  (g_ref02_item n x7).bind fun r8 =>
  cond (!r8)
   (some false)
   (recl6 (wi (l6 + 1))))
  (some true)
def g_ref02_Valid (n : Nat) (a0n : GNode) : Option Bool :=
 (cond (!eqI a0n.Kind 1)
  (some true)
  (cond (!eqS a0n.Name [])
   (some true)
   (cond (!eqI a0n.N 0)
    (some true)
    ((g_ref02_Count n a0n 1500).bind fun r5 =>
    some (ltI 1500 r5))))).bind fun j1 =>
 cond j1
  (some false)
  (loopN (fun recl6 l6 => g_ref02_Valid_l6 n a0n recl6 l6) n 0)
theorem g_ref02_Valid_ok (n : Nat) (a0n : GNode) : ∀ r, g_ref02_Valid n a0n = some r → PCall Tryz.prog 30 [ag (GNode.cs a0n)] (.ret (B r)) := by
 refine pcall_sim (X := fun r : Bool => AEnd.ret (B r)) Tryz.func30 rfl Tryz.ntmps30 rfl ?_
 unfold g_ref02_Valid
 refine sR tfm ⟨[1], [1], [], []⟩ ⟨[(1, .ptr 1 0)], [(1, .box 24 (bxc (GNode.cs a0n)))]⟩ krf ?_
 refine sS ?_
 refine sim_bind (fun j1 => ⟨[(1, .ptr 1 0), (21, B j1)], [(1, .box 24 (bxc (GNode.cs a0n)))]⟩ : Bool → St) ?_ ?_
 ·refine sG ?_
  refine xR 4 krf ?_
  refine xS (!eqI a0n.Kind 1) (fun h2 => ?_) (fun h2 => ?_)
  ·refine xN (want_ft krf h2) krf ?_
   refine xR 13 krf ?_
   refine xE ?_
   exact nq_n true ⟨[1, 21], [1], [], []⟩ krf
  ·refine xO (want_ff krf h2) krf ?_
   refine xR 4 krf ?_
   refine xS (!eqS a0n.Name []) (fun h3 => ?_) (fun h3 => ?_)
   ·refine xN (want_ft krf h3) krf ?_
    refine xR 8 krf ?_
    refine xE ?_
    exact nq_n true ⟨[1, 21], [1], [], []⟩ krf
   ·refine xO (want_ff krf h3) krf ?_
    refine xR 4 krf ?_
    refine xS (!eqI a0n.N 0) (fun h4 => ?_) (fun h4 => ?_)
    ·refine xN (want_ft krf h4) krf ?_
     refine xR 3 krf ?_
     refine xE ?_
     exact nq_n true ⟨[1, 21], [1], [], []⟩ krf
    ·refine xO (want_ff krf h4) krf ?_
     refine xC [] krf (g_ref02_Count_ok n a0n 1500) krf krf (fun _ => by kernel_rfl) (fun r5 => ?_)
     refine xR 2 krf ?_
     refine xE ?_
     exact nq_n (ltI 1500 r5) ⟨[1, 21], [1], [], []⟩ krf
 ·rintro j1
  refine sC j1 krf ?_ ?_
  ·refine sR tfm ⟨[2], [], [], []⟩ ⟨[(2, B false)], []⟩ krf ?_
   refine sT ?_
   refine sq_r ?_
   exact qR (.id) krf krf krf
  ·refine sK ?_
   refine sN ⟨[1], [1], [], []⟩ ⟨[(1, .ptr 1 0)], [(1, .box 24 (bxc (GNode.cs a0n)))]⟩ krf ?_
   refine sS ?_
   refine sR tfm ⟨[1, 3], [1], [], []⟩ ⟨[(1, .ptr 1 0), (3, I 0)], [(1, .box 24 (bxc (GNode.cs a0n)))]⟩ krf ?_
   refine sB ?_
   refine sim_loop (fun l6 => ⟨[(1, .ptr 1 0), (3, I l6)], [(1, .box 24 (bxc (GNode.cs a0n)))]⟩ : Int → St) (weak_shr (K := ⟨[1, 3], [1], [], []⟩) krf) ?_
   rintro recl6 l6
   show SimE (g_ref02_Valid_l6 n a0n recl6 l6) _ _ _ _ _ _
   unfold g_ref02_Valid_l6
   refine sS ?_
   refine sR tfm ⟨[1, 3, 26], [1], [], []⟩ ⟨[(1, .ptr 1 0), (3, I l6), (26, B (ltI l6 (lenI (List.map idc a0n.Kids))))], [(1, .box 24 (bxc (GNode.cs a0n)))]⟩ krf ?_
   refine sC (ltI l6 (lenI (List.map idc a0n.Kids))) krf ?_ ?_
   ·refine sK ?_
    refine sN ⟨[1, 3], [1], [], []⟩ ⟨[(1, .ptr 1 0), (3, I l6)], [(1, .box 24 (bxc (GNode.cs a0n)))]⟩ krf ?_
    refine sS ?_
    refine sB ?_
    refine sS ?_
    refine sG ?_
    refine xR 3 krf ?_
    refine xG krf krf (aop_idxR (e := 24) (S := 5) (enc := GNode.cs) (dec := GNode.of) (l := a0n.Kids) (k := .i64) (n := l6) (sv := .p (.sl 5 (List.map idc a0n.Kids))) GNode.of_cs rfl krf krf krf krf krf) (fun x7 => ?_)
    refine xR 1 krf ?_
    refine xC [] krf (g_ref02_item_ok n x7) krf krf (fun _ => by kernel_rfl) (fun r8 => ?_)
    refine xR 1 krf ?_
    refine xE ?_
    refine sN ⟨[1, 3, 35], [1], [], []⟩ ⟨[(1, .ptr 1 0), (3, I l6), (35, B (!r8))], [(1, .box 24 (bxc (GNode.cs a0n)))]⟩ krf ?_
    refine sC (!r8) krf ?_ ?_
    ·refine sR tfm ⟨[2], [], [], []⟩ ⟨[(2, B false)], []⟩ krf ?_
     refine sT ?_
     refine bq_r ?_
     refine sq_r ?_
     refine kq_r ?_
     refine bq_r ?_
     refine sq_r ?_
     exact qR (.id) krf krf krf
    ·refine sK ?_
     refine bq_n ?_
     refine sN ⟨[1, 3], [1], [], []⟩ ⟨[(1, .ptr 1 0), (3, I l6)], [(1, .box 24 (bxc (GNode.cs a0n)))]⟩ krf ?_
     refine sL tfm krf ?_
     exact kq_n (wi (l6 + 1)) ⟨[1, 3], [1], [], []⟩ krf
   ·refine sim_exit ?_
    refine sq_x ?_
    refine kq_x ?_
    refine bq_hit ?_
    refine sN ⟨[], [], [], []⟩ ⟨[], []⟩ krf ?_
    refine sR tfm ⟨[2], [], [], []⟩ ⟨[(2, B true)], []⟩ krf ?_
    refine sT ?_
    exact qR (.id) krf krf krf
def g_law32_usable (n : Nat) (a0n : GNode) : Option Bool :=
 (g_ref02_Few n a0n 1500).bind fun r1 =>
 cond r1
  ((g_ref02_Valid n a0n).bind fun r3 =>
  some r3)
  (some false)
theorem g_law32_usable_ok (n : Nat) (a0n : GNode) : ∀ r, g_law32_usable n a0n = some r → PCall Tryz.prog 19 [ag (GNode.cs a0n)] (.ret (B r)) := by
 refine pcall_sim (X := fun r : Bool => AEnd.ret (B r)) Tryz.func19 rfl Tryz.ntmps19 rfl ?_
 unfold g_law32_usable
 refine sR tfm ⟨[1], [1], [], []⟩ ⟨[(1, .ptr 1 0)], [(1, .box 24 (bxc (GNode.cs a0n)))]⟩ krf ?_
 refine sS ?_
 refine sG ?_
 refine xR 1 krf ?_
 refine xC [] krf (g_ref02_Few_ok n a0n 1500) krf krf (fun _ => by kernel_rfl) (fun r1 => ?_)
 refine xR 1 krf ?_
 refine xS r1 (fun h2 => ?_) (fun h2 => ?_)
 ·refine xO (want_tt krf h2) krf ?_
  refine xC [] krf (g_ref02_Valid_ok n a0n) krf krf (fun _ => by kernel_rfl) (fun r3 => ?_)
  refine xR 2 krf ?_
  refine xE ?_
  refine sN ⟨[2], [], [], []⟩ ⟨[(2, B r3)], []⟩ krf ?_
  refine sT ?_
  exact qR (.id) krf krf krf
 ·refine xN (want_tf krf h2) krf ?_
  refine xR 3 krf ?_
  refine xE ?_
  refine sN ⟨[2], [], [], []⟩ ⟨[(2, B false)], []⟩ krf ?_
  refine sT ?_
  exact qR (.id) krf krf krf
def g_law32_TariffBuilt_j7 (r1 : Bool) (r3 : (List GTf) × (List GDg)) (j7 : Int) : Option Bool :=
 cond r1
  (cond (eqI j7 (lenI (List.map GTf.cs r3.1)))
   (some (leI j7 8))
   (some false))
  (some false)
def g_law32_TariffBuilt_l10 (n : Nat) (a0n : GNode) (r1 : Bool) (r3 : (List GTf) × (List GDg)) (recl10 : (Int × Int × (List ((List UInt8) × Bool))) → Option Bool) (l10_1 : Int) (l10_2 : Int) (l10_3 : List ((List UInt8) × Bool)) : Option Bool :=
 cond (ltI l10_2 (lenI (List.map idc a0n.Kids)))
  ((Option.bind (getI a0n.Kids l10_2) GNode.of).bind fun x11 =>
  cond (!eqI x11.N 7)
   (recl10 (l10_1, wi (l10_2 + 1), l10_3))
   ((cond (leI (lenI (List.map GTf.cs r3.1)) l10_1)
    (some true)
    ((getI r3.1 l10_1).bind fun x14 =>
    cond (!eqS x14.Name x11.Name)
     (some true)
     ((getI r3.1 l10_1).bind fun x16 =>
     cond (!eqI (lenI (List.map GAr.cs x16.Articles)) (lenI (List.map idc x11.Kids)))
      (some true)
      (cond (mgetD me_msb x11.Name false l10_3)
       (some true)
       ((getI r3.1 l10_1).bind fun x19 =>
       (g_t_Valid n x19).bind fun r20 =>
       some (!r20)))))).bind fun j12 =>
   cond j12
    (some false)
    (recl10 (wi (l10_1 + 1), wi (l10_2 + 1), mset me_msb x11.Name true l10_3))))
  (g_law32_TariffBuilt_j7 r1 r3 l10_1)
def g_law32_TariffBuilt (n : Nat) (a0n : GNode) : Option Bool :=
 (g_law32_head n).bind fun r1 =>
 (g_law32_usable n a0n).bind fun r2 =>
 cond (!r2)
  (some r1)
  ((g_t_Build n a0n).bind fun r3 =>
  cond (ltI 0 (lenI (List.map GDg.cs r3.2)))
   ((cond r1
    (cond (eqI (lenI (List.map GTf.cs r3.1)) 0)
     (some (leI (lenI (List.map GDg.cs r3.2)) 20))
     (some false))
    (some false)).bind fun j4 =>
   some j4)
   (loopN (fun recl10 (l10_1, l10_2, l10_3) => g_law32_TariffBuilt_l10 n a0n r1 r3 recl10 l10_1 l10_2 l10_3) n (0, 0, [])))
theorem g_law32_TariffBuilt_ok (n : Nat) (a0n : GNode) : ∀ r, g_law32_TariffBuilt n a0n = some r → PCall Tryz.prog 4 [ag (GNode.cs a0n)] (.ret (B r)) := by
 refine pcall_sim (X := fun r : Bool => AEnd.ret (B r)) Tryz.func4 rfl Tryz.ntmps4 rfl ?_
 unfold g_law32_TariffBuilt
 refine sR tfm ⟨[1], [1], [], []⟩ ⟨[(1, .ptr 1 0)], [(1, .box 24 (bxc (GNode.cs a0n)))]⟩ krf ?_
 refine sS ?_
 refine sG ?_
 refine xC [] krf (g_law32_head_ok n) krf krf (fun _ => by kernel_rfl) (fun r1 => ?_)
 refine xR 1 krf ?_
 refine xE ?_
 refine sN ⟨[1, 3], [1], [], []⟩ ⟨[(1, .ptr 1 0), (3, B r1)], [(1, .box 24 (bxc (GNode.cs a0n)))]⟩ krf ?_
 refine sS ?_
 refine sS ?_
 refine sG ?_
 refine xR 1 krf ?_
 refine xC [] krf (g_law32_usable_ok n a0n) krf krf (fun _ => by kernel_rfl) (fun r2 => ?_)
 refine xR 1 krf ?_
 refine xE ?_
 refine sN ⟨[1, 3, 13], [1], [], []⟩ ⟨[(1, .ptr 1 0), (3, B r1), (13, B (!r2))], [(1, .box 24 (bxc (GNode.cs a0n)))]⟩ krf ?_
 refine sC (!r2) krf ?_ ?_
 ·refine sR tfm ⟨[2], [], [], []⟩ ⟨[(2, B r1)], []⟩ krf ?_
  refine sT ?_
  refine sq_r ?_
  exact qR (.id) krf krf krf
 ·refine sK ?_
  refine sN ⟨[1, 3], [1], [], []⟩ ⟨[(1, .ptr 1 0), (3, B r1)], [(1, .box 24 (bxc (GNode.cs a0n)))]⟩ krf ?_
  refine sS ?_
  refine sG ?_
  refine xR 1 krf ?_
  refine xC [] krf (g_t_Build_ok n a0n) krf krf (fun _ => by kernel_rfl) (fun r3 => ?_)
  refine xR 5 krf ?_
  refine xE ?_
  refine sN ⟨[1, 3, 4, 5], [1], [], []⟩ ⟨[(1, .ptr 1 0), (3, B r1), (4, .p (.sl 2 (List.map GTf.cs r3.1))), (5, .p (.sl 2 (List.map GDg.cs r3.2)))], [(1, .box 24 (bxc (GNode.cs a0n)))]⟩ krf ?_
  refine sS ?_
  refine sR tfm ⟨[1, 3, 4, 5, 22], [1], [], []⟩ ⟨[(1, .ptr 1 0), (3, B r1), (4, .p (.sl 2 (List.map GTf.cs r3.1))), (5, .p (.sl 2 (List.map GDg.cs r3.2))), (22, B (ltI 0 (lenI (List.map GDg.cs r3.2))))], [(1, .box 24 (bxc (GNode.cs a0n)))]⟩ krf ?_
  refine sC (ltI 0 (lenI (List.map GDg.cs r3.2))) krf ?_ ?_
  ·refine sim_bind (fun j4 => ⟨[(2, B j4)], []⟩ : Bool → St) ?_ ?_
   ·refine sG ?_
    refine xR 2 krf ?_
    refine xS r1 (fun h5 => ?_) (fun h5 => ?_)
    ·refine xO (want_tt krf h5) krf ?_
     refine xR 4 krf ?_
     refine xS (eqI (lenI (List.map GTf.cs r3.1)) 0) (fun h6 => ?_) (fun h6 => ?_)
     ·refine xO (want_tt krf h6) krf ?_
      refine xR 4 krf ?_
      refine xE ?_
      exact nq_n (leI (lenI (List.map GDg.cs r3.2)) 20) ⟨[2], [], [], []⟩ krf
     ·refine xN (want_tf krf h6) krf ?_
      refine xR 4 krf ?_
      refine xE ?_
      exact nq_n false ⟨[2], [], [], []⟩ krf
    ·refine xN (want_tf krf h5) krf ?_
     refine xR 9 krf ?_
     refine xE ?_
     exact nq_n false ⟨[2], [], [], []⟩ krf
   ·rintro j4
    refine sT ?_
    refine sq_r ?_
    exact qR (.id) krf krf krf
  ·refine sK ?_
   refine sN ⟨[1, 3, 4], [1], [], []⟩ ⟨[(1, .ptr 1 0), (3, B r1), (4, .p (.sl 2 (List.map GTf.cs r3.1)))], [(1, .box 24 (bxc (GNode.cs a0n)))]⟩ krf ?_
   refine sR tfm ⟨[1, 3, 4, 6], [1], [], []⟩ ⟨[(1, .ptr 1 0), (3, B r1), (4, .p (.sl 2 (List.map GTf.cs r3.1))), (6, I 0)], [(1, .box 24 (bxc (GNode.cs a0n)))]⟩ krf ?_
   refine sS ?_
   refine sG ?_
   refine xs_u krf krf (aop_mk (d := 34) (rsv := none) rfl rfl krf) ?_
   refine xR 1 krf ?_
   refine xE ?_
   refine sN ⟨[1, 3, 4, 6, 7], [1, 34], [], []⟩ ⟨[(1, .ptr 1 0), (3, B r1), (4, .p (.sl 2 (List.map GTf.cs r3.1))), (6, I 0), (7, .mv 34)], [(1, .box 24 (bxc (GNode.cs a0n))), (34, .mp (mpL mk_msb mv_msb []))]⟩ krf ?_
   refine sim_cps (fun j7 => ⟨[(3, B r1), (4, .p (.sl 2 (List.map GTf.cs r3.1))), (6, I j7)], []⟩ : Int → St) (fun j7 => g_law32_TariffBuilt_j7 r1 r3 j7) ?_ ?_
   ·rintro j7
    show SimE (g_law32_TariffBuilt_j7 r1 r3 j7) _ _ _ _ _ _
    unfold g_law32_TariffBuilt_j7
    refine sS ?_
    refine sG ?_
    refine xR 2 krf ?_
    refine xS r1 (fun h8 => ?_) (fun h8 => ?_)
    ·refine xO (want_tt krf h8) krf ?_
     refine xR 5 krf ?_
     refine xS (eqI j7 (lenI (List.map GTf.cs r3.1))) (fun h9 => ?_) (fun h9 => ?_)
     ·refine xO (want_tt krf h9) krf ?_
      refine xR 3 krf ?_
      refine xE ?_
      refine sN ⟨[2], [], [], []⟩ ⟨[(2, B (leI j7 8))], []⟩ krf ?_
      refine sT ?_
      exact qR (.id) krf krf krf
     ·refine xN (want_tf krf h9) krf ?_
      refine xR 3 krf ?_
      refine xE ?_
      refine sN ⟨[2], [], [], []⟩ ⟨[(2, B false)], []⟩ krf ?_
      refine sT ?_
      exact qR (.id) krf krf krf
    ·refine xN (want_tf krf h8) krf ?_
     refine xR 9 krf ?_
     refine xE ?_
     refine sN ⟨[2], [], [], []⟩ ⟨[(2, B false)], []⟩ krf ?_
     refine sT ?_
     exact qR (.id) krf krf krf
   ·refine sR tfm ⟨[3, 4, 6, 7, 36, 37, 38], [34], [], []⟩ ⟨[(3, B r1), (4, .p (.sl 2 (List.map GTf.cs r3.1))), (6, I 0), (7, .mv 34), (36, .p (.sl 5 (List.map idc a0n.Kids))), (37, I (lenI (List.map idc a0n.Kids))), (38, I 0)], [(34, .mp (mpL mk_msb mv_msb []))]⟩ krf ?_
    refine sB ?_
    refine sim_loop (fun (l10_1, l10_2, l10_3) => ⟨[(3, B r1), (4, .p (.sl 2 (List.map GTf.cs r3.1))), (6, I l10_1), (7, .mv 34), (36, .p (.sl 5 (List.map idc a0n.Kids))), (37, I (lenI (List.map idc a0n.Kids))), (38, I l10_2)], [(34, .mp (mpL mk_msb mv_msb l10_3))]⟩ : (Int × Int × (List ((List UInt8) × Bool))) → St) (weak_shr (K := ⟨[3, 4, 6, 7, 36, 37, 38], [34], [], []⟩) krf) ?_
    rintro recl10 ⟨l10_1, l10_2, l10_3⟩
    show SimE (g_law32_TariffBuilt_l10 n a0n r1 r3 recl10 l10_1 l10_2 l10_3) _ _ _ _ _ _
    unfold g_law32_TariffBuilt_l10
    refine sR tfm ⟨[3, 4, 6, 7, 36, 37, 38, 39], [34], [], []⟩ ⟨[(3, B r1), (4, .p (.sl 2 (List.map GTf.cs r3.1))), (6, I l10_1), (7, .mv 34), (36, .p (.sl 5 (List.map idc a0n.Kids))), (37, I (lenI (List.map idc a0n.Kids))), (38, I l10_2), (39, B (ltI l10_2 (lenI (List.map idc a0n.Kids))))], [(34, .mp (mpL mk_msb mv_msb l10_3))]⟩ krf ?_
    refine sS ?_
    refine sC (ltI l10_2 (lenI (List.map idc a0n.Kids))) krf ?_ ?_
    ·refine sK ?_
     refine sN ⟨[3, 4, 6, 7, 36, 37, 38], [34], [], []⟩ ⟨[(3, B r1), (4, .p (.sl 2 (List.map GTf.cs r3.1))), (6, I l10_1), (7, .mv 34), (36, .p (.sl 5 (List.map idc a0n.Kids))), (37, I (lenI (List.map idc a0n.Kids))), (38, I l10_2)], [(34, .mp (mpL mk_msb mv_msb l10_3))]⟩ krf ?_
     refine sS ?_
     refine sB ?_
     refine sS ?_
     refine sG ?_
     refine xG krf krf (aop_idxR (e := 24) (S := 5) (enc := GNode.cs) (dec := GNode.of) (l := a0n.Kids) (k := .i64) (n := l10_2) (sv := .p (.sl 5 (List.map idc a0n.Kids))) GNode.of_cs rfl krf krf krf krf krf) (fun x11 => ?_)
     refine xR 3 krf ?_
     refine xE ?_
     refine sN ⟨[3, 4, 6, 7, 9, 36, 37, 38], [9, 34], [], []⟩ ⟨[(3, B r1), (4, .p (.sl 2 (List.map GTf.cs r3.1))), (6, I l10_1), (7, .mv 34), (9, .ptr 9 0), (36, .p (.sl 5 (List.map idc a0n.Kids))), (37, I (lenI (List.map idc a0n.Kids))), (38, I l10_2)], [(9, .box 24 (bxc (GNode.cs x11))), (34, .mp (mpL mk_msb mv_msb l10_3))]⟩ krf ?_
     refine sS ?_
     refine sR tfm ⟨[3, 4, 6, 7, 9, 36, 37, 38, 44], [9, 34], [], []⟩ ⟨[(3, B r1), (4, .p (.sl 2 (List.map GTf.cs r3.1))), (6, I l10_1), (7, .mv 34), (9, .ptr 9 0), (36, .p (.sl 5 (List.map idc a0n.Kids))), (37, I (lenI (List.map idc a0n.Kids))), (38, I l10_2), (44, B (!eqI x11.N 7))], [(9, .box 24 (bxc (GNode.cs x11))), (34, .mp (mpL mk_msb mv_msb l10_3))]⟩ krf ?_
     refine sC (!eqI x11.N 7) krf ?_ ?_
     ·refine sim_exit ?_
      refine sq_x ?_
      refine bq_hit ?_
      refine sN ⟨[3, 4, 6, 7, 36, 37, 38], [34], [], []⟩ ⟨[(3, B r1), (4, .p (.sl 2 (List.map GTf.cs r3.1))), (6, I l10_1), (7, .mv 34), (36, .p (.sl 5 (List.map idc a0n.Kids))), (37, I (lenI (List.map idc a0n.Kids))), (38, I l10_2)], [(34, .mp (mpL mk_msb mv_msb l10_3))]⟩ krf ?_
      refine sL tfm krf ?_
      exact kq_n (l10_1, wi (l10_2 + 1), l10_3) ⟨[3, 4, 6, 7, 36, 37, 38], [34], [], []⟩ krf
     ·refine sK ?_
      refine sN ⟨[3, 4, 6, 7, 9, 36, 37, 38], [9, 34], [], []⟩ ⟨[(3, B r1), (4, .p (.sl 2 (List.map GTf.cs r3.1))), (6, I l10_1), (7, .mv 34), (9, .ptr 9 0), (36, .p (.sl 5 (List.map idc a0n.Kids))), (37, I (lenI (List.map idc a0n.Kids))), (38, I l10_2)], [(9, .box 24 (bxc (GNode.cs x11))), (34, .mp (mpL mk_msb mv_msb l10_3))]⟩ krf ?_
      refine sS ?_
      refine sim_bind (fun j12 => ⟨[(3, B r1), (4, .p (.sl 2 (List.map GTf.cs r3.1))), (6, I l10_1), (7, .mv 34), (9, .ptr 9 0), (36, .p (.sl 5 (List.map idc a0n.Kids))), (37, I (lenI (List.map idc a0n.Kids))), (38, I l10_2), (84, B j12)], [(9, .box 24 (bxc (GNode.cs x11))), (34, .mp (mpL mk_msb mv_msb l10_3))]⟩ : Bool → St) ?_ ?_
      ·refine sim_drw tfm rfl ?_
       refine xR 5 krf ?_
       refine xS (leI (lenI (List.map GTf.cs r3.1)) l10_1) (fun h13 => ?_) (fun h13 => ?_)
       ·refine xN (want_ft krf h13) krf ?_
        refine xR 34 krf ?_
        refine xs_endD krf ?_
        exact nq_n true ⟨[3, 4, 6, 7, 9, 36, 37, 38, 84], [9, 34], [], []⟩ krf
       ·refine xO (want_ff krf h13) krf ?_
        refine xR 1 krf ?_
        refine xG krf krf (aop_idx (e := 27) (S := 2) (enc := GTf.cs) (l := r3.1) (k := .i64) (n := l10_1) (sv := .p (.sl 2 (List.map GTf.cs r3.1))) rfl krf krf krf krf krf) (fun x14 => ?_)
        refine xR 7 krf ?_
        refine xS (!eqS x14.Name x11.Name) (fun h15 => ?_) (fun h15 => ?_)
        ·refine xN (want_ft krf h15) krf ?_
         refine xR 24 krf ?_
         refine xs_endD krf ?_
         exact nq_n true ⟨[3, 4, 6, 7, 9, 36, 37, 38, 84], [9, 34], [], []⟩ krf
        ·refine xO (want_ff krf h15) krf ?_
         refine xR 1 krf ?_
         refine xG krf krf (aop_idx (e := 27) (S := 2) (enc := GTf.cs) (l := r3.1) (k := .i64) (n := l10_1) (sv := .p (.sl 2 (List.map GTf.cs r3.1))) rfl krf krf krf krf krf) (fun x16 => ?_)
         refine xR 9 krf ?_
         refine xS (!eqI (lenI (List.map GAr.cs x16.Articles)) (lenI (List.map idc x11.Kids))) (fun h17 => ?_) (fun h17 => ?_)
         ·refine xN (want_ft krf h17) krf ?_
          refine xR 12 krf ?_
          refine xs_endD krf ?_
          exact nq_n true ⟨[3, 4, 6, 7, 9, 36, 37, 38, 84], [9, 34], [], []⟩ krf
         ·refine xO (want_ff krf h17) krf ?_
          refine xR 2 krf ?_
          refine xs_u krf krf (aop_look (kt := 9) (e := 4) (ke := mk_msb) (ve := mv_msb) (eq := me_msb) (b := 34) (m := l10_3) (k := x11.Name) (z0 := false) rfl krf krf krf krf krf (fun _ => by kernel_rfl) (fun _ _ => eqV_strK rfl _ _) krf) ?_
          refine xR 2 krf ?_
          refine xS (mgetD me_msb x11.Name false l10_3) (fun h18 => ?_) (fun h18 => ?_)
          ·refine xN (want_ft krf h18) krf ?_
           refine xR 6 krf ?_
           refine xs_endD krf ?_
           exact nq_n true ⟨[3, 4, 6, 7, 9, 36, 37, 38, 84], [9, 34], [], []⟩ krf
          ·refine xO (want_ff krf h18) krf ?_
           refine xR 1 krf ?_
           refine xG krf krf (aop_idx (e := 27) (S := 2) (enc := GTf.cs) (l := r3.1) (k := .i64) (n := l10_1) (sv := .p (.sl 2 (List.map GTf.cs r3.1))) rfl krf krf krf krf krf) (fun x19 => ?_)
           refine xR 1 krf ?_
           refine xC [] krf (g_t_Valid_ok n x19) krf krf (fun _ => by kernel_rfl) (fun r20 => ?_)
           refine xR 2 krf ?_
           refine xs_endD krf ?_
           exact nq_n (!r20) ⟨[3, 4, 6, 7, 9, 36, 37, 38, 84], [9, 34], [], []⟩ krf
      ·rintro j12
       refine sC j12 krf ?_ ?_
       ·refine sR tfm ⟨[2], [], [], []⟩ ⟨[(2, B false)], []⟩ krf ?_
        refine sT ?_
        refine sq_r ?_
        refine bq_r ?_
        refine sq_r ?_
        refine kq_r ?_
        refine bq_r ?_
        refine kq_r ?_
        exact qR (.id) krf krf krf
       ·refine sK ?_
        refine sN ⟨[3, 4, 6, 7, 9, 36, 37, 38], [9, 34], [], []⟩ ⟨[(3, B r1), (4, .p (.sl 2 (List.map GTf.cs r3.1))), (6, I l10_1), (7, .mv 34), (9, .ptr 9 0), (36, .p (.sl 5 (List.map idc a0n.Kids))), (37, I (lenI (List.map idc a0n.Kids))), (38, I l10_2)], [(9, .box 24 (bxc (GNode.cs x11))), (34, .mp (mpL mk_msb mv_msb l10_3))]⟩ krf ?_
        refine sS ?_
        refine sG ?_
        refine xR 3 krf ?_
        refine xs_u krf krf (aop_mset (kt := 9) (e := 4) (ke := mk_msb) (ve := mv_msb) (eq := me_msb) (b := 34) (m := l10_3) (k := x11.Name) (v := true) rfl krf krf krf krf krf krf (fun _ => by kernel_rfl) (fun _ _ => eqV_strK rfl _ _)) ?_
        refine xE ?_
        refine sN ⟨[3, 4, 6, 7, 36, 37, 38], [34], [], []⟩ ⟨[(3, B r1), (4, .p (.sl 2 (List.map GTf.cs r3.1))), (6, I l10_1), (7, .mv 34), (36, .p (.sl 5 (List.map idc a0n.Kids))), (37, I (lenI (List.map idc a0n.Kids))), (38, I l10_2)], [(34, .mp (mpL mk_msb mv_msb (mset me_msb x11.Name true l10_3)))]⟩ krf ?_
        refine sL tfm krf ?_
        refine bq_n ?_
        refine sN ⟨[3, 4, 6, 7, 36, 37, 38], [34], [], []⟩ ⟨[(3, B r1), (4, .p (.sl 2 (List.map GTf.cs r3.1))), (6, I (wi (l10_1 + 1))), (7, .mv 34), (36, .p (.sl 5 (List.map idc a0n.Kids))), (37, I (lenI (List.map idc a0n.Kids))), (38, I l10_2)], [(34, .mp (mpL mk_msb mv_msb (mset me_msb x11.Name true l10_3)))]⟩ krf ?_
        refine sL tfm krf ?_
        exact kq_n (wi (l10_1 + 1), wi (l10_2 + 1), mset me_msb x11.Name true l10_3) ⟨[3, 4, 6, 7, 36, 37, 38], [34], [], []⟩ krf
    ·refine sim_exit ?_
     refine sq_x ?_
     refine kq_x ?_
     refine bq_hit ?_
     exact kq_n (k := fun j7 => g_law32_TariffBuilt_j7 r1 r3 j7) l10_1 ⟨[3, 4, 6], [], [], []⟩ krf
end Go.Proofs
namespace Go.Proofs
open Go Go.Abs
set_option maxRecDepth 100000
set_option linter.unusedVariables false
structure GQuoteQuoted where
 Tariff : GTf
 calendar : GCl
 from_ : Int
 to_ : Int
deriving DecidableEq
def GQuoteQuoted.cs (x : GQuoteQuoted) : List PV := [VS x.Tariff.Name, .sl 7 (List.map GAr.cs x.Tariff.Articles), VI x.calendar.Offset, .sl 2 (List.map GCh.cs x.calendar.Changes), .sl 1 (List.map ci x.calendar.Holidays), VI x.from_, VI x.to_]
structure GSl where
 Minute : Int
 Energy : Int
deriving DecidableEq
def GSl.cs (x : GSl) : List PV := [VI x.Minute, VI x.Energy]
structure GSs where
 From : Int
 To : Int
 End : Int
 Slices : List GSl
deriving DecidableEq
def GSs.cs (x : GSs) : List PV := [VI x.From, VI x.To, VI x.End, .sl 2 (List.map GSl.cs x.Slices)]
structure GLine where
 Article : Int
 Amount : Int
deriving DecidableEq
def GLine.cs (x : GLine) : List PV := [VI x.Article, VI x.Amount]
structure GBill where
 Lines : List GLine
 Net : Int
 Tax : Int
 Total : Int
deriving DecidableEq
def GBill.cs (x : GBill) : List PV := [.sl 2 (List.map GLine.cs x.Lines), VI x.Net, VI x.Tax, VI x.Total]
structure GBB where
 article : GAr
 calendar : GCl
 session : GSs
deriving DecidableEq
def GBB.cs (x : GBB) : List PV := [VI x.article.Kind, VI x.article.Days, VI x.article.From, VI x.article.To, VI x.article.Price, VI x.article.Unit, VI x.article.Free, VI x.calendar.Offset, .sl 2 (List.map GCh.cs x.calendar.Changes), .sl 1 (List.map ci x.calendar.Holidays), VI x.session.From, VI x.session.To, VI x.session.End, .sl 2 (List.map GSl.cs x.session.Slices)]
structure GReading where
 Serial : Int
 Number : Int
 Minute : Int
 Register : Int
 Link : Int
deriving DecidableEq
def GReading.cs (x : GReading) : List PV := [VI x.Serial, VI x.Number, VI x.Minute, VI x.Register, VU x.Link]
structure GClaim where
 Tariff : GTf
 Calendar : GCl
 Readings : List GReading
 Seed : Int
 Session : GSs
 Bill : GBill
deriving DecidableEq
def GClaim.cs (x : GClaim) : List PV := [VS x.Tariff.Name, .sl 7 (List.map GAr.cs x.Tariff.Articles), VI x.Calendar.Offset, .sl 2 (List.map GCh.cs x.Calendar.Changes), .sl 1 (List.map ci x.Calendar.Holidays), .sl 5 (List.map GReading.cs x.Readings), VU x.Seed, VI x.Session.From, VI x.Session.To, VI x.Session.End, .sl 2 (List.map GSl.cs x.Session.Slices), .sl 2 (List.map GLine.cs x.Bill.Lines), VI x.Bill.Net, VI x.Bill.Tax, VI x.Bill.Total]
structure GAE where
 Claim : GClaim
 follows : GSs
 bill : GBill
 rate : Int
deriving DecidableEq
def GAE.cs (x : GAE) : List PV := [VS x.Claim.Tariff.Name, .sl 7 (List.map GAr.cs x.Claim.Tariff.Articles), VI x.Claim.Calendar.Offset, .sl 2 (List.map GCh.cs x.Claim.Calendar.Changes), .sl 1 (List.map ci x.Claim.Calendar.Holidays), .sl 5 (List.map GReading.cs x.Claim.Readings), VU x.Claim.Seed, VI x.Claim.Session.From, VI x.Claim.Session.To, VI x.Claim.Session.End, .sl 2 (List.map GSl.cs x.Claim.Session.Slices), .sl 2 (List.map GLine.cs x.Claim.Bill.Lines), VI x.Claim.Bill.Net, VI x.Claim.Bill.Tax, VI x.Claim.Bill.Total, VI x.follows.From, VI x.follows.To, VI x.follows.End, .sl 2 (List.map GSl.cs x.follows.Slices), .sl 2 (List.map GLine.cs x.bill.Lines), VI x.bill.Net, VI x.bill.Tax, VI x.bill.Total, VI x.rate]
def g_a_inside (n : Nat) (a0n : Int) (a1least : Int) (a2greatest : Int) : Option Bool :=
 cond (leI a1least a0n)
  (some (leI a0n a2greatest))
  (some false)
def g_a_isKey (n : Nat) (a0w : List UInt8) : Option Bool :=
 (cond (eqS a0w [102, 101, 101, 100, 101, 114])
  (some (eqS a0w [102, 101, 101, 100, 101, 114]))
  (cond (eqS a0w [99, 97, 98, 108, 101])
   (some (eqS a0w [99, 97, 98, 108, 101]))
   (cond (eqS a0w [111, 119, 110, 101, 114])
    (some (eqS a0w [111, 119, 110, 101, 114]))
    (cond (eqS a0w [99, 111, 110, 116, 114, 97, 99, 116])
     (some (eqS a0w [99, 111, 110, 116, 114, 97, 99, 116]))
     (cond (eqS a0w [99, 104, 97, 114, 103, 101, 114])
      (some (eqS a0w [99, 104, 97, 114, 103, 101, 114]))
      (cond (eqS a0w [98, 97, 121])
       (some (eqS a0w [98, 97, 121]))
       (some (eqS a0w [116, 97, 114, 105, 102, 102])))))))).bind fun j1 =>
 cond j1
  (some true)
  ((cond (eqS a0w [108, 105, 109, 105, 116])
   (some (eqS a0w [108, 105, 109, 105, 116]))
   (cond (eqS a0w [110, 101, 117, 116, 114, 97, 108])
    (some (eqS a0w [110, 101, 117, 116, 114, 97, 108]))
    (cond (eqS a0w [102, 117, 115, 101])
     (some (eqS a0w [102, 117, 115, 101]))
     (cond (eqS a0w [116, 104, 101, 114, 109, 97, 108])
      (some (eqS a0w [116, 104, 101, 114, 109, 97, 108]))
      (cond (eqS a0w [102, 114, 111, 109])
       (some (eqS a0w [102, 114, 111, 109]))
       (cond (eqS a0w [97, 116])
        (some (eqS a0w [97, 116]))
        (cond (eqS a0w [112, 104, 97, 115, 101, 115])
         (some (eqS a0w [112, 104, 97, 115, 101, 115]))
         (cond (eqS a0w [97, 109, 112, 115])
          (some (eqS a0w [97, 109, 112, 115]))
          (cond (eqS a0w [102, 97, 108, 108, 98, 97, 99, 107])
           (some (eqS a0w [102, 97, 108, 108, 98, 97, 99, 107]))
           (cond (eqS a0w [99, 97, 114, 100])
            (some (eqS a0w [99, 97, 114, 100]))
            (some (eqS a0w [114, 97, 110, 107])))))))))))).bind fun j2 =>
  cond j2
   (some true)
   ((cond (eqS a0w [115, 116, 97, 114, 116])
    (some (eqS a0w [115, 116, 97, 114, 116]))
    (cond (eqS a0w [101, 110, 101, 114, 103, 121])
     (some (eqS a0w [101, 110, 101, 114, 103, 121]))
     (cond (eqS a0w [116, 105, 109, 101])
      (some (eqS a0w [116, 105, 109, 101]))
      (cond (eqS a0w [105, 100, 108, 101])
       (some (eqS a0w [105, 100, 108, 101]))
       (cond (eqS a0w [99, 97, 112])
        (some (eqS a0w [99, 97, 112]))
        (some (eqS a0w [116, 97, 120]))))))).bind fun j3 =>
   cond j3
    (some true)
    ((cond (eqS a0w [111, 110])
     (some (eqS a0w [111, 110]))
     (cond (eqS a0w [119, 111, 114, 107])
      (some (eqS a0w [119, 111, 114, 107]))
      (cond (eqS a0w [115, 97, 116, 117, 114, 100, 97, 121])
       (some (eqS a0w [115, 97, 116, 117, 114, 100, 97, 121]))
       (cond (eqS a0w [115, 117, 110, 100, 97, 121])
        (some (eqS a0w [115, 117, 110, 100, 97, 121]))
        (cond (eqS a0w [98, 101, 116, 119, 101, 101, 110])
         (some (eqS a0w [98, 101, 116, 119, 101, 101, 110]))
         (cond (eqS a0w [112, 101, 114])
          (some (eqS a0w [112, 101, 114]))
          (some (eqS a0w [102, 114, 101, 101])))))))).bind fun j4 =>
    cond j4
     (some true)
     (some false))))
def g_a_validArticle (n : Nat) (a0a : GAr) : Option Bool :=
 ((g_a_inside n a0a.Kind 1 6).bind fun r2 =>
 cond (!r2)
  (some true)
  ((g_a_inside n a0a.Days 1 7).bind fun r4 =>
  some (!r4))).bind fun j1 =>
 cond j1
  (some false)
  (((g_a_inside n a0a.From 0 1439).bind fun r6 =>
  cond (!r6)
   (some true)
   (cond (leI a0a.To a0a.From)
    (some true)
    (some (ltI 1440 a0a.To)))).bind fun j5 =>
  cond j5
   (some false)
   ((cond (eqI a0a.From 0)
    (cond (eqI a0a.To 1440)
     (some (eqI a0a.Days 7))
     (some false))
    (some false)).bind fun j9 =>
   (cond (eqI a0a.Unit 0)
    (some (eqI a0a.Free 0))
    (some false)).bind fun j12 =>
   (g_a_inside n a0a.Price 0 1000000).bind fun r14 =>
   (cond (eqI a0a.Kind 3)
    (some (eqI a0a.Kind 3))
    (some (eqI a0a.Kind 4))).bind fun j15 =>
   cond j15
    ((cond r14
     ((g_a_inside n a0a.Unit 1 1440).bind fun r18 =>
     cond r18
      ((g_a_inside n a0a.Free 0 1440).bind fun r20 =>
      some r20)
      (some false))
     (some false)).bind fun j16 =>
    some j16)
    (cond (eqI a0a.Kind 5)
     ((cond r14
      (cond j12
       (some j9)
       (some false))
      (some false)).bind fun j21 =>
     some j21)
     (cond (eqI a0a.Kind 6)
      (((g_a_inside n a0a.Price 0 10000).bind fun r25 =>
      cond r25
       (cond j12
        (some j9)
        (some false))
       (some false)).bind fun j24 =>
      some j24)
      (cond r14
       (some j12)
       (some false))))))
structure GLs where
 from_ : Int
 to_ : Int
deriving DecidableEq
def GLs.cs (x : GLs) : List PV := [VI x.from_, VI x.to_]
end Go.Proofs
namespace Go.Proofs
open Go Go.Abs Go.ChangeShapes Go.WideShapes Go.ChangeAt Go.RowKit Go.Proofs.YtkgamjjfjekgnaaGreat
set_option maxRecDepth 100000
set_option linter.unusedVariables false
def GNode.wfd : Nat → GNode → Prop
 | 0, _ => False
 | d + 1, x => i64b x.Kind ∧ strb x.Name ∧ i64b x.N ∧ i64b x.At ∧ (List.length x.Kids ≤ maxLen ∧ ∀ k ∈ x.Kids, ∃ y : GNode, k = GNode.cs y ∧ GNode.wfd d y)
theorem GNode.wfd_succ : ∀ (d : Nat) (x : GNode), GNode.wfd d x → GNode.wfd (d + 1) x
 | 0, _, h => h.elim
 | d + 1, x, h => by
  obtain ⟨h0, h1, h2, h3, h4⟩ := h
  exact ⟨h0, h1, h2, h3, ⟨h4.1, fun k hk => by obtain ⟨y, e, g⟩ := h4.2 k hk; exact ⟨y, e, GNode.wfd_succ d y g⟩⟩⟩
theorem sh_GNode : ∀ (d : Nat) (cs : List PV), Sh Tryz.prog d 24 cs → ∃ r : GNode, cs = GNode.cs r ∧ GNode.wfd d r
 | 0, _, h => h.elim
 | 1, cs, h => by
  have h := sh_struct Tryz.underlying24 h
  obtain ⟨_, _, rfl, h0, _, _, rfl, h1, _, _, rfl, h2, _, _, rfl, h3, _, _, rfl, h4, rfl⟩ := h
  exact h0.elim
 | d + 2, cs, h => by
  have h := sh_struct Tryz.underlying24 h
  obtain ⟨_, _, rfl, h0, _, _, rfl, h1, _, _, rfl, h2, _, _, rfl, h3, _, _, rfl, h4, rfl⟩ := h
  obtain ⟨x0, rfl, w0⟩ := sh_i64 Tryz.underlying3 h0
  obtain ⟨x1, rfl, w1⟩ := sh_str Tryz.underlying9 h1
  obtain ⟨x2, rfl, w2⟩ := sh_i64 Tryz.underlying3 h2
  obtain ⟨x3, rfl, w3⟩ := sh_i64 Tryz.underlying3 h3
  simp only [Sh, Tryz.underlying22] at h4
  obtain ⟨x4, rfl, w4, g4⟩ := h4
  refine ⟨⟨x0, x1, x2, x3, x4⟩, ?_, w0, w1, w2, w3, w4, fun k hk => ?_⟩
  ·simp only [GNode.cs, map_idc, show Tryz.prog.cellsOf 24 = 5 from by kernel_rfl, List.cons_append, List.nil_append, List.append_nil]
  ·obtain ⟨y, e, g⟩ := sh_GNode d k (g4 k hk)
   exact ⟨y, e, GNode.wfd_succ d y g⟩
theorem sh_GNode_ex {d : Nat} {cs : List PV} (h : Sh Tryz.prog d 24 cs) : ∃ r : GNode, cs = GNode.cs r ∧ ∃ d, GNode.wfd d r := by
 obtain ⟨r, e, g⟩ := sh_GNode d cs h
 exact ⟨r, e, d, g⟩
def TariffBuiltPlain : Prop := ∀ (a0 : GNode), (fun x => ∃ d, GNode.wfd d x) a0 → ∃ n, g_law32_TariffBuilt n a0 = some true
theorem tariffBuilt_call (h : TariffBuiltPlain) : ∀ (D : Nat) xs, ArgsSh Tryz.prog (D + 9) Tryz.f4.params.toList xs → PCall Tryz.prog 4 xs (.ret (.p (.val (.bool true)))) := by
 intro D xs ha
 rw [Tryz.params4] at ha
 obtain ⟨_, _, rfl, h0, rfl⟩ := ha
 obtain ⟨a0, rfl, w0⟩ := sh_GNode_ex h0
 obtain ⟨n, hn⟩ := h a0 w0
 simp only [avOf_struct Tryz.underlying24]
 exact g_law32_TariffBuilt_ok n a0 true hn
set_option maxRecDepth 100000 in
theorem tariffBuilt_lifted (h : TariffBuiltPlain) (os : Os) (started : os.Started) (H : Type) (enc : TypeId × Value → H) :
  ReturnsInHanded {} Tryz.checked os 4 .any (Rows.tariffBuiltSpec.pre6 enc Tryz.prog Tryz.f4 Rows.tariffBuiltRow.domain false) (Rows.tariffBuiltSpec.post enc Tryz.prog Tryz.f4 false true false false) := by
 refine returnsInHanded_of_change (C := Tryz.checked) krf started krf Tryz.func4
  (ChangeSpec.witness6 (enc := enc) (C := Tryz.checked) false ⟨#[], #[.agg #[.int .i64 0, .string ⟨#[]⟩, .int .i64 0, .int .i64 0, .slice none 0 0]], []⟩ 8 krf krf krf krf) ?_
 intro W base args ds gs before hval hW _ _
 exact law_contractR (P := Tryz.prog) (f := 4) (fn := Tryz.f4) (s := Rows.tariffBuiltSpec) (tb := 4) (TS := [3, 9, 22, 24]) krf krf krf krf krf Tryz.underlying4 rfl
  (fun ds hd => by
   have hd : ds.length = 1 := by rw [hd, show Tryz.f4.params.size = 1 from by kernel_rfl]
   match ds, hd with
   | [d0], _ => rfl)
  (tariffBuilt_call h) hval hW
theorem tariffBuilt_said (h : TariffBuiltPlain) : Rows.TariffBuiltSaid :=
 OpenClaim.holds_of_wide 4 Tryz.f4 rfl rfl rfl rfl rfl rfl rfl ⟨rfl, rfl, rfl, rfl, rfl⟩ rfl rfl rfl rfl rfl krf Tryz.func4 krf
  (of_decide_eq_true krf) (by unfold Func.isWrapper; first | (rw [if_pos (by decide +kernel)]; kernel_rfl) | (rw [if_neg (by decide +kernel)]; exact ⟨rfl, rfl⟩))
  (fun os started H enc _ => tariffBuilt_lifted h os started H enc)
end Go.Proofs
namespace Go.Proofs
open Go Go.Abs
set_option maxRecDepth 100000
set_option linter.unusedVariables false
def Does {α : Type} (m : Option α) (Q : α → Prop) : Prop := ∃ r, m = some r ∧ Q r
section
variable {α β V R E : Type}
theorem does_some {x : α} {Q : α → Prop} (h : Q x) : Does (some x) Q := ⟨x, rfl, h⟩
theorem does_mono {m : Option α} {Q Q' : α → Prop} (h : Does m Q) (hq : ∀ x, Q x → Q' x) : Does m Q' := by obtain ⟨x, e, h⟩ := h; exact ⟨x, e, hq x h⟩
theorem does_bind {m : Option α} {k : α → Option β} {Q : α → Prop} {Q' : β → Prop} (h : Does m Q) (hk : ∀ x, Q x → Does (k x) Q') : Does (m.bind k) Q' := by
 obtain ⟨x, rfl, h⟩ := h
 exact hk x h
theorem does_cond {b : Bool} {x y : Option α} {Q : α → Prop} (h1 : b = true → Does x Q) (h2 : b = false → Does y Q) : Does (cond b x y) Q := by
 cases b
 ·exact h2 rfl
 ·exact h1 rfl
theorem does_loop {B : (V → Option R) → V → Option R} {Q : V → R → Prop} (μ : V → Nat) (Inv : V → Prop)
  (hB : ∀ rec v, Inv v → (∀ v', Inv v' → μ v' < μ v → Does (rec v') (Q v')) → Does (B rec v) (Q v)) : ∀ {n : Nat} {v : V}, Inv v → μ v < n → Does (loopN B n v) (Q v)
 | 0, _, _, h => absurd h (Nat.not_lt_zero _)
 | n + 1, v, hv, h => hB _ v hv (fun v' h1 h2 => does_loop μ Inv hB h1 (by omega))
end
theorem getI_nat {α : Type} {l : List α} {i : Nat} : getI l (i : Int) = l[i]? := by
 unfold getI; rw [if_neg (by omega)]; simp
theorem wi_id {x : Int} (h1 : -9223372036854775808 ≤ x) (h2 : x ≤ 9223372036854775807) : wi x = x := by
 simp [wi, IntKind.wrap, IntKind.signed, IntKind.bits]; omega
theorem a_inside (n : Nat) (x a b : Int) : g_a_inside n x a b = some (decide (a ≤ x ∧ x ≤ b)) := by
 unfold g_a_inside leI
 by_cases h : a ≤ x <;> simp [h]
def folB (a r : GReading) : Bool := if r.Serial = a.Serial then decide (a.Minute ≤ r.Minute ∧ a.Register ≤ r.Register) else decide (r.Minute = a.Minute)
def mixB (s x k : Int) : Int := wu ((bXor .u64 s (bAnd .u64 (shrI .u64 (wu x) k) 255)) * 1099511628211)
def mixW (s x : Int) : Int := [56, 48, 40, 32, 24, 16, 8, 0].foldl (fun s k => mixB s x k) s
def linkF (s : Int) (r : GReading) : Int := [r.Serial, r.Number, r.Minute, r.Register].foldl mixW s
def prevLink (seed : Int) (l : List GReading) (i : Nat) : Int := if i = 0 then seed else ((l[i - 1]?).map (·.Link)).getD 0
def chainAt (seed : Int) (l : List GReading) (i : Nat) : Prop := ∀ r ∈ l[i]?, (1 ≤ r.Serial ∧ r.Serial ≤ 1000000) ∧ r.Number = i + 1 ∧ (0 ≤ r.Minute ∧ r.Minute ≤ 52560000) ∧ (0 ≤ r.Register ∧ r.Register ≤ 1000000000) ∧
 (i ≠ 0 → ∀ a ∈ l[i - 1]?, folB a r = true) ∧ r.Link = linkF (prevLink seed l i) r
def chainOk (seed : Int) (l : List GReading) : Prop := (1 ≤ l.length ∧ l.length ≤ 64) ∧ ∀ i, i < l.length → chainAt seed l i
end Go.Proofs
namespace Go.Proofs
open Go Go.Abs
set_option maxRecDepth 100000
set_option linter.unusedVariables false
theorem eqI_d (x y : Int) : eqI x y = decide (x = y) := by unfold eqI; by_cases h : x = y <;> simp [h]
theorem cond_some {α : Type} {b : Bool} {x y : α} : cond b (some x) (some y) = some (cond b x y) := by cases b <;> rfl
def keyB (w : List UInt8) : Bool := (g_a_isKey 0 w).getD false
def artB (a : GAr) : Bool := (g_a_validArticle 0 a).getD false
def chrB (x : UInt8) : Bool := decide ((97 ≤ b2i x ∧ b2i x ≤ 122) ∨ (48 ≤ b2i x ∧ b2i x ≤ 57) ∨ b2i x = 95)
def nameB (s : List UInt8) : Bool := decide (1 ≤ s.length ∧ s.length ≤ 12) && decide (∀ x ∈ s.head?, 97 ≤ b2i x ∧ b2i x ≤ 122) && !keyB s && s.all chrB
theorem loop_list {α R : Type} {l : List α} {B : (Int → Option R) → Int → Option R} {F : List α → R} (hlen : l.length ≤ 4611686018427387904)
  (hend : ∀ rec, B rec (l.length : Int) = some (F []))
  (hstep : ∀ (rec : Int → Option R) (i : Nat) (x : α) (r : List α), l.drop i = x :: r → l[i]? = some x → i < l.length → wi ((i : Int) + 1) = ((i + 1 : Nat) : Int) → (rec ((i + 1 : Nat) : Int) = some (F r)) → B rec (i : Int) = some (F (x :: r))) :
  ∀ {n : Nat} (i : Nat), i ≤ l.length → l.length - i < n → loopN B n (i : Int) = some (F (l.drop i))
 | 0, _, _, h => absurd h (Nat.not_lt_zero _)
 | n + 1, i, hi, h => by
  unfold loopN
  by_cases he : i = l.length
  ·subst he; rw [hend]; simp
  ·have hlt : i < l.length := by omega
   have hd : l.drop i = l[i] :: l.drop (i + 1) := by rw [List.drop_eq_getElem_cons hlt]
   rw [hd]
   exact hstep _ i _ _ hd (by simp [hlt]) hlt (by rw [wi_id] <;> omega) (loop_list hlen hend hstep (i + 1) (by omega) (by omega))
theorem chr_lem (c : Int) : (bif decide (97 ≤ c) then bif decide (c ≤ 122) then false else bif decide (48 ≤ c) then bif decide (c ≤ 57) then false else !(c == 95) else !(c == 95)
  else bif decide (48 ≤ c) then bif decide (c ≤ 57) then false else !(c == 95) else !(c == 95)) = !decide ((97 ≤ c ∧ c ≤ 122) ∨ (48 ≤ c ∧ c ≤ 57) ∨ c = 95) := by
 by_cases h1 : 97 ≤ c <;> by_cases h2 : c ≤ 122 <;> by_cases h3 : 48 ≤ c <;> by_cases h4 : c ≤ 57 <;> by_cases h5 : c = 95 <;> simp [h1, h2, h3, h4, h5] <;> omega
theorem loop_gen {α R A V : Type} {l : List α} (S : A → Int → V) {B : (V → Option R) → V → Option R} {F : A → List α → R} (Inv : Nat → A → Prop) (hlen : l.length ≤ 4611686018427387904)
  (hend : ∀ rec a, Inv l.length a → B rec (S a (l.length : Int)) = some (F a []))
  (hstep : ∀ (rec : V → Option R) (a : A) (i : Nat) (x : α) (r : List α), Inv i a → l.drop i = x :: r → l[i]? = some x → i < l.length → wi ((i : Int) + 1) = ((i + 1 : Nat) : Int) → (∀ a, Inv (i + 1) a → rec (S a ((i + 1 : Nat) : Int)) = some (F a r)) → B rec (S a (i : Int)) = some (F a (x :: r))) :
  ∀ {n : Nat} (i : Nat) (a : A), Inv i a → i ≤ l.length → l.length - i < n → loopN B n (S a (i : Int)) = some (F a (l.drop i))
 | 0, _, _, _, _, h => absurd h (Nat.not_lt_zero _)
 | n + 1, i, a, ha, hi, h => by
  unfold loopN
  by_cases he : i = l.length
  ·subst he; rw [hend _ _ ha]; simp
  ·have hlt : i < l.length := by omega
   have hd : l.drop i = l[i] :: l.drop (i + 1) := by rw [List.drop_eq_getElem_cons hlt]
   rw [hd]
   exact hstep _ a i _ _ ha hd (by simp [hlt]) hlt (by rw [wi_id] <;> omega) (fun a ha => loop_gen S Inv hlen hend hstep (i + 1) a ha (by omega) (by omega))
def tarB : Int → List GAr → Bool
 | k, [] => decide (k ≤ 1)
 | k, a :: r => artB a && tarB (if a.Kind = 6 then k + 1 else k) r
def tariffB (t : GTf) : Bool := nameB t.Name && decide (t.Articles.length ≤ 12) && tarB 0 t.Articles
end Go.Proofs
namespace Go.Proofs
open Go Go.Abs
set_option maxRecDepth 100000
set_option linter.unusedVariables false
theorem loop_does {α R A V : Type} {l : List α} (S : A → Int → V) {B : (V → Option R) → V → Option R} {Q : A → List α → R → Prop} (Inv : Nat → A → Prop) (hlen : l.length ≤ 4611686018427387904)
  (hend : ∀ rec a, Inv l.length a → Does (B rec (S a (l.length : Int))) (Q a []))
  (hstep : ∀ (rec : V → Option R) (a : A) (i : Nat) (x : α) (r : List α), Inv i a → l.drop i = x :: r → l[i]? = some x → i < l.length → wi ((i : Int) + 1) = ((i + 1 : Nat) : Int) → (∀ a, Inv (i + 1) a → Does (rec (S a ((i + 1 : Nat) : Int))) (Q a r)) → Does (B rec (S a (i : Int))) (Q a (x :: r))) :
  ∀ {n : Nat} (i : Nat) (a : A), Inv i a → i ≤ l.length → l.length - i < n → Does (loopN B n (S a (i : Int))) (Q a (l.drop i))
 | 0, _, _, _, _, h => absurd h (Nat.not_lt_zero _)
 | n + 1, i, a, ha, hi, h => by
  unfold loopN
  by_cases he : i = l.length
  ·subst he; simpa using hend _ _ ha
  ·have hlt : i < l.length := by omega
   have hd : l.drop i = l[i] :: l.drop (i + 1) := by rw [List.drop_eq_getElem_cons hlt]
   rw [hd]
   exact hstep _ a i _ _ ha hd (by simp [hlt]) hlt (by rw [wi_id] <;> omega) (fun a ha => loop_does S Inv hlen hend hstep (i + 1) a ha (by omega) (by omega))
end Go.Proofs
namespace Go.Proofs
open Go Go.Abs
set_option maxRecDepth 100000
set_option linter.unusedVariables false
theorem r_in (n : Nat) (l : List (List UInt8)) (s : List UInt8) (hn : 1000 ≤ n) (hl : l.length ≤ 900) : Does (g_ref02_In n l s) (fun r => leI 0 r = l.contains s) := by
 unfold g_ref02_In
 have := loop_does (l := l) (fun (_ : Unit) i => i) (B := fun recl1 l1 => g_ref02_In_l1 l s recl1 l1) (Q := fun _ r x => leI 0 x = r.contains s) (fun _ _ => True) (by omega) ?_ ?_ (n := n) 0 () trivial (by omega) (by omega)
 ·exact this
 ·intro rec a _
  simp only [g_ref02_In_l1, lenI, List.length_map, ltI]
  rw [dzF (by omega), cond_false]
  exact does_some rfl
 ·intro rec a i x r _ hd hx hi hw hr
  simp only [g_ref02_In_l1, lenI, List.length_map, ltI, getI_nat, hx, obs, eqS]
  rw [dzT (by omega), cond_true]
  by_cases h : x = s
  ·subst h
   rw [beq_self_eq_true, cond_true]
   refine does_some ?_
   simp [leI]
  ·rw [show (x == s) = false from by simpa using h, cond_false, hw]
   refine does_mono (hr () trivial) (fun y hy => ?_)
   rw [hy, List.contains_cons, show (s == x) = false from by simpa using fun e => h e.symm, Bool.false_or]
def keyL : List (List UInt8) := ((g_ref02_Kinds 0).getD []) ++ (((g_ref02_Attrs 0).getD []) ++ (((g_ref02_Articles 0).getD []) ++ ((g_ref02_Words 0).getD [])))
theorem cse (b c : Bool) : (bif b then b else c) = (b || c) := by cases b <;> rfl
theorem cst (b c : Bool) : (bif b then true else c) = (b || c) := by cases b <;> rfl
def keyA : List (List UInt8) := [[102, 101, 101, 100, 101, 114], [99, 97, 98, 108, 101], [111, 119, 110, 101, 114], [99, 111, 110, 116, 114, 97, 99, 116], [99, 104, 97, 114, 103, 101, 114], [98, 97, 121], [116, 97, 114, 105, 102, 102], [108, 105, 109, 105, 116], [110, 101, 117, 116, 114, 97, 108], [102, 117, 115, 101], [116, 104, 101, 114, 109, 97, 108], [102, 114, 111, 109], [97, 116], [112, 104, 97, 115, 101, 115], [97, 109, 112, 115], [102, 97, 108, 108, 98, 97, 99, 107], [99, 97, 114, 100], [114, 97, 110, 107], [115, 116, 97, 114, 116], [101, 110, 101, 114, 103, 121], [116, 105, 109, 101], [105, 100, 108, 101], [99, 97, 112], [116, 97, 120], [111, 110], [119, 111, 114, 107], [115, 97, 116, 117, 114, 100, 97, 121], [115, 117, 110, 100, 97, 121], [98, 101, 116, 119, 101, 101, 110], [112, 101, 114], [102, 114, 101, 101]]
theorem keyB_any (s : List UInt8) : keyB s = keyA.contains s := by
 unfold keyB g_a_isKey keyA
 simp only [cond_some, obs, Option.getD_some, cse, cst, eqS, List.contains_cons, List.contains_nil, Bool.or_assoc, Bool.or_false]
theorem keyB_mem (s : List UInt8) : keyB s = keyL.contains s := by
 rw [keyB_any, Bool.eq_iff_iff, List.contains_iff_mem, List.contains_iff_mem]
 have h1 : ∀ x ∈ keyA, x ∈ keyL := by decide
 have h2 : ∀ x ∈ keyL, x ∈ keyA := by decide
 exact ⟨h1 s, h2 s⟩
theorem r_namej (n : Nat) (s : List UInt8) (hn : 1000 ≤ n) : g_ref02_Name_j1 n s = some (decide (1 ≤ s.length ∧ s.length ≤ 12) && !keyB s) := by
 unfold g_ref02_Name_j1 g_ref02_Kinds g_ref02_Attrs g_ref02_Articles g_ref02_Words
 simp only [obs]
 rw [keyB_mem]
 unfold keyL g_ref02_Kinds g_ref02_Attrs g_ref02_Articles g_ref02_Words
 simp only [Option.getD_some]
 have e := fun (l : List (List UInt8)) (hl : l.length ≤ 900) => r_in n l s hn hl
 obtain ⟨r1, e1, h1⟩ := e [[102, 101, 101, 100, 101, 114], [99, 97, 98, 108, 101], [111, 119, 110, 101, 114], [99, 111, 110, 116, 114, 97, 99, 116], [99, 104, 97, 114, 103, 101, 114], [98, 97, 121], [116, 97, 114, 105, 102, 102]] (by decide)
 obtain ⟨r2, e2, h2⟩ := e [[108, 105, 109, 105, 116], [110, 101, 117, 116, 114, 97, 108], [102, 117, 115, 101], [116, 104, 101, 114, 109, 97, 108], [102, 114, 111, 109], [97, 116], [112, 104, 97, 115, 101, 115], [97, 109, 112, 115], [102, 97, 108, 108, 98, 97, 99, 107], [111, 119, 110, 101, 114], [99, 97, 114, 100], [114, 97, 110, 107], [99, 104, 97, 114, 103, 101, 114]] (by decide)
 obtain ⟨r3, e3, h3⟩ := e [[115, 116, 97, 114, 116], [101, 110, 101, 114, 103, 121], [116, 105, 109, 101], [105, 100, 108, 101], [99, 97, 112], [116, 97, 120]] (by decide)
 obtain ⟨r4, e4, h4⟩ := e [[111, 110], [119, 111, 114, 107], [115, 97, 116, 117, 114, 100, 97, 121], [115, 117, 110, 100, 97, 121], [98, 101, 116, 119, 101, 101, 110], [112, 101, 114], [102, 114, 101, 101]] (by decide)
 rw [e1, obs, e2, obs, e3, obs, e4, obs, h1, h2, h3, h4]
 have ha : ∀ (a b : List (List UInt8)), (a ++ b).contains s = (a.contains s || b.contains s) := by intro a b; simp
 rw [ha, ha, ha]
 simp only [cond_some, obs, leI, lenI, cst]
 generalize ((_ : Bool) || _) = k
 by_cases c1 : 1 ≤ s.length
 ·by_cases c2 : s.length ≤ 12
  ·rw [dzT (show (1 : Int) ≤ s.length by omega), dzT (show (s.length : Int) ≤ 12 by omega), dzT (show 1 ≤ s.length ∧ s.length ≤ 12 from ⟨c1, c2⟩)]; rfl
  ·rw [dzT (show (1 : Int) ≤ s.length by omega), dzF (show ¬ (s.length : Int) ≤ 12 by omega), dzF (show ¬ (1 ≤ s.length ∧ s.length ≤ 12) from fun h => c2 h.2)]; rfl
 ·rw [dzF (show ¬ (1 : Int) ≤ s.length by omega), dzF (show ¬ (1 ≤ s.length ∧ s.length ≤ 12) from fun h => c1 h.1)]; rfl
end Go.Proofs
namespace Go.Proofs
open Go Go.Abs
set_option maxRecDepth 100000
set_option linter.unusedVariables false
structure Art (a : GAr) : Prop where
 days : 1 ≤ a.Days ∧ a.Days ≤ 7
 from_ : 0 ≤ a.From ∧ a.From ≤ 1439
 to_ : a.From < a.To ∧ a.To ≤ 1440
 price : 0 ≤ a.Price ∧ a.Price ≤ 1000000
 kind : 1 ≤ a.Kind ∧ a.Kind ≤ 6
 unit : a.Kind = 3 ∨ a.Kind = 4 → 1 ≤ a.Unit ∧ a.Unit ≤ 1440 ∧ 0 ≤ a.Free ∧ a.Free ≤ 1440
 rate : a.Kind = 6 → a.Price ≤ 10000
theorem artB_art {a : GAr} (h : artB a = true) : Art a := by
 unfold artB g_a_validArticle at h
 simp only [a_inside, cond_some, obs, Option.getD_some, eqI_d, ltI, leI] at h
 obtain ⟨k, d, f, t, p, u, v⟩ := a
 simp only [Bool.cond_eq_ite] at h
 by_cases k1 : k = 1
 ·subst k1; simp at h; constructor <;> simp <;> omega
 by_cases k2 : k = 2
 ·subst k2; simp at h; constructor <;> simp <;> omega
 by_cases k3 : k = 3
 ·subst k3; simp at h; constructor <;> simp <;> omega
 by_cases k4 : k = 4
 ·subst k4; simp at h; constructor <;> simp <;> omega
 by_cases k5 : k = 5
 ·subst k5; simp at h; constructor <;> simp <;> omega
 by_cases k6 : k = 6
 ·subst k6; simp at h; constructor <;> simp <;> omega
 exfalso
 simp [k3, k4, k5, k6] at h
 omega
end Go.Proofs
namespace Go.Proofs
open Go Go.Abs
set_option maxRecDepth 100000
set_option linter.unusedVariables false
end Go.Proofs
