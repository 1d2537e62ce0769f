/-
  A part of the proof of a statement of the seat Ytehocmildcedeaa.
-/
import Derived.Test.YtehocmildcedeaaMat03
namespace Go.Proofs
open Go Go.Abs
set_option maxRecDepth 100000
set_option linter.unusedVariables false
def g_ref02_In_l1 (a0l : List (List UInt8)) (a1s : List UInt8) (recl1 : Int → Option Int) (l1 : Int) : Option Int :=
 cond (ltI l1 (lenI (List.map cstr a0l)))
  ((getI a0l l1).bind fun x2 =>
  cond (eqS x2 a1s)
   (some l1)
   (recl1 (wi (l1 + 1))))
  (some (-1))
def g_ref02_In (n : Nat) (a0l : List (List UInt8)) (a1s : List UInt8) : Option Int :=
 loopN (fun recl1 l1 => g_ref02_In_l1 a0l a1s recl1 l1) n 0
theorem g_ref02_In_ok (n : Nat) (a0l : List (List UInt8)) (a1s : List UInt8) : ∀ r, g_ref02_In n a0l a1s = some r → PCall Try.prog 81 [.p (.sl 1 (List.map cstr a0l)), S a1s] (.ret (I r)) := by
 refine pcall_sim (X := fun r : Int => AEnd.ret (I r)) Try.func81 rfl Try.ntmps81 rfl ?_
 unfold g_ref02_In
 refine sim_run Try.fm ⟨[0, 1], [], [], []⟩ ⟨[(0, .p (.sl 1 (List.map cstr a0l))), (1, S a1s)], []⟩ krf ?_
 refine sim_seq ?_
 refine sim_run Try.fm ⟨[0, 1, 5], [], [], []⟩ ⟨[(0, .p (.sl 1 (List.map cstr a0l))), (1, S a1s), (5, I 0)], []⟩ krf ?_
 refine sim_block ?_
 refine sim_loop (fun l1 => ⟨[(0, .p (.sl 1 (List.map cstr a0l))), (1, S a1s), (5, I l1)], []⟩ : Int → St) (weak_shr (K := ⟨[0, 1, 5], [], [], []⟩) krf) ?_
 rintro recl1 l1
 show SimE (g_ref02_In_l1 a0l a1s recl1 l1) _ _ _ _ _ _
 unfold g_ref02_In_l1
 refine sim_seq ?_
 refine sim_run Try.fm ⟨[0, 1, 5, 9], [], [], []⟩ ⟨[(0, .p (.sl 1 (List.map cstr a0l))), (1, S a1s), (5, I l1), (9, B (ltI l1 (lenI (List.map cstr a0l))))], []⟩ krf ?_
 refine sim_cond (ltI l1 (lenI (List.map cstr a0l))) krf ?_ ?_
 ·refine sim_skip ?_
  refine sq_nk ⟨[0, 1, 5], [], [], []⟩ ⟨[(0, .p (.sl 1 (List.map cstr a0l))), (1, S a1s), (5, I l1)], []⟩ krf ?_
  refine sim_seq ?_
  refine sim_block ?_
  refine sim_seq ?_
  refine sim_reg ?_
  refine xs_run 2 krf ?_
  refine xs_get krf krf (aop_idx (e := 9) (S := 1) (enc := cstr) (l := a0l) (k := .i64) (n := l1) (sv := .p (.sl 1 (List.map cstr a0l))) rfl krf krf krf krf krf) (fun x2 => ?_)
  refine xs_run 3 krf ?_
  refine xs_end ?_
  refine sq_nk ⟨[0, 1, 5, 17], [], [], []⟩ ⟨[(0, .p (.sl 1 (List.map cstr a0l))), (1, S a1s), (5, I l1), (17, B (eqS x2 a1s))], []⟩ krf ?_
  refine sim_cond (eqS x2 a1s) krf ?_ ?_
  ·refine sim_run Try.fm ⟨[4], [], [], []⟩ ⟨[(4, I l1)], []⟩ krf ?_
   refine sim_ret ?_
   refine bq_r ?_
   refine sq_r ?_
   refine kq_r ?_
   refine bq_r ?_
   refine sq_r ?_
   exact rq_ret (.id) krf krf krf
  ·refine sim_skip ?_
   refine bq_n ?_
   refine sq_nk ⟨[0, 1, 5], [], [], []⟩ ⟨[(0, .p (.sl 1 (List.map cstr a0l))), (1, S a1s), (5, I l1)], []⟩ krf ?_
   refine sim_last Try.fm krf ?_
   exact kq_n (wi (l1 + 1)) ⟨[0, 1, 5], [], [], []⟩ krf
 ·refine sim_exit ?_
  refine sq_x ?_
  refine kq_x ?_
  refine bq_hit ?_
  refine sq_nk ⟨[], [], [], []⟩ ⟨[], []⟩ krf ?_
  refine sim_run Try.fm ⟨[4], [], [], []⟩ ⟨[(4, I (-1))], []⟩ krf ?_
  refine sim_ret ?_
  exact rq_ret (.id) krf krf krf
def g_ref02_Attrs (n : Nat) : Option (List (List UInt8)) :=
 some [[108, 105, 109, 105, 116], [110, 101, 117, 116, 114, 97, 108], [102, 117, 115, 101], [116, 104, 101, 114, 109, 97, 108], [102, 114, 111, 109], [97, 116], [112, 104, 97, 115, 101, 115], [97, 109, 112, 115], [102, 97, 108, 108, 98, 97, 99, 107], [111, 119, 110, 101, 114], [99, 97, 114, 100], [114, 97, 110, 107], [99, 104, 97, 114, 103, 101, 114]]
theorem g_ref02_Attrs_ok (n : Nat) : ∀ r, g_ref02_Attrs n = some r → PCall Try.prog 83 [] (.ret (.p (.sl 1 (List.map cstr r)))) := by
 refine pcall_sim (X := fun r : List (List UInt8) => AEnd.ret (.p (.sl 1 (List.map cstr r)))) Try.func83 rfl Try.ntmps83 rfl ?_
 unfold g_ref02_Attrs
 refine sim_run Try.fm ⟨[], [], [], []⟩ ⟨[], []⟩ krf ?_
 refine sim_run Try.fm ⟨[0], [1], [], []⟩ ⟨[(0, .tsl 1 (List.map cstr [[108, 105, 109, 105, 116], [110, 101, 117, 116, 114, 97, 108], [102, 117, 115, 101], [116, 104, 101, 114, 109, 97, 108], [102, 114, 111, 109], [97, 116], [112, 104, 97, 115, 101, 115], [97, 109, 112, 115], [102, 97, 108, 108, 98, 97, 99, 107], [111, 119, 110, 101, 114], [99, 97, 114, 100], [114, 97, 110, 107], [99, 104, 97, 114, 103, 101, 114]]) 1)], [(1, .arr 9 1 (List.map cstr [[108, 105, 109, 105, 116], [110, 101, 117, 116, 114, 97, 108], [102, 117, 115, 101], [116, 104, 101, 114, 109, 97, 108], [102, 114, 111, 109], [97, 116], [112, 104, 97, 115, 101, 115], [97, 109, 112, 115], [102, 97, 108, 108, 98, 97, 99, 107], [111, 119, 110, 101, 114], [99, 97, 114, 100], [114, 97, 110, 107], [99, 104, 97, 114, 103, 101, 114]]).length)]⟩ krf ?_
 refine sim_ret ?_
 exact rq_ret (.sl 1) krf krf krf
def g_ref02_Articles (n : Nat) : Option (List (List UInt8)) :=
 some [[115, 116, 97, 114, 116], [101, 110, 101, 114, 103, 121], [116, 105, 109, 101], [105, 100, 108, 101], [99, 97, 112], [116, 97, 120]]
theorem g_ref02_Articles_ok (n : Nat) : ∀ r, g_ref02_Articles n = some r → PCall Try.prog 84 [] (.ret (.p (.sl 1 (List.map cstr r)))) := by
 refine pcall_sim (X := fun r : List (List UInt8) => AEnd.ret (.p (.sl 1 (List.map cstr r)))) Try.func84 rfl Try.ntmps84 rfl ?_
 unfold g_ref02_Articles
 refine sim_run Try.fm ⟨[], [], [], []⟩ ⟨[], []⟩ krf ?_
 refine sim_run Try.fm ⟨[0], [1], [], []⟩ ⟨[(0, .tsl 1 (List.map cstr [[115, 116, 97, 114, 116], [101, 110, 101, 114, 103, 121], [116, 105, 109, 101], [105, 100, 108, 101], [99, 97, 112], [116, 97, 120]]) 1)], [(1, .arr 9 1 (List.map cstr [[115, 116, 97, 114, 116], [101, 110, 101, 114, 103, 121], [116, 105, 109, 101], [105, 100, 108, 101], [99, 97, 112], [116, 97, 120]]).length)]⟩ krf ?_
 refine sim_ret ?_
 exact rq_ret (.sl 1) krf krf krf
def g_ref02_Words (n : Nat) : Option (List (List UInt8)) :=
 some [[111, 110], [119, 111, 114, 107], [115, 97, 116, 117, 114, 100, 97, 121], [115, 117, 110, 100, 97, 121], [98, 101, 116, 119, 101, 101, 110], [112, 101, 114], [102, 114, 101, 101]]
theorem g_ref02_Words_ok (n : Nat) : ∀ r, g_ref02_Words n = some r → PCall Try.prog 85 [] (.ret (.p (.sl 1 (List.map cstr r)))) := by
 refine pcall_sim (X := fun r : List (List UInt8) => AEnd.ret (.p (.sl 1 (List.map cstr r)))) Try.func85 rfl Try.ntmps85 rfl ?_
 unfold g_ref02_Words
 refine sim_run Try.fm ⟨[], [], [], []⟩ ⟨[], []⟩ krf ?_
 refine sim_run Try.fm ⟨[0], [1], [], []⟩ ⟨[(0, .tsl 1 (List.map cstr [[111, 110], [119, 111, 114, 107], [115, 97, 116, 117, 114, 100, 97, 121], [115, 117, 110, 100, 97, 121], [98, 101, 116, 119, 101, 101, 110], [112, 101, 114], [102, 114, 101, 101]]) 1)], [(1, .arr 9 1 (List.map cstr [[111, 110], [119, 111, 114, 107], [115, 97, 116, 117, 114, 100, 97, 121], [115, 117, 110, 100, 97, 121], [98, 101, 116, 119, 101, 101, 110], [112, 101, 114], [102, 114, 101, 101]]).length)]⟩ krf ?_
 refine sim_ret ?_
 exact rq_ret (.sl 1) krf krf krf
def g_ref02_Name_j1 (n : Nat) (a0s : List UInt8) : Option Bool :=
 ((g_ref02_Kinds n).bind fun r3 =>
 (g_ref02_In n r3 a0s).bind fun r4 =>
 cond (leI 0 r4)
  (some true)
  ((g_ref02_Attrs n).bind fun r6 =>
  (g_ref02_In n r6 a0s).bind fun r7 =>
  cond (leI 0 r7)
   (some true)
   ((g_ref02_Articles n).bind fun r9 =>
   (g_ref02_In n r9 a0s).bind fun r10 =>
   cond (leI 0 r10)
    (some true)
    ((g_ref02_Words n).bind fun r12 =>
    (g_ref02_In n r12 a0s).bind fun r13 =>
    some (leI 0 r13))))).bind fun j2 =>
 cond (leI 1 (lenI a0s))
  (cond (leI (lenI a0s) 12)
   (some (!j2))
   (some false))
  (some false)
def g_ref02_Name_l16 (n : Nat) (a0s : List UInt8) (recl16 : Int → Option Bool) (l16 : Int) : Option Bool :=
 cond (ltI l16 (lenI a0s))
  ((getI a0s l16).bind fun x17 =>
  (cond (ltI (b2i x17) 97)
   (cond (eqI l16 0)
    (some true)
    (cond (ltI (b2i x17) 48)
     (some (!eqI (b2i x17) 95))
     (cond (ltI 57 (b2i x17))
      (some (!eqI (b2i x17) 95))
      (some false))))
   (cond (ltI 122 (b2i x17))
    (cond (eqI l16 0)
     (some true)
     (cond (ltI (b2i x17) 48)
      (some (!eqI (b2i x17) 95))
      (cond (ltI 57 (b2i x17))
       (some (!eqI (b2i x17) 95))
       (some false))))
    (some false))).bind fun j18 =>
  cond j18
   (some false)
   (recl16 (wi (l16 + 1))))
  (g_ref02_Name_j1 n a0s)
def g_ref02_Name (n : Nat) (a0s : List UInt8) : Option Bool :=
 loopN (fun recl16 l16 => g_ref02_Name_l16 n a0s recl16 l16) n 0
theorem g_ref02_Name_ok (n : Nat) (a0s : List UInt8) : ∀ r, g_ref02_Name n a0s = some r → PCall Try.prog 58 [S a0s] (.ret (B r)) := by
 refine pcall_sim (X := fun r : Bool => AEnd.ret (B r)) Try.func58 rfl Try.ntmps58 rfl ?_
 unfold g_ref02_Name
 refine sim_run Try.fm ⟨[0], [], [], []⟩ ⟨[(0, S a0s)], []⟩ krf ?_
 refine sim_cps (fun _ => ⟨[(0, S a0s)], []⟩ : Unit → St) (fun _ => g_ref02_Name_j1 n a0s) ?_ ?_
 ·rintro _
  show SimE (g_ref02_Name_j1 n a0s) _ _ _ _ _ _
  unfold g_ref02_Name_j1
  refine sim_bind (fun j2 => ⟨[(0, S a0s), (5, B j2)], []⟩ : Bool → St) ?_ ?_
  ·refine sim_reg ?_
   refine xs_call [] krf (g_ref02_Kinds_ok n) krf krf (fun _ => by kernel_rfl) (fun r3 => ?_)
   refine xs_run 1 krf ?_
   refine xs_call [] krf (g_ref02_In_ok n r3 a0s) krf krf (fun _ => by kernel_rfl) (fun r4 => ?_)
   refine xs_run 2 krf ?_
   refine xs_split (leI 0 r4) (fun h5 => ?_) (fun h5 => ?_)
   ·refine xs_no (want_ft krf h5) krf ?_
    refine xs_run 17 krf ?_
    refine xs_end ?_
    exact nq_n true ⟨[0, 5], [], [], []⟩ krf
   ·refine xs_call [] (want_ff krf h5) (g_ref02_Attrs_ok n) krf krf (fun _ => by kernel_rfl) (fun r6 => ?_)
    refine xs_run 1 krf ?_
    refine xs_call [] krf (g_ref02_In_ok n r6 a0s) krf krf (fun _ => by kernel_rfl) (fun r7 => ?_)
    refine xs_run 3 krf ?_
    refine xs_split (leI 0 r7) (fun h8 => ?_) (fun h8 => ?_)
    ·refine xs_no (want_ft krf h8) krf ?_
     refine xs_run 11 krf ?_
     refine xs_end ?_
     exact nq_n true ⟨[0, 5], [], [], []⟩ krf
    ·refine xs_call [] (want_ff krf h8) (g_ref02_Articles_ok n) krf krf (fun _ => by kernel_rfl) (fun r9 => ?_)
     refine xs_run 1 krf ?_
     refine xs_call [] krf (g_ref02_In_ok n r9 a0s) krf krf (fun _ => by kernel_rfl) (fun r10 => ?_)
     refine xs_run 3 krf ?_
     refine xs_split (leI 0 r10) (fun h11 => ?_) (fun h11 => ?_)
     ·refine xs_no (want_ft krf h11) krf ?_
      refine xs_run 5 krf ?_
      refine xs_end ?_
      exact nq_n true ⟨[0, 5], [], [], []⟩ krf
     ·refine xs_call [] (want_ff krf h11) (g_ref02_Words_ok n) krf krf (fun _ => by kernel_rfl) (fun r12 => ?_)
      refine xs_run 1 krf ?_
      refine xs_call [] krf (g_ref02_In_ok n r12 a0s) krf krf (fun _ => by kernel_rfl) (fun r13 => ?_)
      refine xs_run 3 krf ?_
      refine xs_end ?_
      exact nq_n (leI 0 r13) ⟨[0, 5], [], [], []⟩ krf
  ·rintro j2
   refine sim_seq ?_
   refine sim_reg ?_
   refine xs_run 4 krf ?_
   refine xs_split (leI 1 (lenI a0s)) (fun h14 => ?_) (fun h14 => ?_)
   ·refine xs_one (want_tt krf h14) krf ?_
    refine xs_run 4 krf ?_
    refine xs_split (leI (lenI a0s) 12) (fun h15 => ?_) (fun h15 => ?_)
    ·refine xs_one (want_tt krf h15) krf ?_
     refine xs_run 3 krf ?_
     refine xs_end ?_
     refine sq_nk ⟨[2], [], [], []⟩ ⟨[(2, B (!j2))], []⟩ krf ?_
     refine sim_ret ?_
     exact rq_ret (.id) krf krf krf
    ·refine xs_no (want_tf krf h15) krf ?_
     refine xs_run 3 krf ?_
     refine xs_end ?_
     refine sq_nk ⟨[2], [], [], []⟩ ⟨[(2, B false)], []⟩ krf ?_
     refine sim_ret ?_
     exact rq_ret (.id) krf krf krf
   ·refine xs_no (want_tf krf h14) krf ?_
    refine xs_run 8 krf ?_
    refine xs_end ?_
    refine sq_nk ⟨[2], [], [], []⟩ ⟨[(2, B false)], []⟩ krf ?_
    refine sim_ret ?_
    exact rq_ret (.id) krf krf krf
 ·refine sim_run Try.fm ⟨[0, 3], [], [], []⟩ ⟨[(0, S a0s), (3, I 0)], []⟩ krf ?_
  refine sim_block ?_
  refine sim_loop (fun l16 => ⟨[(0, S a0s), (3, I l16)], []⟩ : Int → St) (weak_shr (K := ⟨[0, 3], [], [], []⟩) krf) ?_
  rintro recl16 l16
  show SimE (g_ref02_Name_l16 n a0s recl16 l16) _ _ _ _ _ _
  unfold g_ref02_Name_l16
  refine sim_seq ?_
  refine sim_run Try.fm ⟨[0, 3, 9], [], [], []⟩ ⟨[(0, S a0s), (3, I l16), (9, B (ltI l16 (lenI a0s)))], []⟩ krf ?_
  refine sim_cond (ltI l16 (lenI a0s)) krf ?_ ?_
  ·refine sim_skip ?_
   refine sq_nk ⟨[0, 3], [], [], []⟩ ⟨[(0, S a0s), (3, I l16)], []⟩ krf ?_
   refine sim_seq ?_
   refine sim_block ?_
   refine sim_seq ?_
   refine sim_reg ?_
   refine xs_run 2 krf ?_
   refine xs_get krf krf (aop_sidx (l := a0s) (k := .i64) (n := l16) rfl krf krf krf) (fun x17 => ?_)
   refine xs_run 1 krf ?_
   refine xs_end ?_
   refine sq_nk ⟨[0, 3, 4], [], [], []⟩ ⟨[(0, S a0s), (3, I l16), (4, B8 (b2i x17))], []⟩ krf ?_
   refine sim_bind (fun j18 => ⟨[(0, S a0s), (3, I l16), (36, B j18)], []⟩ : Bool → St) ?_ ?_
   ·refine sim_reg ?_
    refine xs_run 3 krf ?_
    refine xs_split (ltI (b2i x17) 97) (fun h19 => ?_) (fun h19 => ?_)
    ·refine xs_no (want_ft krf h19) krf ?_
     refine xs_run 6 krf ?_
     refine xs_split (eqI l16 0) (fun h20 => ?_) (fun h20 => ?_)
     ·refine xs_no (want_ft krf h20) krf ?_
      refine xs_run 11 krf ?_
      refine xs_end ?_
      exact nq_n true ⟨[0, 3, 36], [], [], []⟩ krf
     ·refine xs_one (want_ff krf h20) krf ?_
      refine xs_run 2 krf ?_
      refine xs_split (ltI (b2i x17) 48) (fun h21 => ?_) (fun h21 => ?_)
      ·refine xs_no (want_ft krf h21) krf ?_
       refine xs_run 8 krf ?_
       refine xs_end ?_
       exact nq_n (!eqI (b2i x17) 95) ⟨[0, 3, 36], [], [], []⟩ krf
      ·refine xs_one (want_ff krf h21) krf ?_
       refine xs_run 3 krf ?_
       refine xs_split (ltI 57 (b2i x17)) (fun h22 => ?_) (fun h22 => ?_)
       ·refine xs_one (want_tt krf h22) krf ?_
        refine xs_run 4 krf ?_
        refine xs_end ?_
        exact nq_n (!eqI (b2i x17) 95) ⟨[0, 3, 36], [], [], []⟩ krf
       ·refine xs_no (want_tf krf h22) krf ?_
        refine xs_run 4 krf ?_
        refine xs_end ?_
        exact nq_n false ⟨[0, 3, 36], [], [], []⟩ krf
    ·refine xs_one (want_ff krf h19) krf ?_
     refine xs_run 3 krf ?_
     refine xs_split (ltI 122 (b2i x17)) (fun h23 => ?_) (fun h23 => ?_)
     ·refine xs_one (want_tt krf h23) krf ?_
      refine xs_run 2 krf ?_
      refine xs_split (eqI l16 0) (fun h24 => ?_) (fun h24 => ?_)
      ·refine xs_no (want_ft krf h24) krf ?_
       refine xs_run 11 krf ?_
       refine xs_end ?_
       exact nq_n true ⟨[0, 3, 36], [], [], []⟩ krf
      ·refine xs_one (want_ff krf h24) krf ?_
       refine xs_run 2 krf ?_
       refine xs_split (ltI (b2i x17) 48) (fun h25 => ?_) (fun h25 => ?_)
       ·refine xs_no (want_ft krf h25) krf ?_
        refine xs_run 8 krf ?_
        refine xs_end ?_
        exact nq_n (!eqI (b2i x17) 95) ⟨[0, 3, 36], [], [], []⟩ krf
       ·refine xs_one (want_ff krf h25) krf ?_
        refine xs_run 3 krf ?_
        refine xs_split (ltI 57 (b2i x17)) (fun h26 => ?_) (fun h26 => ?_)
        ·refine xs_one (want_tt krf h26) krf ?_
         refine xs_run 4 krf ?_
         refine xs_end ?_
         exact nq_n (!eqI (b2i x17) 95) ⟨[0, 3, 36], [], [], []⟩ krf
        ·refine xs_no (want_tf krf h26) krf ?_
         refine xs_run 4 krf ?_
         refine xs_end ?_
         exact nq_n false ⟨[0, 3, 36], [], [], []⟩ krf
     ·refine xs_no (want_tf krf h23) krf ?_
      refine xs_run 14 krf ?_
      refine xs_end ?_
      exact nq_n false ⟨[0, 3, 36], [], [], []⟩ krf
   ·rintro j18
    refine sim_cond j18 krf ?_ ?_
    ·refine sim_run Try.fm ⟨[2], [], [], []⟩ ⟨[(2, B false)], []⟩ krf ?_
     refine sim_ret ?_
     refine bq_r ?_
     refine sq_r ?_
     refine kq_r ?_
     refine bq_r ?_
     refine kq_r ?_
     exact rq_ret (.id) krf krf krf
    ·refine sim_skip ?_
     refine bq_n ?_
     refine sq_nk ⟨[0, 3], [], [], []⟩ ⟨[(0, S a0s), (3, I l16)], []⟩ krf ?_
     refine sim_last Try.fm krf ?_
     exact kq_n (wi (l16 + 1)) ⟨[0, 3], [], [], []⟩ krf
  ·refine sim_exit ?_
   refine sq_x ?_
   refine kq_x ?_
   refine bq_hit ?_
   exact kq_n (k := fun _ => g_ref02_Name_j1 n a0s) () ⟨[0], [], [], []⟩ krf
def g_ref32_Article (n : Nat) (a0a : GArticle) : Option Bool :=
 (cond (ltI a0a.Price 0)
  (some true)
  (cond (ltI 1000000 a0a.Price)
   (some true)
   (cond (ltI a0a.From 0)
    (some true)
    (cond (ltI 1439 a0a.From)
     (some true)
     (cond (leI a0a.To a0a.From)
      (some true)
      (cond (ltI 1440 a0a.To)
       (some true)
       (cond (ltI a0a.Days 1)
        (some true)
        (some (ltI 7 a0a.Days))))))))).bind fun j1 =>
 cond j1
  (some false)
  ((cond (eqI a0a.Kind 3)
   (some true)
   (some (eqI a0a.Kind 4))).bind fun j9 =>
  cond j9
   ((cond (leI 1 a0a.Unit)
    (cond (leI a0a.Unit 1440)
     (cond (leI 0 a0a.Free)
      (some (leI a0a.Free 1440))
      (some false))
     (some false))
    (some false)).bind fun j11 =>
   some j11)
   ((cond (!eqI a0a.Unit 0)
    (some true)
    (some (!eqI a0a.Free 0))).bind fun j15 =>
   cond j15
    (some false)
    ((cond (eqI a0a.From 0)
     (cond (eqI a0a.To 1440)
      (some (eqI a0a.Days 7))
      (some false))
     (some false)).bind fun j17 =>
    cond (eqI a0a.Kind 6)
     ((cond j17
      (some (leI a0a.Price 10000))
      (some false)).bind fun j20 =>
     some j20)
     (cond (eqI a0a.Kind 5)
      (some j17)
      (cond (eqI a0a.Kind 1)
       (some true)
       (some (eqI a0a.Kind 2)))))))
theorem g_ref32_Article_ok (n : Nat) (a0a : GArticle) : ∀ r, g_ref32_Article n a0a = some r → PCall Try.prog 59 [ag (GArticle.cs a0a)] (.ret (B r)) := by
 refine pcall_sim (X := fun r : Bool => AEnd.ret (B r)) Try.func59 rfl Try.ntmps59 rfl ?_
 unfold g_ref32_Article
 refine sim_run Try.fm ⟨[1], [1], [], []⟩ ⟨[(1, .ptr 1 0)], [(1, .box 44 (bxc (GArticle.cs a0a)))]⟩ krf ?_
 refine sim_seq ?_
 refine sim_bind (fun j1 => ⟨[(1, .ptr 1 0), (43, B j1)], [(1, .box 44 (bxc (GArticle.cs a0a)))]⟩ : Bool → St) ?_ ?_
 ·refine sim_reg ?_
  refine xs_run 4 krf ?_
  refine xs_split (ltI a0a.Price 0) (fun h2 => ?_) (fun h2 => ?_)
  ·refine xs_no (want_ft krf h2) krf ?_
   refine xs_run 35 krf ?_
   refine xs_end ?_
   exact nq_n true ⟨[1, 43], [1], [], []⟩ krf
  ·refine xs_one (want_ff krf h2) krf ?_
   refine xs_run 4 krf ?_
   refine xs_split (ltI 1000000 a0a.Price) (fun h3 => ?_) (fun h3 => ?_)
   ·refine xs_no (want_ft krf h3) krf ?_
    refine xs_run 30 krf ?_
    refine xs_end ?_
    exact nq_n true ⟨[1, 43], [1], [], []⟩ krf
   ·refine xs_one (want_ff krf h3) krf ?_
    refine xs_run 4 krf ?_
    refine xs_split (ltI a0a.From 0) (fun h4 => ?_) (fun h4 => ?_)
    ·refine xs_no (want_ft krf h4) krf ?_
     refine xs_run 25 krf ?_
     refine xs_end ?_
     exact nq_n true ⟨[1, 43], [1], [], []⟩ krf
    ·refine xs_one (want_ff krf h4) krf ?_
     refine xs_run 4 krf ?_
     refine xs_split (ltI 1439 a0a.From) (fun h5 => ?_) (fun h5 => ?_)
     ·refine xs_no (want_ft krf h5) krf ?_
      refine xs_run 20 krf ?_
      refine xs_end ?_
      exact nq_n true ⟨[1, 43], [1], [], []⟩ krf
     ·refine xs_one (want_ff krf h5) krf ?_
      refine xs_run 6 krf ?_
      refine xs_split (leI a0a.To a0a.From) (fun h6 => ?_) (fun h6 => ?_)
      ·refine xs_no (want_ft krf h6) krf ?_
       refine xs_run 13 krf ?_
       refine xs_end ?_
       exact nq_n true ⟨[1, 43], [1], [], []⟩ krf
      ·refine xs_one (want_ff krf h6) krf ?_
       refine xs_run 4 krf ?_
       refine xs_split (ltI 1440 a0a.To) (fun h7 => ?_) (fun h7 => ?_)
       ·refine xs_no (want_ft krf h7) krf ?_
        refine xs_run 8 krf ?_
        refine xs_end ?_
        exact nq_n true ⟨[1, 43], [1], [], []⟩ krf
       ·refine xs_one (want_ff krf h7) krf ?_
        refine xs_run 4 krf ?_
        refine xs_split (ltI a0a.Days 1) (fun h8 => ?_) (fun h8 => ?_)
        ·refine xs_no (want_ft krf h8) krf ?_
         refine xs_run 3 krf ?_
         refine xs_end ?_
         exact nq_n true ⟨[1, 43], [1], [], []⟩ krf
        ·refine xs_one (want_ff krf h8) krf ?_
         refine xs_run 3 krf ?_
         refine xs_end ?_
         exact nq_n (ltI 7 a0a.Days) ⟨[1, 43], [1], [], []⟩ krf
 ·rintro j1
  refine sim_cond j1 krf ?_ ?_
  ·refine sim_run Try.fm ⟨[2], [], [], []⟩ ⟨[(2, B false)], []⟩ krf ?_
   refine sim_ret ?_
   refine sq_r ?_
   exact rq_ret (.id) krf krf krf
  ·refine sim_skip ?_
   refine sq_nk ⟨[1], [1], [], []⟩ ⟨[(1, .ptr 1 0)], [(1, .box 44 (bxc (GArticle.cs a0a)))]⟩ krf ?_
   refine sim_seq ?_
   refine sim_bind (fun j9 => ⟨[(1, .ptr 1 0), (51, B j9)], [(1, .box 44 (bxc (GArticle.cs a0a)))]⟩ : Bool → St) ?_ ?_
   ·refine sim_reg ?_
    refine xs_run 4 krf ?_
    refine xs_split (eqI a0a.Kind 3) (fun h10 => ?_) (fun h10 => ?_)
    ·refine xs_no (want_ft krf h10) krf ?_
     refine xs_run 3 krf ?_
     refine xs_end ?_
     exact nq_n true ⟨[1, 51], [1], [], []⟩ krf
    ·refine xs_one (want_ff krf h10) krf ?_
     refine xs_run 3 krf ?_
     refine xs_end ?_
     exact nq_n (eqI a0a.Kind 4) ⟨[1, 51], [1], [], []⟩ krf
   ·rintro j9
    refine sim_cond j9 krf ?_ ?_
    ·refine sim_bind (fun j11 => ⟨[(2, B j11)], []⟩ : Bool → St) ?_ ?_
     ·refine sim_reg ?_
      refine xs_run 4 krf ?_
      refine xs_split (leI 1 a0a.Unit) (fun h12 => ?_) (fun h12 => ?_)
      ·refine xs_one (want_tt krf h12) krf ?_
       refine xs_run 4 krf ?_
       refine xs_split (leI a0a.Unit 1440) (fun h13 => ?_) (fun h13 => ?_)
       ·refine xs_one (want_tt krf h13) krf ?_
        refine xs_run 4 krf ?_
        refine xs_split (leI 0 a0a.Free) (fun h14 => ?_) (fun h14 => ?_)
        ·refine xs_one (want_tt krf h14) krf ?_
         refine xs_run 4 krf ?_
         refine xs_end ?_
         exact nq_n (leI a0a.Free 1440) ⟨[2], [], [], []⟩ krf
        ·refine xs_no (want_tf krf h14) krf ?_
         refine xs_run 4 krf ?_
         refine xs_end ?_
         exact nq_n false ⟨[2], [], [], []⟩ krf
       ·refine xs_no (want_tf krf h13) krf ?_
        refine xs_run 9 krf ?_
        refine xs_end ?_
        exact nq_n false ⟨[2], [], [], []⟩ krf
      ·refine xs_no (want_tf krf h12) krf ?_
       refine xs_run 14 krf ?_
       refine xs_end ?_
       exact nq_n false ⟨[2], [], [], []⟩ krf
     ·rintro j11
      refine sim_ret ?_
      refine sq_r ?_
      exact rq_ret (.id) krf krf krf
    ·refine sim_skip ?_
     refine sq_nk ⟨[1], [1], [], []⟩ ⟨[(1, .ptr 1 0)], [(1, .box 44 (bxc (GArticle.cs a0a)))]⟩ krf ?_
     refine sim_seq ?_
     refine sim_bind (fun j15 => ⟨[(1, .ptr 1 0), (77, B j15)], [(1, .box 44 (bxc (GArticle.cs a0a)))]⟩ : Bool → St) ?_ ?_
     ·refine sim_reg ?_
      refine xs_run 4 krf ?_
      refine xs_split (!eqI a0a.Unit 0) (fun h16 => ?_) (fun h16 => ?_)
      ·refine xs_no (want_ft krf h16) krf ?_
       refine xs_run 3 krf ?_
       refine xs_end ?_
       exact nq_n true ⟨[1, 77], [1], [], []⟩ krf
      ·refine xs_one (want_ff krf h16) krf ?_
       refine xs_run 3 krf ?_
       refine xs_end ?_
       exact nq_n (!eqI a0a.Free 0) ⟨[1, 77], [1], [], []⟩ krf
     ·rintro j15
      refine sim_cond j15 krf ?_ ?_
      ·refine sim_run Try.fm ⟨[2], [], [], []⟩ ⟨[(2, B false)], []⟩ krf ?_
       refine sim_ret ?_
       refine sq_r ?_
       exact rq_ret (.id) krf krf krf
      ·refine sim_skip ?_
       refine sq_nk ⟨[1], [1], [], []⟩ ⟨[(1, .ptr 1 0)], [(1, .box 44 (bxc (GArticle.cs a0a)))]⟩ krf ?_
       refine sim_bind (fun j17 => ⟨[(1, .ptr 1 0), (3, B j17)], [(1, .box 44 (bxc (GArticle.cs a0a)))]⟩ : Bool → St) ?_ ?_
       ·refine sim_reg ?_
        refine xs_run 4 krf ?_
        refine xs_split (eqI a0a.From 0) (fun h18 => ?_) (fun h18 => ?_)
        ·refine xs_one (want_tt krf h18) krf ?_
         refine xs_run 4 krf ?_
         refine xs_split (eqI a0a.To 1440) (fun h19 => ?_) (fun h19 => ?_)
         ·refine xs_one (want_tt krf h19) krf ?_
          refine xs_run 4 krf ?_
          refine xs_end ?_
          exact nq_n (eqI a0a.Days 7) ⟨[1, 3], [1], [], []⟩ krf
         ·refine xs_no (want_tf krf h19) krf ?_
          refine xs_run 4 krf ?_
          refine xs_end ?_
          exact nq_n false ⟨[1, 3], [1], [], []⟩ krf
        ·refine xs_no (want_tf krf h18) krf ?_
         refine xs_run 9 krf ?_
         refine xs_end ?_
         exact nq_n false ⟨[1, 3], [1], [], []⟩ krf
       ·rintro j17
        refine sim_seq ?_
        refine sim_run Try.fm ⟨[1, 3, 93], [1], [], []⟩ ⟨[(1, .ptr 1 0), (3, B j17), (93, B (eqI a0a.Kind 6))], [(1, .box 44 (bxc (GArticle.cs a0a)))]⟩ krf ?_
        refine sim_cond (eqI a0a.Kind 6) krf ?_ ?_
        ·refine sim_bind (fun j20 => ⟨[(2, B j20)], []⟩ : Bool → St) ?_ ?_
         ·refine sim_reg ?_
          refine xs_run 2 krf ?_
          refine xs_split j17 (fun h21 => ?_) (fun h21 => ?_)
          ·refine xs_one (want_tt krf h21) krf ?_
           refine xs_run 4 krf ?_
           refine xs_end ?_
           exact nq_n (leI a0a.Price 10000) ⟨[2], [], [], []⟩ krf
          ·refine xs_no (want_tf krf h21) krf ?_
           refine xs_run 4 krf ?_
           refine xs_end ?_
           exact nq_n false ⟨[2], [], [], []⟩ krf
         ·rintro j20
          refine sim_ret ?_
          refine sq_r ?_
          exact rq_ret (.id) krf krf krf
        ·refine sim_skip ?_
         refine sq_nk ⟨[1, 3], [1], [], []⟩ ⟨[(1, .ptr 1 0), (3, B j17)], [(1, .box 44 (bxc (GArticle.cs a0a)))]⟩ krf ?_
         refine sim_seq ?_
         refine sim_run Try.fm ⟨[1, 3, 102], [1], [], []⟩ ⟨[(1, .ptr 1 0), (3, B j17), (102, B (eqI a0a.Kind 5))], [(1, .box 44 (bxc (GArticle.cs a0a)))]⟩ krf ?_
         refine sim_cond (eqI a0a.Kind 5) krf ?_ ?_
         ·refine sim_run Try.fm ⟨[2], [], [], []⟩ ⟨[(2, B j17)], []⟩ krf ?_
          refine sim_ret ?_
          refine sq_r ?_
          exact rq_ret (.id) krf krf krf
         ·refine sim_skip ?_
          refine sq_nk ⟨[1], [1], [], []⟩ ⟨[(1, .ptr 1 0)], [(1, .box 44 (bxc (GArticle.cs a0a)))]⟩ krf ?_
          refine sim_seq ?_
          refine sim_reg ?_
          refine xs_run 4 krf ?_
          refine xs_split (eqI a0a.Kind 1) (fun h22 => ?_) (fun h22 => ?_)
          ·refine xs_no (want_ft krf h22) krf ?_
           refine xs_run 4 krf ?_
           refine xs_end ?_
           refine sq_nk ⟨[2], [], [], []⟩ ⟨[(2, B true)], []⟩ krf ?_
           refine sim_ret ?_
           exact rq_ret (.id) krf krf krf
          ·refine xs_one (want_ff krf h22) krf ?_
           refine xs_run 4 krf ?_
           refine xs_end ?_
           refine sq_nk ⟨[2], [], [], []⟩ ⟨[(2, B (eqI a0a.Kind 2))], []⟩ krf ?_
           refine sim_ret ?_
           exact rq_ret (.id) krf krf krf
def g_ref32_Valid_l4 (n : Nat) (a0t : GTariff) (recl4 : (Int × Int) → Option Bool) (l4_1 : Int) (l4_2 : Int) : Option Bool :=
 cond (ltI l4_2 (lenI (List.map GArticle.cs a0t.Articles)))
  ((getI a0t.Articles l4_2).bind fun x5 =>
  (g_ref32_Article n x5).bind fun r6 =>
  cond (!r6)
   (some false)
   ((getI a0t.Articles l4_2).bind fun x7 =>
   cond (eqI x7.Kind 6)
    (recl4 (wi (l4_1 + 1), wi (l4_2 + 1)))
    (recl4 (l4_1, wi (l4_2 + 1)))))
  (some (leI l4_1 1))
def g_ref32_Valid (n : Nat) (a0t : GTariff) : Option Bool :=
 ((g_ref02_Name n a0t.Name).bind fun r2 =>
 cond (!r2)
  (some true)
  (some (ltI 12 (lenI (List.map GArticle.cs a0t.Articles))))).bind fun j1 =>
 cond j1
  (some false)
  (loopN (fun recl4 (l4_1, l4_2) => g_ref32_Valid_l4 n a0t recl4 l4_1 l4_2) n (0, 0))
theorem g_ref32_Valid_ok (n : Nat) (a0t : GTariff) : ∀ r, g_ref32_Valid n a0t = some r → PCall Try.prog 31 [ag (GTariff.cs a0t)] (.ret (B r)) := by
 refine pcall_sim (X := fun r : Bool => AEnd.ret (B r)) Try.func31 rfl Try.ntmps31 rfl ?_
 unfold g_ref32_Valid
 refine sim_run Try.fm ⟨[1], [1], [], []⟩ ⟨[(1, .ptr 1 0)], [(1, .box 24 (bxc (GTariff.cs a0t)))]⟩ krf ?_
 refine sim_seq ?_
 refine sim_bind (fun j1 => ⟨[(1, .ptr 1 0), (14, B j1)], [(1, .box 24 (bxc (GTariff.cs a0t)))]⟩ : Bool → St) ?_ ?_
 ·refine sim_reg ?_
  refine xs_run 2 krf ?_
  refine xs_call [] krf (g_ref02_Name_ok n a0t.Name) krf krf (fun _ => by kernel_rfl) (fun r2 => ?_)
  refine xs_run 2 krf ?_
  refine xs_split (!r2) (fun h3 => ?_) (fun h3 => ?_)
  ·refine xs_no (want_ft krf h3) krf ?_
   refine xs_run 4 krf ?_
   refine xs_end ?_
   exact nq_n true ⟨[1, 14], [1], [], []⟩ krf
  ·refine xs_one (want_ff krf h3) krf ?_
   refine xs_run 4 krf ?_
   refine xs_end ?_
   exact nq_n (ltI 12 (lenI (List.map GArticle.cs a0t.Articles))) ⟨[1, 14], [1], [], []⟩ krf
 ·rintro j1
  refine sim_cond j1 krf ?_ ?_
  ·refine sim_run Try.fm ⟨[2], [], [], []⟩ ⟨[(2, B false)], []⟩ krf ?_
   refine sim_ret ?_
   refine sq_r ?_
   exact rq_ret (.id) krf krf krf
  ·refine sim_skip ?_
   refine sq_nk ⟨[1], [1], [], []⟩ ⟨[(1, .ptr 1 0)], [(1, .box 24 (bxc (GTariff.cs a0t)))]⟩ krf ?_
   refine sim_run Try.fm ⟨[1, 3], [1], [], []⟩ ⟨[(1, .ptr 1 0), (3, I 0)], [(1, .box 24 (bxc (GTariff.cs a0t)))]⟩ krf ?_
   refine sim_seq ?_
   refine sim_run Try.fm ⟨[1, 3, 4], [1], [], []⟩ ⟨[(1, .ptr 1 0), (3, I 0), (4, I 0)], [(1, .box 24 (bxc (GTariff.cs a0t)))]⟩ krf ?_
   refine sim_block ?_
   refine sim_loop (fun (l4_1, l4_2) => ⟨[(1, .ptr 1 0), (3, I l4_1), (4, I l4_2)], [(1, .box 24 (bxc (GTariff.cs a0t)))]⟩ : (Int × Int) → St) (weak_shr (K := ⟨[1, 3, 4], [1], [], []⟩) krf) ?_
   rintro recl4 ⟨l4_1, l4_2⟩
   show SimE (g_ref32_Valid_l4 n a0t recl4 l4_1 l4_2) _ _ _ _ _ _
   unfold g_ref32_Valid_l4
   refine sim_seq ?_
   refine sim_run Try.fm ⟨[1, 3, 4, 19], [1], [], []⟩ ⟨[(1, .ptr 1 0), (3, I l4_1), (4, I l4_2), (19, B (ltI l4_2 (lenI (List.map GArticle.cs a0t.Articles))))], [(1, .box 24 (bxc (GTariff.cs a0t)))]⟩ krf ?_
   refine sim_cond (ltI l4_2 (lenI (List.map GArticle.cs a0t.Articles))) krf ?_ ?_
   ·refine sim_skip ?_
    refine sq_nk ⟨[1, 3, 4], [1], [], []⟩ ⟨[(1, .ptr 1 0), (3, I l4_1), (4, I l4_2)], [(1, .box 24 (bxc (GTariff.cs a0t)))]⟩ krf ?_
    refine sim_seq ?_
    refine sim_block ?_
    refine sim_seq ?_
    refine sim_seq ?_
    refine sim_reg ?_
    refine xs_run 3 krf ?_
    refine xs_get krf krf (aop_idx (e := 44) (S := 7) (enc := GArticle.cs) (l := a0t.Articles) (k := .i64) (n := l4_2) (sv := .p (.sl 7 (List.map GArticle.cs a0t.Articles))) rfl krf krf krf krf krf) (fun x5 => ?_)
    refine xs_run 1 krf ?_
    refine xs_call [] krf (g_ref32_Article_ok n x5) krf krf (fun _ => by kernel_rfl) (fun r6 => ?_)
    refine xs_run 1 krf ?_
    refine xs_end ?_
    refine sq_nk ⟨[1, 3, 4, 28], [1], [], []⟩ ⟨[(1, .ptr 1 0), (3, I l4_1), (4, I l4_2), (28, B (!r6))], [(1, .box 24 (bxc (GTariff.cs a0t)))]⟩ krf ?_
    refine sim_cond (!r6) krf ?_ ?_
    ·refine sim_run Try.fm ⟨[2], [], [], []⟩ ⟨[(2, B false)], []⟩ krf ?_
     refine sim_ret ?_
     refine sq_r ?_
     refine bq_r ?_
     refine sq_r ?_
     refine kq_r ?_
     refine bq_r ?_
     refine sq_r ?_
     exact rq_ret (.id) krf krf krf
    ·refine sim_skip ?_
     refine sq_nk ⟨[1, 3, 4], [1], [], []⟩ ⟨[(1, .ptr 1 0), (3, I l4_1), (4, I l4_2)], [(1, .box 24 (bxc (GTariff.cs a0t)))]⟩ krf ?_
     refine sim_seq ?_
     refine sim_reg ?_
     refine xs_run 3 krf ?_
     refine xs_get krf krf (aop_idx (e := 44) (S := 7) (enc := GArticle.cs) (l := a0t.Articles) (k := .i64) (n := l4_2) (sv := .p (.sl 7 (List.map GArticle.cs a0t.Articles))) rfl krf krf krf krf krf) (fun x7 => ?_)
     refine xs_run 3 krf ?_
     refine xs_end ?_
     refine sq_nk ⟨[1, 3, 4, 35], [1], [], []⟩ ⟨[(1, .ptr 1 0), (3, I l4_1), (4, I l4_2), (35, B (eqI x7.Kind 6))], [(1, .box 24 (bxc (GTariff.cs a0t)))]⟩ krf ?_
     refine sim_cond (eqI x7.Kind 6) krf ?_ ?_
     ·refine sim_last Try.fm krf ?_
      refine bq_n ?_
      refine sq_nk ⟨[1, 3, 4], [1], [], []⟩ ⟨[(1, .ptr 1 0), (3, I (wi (l4_1 + 1))), (4, I l4_2)], [(1, .box 24 (bxc (GTariff.cs a0t)))]⟩ krf ?_
      refine sim_last Try.fm krf ?_
      exact kq_n (wi (l4_1 + 1), wi (l4_2 + 1)) ⟨[1, 3, 4], [1], [], []⟩ krf
     ·refine sim_skip ?_
      refine bq_n ?_
      refine sq_nk ⟨[1, 3, 4], [1], [], []⟩ ⟨[(1, .ptr 1 0), (3, I l4_1), (4, I l4_2)], [(1, .box 24 (bxc (GTariff.cs a0t)))]⟩ krf ?_
      refine sim_last Try.fm krf ?_
      exact kq_n (l4_1, wi (l4_2 + 1)) ⟨[1, 3, 4], [1], [], []⟩ krf
   ·refine sim_exit ?_
    refine sq_x ?_
    refine kq_x ?_
    refine bq_hit ?_
    refine sq_nk ⟨[3], [], [], []⟩ ⟨[(3, I l4_1)], []⟩ krf ?_
    refine sim_run Try.fm ⟨[2], [], [], []⟩ ⟨[(2, B (leI l4_1 1))], []⟩ krf ?_
    refine sim_ret ?_
    exact rq_ret (.id) krf krf krf
def g_ref26_offset (n : Nat) (a0n : Int) : Option Bool :=
 cond (leI (-1440) a0n)
  (some (leI a0n 1440))
  (some false)
theorem g_ref26_offset_ok (n : Nat) (a0n : Int) : ∀ r, g_ref26_offset n a0n = some r → PCall Try.prog 60 [I a0n] (.ret (B r)) := by
 refine pcall_sim (X := fun r : Bool => AEnd.ret (B r)) Try.func60 rfl Try.ntmps60 rfl ?_
 unfold g_ref26_offset
 refine sim_run Try.fm ⟨[0], [], [], []⟩ ⟨[(0, I a0n)], []⟩ krf ?_
 refine sim_seq ?_
 refine sim_reg ?_
 refine xs_run 3 krf ?_
 refine xs_split (leI (-1440) a0n) (fun h1 => ?_) (fun h1 => ?_)
 ·refine xs_one (want_tt krf h1) krf ?_
  refine xs_run 3 krf ?_
  refine xs_end ?_
  refine sq_nk ⟨[2], [], [], []⟩ ⟨[(2, B (leI a0n 1440))], []⟩ krf ?_
  refine sim_ret ?_
  exact rq_ret (.id) krf krf krf
 ·refine xs_no (want_tf krf h1) krf ?_
  refine xs_run 3 krf ?_
  refine xs_end ?_
  refine sq_nk ⟨[2], [], [], []⟩ ⟨[(2, B false)], []⟩ krf ?_
  refine sim_ret ?_
  exact rq_ret (.id) krf krf krf
def g_ref26_Valid_l6 (a0c : GCalendar) (recl6 : Int → Option Bool) (l6 : Int) : Option Bool :=
 cond (ltI l6 (lenI (List.map ci a0c.Holidays)))
  ((getI a0c.Holidays l6).bind fun x7 =>
  (cond (ltI x7 0)
   (some true)
   (cond (ltI 36500 x7)
    (some true)
    (cond (ltI 0 l6)
     ((getI a0c.Holidays (wi (l6 - 1))).bind fun x12 =>
     some (leI x7 x12))
     (some false)))).bind fun j8 =>
  cond j8
   (some false)
   (recl6 (wi (l6 + 1))))
  (some true)
def g_ref26_Valid_j5 (n : Nat) (a0c : GCalendar) : Option Bool :=
 loopN (fun recl6 l6 => g_ref26_Valid_l6 a0c recl6 l6) n 0
def g_ref26_Valid_l13 (n : Nat) (a0c : GCalendar) (recl13 : Int → Option Bool) (l13 : Int) : Option Bool :=
 cond (ltI l13 (lenI (List.map GChange.cs a0c.Changes)))
  ((getI a0c.Changes l13).bind fun x14 =>
  ((g_ref26_offset n x14.Offset).bind fun r16 =>
  cond (!r16)
   (some true)
   (cond (ltI x14.At 0)
    (some true)
    (cond (ltI 52560000 x14.At)
     (some true)
     (cond (ltI 0 l13)
      ((getI a0c.Changes (wi (l13 - 1))).bind fun x21 =>
      some (leI x14.At x21.At))
      (some false))))).bind fun j15 =>
  cond j15
   (some false)
   (recl13 (wi (l13 + 1))))
  (g_ref26_Valid_j5 n a0c)
def g_ref26_Valid (n : Nat) (a0c : GCalendar) : Option Bool :=
 ((g_ref26_offset n a0c.Offset).bind fun r2 =>
 cond (!r2)
  (some true)
  (cond (ltI 16 (lenI (List.map GChange.cs a0c.Changes)))
   (some true)
   (some (ltI 32 (lenI (List.map ci a0c.Holidays)))))).bind fun j1 =>
 cond j1
  (some false)
  (loopN (fun recl13 l13 => g_ref26_Valid_l13 n a0c recl13 l13) n 0)
theorem g_ref26_Valid_ok (n : Nat) (a0c : GCalendar) : ∀ r, g_ref26_Valid n a0c = some r → PCall Try.prog 32 [ag (GCalendar.cs a0c)] (.ret (B r)) := by
 refine pcall_sim (X := fun r : Bool => AEnd.ret (B r)) Try.func32 rfl Try.ntmps32 rfl ?_
 unfold g_ref26_Valid
 refine sim_run Try.fm ⟨[1], [1], [], []⟩ ⟨[(1, .ptr 1 0)], [(1, .box 28 (bxc (GCalendar.cs a0c)))]⟩ krf ?_
 refine sim_seq ?_
 refine sim_bind (fun j1 => ⟨[(1, .ptr 1 0), (22, B j1)], [(1, .box 28 (bxc (GCalendar.cs a0c)))]⟩ : Bool → St) ?_ ?_
 ·refine sim_reg ?_
  refine xs_run 2 krf ?_
  refine xs_call [] krf (g_ref26_offset_ok n a0c.Offset) krf krf (fun _ => by kernel_rfl) (fun r2 => ?_)
  refine xs_run 2 krf ?_
  refine xs_split (!r2) (fun h3 => ?_) (fun h3 => ?_)
  ·refine xs_no (want_ft krf h3) krf ?_
   refine xs_run 10 krf ?_
   refine xs_end ?_
   exact nq_n true ⟨[1, 22], [1], [], []⟩ krf
  ·refine xs_one (want_ff krf h3) krf ?_
   refine xs_run 5 krf ?_
   refine xs_split (ltI 16 (lenI (List.map GChange.cs a0c.Changes))) (fun h4 => ?_) (fun h4 => ?_)
   ·refine xs_no (want_ft krf h4) krf ?_
    refine xs_run 4 krf ?_
    refine xs_end ?_
    exact nq_n true ⟨[1, 22], [1], [], []⟩ krf
   ·refine xs_one (want_ff krf h4) krf ?_
    refine xs_run 4 krf ?_
    refine xs_end ?_
    exact nq_n (ltI 32 (lenI (List.map ci a0c.Holidays))) ⟨[1, 22], [1], [], []⟩ krf
 ·rintro j1
  refine sim_cond j1 krf ?_ ?_
  ·refine sim_run Try.fm ⟨[2], [], [], []⟩ ⟨[(2, B false)], []⟩ krf ?_
   refine sim_ret ?_
   refine sq_r ?_
   exact rq_ret (.id) krf krf krf
  ·refine sim_skip ?_
   refine sq_nk ⟨[1], [1], [], []⟩ ⟨[(1, .ptr 1 0)], [(1, .box 28 (bxc (GCalendar.cs a0c)))]⟩ krf ?_
   refine sim_cps (fun _ => ⟨[(1, .ptr 1 0)], [(1, .box 28 (bxc (GCalendar.cs a0c)))]⟩ : Unit → St) (fun _ => g_ref26_Valid_j5 n a0c) ?_ ?_
   ·rintro _
    show SimE (g_ref26_Valid_j5 n a0c) _ _ _ _ _ _
    unfold g_ref26_Valid_j5
    refine sim_seq ?_
    refine sim_run Try.fm ⟨[1, 5], [1], [], []⟩ ⟨[(1, .ptr 1 0), (5, I 0)], [(1, .box 28 (bxc (GCalendar.cs a0c)))]⟩ krf ?_
    refine sim_block ?_
    refine sim_loop (fun l6 => ⟨[(1, .ptr 1 0), (5, I l6)], [(1, .box 28 (bxc (GCalendar.cs a0c)))]⟩ : Int → St) (weak_shr (K := ⟨[1, 5], [1], [], []⟩) krf) ?_
    rintro recl6 l6
    show SimE (g_ref26_Valid_l6 a0c recl6 l6) _ _ _ _ _ _
    unfold g_ref26_Valid_l6
    refine sim_seq ?_
    refine sim_run Try.fm ⟨[1, 5, 69], [1], [], []⟩ ⟨[(1, .ptr 1 0), (5, I l6), (69, B (ltI l6 (lenI (List.map ci a0c.Holidays))))], [(1, .box 28 (bxc (GCalendar.cs a0c)))]⟩ krf ?_
    refine sim_cond (ltI l6 (lenI (List.map ci a0c.Holidays))) krf ?_ ?_
    ·refine sim_skip ?_
     refine sq_nk ⟨[1, 5], [1], [], []⟩ ⟨[(1, .ptr 1 0), (5, I l6)], [(1, .box 28 (bxc (GCalendar.cs a0c)))]⟩ krf ?_
     refine sim_seq ?_
     refine sim_block ?_
     refine sim_seq ?_
     refine sim_reg ?_
     refine xs_run 3 krf ?_
     refine xs_get krf krf (aop_idx (e := 3) (S := 1) (enc := ci) (l := a0c.Holidays) (k := .i64) (n := l6) (sv := .p (.sl 1 (List.map ci a0c.Holidays))) rfl krf krf krf krf krf) (fun x7 => ?_)
     refine xs_run 2 krf ?_
     refine xs_end ?_
     refine sq_nk ⟨[1, 5, 6], [1], [], []⟩ ⟨[(1, .ptr 1 0), (5, I l6), (6, I x7)], [(1, .box 28 (bxc (GCalendar.cs a0c)))]⟩ krf ?_
     refine sim_bind (fun j8 => ⟨[(1, .ptr 1 0), (5, I l6), (96, B j8)], [(1, .box 28 (bxc (GCalendar.cs a0c)))]⟩ : Bool → St) ?_ ?_
     ·refine sim_reg ?_
      refine xs_run 3 krf ?_
      refine xs_split (ltI x7 0) (fun h9 => ?_) (fun h9 => ?_)
      ·refine xs_no (want_ft krf h9) krf ?_
       refine xs_run 16 krf ?_
       refine xs_end ?_
       exact nq_n true ⟨[1, 5, 96], [1], [], []⟩ krf
      ·refine xs_one (want_ff krf h9) krf ?_
       refine xs_run 3 krf ?_
       refine xs_split (ltI 36500 x7) (fun h10 => ?_) (fun h10 => ?_)
       ·refine xs_no (want_ft krf h10) krf ?_
        refine xs_run 12 krf ?_
        refine xs_end ?_
        exact nq_n true ⟨[1, 5, 96], [1], [], []⟩ krf
       ·refine xs_one (want_ff krf h10) krf ?_
        refine xs_run 2 krf ?_
        refine xs_split (ltI 0 l6) (fun h11 => ?_) (fun h11 => ?_)
        ·refine xs_one (want_tt krf h11) krf ?_
         refine xs_run 4 krf ?_
         refine xs_get krf krf (aop_idx (e := 3) (S := 1) (enc := ci) (l := a0c.Holidays) (k := .i64) (n := wi (l6 - 1)) (sv := .p (.sl 1 (List.map ci a0c.Holidays))) rfl krf krf krf krf krf) (fun x12 => ?_)
         refine xs_run 4 krf ?_
         refine xs_end ?_
         exact nq_n (leI x7 x12) ⟨[1, 5, 96], [1], [], []⟩ krf
        ·refine xs_no (want_tf krf h11) krf ?_
         refine xs_run 9 krf ?_
         refine xs_end ?_
         exact nq_n false ⟨[1, 5, 96], [1], [], []⟩ krf
     ·rintro j8
      refine sim_cond j8 krf ?_ ?_
      ·refine sim_run Try.fm ⟨[2], [], [], []⟩ ⟨[(2, B false)], []⟩ krf ?_
       refine sim_ret ?_
       refine bq_r ?_
       refine sq_r ?_
       refine kq_r ?_
       refine bq_r ?_
       refine sq_r ?_
       exact rq_ret (.id) krf krf krf
      ·refine sim_skip ?_
       refine bq_n ?_
       refine sq_nk ⟨[1, 5], [1], [], []⟩ ⟨[(1, .ptr 1 0), (5, I l6)], [(1, .box 28 (bxc (GCalendar.cs a0c)))]⟩ krf ?_
       refine sim_last Try.fm krf ?_
       exact kq_n (wi (l6 + 1)) ⟨[1, 5], [1], [], []⟩ krf
    ·refine sim_exit ?_
     refine sq_x ?_
     refine kq_x ?_
     refine bq_hit ?_
     refine sq_nk ⟨[], [], [], []⟩ ⟨[], []⟩ krf ?_
     refine sim_run Try.fm ⟨[2], [], [], []⟩ ⟨[(2, B true)], []⟩ krf ?_
     refine sim_ret ?_
     exact rq_ret (.id) krf krf krf
   ·refine sim_run Try.fm ⟨[1, 3], [1], [], []⟩ ⟨[(1, .ptr 1 0), (3, I 0)], [(1, .box 28 (bxc (GCalendar.cs a0c)))]⟩ krf ?_
    refine sim_block ?_
    refine sim_loop (fun l13 => ⟨[(1, .ptr 1 0), (3, I l13)], [(1, .box 28 (bxc (GCalendar.cs a0c)))]⟩ : Int → St) (weak_shr (K := ⟨[1, 3], [1], [], []⟩) krf) ?_
    rintro recl13 l13
    show SimE (g_ref26_Valid_l13 n a0c recl13 l13) _ _ _ _ _ _
    unfold g_ref26_Valid_l13
    refine sim_seq ?_
    refine sim_run Try.fm ⟨[1, 3, 27], [1], [], []⟩ ⟨[(1, .ptr 1 0), (3, I l13), (27, B (ltI l13 (lenI (List.map GChange.cs a0c.Changes))))], [(1, .box 28 (bxc (GCalendar.cs a0c)))]⟩ krf ?_
    refine sim_cond (ltI l13 (lenI (List.map GChange.cs a0c.Changes))) krf ?_ ?_
    ·refine sim_skip ?_
     refine sq_nk ⟨[1, 3], [1], [], []⟩ ⟨[(1, .ptr 1 0), (3, I l13)], [(1, .box 28 (bxc (GCalendar.cs a0c)))]⟩ krf ?_
     refine sim_seq ?_
     refine sim_block ?_
     refine sim_seq ?_
     refine sim_reg ?_
     refine xs_run 3 krf ?_
     refine xs_get krf krf (aop_idx (e := 78) (S := 2) (enc := GChange.cs) (l := a0c.Changes) (k := .i64) (n := l13) (sv := .p (.sl 2 (List.map GChange.cs a0c.Changes))) rfl krf krf krf krf krf) (fun x14 => ?_)
     refine xs_run 3 krf ?_
     refine xs_end ?_
     refine sq_nk ⟨[1, 3, 4], [1, 4], [], []⟩ ⟨[(1, .ptr 1 0), (3, I l13), (4, .ptr 4 0)], [(1, .box 28 (bxc (GCalendar.cs a0c))), (4, .box 78 (bxc (GChange.cs x14)))]⟩ krf ?_
     refine sim_bind (fun j15 => ⟨[(1, .ptr 1 0), (3, I l13), (64, B j15)], [(1, .box 28 (bxc (GCalendar.cs a0c)))]⟩ : Bool → St) ?_ ?_
     ·refine sim_drw Try.fm rfl ?_
      refine xs_run 2 krf ?_
      refine xs_call [] krf (g_ref26_offset_ok n x14.Offset) krf krf (fun _ => by kernel_rfl) (fun r16 => ?_)
      refine xs_run 2 krf ?_
      refine xs_split (!r16) (fun h17 => ?_) (fun h17 => ?_)
      ·refine xs_no (want_ft krf h17) krf ?_
       refine xs_run 24 krf ?_
       refine xs_endD krf ?_
       exact nq_n true ⟨[1, 3, 64], [1], [], []⟩ krf
      ·refine xs_one (want_ff krf h17) krf ?_
       refine xs_run 4 krf ?_
       refine xs_split (ltI x14.At 0) (fun h18 => ?_) (fun h18 => ?_)
       ·refine xs_no (want_ft krf h18) krf ?_
        refine xs_run 19 krf ?_
        refine xs_endD krf ?_
        exact nq_n true ⟨[1, 3, 64], [1], [], []⟩ krf
       ·refine xs_one (want_ff krf h18) krf ?_
        refine xs_run 4 krf ?_
        refine xs_split (ltI 52560000 x14.At) (fun h19 => ?_) (fun h19 => ?_)
        ·refine xs_no (want_ft krf h19) krf ?_
         refine xs_run 14 krf ?_
         refine xs_endD krf ?_
         exact nq_n true ⟨[1, 3, 64], [1], [], []⟩ krf
        ·refine xs_one (want_ff krf h19) krf ?_
         refine xs_run 2 krf ?_
         refine xs_split (ltI 0 l13) (fun h20 => ?_) (fun h20 => ?_)
         ·refine xs_one (want_tt krf h20) krf ?_
          refine xs_run 5 krf ?_
          refine xs_get krf krf (aop_idx (e := 78) (S := 2) (enc := GChange.cs) (l := a0c.Changes) (k := .i64) (n := wi (l13 - 1)) (sv := .p (.sl 2 (List.map GChange.cs a0c.Changes))) rfl krf krf krf krf krf) (fun x21 => ?_)
          refine xs_run 5 krf ?_
          refine xs_endD krf ?_
          exact nq_n (leI x14.At x21.At) ⟨[1, 3, 64], [1], [], []⟩ krf
         ·refine xs_no (want_tf krf h20) krf ?_
          refine xs_run 11 krf ?_
          refine xs_endD krf ?_
          exact nq_n false ⟨[1, 3, 64], [1], [], []⟩ krf
     ·rintro j15
      refine sim_cond j15 krf ?_ ?_
      ·refine sim_run Try.fm ⟨[2], [], [], []⟩ ⟨[(2, B false)], []⟩ krf ?_
       refine sim_ret ?_
       refine bq_r ?_
       refine sq_r ?_
       refine kq_r ?_
       refine bq_r ?_
       refine kq_r ?_
       exact rq_ret (.id) krf krf krf
      ·refine sim_skip ?_
       refine bq_n ?_
       refine sq_nk ⟨[1, 3], [1], [], []⟩ ⟨[(1, .ptr 1 0), (3, I l13)], [(1, .box 28 (bxc (GCalendar.cs a0c)))]⟩ krf ?_
       refine sim_last Try.fm krf ?_
       exact kq_n (wi (l13 + 1)) ⟨[1, 3], [1], [], []⟩ krf
    ·refine sim_exit ?_
     refine sq_x ?_
     refine kq_x ?_
     refine bq_hit ?_
     exact kq_n (k := fun _ => g_ref26_Valid_j5 n a0c) () ⟨[1], [1], [], []⟩ krf
def g_ref35_Limits (n : Nat) (a0from : Int) (a1to : Int) (a2energy : Int) : Option Bool :=
 (cond (leI 0 a0from)
  (cond (ltI a0from a1to)
   (cond (leI a1to 52560000)
    (cond (leI (wi (a1to - a0from)) 2880)
     (cond (leI 0 a2energy)
      (some (leI a2energy 480000))
      (some false))
     (some false))
    (some false))
   (some false))
  (some false)).bind fun j1 =>
 some j1
theorem g_ref35_Limits_ok (n : Nat) (a0from : Int) (a1to : Int) (a2energy : Int) : ∀ r, g_ref35_Limits n a0from a1to a2energy = some r → PCall Try.prog 18 [I a0from, I a1to, I a2energy] (.ret (B r)) := by
 refine pcall_sim (X := fun r : Bool => AEnd.ret (B r)) Try.func18 rfl Try.ntmps18 rfl ?_
 unfold g_ref35_Limits
 refine sim_run Try.fm ⟨[0, 1, 2], [], [], []⟩ ⟨[(0, I a0from), (1, I a1to), (2, I a2energy)], []⟩ krf ?_
 refine sim_bind (fun j1 => ⟨[(6, B j1)], []⟩ : Bool → St) ?_ ?_
 ·refine sim_reg ?_
  refine xs_run 3 krf ?_
  refine xs_split (leI 0 a0from) (fun h2 => ?_) (fun h2 => ?_)
  ·refine xs_one (want_tt krf h2) krf ?_
   refine xs_run 4 krf ?_
   refine xs_split (ltI a0from a1to) (fun h3 => ?_) (fun h3 => ?_)
   ·refine xs_one (want_tt krf h3) krf ?_
    refine xs_run 3 krf ?_
    refine xs_split (leI a1to 52560000) (fun h4 => ?_) (fun h4 => ?_)
    ·refine xs_one (want_tt krf h4) krf ?_
     refine xs_run 5 krf ?_
     refine xs_split (leI (wi (a1to - a0from)) 2880) (fun h5 => ?_) (fun h5 => ?_)
     ·refine xs_one (want_tt krf h5) krf ?_
      refine xs_run 3 krf ?_
      refine xs_split (leI 0 a2energy) (fun h6 => ?_) (fun h6 => ?_)
      ·refine xs_one (want_tt krf h6) krf ?_
       refine xs_run 3 krf ?_
       refine xs_end ?_
       exact nq_n (leI a2energy 480000) ⟨[6], [], [], []⟩ krf
      ·refine xs_no (want_tf krf h6) krf ?_
       refine xs_run 3 krf ?_
       refine xs_end ?_
       exact nq_n false ⟨[6], [], [], []⟩ krf
     ·refine xs_no (want_tf krf h5) krf ?_
      refine xs_run 7 krf ?_
      refine xs_end ?_
      exact nq_n false ⟨[6], [], [], []⟩ krf
    ·refine xs_no (want_tf krf h4) krf ?_
     refine xs_run 13 krf ?_
     refine xs_end ?_
     exact nq_n false ⟨[6], [], [], []⟩ krf
   ·refine xs_no (want_tf krf h3) krf ?_
    refine xs_run 17 krf ?_
    refine xs_end ?_
    exact nq_n false ⟨[6], [], [], []⟩ krf
  ·refine xs_no (want_tf krf h2) krf ?_
   refine xs_run 22 krf ?_
   refine xs_end ?_
   exact nq_n false ⟨[6], [], [], []⟩ krf
 ·rintro j1
  refine sim_ret ?_
  exact rq_ret (.id) krf krf krf
def g_ref26_Offset_l1 (a0c : GCalendar) (a1minute : Int) (recl1 : (Int × Int) → Option Int) (l1_1 : Int) (l1_2 : Int) : Option Int :=
 cond (ltI l1_2 (lenI (List.map GChange.cs a0c.Changes)))
  ((getI a0c.Changes l1_2).bind fun x2 =>
  cond (leI x2.At a1minute)
   ((getI a0c.Changes l1_2).bind fun x3 =>
   recl1 (x3.Offset, wi (l1_2 + 1)))
   (recl1 (l1_1, wi (l1_2 + 1))))
  (some l1_1)
def g_ref26_Offset (n : Nat) (a0c : GCalendar) (a1minute : Int) : Option Int :=
 loopN (fun recl1 (l1_1, l1_2) => g_ref26_Offset_l1 a0c a1minute recl1 l1_1 l1_2) n (a0c.Offset, 0)
theorem g_ref26_Offset_ok (n : Nat) (a0c : GCalendar) (a1minute : Int) : ∀ r, g_ref26_Offset n a0c a1minute = some r → PCall Try.prog 110 [ag (GCalendar.cs a0c), I a1minute] (.ret (I r)) := by
 refine pcall_sim (X := fun r : Int => AEnd.ret (I r)) Try.func110 rfl Try.ntmps110 rfl ?_
 unfold g_ref26_Offset
 refine sim_run Try.fm ⟨[1, 2], [2], [], []⟩ ⟨[(1, I a1minute), (2, .ptr 2 0)], [(2, .box 28 (bxc (GCalendar.cs a0c)))]⟩ krf ?_
 refine sim_run Try.fm ⟨[1, 2, 5], [2], [], []⟩ ⟨[(1, I a1minute), (2, .ptr 2 0), (5, I a0c.Offset)], [(2, .box 28 (bxc (GCalendar.cs a0c)))]⟩ krf ?_
 refine sim_seq ?_
 refine sim_run Try.fm ⟨[1, 2, 5, 6], [2], [], []⟩ ⟨[(1, I a1minute), (2, .ptr 2 0), (5, I a0c.Offset), (6, I 0)], [(2, .box 28 (bxc (GCalendar.cs a0c)))]⟩ krf ?_
 refine sim_block ?_
 refine sim_loop (fun (l1_1, l1_2) => ⟨[(1, I a1minute), (2, .ptr 2 0), (5, I l1_1), (6, I l1_2)], [(2, .box 28 (bxc (GCalendar.cs a0c)))]⟩ : (Int × Int) → St) (weak_shr (K := ⟨[1, 2, 5, 6], [2], [], []⟩) krf) ?_
 rintro recl1 ⟨l1_1, l1_2⟩
 show SimE (g_ref26_Offset_l1 a0c a1minute recl1 l1_1 l1_2) _ _ _ _ _ _
 unfold g_ref26_Offset_l1
 refine sim_seq ?_
 refine sim_run Try.fm ⟨[1, 2, 5, 6, 13], [2], [], []⟩ ⟨[(1, I a1minute), (2, .ptr 2 0), (5, I l1_1), (6, I l1_2), (13, B (ltI l1_2 (lenI (List.map GChange.cs a0c.Changes))))], [(2, .box 28 (bxc (GCalendar.cs a0c)))]⟩ krf ?_
 refine sim_cond (ltI l1_2 (lenI (List.map GChange.cs a0c.Changes))) krf ?_ ?_
 ·refine sim_skip ?_
  refine sq_nk ⟨[1, 2, 5, 6], [2], [], []⟩ ⟨[(1, I a1minute), (2, .ptr 2 0), (5, I l1_1), (6, I l1_2)], [(2, .box 28 (bxc (GCalendar.cs a0c)))]⟩ krf ?_
  refine sim_seq ?_
  refine sim_block ?_
  refine sim_seq ?_
  refine sim_reg ?_
  refine xs_run 3 krf ?_
  refine xs_get krf krf (aop_idx (e := 78) (S := 2) (enc := GChange.cs) (l := a0c.Changes) (k := .i64) (n := l1_2) (sv := .p (.sl 2 (List.map GChange.cs a0c.Changes))) rfl krf krf krf krf krf) (fun x2 => ?_)
  refine xs_run 4 krf ?_
  refine xs_end ?_
  refine sq_nk ⟨[1, 2, 5, 6, 23], [2], [], []⟩ ⟨[(1, I a1minute), (2, .ptr 2 0), (5, I l1_1), (6, I l1_2), (23, B (leI x2.At a1minute))], [(2, .box 28 (bxc (GCalendar.cs a0c)))]⟩ krf ?_
  refine sim_cond (leI x2.At a1minute) krf ?_ ?_
  ·refine sim_reg ?_
   refine xs_run 3 krf ?_
   refine xs_get krf krf (aop_idx (e := 78) (S := 2) (enc := GChange.cs) (l := a0c.Changes) (k := .i64) (n := l1_2) (sv := .p (.sl 2 (List.map GChange.cs a0c.Changes))) rfl krf krf krf krf krf) (fun x3 => ?_)
   refine xs_run 3 krf ?_
   refine xs_end ?_
   refine bq_n ?_
   refine sq_nk ⟨[1, 2, 5, 6], [2], [], []⟩ ⟨[(1, I a1minute), (2, .ptr 2 0), (5, I x3.Offset), (6, I l1_2)], [(2, .box 28 (bxc (GCalendar.cs a0c)))]⟩ krf ?_
   refine sim_last Try.fm krf ?_
   exact kq_n (x3.Offset, wi (l1_2 + 1)) ⟨[1, 2, 5, 6], [2], [], []⟩ krf
  ·refine sim_skip ?_
   refine bq_n ?_
   refine sq_nk ⟨[1, 2, 5, 6], [2], [], []⟩ ⟨[(1, I a1minute), (2, .ptr 2 0), (5, I l1_1), (6, I l1_2)], [(2, .box 28 (bxc (GCalendar.cs a0c)))]⟩ krf ?_
   refine sim_last Try.fm krf ?_
   exact kq_n (l1_1, wi (l1_2 + 1)) ⟨[1, 2, 5, 6], [2], [], []⟩ krf
 ·refine sim_exit ?_
  refine sq_x ?_
  refine kq_x ?_
  refine bq_hit ?_
  refine sq_nk ⟨[5], [], [], []⟩ ⟨[(5, I l1_1)], []⟩ krf ?_
  refine sim_run Try.fm ⟨[4], [], [], []⟩ ⟨[(4, I l1_1)], []⟩ krf ?_
  refine sim_ret ?_
  exact rq_ret (.id) krf krf krf
def g_ref26_Local (n : Nat) (a0c : GCalendar) (a1minute : Int) : Option (Int × Int × Int) :=
 ((g_ref26_Valid n a0c).bind fun r2 =>
 cond (!r2)
  (some true)
  (cond (ltI a1minute 0)
   (some true)
   (some (ltI 52560000 a1minute)))).bind fun j1 =>
 cond j1
  (some (0, 0, 1))
  ((g_ref26_Offset n a0c a1minute).bind fun r5 =>
  cond (ltI (wi (a1minute + r5)) 0)
   (some ((-1), wi ((wi (a1minute + r5)) - (-1440)), 0))
   (some (wi (Int.tdiv (wi (a1minute + r5)) 1440), wi ((wi (a1minute + r5)) - (wi (1440 * (wi (Int.tdiv (wi (a1minute + r5)) 1440))))), 0)))
theorem g_ref26_Local_ok (n : Nat) (a0c : GCalendar) (a1minute : Int) : ∀ r, g_ref26_Local n a0c a1minute = some r → PCall Try.prog 97 [ag (GCalendar.cs a0c), I a1minute] (.ret (.tup [I r.1, I r.2.1, I r.2.2])) := by
 refine pcall_sim (X := fun r : Int × Int × Int => AEnd.ret (.tup [I r.1, I r.2.1, I r.2.2])) Try.func97 rfl Try.ntmps97 rfl ?_
 unfold g_ref26_Local
 refine sim_run Try.fm ⟨[1, 2], [2], [], []⟩ ⟨[(1, I a1minute), (2, .ptr 2 0)], [(2, .box 28 (bxc (GCalendar.cs a0c)))]⟩ krf ?_
 refine sim_seq ?_
 refine sim_bind (fun j1 => ⟨[(1, I a1minute), (2, .ptr 2 0), (19, B j1)], [(2, .box 28 (bxc (GCalendar.cs a0c)))]⟩ : Bool → St) ?_ ?_
 ·refine sim_reg ?_
  refine xs_run 1 krf ?_
  refine xs_call [] krf (g_ref26_Valid_ok n a0c) krf krf (fun _ => by kernel_rfl) (fun r2 => ?_)
  refine xs_run 2 krf ?_
  refine xs_split (!r2) (fun h3 => ?_) (fun h3 => ?_)
  ·refine xs_no (want_ft krf h3) krf ?_
   refine xs_run 6 krf ?_
   refine xs_end ?_
   exact nq_n true ⟨[1, 2, 19], [2], [], []⟩ krf
  ·refine xs_one (want_ff krf h3) krf ?_
   refine xs_run 3 krf ?_
   refine xs_split (ltI a1minute 0) (fun h4 => ?_) (fun h4 => ?_)
   ·refine xs_no (want_ft krf h4) krf ?_
    refine xs_run 2 krf ?_
    refine xs_end ?_
    exact nq_n true ⟨[1, 2, 19], [2], [], []⟩ krf
   ·refine xs_one (want_ff krf h4) krf ?_
    refine xs_run 2 krf ?_
    refine xs_end ?_
    exact nq_n (ltI 52560000 a1minute) ⟨[1, 2, 19], [2], [], []⟩ krf
 ·rintro j1
  refine sim_cond j1 krf ?_ ?_
  ·refine sim_run Try.fm ⟨[4, 5, 6], [], [], []⟩ ⟨[(4, I 0), (5, I 0), (6, I 1)], []⟩ krf ?_
   refine sim_ret ?_
   refine sq_r ?_
   exact rq_ret (.id) krf krf krf
  ·refine sim_skip ?_
   refine sq_nk ⟨[1, 2], [2], [], []⟩ ⟨[(1, I a1minute), (2, .ptr 2 0)], [(2, .box 28 (bxc (GCalendar.cs a0c)))]⟩ krf ?_
   refine sim_seq ?_
   refine sim_reg ?_
   refine xs_run 3 krf ?_
   refine xs_call [] krf (g_ref26_Offset_ok n a0c a1minute) krf krf (fun _ => by kernel_rfl) (fun r5 => ?_)
   refine xs_run 2 krf ?_
   refine xs_end ?_
   refine sq_nk ⟨[7], [], [], []⟩ ⟨[(7, I (wi (a1minute + r5)))], []⟩ krf ?_
   refine sim_run Try.fm ⟨[7], [], [], []⟩ ⟨[(7, I (wi (a1minute + r5)))], []⟩ krf ?_
   refine sim_seq ?_
   refine sim_run Try.fm ⟨[7, 26], [], [], []⟩ ⟨[(7, I (wi (a1minute + r5))), (26, B (ltI (wi (a1minute + r5)) 0))], []⟩ krf ?_
   refine sim_cond (ltI (wi (a1minute + r5)) 0) krf ?_ ?_
   ·refine sim_last Try.fm krf ?_
    refine sq_nk ⟨[7, 8], [], [], []⟩ ⟨[(7, I (wi (a1minute + r5))), (8, I (-1))], []⟩ krf ?_
    refine sim_run Try.fm ⟨[4, 5, 6], [], [], []⟩ ⟨[(4, I (-1)), (5, I (wi ((wi (a1minute + r5)) - (-1440)))), (6, I 0)], []⟩ krf ?_
    refine sim_ret ?_
    exact rq_ret (.id) krf krf krf
   ·refine sim_last Try.fm krf ?_
    refine sq_nk ⟨[7, 8], [], [], []⟩ ⟨[(7, I (wi (a1minute + r5))), (8, I (wi (Int.tdiv (wi (a1minute + r5)) 1440)))], []⟩ krf ?_
    refine sim_run Try.fm ⟨[4, 5, 6], [], [], []⟩ ⟨[(4, I (wi (Int.tdiv (wi (a1minute + r5)) 1440))), (5, I (wi ((wi (a1minute + r5)) - (wi (1440 * (wi (Int.tdiv (wi (a1minute + r5)) 1440))))))), (6, I 0)], []⟩ krf ?_
    refine sim_ret ?_
    exact rq_ret (.id) krf krf krf
def g_ref26_Type_j5 (a1day : Int) : Option (Int × Int) :=
 cond (eqI (Int.tmod (wi (a1day + 7)) 7) 6)
  (some (2, 0))
  (cond (eqI (Int.tmod (wi (a1day + 7)) 7) 5)
   (some (1, 0))
   (some (0, 0)))
def g_ref26_Type_l6 (a0c : GCalendar) (a1day : Int) (recl6 : Int → Option (Int × Int)) (l6 : Int) : Option (Int × Int) :=
 cond (ltI l6 (lenI (List.map ci a0c.Holidays)))
  ((getI a0c.Holidays l6).bind fun x7 =>
  cond (eqI x7 a1day)
   (some (2, 0))
   (recl6 (wi (l6 + 1))))
  (g_ref26_Type_j5 a1day)
def g_ref26_Type (n : Nat) (a0c : GCalendar) (a1day : Int) : Option (Int × Int) :=
 ((g_ref26_Valid n a0c).bind fun r2 =>
 cond (!r2)
  (some true)
  (cond (ltI a1day (-1))
   (some true)
   (some (ltI 36501 a1day)))).bind fun j1 =>
 cond j1
  (some (0, 1))
  (loopN (fun recl6 l6 => g_ref26_Type_l6 a0c a1day recl6 l6) n 0)
theorem g_ref26_Type_ok (n : Nat) (a0c : GCalendar) (a1day : Int) : ∀ r, g_ref26_Type n a0c a1day = some r → PCall Try.prog 98 [ag (GCalendar.cs a0c), I a1day] (.ret (.tup [I r.1, I r.2])) := by
 refine pcall_sim (X := fun r : Int × Int => AEnd.ret (.tup [I r.1, I r.2])) Try.func98 rfl Try.ntmps98 rfl ?_
 unfold g_ref26_Type
 refine sim_run Try.fm ⟨[1, 2], [2], [], []⟩ ⟨[(1, I a1day), (2, .ptr 2 0)], [(2, .box 28 (bxc (GCalendar.cs a0c)))]⟩ krf ?_
 refine sim_seq ?_
 refine sim_bind (fun j1 => ⟨[(1, I a1day), (2, .ptr 2 0), (18, B j1)], [(2, .box 28 (bxc (GCalendar.cs a0c)))]⟩ : Bool → St) ?_ ?_
 ·refine sim_reg ?_
  refine xs_run 1 krf ?_
  refine xs_call [] krf (g_ref26_Valid_ok n a0c) krf krf (fun _ => by kernel_rfl) (fun r2 => ?_)
  refine xs_run 2 krf ?_
  refine xs_split (!r2) (fun h3 => ?_) (fun h3 => ?_)
  ·refine xs_no (want_ft krf h3) krf ?_
   refine xs_run 6 krf ?_
   refine xs_end ?_
   exact nq_n true ⟨[1, 2, 18], [2], [], []⟩ krf
  ·refine xs_one (want_ff krf h3) krf ?_
   refine xs_run 3 krf ?_
   refine xs_split (ltI a1day (-1)) (fun h4 => ?_) (fun h4 => ?_)
   ·refine xs_no (want_ft krf h4) krf ?_
    refine xs_run 2 krf ?_
    refine xs_end ?_
    exact nq_n true ⟨[1, 2, 18], [2], [], []⟩ krf
   ·refine xs_one (want_ff krf h4) krf ?_
    refine xs_run 2 krf ?_
    refine xs_end ?_
    exact nq_n (ltI 36501 a1day) ⟨[1, 2, 18], [2], [], []⟩ krf
 ·rintro j1
  refine sim_cond j1 krf ?_ ?_
  ·refine sim_run Try.fm ⟨[4, 5], [], [], []⟩ ⟨[(4, I 0), (5, I 1)], []⟩ krf ?_
   refine sim_ret ?_
   refine sq_r ?_
   exact rq_ret (.id) krf krf krf
  ·refine sim_skip ?_
   refine sq_nk ⟨[1, 2], [2], [], []⟩ ⟨[(1, I a1day), (2, .ptr 2 0)], [(2, .box 28 (bxc (GCalendar.cs a0c)))]⟩ krf ?_
   refine sim_cps (fun _ => ⟨[(1, I a1day)], []⟩ : Unit → St) (fun _ => g_ref26_Type_j5 a1day) ?_ ?_
   ·rintro _
    show SimE (g_ref26_Type_j5 a1day) _ _ _ _ _ _
    unfold g_ref26_Type_j5
    refine sim_run Try.fm ⟨[7], [], [], []⟩ ⟨[(7, I (Int.tmod (wi (a1day + 7)) 7))], []⟩ krf ?_
    refine sim_seq ?_
    refine sim_run Try.fm ⟨[7, 37], [], [], []⟩ ⟨[(7, I (Int.tmod (wi (a1day + 7)) 7)), (37, B (eqI (Int.tmod (wi (a1day + 7)) 7) 6))], []⟩ krf ?_
    refine sim_cond (eqI (Int.tmod (wi (a1day + 7)) 7) 6) krf ?_ ?_
    ·refine sim_run Try.fm ⟨[4, 5], [], [], []⟩ ⟨[(4, I 2), (5, I 0)], []⟩ krf ?_
     refine sim_ret ?_
     refine sq_r ?_
     exact rq_ret (.id) krf krf krf
    ·refine sim_skip ?_
     refine sq_nk ⟨[7], [], [], []⟩ ⟨[(7, I (Int.tmod (wi (a1day + 7)) 7))], []⟩ krf ?_
     refine sim_seq ?_
     refine sim_run Try.fm ⟨[39], [], [], []⟩ ⟨[(39, B (eqI (Int.tmod (wi (a1day + 7)) 7) 5))], []⟩ krf ?_
     refine sim_cond (eqI (Int.tmod (wi (a1day + 7)) 7) 5) krf ?_ ?_
     ·refine sim_run Try.fm ⟨[4, 5], [], [], []⟩ ⟨[(4, I 1), (5, I 0)], []⟩ krf ?_
      refine sim_ret ?_
      refine sq_r ?_
      exact rq_ret (.id) krf krf krf
     ·refine sim_skip ?_
      refine sq_nk ⟨[], [], [], []⟩ ⟨[], []⟩ krf ?_
      refine sim_run Try.fm ⟨[4, 5], [], [], []⟩ ⟨[(4, I 0), (5, I 0)], []⟩ krf ?_
      refine sim_ret ?_
      exact rq_ret (.id) krf krf krf
   ·refine sim_run Try.fm ⟨[1, 2, 6], [2], [], []⟩ ⟨[(1, I a1day), (2, .ptr 2 0), (6, I 0)], [(2, .box 28 (bxc (GCalendar.cs a0c)))]⟩ krf ?_
    refine sim_block ?_
    refine sim_loop (fun l6 => ⟨[(1, I a1day), (2, .ptr 2 0), (6, I l6)], [(2, .box 28 (bxc (GCalendar.cs a0c)))]⟩ : Int → St) (weak_shr (K := ⟨[1, 2, 6], [2], [], []⟩) krf) ?_
    rintro recl6 l6
    show SimE (g_ref26_Type_l6 a0c a1day recl6 l6) _ _ _ _ _ _
    unfold g_ref26_Type_l6
    refine sim_seq ?_
    refine sim_run Try.fm ⟨[1, 2, 6, 23], [2], [], []⟩ ⟨[(1, I a1day), (2, .ptr 2 0), (6, I l6), (23, B (ltI l6 (lenI (List.map ci a0c.Holidays))))], [(2, .box 28 (bxc (GCalendar.cs a0c)))]⟩ krf ?_
    refine sim_cond (ltI l6 (lenI (List.map ci a0c.Holidays))) krf ?_ ?_
    ·refine sim_skip ?_
     refine sq_nk ⟨[1, 2, 6], [2], [], []⟩ ⟨[(1, I a1day), (2, .ptr 2 0), (6, I l6)], [(2, .box 28 (bxc (GCalendar.cs a0c)))]⟩ krf ?_
     refine sim_seq ?_
     refine sim_block ?_
     refine sim_seq ?_
     refine sim_reg ?_
     refine xs_run 3 krf ?_
     refine xs_get krf krf (aop_idx (e := 3) (S := 1) (enc := ci) (l := a0c.Holidays) (k := .i64) (n := l6) (sv := .p (.sl 1 (List.map ci a0c.Holidays))) rfl krf krf krf krf krf) (fun x7 => ?_)
     refine xs_run 3 krf ?_
     refine xs_end ?_
     refine sq_nk ⟨[1, 2, 6, 32], [2], [], []⟩ ⟨[(1, I a1day), (2, .ptr 2 0), (6, I l6), (32, B (eqI x7 a1day))], [(2, .box 28 (bxc (GCalendar.cs a0c)))]⟩ krf ?_
     refine sim_cond (eqI x7 a1day) krf ?_ ?_
     ·refine sim_run Try.fm ⟨[4, 5], [], [], []⟩ ⟨[(4, I 2), (5, I 0)], []⟩ krf ?_
      refine sim_ret ?_
      refine bq_r ?_
      refine sq_r ?_
      refine kq_r ?_
      refine bq_r ?_
      refine kq_r ?_
      exact rq_ret (.id) krf krf krf
     ·refine sim_skip ?_
      refine bq_n ?_
      refine sq_nk ⟨[1, 2, 6], [2], [], []⟩ ⟨[(1, I a1day), (2, .ptr 2 0), (6, I l6)], [(2, .box 28 (bxc (GCalendar.cs a0c)))]⟩ krf ?_
      refine sim_last Try.fm krf ?_
      exact kq_n (wi (l6 + 1)) ⟨[1, 2, 6], [2], [], []⟩ krf
    ·refine sim_exit ?_
     refine sq_x ?_
     refine kq_x ?_
     refine bq_hit ?_
     exact kq_n (k := fun _ => g_ref26_Type_j5 a1day) () ⟨[1], [], [], []⟩ krf
def g_ref32_Applies (n : Nat) (a0a : GArticle) (a1c : GCalendar) (a2minute : Int) : Option Bool :=
 (g_ref32_Article n a0a).bind fun r1 =>
 cond (!r1)
  (some false)
  ((g_ref26_Local n a1c a2minute).bind fun r2 =>
  cond (!eqI r2.2.2 0)
   (some false)
   ((g_ref26_Type n a1c r2.1).bind fun r3 =>
   (cond (eqI r3.1 1)
    (some (eqI (Int.tmod (wi (Int.tdiv a0a.Days 2)) 2) 1))
    (some (eqI (Int.tmod a0a.Days 2) 1))).bind fun j4 =>
   (cond (eqI r3.1 2)
    (some (eqI (Int.tmod (wi (Int.tdiv a0a.Days 4)) 2) 1))
    (some j4)).bind fun j5 =>
   cond j5
    (cond (leI a0a.From r2.2.1)
     (some (ltI r2.2.1 a0a.To))
     (some false))
    (some false)))
theorem g_ref32_Applies_ok (n : Nat) (a0a : GArticle) (a1c : GCalendar) (a2minute : Int) : ∀ r, g_ref32_Applies n a0a a1c a2minute = some r → PCall Try.prog 86 [ag (GArticle.cs a0a), ag (GCalendar.cs a1c), I a2minute] (.ret (B r)) := by
 refine pcall_sim (X := fun r : Bool => AEnd.ret (B r)) Try.func86 rfl Try.ntmps86 rfl ?_
 unfold g_ref32_Applies
 refine sim_run Try.fm ⟨[2, 3, 4], [3, 4], [], []⟩ ⟨[(2, I a2minute), (3, .ptr 3 0), (4, .ptr 4 0)], [(3, .box 44 (bxc (GArticle.cs a0a))), (4, .box 28 (bxc (GCalendar.cs a1c)))]⟩ krf ?_
 refine sim_seq ?_
 refine sim_seq ?_
 refine sim_reg ?_
 refine xs_run 1 krf ?_
 refine xs_call [] krf (g_ref32_Article_ok n a0a) krf krf (fun _ => by kernel_rfl) (fun r1 => ?_)
 refine xs_run 1 krf ?_
 refine xs_end ?_
 refine sq_nk ⟨[2, 3, 4, 15], [3, 4], [], []⟩ ⟨[(2, I a2minute), (3, .ptr 3 0), (4, .ptr 4 0), (15, B (!r1))], [(3, .box 44 (bxc (GArticle.cs a0a))), (4, .box 28 (bxc (GCalendar.cs a1c)))]⟩ krf ?_
 refine sim_cond (!r1) krf ?_ ?_
 ·refine sim_run Try.fm ⟨[6], [], [], []⟩ ⟨[(6, B false)], []⟩ krf ?_
  refine sim_ret ?_
  refine sq_r ?_
  exact rq_ret (.id) krf krf krf
 ·refine sim_skip ?_
  refine sq_nk ⟨[2, 3, 4], [3, 4], [], []⟩ ⟨[(2, I a2minute), (3, .ptr 3 0), (4, .ptr 4 0)], [(3, .box 44 (bxc (GArticle.cs a0a))), (4, .box 28 (bxc (GCalendar.cs a1c)))]⟩ krf ?_
  refine sim_seq ?_
  refine sim_reg ?_
  refine xs_run 2 krf ?_
  refine xs_call [] krf (g_ref26_Local_ok n a1c a2minute) krf krf (fun _ => by kernel_rfl) (fun r2 => ?_)
  refine xs_run 7 krf ?_
  refine xs_end ?_
  refine sq_nk ⟨[3, 4, 7, 8, 9], [3, 4], [], []⟩ ⟨[(3, .ptr 3 0), (4, .ptr 4 0), (7, I r2.1), (8, I r2.2.1), (9, I r2.2.2)], [(3, .box 44 (bxc (GArticle.cs a0a))), (4, .box 28 (bxc (GCalendar.cs a1c)))]⟩ krf ?_
  refine sim_seq ?_
  refine sim_run Try.fm ⟨[3, 4, 7, 8, 24], [3, 4], [], []⟩ ⟨[(3, .ptr 3 0), (4, .ptr 4 0), (7, I r2.1), (8, I r2.2.1), (24, B (!eqI r2.2.2 0))], [(3, .box 44 (bxc (GArticle.cs a0a))), (4, .box 28 (bxc (GCalendar.cs a1c)))]⟩ krf ?_
  refine sim_cond (!eqI r2.2.2 0) krf ?_ ?_
  ·refine sim_run Try.fm ⟨[6], [], [], []⟩ ⟨[(6, B false)], []⟩ krf ?_
   refine sim_ret ?_
   refine sq_r ?_
   exact rq_ret (.id) krf krf krf
  ·refine sim_skip ?_
   refine sq_nk ⟨[3, 4, 7, 8], [3, 4], [], []⟩ ⟨[(3, .ptr 3 0), (4, .ptr 4 0), (7, I r2.1), (8, I r2.2.1)], [(3, .box 44 (bxc (GArticle.cs a0a))), (4, .box 28 (bxc (GCalendar.cs a1c)))]⟩ krf ?_
   refine sim_seq ?_
   refine sim_reg ?_
   refine xs_run 2 krf ?_
   refine xs_call [] krf (g_ref26_Type_ok n a1c r2.1) krf krf (fun _ => by kernel_rfl) (fun r3 => ?_)
   refine xs_run 5 krf ?_
   refine xs_end ?_
   refine sq_nk ⟨[3, 8, 10], [3], [], []⟩ ⟨[(3, .ptr 3 0), (8, I r2.2.1), (10, I r3.1)], [(3, .box 44 (bxc (GArticle.cs a0a)))]⟩ krf ?_
   refine sim_run Try.fm ⟨[3, 8, 10, 12], [3], [], []⟩ ⟨[(3, .ptr 3 0), (8, I r2.2.1), (10, I r3.1), (12, B (eqI (Int.tmod a0a.Days 2) 1))], [(3, .box 44 (bxc (GArticle.cs a0a)))]⟩ krf ?_
   refine sim_bind (fun j4 => ⟨[(3, .ptr 3 0), (8, I r2.2.1), (10, I r3.1), (12, B j4)], [(3, .box 44 (bxc (GArticle.cs a0a)))]⟩ : Bool → St) ?_ ?_
   ·refine sim_run Try.fm ⟨[3, 8, 10, 12, 36], [3], [], []⟩ ⟨[(3, .ptr 3 0), (8, I r2.2.1), (10, I r3.1), (12, B (eqI (Int.tmod a0a.Days 2) 1)), (36, B (eqI r3.1 1))], [(3, .box 44 (bxc (GArticle.cs a0a)))]⟩ krf ?_
    refine sim_cond (eqI r3.1 1) krf ?_ ?_
    ·refine sim_last Try.fm krf ?_
     exact nq_n (eqI (Int.tmod (wi (Int.tdiv a0a.Days 2)) 2) 1) ⟨[3, 8, 10, 12], [3], [], []⟩ krf
    ·refine sim_skip ?_
     exact nq_n (eqI (Int.tmod a0a.Days 2) 1) ⟨[3, 8, 10, 12], [3], [], []⟩ krf
   ·rintro j4
    refine sim_bind (fun j5 => ⟨[(3, .ptr 3 0), (8, I r2.2.1), (12, B j5)], [(3, .box 44 (bxc (GArticle.cs a0a)))]⟩ : Bool → St) ?_ ?_
    ·refine sim_run Try.fm ⟨[3, 8, 12, 43], [3], [], []⟩ ⟨[(3, .ptr 3 0), (8, I r2.2.1), (12, B j4), (43, B (eqI r3.1 2))], [(3, .box 44 (bxc (GArticle.cs a0a)))]⟩ krf ?_
     refine sim_cond (eqI r3.1 2) krf ?_ ?_
     ·refine sim_last Try.fm krf ?_
      exact nq_n (eqI (Int.tmod (wi (Int.tdiv a0a.Days 4)) 2) 1) ⟨[3, 8, 12], [3], [], []⟩ krf
     ·refine sim_skip ?_
      exact nq_n j4 ⟨[3, 8, 12], [3], [], []⟩ krf
    ·rintro j5
     refine sim_seq ?_
     refine sim_reg ?_
     refine xs_run 2 krf ?_
     refine xs_split j5 (fun h6 => ?_) (fun h6 => ?_)
     ·refine xs_one (want_tt krf h6) krf ?_
      refine xs_run 5 krf ?_
      refine xs_split (leI a0a.From r2.2.1) (fun h7 => ?_) (fun h7 => ?_)
      ·refine xs_one (want_tt krf h7) krf ?_
       refine xs_run 5 krf ?_
       refine xs_end ?_
       refine sq_nk ⟨[6], [], [], []⟩ ⟨[(6, B (ltI r2.2.1 a0a.To))], []⟩ krf ?_
       refine sim_ret ?_
       exact rq_ret (.id) krf krf krf
      ·refine xs_no (want_tf krf h7) krf ?_
       refine xs_run 5 krf ?_
       refine xs_end ?_
       refine sq_nk ⟨[6], [], [], []⟩ ⟨[(6, B false)], []⟩ krf ?_
       refine sim_ret ?_
       exact rq_ret (.id) krf krf krf
     ·refine xs_no (want_tf krf h6) krf ?_
      refine xs_run 11 krf ?_
      refine xs_end ?_
      refine sq_nk ⟨[6], [], [], []⟩ ⟨[(6, B false)], []⟩ krf ?_
      refine sim_ret ?_
      exact rq_ret (.id) krf krf krf
def g_ref35_Greatest_l2 (n : Nat) (a0t : GTariff) (a1c : GCalendar) (a2kind : Int) (l1_1 : Int) (l1_2 : Int) (recl1 : (Int × Int) → Option Int) (recl2 : (Int × Int) → Option Int) (l2_1 : Int) (l2_2 : Int) : Option Int :=
 cond (ltI l2_2 (lenI (List.map GArticle.cs a0t.Articles)))
  ((getI a0t.Articles l2_2).bind fun x3 =>
  (cond (eqI x3.Kind a2kind)
   ((g_ref32_Applies n x3 a1c l1_2).bind fun r6 =>
   some r6)
   (some false)).bind fun j4 =>
  cond j4
   (recl2 (wi (l2_1 + x3.Price), wi (l2_2 + 1)))
   (recl2 (l2_1, wi (l2_2 + 1))))
  (recl1 (maxI l1_1 l2_1, wi (l1_2 + 1)))
def g_ref35_Greatest_l1 (n : Nat) (a0t : GTariff) (a1c : GCalendar) (a2kind : Int) (a4to : Int) (recl1 : (Int × Int) → Option Int) (l1_1 : Int) (l1_2 : Int) : Option Int :=
 cond (ltI l1_2 a4to)
  (loopN (fun recl2 (l2_1, l2_2) => g_ref35_Greatest_l2 n a0t a1c a2kind l1_1 l1_2 recl1 recl2 l2_1 l2_2) n (0, 0))
  (some l1_1)
def g_ref35_Greatest (n : Nat) (a0t : GTariff) (a1c : GCalendar) (a2kind : Int) (a3from : Int) (a4to : Int) : Option Int :=
 loopN (fun recl1 (l1_1, l1_2) => g_ref35_Greatest_l1 n a0t a1c a2kind a4to recl1 l1_1 l1_2) n (0, a3from)
theorem g_ref35_Greatest_ok (n : Nat) (a0t : GTariff) (a1c : GCalendar) (a2kind : Int) (a3from : Int) (a4to : Int) : ∀ r, g_ref35_Greatest n a0t a1c a2kind a3from a4to = some r → PCall Try.prog 61 [ag (GTariff.cs a0t), ag (GCalendar.cs a1c), I a2kind, I a3from, I a4to] (.ret (I r)) := by
 refine pcall_sim (X := fun r : Int => AEnd.ret (I r)) Try.func61 rfl Try.ntmps61 rfl ?_
 unfold g_ref35_Greatest
 refine sim_run Try.fm ⟨[2, 3, 4, 5, 6], [5, 6], [], []⟩ ⟨[(2, I a2kind), (3, I a3from), (4, I a4to), (5, .ptr 5 0), (6, .ptr 6 0)], [(5, .box 24 (bxc (GTariff.cs a0t))), (6, .box 28 (bxc (GCalendar.cs a1c)))]⟩ krf ?_
 refine sim_run Try.fm ⟨[2, 3, 4, 5, 6, 11], [5, 6], [], []⟩ ⟨[(2, I a2kind), (3, I a3from), (4, I a4to), (5, .ptr 5 0), (6, .ptr 6 0), (11, I 0)], [(5, .box 24 (bxc (GTariff.cs a0t))), (6, .box 28 (bxc (GCalendar.cs a1c)))]⟩ krf ?_
 refine sim_seq ?_
 refine sim_run Try.fm ⟨[2, 4, 5, 6, 11, 12], [5, 6], [], []⟩ ⟨[(2, I a2kind), (4, I a4to), (5, .ptr 5 0), (6, .ptr 6 0), (11, I 0), (12, I a3from)], [(5, .box 24 (bxc (GTariff.cs a0t))), (6, .box 28 (bxc (GCalendar.cs a1c)))]⟩ krf ?_
 refine sim_block ?_
 refine sim_loop (fun (l1_1, l1_2) => ⟨[(2, I a2kind), (4, I a4to), (5, .ptr 5 0), (6, .ptr 6 0), (11, I l1_1), (12, I l1_2)], [(5, .box 24 (bxc (GTariff.cs a0t))), (6, .box 28 (bxc (GCalendar.cs a1c)))]⟩ : (Int × Int) → St) (weak_shr (K := ⟨[2, 4, 5, 6, 11, 12], [5, 6], [], []⟩) krf) ?_
 rintro recl1 ⟨l1_1, l1_2⟩
 show SimE (g_ref35_Greatest_l1 n a0t a1c a2kind a4to recl1 l1_1 l1_2) _ _ _ _ _ _
 unfold g_ref35_Greatest_l1
 refine sim_seq ?_
 refine sim_run Try.fm ⟨[2, 4, 5, 6, 11, 12, 19], [5, 6], [], []⟩ ⟨[(2, I a2kind), (4, I a4to), (5, .ptr 5 0), (6, .ptr 6 0), (11, I l1_1), (12, I l1_2), (19, B (ltI l1_2 a4to))], [(5, .box 24 (bxc (GTariff.cs a0t))), (6, .box 28 (bxc (GCalendar.cs a1c)))]⟩ krf ?_
 refine sim_cond (ltI l1_2 a4to) krf ?_ ?_
 ·refine sim_skip ?_
  refine sq_nk ⟨[2, 4, 5, 6, 11, 12], [5, 6], [], []⟩ ⟨[(2, I a2kind), (4, I a4to), (5, .ptr 5 0), (6, .ptr 6 0), (11, I l1_1), (12, I l1_2)], [(5, .box 24 (bxc (GTariff.cs a0t))), (6, .box 28 (bxc (GCalendar.cs a1c)))]⟩ krf ?_
  refine sim_seq ?_
  refine sim_block ?_
  refine sim_run Try.fm ⟨[2, 4, 5, 6, 11, 12, 13], [5, 6], [], []⟩ ⟨[(2, I a2kind), (4, I a4to), (5, .ptr 5 0), (6, .ptr 6 0), (11, I l1_1), (12, I l1_2), (13, I 0)], [(5, .box 24 (bxc (GTariff.cs a0t))), (6, .box 28 (bxc (GCalendar.cs a1c)))]⟩ krf ?_
  refine sim_seq ?_
  refine sim_run Try.fm ⟨[2, 4, 5, 6, 11, 12, 13, 14], [5, 6], [], []⟩ ⟨[(2, I a2kind), (4, I a4to), (5, .ptr 5 0), (6, .ptr 6 0), (11, I l1_1), (12, I l1_2), (13, I 0), (14, I 0)], [(5, .box 24 (bxc (GTariff.cs a0t))), (6, .box 28 (bxc (GCalendar.cs a1c)))]⟩ krf ?_
  refine sim_block ?_
  refine sim_loop (fun (l2_1, l2_2) => ⟨[(2, I a2kind), (4, I a4to), (5, .ptr 5 0), (6, .ptr 6 0), (11, I l1_1), (12, I l1_2), (13, I l2_1), (14, I l2_2)], [(5, .box 24 (bxc (GTariff.cs a0t))), (6, .box 28 (bxc (GCalendar.cs a1c)))]⟩ : (Int × Int) → St) (weak_shr (K := ⟨[2, 4, 5, 6, 11, 12, 13, 14], [5, 6], [], []⟩) krf) ?_
  rintro recl2 ⟨l2_1, l2_2⟩
  show SimE (g_ref35_Greatest_l2 n a0t a1c a2kind l1_1 l1_2 recl1 recl2 l2_1 l2_2) _ _ _ _ _ _
  unfold g_ref35_Greatest_l2
  refine sim_seq ?_
  refine sim_run Try.fm ⟨[2, 4, 5, 6, 11, 12, 13, 14, 26], [5, 6], [], []⟩ ⟨[(2, I a2kind), (4, I a4to), (5, .ptr 5 0), (6, .ptr 6 0), (11, I l1_1), (12, I l1_2), (13, I l2_1), (14, I l2_2), (26, B (ltI l2_2 (lenI (List.map GArticle.cs a0t.Articles))))], [(5, .box 24 (bxc (GTariff.cs a0t))), (6, .box 28 (bxc (GCalendar.cs a1c)))]⟩ krf ?_
  refine sim_cond (ltI l2_2 (lenI (List.map GArticle.cs a0t.Articles))) krf ?_ ?_
  ·refine sim_skip ?_
   refine sq_nk ⟨[2, 4, 5, 6, 11, 12, 13, 14], [5, 6], [], []⟩ ⟨[(2, I a2kind), (4, I a4to), (5, .ptr 5 0), (6, .ptr 6 0), (11, I l1_1), (12, I l1_2), (13, I l2_1), (14, I l2_2)], [(5, .box 24 (bxc (GTariff.cs a0t))), (6, .box 28 (bxc (GCalendar.cs a1c)))]⟩ krf ?_
   refine sim_seq ?_
   refine sim_block ?_
   refine sim_seq ?_
   refine sim_reg ?_
   refine xs_run 3 krf ?_
   refine xs_get krf krf (aop_idx (e := 44) (S := 7) (enc := GArticle.cs) (l := a0t.Articles) (k := .i64) (n := l2_2) (sv := .p (.sl 7 (List.map GArticle.cs a0t.Articles))) rfl krf krf krf krf krf) (fun x3 => ?_)
   refine xs_run 3 krf ?_
   refine xs_end ?_
   refine sq_nk ⟨[2, 4, 5, 6, 11, 12, 13, 14, 15], [5, 6, 15], [], []⟩ ⟨[(2, I a2kind), (4, I a4to), (5, .ptr 5 0), (6, .ptr 6 0), (11, I l1_1), (12, I l1_2), (13, I l2_1), (14, I l2_2), (15, .ptr 15 0)], [(5, .box 24 (bxc (GTariff.cs a0t))), (6, .box 28 (bxc (GCalendar.cs a1c))), (15, .box 44 (bxc (GArticle.cs x3)))]⟩ krf ?_
   refine sim_bind (fun j4 => ⟨[(2, I a2kind), (4, I a4to), (5, .ptr 5 0), (6, .ptr 6 0), (11, I l1_1), (12, I l1_2), (13, I l2_1), (14, I l2_2), (15, .ptr 15 0), (43, B j4)], [(5, .box 24 (bxc (GTariff.cs a0t))), (6, .box 28 (bxc (GCalendar.cs a1c))), (15, .box 44 (bxc (GArticle.cs x3)))]⟩ : Bool → St) ?_ ?_
   ·refine sim_reg ?_
    refine xs_run 5 krf ?_
    refine xs_split (eqI x3.Kind a2kind) (fun h5 => ?_) (fun h5 => ?_)
    ·refine xs_one (want_tt krf h5) krf ?_
     refine xs_run 2 krf ?_
     refine xs_call [] krf (g_ref32_Applies_ok n x3 a1c l1_2) krf krf (fun _ => by kernel_rfl) (fun r6 => ?_)
     refine xs_run 1 krf ?_
     refine xs_end ?_
     exact nq_n r6 ⟨[2, 4, 5, 6, 11, 12, 13, 14, 15, 43], [5, 6, 15], [], []⟩ krf
    ·refine xs_no (want_tf krf h5) krf ?_
     refine xs_run 4 krf ?_
     refine xs_end ?_
     exact nq_n false ⟨[2, 4, 5, 6, 11, 12, 13, 14, 15, 43], [5, 6, 15], [], []⟩ krf
   ·rintro j4
    refine sim_cond j4 krf ?_ ?_
    ·refine sim_last Try.fm krf ?_
     refine bq_n ?_
     refine sq_nk ⟨[2, 4, 5, 6, 11, 12, 13, 14], [5, 6], [], []⟩ ⟨[(2, I a2kind), (4, I a4to), (5, .ptr 5 0), (6, .ptr 6 0), (11, I l1_1), (12, I l1_2), (13, I (wi (l2_1 + x3.Price))), (14, I l2_2)], [(5, .box 24 (bxc (GTariff.cs a0t))), (6, .box 28 (bxc (GCalendar.cs a1c)))]⟩ krf ?_
     refine sim_last Try.fm krf ?_
     exact kq_n (wi (l2_1 + x3.Price), wi (l2_2 + 1)) ⟨[2, 4, 5, 6, 11, 12, 13, 14], [5, 6], [], []⟩ krf
    ·refine sim_skip ?_
     refine bq_n ?_
     refine sq_nk ⟨[2, 4, 5, 6, 11, 12, 13, 14], [5, 6], [], []⟩ ⟨[(2, I a2kind), (4, I a4to), (5, .ptr 5 0), (6, .ptr 6 0), (11, I l1_1), (12, I l1_2), (13, I l2_1), (14, I l2_2)], [(5, .box 24 (bxc (GTariff.cs a0t))), (6, .box 28 (bxc (GCalendar.cs a1c)))]⟩ krf ?_
     refine sim_last Try.fm krf ?_
     exact kq_n (l2_1, wi (l2_2 + 1)) ⟨[2, 4, 5, 6, 11, 12, 13, 14], [5, 6], [], []⟩ krf
  ·refine sim_exit ?_
   refine sq_x ?_
   refine kq_x ?_
   refine bq_hit ?_
   refine sq_nk ⟨[2, 4, 5, 6, 11, 12, 13], [5, 6], [], []⟩ ⟨[(2, I a2kind), (4, I a4to), (5, .ptr 5 0), (6, .ptr 6 0), (11, I l1_1), (12, I l1_2), (13, I l2_1)], [(5, .box 24 (bxc (GTariff.cs a0t))), (6, .box 28 (bxc (GCalendar.cs a1c)))]⟩ krf ?_
   refine sim_last Try.fm krf ?_
   refine bq_n ?_
   refine sq_nk ⟨[2, 4, 5, 6, 11, 12], [5, 6], [], []⟩ ⟨[(2, I a2kind), (4, I a4to), (5, .ptr 5 0), (6, .ptr 6 0), (11, I (maxI l1_1 l2_1)), (12, I l1_2)], [(5, .box 24 (bxc (GTariff.cs a0t))), (6, .box 28 (bxc (GCalendar.cs a1c)))]⟩ krf ?_
   refine sim_last Try.fm krf ?_
   exact kq_n (maxI l1_1 l2_1, wi (l1_2 + 1)) ⟨[2, 4, 5, 6, 11, 12], [5, 6], [], []⟩ krf
 ·refine sim_exit ?_
  refine sq_x ?_
  refine kq_x ?_
  refine bq_hit ?_
  refine sq_nk ⟨[11], [], [], []⟩ ⟨[(11, I l1_1)], []⟩ krf ?_
  refine sim_run Try.fm ⟨[10], [], [], []⟩ ⟨[(10, I l1_1)], []⟩ krf ?_
  refine sim_ret ?_
  exact rq_ret (.id) krf krf krf
def g_ref35_Minutes_l1 (n : Nat) (a0a : GArticle) (a1c : GCalendar) (a3to : Int) (recl1 : (Int × Int) → Option Int) (l1_1 : Int) (l1_2 : Int) : Option Int :=
 cond (ltI l1_2 a3to)
  ((g_ref32_Applies n a0a a1c l1_2).bind fun r2 =>
  cond r2
   (recl1 (wi (l1_1 + 1), wi (l1_2 + 1)))
   (recl1 (l1_1, wi (l1_2 + 1))))
  (some l1_1)
def g_ref35_Minutes (n : Nat) (a0a : GArticle) (a1c : GCalendar) (a2from : Int) (a3to : Int) : Option Int :=
 loopN (fun recl1 (l1_1, l1_2) => g_ref35_Minutes_l1 n a0a a1c a3to recl1 l1_1 l1_2) n (0, a2from)
theorem g_ref35_Minutes_ok (n : Nat) (a0a : GArticle) (a1c : GCalendar) (a2from : Int) (a3to : Int) : ∀ r, g_ref35_Minutes n a0a a1c a2from a3to = some r → PCall Try.prog 62 [ag (GArticle.cs a0a), ag (GCalendar.cs a1c), I a2from, I a3to] (.ret (I r)) := by
 refine pcall_sim (X := fun r : Int => AEnd.ret (I r)) Try.func62 rfl Try.ntmps62 rfl ?_
 unfold g_ref35_Minutes
 refine sim_run Try.fm ⟨[2, 3, 4, 5], [4, 5], [], []⟩ ⟨[(2, I a2from), (3, I a3to), (4, .ptr 4 0), (5, .ptr 5 0)], [(4, .box 44 (bxc (GArticle.cs a0a))), (5, .box 28 (bxc (GCalendar.cs a1c)))]⟩ krf ?_
 refine sim_run Try.fm ⟨[2, 3, 4, 5, 9], [4, 5], [], []⟩ ⟨[(2, I a2from), (3, I a3to), (4, .ptr 4 0), (5, .ptr 5 0), (9, I 0)], [(4, .box 44 (bxc (GArticle.cs a0a))), (5, .box 28 (bxc (GCalendar.cs a1c)))]⟩ krf ?_
 refine sim_seq ?_
 refine sim_run Try.fm ⟨[3, 4, 5, 9, 10], [4, 5], [], []⟩ ⟨[(3, I a3to), (4, .ptr 4 0), (5, .ptr 5 0), (9, I 0), (10, I a2from)], [(4, .box 44 (bxc (GArticle.cs a0a))), (5, .box 28 (bxc (GCalendar.cs a1c)))]⟩ krf ?_
 refine sim_block ?_
 refine sim_loop (fun (l1_1, l1_2) => ⟨[(3, I a3to), (4, .ptr 4 0), (5, .ptr 5 0), (9, I l1_1), (10, I l1_2)], [(4, .box 44 (bxc (GArticle.cs a0a))), (5, .box 28 (bxc (GCalendar.cs a1c)))]⟩ : (Int × Int) → St) (weak_shr (K := ⟨[3, 4, 5, 9, 10], [4, 5], [], []⟩) krf) ?_
 rintro recl1 ⟨l1_1, l1_2⟩
 show SimE (g_ref35_Minutes_l1 n a0a a1c a3to recl1 l1_1 l1_2) _ _ _ _ _ _
 unfold g_ref35_Minutes_l1
 refine sim_seq ?_
 refine sim_run Try.fm ⟨[3, 4, 5, 9, 10, 14], [4, 5], [], []⟩ ⟨[(3, I a3to), (4, .ptr 4 0), (5, .ptr 5 0), (9, I l1_1), (10, I l1_2), (14, B (ltI l1_2 a3to))], [(4, .box 44 (bxc (GArticle.cs a0a))), (5, .box 28 (bxc (GCalendar.cs a1c)))]⟩ krf ?_
 refine sim_cond (ltI l1_2 a3to) krf ?_ ?_
 ·refine sim_skip ?_
  refine sq_nk ⟨[3, 4, 5, 9, 10], [4, 5], [], []⟩ ⟨[(3, I a3to), (4, .ptr 4 0), (5, .ptr 5 0), (9, I l1_1), (10, I l1_2)], [(4, .box 44 (bxc (GArticle.cs a0a))), (5, .box 28 (bxc (GCalendar.cs a1c)))]⟩ krf ?_
  refine sim_seq ?_
  refine sim_block ?_
  refine sim_seq ?_
  refine sim_reg ?_
  refine xs_run 3 krf ?_
  refine xs_call [] krf (g_ref32_Applies_ok n a0a a1c l1_2) krf krf (fun _ => by kernel_rfl) (fun r2 => ?_)
  refine xs_end ?_
  refine sq_nk ⟨[3, 4, 5, 9, 10, 20], [4, 5], [], []⟩ ⟨[(3, I a3to), (4, .ptr 4 0), (5, .ptr 5 0), (9, I l1_1), (10, I l1_2), (20, B r2)], [(4, .box 44 (bxc (GArticle.cs a0a))), (5, .box 28 (bxc (GCalendar.cs a1c)))]⟩ krf ?_
  refine sim_cond r2 krf ?_ ?_
  ·refine sim_last Try.fm krf ?_
   refine bq_n ?_
   refine sq_nk ⟨[3, 4, 5, 9, 10], [4, 5], [], []⟩ ⟨[(3, I a3to), (4, .ptr 4 0), (5, .ptr 5 0), (9, I (wi (l1_1 + 1))), (10, I l1_2)], [(4, .box 44 (bxc (GArticle.cs a0a))), (5, .box 28 (bxc (GCalendar.cs a1c)))]⟩ krf ?_
   refine sim_last Try.fm krf ?_
   exact kq_n (wi (l1_1 + 1), wi (l1_2 + 1)) ⟨[3, 4, 5, 9, 10], [4, 5], [], []⟩ krf
  ·refine sim_skip ?_
   refine bq_n ?_
   refine sq_nk ⟨[3, 4, 5, 9, 10], [4, 5], [], []⟩ ⟨[(3, I a3to), (4, .ptr 4 0), (5, .ptr 5 0), (9, I l1_1), (10, I l1_2)], [(4, .box 44 (bxc (GArticle.cs a0a))), (5, .box 28 (bxc (GCalendar.cs a1c)))]⟩ krf ?_
   refine sim_last Try.fm krf ?_
   exact kq_n (l1_1, wi (l1_2 + 1)) ⟨[3, 4, 5, 9, 10], [4, 5], [], []⟩ krf
 ·refine sim_exit ?_
  refine sq_x ?_
  refine kq_x ?_
  refine bq_hit ?_
  refine sq_nk ⟨[9], [], [], []⟩ ⟨[(9, I l1_1)], []⟩ krf ?_
  refine sim_run Try.fm ⟨[8], [], [], []⟩ ⟨[(8, I l1_1)], []⟩ krf ?_
  refine sim_ret ?_
  exact rq_ret (.id) krf krf krf
def g_ref31_amount (n : Nat) (a0n : Int) : Option Bool :=
 cond (leI 0 a0n)
  (some (leI a0n 1000000000))
  (some false)
theorem g_ref31_amount_ok (n : Nat) (a0n : Int) : ∀ r, g_ref31_amount n a0n = some r → PCall Try.prog 65 [I a0n] (.ret (B r)) := by
 refine pcall_sim (X := fun r : Bool => AEnd.ret (B r)) Try.func65 rfl Try.ntmps65 rfl ?_
 unfold g_ref31_amount
 refine sim_run Try.fm ⟨[0], [], [], []⟩ ⟨[(0, I a0n)], []⟩ krf ?_
 refine sim_seq ?_
 refine sim_reg ?_
 refine xs_run 3 krf ?_
 refine xs_split (leI 0 a0n) (fun h1 => ?_) (fun h1 => ?_)
 ·refine xs_one (want_tt krf h1) krf ?_
  refine xs_run 3 krf ?_
  refine xs_end ?_
  refine sq_nk ⟨[2], [], [], []⟩ ⟨[(2, B (leI a0n 1000000000))], []⟩ krf ?_
  refine sim_ret ?_
  exact rq_ret (.id) krf krf krf
 ·refine xs_no (want_tf krf h1) krf ?_
  refine xs_run 3 krf ?_
  refine xs_end ?_
  refine sq_nk ⟨[2], [], [], []⟩ ⟨[(2, B false)], []⟩ krf ?_
  refine sim_ret ?_
  exact rq_ret (.id) krf krf krf
def g_ref31_checked (n : Nat) (a0n : Int) : Option (Int × Int) :=
 (g_ref31_amount n a0n).bind fun r1 =>
 cond (!r1)
  (some (0, 3))
  (some (a0n, 0))
theorem g_ref31_checked_ok (n : Nat) (a0n : Int) : ∀ r, g_ref31_checked n a0n = some r → PCall Try.prog 66 [I a0n] (.ret (.tup [I r.1, I r.2])) := by
 refine pcall_sim (X := fun r : Int × Int => AEnd.ret (.tup [I r.1, I r.2])) Try.func66 rfl Try.ntmps66 rfl ?_
 unfold g_ref31_checked
 refine sim_run Try.fm ⟨[0], [], [], []⟩ ⟨[(0, I a0n)], []⟩ krf ?_
 refine sim_seq ?_
 refine sim_seq ?_
 refine sim_reg ?_
 refine xs_run 1 krf ?_
 refine xs_call [] krf (g_ref31_amount_ok n a0n) krf krf (fun _ => by kernel_rfl) (fun r1 => ?_)
 refine xs_run 1 krf ?_
 refine xs_end ?_
 refine sq_nk ⟨[0, 6], [], [], []⟩ ⟨[(0, I a0n), (6, B (!r1))], []⟩ krf ?_
 refine sim_cond (!r1) krf ?_ ?_
 ·refine sim_run Try.fm ⟨[2, 3], [], [], []⟩ ⟨[(2, I 0), (3, I 3)], []⟩ krf ?_
  refine sim_ret ?_
  refine sq_r ?_
  exact rq_ret (.id) krf krf krf
 ·refine sim_skip ?_
  refine sq_nk ⟨[0], [], [], []⟩ ⟨[(0, I a0n)], []⟩ krf ?_
  refine sim_run Try.fm ⟨[2, 3], [], [], []⟩ ⟨[(2, I a0n), (3, I 0)], []⟩ krf ?_
  refine sim_ret ?_
  exact rq_ret (.id) krf krf krf
def g_ref31_Started (n : Nat) (a0price : Int) (a1quantity : Int) (a2unit : Int) : Option (Int × Int) :=
 ((g_ref31_amount n a0price).bind fun r2 =>
 cond (!r2)
  (some true)
  ((g_ref31_amount n a1quantity).bind fun r4 =>
  cond (!r4)
   (some true)
   (cond (ltI a2unit 1)
    (some true)
    (some (ltI 1000000000 a2unit))))).bind fun j1 =>
 cond j1
  (some (0, 1))
  (cond (!eqI a2unit 0) (
   (g_ref31_checked n (wi (a0price * (wi (Int.tdiv (wi ((wi (a1quantity + a2unit)) - 1)) a2unit))))).bind fun r7 =>
   some (r7.1, r7.2)) none)
theorem g_ref31_Started_ok (n : Nat) (a0price : Int) (a1quantity : Int) (a2unit : Int) : ∀ r, g_ref31_Started n a0price a1quantity a2unit = some r → PCall Try.prog 63 [I a0price, I a1quantity, I a2unit] (.ret (.tup [I r.1, I r.2])) := by
 refine pcall_sim (X := fun r : Int × Int => AEnd.ret (.tup [I r.1, I r.2])) Try.func63 rfl Try.ntmps63 rfl ?_
 unfold g_ref31_Started
 refine sim_run Try.fm ⟨[0, 1, 2], [], [], []⟩ ⟨[(0, I a0price), (1, I a1quantity), (2, I a2unit)], []⟩ krf ?_
 refine sim_seq ?_
 refine sim_bind (fun j1 => ⟨[(0, I a0price), (1, I a1quantity), (2, I a2unit), (23, B j1)], []⟩ : Bool → St) ?_ ?_
 ·refine sim_reg ?_
  refine xs_run 1 krf ?_
  refine xs_call [] krf (g_ref31_amount_ok n a0price) krf krf (fun _ => by kernel_rfl) (fun r2 => ?_)
  refine xs_run 2 krf ?_
  refine xs_split (!r2) (fun h3 => ?_) (fun h3 => ?_)
  ·refine xs_no (want_ft krf h3) krf ?_
   refine xs_run 11 krf ?_
   refine xs_end ?_
   exact nq_n true ⟨[0, 1, 2, 23], [], [], []⟩ krf
  ·refine xs_one (want_ff krf h3) krf ?_
   refine xs_call [] krf (g_ref31_amount_ok n a1quantity) krf krf (fun _ => by kernel_rfl) (fun r4 => ?_)
   refine xs_run 3 krf ?_
   refine xs_split (!r4) (fun h5 => ?_) (fun h5 => ?_)
   ·refine xs_no (want_ft krf h5) krf ?_
    refine xs_run 6 krf ?_
    refine xs_end ?_
    exact nq_n true ⟨[0, 1, 2, 23], [], [], []⟩ krf
   ·refine xs_one (want_ff krf h5) krf ?_
    refine xs_run 3 krf ?_
    refine xs_split (ltI a2unit 1) (fun h6 => ?_) (fun h6 => ?_)
    ·refine xs_no (want_ft krf h6) krf ?_
     refine xs_run 2 krf ?_
     refine xs_end ?_
     exact nq_n true ⟨[0, 1, 2, 23], [], [], []⟩ krf
    ·refine xs_one (want_ff krf h6) krf ?_
     refine xs_run 2 krf ?_
     refine xs_end ?_
     exact nq_n (ltI 1000000000 a2unit) ⟨[0, 1, 2, 23], [], [], []⟩ krf
 ·rintro j1
  refine sim_cond j1 krf ?_ ?_
  ·refine sim_run Try.fm ⟨[6, 7], [], [], []⟩ ⟨[(6, I 0), (7, I 1)], []⟩ krf ?_
   refine sim_ret ?_
   refine sq_r ?_
   exact rq_ret (.id) krf krf krf
  ·refine sim_skip ?_
   refine sq_nk ⟨[0, 1, 2], [], [], []⟩ ⟨[(0, I a0price), (1, I a1quantity), (2, I a2unit)], []⟩ krf ?_
   refine sim_seq ?_
   refine sim_reg ?_
   refine xs_run 6 krf ?_
   refine xs_if krf krf (aop_quo (k := .i64) (a := wi ((wi (a1quantity + a2unit)) - 1)) (b := a2unit) rfl krf krf) ?_
   refine xs_run 1 krf ?_
   refine xs_call [] krf (g_ref31_checked_ok n (wi (a0price * (wi (Int.tdiv (wi ((wi (a1quantity + a2unit)) - 1)) a2unit))))) krf krf (fun _ => by kernel_rfl) (fun r7 => ?_)
   refine xs_run 4 krf ?_
   refine xs_end ?_
   refine sq_nk ⟨[6, 7], [], [], []⟩ ⟨[(6, I r7.1), (7, I r7.2)], []⟩ krf ?_
   refine sim_ret ?_
   exact rq_ret (.id) krf krf krf
def g_ref31_divided (n : Nat) (a0n : Int) (a1d : Int) : Option Int :=
 cond (!eqI (wi (2 * a1d)) 0) (
  some (wi (Int.tdiv (wi ((wi (2 * a0n)) + a1d)) (wi (2 * a1d))))) none
theorem g_ref31_divided_ok (n : Nat) (a0n : Int) (a1d : Int) : ∀ r, g_ref31_divided n a0n a1d = some r → PCall Try.prog 67 [I a0n, I a1d] (.ret (I r)) := by
 refine pcall_sim (X := fun r : Int => AEnd.ret (I r)) Try.func67 rfl Try.ntmps67 rfl ?_
 unfold g_ref31_divided
 refine sim_run Try.fm ⟨[0, 1], [], [], []⟩ ⟨[(0, I a0n), (1, I a1d)], []⟩ krf ?_
 refine sim_seq ?_
 refine sim_reg ?_
 refine xs_run 6 krf ?_
 refine xs_if krf krf (aop_quo (k := .i64) (a := wi ((wi (2 * a0n)) + a1d)) (b := wi (2 * a1d)) rfl krf krf) ?_
 refine xs_run 1 krf ?_
 refine xs_end ?_
 refine sq_nk ⟨[4], [], [], []⟩ ⟨[(4, I (wi (Int.tdiv (wi ((wi (2 * a0n)) + a1d)) (wi (2 * a1d)))))], []⟩ krf ?_
 refine sim_ret ?_
 exact rq_ret (.id) krf krf krf
def g_ref31_Times (n : Nat) (a0price : Int) (a1quantity : Int) (a2per : Int) : Option (Int × Int) :=
 ((g_ref31_amount n a0price).bind fun r2 =>
 cond (!r2)
  (some true)
  ((g_ref31_amount n a1quantity).bind fun r4 =>
  cond (!r4)
   (some true)
   (cond (ltI a2per 1)
    (some true)
    (some (ltI 1000000000 a2per))))).bind fun j1 =>
 cond j1
  (some (0, 1))
  ((g_ref31_divided n (wi (a0price * a1quantity)) a2per).bind fun r7 =>
  (g_ref31_checked n r7).bind fun r8 =>
  some (r8.1, r8.2))
theorem g_ref31_Times_ok (n : Nat) (a0price : Int) (a1quantity : Int) (a2per : Int) : ∀ r, g_ref31_Times n a0price a1quantity a2per = some r → PCall Try.prog 64 [I a0price, I a1quantity, I a2per] (.ret (.tup [I r.1, I r.2])) := by
 refine pcall_sim (X := fun r : Int × Int => AEnd.ret (.tup [I r.1, I r.2])) Try.func64 rfl Try.ntmps64 rfl ?_
 unfold g_ref31_Times
 refine sim_run Try.fm ⟨[0, 1, 2], [], [], []⟩ ⟨[(0, I a0price), (1, I a1quantity), (2, I a2per)], []⟩ krf ?_
 refine sim_seq ?_
 refine sim_bind (fun j1 => ⟨[(0, I a0price), (1, I a1quantity), (2, I a2per), (23, B j1)], []⟩ : Bool → St) ?_ ?_
 ·refine sim_reg ?_
  refine xs_run 1 krf ?_
  refine xs_call [] krf (g_ref31_amount_ok n a0price) krf krf (fun _ => by kernel_rfl) (fun r2 => ?_)
  refine xs_run 2 krf ?_
  refine xs_split (!r2) (fun h3 => ?_) (fun h3 => ?_)
  ·refine xs_no (want_ft krf h3) krf ?_
   refine xs_run 11 krf ?_
   refine xs_end ?_
   exact nq_n true ⟨[0, 1, 2, 23], [], [], []⟩ krf
  ·refine xs_one (want_ff krf h3) krf ?_
   refine xs_call [] krf (g_ref31_amount_ok n a1quantity) krf krf (fun _ => by kernel_rfl) (fun r4 => ?_)
   refine xs_run 3 krf ?_
   refine xs_split (!r4) (fun h5 => ?_) (fun h5 => ?_)
   ·refine xs_no (want_ft krf h5) krf ?_
    refine xs_run 6 krf ?_
    refine xs_end ?_
    exact nq_n true ⟨[0, 1, 2, 23], [], [], []⟩ krf
   ·refine xs_one (want_ff krf h5) krf ?_
    refine xs_run 3 krf ?_
    refine xs_split (ltI a2per 1) (fun h6 => ?_) (fun h6 => ?_)
    ·refine xs_no (want_ft krf h6) krf ?_
     refine xs_run 2 krf ?_
     refine xs_end ?_
     exact nq_n true ⟨[0, 1, 2, 23], [], [], []⟩ krf
    ·refine xs_one (want_ff krf h6) krf ?_
     refine xs_run 2 krf ?_
     refine xs_end ?_
     exact nq_n (ltI 1000000000 a2per) ⟨[0, 1, 2, 23], [], [], []⟩ krf
 ·rintro j1
  refine sim_cond j1 krf ?_ ?_
  ·refine sim_run Try.fm ⟨[6, 7], [], [], []⟩ ⟨[(6, I 0), (7, I 1)], []⟩ krf ?_
   refine sim_ret ?_
   refine sq_r ?_
   exact rq_ret (.id) krf krf krf
  ·refine sim_skip ?_
   refine sq_nk ⟨[0, 1, 2], [], [], []⟩ ⟨[(0, I a0price), (1, I a1quantity), (2, I a2per)], []⟩ krf ?_
   refine sim_seq ?_
   refine sim_reg ?_
   refine xs_run 4 krf ?_
   refine xs_call [] krf (g_ref31_divided_ok n (wi (a0price * a1quantity)) a2per) krf krf (fun _ => by kernel_rfl) (fun r7 => ?_)
   refine xs_call [] krf (g_ref31_checked_ok n r7) krf krf (fun _ => by kernel_rfl) (fun r8 => ?_)
   refine xs_run 4 krf ?_
   refine xs_end ?_
   refine sq_nk ⟨[6, 7], [], [], []⟩ ⟨[(6, I r8.1), (7, I r8.2)], []⟩ krf ?_
   refine sim_ret ?_
   exact rq_ret (.id) krf krf krf
def g_ref35_parts_j2 (n : Nat) (a0t : GTariff) (a1c : GCalendar) (a2from : Int) (a3to : Int) (a4energy : Int) (j2_1 : List Int) (j2_2 : Int) : Option ((List Int) × Bool) :=
 cond (ltI 0 a4energy)
  ((g_ref35_Greatest n a0t a1c 2 a2from a3to).bind fun r3 =>
  (g_ref31_Times n r3 a4energy 1000).bind fun r4 =>
  cond (!eqI r4.2 0)
   (some ([], false))
   (cond (roomB (List.length (j2_1 ++ [wi (r4.1 + j2_2)])) 8) (
    some (j2_1 ++ [wi (r4.1 + j2_2)], true)) none))
  (some (j2_1, true))
def g_ref35_parts_l5 (n : Nat) (a0t : GTariff) (a1c : GCalendar) (a2from : Int) (a3to : Int) (a4energy : Int) (recl5 : ((List Int) × Int × Int) → Option ((List Int) × Bool)) (l5_1 : List Int) (l5_2 : Int) (l5_3 : Int) : Option ((List Int) × Bool) :=
 cond (ltI l5_3 (lenI (List.map GArticle.cs a0t.Articles)))
  ((getI a0t.Articles l5_3).bind fun x6 =>
  (g_ref35_Minutes n x6 a1c a2from a3to).bind fun r7 =>
  ((cond (eqI x6.Kind 2)
   (some (ltI 0 r7))
   (some false)).bind fun j9 =>
  cond j9
   (some (wi (l5_2 + 1)))
   (some l5_2)).bind fun j8 =>
  (cond (eqI x6.Kind 3)
   (some true)
   (some (eqI x6.Kind 4))).bind fun j11 =>
  cond j11
   ((g_ref31_Started n x6.Price (maxI 0 (wi (r7 - x6.Free))) x6.Unit).bind fun r13 =>
   cond (!eqI r13.2 0)
    (some ([], false))
    (cond (roomB (List.length (l5_1 ++ [r13.1])) 8) (
     recl5 (l5_1 ++ [r13.1], j8, wi (l5_3 + 1))) none))
   (recl5 (l5_1, j8, wi (l5_3 + 1))))
  (g_ref35_parts_j2 n a0t a1c a2from a3to a4energy l5_1 l5_2)
def g_ref35_parts (n : Nat) (a0t : GTariff) (a1c : GCalendar) (a2from : Int) (a3to : Int) (a4energy : Int) : Option ((List Int) × Bool) :=
 (g_ref35_Greatest n a0t a1c 1 a2from a3to).bind fun r1 =>
 loopN (fun recl5 (l5_1, l5_2, l5_3) => g_ref35_parts_l5 n a0t a1c a2from a3to a4energy recl5 l5_1 l5_2 l5_3) n ([r1], 0, 0)
theorem g_ref35_parts_ok (n : Nat) (a0t : GTariff) (a1c : GCalendar) (a2from : Int) (a3to : Int) (a4energy : Int) : ∀ r, g_ref35_parts n a0t a1c a2from a3to a4energy = some r → PCall Try.prog 33 [ag (GTariff.cs a0t), ag (GCalendar.cs a1c), I a2from, I a3to, I a4energy] (.ret (.tup [.p (.sl 1 (List.map ci r.1)), B r.2])) := by
 refine pcall_sim (X := fun r : (List Int) × Bool => AEnd.ret (.tup [.p (.sl 1 (List.map ci r.1)), B r.2])) Try.func33 rfl Try.ntmps33 rfl ?_
 unfold g_ref35_parts
 refine sim_run Try.fm ⟨[2, 3, 4, 5, 6], [5, 6], [], []⟩ ⟨[(2, I a2from), (3, I a3to), (4, I a4energy), (5, .ptr 5 0), (6, .ptr 6 0)], [(5, .box 24 (bxc (GTariff.cs a0t))), (6, .box 28 (bxc (GCalendar.cs a1c)))]⟩ krf ?_
 refine sim_seq ?_
 refine sim_reg ?_
 refine xs_run 4 krf ?_
 refine xs_call [] krf (g_ref35_Greatest_ok n a0t a1c 1 a2from a3to) krf krf (fun _ => by kernel_rfl) (fun r1 => ?_)
 refine xs_run 2 krf ?_
 refine xs_end ?_
 refine sq_nk ⟨[2, 3, 4, 5, 6, 12], [5, 6, 26], [], []⟩ ⟨[(2, I a2from), (3, I a3to), (4, I a4energy), (5, .ptr 5 0), (6, .ptr 6 0), (12, .tsl 1 (List.map ci [r1]) 26)], [(5, .box 24 (bxc (GTariff.cs a0t))), (6, .box 28 (bxc (GCalendar.cs a1c))), (26, .arr 3 1 (List.map ci [r1]).length)]⟩ krf ?_
 refine sim_run Try.fm ⟨[2, 3, 4, 5, 6, 12, 13], [5, 6, 26], [], []⟩ ⟨[(2, I a2from), (3, I a3to), (4, I a4energy), (5, .ptr 5 0), (6, .ptr 6 0), (12, .tsl 1 (List.map ci [r1]) 26), (13, I 0)], [(5, .box 24 (bxc (GTariff.cs a0t))), (6, .box 28 (bxc (GCalendar.cs a1c))), (26, .arr 3 1 (List.map ci [r1]).length)]⟩ krf ?_
 refine sim_cps (fun (j2_1, j2_2) => ⟨[(2, I a2from), (3, I a3to), (4, I a4energy), (5, .ptr 5 0), (6, .ptr 6 0), (12, .tsl 1 (List.map ci j2_1) 26), (13, I j2_2)], [(5, .box 24 (bxc (GTariff.cs a0t))), (6, .box 28 (bxc (GCalendar.cs a1c))), (26, .arr 3 1 (List.map ci j2_1).length)]⟩ : ((List Int) × Int) → St) (fun (j2_1, j2_2) => g_ref35_parts_j2 n a0t a1c a2from a3to a4energy j2_1 j2_2) ?_ ?_
 ·rintro ⟨j2_1, j2_2⟩
  show SimE (g_ref35_parts_j2 n a0t a1c a2from a3to a4energy j2_1 j2_2) _ _ _ _ _ _
  unfold g_ref35_parts_j2
  refine sim_seq ?_
  refine sim_run Try.fm ⟨[2, 3, 4, 5, 6, 12, 13, 81], [5, 6, 26], [], []⟩ ⟨[(2, I a2from), (3, I a3to), (4, I a4energy), (5, .ptr 5 0), (6, .ptr 6 0), (12, .tsl 1 (List.map ci j2_1) 26), (13, I j2_2), (81, B (ltI 0 a4energy))], [(5, .box 24 (bxc (GTariff.cs a0t))), (6, .box 28 (bxc (GCalendar.cs a1c))), (26, .arr 3 1 (List.map ci j2_1).length)]⟩ krf ?_
  refine sim_cond (ltI 0 a4energy) krf ?_ ?_
  ·refine sim_seq ?_
   refine sim_reg ?_
   refine xs_run 4 krf ?_
   refine xs_call [] krf (g_ref35_Greatest_ok n a0t a1c 2 a2from a3to) krf krf (fun _ => by kernel_rfl) (fun r3 => ?_)
   refine xs_run 1 krf ?_
   refine xs_call [] krf (g_ref31_Times_ok n r3 a4energy 1000) krf krf (fun _ => by kernel_rfl) (fun r4 => ?_)
   refine xs_run 5 krf ?_
   refine xs_end ?_
   refine sq_nk ⟨[12, 13, 19, 20], [26], [], []⟩ ⟨[(12, .tsl 1 (List.map ci j2_1) 26), (13, I j2_2), (19, I r4.1), (20, I r4.2)], [(26, .arr 3 1 (List.map ci j2_1).length)]⟩ krf ?_
   refine sim_seq ?_
   refine sim_run Try.fm ⟨[12, 13, 19, 93], [26], [], []⟩ ⟨[(12, .tsl 1 (List.map ci j2_1) 26), (13, I j2_2), (19, I r4.1), (93, B (!eqI r4.2 0))], [(26, .arr 3 1 (List.map ci j2_1).length)]⟩ krf ?_
   refine sim_cond (!eqI r4.2 0) krf ?_ ?_
   ·refine sim_run Try.fm ⟨[10, 11], [], [], []⟩ ⟨[(10, .p (.val (.slice none 0 0))), (11, B false)], []⟩ krf ?_
    refine sim_ret ?_
    refine sq_r ?_
    refine sq_r ?_
    exact rq_ret (.agg [.sl 1, .id]) krf krf krf
   ·refine sim_skip ?_
    refine sq_nk ⟨[12, 13, 19], [26], [], []⟩ ⟨[(12, .tsl 1 (List.map ci j2_1) 26), (13, I j2_2), (19, I r4.1)], [(26, .arr 3 1 (List.map ci j2_1).length)]⟩ krf ?_
    refine sim_reg ?_
    refine xs_run 5 krf ?_
    refine xs_if krf krf (aop_app (e := 3) (S := 1) (by_ := 8) (enc := ci) (tk := 26) (l := j2_1) (l2 := [wi (r4.1 + j2_2)]) (xv := .tsl 1 (List.map ci [wi (r4.1 + j2_2)]) 98) rfl krf krf rfl krf krf krf rfl krf) ?_
    refine xs_run 1 krf ?_
    refine xs_end ?_
    refine sq_nk ⟨[12], [26], [], []⟩ ⟨[(12, .tsl 1 (List.map ci (j2_1 ++ [wi (r4.1 + j2_2)])) 26)], [(26, .arr 3 1 (List.map ci (j2_1 ++ [wi (r4.1 + j2_2)])).length)]⟩ krf ?_
    refine sim_run Try.fm ⟨[10, 11], [26], [], []⟩ ⟨[(10, .tsl 1 (List.map ci (j2_1 ++ [wi (r4.1 + j2_2)])) 26), (11, B true)], [(26, .arr 3 1 (List.map ci (j2_1 ++ [wi (r4.1 + j2_2)])).length)]⟩ krf ?_
    refine sim_ret ?_
    exact rq_ret (.agg [.sl 1, .id]) krf krf krf
  ·refine sim_skip ?_
   refine sq_nk ⟨[12], [26], [], []⟩ ⟨[(12, .tsl 1 (List.map ci j2_1) 26)], [(26, .arr 3 1 (List.map ci j2_1).length)]⟩ krf ?_
   refine sim_run Try.fm ⟨[10, 11], [26], [], []⟩ ⟨[(10, .tsl 1 (List.map ci j2_1) 26), (11, B true)], [(26, .arr 3 1 (List.map ci j2_1).length)]⟩ krf ?_
   refine sim_ret ?_
   exact rq_ret (.agg [.sl 1, .id]) krf krf krf
 ·refine sim_run Try.fm ⟨[2, 3, 4, 5, 6, 12, 13, 14], [5, 6, 26], [], []⟩ ⟨[(2, I a2from), (3, I a3to), (4, I a4energy), (5, .ptr 5 0), (6, .ptr 6 0), (12, .tsl 1 (List.map ci [r1]) 26), (13, I 0), (14, I 0)], [(5, .box 24 (bxc (GTariff.cs a0t))), (6, .box 28 (bxc (GCalendar.cs a1c))), (26, .arr 3 1 (List.map ci [r1]).length)]⟩ krf ?_
  refine sim_block ?_
  refine sim_loop (fun (l5_1, l5_2, l5_3) => ⟨[(2, I a2from), (3, I a3to), (4, I a4energy), (5, .ptr 5 0), (6, .ptr 6 0), (12, .tsl 1 (List.map ci l5_1) 26), (13, I l5_2), (14, I l5_3)], [(5, .box 24 (bxc (GTariff.cs a0t))), (6, .box 28 (bxc (GCalendar.cs a1c))), (26, .arr 3 1 (List.map ci l5_1).length)]⟩ : ((List Int) × Int × Int) → St) (weak_shr (K := ⟨[2, 3, 4, 5, 6, 12, 13, 14], [5, 6, 26], [], []⟩) krf) ?_
  rintro recl5 ⟨l5_1, l5_2, l5_3⟩
  show SimE (g_ref35_parts_l5 n a0t a1c a2from a3to a4energy recl5 l5_1 l5_2 l5_3) _ _ _ _ _ _
  unfold g_ref35_parts_l5
  refine sim_seq ?_
  refine sim_run Try.fm ⟨[2, 3, 4, 5, 6, 12, 13, 14, 31], [5, 6, 26], [], []⟩ ⟨[(2, I a2from), (3, I a3to), (4, I a4energy), (5, .ptr 5 0), (6, .ptr 6 0), (12, .tsl 1 (List.map ci l5_1) 26), (13, I l5_2), (14, I l5_3), (31, B (ltI l5_3 (lenI (List.map GArticle.cs a0t.Articles))))], [(5, .box 24 (bxc (GTariff.cs a0t))), (6, .box 28 (bxc (GCalendar.cs a1c))), (26, .arr 3 1 (List.map ci l5_1).length)]⟩ krf ?_
  refine sim_cond (ltI l5_3 (lenI (List.map GArticle.cs a0t.Articles))) krf ?_ ?_
  ·refine sim_skip ?_
   refine sq_nk ⟨[2, 3, 4, 5, 6, 12, 13, 14], [5, 6, 26], [], []⟩ ⟨[(2, I a2from), (3, I a3to), (4, I a4energy), (5, .ptr 5 0), (6, .ptr 6 0), (12, .tsl 1 (List.map ci l5_1) 26), (13, I l5_2), (14, I l5_3)], [(5, .box 24 (bxc (GTariff.cs a0t))), (6, .box 28 (bxc (GCalendar.cs a1c))), (26, .arr 3 1 (List.map ci l5_1).length)]⟩ krf ?_
   refine sim_seq ?_
   refine sim_block ?_
   refine sim_seq ?_
   refine sim_reg ?_
   refine xs_run 3 krf ?_
   refine xs_get krf krf (aop_idx (e := 44) (S := 7) (enc := GArticle.cs) (l := a0t.Articles) (k := .i64) (n := l5_3) (sv := .p (.sl 7 (List.map GArticle.cs a0t.Articles))) rfl krf krf krf krf krf) (fun x6 => ?_)
   refine xs_run 3 krf ?_
   refine xs_end ?_
   refine sq_nk ⟨[2, 3, 4, 5, 6, 12, 13, 14, 15], [5, 6, 15, 26], [], []⟩ ⟨[(2, I a2from), (3, I a3to), (4, I a4energy), (5, .ptr 5 0), (6, .ptr 6 0), (12, .tsl 1 (List.map ci l5_1) 26), (13, I l5_2), (14, I l5_3), (15, .ptr 15 0)], [(5, .box 24 (bxc (GTariff.cs a0t))), (6, .box 28 (bxc (GCalendar.cs a1c))), (15, .box 44 (bxc (GArticle.cs x6))), (26, .arr 3 1 (List.map ci l5_1).length)]⟩ krf ?_
   refine sim_seq ?_
   refine sim_reg ?_
   refine xs_run 4 krf ?_
   refine xs_call [] krf (g_ref35_Minutes_ok n x6 a1c a2from a3to) krf krf (fun _ => by kernel_rfl) (fun r7 => ?_)
   refine xs_run 1 krf ?_
   refine xs_end ?_
   refine sq_nk ⟨[2, 3, 4, 5, 6, 12, 13, 14, 15, 16], [5, 6, 15, 26], [], []⟩ ⟨[(2, I a2from), (3, I a3to), (4, I a4energy), (5, .ptr 5 0), (6, .ptr 6 0), (12, .tsl 1 (List.map ci l5_1) 26), (13, I l5_2), (14, I l5_3), (15, .ptr 15 0), (16, I r7)], [(5, .box 24 (bxc (GTariff.cs a0t))), (6, .box 28 (bxc (GCalendar.cs a1c))), (15, .box 44 (bxc (GArticle.cs x6))), (26, .arr 3 1 (List.map ci l5_1).length)]⟩ krf ?_
   refine sim_bind (fun j8 => ⟨[(2, I a2from), (3, I a3to), (4, I a4energy), (5, .ptr 5 0), (6, .ptr 6 0), (12, .tsl 1 (List.map ci l5_1) 26), (13, I j8), (14, I l5_3), (15, .ptr 15 0), (16, I r7)], [(5, .box 24 (bxc (GTariff.cs a0t))), (6, .box 28 (bxc (GCalendar.cs a1c))), (15, .box 44 (bxc (GArticle.cs x6))), (26, .arr 3 1 (List.map ci l5_1).length)]⟩ : Int → St) ?_ ?_
   ·refine sim_bind (fun j9 => ⟨[(2, I a2from), (3, I a3to), (4, I a4energy), (5, .ptr 5 0), (6, .ptr 6 0), (12, .tsl 1 (List.map ci l5_1) 26), (13, I l5_2), (14, I l5_3), (15, .ptr 15 0), (16, I r7), (50, B j9)], [(5, .box 24 (bxc (GTariff.cs a0t))), (6, .box 28 (bxc (GCalendar.cs a1c))), (15, .box 44 (bxc (GArticle.cs x6))), (26, .arr 3 1 (List.map ci l5_1).length)]⟩ : Bool → St) ?_ ?_
    ·refine sim_reg ?_
     refine xs_run 4 krf ?_
     refine xs_split (eqI x6.Kind 2) (fun h10 => ?_) (fun h10 => ?_)
     ·refine xs_one (want_tt krf h10) krf ?_
      refine xs_run 2 krf ?_
      refine xs_end ?_
      exact nq_n (ltI 0 r7) ⟨[2, 3, 4, 5, 6, 12, 13, 14, 15, 16, 50], [5, 6, 15, 26], [], []⟩ krf
     ·refine xs_no (want_tf krf h10) krf ?_
      refine xs_run 2 krf ?_
      refine xs_end ?_
      exact nq_n false ⟨[2, 3, 4, 5, 6, 12, 13, 14, 15, 16, 50], [5, 6, 15, 26], [], []⟩ krf
    ·rintro j9
     refine sim_cond j9 krf ?_ ?_
     ·refine sim_last Try.fm krf ?_
      exact nq_n (wi (l5_2 + 1)) ⟨[2, 3, 4, 5, 6, 12, 13, 14, 15, 16], [5, 6, 15, 26], [], []⟩ krf
     ·refine sim_skip ?_
      exact nq_n l5_2 ⟨[2, 3, 4, 5, 6, 12, 13, 14, 15, 16], [5, 6, 15, 26], [], []⟩ krf
   ·rintro j8
    refine sim_bind (fun j11 => ⟨[(2, I a2from), (3, I a3to), (4, I a4energy), (5, .ptr 5 0), (6, .ptr 6 0), (12, .tsl 1 (List.map ci l5_1) 26), (13, I j8), (14, I l5_3), (15, .ptr 15 0), (16, I r7), (60, B j11)], [(5, .box 24 (bxc (GTariff.cs a0t))), (6, .box 28 (bxc (GCalendar.cs a1c))), (15, .box 44 (bxc (GArticle.cs x6))), (26, .arr 3 1 (List.map ci l5_1).length)]⟩ : Bool → St) ?_ ?_
    ·refine sim_reg ?_
     refine xs_run 4 krf ?_
     refine xs_split (eqI x6.Kind 3) (fun h12 => ?_) (fun h12 => ?_)
     ·refine xs_no (want_ft krf h12) krf ?_
      refine xs_run 3 krf ?_
      refine xs_end ?_
      exact nq_n true ⟨[2, 3, 4, 5, 6, 12, 13, 14, 15, 16, 60], [5, 6, 15, 26], [], []⟩ krf
     ·refine xs_one (want_ff krf h12) krf ?_
      refine xs_run 3 krf ?_
      refine xs_end ?_
      exact nq_n (eqI x6.Kind 4) ⟨[2, 3, 4, 5, 6, 12, 13, 14, 15, 16, 60], [5, 6, 15, 26], [], []⟩ krf
    ·rintro j11
     refine sim_cond j11 krf ?_ ?_
     ·refine sim_seq ?_
      refine sim_reg ?_
      refine xs_run 9 krf ?_
      refine xs_call [] krf (g_ref31_Started_ok n x6.Price (maxI 0 (wi (r7 - x6.Free))) x6.Unit) krf krf (fun _ => by kernel_rfl) (fun r13 => ?_)
      refine xs_run 5 krf ?_
      refine xs_end ?_
      refine sq_nk ⟨[2, 3, 4, 5, 6, 12, 13, 14, 17, 18], [5, 6, 26], [], []⟩ ⟨[(2, I a2from), (3, I a3to), (4, I a4energy), (5, .ptr 5 0), (6, .ptr 6 0), (12, .tsl 1 (List.map ci l5_1) 26), (13, I j8), (14, I l5_3), (17, I r13.1), (18, I r13.2)], [(5, .box 24 (bxc (GTariff.cs a0t))), (6, .box 28 (bxc (GCalendar.cs a1c))), (26, .arr 3 1 (List.map ci l5_1).length)]⟩ krf ?_
      refine sim_seq ?_
      refine sim_run Try.fm ⟨[2, 3, 4, 5, 6, 12, 13, 14, 17, 75], [5, 6, 26], [], []⟩ ⟨[(2, I a2from), (3, I a3to), (4, I a4energy), (5, .ptr 5 0), (6, .ptr 6 0), (12, .tsl 1 (List.map ci l5_1) 26), (13, I j8), (14, I l5_3), (17, I r13.1), (75, B (!eqI r13.2 0))], [(5, .box 24 (bxc (GTariff.cs a0t))), (6, .box 28 (bxc (GCalendar.cs a1c))), (26, .arr 3 1 (List.map ci l5_1).length)]⟩ krf ?_
      refine sim_cond (!eqI r13.2 0) krf ?_ ?_
      ·refine sim_run Try.fm ⟨[10, 11], [], [], []⟩ ⟨[(10, .p (.val (.slice none 0 0))), (11, B false)], []⟩ krf ?_
       refine sim_ret ?_
       refine sq_r ?_
       refine bq_r ?_
       refine sq_r ?_
       refine kq_r ?_
       refine bq_r ?_
       refine kq_r ?_
       exact rq_ret (.agg [.sl 1, .id]) krf krf krf
      ·refine sim_skip ?_
       refine sq_nk ⟨[2, 3, 4, 5, 6, 12, 13, 14, 17], [5, 6, 26], [], []⟩ ⟨[(2, I a2from), (3, I a3to), (4, I a4energy), (5, .ptr 5 0), (6, .ptr 6 0), (12, .tsl 1 (List.map ci l5_1) 26), (13, I j8), (14, I l5_3), (17, I r13.1)], [(5, .box 24 (bxc (GTariff.cs a0t))), (6, .box 28 (bxc (GCalendar.cs a1c))), (26, .arr 3 1 (List.map ci l5_1).length)]⟩ krf ?_
       refine sim_reg ?_
       refine xs_run 3 krf ?_
       refine xs_if krf krf (aop_app (e := 3) (S := 1) (by_ := 8) (enc := ci) (tk := 26) (l := l5_1) (l2 := [r13.1]) (xv := .tsl 1 (List.map ci [r13.1]) 78) rfl krf krf rfl krf krf krf rfl krf) ?_
       refine xs_run 1 krf ?_
       refine xs_end ?_
       refine bq_n ?_
       refine sq_nk ⟨[2, 3, 4, 5, 6, 12, 13, 14], [5, 6, 26], [], []⟩ ⟨[(2, I a2from), (3, I a3to), (4, I a4energy), (5, .ptr 5 0), (6, .ptr 6 0), (12, .tsl 1 (List.map ci (l5_1 ++ [r13.1])) 26), (13, I j8), (14, I l5_3)], [(5, .box 24 (bxc (GTariff.cs a0t))), (6, .box 28 (bxc (GCalendar.cs a1c))), (26, .arr 3 1 (List.map ci (l5_1 ++ [r13.1])).length)]⟩ krf ?_
       refine sim_last Try.fm krf ?_
       exact kq_n (l5_1 ++ [r13.1], j8, wi (l5_3 + 1)) ⟨[2, 3, 4, 5, 6, 12, 13, 14], [5, 6, 26], [], []⟩ krf
     ·refine sim_skip ?_
      refine bq_n ?_
      refine sq_nk ⟨[2, 3, 4, 5, 6, 12, 13, 14], [5, 6, 26], [], []⟩ ⟨[(2, I a2from), (3, I a3to), (4, I a4energy), (5, .ptr 5 0), (6, .ptr 6 0), (12, .tsl 1 (List.map ci l5_1) 26), (13, I j8), (14, I l5_3)], [(5, .box 24 (bxc (GTariff.cs a0t))), (6, .box 28 (bxc (GCalendar.cs a1c))), (26, .arr 3 1 (List.map ci l5_1).length)]⟩ krf ?_
      refine sim_last Try.fm krf ?_
      exact kq_n (l5_1, j8, wi (l5_3 + 1)) ⟨[2, 3, 4, 5, 6, 12, 13, 14], [5, 6, 26], [], []⟩ krf
  ·refine sim_exit ?_
   refine sq_x ?_
   refine kq_x ?_
   refine bq_hit ?_
   exact kq_n (k := fun (j2_1, j2_2) => g_ref35_parts_j2 n a0t a1c a2from a3to a4energy j2_1 j2_2) (l5_1, l5_2) ⟨[2, 3, 4, 5, 6, 12, 13], [5, 6, 26], [], []⟩ krf
def g_ref31_Tax (n : Nat) (a0n : Int) (a1rate : Int) : Option (Int × Int) :=
 ((g_ref31_amount n a0n).bind fun r2 =>
 cond (!r2)
  (some true)
  (cond (ltI a1rate 0)
   (some true)
   (some (ltI 100000 a1rate)))).bind fun j1 =>
 cond j1
  (some (0, 1))
  ((g_ref31_divided n (wi (a0n * a1rate)) 10000).bind fun r5 =>
  (g_ref31_checked n r5).bind fun r6 =>
  some (r6.1, r6.2))
theorem g_ref31_Tax_ok (n : Nat) (a0n : Int) (a1rate : Int) : ∀ r, g_ref31_Tax n a0n a1rate = some r → PCall Try.prog 34 [I a0n, I a1rate] (.ret (.tup [I r.1, I r.2])) := by
 refine pcall_sim (X := fun r : Int × Int => AEnd.ret (.tup [I r.1, I r.2])) Try.func34 rfl Try.ntmps34 rfl ?_
 unfold g_ref31_Tax
 refine sim_run Try.fm ⟨[0, 1], [], [], []⟩ ⟨[(0, I a0n), (1, I a1rate)], []⟩ krf ?_
 refine sim_seq ?_
 refine sim_bind (fun j1 => ⟨[(0, I a0n), (1, I a1rate), (16, B j1)], []⟩ : Bool → St) ?_ ?_
 ·refine sim_reg ?_
  refine xs_run 1 krf ?_
  refine xs_call [] krf (g_ref31_amount_ok n a0n) krf krf (fun _ => by kernel_rfl) (fun r2 => ?_)
  refine xs_run 2 krf ?_
  refine xs_split (!r2) (fun h3 => ?_) (fun h3 => ?_)
  ·refine xs_no (want_ft krf h3) krf ?_
   refine xs_run 6 krf ?_
   refine xs_end ?_
   exact nq_n true ⟨[0, 1, 16], [], [], []⟩ krf
  ·refine xs_one (want_ff krf h3) krf ?_
   refine xs_run 3 krf ?_
   refine xs_split (ltI a1rate 0) (fun h4 => ?_) (fun h4 => ?_)
   ·refine xs_no (want_ft krf h4) krf ?_
    refine xs_run 2 krf ?_
    refine xs_end ?_
    exact nq_n true ⟨[0, 1, 16], [], [], []⟩ krf
   ·refine xs_one (want_ff krf h4) krf ?_
    refine xs_run 2 krf ?_
    refine xs_end ?_
    exact nq_n (ltI 100000 a1rate) ⟨[0, 1, 16], [], [], []⟩ krf
 ·rintro j1
  refine sim_cond j1 krf ?_ ?_
  ·refine sim_run Try.fm ⟨[4, 5], [], [], []⟩ ⟨[(4, I 0), (5, I 1)], []⟩ krf ?_
   refine sim_ret ?_
   refine sq_r ?_
   exact rq_ret (.id) krf krf krf
  ·refine sim_skip ?_
   refine sq_nk ⟨[0, 1], [], [], []⟩ ⟨[(0, I a0n), (1, I a1rate)], []⟩ krf ?_
   refine sim_seq ?_
   refine sim_reg ?_
   refine xs_run 3 krf ?_
   refine xs_call [] krf (g_ref31_divided_ok n (wi (a0n * a1rate)) 10000) krf krf (fun _ => by kernel_rfl) (fun r5 => ?_)
   refine xs_call [] krf (g_ref31_checked_ok n r5) krf krf (fun _ => by kernel_rfl) (fun r6 => ?_)
   refine xs_run 4 krf ?_
   refine xs_end ?_
   refine sq_nk ⟨[4, 5], [], [], []⟩ ⟨[(4, I r6.1), (5, I r6.2)], []⟩ krf ?_
   refine sim_ret ?_
   exact rq_ret (.id) krf krf krf
def g_ref35_Quote_l10 (a0t : GTariff) (recl10 : (Int × Int × Int) → Option (Int × Int)) (l10_1 : Int) (l10_2 : Int) (l10_3 : Int) : Option (Int × Int) :=
 cond (ltI l10_3 (lenI (List.map GArticle.cs a0t.Articles)))
  (((getI a0t.Articles l10_3).bind fun x12 =>
  cond (eqI x12.Kind 5)
   ((getI a0t.Articles l10_3).bind fun x13 =>
   some (minI l10_1 x13.Price))
   (some l10_1)).bind fun j11 =>
  (getI a0t.Articles l10_3).bind fun x14 =>
  cond (eqI x14.Kind 6)
   ((getI a0t.Articles l10_3).bind fun x15 =>
   recl10 (j11, x15.Price, wi (l10_3 + 1)))
   (recl10 (j11, l10_2, wi (l10_3 + 1))))
  (some (l10_1, l10_2))
def g_ref35_Quote_j8 (n : Nat) (a0t : GTariff) (j8 : Int) : Option (Int × Int) :=
 cond (ltI 1000000000 j8)
  (some (0, 3))
  ((loopN (fun recl10 (l10_1, l10_2, l10_3) => g_ref35_Quote_l10 a0t recl10 l10_1 l10_2 l10_3) n (j8, 0, 0)).bind fun (j9_1, j9_2) =>
  (g_ref31_Tax n j9_1 j9_2).bind fun r16 =>
  (cond (!eqI r16.2 0)
   (some true)
   (some (ltI 1000000000 (wi (j9_1 + r16.1))))).bind fun j17 =>
  cond j17
   (some (0, 3))
   (some (wi (j9_1 + r16.1), 0)))
def g_ref35_Quote_l19 (n : Nat) (a0t : GTariff) (r7 : (List Int) × Bool) (recl19 : (Int × Int) → Option (Int × Int)) (l19_1 : Int) (l19_2 : Int) : Option (Int × Int) :=
 cond (ltI l19_2 (lenI (List.map ci r7.1)))
  ((getI r7.1 l19_2).bind fun x20 =>
  cond (ltI 1000000000 x20)
   (some (0, 3))
   ((getI r7.1 l19_2).bind fun x21 =>
   recl19 (wi (l19_1 + x21), wi (l19_2 + 1))))
  (g_ref35_Quote_j8 n a0t l19_1)
def g_ref35_Quote (n : Nat) (a0t : GTariff) (a1c : GCalendar) (a2from : Int) (a3to : Int) (a4energy : Int) : Option (Int × Int) :=
 ((g_ref32_Valid n a0t).bind fun r2 =>
 cond (!r2)
  (some true)
  ((g_ref26_Valid n a1c).bind fun r4 =>
  cond (!r4)
   (some true)
   ((g_ref35_Limits n a2from a3to a4energy).bind fun r6 =>
   some (!r6)))).bind fun j1 =>
 cond j1
  (some (0, 1))
  ((g_ref35_parts n a0t a1c a2from a3to a4energy).bind fun r7 =>
  cond (!r7.2)
   (some (0, 3))
   (loopN (fun recl19 (l19_1, l19_2) => g_ref35_Quote_l19 n a0t r7 recl19 l19_1 l19_2) n (0, 0)))
theorem g_ref35_Quote_ok (n : Nat) (a0t : GTariff) (a1c : GCalendar) (a2from : Int) (a3to : Int) (a4energy : Int) : ∀ r, g_ref35_Quote n a0t a1c a2from a3to a4energy = some r → PCall Try.prog 14 [ag (GTariff.cs a0t), ag (GCalendar.cs a1c), I a2from, I a3to, I a4energy] (.ret (.tup [I r.1, I r.2])) := by
 refine pcall_sim (X := fun r : Int × Int => AEnd.ret (.tup [I r.1, I r.2])) Try.func14 rfl Try.ntmps14 rfl ?_
 unfold g_ref35_Quote
 refine sim_run Try.fm ⟨[2, 3, 4, 5, 6], [5, 6], [], []⟩ ⟨[(2, I a2from), (3, I a3to), (4, I a4energy), (5, .ptr 5 0), (6, .ptr 6 0)], [(5, .box 24 (bxc (GTariff.cs a0t))), (6, .box 28 (bxc (GCalendar.cs a1c)))]⟩ krf ?_
 refine sim_seq ?_
 refine sim_bind (fun j1 => ⟨[(2, I a2from), (3, I a3to), (4, I a4energy), (5, .ptr 5 0), (6, .ptr 6 0), (34, B j1)], [(5, .box 24 (bxc (GTariff.cs a0t))), (6, .box 28 (bxc (GCalendar.cs a1c)))]⟩ : Bool → St) ?_ ?_
 ·refine sim_reg ?_
  refine xs_run 1 krf ?_
  refine xs_call [] krf (g_ref32_Valid_ok n a0t) krf krf (fun _ => by kernel_rfl) (fun r2 => ?_)
  refine xs_run 2 krf ?_
  refine xs_split (!r2) (fun h3 => ?_) (fun h3 => ?_)
  ·refine xs_no (want_ft krf h3) krf ?_
   refine xs_run 10 krf ?_
   refine xs_end ?_
   exact nq_n true ⟨[2, 3, 4, 5, 6, 34], [5, 6], [], []⟩ krf
  ·refine xs_one (want_ff krf h3) krf ?_
   refine xs_call [] krf (g_ref26_Valid_ok n a1c) krf krf (fun _ => by kernel_rfl) (fun r4 => ?_)
   refine xs_run 3 krf ?_
   refine xs_split (!r4) (fun h5 => ?_) (fun h5 => ?_)
   ·refine xs_no (want_ft krf h5) krf ?_
    refine xs_run 5 krf ?_
    refine xs_end ?_
    exact nq_n true ⟨[2, 3, 4, 5, 6, 34], [5, 6], [], []⟩ krf
   ·refine xs_one (want_ff krf h5) krf ?_
    refine xs_run 2 krf ?_
    refine xs_call [] krf (g_ref35_Limits_ok n a2from a3to a4energy) krf krf (fun _ => by kernel_rfl) (fun r6 => ?_)
    refine xs_run 2 krf ?_
    refine xs_end ?_
    exact nq_n (!r6) ⟨[2, 3, 4, 5, 6, 34], [5, 6], [], []⟩ krf
 ·rintro j1
  refine sim_cond j1 krf ?_ ?_
  ·refine sim_run Try.fm ⟨[10, 11], [], [], []⟩ ⟨[(10, I 0), (11, I 1)], []⟩ krf ?_
   refine sim_ret ?_
   refine sq_r ?_
   exact rq_ret (.id) krf krf krf
  ·refine sim_skip ?_
   refine sq_nk ⟨[2, 3, 4, 5, 6], [5, 6], [], []⟩ ⟨[(2, I a2from), (3, I a3to), (4, I a4energy), (5, .ptr 5 0), (6, .ptr 6 0)], [(5, .box 24 (bxc (GTariff.cs a0t))), (6, .box 28 (bxc (GCalendar.cs a1c)))]⟩ krf ?_
   refine sim_seq ?_
   refine sim_reg ?_
   refine xs_run 5 krf ?_
   refine xs_call [] krf (g_ref35_parts_ok n a0t a1c a2from a3to a4energy) krf krf (fun _ => by kernel_rfl) (fun r7 => ?_)
   refine xs_run 5 krf ?_
   refine xs_end ?_
   refine sq_nk ⟨[5, 12, 13], [5], [], []⟩ ⟨[(5, .ptr 5 0), (12, .p (.sl 1 (List.map ci r7.1))), (13, B r7.2)], [(5, .box 24 (bxc (GTariff.cs a0t)))]⟩ krf ?_
   refine sim_seq ?_
   refine sim_run Try.fm ⟨[5, 12, 45], [5], [], []⟩ ⟨[(5, .ptr 5 0), (12, .p (.sl 1 (List.map ci r7.1))), (45, B (!r7.2))], [(5, .box 24 (bxc (GTariff.cs a0t)))]⟩ krf ?_
   refine sim_cond (!r7.2) krf ?_ ?_
   ·refine sim_run Try.fm ⟨[10, 11], [], [], []⟩ ⟨[(10, I 0), (11, I 3)], []⟩ krf ?_
    refine sim_ret ?_
    refine sq_r ?_
    exact rq_ret (.id) krf krf krf
   ·refine sim_skip ?_
    refine sq_nk ⟨[5, 12], [5], [], []⟩ ⟨[(5, .ptr 5 0), (12, .p (.sl 1 (List.map ci r7.1)))], [(5, .box 24 (bxc (GTariff.cs a0t)))]⟩ krf ?_
    refine sim_run Try.fm ⟨[5, 12, 14], [5], [], []⟩ ⟨[(5, .ptr 5 0), (12, .p (.sl 1 (List.map ci r7.1))), (14, I 0)], [(5, .box 24 (bxc (GTariff.cs a0t)))]⟩ krf ?_
    refine sim_cps (fun j8 => ⟨[(5, .ptr 5 0), (14, I j8)], [(5, .box 24 (bxc (GTariff.cs a0t)))]⟩ : Int → St) (fun j8 => g_ref35_Quote_j8 n a0t j8) ?_ ?_
    ·rintro j8
     show SimE (g_ref35_Quote_j8 n a0t j8) _ _ _ _ _ _
     unfold g_ref35_Quote_j8
     refine sim_seq ?_
     refine sim_run Try.fm ⟨[5, 14, 64], [5], [], []⟩ ⟨[(5, .ptr 5 0), (14, I j8), (64, B (ltI 1000000000 j8))], [(5, .box 24 (bxc (GTariff.cs a0t)))]⟩ krf ?_
     refine sim_cond (ltI 1000000000 j8) krf ?_ ?_
     ·refine sim_run Try.fm ⟨[10, 11], [], [], []⟩ ⟨[(10, I 0), (11, I 3)], []⟩ krf ?_
      refine sim_ret ?_
      refine sq_r ?_
      exact rq_ret (.id) krf krf krf
     ·refine sim_skip ?_
      refine sq_nk ⟨[5, 14], [5], [], []⟩ ⟨[(5, .ptr 5 0), (14, I j8)], [(5, .box 24 (bxc (GTariff.cs a0t)))]⟩ krf ?_
      refine sim_run Try.fm ⟨[5, 14, 16], [5], [], []⟩ ⟨[(5, .ptr 5 0), (14, I j8), (16, I 0)], [(5, .box 24 (bxc (GTariff.cs a0t)))]⟩ krf ?_
      refine sim_bind (fun (j9_1, j9_2) => ⟨[(14, I j9_1), (16, I j9_2)], []⟩ : (Int × Int) → St) ?_ ?_
      ·refine sim_run Try.fm ⟨[5, 14, 16, 17], [5], [], []⟩ ⟨[(5, .ptr 5 0), (14, I j8), (16, I 0), (17, I 0)], [(5, .box 24 (bxc (GTariff.cs a0t)))]⟩ krf ?_
       refine sim_block ?_
       refine sim_loop (fun (l10_1, l10_2, l10_3) => ⟨[(5, .ptr 5 0), (14, I l10_1), (16, I l10_2), (17, I l10_3)], [(5, .box 24 (bxc (GTariff.cs a0t)))]⟩ : (Int × Int × Int) → St) (weak_shr (K := ⟨[5, 14, 16, 17], [5], [], []⟩) krf) ?_
       rintro recl10 ⟨l10_1, l10_2, l10_3⟩
       show SimE (g_ref35_Quote_l10 a0t recl10 l10_1 l10_2 l10_3) _ _ _ _ _ _
       unfold g_ref35_Quote_l10
       refine sim_seq ?_
       refine sim_run Try.fm ⟨[5, 14, 16, 17, 69], [5], [], []⟩ ⟨[(5, .ptr 5 0), (14, I l10_1), (16, I l10_2), (17, I l10_3), (69, B (ltI l10_3 (lenI (List.map GArticle.cs a0t.Articles))))], [(5, .box 24 (bxc (GTariff.cs a0t)))]⟩ krf ?_
       refine sim_cond (ltI l10_3 (lenI (List.map GArticle.cs a0t.Articles))) krf ?_ ?_
       ·refine sim_skip ?_
        refine sq_nk ⟨[5, 14, 16, 17], [5], [], []⟩ ⟨[(5, .ptr 5 0), (14, I l10_1), (16, I l10_2), (17, I l10_3)], [(5, .box 24 (bxc (GTariff.cs a0t)))]⟩ krf ?_
        refine sim_seq ?_
        refine sim_block ?_
        refine sim_bind (fun j11 => ⟨[(5, .ptr 5 0), (14, I j11), (16, I l10_2), (17, I l10_3)], [(5, .box 24 (bxc (GTariff.cs a0t)))]⟩ : Int → St) ?_ ?_
        ·refine sim_seq ?_
         refine sim_reg ?_
         refine xs_run 3 krf ?_
         refine xs_get krf krf (aop_idx (e := 44) (S := 7) (enc := GArticle.cs) (l := a0t.Articles) (k := .i64) (n := l10_3) (sv := .p (.sl 7 (List.map GArticle.cs a0t.Articles))) rfl krf krf krf krf krf) (fun x12 => ?_)
         refine xs_run 3 krf ?_
         refine xs_end ?_
         refine sq_nk ⟨[5, 14, 16, 17, 78], [5], [], []⟩ ⟨[(5, .ptr 5 0), (14, I l10_1), (16, I l10_2), (17, I l10_3), (78, B (eqI x12.Kind 5))], [(5, .box 24 (bxc (GTariff.cs a0t)))]⟩ krf ?_
         refine sim_cond (eqI x12.Kind 5) krf ?_ ?_
         ·refine sim_reg ?_
          refine xs_run 4 krf ?_
          refine xs_get krf krf (aop_idx (e := 44) (S := 7) (enc := GArticle.cs) (l := a0t.Articles) (k := .i64) (n := l10_3) (sv := .p (.sl 7 (List.map GArticle.cs a0t.Articles))) rfl krf krf krf krf krf) (fun x13 => ?_)
          refine xs_run 4 krf ?_
          refine xs_end ?_
          exact nq_n (minI l10_1 x13.Price) ⟨[5, 14, 16, 17], [5], [], []⟩ krf
         ·refine sim_skip ?_
          exact nq_n l10_1 ⟨[5, 14, 16, 17], [5], [], []⟩ krf
        ·rintro j11
         refine sim_seq ?_
         refine sim_reg ?_
         refine xs_run 3 krf ?_
         refine xs_get krf krf (aop_idx (e := 44) (S := 7) (enc := GArticle.cs) (l := a0t.Articles) (k := .i64) (n := l10_3) (sv := .p (.sl 7 (List.map GArticle.cs a0t.Articles))) rfl krf krf krf krf krf) (fun x14 => ?_)
         refine xs_run 3 krf ?_
         refine xs_end ?_
         refine sq_nk ⟨[5, 14, 16, 17, 93], [5], [], []⟩ ⟨[(5, .ptr 5 0), (14, I j11), (16, I l10_2), (17, I l10_3), (93, B (eqI x14.Kind 6))], [(5, .box 24 (bxc (GTariff.cs a0t)))]⟩ krf ?_
         refine sim_cond (eqI x14.Kind 6) krf ?_ ?_
         ·refine sim_reg ?_
          refine xs_run 3 krf ?_
          refine xs_get krf krf (aop_idx (e := 44) (S := 7) (enc := GArticle.cs) (l := a0t.Articles) (k := .i64) (n := l10_3) (sv := .p (.sl 7 (List.map GArticle.cs a0t.Articles))) rfl krf krf krf krf krf) (fun x15 => ?_)
          refine xs_run 3 krf ?_
          refine xs_end ?_
          refine bq_n ?_
          refine sq_nk ⟨[5, 14, 16, 17], [5], [], []⟩ ⟨[(5, .ptr 5 0), (14, I j11), (16, I x15.Price), (17, I l10_3)], [(5, .box 24 (bxc (GTariff.cs a0t)))]⟩ krf ?_
          refine sim_last Try.fm krf ?_
          exact kq_n (j11, x15.Price, wi (l10_3 + 1)) ⟨[5, 14, 16, 17], [5], [], []⟩ krf
         ·refine sim_skip ?_
          refine bq_n ?_
          refine sq_nk ⟨[5, 14, 16, 17], [5], [], []⟩ ⟨[(5, .ptr 5 0), (14, I j11), (16, I l10_2), (17, I l10_3)], [(5, .box 24 (bxc (GTariff.cs a0t)))]⟩ krf ?_
          refine sim_last Try.fm krf ?_
          exact kq_n (j11, l10_2, wi (l10_3 + 1)) ⟨[5, 14, 16, 17], [5], [], []⟩ krf
       ·refine sim_exit ?_
        refine sq_x ?_
        refine kq_x ?_
        refine bq_hit ?_
        exact nq_n (l10_1, l10_2) ⟨[14, 16], [], [], []⟩ krf
      ·rintro ⟨j9_1, j9_2⟩
       refine sim_seq ?_
       refine sim_reg ?_
       refine xs_run 2 krf ?_
       refine xs_call [] krf (g_ref31_Tax_ok n j9_1 j9_2) krf krf (fun _ => by kernel_rfl) (fun r16 => ?_)
       refine xs_run 5 krf ?_
       refine xs_end ?_
       refine sq_nk ⟨[14, 18, 19], [], [], []⟩ ⟨[(14, I j9_1), (18, I r16.1), (19, I r16.2)], []⟩ krf ?_
       refine sim_seq ?_
       refine sim_bind (fun j17 => ⟨[(14, I j9_1), (18, I r16.1), (113, B j17)], []⟩ : Bool → St) ?_ ?_
       ·refine sim_reg ?_
        refine xs_run 3 krf ?_
        refine xs_split (!eqI r16.2 0) (fun h18 => ?_) (fun h18 => ?_)
        ·refine xs_no (want_ft krf h18) krf ?_
         refine xs_run 4 krf ?_
         refine xs_end ?_
         exact nq_n true ⟨[14, 18, 113], [], [], []⟩ krf
        ·refine xs_one (want_ff krf h18) krf ?_
         refine xs_run 4 krf ?_
         refine xs_end ?_
         exact nq_n (ltI 1000000000 (wi (j9_1 + r16.1))) ⟨[14, 18, 113], [], [], []⟩ krf
       ·rintro j17
        refine sim_cond j17 krf ?_ ?_
        ·refine sim_run Try.fm ⟨[10, 11], [], [], []⟩ ⟨[(10, I 0), (11, I 3)], []⟩ krf ?_
         refine sim_ret ?_
         refine sq_r ?_
         exact rq_ret (.id) krf krf krf
        ·refine sim_skip ?_
         refine sq_nk ⟨[14, 18], [], [], []⟩ ⟨[(14, I j9_1), (18, I r16.1)], []⟩ krf ?_
         refine sim_run Try.fm ⟨[10, 11], [], [], []⟩ ⟨[(10, I (wi (j9_1 + r16.1))), (11, I 0)], []⟩ krf ?_
         refine sim_ret ?_
         exact rq_ret (.id) krf krf krf
    ·refine sim_run Try.fm ⟨[5, 12, 14, 15], [5], [], []⟩ ⟨[(5, .ptr 5 0), (12, .p (.sl 1 (List.map ci r7.1))), (14, I 0), (15, I 0)], [(5, .box 24 (bxc (GTariff.cs a0t)))]⟩ krf ?_
     refine sim_block ?_
     refine sim_loop (fun (l19_1, l19_2) => ⟨[(5, .ptr 5 0), (12, .p (.sl 1 (List.map ci r7.1))), (14, I l19_1), (15, I l19_2)], [(5, .box 24 (bxc (GTariff.cs a0t)))]⟩ : (Int × Int) → St) (weak_shr (K := ⟨[5, 12, 14, 15], [5], [], []⟩) krf) ?_
     rintro recl19 ⟨l19_1, l19_2⟩
     show SimE (g_ref35_Quote_l19 n a0t r7 recl19 l19_1 l19_2) _ _ _ _ _ _
     unfold g_ref35_Quote_l19
     refine sim_seq ?_
     refine sim_run Try.fm ⟨[5, 12, 14, 15, 49], [5], [], []⟩ ⟨[(5, .ptr 5 0), (12, .p (.sl 1 (List.map ci r7.1))), (14, I l19_1), (15, I l19_2), (49, B (ltI l19_2 (lenI (List.map ci r7.1))))], [(5, .box 24 (bxc (GTariff.cs a0t)))]⟩ krf ?_
     refine sim_cond (ltI l19_2 (lenI (List.map ci r7.1))) krf ?_ ?_
     ·refine sim_skip ?_
      refine sq_nk ⟨[5, 12, 14, 15], [5], [], []⟩ ⟨[(5, .ptr 5 0), (12, .p (.sl 1 (List.map ci r7.1))), (14, I l19_1), (15, I l19_2)], [(5, .box 24 (bxc (GTariff.cs a0t)))]⟩ krf ?_
      refine sim_seq ?_
      refine sim_block ?_
      refine sim_seq ?_
      refine sim_seq ?_
      refine sim_reg ?_
      refine xs_run 2 krf ?_
      refine xs_get krf krf (aop_idx (e := 3) (S := 1) (enc := ci) (l := r7.1) (k := .i64) (n := l19_2) (sv := .p (.sl 1 (List.map ci r7.1))) rfl krf krf krf krf krf) (fun x20 => ?_)
      refine xs_run 2 krf ?_
      refine xs_end ?_
      refine sq_nk ⟨[5, 12, 14, 15, 56], [5], [], []⟩ ⟨[(5, .ptr 5 0), (12, .p (.sl 1 (List.map ci r7.1))), (14, I l19_1), (15, I l19_2), (56, B (ltI 1000000000 x20))], [(5, .box 24 (bxc (GTariff.cs a0t)))]⟩ krf ?_
      refine sim_cond (ltI 1000000000 x20) krf ?_ ?_
      ·refine sim_run Try.fm ⟨[10, 11], [], [], []⟩ ⟨[(10, I 0), (11, I 3)], []⟩ krf ?_
       refine sim_ret ?_
       refine sq_r ?_
       refine bq_r ?_
       refine sq_r ?_
       refine kq_r ?_
       refine bq_r ?_
       refine kq_r ?_
       exact rq_ret (.id) krf krf krf
      ·refine sim_skip ?_
       refine sq_nk ⟨[5, 12, 14, 15], [5], [], []⟩ ⟨[(5, .ptr 5 0), (12, .p (.sl 1 (List.map ci r7.1))), (14, I l19_1), (15, I l19_2)], [(5, .box 24 (bxc (GTariff.cs a0t)))]⟩ krf ?_
       refine sim_reg ?_
       refine xs_run 3 krf ?_
       refine xs_get krf krf (aop_idx (e := 3) (S := 1) (enc := ci) (l := r7.1) (k := .i64) (n := l19_2) (sv := .p (.sl 1 (List.map ci r7.1))) rfl krf krf krf krf krf) (fun x21 => ?_)
       refine xs_run 3 krf ?_
       refine xs_end ?_
       refine bq_n ?_
       refine sq_nk ⟨[5, 12, 14, 15], [5], [], []⟩ ⟨[(5, .ptr 5 0), (12, .p (.sl 1 (List.map ci r7.1))), (14, I (wi (l19_1 + x21))), (15, I l19_2)], [(5, .box 24 (bxc (GTariff.cs a0t)))]⟩ krf ?_
       refine sim_last Try.fm krf ?_
       exact kq_n (wi (l19_1 + x21), wi (l19_2 + 1)) ⟨[5, 12, 14, 15], [5], [], []⟩ krf
     ·refine sim_exit ?_
      refine sq_x ?_
      refine kq_x ?_
      refine bq_hit ?_
      exact kq_n (k := fun j8 => g_ref35_Quote_j8 n a0t j8) l19_1 ⟨[5, 14], [5], [], []⟩ krf
def g_ref33_Valid_l8 (a0s : GSession) (recl8 : Int → Option Bool) (l8 : Int) : Option Bool :=
 cond (ltI l8 (lenI (List.map GSlice.cs a0s.Slices)))
  ((getI a0s.Slices l8).bind fun x9 =>
  (cond (ltI x9.Minute a0s.From)
   (some true)
   (cond (leI a0s.End x9.Minute)
    (some true)
    (cond (ltI x9.Energy 0)
     (some true)
     (cond (ltI 10000 x9.Energy)
      (some true)
      (cond (ltI 0 l8)
       ((getI a0s.Slices (wi (l8 - 1))).bind fun x16 =>
       some (leI x9.Minute x16.Minute))
       (some false)))))).bind fun j10 =>
  cond j10
   (some false)
   (recl8 (wi (l8 + 1))))
  (some true)
def g_ref33_Valid (n : Nat) (a0s : GSession) : Option Bool :=
 (cond (ltI a0s.From 0)
  (some true)
  (cond (leI a0s.To a0s.From)
   (some true)
   (cond (ltI 52560000 a0s.To)
    (some true)
    (cond (ltI 2880 (wi (a0s.To - a0s.From)))
     (some true)
     (cond (ltI a0s.End a0s.From)
      (some true)
      (cond (ltI a0s.To a0s.End)
       (some true)
       (some (ltI 48 (lenI (List.map GSlice.cs a0s.Slices)))))))))).bind fun j1 =>
 cond j1
  (some false)
  (loopN (fun recl8 l8 => g_ref33_Valid_l8 a0s recl8 l8) n 0)
theorem g_ref33_Valid_ok (n : Nat) (a0s : GSession) : ∀ r, g_ref33_Valid n a0s = some r → PCall Try.prog 35 [ag (GSession.cs a0s)] (.ret (B r)) := by
 refine pcall_sim (X := fun r : Bool => AEnd.ret (B r)) Try.func35 rfl Try.ntmps35 rfl ?_
 unfold g_ref33_Valid
 refine sim_run Try.fm ⟨[1], [1], [], []⟩ ⟨[(1, .ptr 1 0)], [(1, .box 31 (bxc (GSession.cs a0s)))]⟩ krf ?_
 refine sim_seq ?_
 refine sim_bind (fun j1 => ⟨[(1, .ptr 1 0), (47, B j1)], [(1, .box 31 (bxc (GSession.cs a0s)))]⟩ : Bool → St) ?_ ?_
 ·refine sim_reg ?_
  refine xs_run 4 krf ?_
  refine xs_split (ltI a0s.From 0) (fun h2 => ?_) (fun h2 => ?_)
  ·refine xs_no (want_ft krf h2) krf ?_
   refine xs_run 38 krf ?_
   refine xs_end ?_
   exact nq_n true ⟨[1, 47], [1], [], []⟩ krf
  ·refine xs_one (want_ff krf h2) krf ?_
   refine xs_run 6 krf ?_
   refine xs_split (leI a0s.To a0s.From) (fun h3 => ?_) (fun h3 => ?_)
   ·refine xs_no (want_ft krf h3) krf ?_
    refine xs_run 31 krf ?_
    refine xs_end ?_
    exact nq_n true ⟨[1, 47], [1], [], []⟩ krf
   ·refine xs_one (want_ff krf h3) krf ?_
    refine xs_run 4 krf ?_
    refine xs_split (ltI 52560000 a0s.To) (fun h4 => ?_) (fun h4 => ?_)
    ·refine xs_no (want_ft krf h4) krf ?_
     refine xs_run 26 krf ?_
     refine xs_end ?_
     exact nq_n true ⟨[1, 47], [1], [], []⟩ krf
    ·refine xs_one (want_ff krf h4) krf ?_
     refine xs_run 7 krf ?_
     refine xs_split (ltI 2880 (wi (a0s.To - a0s.From))) (fun h5 => ?_) (fun h5 => ?_)
     ·refine xs_no (want_ft krf h5) krf ?_
      refine xs_run 18 krf ?_
      refine xs_end ?_
      exact nq_n true ⟨[1, 47], [1], [], []⟩ krf
     ·refine xs_one (want_ff krf h5) krf ?_
      refine xs_run 6 krf ?_
      refine xs_split (ltI a0s.End a0s.From) (fun h6 => ?_) (fun h6 => ?_)
      ·refine xs_no (want_ft krf h6) krf ?_
       refine xs_run 11 krf ?_
       refine xs_end ?_
       exact nq_n true ⟨[1, 47], [1], [], []⟩ krf
      ·refine xs_one (want_ff krf h6) krf ?_
       refine xs_run 6 krf ?_
       refine xs_split (ltI a0s.To a0s.End) (fun h7 => ?_) (fun h7 => ?_)
       ·refine xs_no (want_ft krf h7) krf ?_
        refine xs_run 4 krf ?_
        refine xs_end ?_
        exact nq_n true ⟨[1, 47], [1], [], []⟩ krf
       ·refine xs_one (want_ff krf h7) krf ?_
        refine xs_run 4 krf ?_
        refine xs_end ?_
        exact nq_n (ltI 48 (lenI (List.map GSlice.cs a0s.Slices))) ⟨[1, 47], [1], [], []⟩ krf
 ·rintro j1
  refine sim_cond j1 krf ?_ ?_
  ·refine sim_run Try.fm ⟨[2], [], [], []⟩ ⟨[(2, B false)], []⟩ krf ?_
   refine sim_ret ?_
   refine sq_r ?_
   exact rq_ret (.id) krf krf krf
  ·refine sim_skip ?_
   refine sq_nk ⟨[1], [1], [], []⟩ ⟨[(1, .ptr 1 0)], [(1, .box 31 (bxc (GSession.cs a0s)))]⟩ krf ?_
   refine sim_seq ?_
   refine sim_run Try.fm ⟨[1, 3], [1], [], []⟩ ⟨[(1, .ptr 1 0), (3, I 0)], [(1, .box 31 (bxc (GSession.cs a0s)))]⟩ krf ?_
   refine sim_block ?_
   refine sim_loop (fun l8 => ⟨[(1, .ptr 1 0), (3, I l8)], [(1, .box 31 (bxc (GSession.cs a0s)))]⟩ : Int → St) (weak_shr (K := ⟨[1, 3], [1], [], []⟩) krf) ?_
   rintro recl8 l8
   show SimE (g_ref33_Valid_l8 a0s recl8 l8) _ _ _ _ _ _
   unfold g_ref33_Valid_l8
   refine sim_seq ?_
   refine sim_run Try.fm ⟨[1, 3, 52], [1], [], []⟩ ⟨[(1, .ptr 1 0), (3, I l8), (52, B (ltI l8 (lenI (List.map GSlice.cs a0s.Slices))))], [(1, .box 31 (bxc (GSession.cs a0s)))]⟩ krf ?_
   refine sim_cond (ltI l8 (lenI (List.map GSlice.cs a0s.Slices))) krf ?_ ?_
   ·refine sim_skip ?_
    refine sq_nk ⟨[1, 3], [1], [], []⟩ ⟨[(1, .ptr 1 0), (3, I l8)], [(1, .box 31 (bxc (GSession.cs a0s)))]⟩ krf ?_
    refine sim_seq ?_
    refine sim_block ?_
    refine sim_seq ?_
    refine sim_reg ?_
    refine xs_run 3 krf ?_
    refine xs_get krf krf (aop_idx (e := 49) (S := 2) (enc := GSlice.cs) (l := a0s.Slices) (k := .i64) (n := l8) (sv := .p (.sl 2 (List.map GSlice.cs a0s.Slices))) rfl krf krf krf krf krf) (fun x9 => ?_)
    refine xs_run 3 krf ?_
    refine xs_end ?_
    refine sq_nk ⟨[1, 3, 4], [1, 4], [], []⟩ ⟨[(1, .ptr 1 0), (3, I l8), (4, .ptr 4 0)], [(1, .box 31 (bxc (GSession.cs a0s))), (4, .box 49 (bxc (GSlice.cs x9)))]⟩ krf ?_
    refine sim_bind (fun j10 => ⟨[(1, .ptr 1 0), (3, I l8), (97, B j10)], [(1, .box 31 (bxc (GSession.cs a0s)))]⟩ : Bool → St) ?_ ?_
    ·refine sim_drw Try.fm rfl ?_
     refine xs_run 6 krf ?_
     refine xs_split (ltI x9.Minute a0s.From) (fun h11 => ?_) (fun h11 => ?_)
     ·refine xs_no (want_ft krf h11) krf ?_
      refine xs_run 31 krf ?_
      refine xs_endD krf ?_
      exact nq_n true ⟨[1, 3, 97], [1], [], []⟩ krf
     ·refine xs_one (want_ff krf h11) krf ?_
      refine xs_run 6 krf ?_
      refine xs_split (leI a0s.End x9.Minute) (fun h12 => ?_) (fun h12 => ?_)
      ·refine xs_no (want_ft krf h12) krf ?_
       refine xs_run 24 krf ?_
       refine xs_endD krf ?_
       exact nq_n true ⟨[1, 3, 97], [1], [], []⟩ krf
      ·refine xs_one (want_ff krf h12) krf ?_
       refine xs_run 4 krf ?_
       refine xs_split (ltI x9.Energy 0) (fun h13 => ?_) (fun h13 => ?_)
       ·refine xs_no (want_ft krf h13) krf ?_
        refine xs_run 19 krf ?_
        refine xs_endD krf ?_
        exact nq_n true ⟨[1, 3, 97], [1], [], []⟩ krf
       ·refine xs_one (want_ff krf h13) krf ?_
        refine xs_run 4 krf ?_
        refine xs_split (ltI 10000 x9.Energy) (fun h14 => ?_) (fun h14 => ?_)
        ·refine xs_no (want_ft krf h14) krf ?_
         refine xs_run 14 krf ?_
         refine xs_endD krf ?_
         exact nq_n true ⟨[1, 3, 97], [1], [], []⟩ krf
        ·refine xs_one (want_ff krf h14) krf ?_
         refine xs_run 2 krf ?_
         refine xs_split (ltI 0 l8) (fun h15 => ?_) (fun h15 => ?_)
         ·refine xs_one (want_tt krf h15) krf ?_
          refine xs_run 5 krf ?_
          refine xs_get krf krf (aop_idx (e := 49) (S := 2) (enc := GSlice.cs) (l := a0s.Slices) (k := .i64) (n := wi (l8 - 1)) (sv := .p (.sl 2 (List.map GSlice.cs a0s.Slices))) rfl krf krf krf krf krf) (fun x16 => ?_)
          refine xs_run 5 krf ?_
          refine xs_endD krf ?_
          exact nq_n (leI x9.Minute x16.Minute) ⟨[1, 3, 97], [1], [], []⟩ krf
         ·refine xs_no (want_tf krf h15) krf ?_
          refine xs_run 11 krf ?_
          refine xs_endD krf ?_
          exact nq_n false ⟨[1, 3, 97], [1], [], []⟩ krf
    ·rintro j10
     refine sim_cond j10 krf ?_ ?_
     ·refine sim_run Try.fm ⟨[2], [], [], []⟩ ⟨[(2, B false)], []⟩ krf ?_
      refine sim_ret ?_
      refine bq_r ?_
      refine sq_r ?_
      refine kq_r ?_
      refine bq_r ?_
      refine sq_r ?_
      exact rq_ret (.id) krf krf krf
     ·refine sim_skip ?_
      refine bq_n ?_
      refine sq_nk ⟨[1, 3], [1], [], []⟩ ⟨[(1, .ptr 1 0), (3, I l8)], [(1, .box 31 (bxc (GSession.cs a0s)))]⟩ krf ?_
      refine sim_last Try.fm krf ?_
      exact kq_n (wi (l8 + 1)) ⟨[1, 3], [1], [], []⟩ krf
   ·refine sim_exit ?_
    refine sq_x ?_
    refine kq_x ?_
    refine bq_hit ?_
    refine sq_nk ⟨[], [], [], []⟩ ⟨[], []⟩ krf ?_
    refine sim_run Try.fm ⟨[2], [], [], []⟩ ⟨[(2, B true)], []⟩ krf ?_
    refine sim_ret ?_
    exact rq_ret (.id) krf krf krf
def g_ref35_Covers_l7 (a0s : GSession) (a3energy : Int) (recl7 : (Int × Int) → Option Bool) (l7_1 : Int) (l7_2 : Int) : Option Bool :=
 cond (ltI l7_2 (lenI (List.map GSlice.cs a0s.Slices)))
  ((getI a0s.Slices l7_2).bind fun x8 =>
  recl7 (wi (l7_1 + x8.Energy), wi (l7_2 + 1)))
  (some (leI l7_1 a3energy))
def g_ref35_Covers (n : Nat) (a0s : GSession) (a1from : Int) (a2to : Int) (a3energy : Int) : Option Bool :=
 ((g_ref35_Limits n a1from a2to a3energy).bind fun r2 =>
 cond (!r2)
  (some true)
  ((g_ref33_Valid n a0s).bind fun r4 =>
  cond (!r4)
   (some true)
   (cond (ltI a0s.From a1from)
    (some true)
    (some (ltI a2to a0s.To))))).bind fun j1 =>
 cond j1
  (some false)
  (loopN (fun recl7 (l7_1, l7_2) => g_ref35_Covers_l7 a0s a3energy recl7 l7_1 l7_2) n (0, 0))
theorem g_ref35_Covers_ok (n : Nat) (a0s : GSession) (a1from : Int) (a2to : Int) (a3energy : Int) : ∀ r, g_ref35_Covers n a0s a1from a2to a3energy = some r → PCall Try.prog 16 [ag (GSession.cs a0s), I a1from, I a2to, I a3energy] (.ret (B r)) := by
 refine pcall_sim (X := fun r : Bool => AEnd.ret (B r)) Try.func16 rfl Try.ntmps16 rfl ?_
 unfold g_ref35_Covers
 refine sim_run Try.fm ⟨[1, 2, 3, 4], [4], [], []⟩ ⟨[(1, I a1from), (2, I a2to), (3, I a3energy), (4, .ptr 4 0)], [(4, .box 31 (bxc (GSession.cs a0s)))]⟩ krf ?_
 refine sim_seq ?_
 refine sim_bind (fun j1 => ⟨[(3, I a3energy), (4, .ptr 4 0), (32, B j1)], [(4, .box 31 (bxc (GSession.cs a0s)))]⟩ : Bool → St) ?_ ?_
 ·refine sim_reg ?_
  refine xs_run 3 krf ?_
  refine xs_call [] krf (g_ref35_Limits_ok n a1from a2to a3energy) krf krf (fun _ => by kernel_rfl) (fun r2 => ?_)
  refine xs_run 2 krf ?_
  refine xs_split (!r2) (fun h3 => ?_) (fun h3 => ?_)
  ·refine xs_no (want_ft krf h3) krf ?_
   refine xs_run 15 krf ?_
   refine xs_end ?_
   exact nq_n true ⟨[3, 4, 32], [4], [], []⟩ krf
  ·refine xs_one (want_ff krf h3) krf ?_
   refine xs_call [] krf (g_ref33_Valid_ok n a0s) krf krf (fun _ => by kernel_rfl) (fun r4 => ?_)
   refine xs_run 3 krf ?_
   refine xs_split (!r4) (fun h5 => ?_) (fun h5 => ?_)
   ·refine xs_no (want_ft krf h5) krf ?_
    refine xs_run 10 krf ?_
    refine xs_end ?_
    exact nq_n true ⟨[3, 4, 32], [4], [], []⟩ krf
   ·refine xs_one (want_ff krf h5) krf ?_
    refine xs_run 5 krf ?_
    refine xs_split (ltI a0s.From a1from) (fun h6 => ?_) (fun h6 => ?_)
    ·refine xs_no (want_ft krf h6) krf ?_
     refine xs_run 4 krf ?_
     refine xs_end ?_
     exact nq_n true ⟨[3, 4, 32], [4], [], []⟩ krf
    ·refine xs_one (want_ff krf h6) krf ?_
     refine xs_run 4 krf ?_
     refine xs_end ?_
     exact nq_n (ltI a2to a0s.To) ⟨[3, 4, 32], [4], [], []⟩ krf
 ·rintro j1
  refine sim_cond j1 krf ?_ ?_
  ·refine sim_run Try.fm ⟨[8], [], [], []⟩ ⟨[(8, B false)], []⟩ krf ?_
   refine sim_ret ?_
   refine sq_r ?_
   exact rq_ret (.id) krf krf krf
  ·refine sim_skip ?_
   refine sq_nk ⟨[3, 4], [4], [], []⟩ ⟨[(3, I a3energy), (4, .ptr 4 0)], [(4, .box 31 (bxc (GSession.cs a0s)))]⟩ krf ?_
   refine sim_run Try.fm ⟨[3, 4, 9], [4], [], []⟩ ⟨[(3, I a3energy), (4, .ptr 4 0), (9, I 0)], [(4, .box 31 (bxc (GSession.cs a0s)))]⟩ krf ?_
   refine sim_seq ?_
   refine sim_run Try.fm ⟨[3, 4, 9, 10], [4], [], []⟩ ⟨[(3, I a3energy), (4, .ptr 4 0), (9, I 0), (10, I 0)], [(4, .box 31 (bxc (GSession.cs a0s)))]⟩ krf ?_
   refine sim_block ?_
   refine sim_loop (fun (l7_1, l7_2) => ⟨[(3, I a3energy), (4, .ptr 4 0), (9, I l7_1), (10, I l7_2)], [(4, .box 31 (bxc (GSession.cs a0s)))]⟩ : (Int × Int) → St) (weak_shr (K := ⟨[3, 4, 9, 10], [4], [], []⟩) krf) ?_
   rintro recl7 ⟨l7_1, l7_2⟩
   show SimE (g_ref35_Covers_l7 a0s a3energy recl7 l7_1 l7_2) _ _ _ _ _ _
   unfold g_ref35_Covers_l7
   refine sim_seq ?_
   refine sim_run Try.fm ⟨[3, 4, 9, 10, 37], [4], [], []⟩ ⟨[(3, I a3energy), (4, .ptr 4 0), (9, I l7_1), (10, I l7_2), (37, B (ltI l7_2 (lenI (List.map GSlice.cs a0s.Slices))))], [(4, .box 31 (bxc (GSession.cs a0s)))]⟩ krf ?_
   refine sim_cond (ltI l7_2 (lenI (List.map GSlice.cs a0s.Slices))) krf ?_ ?_
   ·refine sim_skip ?_
    refine sq_nk ⟨[3, 4, 9, 10], [4], [], []⟩ ⟨[(3, I a3energy), (4, .ptr 4 0), (9, I l7_1), (10, I l7_2)], [(4, .box 31 (bxc (GSession.cs a0s)))]⟩ krf ?_
    refine sim_seq ?_
    refine sim_block ?_
    refine sim_reg ?_
    refine xs_run 4 krf ?_
    refine xs_get krf krf (aop_idx (e := 49) (S := 2) (enc := GSlice.cs) (l := a0s.Slices) (k := .i64) (n := l7_2) (sv := .p (.sl 2 (List.map GSlice.cs a0s.Slices))) rfl krf krf krf krf krf) (fun x8 => ?_)
    refine xs_run 4 krf ?_
    refine xs_end ?_
    refine bq_n ?_
    refine sq_nk ⟨[3, 4, 9, 10], [4], [], []⟩ ⟨[(3, I a3energy), (4, .ptr 4 0), (9, I (wi (l7_1 + x8.Energy))), (10, I l7_2)], [(4, .box 31 (bxc (GSession.cs a0s)))]⟩ krf ?_
    refine sim_last Try.fm krf ?_
    exact kq_n (wi (l7_1 + x8.Energy), wi (l7_2 + 1)) ⟨[3, 4, 9, 10], [4], [], []⟩ krf
   ·refine sim_exit ?_
    refine sq_x ?_
    refine kq_x ?_
    refine bq_hit ?_
    refine sq_nk ⟨[3, 9], [], [], []⟩ ⟨[(3, I a3energy), (9, I l7_1)], []⟩ krf ?_
    refine sim_run Try.fm ⟨[8], [], [], []⟩ ⟨[(8, B (leI l7_1 a3energy))], []⟩ krf ?_
    refine sim_ret ?_
    exact rq_ret (.id) krf krf krf
def g_law35_QuoteMatchesReference (n : Nat) (a0t : GTariff) (a1c : GCalendar) (a2from : Int) (a3to : Int) (a4energy : Int) (a5s : GSession) : Option Bool :=
 (g_law35_head n).bind fun r1 =>
 (g_ref35_Few n a0t a1c a5s).bind fun r2 =>
 cond (!r2)
  (some r1)
  ((g_quote_Quote n a0t a1c a2from a3to a4energy).bind fun r3 =>
  (g_ref35_Quote n a0t a1c a2from a3to a4energy).bind fun r4 =>
  cond r1
   (cond (eqI r3.1 r4.1)
    (cond (eqI r3.2 r4.2)
     ((g_quote_Covers n a5s a2from a3to a4energy).bind fun r8 =>
     (g_ref35_Covers n a5s a2from a3to a4energy).bind fun r9 =>
     some (opq (r8 == r9)))
     (some false))
    (some false))
   (some false))
theorem g_law35_QuoteMatchesReference_ok (n : Nat) (a0t : GTariff) (a1c : GCalendar) (a2from : Int) (a3to : Int) (a4energy : Int) (a5s : GSession) : ∀ r, g_law35_QuoteMatchesReference n a0t a1c a2from a3to a4energy a5s = some r → PCall Try.prog 3 [ag (GTariff.cs a0t), ag (GCalendar.cs a1c), I a2from, I a3to, I a4energy, ag (GSession.cs a5s)] (.ret (B r)) := by
 refine pcall_sim (X := fun r : Bool => AEnd.ret (B r)) Try.func3 rfl Try.ntmps3 rfl ?_
 unfold g_law35_QuoteMatchesReference
 refine sim_run Try.fm ⟨[2, 3, 4, 6, 7, 11], [6, 7, 11], [], []⟩ ⟨[(2, I a2from), (3, I a3to), (4, I a4energy), (6, .ptr 6 0), (7, .ptr 7 0), (11, .ptr 11 0)], [(6, .box 24 (bxc (GTariff.cs a0t))), (7, .box 28 (bxc (GCalendar.cs a1c))), (11, .box 31 (bxc (GSession.cs a5s)))]⟩ krf ?_
 refine sim_seq ?_
 refine sim_reg ?_
 refine xs_call [] krf (g_law35_head_ok n) krf krf (fun _ => by kernel_rfl) (fun r1 => ?_)
 refine xs_run 1 krf ?_
 refine xs_end ?_
 refine sq_nk ⟨[2, 3, 4, 6, 7, 11, 13], [6, 7, 11], [], []⟩ ⟨[(2, I a2from), (3, I a3to), (4, I a4energy), (6, .ptr 6 0), (7, .ptr 7 0), (11, .ptr 11 0), (13, B r1)], [(6, .box 24 (bxc (GTariff.cs a0t))), (7, .box 28 (bxc (GCalendar.cs a1c))), (11, .box 31 (bxc (GSession.cs a5s)))]⟩ krf ?_
 refine sim_seq ?_
 refine sim_seq ?_
 refine sim_reg ?_
 refine xs_run 3 krf ?_
 refine xs_call [] krf (g_ref35_Few_ok n a0t a1c a5s) krf krf (fun _ => by kernel_rfl) (fun r2 => ?_)
 refine xs_run 1 krf ?_
 refine xs_end ?_
 refine sq_nk ⟨[2, 3, 4, 6, 7, 11, 13, 23], [6, 7, 11], [], []⟩ ⟨[(2, I a2from), (3, I a3to), (4, I a4energy), (6, .ptr 6 0), (7, .ptr 7 0), (11, .ptr 11 0), (13, B r1), (23, B (!r2))], [(6, .box 24 (bxc (GTariff.cs a0t))), (7, .box 28 (bxc (GCalendar.cs a1c))), (11, .box 31 (bxc (GSession.cs a5s)))]⟩ krf ?_
 refine sim_cond (!r2) krf ?_ ?_
 ·refine sim_run Try.fm ⟨[12], [], [], []⟩ ⟨[(12, B r1)], []⟩ krf ?_
  refine sim_ret ?_
  refine sq_r ?_
  exact rq_ret (.id) krf krf krf
 ·refine sim_skip ?_
  refine sq_nk ⟨[2, 3, 4, 6, 7, 11, 13], [6, 7, 11], [], []⟩ ⟨[(2, I a2from), (3, I a3to), (4, I a4energy), (6, .ptr 6 0), (7, .ptr 7 0), (11, .ptr 11 0), (13, B r1)], [(6, .box 24 (bxc (GTariff.cs a0t))), (7, .box 28 (bxc (GCalendar.cs a1c))), (11, .box 31 (bxc (GSession.cs a5s)))]⟩ krf ?_
  refine sim_seq ?_
  refine sim_reg ?_
  refine xs_run 5 krf ?_
  refine xs_call [] krf (g_quote_Quote_ok n a0t a1c a2from a3to a4energy) krf krf (fun _ => by kernel_rfl) (fun r3 => ?_)
  refine xs_run 5 krf ?_
  refine xs_end ?_
  refine sq_nk ⟨[2, 3, 4, 6, 7, 11, 13, 14, 15], [6, 7, 11], [], []⟩ ⟨[(2, I a2from), (3, I a3to), (4, I a4energy), (6, .ptr 6 0), (7, .ptr 7 0), (11, .ptr 11 0), (13, B r1), (14, I r3.1), (15, I r3.2)], [(6, .box 24 (bxc (GTariff.cs a0t))), (7, .box 28 (bxc (GCalendar.cs a1c))), (11, .box 31 (bxc (GSession.cs a5s)))]⟩ krf ?_
  refine sim_seq ?_
  refine sim_reg ?_
  refine xs_run 5 krf ?_
  refine xs_call [] krf (g_ref35_Quote_ok n a0t a1c a2from a3to a4energy) krf krf (fun _ => by kernel_rfl) (fun r4 => ?_)
  refine xs_run 5 krf ?_
  refine xs_end ?_
  refine sq_nk ⟨[2, 3, 4, 11, 13, 14, 15, 16, 17], [11], [], []⟩ ⟨[(2, I a2from), (3, I a3to), (4, I a4energy), (11, .ptr 11 0), (13, B r1), (14, I r3.1), (15, I r3.2), (16, I r4.1), (17, I r4.2)], [(11, .box 31 (bxc (GSession.cs a5s)))]⟩ krf ?_
  refine sim_seq ?_
  refine sim_drw Try.fm rfl ?_
  refine xs_run 2 krf ?_
  refine xs_split r1 (fun h5 => ?_) (fun h5 => ?_)
  ·refine xs_one (want_tt krf h5) krf ?_
   refine xs_run 4 krf ?_
   refine xs_split (eqI r3.1 r4.1) (fun h6 => ?_) (fun h6 => ?_)
   ·refine xs_one (want_tt krf h6) krf ?_
    refine xs_run 4 krf ?_
    refine xs_split (eqI r3.2 r4.2) (fun h7 => ?_) (fun h7 => ?_)
    ·refine xs_one (want_tt krf h7) krf ?_
     refine xs_run 3 krf ?_
     refine xs_call [] krf (g_quote_Covers_ok n a5s a2from a3to a4energy) krf krf (fun _ => by kernel_rfl) (fun r8 => ?_)
     refine xs_run 4 krf ?_
     refine xs_call [] krf (g_ref35_Covers_ok n a5s a2from a3to a4energy) krf krf (fun _ => by kernel_rfl) (fun r9 => ?_)
     refine xs_run 3 krf ?_
     refine xs_endD krf ?_
     refine sq_nk ⟨[12], [], [], []⟩ ⟨[(12, B (opq (r8 == r9)))], []⟩ krf ?_
     refine sim_ret ?_
     exact rq_ret (.id) krf krf krf
    ·refine xs_no (want_tf krf h7) krf ?_
     refine xs_run 12 krf ?_
     refine xs_endD krf ?_
     refine sq_nk ⟨[12], [], [], []⟩ ⟨[(12, B false)], []⟩ krf ?_
     refine sim_ret ?_
     exact rq_ret (.id) krf krf krf
   ·refine xs_no (want_tf krf h6) krf ?_
    refine xs_run 17 krf ?_
    refine xs_endD krf ?_
    refine sq_nk ⟨[12], [], [], []⟩ ⟨[(12, B false)], []⟩ krf ?_
    refine sim_ret ?_
    exact rq_ret (.id) krf krf krf
  ·refine xs_no (want_tf krf h5) krf ?_
   refine xs_run 22 krf ?_
   refine xs_endD krf ?_
   refine sq_nk ⟨[12], [], [], []⟩ ⟨[(12, B false)], []⟩ krf ?_
   refine sim_ret ?_
   exact rq_ret (.id) krf krf krf
end Go.Proofs
namespace Go.Proofs
open Go Go.Abs
set_option maxRecDepth 100000
set_option linter.unusedVariables false
structure GLine where
 Article : Int
 Amount : Int
deriving DecidableEq
def GLine.cs (x : GLine) : List PV := [VI x.Article, VI x.Amount]
structure GBill where
 Lines : List GLine
 Net : Int
 Tax : Int
 Total : Int
deriving DecidableEq
def GBill.cs (x : GBill) : List PV := [.sl 2 (List.map GLine.cs x.Lines), VI x.Net, VI x.Tax, VI x.Total]
structure GBB where
 article : GArticle
 calendar : GCalendar
 session : GSession
deriving DecidableEq
def GBB.cs (x : GBB) : List PV := [VI x.article.Kind, VI x.article.Days, VI x.article.From, VI x.article.To, VI x.article.Price, VI x.article.Unit, VI x.article.Free, VI x.calendar.Offset, .sl 2 (List.map GChange.cs x.calendar.Changes), .sl 1 (List.map ci x.calendar.Holidays), VI x.session.From, VI x.session.To, VI x.session.End, .sl 2 (List.map GSlice.cs x.session.Slices)]
structure GReading where
 Serial : Int
 Number : Int
 Minute : Int
 Register : Int
 Link : Int
deriving DecidableEq
def GReading.cs (x : GReading) : List PV := [VI x.Serial, VI x.Number, VI x.Minute, VI x.Register, VU x.Link]
structure GClaim where
 Tariff : GTariff
 Calendar : GCalendar
 Readings : List GReading
 Seed : Int
 Session : GSession
 Bill : GBill
deriving DecidableEq
def GClaim.cs (x : GClaim) : List PV := [VS x.Tariff.Name, .sl 7 (List.map GArticle.cs x.Tariff.Articles), VI x.Calendar.Offset, .sl 2 (List.map GChange.cs x.Calendar.Changes), .sl 1 (List.map ci x.Calendar.Holidays), .sl 5 (List.map GReading.cs x.Readings), VU x.Seed, VI x.Session.From, VI x.Session.To, VI x.Session.End, .sl 2 (List.map GSlice.cs x.Session.Slices), .sl 2 (List.map GLine.cs x.Bill.Lines), VI x.Bill.Net, VI x.Bill.Tax, VI x.Bill.Total]
structure GAE where
 Claim : GClaim
 follows : GSession
 bill : GBill
 rate : Int
deriving DecidableEq
def GAE.cs (x : GAE) : List PV := [VS x.Claim.Tariff.Name, .sl 7 (List.map GArticle.cs x.Claim.Tariff.Articles), VI x.Claim.Calendar.Offset, .sl 2 (List.map GChange.cs x.Claim.Calendar.Changes), .sl 1 (List.map ci x.Claim.Calendar.Holidays), .sl 5 (List.map GReading.cs x.Claim.Readings), VU x.Claim.Seed, VI x.Claim.Session.From, VI x.Claim.Session.To, VI x.Claim.Session.End, .sl 2 (List.map GSlice.cs x.Claim.Session.Slices), .sl 2 (List.map GLine.cs x.Claim.Bill.Lines), VI x.Claim.Bill.Net, VI x.Claim.Bill.Tax, VI x.Claim.Bill.Total, VI x.follows.From, VI x.follows.To, VI x.follows.End, .sl 2 (List.map GSlice.cs x.follows.Slices), .sl 2 (List.map GLine.cs x.bill.Lines), VI x.bill.Net, VI x.bill.Tax, VI x.bill.Total, VI x.rate]
def g_a_inside (n : Nat) (a0n : Int) (a1least : Int) (a2greatest : Int) : Option Bool :=
 cond (leI a1least a0n)
  (some (leI a0n a2greatest))
  (some false)
def g_a_isKey (n : Nat) (a0word : List UInt8) : Option Bool :=
 (cond (eqS a0word [102, 101, 101, 100, 101, 114])
  (some (eqS a0word [102, 101, 101, 100, 101, 114]))
  (cond (eqS a0word [99, 97, 98, 108, 101])
   (some (eqS a0word [99, 97, 98, 108, 101]))
   (cond (eqS a0word [111, 119, 110, 101, 114])
    (some (eqS a0word [111, 119, 110, 101, 114]))
    (cond (eqS a0word [99, 111, 110, 116, 114, 97, 99, 116])
     (some (eqS a0word [99, 111, 110, 116, 114, 97, 99, 116]))
     (cond (eqS a0word [99, 104, 97, 114, 103, 101, 114])
      (some (eqS a0word [99, 104, 97, 114, 103, 101, 114]))
      (cond (eqS a0word [98, 97, 121])
       (some (eqS a0word [98, 97, 121]))
       (some (eqS a0word [116, 97, 114, 105, 102, 102])))))))).bind fun j1 =>
 cond j1
  (some true)
  ((cond (eqS a0word [108, 105, 109, 105, 116])
   (some (eqS a0word [108, 105, 109, 105, 116]))
   (cond (eqS a0word [110, 101, 117, 116, 114, 97, 108])
    (some (eqS a0word [110, 101, 117, 116, 114, 97, 108]))
    (cond (eqS a0word [102, 117, 115, 101])
     (some (eqS a0word [102, 117, 115, 101]))
     (cond (eqS a0word [116, 104, 101, 114, 109, 97, 108])
      (some (eqS a0word [116, 104, 101, 114, 109, 97, 108]))
      (cond (eqS a0word [102, 114, 111, 109])
       (some (eqS a0word [102, 114, 111, 109]))
       (cond (eqS a0word [97, 116])
        (some (eqS a0word [97, 116]))
        (cond (eqS a0word [112, 104, 97, 115, 101, 115])
         (some (eqS a0word [112, 104, 97, 115, 101, 115]))
         (cond (eqS a0word [97, 109, 112, 115])
          (some (eqS a0word [97, 109, 112, 115]))
          (cond (eqS a0word [102, 97, 108, 108, 98, 97, 99, 107])
           (some (eqS a0word [102, 97, 108, 108, 98, 97, 99, 107]))
           (cond (eqS a0word [99, 97, 114, 100])
            (some (eqS a0word [99, 97, 114, 100]))
            (some (eqS a0word [114, 97, 110, 107])))))))))))).bind fun j2 =>
  cond j2
   (some true)
   ((cond (eqS a0word [115, 116, 97, 114, 116])
    (some (eqS a0word [115, 116, 97, 114, 116]))
    (cond (eqS a0word [101, 110, 101, 114, 103, 121])
     (some (eqS a0word [101, 110, 101, 114, 103, 121]))
     (cond (eqS a0word [116, 105, 109, 101])
      (some (eqS a0word [116, 105, 109, 101]))
      (cond (eqS a0word [105, 100, 108, 101])
       (some (eqS a0word [105, 100, 108, 101]))
       (cond (eqS a0word [99, 97, 112])
        (some (eqS a0word [99, 97, 112]))
        (some (eqS a0word [116, 97, 120]))))))).bind fun j3 =>
   cond j3
    (some true)
    ((cond (eqS a0word [111, 110])
     (some (eqS a0word [111, 110]))
     (cond (eqS a0word [119, 111, 114, 107])
      (some (eqS a0word [119, 111, 114, 107]))
      (cond (eqS a0word [115, 97, 116, 117, 114, 100, 97, 121])
       (some (eqS a0word [115, 97, 116, 117, 114, 100, 97, 121]))
       (cond (eqS a0word [115, 117, 110, 100, 97, 121])
        (some (eqS a0word [115, 117, 110, 100, 97, 121]))
        (cond (eqS a0word [98, 101, 116, 119, 101, 101, 110])
         (some (eqS a0word [98, 101, 116, 119, 101, 101, 110]))
         (cond (eqS a0word [112, 101, 114])
          (some (eqS a0word [112, 101, 114]))
          (some (eqS a0word [102, 114, 101, 101])))))))).bind fun j4 =>
    cond j4
     (some true)
     (some false))))
def g_a_validArticle (n : Nat) (a0a : GArticle) : Option Bool :=
 ((g_a_inside n a0a.Kind 1 6).bind fun r2 =>
 cond (!r2)
  (some true)
  ((g_a_inside n a0a.Days 1 7).bind fun r4 =>
  some (!r4))).bind fun j1 =>
 cond j1
  (some false)
  (((g_a_inside n a0a.From 0 1439).bind fun r6 =>
  cond (!r6)
   (some true)
   (cond (leI a0a.To a0a.From)
    (some true)
    (some (ltI 1440 a0a.To)))).bind fun j5 =>
  cond j5
   (some false)
   ((cond (eqI a0a.From 0)
    (cond (eqI a0a.To 1440)
     (some (eqI a0a.Days 7))
     (some false))
    (some false)).bind fun j9 =>
   (cond (eqI a0a.Unit 0)
    (some (eqI a0a.Free 0))
    (some false)).bind fun j12 =>
   (g_a_inside n a0a.Price 0 1000000).bind fun r14 =>
   (cond (eqI a0a.Kind 3)
    (some (eqI a0a.Kind 3))
    (some (eqI a0a.Kind 4))).bind fun j15 =>
   cond j15
    ((cond r14
     ((g_a_inside n a0a.Unit 1 1440).bind fun r18 =>
     cond r18
      ((g_a_inside n a0a.Free 0 1440).bind fun r20 =>
      some r20)
      (some false))
     (some false)).bind fun j16 =>
    some j16)
    (cond (eqI a0a.Kind 5)
     ((cond r14
      (cond j12
       (some j9)
       (some false))
      (some false)).bind fun j21 =>
     some j21)
     (cond (eqI a0a.Kind 6)
      (((g_a_inside n a0a.Price 0 10000).bind fun r25 =>
      cond r25
       (cond j12
        (some j9)
        (some false))
       (some false)).bind fun j24 =>
      some j24)
      (cond r14
       (some j12)
       (some false))))))
end Go.Proofs
namespace Go.Proofs
open Go Go.Abs Go.ChangeShapes Go.WideShapes Go.ChangeAt Go.RowKit Go.Proofs.Ytehocmildcedeaa
set_option maxRecDepth 100000
set_option linter.unusedVariables false
structure GArticle.wf (x : GArticle) : Prop where
 Kind : i64b x.Kind
 Days : i64b x.Days
 From : i64b x.From
 To : i64b x.To
 Price : i64b x.Price
 Unit : i64b x.Unit
 Free : i64b x.Free
theorem sh_GArticle {d : Nat} {cs : List PV} (h : Sh Try.prog (d + 2) 44 cs) : ∃ r : GArticle, cs = GArticle.cs r ∧ GArticle.wf r := by
 have h := sh_struct Try.underlying44 h
 obtain ⟨_, _, rfl, h0, _, _, rfl, h1, _, _, rfl, h2, _, _, rfl, h3, _, _, rfl, h4, _, _, rfl, h5, _, _, rfl, h6, rfl⟩ := h
 obtain ⟨x0, rfl, w0⟩ := sh_i64 Try.underlying3 h0
 obtain ⟨x1, rfl, w1⟩ := sh_i64 Try.underlying3 h1
 obtain ⟨x2, rfl, w2⟩ := sh_i64 Try.underlying3 h2
 obtain ⟨x3, rfl, w3⟩ := sh_i64 Try.underlying3 h3
 obtain ⟨x4, rfl, w4⟩ := sh_i64 Try.underlying3 h4
 obtain ⟨x5, rfl, w5⟩ := sh_i64 Try.underlying3 h5
 obtain ⟨x6, rfl, w6⟩ := sh_i64 Try.underlying3 h6
 exact ⟨⟨x0, x1, x2, x3, x4, x5, x6⟩, rfl, ⟨w0, w1, w2, w3, w4, w5, w6⟩⟩
structure GTariff.wf (x : GTariff) : Prop where
 Name : strb x.Name
 Articles : (listb GArticle.wf) x.Articles
theorem sh_GTariff {d : Nat} {cs : List PV} (h : Sh Try.prog (d + 4) 24 cs) : ∃ r : GTariff, cs = GTariff.cs r ∧ GTariff.wf r := by
 have h := sh_struct Try.underlying24 h
 obtain ⟨_, _, rfl, h0, _, _, rfl, h1, rfl⟩ := h
 obtain ⟨x0, rfl, w0⟩ := sh_str Try.underlying9 h0
 obtain ⟨x1, rfl, w1⟩ := sh_list (S := 7) (f := GArticle.cs) (W := GArticle.wf) Try.underlying22 krf (fun c h => sh_GArticle h) h1
 exact ⟨⟨x0, x1⟩, rfl, ⟨w0, w1⟩⟩
structure GChange.wf (x : GChange) : Prop where
 At : i64b x.At
 Offset : i64b x.Offset
theorem sh_GChange {d : Nat} {cs : List PV} (h : Sh Try.prog (d + 2) 78 cs) : ∃ r : GChange, cs = GChange.cs r ∧ GChange.wf r := by
 have h := sh_struct Try.underlying78 h
 obtain ⟨_, _, rfl, h0, _, _, rfl, h1, rfl⟩ := h
 obtain ⟨x0, rfl, w0⟩ := sh_i64 Try.underlying3 h0
 obtain ⟨x1, rfl, w1⟩ := sh_i64 Try.underlying3 h1
 exact ⟨⟨x0, x1⟩, rfl, ⟨w0, w1⟩⟩
structure GCalendar.wf (x : GCalendar) : Prop where
 Offset : i64b x.Offset
 Changes : (listb GChange.wf) x.Changes
 Holidays : (listb i64b) x.Holidays
theorem sh_GCalendar {d : Nat} {cs : List PV} (h : Sh Try.prog (d + 4) 28 cs) : ∃ r : GCalendar, cs = GCalendar.cs r ∧ GCalendar.wf r := by
 have h := sh_struct Try.underlying28 h
 obtain ⟨_, _, rfl, h0, _, _, rfl, h1, _, _, rfl, h2, rfl⟩ := h
 obtain ⟨x0, rfl, w0⟩ := sh_i64 Try.underlying3 h0
 obtain ⟨x1, rfl, w1⟩ := sh_list (S := 2) (f := GChange.cs) (W := GChange.wf) Try.underlying25 krf (fun c h => sh_GChange h) h1
 obtain ⟨x2, rfl, w2⟩ := sh_list (S := 1) (f := ci) (W := i64b) Try.underlying26 krf (fun c h => sh_i64 Try.underlying3 h) h2
 exact ⟨⟨x0, x1, x2⟩, rfl, ⟨w0, w1, w2⟩⟩
structure GSlice.wf (x : GSlice) : Prop where
 Minute : i64b x.Minute
 Energy : i64b x.Energy
theorem sh_GSlice {d : Nat} {cs : List PV} (h : Sh Try.prog (d + 2) 49 cs) : ∃ r : GSlice, cs = GSlice.cs r ∧ GSlice.wf r := by
 have h := sh_struct Try.underlying49 h
 obtain ⟨_, _, rfl, h0, _, _, rfl, h1, rfl⟩ := h
 obtain ⟨x0, rfl, w0⟩ := sh_i64 Try.underlying3 h0
 obtain ⟨x1, rfl, w1⟩ := sh_i64 Try.underlying3 h1
 exact ⟨⟨x0, x1⟩, rfl, ⟨w0, w1⟩⟩
structure GSession.wf (x : GSession) : Prop where
 From : i64b x.From
 To : i64b x.To
 End : i64b x.End
 Slices : (listb GSlice.wf) x.Slices
theorem sh_GSession {d : Nat} {cs : List PV} (h : Sh Try.prog (d + 4) 31 cs) : ∃ r : GSession, cs = GSession.cs r ∧ GSession.wf r := by
 have h := sh_struct Try.underlying31 h
 obtain ⟨_, _, rfl, h0, _, _, rfl, h1, _, _, rfl, h2, _, _, rfl, h3, rfl⟩ := h
 obtain ⟨x0, rfl, w0⟩ := sh_i64 Try.underlying3 h0
 obtain ⟨x1, rfl, w1⟩ := sh_i64 Try.underlying3 h1
 obtain ⟨x2, rfl, w2⟩ := sh_i64 Try.underlying3 h2
 obtain ⟨x3, rfl, w3⟩ := sh_list (S := 2) (f := GSlice.cs) (W := GSlice.wf) Try.underlying29 krf (fun c h => sh_GSlice h) h3
 exact ⟨⟨x0, x1, x2, x3⟩, rfl, ⟨w0, w1, w2, w3⟩⟩
def QuoteMatchesReferencePlain : Prop := ∀ (a0 : GTariff) (a1 : GCalendar) (a2 : Int) (a3 : Int) (a4 : Int) (a5 : GSession), GTariff.wf a0 → GCalendar.wf a1 → i64b a2 → i64b a3 → i64b a4 → GSession.wf a5 → ∃ n, g_law35_QuoteMatchesReference n a0 a1 a2 a3 a4 a5 = some true
theorem quoteMatchesReference_call (h : QuoteMatchesReferencePlain) : ∀ xs, ArgsSh Try.prog 9 Try.f3.params.toList xs → PCall Try.prog 3 xs (.ret (.p (.val (.bool true)))) := by
 intro xs ha
 rw [Try.params3] at ha
 obtain ⟨_, _, rfl, h0, _, _, rfl, h1, _, _, rfl, h2, _, _, rfl, h3, _, _, rfl, h4, _, _, rfl, h5, rfl⟩ := ha
 obtain ⟨a0, rfl, w0⟩ := sh_GTariff h0
 obtain ⟨a1, rfl, w1⟩ := sh_GCalendar h1
 obtain ⟨a2, rfl, w2⟩ := sh_i64 Try.underlying3 h2
 obtain ⟨a3, rfl, w3⟩ := sh_i64 Try.underlying3 h3
 obtain ⟨a4, rfl, w4⟩ := sh_i64 Try.underlying3 h4
 obtain ⟨a5, rfl, w5⟩ := sh_GSession h5
 obtain ⟨n, hn⟩ := h a0 a1 a2 a3 a4 a5 w0 w1 w2 w3 w4 w5
 simp only [avOf_struct Try.underlying24, avOf_struct Try.underlying28, avOf_int Try.underlying3, avOf_struct Try.underlying31]
 exact g_law35_QuoteMatchesReference_ok n a0 a1 a2 a3 a4 a5 true hn
set_option maxRecDepth 100000 in
theorem quoteMatchesReference_lifted (h : QuoteMatchesReferencePlain) (os : Os) (started : os.Started) (H : Type) (enc : TypeId × Value → H) :
  ReturnsInHanded {} Try.checked os 3 .any (Rows.quoteMatchesReferenceSpec.pre6 enc Try.prog Try.f3 Rows.quoteMatchesReferenceRow.domain false) (Rows.quoteMatchesReferenceSpec.post enc Try.prog Try.f3 false true false false) := by
 refine returnsInHanded_of_change (C := Try.checked) krf started krf Try.func3
  (ChangeSpec.witness6 (enc := enc) (C := Try.checked) false ⟨#[], #[.agg #[.string ⟨#[]⟩, .slice none 0 0], .agg #[.int .i64 0, .slice none 0 0, .slice none 0 0], .int .i64 0, .int .i64 0, .int .i64 0, .agg #[.int .i64 0, .int .i64 0, .int .i64 0, .slice none 0 0]], []⟩ 8 krf krf krf krf) ?_
 intro W base args ds gs before hval hW _ _
 exact law_contract (P := Try.prog) (f := 3) (fn := Try.f3) (s := Rows.quoteMatchesReferenceSpec) (tb := 4) (d := 9) krf krf krf krf Try.underlying4 rfl
  (fun ds hd => by
   have hd : ds.length = 6 := by rw [hd, show Try.f3.params.size = 6 from by kernel_rfl]
   match ds, hd with
   | [d0, d1, d2, d3, d4, d5], _ => rfl)
  (quoteMatchesReference_call h) hval hW
theorem quoteMatchesReference_said (h : QuoteMatchesReferencePlain) : Rows.QuoteMatchesReferenceSaid :=
 OpenClaim.holds_of_wide 3 Try.f3 rfl rfl rfl rfl rfl rfl rfl ⟨rfl, rfl, rfl, rfl, rfl⟩ rfl rfl rfl rfl rfl krf Try.func3 krf
  (of_decide_eq_true krf) (by unfold Func.isWrapper; first | (rw [if_pos (by decide +kernel)]; kernel_rfl) | (rw [if_neg (by decide +kernel)]; exact ⟨rfl, rfl⟩))
  (fun os started H enc _ => quoteMatchesReference_lifted h os started H enc)
end Go.Proofs
namespace Go.Proofs
open Go Go.Abs
set_option maxRecDepth 100000
set_option linter.unusedVariables false
def Does {α : Type} (m : Option α) (Q : α → Prop) : Prop := ∃ r, m = some r ∧ Q r
section
variable {α β V R E : Type}
theorem does_some {x : α} {Q : α → Prop} (h : Q x) : Does (some x) Q := ⟨x, rfl, h⟩
theorem does_mono {m : Option α} {Q Q' : α → Prop} (h : Does m Q) (hq : ∀ x, Q x → Q' x) : Does m Q' := by obtain ⟨x, e, h⟩ := h; exact ⟨x, e, hq x h⟩
theorem does_cond {b : Bool} {x y : Option α} {Q : α → Prop} (h1 : b = true → Does x Q) (h2 : b = false → Does y Q) : Does (cond b x y) Q := by
 cases b
 ·exact h2 rfl
 ·exact h1 rfl
theorem does_loop {B : (V → Option R) → V → Option R} {Q : V → R → Prop} (μ : V → Nat) (Inv : V → Prop)
  (hB : ∀ rec v, Inv v → (∀ v', Inv v' → μ v' < μ v → Does (rec v') (Q v')) → Does (B rec v) (Q v)) : ∀ {n : Nat} {v : V}, Inv v → μ v < n → Does (loopN B n v) (Q v)
 | 0, _, _, h => absurd h (Nat.not_lt_zero _)
 | n + 1, v, hv, h => hB _ v hv (fun v' h1 h2 => does_loop μ Inv hB h1 (by omega))
end
theorem getI_nat {α : Type} {l : List α} {i : Nat} : getI l (i : Int) = l[i]? := by
 unfold getI; rw [if_neg (by omega)]; simp
theorem wi_id {x : Int} (h1 : -9223372036854775808 ≤ x) (h2 : x ≤ 9223372036854775807) : wi x = x := by
 simp [wi, IntKind.wrap, IntKind.signed, IntKind.bits]; omega
theorem a_inside (n : Nat) (x a b : Int) : g_a_inside n x a b = some (decide (a ≤ x ∧ x ≤ b)) := by
 unfold g_a_inside leI
 by_cases h : a ≤ x <;> simp [h]
def needE (b : Bool) (p : Int) : Except Int Unit := if b then .ok () else .error p
def folB (a r : GReading) : Bool := if r.Serial = a.Serial then decide (a.Minute ≤ r.Minute ∧ a.Register ≤ r.Register) else decide (r.Minute = a.Minute)
def mixB (s x k : Int) : Int := wu ((bXor .u64 s (bAnd .u64 (shrI .u64 (wu x) k) 255)) * 1099511628211)
def mixW (s x : Int) : Int := [56, 48, 40, 32, 24, 16, 8, 0].foldl (fun s k => mixB s x k) s
def linkF (s : Int) (r : GReading) : Int := [r.Serial, r.Number, r.Minute, r.Register].foldl mixW s
theorem exc_need {R : Type} {k : Unit → Option R} {e : Int → Option R} {b : Bool} {p : Int} : exc k e (needE b p) = cond b (k ()) (e p) := by cases b <;> rfl
def prevLink (seed : Int) (l : List GReading) (i : Nat) : Int := if i = 0 then seed else ((l[i - 1]?).map (·.Link)).getD 0
def chainAt (seed : Int) (l : List GReading) (i : Nat) : Prop := ∀ r ∈ l[i]?, (1 ≤ r.Serial ∧ r.Serial ≤ 1000000) ∧ r.Number = i + 1 ∧ (0 ≤ r.Minute ∧ r.Minute ≤ 52560000) ∧ (0 ≤ r.Register ∧ r.Register ≤ 1000000000) ∧
 (i ≠ 0 → ∀ a ∈ l[i - 1]?, folB a r = true) ∧ r.Link = linkF (prevLink seed l i) r
def chainOk (seed : Int) (l : List GReading) : Prop := (1 ≤ l.length ∧ l.length ≤ 64) ∧ ∀ i, i < l.length → chainAt seed l i
end Go.Proofs
namespace Go.Proofs
open Go Go.Abs
set_option maxRecDepth 100000
set_option linter.unusedVariables false
theorem eqI_d (x y : Int) : eqI x y = decide (x = y) := by unfold eqI; by_cases h : x = y <;> simp [h]
theorem cond_some {α : Type} {b : Bool} {x y : α} : cond b (some x) (some y) = some (cond b x y) := by cases b <;> rfl
def keyB (w : List UInt8) : Bool := (g_a_isKey 0 w).getD false
def artB (a : GArticle) : Bool := (g_a_validArticle 0 a).getD false
def chrB (x : UInt8) : Bool := decide ((97 ≤ b2i x ∧ b2i x ≤ 122) ∨ (48 ≤ b2i x ∧ b2i x ≤ 57) ∨ b2i x = 95)
def nameB (s : List UInt8) : Bool := decide (1 ≤ s.length ∧ s.length ≤ 12) && decide (∀ x ∈ s.head?, 97 ≤ b2i x ∧ b2i x ≤ 122) && !keyB s && s.all chrB
theorem loop_list {α R : Type} {l : List α} {B : (Int → Option R) → Int → Option R} {F : List α → R} (hlen : l.length ≤ 4611686018427387904)
  (hend : ∀ rec, B rec (l.length : Int) = some (F []))
  (hstep : ∀ (rec : Int → Option R) (i : Nat) (x : α) (r : List α), l.drop i = x :: r → l[i]? = some x → i < l.length → wi ((i : Int) + 1) = ((i + 1 : Nat) : Int) → (rec ((i + 1 : Nat) : Int) = some (F r)) → B rec (i : Int) = some (F (x :: r))) :
  ∀ {n : Nat} (i : Nat), i ≤ l.length → l.length - i < n → loopN B n (i : Int) = some (F (l.drop i))
 | 0, _, _, h => absurd h (Nat.not_lt_zero _)
 | n + 1, i, hi, h => by
  unfold loopN
  by_cases he : i = l.length
  ·subst he; rw [hend]; simp
  ·have hlt : i < l.length := by omega
   have hd : l.drop i = l[i] :: l.drop (i + 1) := by rw [List.drop_eq_getElem_cons hlt]
   rw [hd]
   exact hstep _ i _ _ hd (by simp [hlt]) hlt (by rw [wi_id] <;> omega) (loop_list hlen hend hstep (i + 1) (by omega) (by omega))
theorem chr_lem (c : Int) : (bif decide (97 ≤ c) then bif decide (c ≤ 122) then false else bif decide (48 ≤ c) then bif decide (c ≤ 57) then false else !(c == 95) else !(c == 95)
  else bif decide (48 ≤ c) then bif decide (c ≤ 57) then false else !(c == 95) else !(c == 95)) = !decide ((97 ≤ c ∧ c ≤ 122) ∨ (48 ≤ c ∧ c ≤ 57) ∨ c = 95) := by
 by_cases h1 : 97 ≤ c <;> by_cases h2 : c ≤ 122 <;> by_cases h3 : 48 ≤ c <;> by_cases h4 : c ≤ 57 <;> by_cases h5 : c = 95 <;> simp [h1, h2, h3, h4, h5] <;> omega
theorem loop_acc {α R A : Type} {l : List α} {B : (A × Int → Option R) → A × Int → Option R} {F : A → List α → R} (hlen : l.length ≤ 4611686018427387904)
  (hend : ∀ rec a, B rec (a, (l.length : Int)) = some (F a []))
  (hstep : ∀ (rec : A × Int → Option R) (a : A) (i : Nat) (x : α) (r : List α), l.drop i = x :: r → l[i]? = some x → i < l.length → wi ((i : Int) + 1) = ((i + 1 : Nat) : Int) → (∀ a, rec (a, ((i + 1 : Nat) : Int)) = some (F a r)) → B rec (a, (i : Int)) = some (F a (x :: r))) :
  ∀ {n : Nat} (i : Nat) (a : A), i ≤ l.length → l.length - i < n → loopN B n (a, (i : Int)) = some (F a (l.drop i))
 | 0, _, _, _, h => absurd h (Nat.not_lt_zero _)
 | n + 1, i, a, hi, h => by
  unfold loopN
  by_cases he : i = l.length
  ·subst he; rw [hend]; simp
  ·have hlt : i < l.length := by omega
   have hd : l.drop i = l[i] :: l.drop (i + 1) := by rw [List.drop_eq_getElem_cons hlt]
   rw [hd]
   exact hstep _ a i _ _ hd (by simp [hlt]) hlt (by rw [wi_id] <;> omega) (fun a => loop_acc hlen hend hstep (i + 1) a (by omega) (by omega))
def holB : Int → List Int → Bool
 | _, [] => true
 | a, x :: r => decide (a < x ∧ x ≤ 36500) && holB x r
def chgB : Int → List GChange → Bool
 | _, [] => true
 | a, x :: r => decide (a < x.At ∧ x.At ≤ 52560000 ∧ -1440 ≤ x.Offset ∧ x.Offset ≤ 1440) && chgB x.At r
def calB (c : GCalendar) : Bool := decide (-1440 ≤ c.Offset ∧ c.Offset ≤ 1440) && decide (c.Changes.length ≤ 16) && decide (c.Holidays.length ≤ 32) && chgB (-1) c.Changes && holB (-1) c.Holidays
theorem loop_gen {α R A V : Type} {l : List α} (S : A → Int → V) {B : (V → Option R) → V → Option R} {F : A → List α → R} (Inv : Nat → A → Prop) (hlen : l.length ≤ 4611686018427387904)
  (hend : ∀ rec a, Inv l.length a → B rec (S a (l.length : Int)) = some (F a []))
  (hstep : ∀ (rec : V → Option R) (a : A) (i : Nat) (x : α) (r : List α), Inv i a → l.drop i = x :: r → l[i]? = some x → i < l.length → wi ((i : Int) + 1) = ((i + 1 : Nat) : Int) → (∀ a, Inv (i + 1) a → rec (S a ((i + 1 : Nat) : Int)) = some (F a r)) → B rec (S a (i : Int)) = some (F a (x :: r))) :
  ∀ {n : Nat} (i : Nat) (a : A), Inv i a → i ≤ l.length → l.length - i < n → loopN B n (S a (i : Int)) = some (F a (l.drop i))
 | 0, _, _, _, _, h => absurd h (Nat.not_lt_zero _)
 | n + 1, i, a, ha, hi, h => by
  unfold loopN
  by_cases he : i = l.length
  ·subst he; rw [hend _ _ ha]; simp
  ·have hlt : i < l.length := by omega
   have hd : l.drop i = l[i] :: l.drop (i + 1) := by rw [List.drop_eq_getElem_cons hlt]
   rw [hd]
   exact hstep _ a i _ _ ha hd (by simp [hlt]) hlt (by rw [wi_id] <;> omega) (fun a ha => loop_gen S Inv hlen hend hstep (i + 1) a ha (by omega) (by omega))
def tarB : Int → List GArticle → Bool
 | k, [] => decide (k ≤ 1)
 | k, a :: r => artB a && tarB (if a.Kind = 6 then k + 1 else k) r
def rateF : Int → List GArticle → Int
 | z, [] => z
 | z, a :: r => rateF (if a.Kind = 6 then a.Price else z) r
def tariffB (t : GTariff) : Bool := nameB t.Name && decide (t.Articles.length ≤ 12) && tarB 0 t.Articles
end Go.Proofs
namespace Go.Proofs
open Go Go.Abs
set_option maxRecDepth 100000
set_option linter.unusedVariables false
def offF (m : Int) : Int → List GChange → Int
 | o, [] => o
 | o, x :: r => offF m (if x.At ≤ m then x.Offset else o) r
def wkF (d : Int) : Int := if Int.tmod (wi (d + 7)) 7 = 5 then 1 else if Int.tmod (wi (d + 7)) 7 = 6 then 2 else 0
def typF (d : Int) : List Int → Int
 | [] => wkF d
 | x :: r => if x = d then 2 else typF d r
theorem typF_range (d : Int) : ∀ l, 0 ≤ typF d l ∧ typF d l ≤ 2
 | [] => by
  unfold typF wkF
  split
  ·omega
  ·split <;> omega
 | x :: r => by
  have := typF_range d r
  unfold typF; split <;> omega
def appB (c : GCalendar) (a : GArticle) (m : Int) : Bool :=
 let w := wi (wi (m + offF m c.Offset c.Changes) + 1440)
 decide (a.From ≤ Int.tmod w 1440) && decide (Int.tmod w 1440 < a.To) && !decide (bAnd .i64 a.Days (shlI .i64 1 (typF (wi (wi (Int.tdiv w 1440) - 1)) c.Holidays)) = 0)
end Go.Proofs
namespace Go.Proofs
open Go Go.Abs
set_option maxRecDepth 100000
set_option linter.unusedVariables false
theorem loop_does {α R A V : Type} {l : List α} (S : A → Int → V) {B : (V → Option R) → V → Option R} {Q : A → List α → R → Prop} (Inv : Nat → A → Prop) (hlen : l.length ≤ 4611686018427387904)
  (hend : ∀ rec a, Inv l.length a → Does (B rec (S a (l.length : Int))) (Q a []))
  (hstep : ∀ (rec : V → Option R) (a : A) (i : Nat) (x : α) (r : List α), Inv i a → l.drop i = x :: r → l[i]? = some x → i < l.length → wi ((i : Int) + 1) = ((i + 1 : Nat) : Int) → (∀ a, Inv (i + 1) a → Does (rec (S a ((i + 1 : Nat) : Int))) (Q a r)) → Does (B rec (S a (i : Int))) (Q a (x :: r))) :
  ∀ {n : Nat} (i : Nat) (a : A), Inv i a → i ≤ l.length → l.length - i < n → Does (loopN B n (S a (i : Int))) (Q a (l.drop i))
 | 0, _, _, _, _, h => absurd h (Nat.not_lt_zero _)
 | n + 1, i, a, ha, hi, h => by
  unfold loopN
  by_cases he : i = l.length
  ·subst he; simpa using hend _ _ ha
  ·have hlt : i < l.length := by omega
   have hd : l.drop i = l[i] :: l.drop (i + 1) := by rw [List.drop_eq_getElem_cons hlt]
   rw [hd]
   exact hstep _ a i _ _ ha hd (by simp [hlt]) hlt (by rw [wi_id] <;> omega) (fun a ha => loop_does S Inv hlen hend hstep (i + 1) a ha (by omega) (by omega))
def capF : Int → List GArticle → Int
 | z, [] => z
 | z, a :: r => capF (if a.Kind = 5 then minI z a.Price else z) r
def taxF (net rate : Int) : Int := wi (Int.tdiv (wi (wi (wi (2 * net) * rate) + 10000)) 20000)
end Go.Proofs
namespace Go.Proofs
open Go Go.Abs
set_option maxRecDepth 100000
set_option linter.unusedVariables false
theorem tarB_all : ∀ {l : List GArticle} {k : Int}, tarB k l = true → ∀ a ∈ l, artB a = true
 | [], _, _, a, ha => by cases ha
 | x :: r, k, h, a, ha => by
  simp only [tarB, Bool.and_eq_true] at h
  rcases List.mem_cons.1 ha with rfl | ha
  ·exact h.1
  ·exact tarB_all h.2 a ha
end Go.Proofs
namespace Go.Proofs
open Go Go.Abs
set_option maxRecDepth 100000
set_option linter.unusedVariables false
theorem r_in (n : Nat) (l : List (List UInt8)) (s : List UInt8) (hn : 1000 ≤ n) (hl : l.length ≤ 900) : Does (g_ref02_In n l s) (fun r => leI 0 r = l.contains s) := by
 unfold g_ref02_In
 have := loop_does (l := l) (fun (_ : Unit) i => i) (B := fun recl1 l1 => g_ref02_In_l1 l s recl1 l1) (Q := fun _ r x => leI 0 x = r.contains s) (fun _ _ => True) (by omega) ?_ ?_ (n := n) 0 () trivial (by omega) (by omega)
 ·exact this
 ·intro rec a _
  simp only [g_ref02_In_l1, lenI, List.length_map, ltI]
  rw [decide_eq_false (by omega), cond_false]
  exact does_some rfl
 ·intro rec a i x r _ hd hx hi hw hr
  simp only [g_ref02_In_l1, lenI, List.length_map, ltI, getI_nat, hx, Option.bind_some, eqS]
  rw [decide_eq_true (by omega), cond_true]
  by_cases h : x = s
  ·subst h
   rw [beq_self_eq_true, cond_true]
   refine does_some ?_
   simp [leI]
  ·rw [show (x == s) = false from by simpa using h, cond_false, hw]
   refine does_mono (hr () trivial) (fun y hy => ?_)
   rw [hy, List.contains_cons, show (s == x) = false from by simpa using fun e => h e.symm, Bool.false_or]
def keyL : List (List UInt8) := ((g_ref02_Kinds 0).getD []) ++ (((g_ref02_Attrs 0).getD []) ++ (((g_ref02_Articles 0).getD []) ++ ((g_ref02_Words 0).getD [])))
theorem cse (b c : Bool) : (bif b then b else c) = (b || c) := by cases b <;> rfl
theorem cst (b c : Bool) : (bif b then true else c) = (b || c) := by cases b <;> rfl
def keyA : List (List UInt8) := [[102, 101, 101, 100, 101, 114], [99, 97, 98, 108, 101], [111, 119, 110, 101, 114], [99, 111, 110, 116, 114, 97, 99, 116], [99, 104, 97, 114, 103, 101, 114], [98, 97, 121], [116, 97, 114, 105, 102, 102], [108, 105, 109, 105, 116], [110, 101, 117, 116, 114, 97, 108], [102, 117, 115, 101], [116, 104, 101, 114, 109, 97, 108], [102, 114, 111, 109], [97, 116], [112, 104, 97, 115, 101, 115], [97, 109, 112, 115], [102, 97, 108, 108, 98, 97, 99, 107], [99, 97, 114, 100], [114, 97, 110, 107], [115, 116, 97, 114, 116], [101, 110, 101, 114, 103, 121], [116, 105, 109, 101], [105, 100, 108, 101], [99, 97, 112], [116, 97, 120], [111, 110], [119, 111, 114, 107], [115, 97, 116, 117, 114, 100, 97, 121], [115, 117, 110, 100, 97, 121], [98, 101, 116, 119, 101, 101, 110], [112, 101, 114], [102, 114, 101, 101]]
theorem keyB_any (s : List UInt8) : keyB s = keyA.contains s := by
 unfold keyB g_a_isKey keyA
 simp only [cond_some, Option.bind_some, Option.getD_some, cse, cst, eqS, List.contains_cons, List.contains_nil, Bool.or_assoc, Bool.or_false]
theorem keyB_mem (s : List UInt8) : keyB s = keyL.contains s := by
 rw [keyB_any, Bool.eq_iff_iff, List.contains_iff_mem, List.contains_iff_mem]
 have h1 : ∀ x ∈ keyA, x ∈ keyL := by decide
 have h2 : ∀ x ∈ keyL, x ∈ keyA := by decide
 exact ⟨h1 s, h2 s⟩
theorem r_namej (n : Nat) (s : List UInt8) (hn : 1000 ≤ n) : g_ref02_Name_j1 n s = some (decide (1 ≤ s.length ∧ s.length ≤ 12) && !keyB s) := by
 unfold g_ref02_Name_j1 g_ref02_Kinds g_ref02_Attrs g_ref02_Articles g_ref02_Words
 simp only [Option.bind_some]
 rw [keyB_mem]
 unfold keyL g_ref02_Kinds g_ref02_Attrs g_ref02_Articles g_ref02_Words
 simp only [Option.getD_some]
 have e := fun (l : List (List UInt8)) (hl : l.length ≤ 900) => r_in n l s hn hl
 obtain ⟨r1, e1, h1⟩ := e [[102, 101, 101, 100, 101, 114], [99, 97, 98, 108, 101], [111, 119, 110, 101, 114], [99, 111, 110, 116, 114, 97, 99, 116], [99, 104, 97, 114, 103, 101, 114], [98, 97, 121], [116, 97, 114, 105, 102, 102]] (by decide)
 obtain ⟨r2, e2, h2⟩ := e [[108, 105, 109, 105, 116], [110, 101, 117, 116, 114, 97, 108], [102, 117, 115, 101], [116, 104, 101, 114, 109, 97, 108], [102, 114, 111, 109], [97, 116], [112, 104, 97, 115, 101, 115], [97, 109, 112, 115], [102, 97, 108, 108, 98, 97, 99, 107], [111, 119, 110, 101, 114], [99, 97, 114, 100], [114, 97, 110, 107], [99, 104, 97, 114, 103, 101, 114]] (by decide)
 obtain ⟨r3, e3, h3⟩ := e [[115, 116, 97, 114, 116], [101, 110, 101, 114, 103, 121], [116, 105, 109, 101], [105, 100, 108, 101], [99, 97, 112], [116, 97, 120]] (by decide)
 obtain ⟨r4, e4, h4⟩ := e [[111, 110], [119, 111, 114, 107], [115, 97, 116, 117, 114, 100, 97, 121], [115, 117, 110, 100, 97, 121], [98, 101, 116, 119, 101, 101, 110], [112, 101, 114], [102, 114, 101, 101]] (by decide)
 rw [e1, Option.bind_some, e2, Option.bind_some, e3, Option.bind_some, e4, Option.bind_some, h1, h2, h3, h4]
 have ha : ∀ (a b : List (List UInt8)), (a ++ b).contains s = (a.contains s || b.contains s) := by intro a b; simp
 rw [ha, ha, ha]
 simp only [cond_some, Option.bind_some, leI, lenI, cst]
 generalize ((_ : Bool) || _) = k
 by_cases c1 : 1 ≤ s.length
 ·by_cases c2 : s.length ≤ 12
  ·rw [decide_eq_true (show (1 : Int) ≤ s.length by omega), decide_eq_true (show (s.length : Int) ≤ 12 by omega), decide_eq_true (show 1 ≤ s.length ∧ s.length ≤ 12 from ⟨c1, c2⟩)]; rfl
  ·rw [decide_eq_true (show (1 : Int) ≤ s.length by omega), decide_eq_false (show ¬ (s.length : Int) ≤ 12 by omega), decide_eq_false (show ¬ (1 ≤ s.length ∧ s.length ≤ 12) from fun h => c2 h.2)]; rfl
 ·rw [decide_eq_false (show ¬ (1 : Int) ≤ s.length by omega), decide_eq_false (show ¬ (1 ≤ s.length ∧ s.length ≤ 12) from fun h => c1 h.1)]; rfl
theorem chr_ref (c : Int) (z : Bool) : (bif decide (c < 97) then bif z then true else bif decide (c < 48) then !decide (c = 95) else bif decide (57 < c) then !decide (c = 95) else false
  else bif decide (122 < c) then bif z then true else bif decide (c < 48) then !decide (c = 95) else bif decide (57 < c) then !decide (c = 95) else false else false) = !(bif z then decide (97 ≤ c ∧ c ≤ 122) else decide ((97 ≤ c ∧ c ≤ 122) ∨ (48 ≤ c ∧ c ≤ 57) ∨ c = 95)) := by
 cases z <;> by_cases h1 : c < 97 <;> by_cases h2 : 122 < c <;> by_cases h3 : c < 48 <;> by_cases h4 : 57 < c <;> by_cases h5 : c = 95 <;> simp [h1, h2, h3, h4, h5] <;> omega
theorem r_name (n : Nat) (s : List UInt8) (hn : 1000 ≤ n) (hl : s.length ≤ 900) : g_ref02_Name n s = some (nameB s) := by
 unfold g_ref02_Name
 have h1 : ∀ (rec : Int → Option Bool) (a : Unit), (1 ≤ s.length ∨ s.length = 0) → g_ref02_Name_l16 n s rec (s.length : Int) = some (([] : List UInt8).all chrB && (decide (1 ≤ s.length ∧ s.length ≤ 12) && !keyB s)) := by
  intro rec a ha
  simp only [g_ref02_Name_l16, lenI, ltI]
  rw [decide_eq_false (by omega), cond_false, r_namej n s hn]
  rfl
 have h2 : ∀ (rec : Int → Option Bool) (a : Unit) (i : Nat) (x : UInt8) (r : List UInt8), (1 ≤ i ∨ s.length = 0) → s.drop i = x :: r → s[i]? = some x → i < s.length → wi ((i : Int) + 1) = ((i + 1 : Nat) : Int) →
   (∀ a : Unit, (1 ≤ i + 1 ∨ s.length = 0) → rec ((i + 1 : Nat) : Int) = some (r.all chrB && (decide (1 ≤ s.length ∧ s.length ≤ 12) && !keyB s))) → g_ref02_Name_l16 n s rec (i : Int) = some ((x :: r).all chrB && (decide (1 ≤ s.length ∧ s.length ≤ 12) && !keyB s)) := by
  intro rec a i x r ha hd hx hi hw hr
  simp only [g_ref02_Name_l16, lenI, ltI, getI_nat, hx, Option.bind_some, hw, cond_some, eqI_d, chr_ref]
  rw [decide_eq_true (by omega), cond_true, decide_eq_false (show ¬ (i : Int) = 0 by omega), cond_false, hr () (Or.inl (by omega)), List.all_cons]
  show (bif !chrB x then some false else _) = _
  cases chrB x <;> rfl
 cases s with
 | nil =>
  have := loop_gen (l := []) (fun (_ : Unit) i => i) (F := fun _ r => r.all chrB && (decide (1 ≤ ([] : List UInt8).length ∧ ([] : List UInt8).length ≤ 12) && !keyB [])) (fun i _ => 1 ≤ i ∨ ([] : List UInt8).length = 0) (by simp) h1 h2 (n := n) 0 () (Or.inr rfl) (by simp) (by simp; omega)
  rw [show ((0 : Nat) : Int) = 0 from rfl] at this
  rw [this]; rfl
 | cons x r =>
  obtain ⟨m, rfl⟩ : ∃ m, n = m + 1 := ⟨n - 1, by omega⟩
  have hs := loop_gen (l := x :: r) (fun (_ : Unit) i => i) (F := fun _ q => q.all chrB && (decide (1 ≤ (x :: r).length ∧ (x :: r).length ≤ 12) && !keyB (x :: r))) (fun i _ => 1 ≤ i ∨ (x :: r).length = 0) (by omega) h1 h2 (n := m) 1 () (Or.inl (Nat.le_refl _)) (by simp) (by simp at hl ⊢; omega)
  rw [show ((1 : Nat) : Int) = 1 from rfl] at hs
  unfold loopN
  show g_ref02_Name_l16 (m + 1) (x :: r) (loopN (g_ref02_Name_l16 (m + 1) (x :: r)) m) 0 = _
  generalize loopN (g_ref02_Name_l16 (m + 1) (x :: r)) m = L at hs ⊢
  unfold g_ref02_Name_l16
  rw [show getI (x :: r) 0 = some x from rfl]
  simp only [lenI, ltI, Option.bind_some, cond_some, eqI_d, chr_ref, show wi (0 + 1) = 1 from rfl]
  rw [hs, decide_eq_true (show (0 : Int) < ((x :: r).length : Nat) by simp), cond_true, decide_true, cond_true]
  unfold nameB
  simp only [List.head?_cons, Option.mem_def, Option.some.injEq, forall_eq', List.drop_succ_cons, List.drop_zero, List.all_cons]
  by_cases hx : 97 ≤ b2i x ∧ b2i x ≤ 122
  ·rw [decide_eq_true hx]
   have : chrB x = true := by unfold chrB; rw [decide_eq_true]; exact Or.inl hx
   rw [this]
   cases decide (1 ≤ (x :: r).length ∧ (x :: r).length ≤ 12) <;> cases keyB (x :: r) <;> cases r.all chrB <;> rfl
  ·rw [decide_eq_false hx]
   cases decide (1 ≤ (x :: r).length ∧ (x :: r).length ≤ 12) <;> rfl
theorem r_article (n : Nat) (a : GArticle) : g_ref32_Article n a = some (artB a) := by
 unfold g_ref32_Article artB g_a_validArticle
 simp only [a_inside, cond_some, Option.bind_some, Option.getD_some, eqI_d, ltI, leI]
 rw [Option.some.injEq, Bool.eq_iff_iff]
 obtain ⟨k, d, f, t, p, u, v⟩ := a
 simp only [Bool.cond_eq_ite]
 by_cases k1 : k = 1
 ·subst k1; simp; omega
 by_cases k2 : k = 2
 ·subst k2; simp; omega
 by_cases k3 : k = 3
 ·subst k3; simp; omega
 by_cases k4 : k = 4
 ·subst k4; simp; omega
 by_cases k5 : k = 5
 ·subst k5; simp; omega
 by_cases k6 : k = 6
 ·subst k6; simp; omega
 simp [k1, k2, k3, k4, k5, k6]
 omega
theorem r_tariff (n : Nat) (t : GTariff) (hn : 1000 ≤ n) (h1 : t.Name.length ≤ 900) : g_ref32_Valid n t = some (tariffB t) := by
 unfold g_ref32_Valid tariffB
 simp only [r_name n _ hn h1, Option.bind_some, cond_some, lenI, List.length_map, ltI]
 cases hname : nameB t.Name
 ·rfl
 by_cases h2 : t.Articles.length ≤ 12
 rotate_left
 ·rw [decide_eq_true (show (12 : Int) < t.Articles.length by omega), decide_eq_false h2]; rfl
 rw [decide_eq_false (show ¬ (12 : Int) < t.Articles.length by omega), decide_eq_true h2]
 simp only [Bool.not_true, cond_false, Bool.true_and]
 have := loop_gen (l := t.Articles) (fun (a : Int) i => (a, i)) (B := fun recl4 (v : Int × Int) => g_ref32_Valid_l4 n t recl4 v.1 v.2) (F := tarB) (fun i a => 0 ≤ a ∧ a ≤ i) (by omega) ?_ ?_ (n := n) 0 0 (by omega) (by omega) (by omega)
 ·exact this
 ·intro rec a ha
  simp only [g_ref32_Valid_l4, lenI, List.length_map, ltI, leI]
  rw [decide_eq_false (by omega), cond_false]
  rfl
 ·intro rec a i x r ha hd hx hi hw hr
  simp only [g_ref32_Valid_l4, lenI, List.length_map, ltI, getI_nat, hx, Option.bind_some, r_article, hw, eqI_d]
  rw [decide_eq_true (by omega), cond_true, tarB]
  cases hb : artB x
  ·rfl
  ·have hw2 : wi (a + 1) = a + 1 := wi_id (by omega) (by omega)
   simp only [Bool.not_true, cond_false, Bool.true_and]
   by_cases h6 : x.Kind = 6
   ·rw [decide_eq_true h6, cond_true, if_pos h6, hw2, hr _ (by omega)]
   ·rw [decide_eq_false h6, cond_false, if_neg h6, hr _ (by omega)]
theorem r_off (n : Nat) (x : Int) : g_ref26_offset n x = some (decide (-1440 ≤ x ∧ x ≤ 1440)) := by
 unfold g_ref26_offset
 by_cases h : -1440 ≤ x <;> simp [leI, h]
theorem r_cal5 (n : Nat) (c : GCalendar) (hn : 1000 ≤ n) (hl : c.Holidays.length ≤ 900) : g_ref26_Valid_j5 n c = some (holB (-1) c.Holidays) := by
 unfold g_ref26_Valid_j5
 have := loop_gen (l := c.Holidays) (fun (_ : Int) i => i) (B := fun recl6 l6 => g_ref26_Valid_l6 c recl6 l6) (F := holB) (fun i a => -1 ≤ a ∧ (i = 0 → a = -1) ∧ (i ≠ 0 → c.Holidays[i - 1]? = some a)) (by omega) ?_ ?_ (n := n) 0 (-1) (by simp) (by omega) (by omega)
 ·exact this
 ·intro rec a ha
  simp only [g_ref26_Valid_l6, lenI, List.length_map, ltI]
  rw [decide_eq_false (by omega), cond_false]
  rfl
 ·intro rec a i x r ha hd hx hi hw hr
  simp only [g_ref26_Valid_l6, lenI, List.length_map, ltI, leI, getI_nat, hx, Option.bind_some, hw]
  rw [decide_eq_true (by omega), cond_true, holB]
  by_cases c1 : x < 0
  ·rw [decide_eq_true c1]
   simp only [cond_true, Option.bind_some]
   rw [decide_eq_false (show ¬ (a < x ∧ x ≤ 36500) by omega)]; rfl
  rw [decide_eq_false c1, cond_false]
  by_cases c2 : 36500 < x
  ·rw [decide_eq_true c2]
   simp only [cond_true, Option.bind_some]
   rw [decide_eq_false (show ¬ (a < x ∧ x ≤ 36500) by omega)]; rfl
  rw [decide_eq_false c2, cond_false]
  have hrr := hr x ⟨by omega, by omega, fun _ => by simpa using hx⟩
  by_cases c3 : i = 0
  ·rw [decide_eq_false (show ¬ (0 : Int) < i by omega)]
   simp only [cond_false, Option.bind_some]
   rw [hrr, decide_eq_true (show a < x ∧ x ≤ 36500 by have := ha.2.1 c3; omega)]; rfl
  ·rw [decide_eq_true (show (0 : Int) < i by omega), cond_true, show wi ((i : Int) - 1) = ((i - 1 : Nat) : Int) from by rw [wi_id] <;> omega, getI_nat, ha.2.2 c3]
   simp only [Option.bind_some]
   by_cases c4 : x ≤ a
   ·rw [decide_eq_true c4, cond_true, decide_eq_false (show ¬ (a < x ∧ x ≤ 36500) by omega)]; rfl
   ·rw [decide_eq_false c4, cond_false, hrr, decide_eq_true (show a < x ∧ x ≤ 36500 by omega)]; rfl
theorem r_cal (n : Nat) (c : GCalendar) (hn : 1000 ≤ n) (h1 : c.Changes.length ≤ 900) (h2 : c.Holidays.length ≤ 900) : g_ref26_Valid n c = some (calB c) := by
 have key : loopN (fun recl13 l13 => g_ref26_Valid_l13 n c recl13 l13) n 0 = some (chgB (-1) c.Changes && holB (-1) c.Holidays) := by
  have := loop_gen (l := c.Changes) (fun (_ : Int) i => i) (B := fun recl13 l13 => g_ref26_Valid_l13 n c recl13 l13) (F := fun a r => chgB a r && holB (-1) c.Holidays) (fun i a => -1 ≤ a ∧ (i = 0 → a = -1) ∧ (i ≠ 0 → ∃ x, c.Changes[i - 1]? = some x ∧ x.At = a)) (by omega) ?_ ?_ (n := n) 0 (-1) (by simp) (by omega) (by omega)
  ·exact this
  ·intro rec a ha
   simp only [g_ref26_Valid_l13, lenI, List.length_map, ltI]
   rw [decide_eq_false (by omega), cond_false, r_cal5 n c hn h2]
   rfl
  ·intro rec a i x r ha hd hx hi hw hr
   simp only [g_ref26_Valid_l13, lenI, List.length_map, ltI, leI, getI_nat, hx, Option.bind_some, hw, r_off]
   rw [decide_eq_true (by omega), cond_true, chgB]
   by_cases c0 : -1440 ≤ x.Offset ∧ x.Offset ≤ 1440
   rotate_left
   ·rw [decide_eq_false c0]
    simp only [Bool.not_false, cond_true, Option.bind_some]
    rw [decide_eq_false (show ¬ (a < x.At ∧ x.At ≤ 52560000 ∧ -1440 ≤ x.Offset ∧ x.Offset ≤ 1440) by omega)]; rfl
   rw [decide_eq_true c0, Bool.not_true, cond_false]
   by_cases c1 : x.At < 0
   ·rw [decide_eq_true c1]
    simp only [cond_true, Option.bind_some]
    rw [decide_eq_false (show ¬ (a < x.At ∧ x.At ≤ 52560000 ∧ -1440 ≤ x.Offset ∧ x.Offset ≤ 1440) by omega)]; rfl
   rw [decide_eq_false c1, cond_false]
   by_cases c2 : 52560000 < x.At
   ·rw [decide_eq_true c2]
    simp only [cond_true, Option.bind_some]
    rw [decide_eq_false (show ¬ (a < x.At ∧ x.At ≤ 52560000 ∧ -1440 ≤ x.Offset ∧ x.Offset ≤ 1440) by omega)]; rfl
   rw [decide_eq_false c2, cond_false]
   have hrr := hr x.At ⟨by omega, by omega, fun _ => ⟨x, by simpa using hx, rfl⟩⟩
   by_cases c3 : i = 0
   ·rw [decide_eq_false (show ¬ (0 : Int) < i by omega)]
    simp only [cond_false, Option.bind_some]
    rw [hrr, decide_eq_true (show a < x.At ∧ x.At ≤ 52560000 ∧ -1440 ≤ x.Offset ∧ x.Offset ≤ 1440 by have := ha.2.1 c3; omega)]; rfl
   ·obtain ⟨y, hy, hya⟩ := ha.2.2 c3
    rw [decide_eq_true (show (0 : Int) < i by omega), cond_true, show wi ((i : Int) - 1) = ((i - 1 : Nat) : Int) from by rw [wi_id] <;> omega, getI_nat, hy]
    simp only [Option.bind_some, hya]
    by_cases c4 : x.At ≤ a
    ·rw [decide_eq_true c4, cond_true, decide_eq_false (show ¬ (a < x.At ∧ x.At ≤ 52560000 ∧ -1440 ≤ x.Offset ∧ x.Offset ≤ 1440) by omega)]; rfl
    ·rw [decide_eq_false c4, cond_false, hrr, decide_eq_true (show a < x.At ∧ x.At ≤ 52560000 ∧ -1440 ≤ x.Offset ∧ x.Offset ≤ 1440 by omega)]; rfl
 unfold g_ref26_Valid calB
 rw [key]
 simp only [r_off, Option.bind_some, cond_some, lenI, List.length_map, ltI]
 by_cases c0 : -1440 ≤ c.Offset ∧ c.Offset ≤ 1440
 rotate_left
 ·rw [decide_eq_false c0]; rfl
 rw [decide_eq_true c0]
 by_cases c1 : c.Changes.length ≤ 16
 rotate_left
 ·rw [decide_eq_true (show (16 : Int) < c.Changes.length by omega), decide_eq_false c1]; rfl
 rw [decide_eq_false (show ¬ (16 : Int) < c.Changes.length by omega), decide_eq_true c1]
 by_cases c2 : c.Holidays.length ≤ 32
 rotate_left
 ·rw [decide_eq_true (show (32 : Int) < c.Holidays.length by omega), decide_eq_false c2]; rfl
 rw [decide_eq_false (show ¬ (32 : Int) < c.Holidays.length by omega), decide_eq_true c2]
 rfl
end Go.Proofs
namespace Go.Proofs
open Go Go.Abs
set_option maxRecDepth 100000
set_option linter.unusedVariables false
structure Art (a : GArticle) : Prop where
 days : 1 ≤ a.Days ∧ a.Days ≤ 7
 from_ : 0 ≤ a.From ∧ a.From ≤ 1439
 to_ : a.From < a.To ∧ a.To ≤ 1440
 price : 0 ≤ a.Price ∧ a.Price ≤ 1000000
 kind : 1 ≤ a.Kind ∧ a.Kind ≤ 6
 unit : a.Kind = 3 ∨ a.Kind = 4 → 1 ≤ a.Unit ∧ a.Unit ≤ 1440 ∧ 0 ≤ a.Free ∧ a.Free ≤ 1440
 rate : a.Kind = 6 → a.Price ≤ 10000
theorem artB_art {a : GArticle} (h : artB a = true) : Art a := by
 unfold artB g_a_validArticle at h
 simp only [a_inside, cond_some, Option.bind_some, Option.getD_some, eqI_d, ltI, leI] at h
 obtain ⟨k, d, f, t, p, u, v⟩ := a
 simp only [Bool.cond_eq_ite] at h
 by_cases k1 : k = 1
 ·subst k1; simp at h; constructor <;> simp <;> omega
 by_cases k2 : k = 2
 ·subst k2; simp at h; constructor <;> simp <;> omega
 by_cases k3 : k = 3
 ·subst k3; simp at h; constructor <;> simp <;> omega
 by_cases k4 : k = 4
 ·subst k4; simp at h; constructor <;> simp <;> omega
 by_cases k5 : k = 5
 ·subst k5; simp at h; constructor <;> simp <;> omega
 by_cases k6 : k = 6
 ·subst k6; simp at h; constructor <;> simp <;> omega
 exfalso
 simp [k3, k4, k5, k6] at h
 omega
theorem offF_range (m : Int) : ∀ (l : List GChange) (p o : Int), chgB p l = true → (-1440 ≤ o ∧ o ≤ 1440) → -1440 ≤ offF m o l ∧ offF m o l ≤ 1440
 | [], _, o, _, h => h
 | x :: r, p, o, hc, h => by
  simp only [chgB, Bool.and_eq_true, decide_eq_true_eq] at hc
  unfold offF
  refine offF_range m r x.At _ hc.2 ?_
  split
  ·exact ⟨hc.1.2.2.1, hc.1.2.2.2⟩
  ·exact h
theorem cal_off {c : GCalendar} (m : Int) (h : calB c = true) : -1440 ≤ offF m c.Offset c.Changes ∧ offF m c.Offset c.Changes ≤ 1440 := by
 simp only [calB, Bool.and_eq_true, decide_eq_true_eq] at h
 exact offF_range m _ _ _ h.1.2 h.1.1.1.1
theorem r_offset (n : Nat) (c : GCalendar) (m : Int) (hn : 1000 ≤ n) (hl : c.Changes.length ≤ 900) : g_ref26_Offset n c m = some (offF m c.Offset c.Changes) := by
 unfold g_ref26_Offset
 have := loop_acc (l := c.Changes) (B := fun recl1 (v : Int × Int) => g_ref26_Offset_l1 c m recl1 v.1 v.2) (F := offF m) (by omega) ?_ ?_ (n := n) 0 c.Offset (by omega) (by omega)
 ·exact this
 ·intro rec a; simp [g_ref26_Offset_l1, ltI, lenI, offF]
 ·intro rec a i x r hd hx hi hw hr
  simp only [g_ref26_Offset_l1, lenI, List.length_map, getI_nat, hx, Option.bind_some, hw, hr, ltI, leI, offF]
  rw [decide_eq_true (by omega), cond_true]
  by_cases h : x.At ≤ m <;> simp [h]
theorem r_type (n : Nat) (c : GCalendar) (d : Int) (hn : 1000 ≤ n) (h1 : c.Changes.length ≤ 900) (h2 : c.Holidays.length ≤ 900) (hc : calB c = true) (hd : -1 ≤ d ∧ d ≤ 36501) : g_ref26_Type n c d = some (typF d c.Holidays, 0) := by
 unfold g_ref26_Type
 rw [r_cal n c hn h1 h2, hc]
 simp only [Option.bind_some, Bool.not_true, cond_false, ltI]
 rw [decide_eq_false (show ¬ d < -1 by omega), cond_false, Option.bind_some, decide_eq_false (show ¬ 36501 < d by omega), cond_false]
 have := loop_list (l := c.Holidays) (B := fun recl6 l6 => g_ref26_Type_l6 c d recl6 l6) (F := fun r => (typF d r, (0 : Int))) (by omega) ?_ ?_ (n := n) 0 (by omega) (by omega)
 ·exact this
 ·intro rec
  simp only [g_ref26_Type_l6, g_ref26_Type_j5, lenI, List.length_map, ltI, eqI_d, typF, wkF]
  rw [decide_eq_false (by omega), cond_false]
  by_cases k1 : Int.tmod (wi (d + 7)) 7 = 5
  ·simp [k1]
  ·by_cases k2 : Int.tmod (wi (d + 7)) 7 = 6 <;> simp [k1, k2]
 ·intro rec i x r hd hx hi hw hr
  simp only [g_ref26_Type_l6, lenI, List.length_map, getI_nat, hx, Option.bind_some, hw, hr, ltI, eqI_d, typF]
  rw [decide_eq_true (by omega), cond_true]
  by_cases h : x = d <;> simp [h]
theorem days_lem (d t : Int) (hd : 1 ≤ d ∧ d ≤ 7) (ht : 0 ≤ t ∧ t ≤ 2) :
  (bif decide (t = 2) then decide (Int.tmod (wi (Int.tdiv d 4)) 2 = 1) else bif decide (t = 1) then decide (Int.tmod (wi (Int.tdiv d 2)) 2 = 1) else decide (Int.tmod d 2 = 1)) = !decide (bAnd .i64 d (shlI .i64 1 t) = 0) := by
 have hd' : d = 1 ∨ d = 2 ∨ d = 3 ∨ d = 4 ∨ d = 5 ∨ d = 6 ∨ d = 7 := by omega
 have ht' : t = 0 ∨ t = 1 ∨ t = 2 := by omega
 rcases hd' with rfl | rfl | rfl | rfl | rfl | rfl | rfl <;> rcases ht' with rfl | rfl | rfl <;> decide
theorem r_applies (n : Nat) (c : GCalendar) (a : GArticle) (m : Int) (hn : 1000 ≤ n) (h1 : c.Changes.length ≤ 900) (h2 : c.Holidays.length ≤ 900) (hc : calB c = true) (ha : artB a = true) (hm : 0 ≤ m ∧ m ≤ 52560000) :
  g_ref32_Applies n a c m = some (appB c a m) := by
 have ho := cal_off m hc
 have hA := artB_art ha
 have hloc : g_ref26_Local n c m = some ((m + offF m c.Offset c.Changes + 1440) / 1440 - 1, (m + offF m c.Offset c.Changes + 1440) % 1440, 0) := by
  unfold g_ref26_Local
  rw [r_cal n c hn h1 h2, hc]
  simp only [Option.bind_some, Bool.not_true, cond_false, ltI]
  rw [decide_eq_false (show ¬ m < 0 by omega), cond_false, Option.bind_some, decide_eq_false (show ¬ 52560000 < m by omega), cond_false, r_offset n c m hn h1, Option.bind_some]
  generalize offF m c.Offset c.Changes = o at ho
  rw [wi_id (x := m + o) (by omega) (by omega)]
  by_cases hneg : m + o < 0
  ·rw [decide_eq_true hneg, cond_true, wi_id (x := m + o - -1440) (by omega) (by omega)]
   congr 2
   ·omega
   ·congr 1
    omega
  ·rw [decide_eq_false hneg, cond_false, Int.tdiv_eq_ediv_of_nonneg (by omega)]
   rw [wi_id (x := (m + o) / 1440) (by omega) (by omega), wi_id (x := 1440 * ((m + o) / 1440)) (by omega) (by omega), wi_id (by omega) (by omega)]
   congr 2
   ·omega
   ·congr 1
    omega
 unfold g_ref32_Applies appB
 rw [r_article, ha, hloc]
 simp only [Option.bind_some, Bool.not_true, cond_false, eqI_d, decide_true]
 generalize offF m c.Offset c.Changes = o at ho
 rw [wi_id (x := m + o) (by omega) (by omega), wi_id (x := m + o + 1440) (by omega) (by omega)]
 rw [Int.tdiv_eq_ediv_of_nonneg (a := m + o + 1440) (by omega), Int.tmod_eq_emod_of_nonneg (a := m + o + 1440) (by omega)]
 rw [wi_id (x := (m + o + 1440) / 1440) (by omega) (by omega), wi_id (x := (m + o + 1440) / 1440 - 1) (by omega) (by omega)]
 rw [r_type n c _ hn h1 h2 hc (by omega)]
 simp only [Option.bind_some, cond_some, leI, ltI]
 rw [days_lem _ _ hA.days (typF_range _ _)]
 generalize decide (bAnd .i64 a.Days (shlI .i64 1 (typF ((m + o + 1440) / 1440 - 1) c.Holidays)) = 0) = b
 generalize decide (a.From ≤ (m + o + 1440) % 1440) = b1
 generalize decide ((m + o + 1440) % 1440 < a.To) = b2
 cases b <;> cases b1 <;> cases b2 <;> rfl
def cN (c : GCalendar) (a : GArticle) : Nat → Int → Int
 | 0, _ => 0
 | k + 1, m => (if appB c a m then 1 else 0) + cN c a k (m + 1)
theorem cN_range (c : GCalendar) (a : GArticle) : ∀ (k : Nat) (m : Int), 0 ≤ cN c a k m ∧ cN c a k m ≤ k
 | 0, _ => by simp [cN]
 | k + 1, m => by
  have := cN_range c a k (m + 1)
  unfold cN
  split <;> omega
def slB (f e : Int) : Int → List GSlice → Bool
 | _, [] => true
 | p, x :: r => decide (f ≤ x.Minute ∧ x.Minute < e ∧ 0 ≤ x.Energy ∧ x.Energy ≤ 10000 ∧ p < x.Minute) && slB f e x.Minute r
def valB (s : GSession) : Bool := decide (0 ≤ s.From ∧ s.From < s.To ∧ s.To ≤ 52560000 ∧ s.To - s.From ≤ 2880 ∧ s.From ≤ s.End ∧ s.End ≤ s.To ∧ s.Slices.length ≤ 48) && slB s.From s.End (s.From - 1) s.Slices
theorem r_session_valid (n : Nat) (s : GSession) (hn : 1000 ≤ n) (hl : s.Slices.length ≤ 900) (hb : i64b s.From) : g_ref33_Valid n s = some (valB s) := by
 unfold i64b at hb
 unfold g_ref33_Valid valB
 simp only [ltI, leI, lenI, List.length_map]
 have key : loopN (fun recl8 l8 => g_ref33_Valid_l8 s recl8 l8) n 0 = some (slB s.From s.End (s.From - 1) s.Slices) := by
  have := loop_gen (l := s.Slices) (fun (_ : Int) i => i) (B := fun recl8 l8 => g_ref33_Valid_l8 s recl8 l8) (F := slB s.From s.End) (fun i a => s.From - 1 ≤ a ∧ (i = 0 → a = s.From - 1) ∧ (i ≠ 0 → ∃ x, s.Slices[i - 1]? = some x ∧ x.Minute = a)) (by omega) ?_ ?_ (n := n) 0 (s.From - 1) (by simp) (by omega) (by omega)
  ·exact this
  ·intro rec a ha
   simp only [g_ref33_Valid_l8, lenI, List.length_map, ltI]
   rw [decide_eq_false (by omega), cond_false]
   rfl
  ·intro rec a i x r ha hd hx hi hw hr
   simp only [g_ref33_Valid_l8, lenI, List.length_map, ltI, leI, getI_nat, hx, Option.bind_some, hw]
   rw [decide_eq_true (by omega), cond_true, slB]
   by_cases c1 : x.Minute < s.From
   ·rw [decide_eq_true c1, cond_true, Option.bind_some, cond_true, decide_eq_false (by omega)]; rfl
   rw [decide_eq_false c1, cond_false]
   by_cases c2 : s.End ≤ x.Minute
   ·rw [decide_eq_true c2, cond_true, Option.bind_some, cond_true, decide_eq_false (by omega)]; rfl
   rw [decide_eq_false c2, cond_false]
   by_cases c3 : x.Energy < 0
   ·rw [decide_eq_true c3, cond_true, Option.bind_some, cond_true, decide_eq_false (by omega)]; rfl
   rw [decide_eq_false c3, cond_false]
   by_cases c4 : 10000 < x.Energy
   ·rw [decide_eq_true c4, cond_true, Option.bind_some, cond_true, decide_eq_false (by omega)]; rfl
   rw [decide_eq_false c4, cond_false]
   have hrr := hr x.Minute ⟨by omega, by omega, fun _ => ⟨x, by simpa using hx, rfl⟩⟩
   by_cases c5 : i = 0
   ·rw [decide_eq_false (show ¬ (0 : Int) < i by omega), cond_false, Option.bind_some, cond_false, hrr, decide_eq_true (show s.From ≤ x.Minute ∧ x.Minute < s.End ∧ 0 ≤ x.Energy ∧ x.Energy ≤ 10000 ∧ a < x.Minute by have := ha.2.1 c5; omega)]; rfl
   ·obtain ⟨y, hy, hya⟩ := ha.2.2 c5
    rw [decide_eq_true (show (0 : Int) < i by omega), cond_true, show wi ((i : Int) - 1) = ((i - 1 : Nat) : Int) from by rw [wi_id] <;> omega, getI_nat, hy]
    simp only [Option.bind_some, hya]
    by_cases c6 : x.Minute ≤ a
    ·rw [decide_eq_true c6, cond_true, decide_eq_false (show ¬ (s.From ≤ x.Minute ∧ x.Minute < s.End ∧ 0 ≤ x.Energy ∧ x.Energy ≤ 10000 ∧ a < x.Minute) by omega)]; rfl
    ·rw [decide_eq_false c6, cond_false, hrr, decide_eq_true (show s.From ≤ x.Minute ∧ x.Minute < s.End ∧ 0 ≤ x.Energy ∧ x.Energy ≤ 10000 ∧ a < x.Minute by omega)]; rfl
 rw [key]
 by_cases c1 : s.From < 0
 ·rw [decide_eq_true c1, cond_true, Option.bind_some, cond_true, decide_eq_false (by omega)]; rfl
 rw [decide_eq_false c1, cond_false]
 by_cases c2 : s.To ≤ s.From
 ·rw [decide_eq_true c2, cond_true, Option.bind_some, cond_true, decide_eq_false (by omega)]; rfl
 rw [decide_eq_false c2, cond_false]
 by_cases c3 : 52560000 < s.To
 ·rw [decide_eq_true c3, cond_true, Option.bind_some, cond_true, decide_eq_false (by omega)]; rfl
 rw [decide_eq_false c3, cond_false, wi_id (x := s.To - s.From) (by omega) (by omega)]
 by_cases c4 : 2880 < s.To - s.From
 ·rw [decide_eq_true c4, cond_true, Option.bind_some, cond_true, decide_eq_false (by omega)]; rfl
 rw [decide_eq_false c4, cond_false]
 by_cases c5 : s.End < s.From
 ·rw [decide_eq_true c5, cond_true, Option.bind_some, cond_true, decide_eq_false (by omega)]; rfl
 rw [decide_eq_false c5, cond_false]
 by_cases c6 : s.To < s.End
 ·rw [decide_eq_true c6, cond_true, Option.bind_some, cond_true, decide_eq_false (by omega)]; rfl
 rw [decide_eq_false c6, cond_false, Option.bind_some]
 by_cases c7 : s.Slices.length ≤ 48
 ·rw [decide_eq_false (show ¬ (48 : Int) < s.Slices.length by omega), cond_false, decide_eq_true (show 0 ≤ s.From ∧ s.From < s.To ∧ s.To ≤ 52560000 ∧ s.To - s.From ≤ 2880 ∧ s.From ≤ s.End ∧ s.End ≤ s.To ∧ s.Slices.length ≤ 48 by omega)]; rfl
 ·rw [decide_eq_true (show (48 : Int) < s.Slices.length by omega), cond_true, decide_eq_false (show ¬ (0 ≤ s.From ∧ s.From < s.To ∧ s.To ≤ 52560000 ∧ s.To - s.From ≤ 2880 ∧ s.From ≤ s.End ∧ s.End ≤ s.To ∧ s.Slices.length ≤ 48) by omega)]; rfl
end Go.Proofs
namespace Go.Proofs
open Go Go.Abs
set_option maxRecDepth 100000
set_option linter.unusedVariables false
theorem slB_mem {f e : Int} : ∀ {l : List GSlice} {p : Int}, slB f e p l = true → ∀ x ∈ l, f ≤ x.Minute ∧ x.Minute < e ∧ 0 ≤ x.Energy ∧ x.Energy ≤ 10000
 | [], _, _, x, hx => by cases hx
 | y :: r, p, h, x, hx => by
  simp only [slB, Bool.and_eq_true, decide_eq_true_eq] at h
  rcases List.mem_cons.1 hx with rfl | hx
  ·omega
  ·exact slB_mem h.2 x hx
theorem r_amount (n : Nat) (x : Int) : g_ref31_amount n x = some (decide (0 ≤ x ∧ x ≤ 1000000000)) := by
 unfold g_ref31_amount
 by_cases h : 0 ≤ x <;> simp [leI, h]
theorem r_checked (n : Nat) (x : Int) (h : 0 ≤ x) : g_ref31_checked n x = some (if x ≤ 1000000000 then (x, 0) else (0, 3)) := by
 unfold g_ref31_checked
 rw [r_amount, Option.bind_some]
 by_cases h1 : x ≤ 1000000000
 ·rw [decide_eq_true ⟨h, h1⟩, if_pos h1]; rfl
 ·rw [decide_eq_false (fun h => h1 h.2), if_neg h1]; rfl
theorem mul_bound {x y X Y : Int} (hx : 0 ≤ x ∧ x ≤ X) (hy : 0 ≤ y ∧ y ≤ Y) : 0 ≤ x * y ∧ x * y ≤ X * Y :=
 ⟨Int.mul_nonneg hx.1 hy.1, Int.mul_le_mul hx.2 hy.2 hy.1 (Int.le_trans hx.1 hx.2)⟩
end Go.Proofs
namespace Go.Proofs
open Go Go.Abs
set_option maxRecDepth 100000
set_option linter.unusedVariables false
theorem rateF_range : ∀ (l : List GArticle) (z : Int), (∀ a ∈ l, 0 ≤ a.Price ∧ (a.Kind = 6 → a.Price ≤ 10000)) → (0 ≤ z ∧ z ≤ 10000) → 0 ≤ rateF z l ∧ rateF z l ≤ 10000
 | [], z, _, hz => hz
 | a :: r, z, h, hz => by
  have ha := h a List.mem_cons_self
  unfold rateF
  refine rateF_range r _ (fun x hx => h x (List.mem_cons_of_mem _ hx)) ?_
  split
  ·rename_i h6
   exact ⟨ha.1, ha.2 h6⟩
  ·exact hz
theorem r_tax (n : Nat) (net rate : Int) (hn : 0 ≤ net ∧ net ≤ 1000000000) (hr : 0 ≤ rate ∧ rate ≤ 10000) : g_ref31_Tax n net rate = some (taxF net rate, 0) ∧ 0 ≤ taxF net rate ∧ taxF net rate ≤ net + 1 := by
 have hb := mul_bound hn hr
 have hb2 : net * rate ≤ net * 10000 := Int.mul_le_mul_of_nonneg_left hr.2 hn.1
 have e1 : wi (net * rate) = net * rate := wi_id (by omega) (by omega)
 have e2 : wi (2 * net) = 2 * net := wi_id (by omega) (by omega)
 have e3 : 2 * net * rate = 2 * (net * rate) := Int.mul_assoc ..
 have e4 : wi (2 * (net * rate)) = 2 * (net * rate) := wi_id (by omega) (by omega)
 have e5 : wi (2 * (net * rate) + 10000) = 2 * (net * rate) + 10000 := wi_id (by omega) (by omega)
 have e6 : Int.tdiv (2 * (net * rate) + 10000) 20000 = (2 * (net * rate) + 10000) / 20000 := Int.tdiv_eq_ediv_of_nonneg (by omega)
 have e7 : wi ((2 * (net * rate) + 10000) / 20000) = (2 * (net * rate) + 10000) / 20000 := wi_id (by omega) (by omega)
 unfold taxF
 rw [e2, e3, e4, e5, e6, e7]
 refine ⟨?_, by omega, by omega⟩
 unfold g_ref31_Tax g_ref31_divided
 simp only [r_amount, Option.bind_some, ltI]
 rw [decide_eq_true (show 0 ≤ net ∧ net ≤ 1000000000 by omega), Bool.not_true, cond_false, decide_eq_false (show ¬ rate < 0 by omega), cond_false, Option.bind_some, decide_eq_false (show ¬ 100000 < rate by omega), cond_false]
 rw [show wi (2 * 10000) = 20000 from rfl, show (!eqI 20000 0) = true from rfl, cond_true, Option.bind_some, e1, e4, e5, e6, e7, r_checked n _ (by omega), Option.bind_some, if_pos (by omega)]
end Go.Proofs
namespace Go.Proofs
open Go Go.Abs
set_option maxRecDepth 100000
set_option linter.unusedVariables false
theorem b_goodWord (n : Nat) (s : List UInt8) (hn : 1000 ≤ n) : g_parser_goodWord n s = some (decide (1 ≤ s.length ∧ s.length ≤ 12) && decide (∀ x ∈ s.head?, 97 ≤ b2i x ∧ b2i x ≤ 122) && s.all chrB) := by
 unfold g_parser_goodWord
 simp only [lenI, ltI]
 cases s with
 | nil => simp
 | cons x r =>
  rw [decide_eq_false (show ¬ (((x :: r).length : Nat) : Int) < 1 by simp only [List.length_cons]; omega), cond_false]
  by_cases hl : (x :: r).length ≤ 12
  rotate_left
  ·rw [decide_eq_true (show (12 : Int) < (((x :: r).length : Nat) : Int) by omega), decide_eq_false (show ¬ (1 ≤ (x :: r).length ∧ (x :: r).length ≤ 12) by omega)]; rfl
  rw [decide_eq_false (show ¬ (12 : Int) < (((x :: r).length : Nat) : Int) by omega), cond_false, decide_eq_true (show 1 ≤ (x :: r).length ∧ (x :: r).length ≤ 12 by simp only [List.length_cons] at hl ⊢; omega)]
  rw [show getI (x :: r) 0 = some x from rfl]
  have hloop : loopN (fun recl7 l7 => g_parser_goodWord_l7 (x :: r) recl7 l7) n 1 = some (r.all chrB) := by
   have := loop_list (l := x :: r) (B := fun recl7 l7 => g_parser_goodWord_l7 (x :: r) recl7 l7) (F := fun r => r.all chrB) (by omega) ?_ ?_ (n := n) 1 (by simp) (by omega)
   ·simpa using this
   ·intro rec; simp [g_parser_goodWord_l7, ltI, lenI]
   ·intro rec i y q hd hx hi hw hr
    unfold g_parser_goodWord_l7
    simp only [lenI, getI_nat, hx, Option.bind_some, hw, hr, ltI, leI, eqI, cond_some]
    rw [decide_eq_true (by omega), cond_true, List.all_cons]
    rw [chr_lem, chrB]
    cases decide ((97 ≤ b2i y ∧ b2i y ≤ 122) ∨ (48 ≤ b2i y ∧ b2i y ≤ 57) ∨ b2i y = 95) <;> simp
  rw [hloop]
  simp only [Option.bind_some, cond_some, List.head?_cons, Option.mem_def, Option.some.injEq, forall_eq', Bool.true_and, List.all_cons]
  by_cases h1 : b2i x < 97
  ·rw [decide_eq_true h1, decide_eq_false (show ¬ (97 ≤ b2i x ∧ b2i x ≤ 122) by omega)]; rfl
  ·rw [decide_eq_false h1, cond_false]
   by_cases h2 : 122 < b2i x
   ·rw [decide_eq_true h2, decide_eq_false (show ¬ (97 ≤ b2i x ∧ b2i x ≤ 122) by omega)]; rfl
   ·have h3 : 97 ≤ b2i x ∧ b2i x ≤ 122 := by omega
    have h4 : chrB x = true := by unfold chrB; rw [decide_eq_true]; exact Or.inl h3
    rw [decide_eq_false h2, decide_eq_true h3, h4]; rfl
theorem cnz (b : Bool) (k r : Int) (hk : k ≠ 0) : (!eqI (bif b then k else r) 0) = (b || !eqI r 0) := by
 cases b
 ·rfl
 ·simp [eqI, hk]
theorem b_isKey (n : Nat) (s : List UInt8) : g_parser_isKey n s = some (keyB s) := by
 unfold g_parser_isKey g_parser_kindOf g_parser_isAttr g_parser_isArticle g_parser_isWord
 rw [keyB_mem]
 simp only [cond_some, Option.bind_some, cse, cst, keyL, g_ref02_Kinds, g_ref02_Attrs, g_ref02_Articles, g_ref02_Words, Option.getD_some, List.cons_append, List.nil_append, List.contains_cons, List.contains_nil, Bool.or_false, eqS]
 rw [cnz _ 1 _ (by decide), cnz _ 2 _ (by decide), cnz _ 3 _ (by decide), cnz _ 4 _ (by decide), cnz _ 5 _ (by decide), cnz _ 6 _ (by decide), cnz _ 7 _ (by decide), show (!eqI 0 0) = false from rfl]
 simp only [Bool.or_assoc, Bool.or_false]
theorem b_goodName (n : Nat) (s : List UInt8) (hn : 1000 ≤ n) : g_parser_goodName n s = some (nameB s) := by
 unfold g_parser_goodName nameB
 rw [b_goodWord n s hn, Option.bind_some, b_isKey, Option.bind_some, cond_some]
 generalize decide (1 ≤ s.length ∧ s.length ≤ 12) = a
 generalize decide (∀ x ∈ s.head?, 97 ≤ b2i x ∧ b2i x ≤ 122) = b
 generalize s.all chrB = c
 generalize keyB s = d
 cases a <;> cases b <;> cases c <;> cases d <;> rfl
theorem of_cs' (k : Int) (s : List UInt8) (m t : Int) (l : List (List PV)) : GNode.of (GNode.cs ⟨k, s, m, t, l⟩) = some ⟨k, s, m, t, l⟩ := by
 unfold GNode.cs GNode.of
 simp only [map_idc, byt_mkS, if_true]
theorem b_parser (n : Nat) (s : List UInt8) (hn : 1000 ≤ n) : g_parser_Valid n (⟨1, [], 0, 0, [GNode.cs (⟨2, s, 3, 0, []⟩ : GNode)]⟩ : GNode) = some (nameB s) := by
 obtain ⟨m, rfl⟩ : ∃ m, n = m + 2 := ⟨n - 2, by omega⟩
 have hitem : g_parser_validItem (m + 2) (⟨2, s, 3, 0, []⟩ : GNode) 1498 = some (nameB s, 1498) := by
  unfold g_parser_validItem
  rw [b_goodName (m + 2) s hn]
  simp only [show (!eqI 2 2) = false from rfl, show ltI 3 1 = false from rfl, show ltI 7 3 = false from rfl, cond_false, Option.bind_some]
  cases nameB s
  ·rfl
  ·unfold loopN; rfl
 unfold g_parser_Valid
 have e1 : ((bif !eqI 1 1 then some true else bif !eqS [] [] then some true else bif !eqI 0 0 then some true else some (ltI (wi (1499 - lenI (List.map idc [GNode.cs (⟨2, s, 3, 0, []⟩ : GNode)]))) 0))) = some false := rfl
 have e2 : wi (1499 - lenI (List.map idc [GNode.cs (⟨2, s, 3, 0, []⟩ : GNode)])) = 1498 := rfl
 simp only
 rw [e1, Option.bind_some, cond_false, e2]
 unfold loopN
 simp only [g_parser_Valid_l5]
 rw [show ltI 0 (lenI (List.map idc [GNode.cs (⟨2, s, 3, 0, []⟩ : GNode)])) = true from rfl, cond_true, show getI [GNode.cs (⟨2, s, 3, 0, []⟩ : GNode)] 0 = some (GNode.cs (⟨2, s, 3, 0, []⟩ : GNode)) from rfl, Option.bind_some, of_cs', Option.bind_some, hitem, Option.bind_some]
 cases nameB s
 ·rfl
 ·unfold loopN; rfl
theorem b_inside (n : Nat) (x a b : Int) : g_tariff_inside n x a b = some (decide (a ≤ x ∧ x ≤ b)) := by
 unfold g_tariff_inside leI
 by_cases h : a ≤ x <;> simp [h]
theorem b_article (n : Nat) (a : GArticle) : g_tariff_validArticle n a = some (artB a) := by
 have bad : ¬ Art a → some false = some (artB a) := by
  intro h
  cases hb : artB a
  ·rfl
  ·exact absurd (artB_art hb) h
 unfold g_tariff_validArticle g_tariff_isWhole g_tariff_isTime
 simp only [b_inside, Option.bind_some]
 by_cases c2 : 1 ≤ a.Kind ∧ a.Kind ≤ 6
 rotate_left
 ·rw [decide_eq_false c2]; exact bad (fun h => c2 h.kind)
 rw [decide_eq_true c2]
 by_cases c4 : 0 ≤ a.From ∧ a.From ≤ 1439
 rotate_left
 ·rw [decide_eq_false c4]; exact bad (fun h => c4 h.from_)
 rw [decide_eq_true c4, wi_id (x := a.From + 1) (by omega) (by omega)]
 by_cases c6 : a.From + 1 ≤ a.To ∧ a.To ≤ 1440
 rotate_left
 ·rw [decide_eq_false c6]; exact bad (fun h => by have := h.to_; omega)
 rw [decide_eq_true c6]
 by_cases c8 : 1 ≤ a.Days ∧ a.Days ≤ 7
 rotate_left
 ·rw [decide_eq_false c8]; exact bad (fun h => c8 h.days)
 rw [decide_eq_true c8]
 unfold artB g_a_validArticle
 simp only [a_inside, cond_some, Option.bind_some, Option.getD_some, eqI_d, Bool.not_true, cond_false]
 rw [Option.some.injEq, Bool.eq_iff_iff]
 obtain ⟨k, d, f, t, p, u, v⟩ := a
 simp only at c2 c4 c6 c8
 simp only [Bool.cond_eq_ite]
 have hk : k = 1 ∨ k = 2 ∨ k = 3 ∨ k = 4 ∨ k = 5 ∨ k = 6 := by omega
 rcases hk with rfl | rfl | rfl | rfl | rfl | rfl <;> simp [leI, ltI] <;> omega
theorem b_tariff (n : Nat) (t : GTariff) (hn : 1000 ≤ n) : g_tariff_Valid n t = some (tariffB t) := by
 unfold g_tariff_Valid tariffB
 rw [b_parser n t.Name hn]
 simp only [Option.bind_some, cond_some, lenI, List.length_map, ltI]
 cases hname : nameB t.Name
 ·rfl
 by_cases h2 : t.Articles.length ≤ 12
 rotate_left
 ·rw [decide_eq_true (show (12 : Int) < t.Articles.length by omega), decide_eq_false h2]; rfl
 rw [decide_eq_false (show ¬ (12 : Int) < t.Articles.length by omega), decide_eq_true h2]
 simp only [Bool.not_true, cond_false, Bool.true_and]
 have := loop_gen (l := t.Articles) (fun (a : Int) i => (a, i)) (B := fun recl4 (v : Int × Int) => g_tariff_Valid_l4 n t recl4 v.1 v.2) (F := tarB) (fun i a => 0 ≤ a ∧ a ≤ i) (by omega) ?_ ?_ (n := n) 0 0 (by omega) (by omega) (by omega)
 ·exact this
 ·intro rec a ha
  simp only [g_tariff_Valid_l4, lenI, List.length_map, ltI, leI]
  rw [decide_eq_false (by omega), cond_false]
  rfl
 ·intro rec a i x r ha hd hx hi hw hr
  simp only [g_tariff_Valid_l4, lenI, List.length_map, ltI, getI_nat, hx, Option.bind_some, b_article, hw, eqI_d]
  rw [decide_eq_true (by omega), cond_true, tarB]
  cases hb : artB x
  ·rfl
  ·have hw2 : wi (a + 1) = a + 1 := wi_id (by omega) (by omega)
   simp only [Bool.not_true, cond_false, Bool.true_and]
   by_cases h6 : x.Kind = 6
   ·rw [decide_eq_true h6, cond_true, if_pos h6, hw2, hr _ (by omega)]
   ·rw [decide_eq_false h6, cond_false, if_neg h6, hr _ (by omega)]
def chK : Int → List GChange → Bool
 | _, [] => true
 | a, x :: r => decide (a < x.At ∧ x.At ≤ 52560000) && chK x.At r
def chO (l : List GChange) : Bool := l.all (fun x => decide (-1440 ≤ x.Offset ∧ x.Offset ≤ 1440))
theorem chgB_KO : ∀ (l : List GChange) (a : Int), chgB a l = (chO l && chK a l)
 | [], _ => rfl
 | x :: r, a => by
  unfold chgB chK
  rw [chgB_KO r x.At, show chO (x :: r) = (decide (-1440 ≤ x.Offset ∧ x.Offset ≤ 1440) && chO r) from List.all_cons]
  by_cases c1 : a < x.At ∧ x.At ≤ 52560000
  ·by_cases c2 : -1440 ≤ x.Offset ∧ x.Offset ≤ 1440
   ·rw [decide_eq_true (show a < x.At ∧ x.At ≤ 52560000 ∧ -1440 ≤ x.Offset ∧ x.Offset ≤ 1440 by omega), decide_eq_true c1, decide_eq_true c2]; rfl
   ·rw [decide_eq_false (show ¬ (a < x.At ∧ x.At ≤ 52560000 ∧ -1440 ≤ x.Offset ∧ x.Offset ≤ 1440) by omega), decide_eq_false c2]; rfl
  ·rw [decide_eq_false (show ¬ (a < x.At ∧ x.At ≤ 52560000 ∧ -1440 ≤ x.Offset ∧ x.Offset ≤ 1440) by omega), decide_eq_false c1]
   simp
theorem b_dinside (n : Nat) (x a b : Int) : g_days_inside n x a b = some (decide (a ≤ x ∧ x ≤ b)) := by
 unfold g_days_inside leI
 by_cases h : a ≤ x <;> simp [h]
theorem b_listC (n : Nat) (l : List GChange) (hn : 1000 ≤ n) (hl : l.length ≤ 900) : g_dv_api_Change n l 52560000 = some (chK (-1) l) := by
 unfold g_dv_api_Change
 have := loop_acc (l := l) (B := fun recl1 (v : Int × Int) => g_dv_api_Change_l1 n l 52560000 recl1 v.1 v.2) (F := chK) (by omega) ?_ ?_ (n := n) 0 (-1) (by omega) (by omega)
 ·exact this
 ·intro rec a; simp [g_dv_api_Change_l1, ltI, lenI, chK]
 ·intro rec a i x r hd hx hi hw hr
  simp only [g_dv_api_Change_l1, g_days_keys_1, lenI, List.length_map, getI_nat, hx, Option.bind_some, hw, hr, ltI, leI, chK, cond_some]
  rw [decide_eq_true (by omega), cond_true]
  by_cases h1 : x.At ≤ a
  ·rw [decide_eq_true h1, decide_eq_false (show ¬ (a < x.At ∧ x.At ≤ 52560000) by omega)]; rfl
  ·rw [decide_eq_false h1]
   by_cases h2 : 52560000 < x.At
   ·rw [decide_eq_true h2, decide_eq_false (show ¬ (a < x.At ∧ x.At ≤ 52560000) by omega)]; rfl
   ·rw [decide_eq_false h2, decide_eq_true (show a < x.At ∧ x.At ≤ 52560000 by omega)]; rfl
theorem b_listI (n : Nat) (l : List Int) (hn : 1000 ≤ n) (hl : l.length ≤ 900) : g_dv_int n l 36500 = some (holB (-1) l) := by
 unfold g_dv_int
 have := loop_acc (l := l) (B := fun recl1 (v : Int × Int) => g_dv_int_l1 n l 36500 recl1 v.1 v.2) (F := holB) (by omega) ?_ ?_ (n := n) 0 (-1) (by omega) (by omega)
 ·exact this
 ·intro rec a; simp [g_dv_int_l1, ltI, lenI, holB]
 ·intro rec a i x r hd hx hi hw hr
  simp only [g_dv_int_l1, g_days_keys_2, lenI, List.length_map, getI_nat, hx, Option.bind_some, hw, hr, ltI, leI, holB, cond_some]
  rw [decide_eq_true (by omega), cond_true]
  by_cases h1 : x ≤ a
  ·rw [decide_eq_true h1, decide_eq_false (show ¬ (a < x ∧ x ≤ 36500) by omega)]; rfl
  ·rw [decide_eq_false h1]
   by_cases h2 : 36500 < x
   ·rw [decide_eq_true h2, decide_eq_false (show ¬ (a < x ∧ x ≤ 36500) by omega)]; rfl
   ·rw [decide_eq_false h2, decide_eq_true (show a < x ∧ x ≤ 36500 by omega)]; rfl
theorem b_cal (n : Nat) (c : GCalendar) (hn : 1000 ≤ n) (h1 : c.Changes.length ≤ 900) (h2 : c.Holidays.length ≤ 900) : g_days_Valid n c = some (calB c) := by
 have key : loopN (fun recl9 l9 => g_days_Valid_l9 n c recl9 l9) n 0 = some (chO c.Changes && (chK (-1) c.Changes && holB (-1) c.Holidays)) := by
  have := loop_list (l := c.Changes) (B := fun recl9 l9 => g_days_Valid_l9 n c recl9 l9) (F := fun r => chO r && (chK (-1) c.Changes && holB (-1) c.Holidays)) (by omega) ?_ ?_ (n := n) 0 (by omega) (by omega)
  ·exact this
  ·intro rec
   simp only [g_days_Valid_l9, g_days_Valid_j5, lenI, List.length_map, ltI, b_listC n _ hn h1, b_listI n _ hn h2, Option.bind_some, cond_some]
   rw [decide_eq_false (by omega), cond_false]
   cases chK (-1) c.Changes <;> rfl
  ·intro rec i x r hd hx hi hw hr
   simp only [g_days_Valid_l9, lenI, List.length_map, getI_nat, hx, Option.bind_some, hw, hr, ltI, b_dinside]
   rw [decide_eq_true (by omega), cond_true, show chO (x :: r) = (decide (-1440 ≤ x.Offset ∧ x.Offset ≤ 1440) && chO r) from List.all_cons]
   cases decide (-1440 ≤ x.Offset ∧ x.Offset ≤ 1440) <;> rfl
 unfold g_days_Valid calB
 rw [key, chgB_KO]
 simp only [b_dinside, Option.bind_some, cond_some, lenI, List.length_map, ltI]
 by_cases c1 : c.Changes.length ≤ 16
 rotate_left
 ·rw [decide_eq_true (show (16 : Int) < c.Changes.length by omega), decide_eq_false c1]; simp
 rw [decide_eq_false (show ¬ (16 : Int) < c.Changes.length by omega), decide_eq_true c1]
 by_cases c2 : c.Holidays.length ≤ 32
 rotate_left
 ·rw [decide_eq_true (show (32 : Int) < c.Holidays.length by omega), decide_eq_false c2]; simp
 rw [decide_eq_false (show ¬ (32 : Int) < c.Holidays.length by omega), decide_eq_true c2]
 generalize decide (-1440 ≤ c.Offset ∧ c.Offset ≤ 1440) = b0
 generalize chO c.Changes = b1
 generalize chK (-1) c.Changes = b2
 generalize holB (-1) c.Holidays = b3
 cases b0 <;> cases b1 <;> cases b2 <;> cases b3 <;> rfl
end Go.Proofs
namespace Go.Proofs
open Go Go.Abs
set_option maxRecDepth 100000
set_option linter.unusedVariables false
theorem chK_lt : ∀ (l : List GChange) (a : Int), chK a l = true → (∀ x ∈ l, a < x.At) ∧ l.Pairwise (fun x y => x.At < y.At)
 | [], _, _ => ⟨(fun x h => by cases h), List.Pairwise.nil⟩
 | x :: r, a, h => by
  simp only [chK, Bool.and_eq_true, decide_eq_true_eq] at h
  obtain ⟨h1, h2⟩ := chK_lt r x.At h.2
  refine ⟨fun y hy => ?_, List.pairwise_cons.2 ⟨h1, h2⟩⟩
  rcases List.mem_cons.1 hy with rfl | hy
  ·exact h.1.1
  ·have := h1 y hy; omega
theorem holB_lt : ∀ (l : List Int) (a : Int), holB a l = true → (∀ x ∈ l, a < x) ∧ l.Pairwise (fun x y => x < y)
 | [], _, _ => ⟨(fun x h => by cases h), List.Pairwise.nil⟩
 | x :: r, a, h => by
  simp only [holB, Bool.and_eq_true, decide_eq_true_eq] at h
  obtain ⟨h1, h2⟩ := holB_lt r x h.2
  refine ⟨fun y hy => ?_, List.pairwise_cons.2 ⟨h1, h2⟩⟩
  rcases List.mem_cons.1 hy with rfl | hy
  ·exact h.1.1
  ·have := h1 y hy; omega
structure LastOf {α : Type} (key : α → Int) (l : List α) (m r : Int) : Prop where
 lo : -1 ≤ r
 hi : r < l.length
 le : ∀ (i : Nat) (x : α), (i : Int) ≤ r → l[i]? = some x → key x ≤ m
 gt : ∀ (i : Nat) (x : α), r < (i : Int) → l[i]? = some x → m < key x
theorem last_gen {α : Type} {key : α → Int} {l : List α} {m : Int} {B : (Int × Int → Option Int) → Int × Int → Option Int} (hl : l.length ≤ 900) (hs : l.Pairwise (fun x y => key x < key y))
  (hB : ∀ rec lo hi, B rec (lo, hi) = cond (ltI lo hi) ((getI l (wi (lo + wi (Int.tdiv (wi (wi (hi - lo) + 1)) 2)))).bind fun x => cond (leI (key x) m) (rec (wi (lo + wi (Int.tdiv (wi (wi (hi - lo) + 1)) 2)), hi)) (rec (lo, wi (wi (lo + wi (Int.tdiv (wi (wi (hi - lo) + 1)) 2)) - 1)))) (some lo))
  {n : Nat} (hn : 1000 ≤ n) : Does (loopN B n (-1, (l.length : Int) - 1)) (LastOf key l m) := by
 have := does_loop (B := B) (Q := fun _ r => LastOf key l m r) (fun v => (v.2 - v.1).toNat) (fun v => -1 ≤ v.1 ∧ v.1 ≤ v.2 ∧ v.2 < l.length ∧ (∀ (i : Nat) (x : α), (i : Int) ≤ v.1 → l[i]? = some x → key x ≤ m) ∧ (∀ (i : Nat) (x : α), v.2 < (i : Int) → l[i]? = some x → m < key x)) ?_ (n := n) (v := (-1, (l.length : Int) - 1)) ⟨by simp, by simp; omega, by simp; omega, fun i x h => by simp only at h; omega, fun i x h hx => by
  have := (List.getElem?_eq_some_iff.1 hx).1
  simp only at h
  omega⟩ (by simp only; omega)
 ·exact this
 ·rintro rec ⟨lo, hi⟩ ⟨h1, h2, h3, h4, h5⟩ ih
  simp only at h1 h2 h3 h4 h5 ih
  rw [hB]
  by_cases hlt : lo < hi
  rotate_left
  ·rw [show ltI lo hi = false from by simp only [ltI]; rw [decide_eq_false hlt], cond_false]
   exact does_some ⟨h1, by omega, h4, fun i x hi' hx => h5 i x (by omega) hx⟩
  rw [show ltI lo hi = true from by simp only [ltI]; rw [decide_eq_true hlt], cond_true]
  rw [wi_id (x := hi - lo) (by omega) (by omega), wi_id (x := hi - lo + 1) (by omega) (by omega), Int.tdiv_eq_ediv_of_nonneg (by omega), wi_id (x := (hi - lo + 1) / 2) (by omega) (by omega), wi_id (x := lo + (hi - lo + 1) / 2) (by omega) (by omega), wi_id (x := lo + (hi - lo + 1) / 2 - 1) (by omega) (by omega)]
  generalize hmid : lo + (hi - lo + 1) / 2 = mid
  have hm : lo < mid ∧ mid ≤ hi := by omega
  obtain ⟨j, rfl⟩ : ∃ j : Nat, mid = (j : Int) := ⟨mid.toNat, by omega⟩
  have hx : l[j]? = some (l[j]'(by omega)) := by rw [List.getElem?_eq_getElem]
  generalize l[j]'(by omega) = x at hx
  rw [getI_nat, hx, Option.bind_some]
  refine does_cond (fun hc => ?_) (fun hc => ?_)
  ·simp only [leI, decide_eq_true_eq] at hc
   refine ih (j, hi) ⟨by simp only; omega, by simp only; omega, h3, fun i y hi' hy => ?_, h5⟩ (by simp only; omega)
   simp only at hi'
   by_cases e : i = j
   ·subst e
    rw [hx] at hy; cases hy
    exact hc
   ·have hij : i < j := by omega
    have hy' := List.getElem?_eq_some_iff.1 hy
    have hx' := List.getElem?_eq_some_iff.1 hx
    have := List.pairwise_iff_getElem.1 hs i j hy'.1 hx'.1 hij
    rw [hy'.2, hx'.2] at this
    omega
  ·simp only [leI, decide_eq_false_iff_not] at hc
   refine ih (lo, (j : Int) - 1) ⟨h1, by simp only; omega, by simp only; omega, h4, fun i y hi' hy => ?_⟩ (by simp only; omega)
   simp only at hi'
   by_cases e : i = j
   ·subst e
    rw [hx] at hy; cases hy
    omega
   ·have hij : j < i := by omega
    have hy' := List.getElem?_eq_some_iff.1 hy
    have hx' := List.getElem?_eq_some_iff.1 hx
    have := List.pairwise_iff_getElem.1 hs j i hx'.1 hy'.1 hij
    rw [hy'.2, hx'.2] at this
    omega
theorem b_lastC (n : Nat) (l : List GChange) (m : Int) (hn : 1000 ≤ n) (hl : l.length ≤ 900) (hs : chK (-1) l = true) : Does (g_days_last_api_Change n l m) (LastOf GChange.At l m) := by
 unfold g_days_last_api_Change
 simp only [lenI, List.length_map]
 rw [wi_id (x := (l.length : Int) - 1) (by omega) (by omega)]
 exact last_gen (B := fun recl1 (v : Int × Int) => g_days_last_api_Change_l1 n l m recl1 v.1 v.2) hl (chK_lt l _ hs).2 (fun rec lo hi => rfl) hn
theorem b_lastI (n : Nat) (l : List Int) (m : Int) (hn : 1000 ≤ n) (hl : l.length ≤ 900) (hs : holB (-1) l = true) : Does (g_days_last_int n l m) (LastOf (fun x => x) l m) := by
 unfold g_days_last_int
 simp only [lenI, List.length_map]
 rw [wi_id (x := (l.length : Int) - 1) (by omega) (by omega)]
 exact last_gen (key := fun x => x) (B := fun recl1 (v : Int × Int) => g_days_last_int_l1 n l m recl1 v.1 v.2) hl (holB_lt l _ hs).2 (fun rec lo hi => rfl) hn
theorem offF_gt (m : Int) : ∀ (l : List GChange) (o : Int), (∀ x ∈ l, m < x.At) → offF m o l = o
 | [], _, _ => rfl
 | x :: r, o, h => by
  have := h x List.mem_cons_self
  unfold offF
  rw [if_neg (by omega)]
  exact offF_gt m r o (fun y hy => h y (List.mem_cons_of_mem _ hy))
theorem offF_at (m : Int) : ∀ (l : List GChange) (o : Int) (k : Nat) (x : GChange), l[k]? = some x → (∀ (i : Nat) (y : GChange), i ≤ k → l[i]? = some y → y.At ≤ m) → (∀ (i : Nat) (y : GChange), k < i → l[i]? = some y → m < y.At) → offF m o l = x.Offset
 | [], _, _, _, h, _, _ => by simp at h
 | z :: r, o, 0, x, h, h1, h2 => by
  simp at h
  subst h
  unfold offF
  rw [if_pos (h1 0 z (Nat.le_refl _) rfl)]
  exact offF_gt m r _ (fun y hy => by
   obtain ⟨i, hi⟩ := List.mem_iff_getElem?.1 hy
   exact h2 (i + 1) y (by omega) (by simpa using hi))
 | z :: r, o, k + 1, x, h, h1, h2 => by
  unfold offF
  exact offF_at m r _ k x (by simpa using h) (fun i y hi hy => h1 (i + 1) y (by omega) (by simpa using hy)) (fun i y hi hy => h2 (i + 1) y (by omega) (by simpa using hy))
theorem typF_mem (d : Int) : ∀ (l : List Int), typF d l = if d ∈ l then 2 else wkF d
 | [] => by simp [typF]
 | x :: r => by
  unfold typF
  rw [typF_mem d r]
  by_cases h : x = d
  ·simp [h]
  ·simp [h, Ne.symm h]
theorem tdiv_neg' (x : Int) (b : Int) (h : x ≤ 0) : Int.tdiv x b = -((-x) / b) ∧ Int.tmod x b = -((-x) % b) := by
 obtain ⟨y, rfl⟩ : ∃ y : Int, x = -y := ⟨-x, by omega⟩
 rw [Int.neg_tdiv, Int.neg_tmod, Int.neg_neg, Int.tdiv_eq_ediv_of_nonneg (by omega), Int.tmod_eq_emod_of_nonneg (by omega)]
 exact ⟨rfl, rfl⟩
theorem b_split1440 (n : Nat) (x : Int) (h : -1440 ≤ x ∧ x ≤ 100000000) : g_days_split n x 1440 = some ((x + 1440) / 1440 - 1, (x + 1440) % 1440) := by
 unfold g_days_split
 rw [show (!eqI 1440 0) = true from rfl, cond_true, cond_true]
 simp only [ltI]
 by_cases hx : 0 ≤ x
 ·rw [Int.tdiv_eq_ediv_of_nonneg hx, Int.tmod_eq_emod_of_nonneg hx, decide_eq_false (by omega), cond_false, wi_id (x := x / 1440) (by omega) (by omega)]
  congr 2
  ·omega
  ·omega
 ·obtain ⟨e1, e2⟩ := tdiv_neg' x 1440 (by omega)
  rw [e1, e2]
  by_cases hm : -((-x) % 1440) < 0
  ·rw [decide_eq_true hm, cond_true, wi_id (x := -((-x) / 1440)) (by omega) (by omega), wi_id (by omega) (by omega), wi_id (by omega) (by omega)]
   congr 2
   ·omega
   ·omega
  ·rw [decide_eq_false hm, cond_false, wi_id (x := -((-x) / 1440)) (by omega) (by omega)]
   congr 2
   ·omega
   ·omega
theorem b_local (n : Nat) (c : GCalendar) (m : Int) (hn : 1000 ≤ n) (h1 : c.Changes.length ≤ 900) (h2 : c.Holidays.length ≤ 900) (hc : calB c = true) (hm : 0 ≤ m ∧ m ≤ 52560000) :
  g_days_Local n c m = some ((m + offF m c.Offset c.Changes + 1440) / 1440 - 1, (m + offF m c.Offset c.Changes + 1440) % 1440, 0) := by
 have ho := cal_off m hc
 have hc' := hc
 simp only [calB, Bool.and_eq_true] at hc'
 have hK : chK (-1) c.Changes = true := by
  have := hc'.1.2
  rw [chgB_KO, Bool.and_eq_true] at this
  exact this.2
 unfold g_days_Local
 rw [b_cal n c hn h1 h2, hc, b_dinside, decide_eq_true hm]
 simp only [Option.bind_some, Bool.not_true, cond_false]
 obtain ⟨r, e, L⟩ := b_lastC n c.Changes m hn h1 hK
 rw [e]
 simp only [Option.bind_some]
 have hoff : (bif leI 0 r then (getI c.Changes r).bind fun x7 => some x7.Offset else some c.Offset) = some (offF m c.Offset c.Changes) := by
  by_cases h0 : 0 ≤ r
  ·obtain ⟨k, rfl⟩ : ∃ k : Nat, r = (k : Int) := ⟨r.toNat, by omega⟩
   have hk := L.hi
   have hx : c.Changes[k]? = some (c.Changes[k]'(by omega)) := by rw [List.getElem?_eq_getElem]
   rw [show leI 0 (k : Int) = true from by simp only [leI]; rw [decide_eq_true h0], cond_true, getI_nat, hx, Option.bind_some]
   rw [offF_at m c.Changes c.Offset k _ hx (fun i y hi hy => L.le i y (by omega) hy) (fun i y hi hy => L.gt i y (by omega) hy)]
  ·rw [show leI 0 r = false from by simp only [leI]; rw [decide_eq_false h0], cond_false]
   rw [offF_gt m c.Changes c.Offset (fun x hx => by
    obtain ⟨i, hi⟩ := List.mem_iff_getElem?.1 hx
    exact L.gt i x (by omega) hi)]
 rw [hoff, Option.bind_some]
 generalize offF m c.Offset c.Changes = o at ho
 rw [wi_id (x := m + o) (by omega) (by omega), b_split1440 n (m + o) (by omega), Option.bind_some]
theorem b_split7 (n : Nat) (d : Int) (h : -1 ≤ d ∧ d ≤ 36501) : g_days_split n d 7 = some ((d + 7) / 7 - 1, (d + 7) % 7) := by
 unfold g_days_split
 rw [show (!eqI 7 0) = true from rfl, cond_true, cond_true]
 simp only [ltI]
 by_cases hx : 0 ≤ d
 ·rw [Int.tdiv_eq_ediv_of_nonneg hx, Int.tmod_eq_emod_of_nonneg hx, decide_eq_false (by omega), cond_false, wi_id (x := d / 7) (by omega) (by omega)]
  congr 2
  ·omega
  ·omega
 ·have : d = -1 := by omega
  subst this
  rfl
theorem b_type (n : Nat) (c : GCalendar) (d : Int) (hn : 1000 ≤ n) (h1 : c.Changes.length ≤ 900) (h2 : c.Holidays.length ≤ 900) (hc : calB c = true) (hd : -1 ≤ d ∧ d ≤ 36501) : g_days_Type n c d = some (typF d c.Holidays, 0) := by
 have hc' := hc
 simp only [calB, Bool.and_eq_true] at hc'
 unfold g_days_Type
 rw [b_cal n c hn h1 h2, hc, b_dinside, decide_eq_true hd]
 simp only [Option.bind_some, Bool.not_true, cond_false]
 obtain ⟨r, e, L⟩ := b_lastI n c.Holidays d hn h2 hc'.2
 have hpw := (holB_lt _ _ hc'.2).2
 rw [e]
 simp only [Option.bind_some]
 have hj : (bif leI 0 r then (getI c.Holidays r).bind fun x8 => some (eqI x8 d) else some false) = some (decide (d ∈ c.Holidays)) := by
  by_cases h0 : 0 ≤ r
  ·obtain ⟨k, rfl⟩ : ∃ k : Nat, r = (k : Int) := ⟨r.toNat, by omega⟩
   have hk := L.hi
   have hx : c.Holidays[k]? = some (c.Holidays[k]'(by omega)) := by rw [List.getElem?_eq_getElem]
   rw [show leI 0 (k : Int) = true from by simp only [leI]; rw [decide_eq_true h0], cond_true, getI_nat, hx, Option.bind_some, eqI_d]
   generalize c.Holidays[k]'(by omega) = x at hx
   by_cases hxd : x = d
   ·rw [decide_eq_true hxd, decide_eq_true]
    rw [← hxd]
    exact List.mem_of_getElem? hx
   ·rw [decide_eq_false hxd, decide_eq_false]
    intro hmem
    obtain ⟨i, hi⟩ := List.mem_iff_getElem?.1 hmem
    have hik : (i : Int) ≤ k := by
     apply Classical.byContradiction
     intro h
     have := L.gt i d (by omega) hi
     omega
    by_cases e : i = k
    ·subst e
     rw [hx] at hi; cases hi
     exact hxd rfl
    ·have hi' := List.getElem?_eq_some_iff.1 hi
     have hx' := List.getElem?_eq_some_iff.1 hx
     have := List.pairwise_iff_getElem.1 hpw i k hi'.1 hx'.1 (by omega)
     rw [hi'.2, hx'.2] at this
     have := L.le k x (Int.le_refl _) hx
     omega
  ·rw [show leI 0 r = false from by simp only [leI]; rw [decide_eq_false h0], cond_false, decide_eq_false]
   intro hmem
   obtain ⟨i, hi⟩ := List.mem_iff_getElem?.1 hmem
   have := L.gt i d (by omega) hi
   omega
 rw [hj, Option.bind_some, typF_mem]
 by_cases hmem : d ∈ c.Holidays
 ·rw [decide_eq_true hmem, if_pos hmem]; rfl
 ·rw [decide_eq_false hmem, if_neg hmem, cond_false, b_split7 n d hd]
  unfold g_days_week wkF
  simp only [Option.bind_some]
  rw [wi_id (x := d + 7) (by omega) (by omega), Int.tmod_eq_emod_of_nonneg (a := d + 7) (by omega)]
  have hr : 0 ≤ (d + 7) % 7 ∧ (d + 7) % 7 < 7 := by omega
  generalize (d + 7) % 7 = w at hr
  have hw : w = 0 ∨ w = 1 ∨ w = 2 ∨ w = 3 ∨ w = 4 ∨ w = 5 ∨ w = 6 := by omega
  rcases hw with rfl | rfl | rfl | rfl | rfl | rfl | rfl <;> rfl
theorem b_applies (n : Nat) (c : GCalendar) (a : GArticle) (m : Int) (hn : 1000 ≤ n) (h1 : c.Changes.length ≤ 900) (h2 : c.Holidays.length ≤ 900) (hc : calB c = true) (ha : artB a = true) (hm : 0 ≤ m ∧ m ≤ 52560000) :
  g_tariff_Applies n a c m = some (appB c a m) := by
 have ho := cal_off m hc
 unfold g_tariff_Applies appB
 rw [b_article, ha, b_local n c m hn h1 h2 hc hm]
 simp only [Option.bind_some, Bool.not_true, cond_false, eqI_d, decide_true]
 generalize offF m c.Offset c.Changes = o at ho
 rw [wi_id (x := m + o) (by omega) (by omega), wi_id (x := m + o + 1440) (by omega) (by omega)]
 rw [Int.tdiv_eq_ediv_of_nonneg (a := m + o + 1440) (by omega), Int.tmod_eq_emod_of_nonneg (a := m + o + 1440) (by omega)]
 rw [wi_id (x := (m + o + 1440) / 1440) (by omega) (by omega), wi_id (x := (m + o + 1440) / 1440 - 1) (by omega) (by omega)]
 rw [b_type n c _ hn h1 h2 hc (by omega)]
 have ht := typF_range ((m + o + 1440) / 1440 - 1) c.Holidays
 simp only [Option.bind_some, cond_some, leI, ltI, decide_true, cond_true]
 rw [decide_eq_false (show ¬ typF ((m + o + 1440) / 1440 - 1) c.Holidays < 0 by omega)]
 generalize decide (bAnd .i64 a.Days (shlI .i64 1 (typF ((m + o + 1440) / 1440 - 1) c.Holidays)) = 0) = b
 generalize (m + o + 1440) % 1440 = w
 by_cases c1 : a.From ≤ w
 ·by_cases c2 : w < a.To
  ·rw [decide_eq_false (show ¬ w < a.From by omega), decide_eq_false (show ¬ a.To ≤ w by omega), decide_eq_true c1, decide_eq_true c2]
   cases b <;> rfl
  ·rw [decide_eq_false (show ¬ w < a.From by omega), decide_eq_true (show a.To ≤ w by omega), decide_eq_false c2]
   cases b <;> simp
 ·rw [decide_eq_true (show w < a.From by omega), decide_eq_false c1]; rfl
end Go.Proofs
namespace Go.Proofs
open Go Go.Abs
set_option maxRecDepth 100000
set_option linter.unusedVariables false
theorem b_minside (n : Nat) (x a b : Int) : g_money_inside n x a b = some (decide (a ≤ x ∧ x ≤ b)) := by
 unfold g_money_inside leI
 by_cases h : a ≤ x <;> simp [h]
theorem b_amount (n : Nat) (x : Int) : g_money_isAmount n x = some (decide (0 ≤ x ∧ x ≤ 1000000000)) := by
 unfold g_money_isAmount
 rw [b_minside, Option.bind_some]
theorem b_need (n : Nat) (b : Bool) (e : Int) : g_money_need n b e = some (needE b e) := by cases b <;> rfl
theorem b_checked (n : Nat) (x : Int) : g_money_checked n x = some (if 0 ≤ x ∧ x ≤ 1000000000 then .ok x else .error 3) := by
 unfold g_money_checked
 rw [b_amount, Option.bind_some, b_need, Option.bind_some, exc_need]
 by_cases h : 0 ≤ x ∧ x ≤ 1000000000
 ·rw [decide_eq_true h, if_pos h]; rfl
 ·rw [decide_eq_false h, if_neg h]; rfl
theorem r_checked' (n : Nat) (x : Int) : g_ref31_checked n x = some (if 0 ≤ x ∧ x ≤ 1000000000 then (x, 0) else (0, 3)) := by
 unfold g_ref31_checked
 rw [r_amount, Option.bind_some]
 by_cases h : 0 ≤ x ∧ x ≤ 1000000000
 ·rw [decide_eq_true h, if_pos h]; rfl
 ·rw [decide_eq_false h, if_neg h]; rfl
theorem b_end (n : Nat) (x : Int) : ((g_money_checked n x).bind (exc (fun r3 => (g_money_caught n 0).bind fun r5 => some (r3, r5)) fun e4 => (g_money_caught_2 n e4 0).bind fun r6 => some (0, r6))) = ((g_ref31_checked n x).bind fun r8 => some (r8.1, r8.2)) := by
 rw [b_checked, r_checked', Option.bind_some, Option.bind_some]
 by_cases h : 0 ≤ x ∧ x ≤ 1000000000
 ·rw [if_pos h, if_pos h]; rfl
 ·rw [if_neg h, if_neg h]; rfl
theorem b_times (n : Nat) (p q d : Int) : g_money_Times n p q d = g_ref31_Times n p q d := by
 unfold g_money_Times g_ref31_Times g_money_Times_j1
 simp only [b_amount, r_amount, b_minside, b_need, Option.bind_some, exc_need, b_end]
 unfold g_money_half g_ref31_divided
 by_cases c1 : 0 ≤ p ∧ p ≤ 1000000000
 rotate_left
 ·rw [decide_eq_false c1]; rfl
 rw [decide_eq_true c1]
 by_cases c2 : 0 ≤ q ∧ q ≤ 1000000000
 rotate_left
 ·rw [decide_eq_false c2]; rfl
 rw [decide_eq_true c2]
 simp only [Bool.not_true, cond_false, cond_true, ltI]
 by_cases c3 : 1 ≤ d
 ·rw [decide_eq_false (show ¬ d < 1 by omega)]
  by_cases c4 : d ≤ 1000000000
  ·rw [decide_eq_true (show 1 ≤ d ∧ d ≤ 1000000000 from ⟨c3, c4⟩), decide_eq_false (show ¬ 1000000000 < d by omega)]; rfl
  ·rw [decide_eq_false (show ¬ (1 ≤ d ∧ d ≤ 1000000000) by omega), decide_eq_true (show 1000000000 < d by omega)]; rfl
 ·rw [decide_eq_true (show d < 1 by omega), decide_eq_false (show ¬ (1 ≤ d ∧ d ≤ 1000000000) by omega)]; rfl
theorem b_started (n : Nat) (p q u : Int) : g_money_Started n p q u = g_ref31_Started n p q u := by
 unfold g_money_Started g_ref31_Started g_money_Started_j1
 simp only [b_amount, r_amount, b_minside, b_need, Option.bind_some, exc_need, b_end]
 by_cases c1 : 0 ≤ p ∧ p ≤ 1000000000
 rotate_left
 ·rw [decide_eq_false c1]; rfl
 rw [decide_eq_true c1]
 by_cases c2 : 0 ≤ q ∧ q ≤ 1000000000
 rotate_left
 ·rw [decide_eq_false c2]; rfl
 rw [decide_eq_true c2]
 simp only [Bool.not_true, cond_false, cond_true, ltI]
 by_cases c3 : 1 ≤ u
 ·rw [decide_eq_false (show ¬ u < 1 by omega)]
  by_cases c4 : u ≤ 1000000000
  ·rw [decide_eq_true (show 1 ≤ u ∧ u ≤ 1000000000 from ⟨c3, c4⟩), decide_eq_false (show ¬ 1000000000 < u by omega)]; rfl
  ·rw [decide_eq_false (show ¬ (1 ≤ u ∧ u ≤ 1000000000) by omega), decide_eq_true (show 1000000000 < u by omega)]; rfl
 ·rw [decide_eq_true (show u < 1 by omega), decide_eq_false (show ¬ (1 ≤ u ∧ u ≤ 1000000000) by omega)]; rfl
theorem b_tax (n : Nat) (x r : Int) : g_money_Tax n x r = g_ref31_Tax n x r := by
 unfold g_money_Tax g_ref31_Tax g_money_Tax_j1
 simp only [b_amount, r_amount, b_minside, b_need, Option.bind_some, exc_need, b_end]
 unfold g_money_half g_ref31_divided
 by_cases c1 : 0 ≤ x ∧ x ≤ 1000000000
 rotate_left
 ·rw [decide_eq_false c1]; rfl
 rw [decide_eq_true c1]
 simp only [Bool.not_true, cond_false, cond_true, ltI]
 by_cases c3 : 0 ≤ r
 ·rw [decide_eq_false (show ¬ r < 0 by omega)]
  by_cases c4 : r ≤ 100000
  ·rw [decide_eq_true (show 0 ≤ r ∧ r ≤ 100000 from ⟨c3, c4⟩), decide_eq_false (show ¬ 100000 < r by omega)]; rfl
  ·rw [decide_eq_false (show ¬ (0 ≤ r ∧ r ≤ 100000) by omega), decide_eq_true (show 100000 < r by omega)]; rfl
 ·rw [decide_eq_true (show r < 0 by omega), decide_eq_false (show ¬ (0 ≤ r ∧ r ≤ 100000) by omega)]; rfl
theorem b_session (n : Nat) (s : GSession) (hn : 1000 ≤ n) (hl : s.Slices.length ≤ 900) (hb : i64b s.To) : g_bill_Valid n s = some (valB s) := by
 unfold i64b at hb
 unfold g_bill_Valid valB
 simp only [ltI, leI, lenI, List.length_map]
 by_cases c1 : s.From < 0
 ·rw [decide_eq_true c1, cond_true, Option.bind_some, cond_true, decide_eq_false (by omega)]; rfl
 rw [decide_eq_false c1, cond_false]
 by_cases c2 : s.To ≤ s.From
 ·rw [decide_eq_true c2, cond_true, Option.bind_some, cond_true, decide_eq_false (by omega)]; rfl
 rw [decide_eq_false c2, cond_false, wi_id (x := s.To - s.From) (by omega) (by omega)]
 by_cases c4 : 2880 < s.To - s.From
 ·rw [decide_eq_true c4, cond_true, Option.bind_some, cond_true, decide_eq_false (by omega)]; rfl
 rw [decide_eq_false c4, cond_false, Option.bind_some]
 by_cases c3 : 52560000 < s.To
 ·rw [decide_eq_true c3, cond_true, decide_eq_false (by omega)]; rfl
 rw [decide_eq_false c3, cond_false]
 by_cases c5 : s.End < s.From
 ·rw [decide_eq_true c5, cond_true, Option.bind_some, cond_true, decide_eq_false (by omega)]; rfl
 rw [decide_eq_false c5, cond_false]
 by_cases c6 : s.To < s.End
 ·rw [decide_eq_true c6, cond_true, Option.bind_some, cond_true, decide_eq_false (by omega)]; rfl
 rw [decide_eq_false c6, cond_false, Option.bind_some]
 by_cases c7 : s.Slices.length ≤ 48
 rotate_left
 ·rw [decide_eq_true (show (48 : Int) < s.Slices.length by omega), cond_true, decide_eq_false (show ¬ (0 ≤ s.From ∧ s.From < s.To ∧ s.To ≤ 52560000 ∧ s.To - s.From ≤ 2880 ∧ s.From ≤ s.End ∧ s.End ≤ s.To ∧ s.Slices.length ≤ 48) by omega)]; rfl
 rw [decide_eq_false (show ¬ (48 : Int) < s.Slices.length by omega), cond_false, decide_eq_true (show 0 ≤ s.From ∧ s.From < s.To ∧ s.To ≤ 52560000 ∧ s.To - s.From ≤ 2880 ∧ s.From ≤ s.End ∧ s.End ≤ s.To ∧ s.Slices.length ≤ 48 by omega), Bool.true_and, wi_id (x := s.From - 1) (by omega) (by omega)]
 have := loop_gen (l := s.Slices) (fun (a : Int) i => (a, i)) (B := fun recl8 (v : Int × Int) => g_bill_Valid_l8 s recl8 v.1 v.2) (F := slB s.From s.End) (fun i a => s.From - 1 ≤ a) (by omega) ?_ ?_ (n := n) 0 (s.From - 1) (Int.le_refl _) (by omega) (by omega)
 ·exact this
 ·intro rec a ha
  simp only [g_bill_Valid_l8, lenI, List.length_map, ltI]
  rw [decide_eq_false (by omega), cond_false]
  rfl
 ·intro rec a i x r ha hd hx hi hw hr
  simp only [g_bill_Valid_l8, lenI, List.length_map, ltI, leI, getI_nat, hx, Option.bind_some, hw]
  rw [decide_eq_true (by omega), cond_true, slB]
  by_cases d1 : x.Minute ≤ a
  ·rw [decide_eq_true d1, cond_true, Option.bind_some, cond_true, decide_eq_false (by omega)]; rfl
  rw [decide_eq_false d1, cond_false]
  by_cases d2 : s.End ≤ x.Minute
  ·rw [decide_eq_true d2, cond_true, Option.bind_some, cond_true, decide_eq_false (by omega)]; rfl
  rw [decide_eq_false d2, cond_false]
  by_cases d3 : x.Energy < 0
  ·rw [decide_eq_true d3, cond_true, Option.bind_some, cond_true, decide_eq_false (by omega)]; rfl
  rw [decide_eq_false d3, cond_false, Option.bind_some]
  by_cases d4 : 10000 < x.Energy
  ·rw [decide_eq_true d4, cond_true, decide_eq_false (by omega)]; rfl
  rw [decide_eq_false d4, cond_false, hr x.Minute (by omega), decide_eq_true (by omega)]; rfl
end Go.Proofs
namespace Go.Proofs
open Go Go.Abs
set_option maxRecDepth 100000
set_option linter.unusedVariables false
theorem val_sl {s : GSession} (hv : valB s = true) : (0 ≤ s.From ∧ s.From < s.To ∧ s.To ≤ 52560000 ∧ s.To - s.From ≤ 2880 ∧ s.From ≤ s.End ∧ s.End ≤ s.To ∧ s.Slices.length ≤ 48) ∧ ∀ x ∈ s.Slices, s.From ≤ x.Minute ∧ x.Minute < s.End ∧ 0 ≤ x.Energy ∧ x.Energy ≤ 10000 := by
 simp only [valB, Bool.and_eq_true, decide_eq_true_eq] at hv
 exact ⟨hv.1, slB_mem hv.2⟩
def cstM (p q u : Int) : Int := p * ((q + u - 1) / u)
end Go.Proofs
namespace Go.Proofs
open Go Go.Abs
set_option maxRecDepth 100000
set_option linter.unusedVariables false
theorem ceil_unit {q u u' : Int} (hq : 0 ≤ q) (hu : 1 ≤ u) (h : u ≤ u') : (q + u' - 1) / u' ≤ (q + u - 1) / u := by
 have hk0 : 0 ≤ (q + u - 1) / u := Int.ediv_nonneg (by omega) (by omega)
 have hk := Int.lt_ediv_add_one_mul_self (q + u - 1) (show 0 < u by omega)
 generalize (q + u - 1) / u = k at hk hk0
 have h1 : q ≤ k * u := by
  rw [Int.add_mul, Int.one_mul] at hk
  omega
 have h2 : k * u ≤ k * u' := Int.mul_le_mul_of_nonneg_left h hk0
 have h3 : (q + u' - 1) / u' < k + 1 := by
  apply Int.ediv_lt_of_lt_mul (by omega)
  rw [Int.add_mul, Int.one_mul]
  omega
 omega
end Go.Proofs
namespace Go.Proofs
open Go Go.Abs
set_option maxRecDepth 100000
set_option linter.unusedVariables false
def sumS : List GSlice → Int
 | [] => 0
 | x :: r => x.Energy + sumS r
theorem ceil_le {q u : Int} (hq : 0 ≤ q) (hu : 1 ≤ u) : 0 ≤ (q + u - 1) / u ∧ (q + u - 1) / u ≤ q := by
 refine ⟨Int.ediv_nonneg (by omega) (by omega), ?_⟩
 have := ceil_unit hq (show (1 : Int) ≤ 1 by omega) hu
 rw [show q + 1 - 1 = q from by omega, Int.ediv_one] at this
 exact this
end Go.Proofs
namespace Go.Proofs
open Go Go.Abs
set_option maxRecDepth 100000
set_option linter.unusedVariables false
def prS (c : GCalendar) (k m : Int) : List GArticle → Int
 | [] => 0
 | a :: r => (if a.Kind = k ∧ appB c a m = true then a.Price else 0) + prS c k m r
def gmx (f : Int → Int) : Nat → Int → Int
 | 0, _ => 0
 | j + 1, m => maxI (f m) (gmx f j (m + 1))
def enC (c : GCalendar) (j : Nat) (m : Int) : List GArticle → Int
 | [] => 0
 | a :: r => (if a.Kind = 2 ∧ 0 < cN c a j m then 1 else 0) + enC c j m r
def tiA (c : GCalendar) (j : Nat) (m : Int) (a : GArticle) : Int := cstM a.Price (maxI 0 (cN c a j m - a.Free)) a.Unit
def tiS (c : GCalendar) (j : Nat) (m : Int) : List GArticle → Int
 | [] => 0
 | a :: r => (if a.Kind = 3 ∨ a.Kind = 4 then tiA c j m a else 0) + tiS c j m r
def timE (p q : Int) : Int := (2 * (p * q) + 1000) / 2000
def grQ (c : GCalendar) (l : List GArticle) (k : Int) (j : Nat) (m : Int) : Int := gmx (fun m => prS c k m l) j m
def eneQ (c : GCalendar) (l : List GArticle) (j : Nat) (m e : Int) : Int := if e = 0 then 0 else timE (grQ c l 2 j m) e + enC c j m l
def sumQ (c : GCalendar) (l : List GArticle) (j : Nat) (m e : Int) : Int := eneQ c l j m e + grQ c l 1 j m + tiS c j m l
theorem maxI_le {a b z : Int} (h1 : a ≤ z) (h2 : b ≤ z) : maxI a b ≤ z := by unfold maxI; split <;> omega
theorem maxI_l (a b : Int) : a ≤ maxI a b := by unfold maxI; split <;> omega
theorem maxI_assoc (a b z : Int) : maxI (maxI a b) z = maxI a (maxI b z) := by
 unfold maxI
 split <;> split <;> (try split) <;> (try split) <;> omega
theorem prS_range (c : GCalendar) (k m : Int) : ∀ (l : List GArticle), (∀ a ∈ l, artB a = true) → 0 ≤ prS c k m l ∧ prS c k m l ≤ 1000000 * l.length
 | [], _ => by
  show (0 : Int) ≤ 0 ∧ (0 : Int) ≤ 1000000 * ((0 : Nat) : Int)
  omega
 | a :: r, h => by
  have hp := (artB_art (h a List.mem_cons_self)).price
  have := prS_range c k m r (fun x hx => h x (List.mem_cons_of_mem _ hx))
  unfold prS
  simp only [List.length_cons]
  split <;> omega
theorem gmx_range {f : Int → Int} {z : Int} (hz : 0 ≤ z) (h : ∀ m, 0 ≤ f m ∧ f m ≤ z) : ∀ (j : Nat) (m : Int), 0 ≤ gmx f j m ∧ gmx f j m ≤ z
 | 0, m => ⟨Int.le_refl _, hz⟩
 | j + 1, m => by
  have h1 := gmx_range hz h j (m + 1)
  have h2 := h m
  unfold gmx
  exact ⟨Int.le_trans h2.1 (maxI_l _ _), maxI_le h2.2 h1.2⟩
theorem enC_range (c : GCalendar) (j : Nat) (m : Int) : ∀ (l : List GArticle), 0 ≤ enC c j m l ∧ enC c j m l ≤ l.length
 | [] => by
  show (0 : Int) ≤ 0 ∧ (0 : Int) ≤ ((0 : Nat) : Int)
  omega
 | a :: r => by
  have := enC_range c j m r
  unfold enC
  simp only [List.length_cons]
  split <;> omega
theorem tiA_range (c : GCalendar) (j : Nat) (m : Int) (a : GArticle) (ha : artB a = true) (hk : a.Kind = 3 ∨ a.Kind = 4) (hj : j ≤ 2880) : 0 ≤ tiA c j m a ∧ tiA c j m a ≤ 2880000000 := by
 have hA := artB_art ha
 have hU := hA.unit hk
 have hc := cN_range c a j m
 have hq : 0 ≤ maxI 0 (cN c a j m - a.Free) ∧ maxI 0 (cN c a j m - a.Free) ≤ 2880 := by unfold maxI; split <;> omega
 unfold tiA cstM
 have hd := ceil_le (q := maxI 0 (cN c a j m - a.Free)) (u := a.Unit) hq.1 hU.1
 have := mul_bound hA.price (y := (maxI 0 (cN c a j m - a.Free) + a.Unit - 1) / a.Unit) (Y := 2880) ⟨hd.1, by omega⟩
 omega
theorem tiS_range (c : GCalendar) (j : Nat) (m : Int) (hj : j ≤ 2880) : ∀ (l : List GArticle), (∀ a ∈ l, artB a = true) → 0 ≤ tiS c j m l ∧ tiS c j m l ≤ 2880000000 * l.length
 | [], _ => by
  show (0 : Int) ≤ 0 ∧ (0 : Int) ≤ 2880000000 * ((0 : Nat) : Int)
  omega
 | a :: r, h => by
  have := tiS_range c j m hj r (fun x hx => h x (List.mem_cons_of_mem _ hx))
  unfold tiS
  simp only [List.length_cons]
  split
  ·rename_i hk
   have h1 := tiA_range c j m a (h a List.mem_cons_self) hk hj
   omega
  ·omega
theorem grQ_range (c : GCalendar) (l : List GArticle) (k : Int) (j : Nat) (m : Int) (h : ∀ a ∈ l, artB a = true) (hl : l.length ≤ 12) : 0 ≤ grQ c l k j m ∧ grQ c l k j m ≤ 12000000 :=
 gmx_range (by omega) (fun m => by have := prS_range c k m l h; omega) j m
theorem timE_range {p q : Int} (hp : 0 ≤ p ∧ p ≤ 12000000) (hq : 0 ≤ q ∧ q ≤ 480000) : 0 ≤ timE p q ∧ timE p q ≤ 6000000000 := by
 have := mul_bound hp hq
 unfold timE
 omega
theorem q_times (n : Nat) (p q : Int) (hp : 0 ≤ p ∧ p ≤ 12000000) (hq : 0 ≤ q ∧ q ≤ 480000) : g_ref31_Times n p q 1000 = some (if timE p q ≤ 1000000000 then (timE p q, 0) else (0, 3)) := by
 have hb := mul_bound hp hq
 have hr := timE_range hp hq
 have e1 : wi (p * q) = p * q := wi_id (by omega) (by omega)
 unfold g_ref31_Times
 rw [r_amount, r_amount, decide_eq_true (show 0 ≤ p ∧ p ≤ 1000000000 by omega), decide_eq_true (show 0 ≤ q ∧ q ≤ 1000000000 by omega)]
 simp only [Option.bind_some, Bool.not_true, cond_false, show ltI 1000 1 = false from rfl, show ltI 1000000000 1000 = false from rfl]
 rw [e1]
 have e2 : g_ref31_divided n (p * q) 1000 = some (timE p q) := by
  unfold g_ref31_divided
  rw [show wi (2 * 1000) = 2000 from rfl, show (!eqI 2000 0) = true from rfl, cond_true, wi_id (x := 2 * (p * q)) (by omega) (by omega), wi_id (x := 2 * (p * q) + 1000) (by omega) (by omega), Int.tdiv_eq_ediv_of_nonneg (by omega)]
  unfold timE at hr ⊢
  rw [wi_id (by omega) (by omega)]
 rw [e2, Option.bind_some, r_checked n _ hr.1, Option.bind_some]
theorem q_started (n : Nat) (p q u : Int) (hp : 0 ≤ p ∧ p ≤ 1000000) (hq : 0 ≤ q ∧ q ≤ 2880) (hu : 1 ≤ u ∧ u ≤ 1440) : g_ref31_Started n p q u = some (if cstM p q u ≤ 1000000000 then (cstM p q u, 0) else (0, 3)) := by
 have hd := ceil_le hq.1 hu.1
 have hb := mul_bound hp (y := (q + u - 1) / u) (Y := 2880) ⟨hd.1, by omega⟩
 unfold g_ref31_Started cstM
 rw [r_amount, r_amount, decide_eq_true (show 0 ≤ p ∧ p ≤ 1000000000 by omega), decide_eq_true (show 0 ≤ q ∧ q ≤ 1000000000 by omega)]
 simp only [Option.bind_some, Bool.not_true, cond_false, ltI]
 rw [decide_eq_false (show ¬ u < 1 by omega), cond_false, Option.bind_some, decide_eq_false (show ¬ 1000000000 < u by omega), cond_false, show (!eqI u 0) = true by simp [eqI]; omega, cond_true,
  wi_id (x := q + u) (by omega) (by omega), wi_id (x := q + u - 1) (by omega) (by omega), Int.tdiv_eq_ediv_of_nonneg (by omega), wi_id (x := (q + u - 1) / u) (by omega) (by omega), wi_id (x := p * ((q + u - 1) / u)) (by omega) (by omega), r_checked n _ hb.1, Option.bind_some]
theorem min_loop {to : Int} {f : Int → Int} {B : (Int × Int → Option Int) → Int × Int → Option Int} (hto : to ≤ 52560000) (hf : ∀ m, 0 ≤ f m)
  (hstep : ∀ rec m z, 0 ≤ m → m < to → B rec (m, z) = rec (m + 1, maxI z (f m))) (hend : ∀ rec m z, ¬ m < to → B rec (m, z) = some z) :
  ∀ (k j : Nat) (z m : Int), (to - m).toNat = k → k < j → 0 ≤ m → 0 ≤ z → loopN B j (m, z) = some (maxI z (gmx f k m)) := by
 intro k
 induction k with
 | zero =>
  intro j z m h1 h2 h3 h4
  obtain ⟨j, rfl⟩ : ∃ j', j = j' + 1 := ⟨j - 1, by omega⟩
  unfold loopN
  rw [hend _ _ _ (by omega)]
  unfold gmx maxI
  rw [if_neg (by omega)]
 | succ k ih =>
  intro j z m h1 h2 h3 h4
  obtain ⟨j, rfl⟩ : ∃ j', j = j' + 1 := ⟨j - 1, by omega⟩
  have hi := ih j (maxI z (f m)) (m + 1) (by omega) (by omega) (by omega) (Int.le_trans h4 (maxI_l _ _))
  unfold loopN
  generalize loopN B j = L at hi ⊢
  rw [hstep _ _ _ h3 (by omega), hi, maxI_assoc]
  rfl
theorem q_in2 (n : Nat) (t : GTariff) (c : GCalendar) (f to : Int) (hn : 10000 ≤ n) (h1 : c.Changes.length ≤ 900) (h2 : c.Holidays.length ≤ 900) (hc : calB c = true) (ht : ∀ a ∈ t.Articles, artB a = true) (hl : t.Articles.length ≤ 12) (m : Int) (hm : 0 ≤ m ∧ m ≤ 52560000) : loopN (fun recl5 (v : Int × Int) => g_quote_quoted_energy_l5 n (⟨t, c, f, to⟩ : GQuoteQuoted) m recl5 v.1 v.2) n (0, 0) = some (prS c 2 m t.Articles) := by
 have := loop_gen (l := t.Articles) (fun (a : Int) i => (a, i)) (B := fun recl5 (v : Int × Int) => g_quote_quoted_energy_l5 n (⟨t, c, f, to⟩ : GQuoteQuoted) m recl5 v.1 v.2) (F := fun a r => a + prS c 2 m r) (fun i a => 0 ≤ a ∧ a ≤ 1000000 * i) (by omega) ?_ ?_ (n := n) 0 0 (by omega) (by omega) (by omega)
 ·rw [show ((0 : Nat) : Int) = 0 from rfl] at this
  rw [this]
  simp
 ·intro rec a ha
  have h : ltI ((t.Articles.length : Nat) : Int) (lenI (List.map GArticle.cs t.Articles)) = false := by simp [ltI, lenI]
  show g_quote_quoted_energy_l5 n (⟨t, c, f, to⟩ : GQuoteQuoted) m rec a ((t.Articles.length : Nat) : Int) = _
  unfold g_quote_quoted_energy_l5
  rw [h, cond_false]
  simp [prS]
 ·intro rec a i x r ha hd hx hi hw hr
  have h3 : ltI (i : Int) (lenI (List.map GArticle.cs t.Articles)) = true := by
   simp only [ltI, lenI, List.length_map]
   rw [decide_eq_true (by omega)]
  have hxa := ht x (List.mem_of_getElem? hx)
  have hp := (artB_art hxa).price
  show g_quote_quoted_energy_l5 n (⟨t, c, f, to⟩ : GQuoteQuoted) m rec a (i : Int) = some (a + prS c 2 m (x :: r))
  unfold g_quote_quoted_energy_l5
  simp only
  rw [h3, cond_true, getI_nat, hx, Option.bind_some, hw, eqI_d, b_applies n c x m (by omega) h1 h2 hc hxa hm, Option.bind_some, wi_id (x := a + x.Price) (by omega) (by omega), hr a (by omega), hr (a + x.Price) (by omega)]
  rw [show prS c 2 m (x :: r) = (if x.Kind = 2 ∧ appB c x m = true then x.Price else 0) + prS c 2 m r from rfl]
  by_cases k2 : x.Kind = 2
  ·rw [decide_eq_true k2, cond_true, Option.bind_some]
   cases happ : appB c x m
   ·rw [cond_false, if_neg (by simp)]
    simp
   ·rw [cond_true, if_pos ⟨k2, rfl⟩, Int.add_assoc]
  ·rw [decide_eq_false k2, cond_false, Option.bind_some, cond_false, if_neg (fun h => k2 h.1)]
   simp
theorem q_in1 (n : Nat) (t : GTariff) (c : GCalendar) (f to : Int) (hn : 10000 ≤ n) (h1 : c.Changes.length ≤ 900) (h2 : c.Holidays.length ≤ 900) (hc : calB c = true) (ht : ∀ a ∈ t.Articles, artB a = true) (hl : t.Articles.length ≤ 12) (m : Int) (hm : 0 ≤ m ∧ m ≤ 52560000) : loopN (fun recl6 (v : Int × Int) => g_quote_quoted_sum_l6 n (⟨t, c, f, to⟩ : GQuoteQuoted) m recl6 v.1 v.2) n (0, 0) = some (prS c 1 m t.Articles) := by
 have := loop_gen (l := t.Articles) (fun (a : Int) i => (a, i)) (B := fun recl5 (v : Int × Int) => g_quote_quoted_sum_l6 n (⟨t, c, f, to⟩ : GQuoteQuoted) m recl5 v.1 v.2) (F := fun a r => a + prS c 1 m r) (fun i a => 0 ≤ a ∧ a ≤ 1000000 * i) (by omega) ?_ ?_ (n := n) 0 0 (by omega) (by omega) (by omega)
 ·rw [show ((0 : Nat) : Int) = 0 from rfl] at this
  rw [this]
  simp
 ·intro rec a ha
  have h : ltI ((t.Articles.length : Nat) : Int) (lenI (List.map GArticle.cs t.Articles)) = false := by simp [ltI, lenI]
  show g_quote_quoted_sum_l6 n (⟨t, c, f, to⟩ : GQuoteQuoted) m rec a ((t.Articles.length : Nat) : Int) = _
  unfold g_quote_quoted_sum_l6
  rw [h, cond_false]
  simp [prS]
 ·intro rec a i x r ha hd hx hi hw hr
  have h3 : ltI (i : Int) (lenI (List.map GArticle.cs t.Articles)) = true := by
   simp only [ltI, lenI, List.length_map]
   rw [decide_eq_true (by omega)]
  have hxa := ht x (List.mem_of_getElem? hx)
  have hp := (artB_art hxa).price
  show g_quote_quoted_sum_l6 n (⟨t, c, f, to⟩ : GQuoteQuoted) m rec a (i : Int) = some (a + prS c 1 m (x :: r))
  unfold g_quote_quoted_sum_l6
  simp only
  rw [h3, cond_true, getI_nat, hx, Option.bind_some, hw, eqI_d, b_applies n c x m (by omega) h1 h2 hc hxa hm, Option.bind_some, wi_id (x := a + x.Price) (by omega) (by omega), hr a (by omega), hr (a + x.Price) (by omega)]
  rw [show prS c 1 m (x :: r) = (if x.Kind = 1 ∧ appB c x m = true then x.Price else 0) + prS c 1 m r from rfl]
  by_cases k2 : x.Kind = 1
  ·rw [decide_eq_true k2, cond_true, Option.bind_some]
   cases happ : appB c x m
   ·rw [cond_false, if_neg (by simp)]
    simp
   ·rw [cond_true, if_pos ⟨k2, rfl⟩, Int.add_assoc]
  ·rw [decide_eq_false k2, cond_false, Option.bind_some, cond_false, if_neg (fun h => k2 h.1)]
   simp
theorem q_gr2 (n : Nat) (t : GTariff) (c : GCalendar) (f to : Int) (hn : 10000 ≤ n) (h1 : c.Changes.length ≤ 900) (h2 : c.Holidays.length ≤ 900) (hc : calB c = true) (ht : ∀ a ∈ t.Articles, artB a = true) (hl : t.Articles.length ≤ 12) (hf : 0 ≤ f) (hto : to ≤ 52560000) (hd : to - f ≤ 2880) : loopN (fun recl3 (v : Int × Int) => g_quote_quoted_energy_l3 n (⟨t, c, f, to⟩ : GQuoteQuoted) recl3 v.1 v.2) n (f, 0) = some (grQ c t.Articles 2 (to - f).toNat f) := by
 have hge : ∀ m, 0 ≤ prS c 2 m t.Articles := fun m => (prS_range c 2 m t.Articles ht).1
 have key := min_loop (to := to) (f := fun m => prS c 2 m t.Articles) (B := fun recl3 (v : Int × Int) => g_quote_quoted_energy_l3 n (⟨t, c, f, to⟩ : GQuoteQuoted) recl3 v.1 v.2) hto hge ?_ ?_ (to - f).toNat n 0 f rfl (by omega) hf (Int.le_refl _)
 ·rw [key]
  have := gmx_range (f := fun m => prS c 2 m t.Articles) (z := 12000000) (by omega) (fun m => by have := prS_range c 2 m t.Articles ht; omega) (to - f).toNat f
  unfold grQ maxI
  split
  ·rfl
  ·rename_i h; congr 1; omega
 ·intro rec m z h3 h4
  show g_quote_quoted_energy_l3 n (⟨t, c, f, to⟩ : GQuoteQuoted) rec m z = _
  unfold g_quote_quoted_energy_l3
  simp only [ltI]
  rw [decide_eq_true h4, cond_true]
  refine (congrArg (fun o => Option.bind o _) (q_in2 n t c f to hn h1 h2 hc ht hl m (by omega))).trans ?_
  rw [Option.bind_some, wi_id (x := m + 1) (by omega) (by omega)]
 ·intro rec m z h3
  show g_quote_quoted_energy_l3 n (⟨t, c, f, to⟩ : GQuoteQuoted) rec m z = _
  unfold g_quote_quoted_energy_l3
  simp only [ltI]
  rw [decide_eq_false h3, cond_false]
theorem q_gr1 (n : Nat) (t : GTariff) (c : GCalendar) (f to : Int) (hn : 10000 ≤ n) (h1 : c.Changes.length ≤ 900) (h2 : c.Holidays.length ≤ 900) (hc : calB c = true) (ht : ∀ a ∈ t.Articles, artB a = true) (hl : t.Articles.length ≤ 12) (hf : 0 ≤ f) (hto : to ≤ 52560000) (hd : to - f ≤ 2880) : loopN (fun recl4 (v : Int × Int) => g_quote_quoted_sum_l4 n (⟨t, c, f, to⟩ : GQuoteQuoted) recl4 v.1 v.2) n (f, 0) = some (grQ c t.Articles 1 (to - f).toNat f) := by
 have hge : ∀ m, 0 ≤ prS c 1 m t.Articles := fun m => (prS_range c 1 m t.Articles ht).1
 have key := min_loop (to := to) (f := fun m => prS c 1 m t.Articles) (B := fun recl3 (v : Int × Int) => g_quote_quoted_sum_l4 n (⟨t, c, f, to⟩ : GQuoteQuoted) recl3 v.1 v.2) hto hge ?_ ?_ (to - f).toNat n 0 f rfl (by omega) hf (Int.le_refl _)
 ·rw [key]
  have := gmx_range (f := fun m => prS c 1 m t.Articles) (z := 12000000) (by omega) (fun m => by have := prS_range c 1 m t.Articles ht; omega) (to - f).toNat f
  unfold grQ maxI
  split
  ·rfl
  ·rename_i h; congr 1; omega
 ·intro rec m z h3 h4
  show g_quote_quoted_sum_l4 n (⟨t, c, f, to⟩ : GQuoteQuoted) rec m z = _
  unfold g_quote_quoted_sum_l4
  simp only [ltI]
  rw [decide_eq_true h4, cond_true]
  refine (congrArg (fun o => Option.bind o _) (q_in1 n t c f to hn h1 h2 hc ht hl m (by omega))).trans ?_
  rw [Option.bind_some, wi_id (x := m + 1) (by omega) (by omega)]
 ·intro rec m z h3
  show g_quote_quoted_sum_l4 n (⟨t, c, f, to⟩ : GQuoteQuoted) rec m z = _
  unfold g_quote_quoted_sum_l4
  simp only [ltI]
  rw [decide_eq_false h3, cond_false]
end Go.Proofs
namespace Go.Proofs
open Go Go.Abs
set_option maxRecDepth 100000
set_option linter.unusedVariables false
def limB (f to e : Int) : Bool := decide (0 ≤ f ∧ f < to ∧ to - f ≤ 2880 ∧ to ≤ 52560000 ∧ 0 ≤ e ∧ e ≤ 480000)
theorem q_limits (n : Nat) (f to e : Int) (hb : i64b to) : g_quote_validLimits n f to e = some (limB f to e) := by
 unfold i64b at hb
 unfold g_quote_validLimits limB
 simp only [leI, ltI]
 by_cases c1 : 0 ≤ f
 rotate_left
 ·rw [decide_eq_false c1, cond_false, Option.bind_some, decide_eq_false (by omega)]
 rw [decide_eq_true c1, cond_true]
 by_cases c2 : f < to
 rotate_left
 ·rw [decide_eq_false c2, cond_false, Option.bind_some, decide_eq_false (by omega)]
 rw [decide_eq_true c2, cond_true, wi_id (x := to - f) (by omega) (by omega)]
 by_cases c3 : to - f ≤ 2880
 rotate_left
 ·rw [decide_eq_false c3, cond_false, Option.bind_some, decide_eq_false (by omega)]
 rw [decide_eq_true c3, cond_true]
 by_cases c4 : to ≤ 52560000
 rotate_left
 ·rw [decide_eq_false c4, cond_false, Option.bind_some, decide_eq_false (by omega)]
 rw [decide_eq_true c4, cond_true]
 by_cases c5 : 0 ≤ e
 rotate_left
 ·rw [decide_eq_false c5, cond_false, Option.bind_some, decide_eq_false (by omega)]
 rw [decide_eq_true c5, cond_true, Option.bind_some]
 congr 1
 by_cases c6 : e ≤ 480000
 ·rw [decide_eq_true c6, decide_eq_true (by omega)]
 ·rw [decide_eq_false c6, decide_eq_false (by omega)]
theorem r_limits (n : Nat) (f to e : Int) (hb : i64b to) : g_ref35_Limits n f to e = some (limB f to e) := by
 unfold i64b at hb
 unfold g_ref35_Limits limB
 simp only [leI, ltI]
 by_cases c1 : 0 ≤ f
 rotate_left
 ·rw [decide_eq_false c1, cond_false, Option.bind_some, decide_eq_false (by omega)]
 rw [decide_eq_true c1, cond_true]
 by_cases c2 : f < to
 rotate_left
 ·rw [decide_eq_false c2, cond_false, Option.bind_some, decide_eq_false (by omega)]
 rw [decide_eq_true c2, cond_true, wi_id (x := to - f) (by omega) (by omega)]
 by_cases c4 : to ≤ 52560000
 rotate_left
 ·rw [decide_eq_false c4, cond_false, Option.bind_some, decide_eq_false (by omega)]
 rw [decide_eq_true c4, cond_true]
 by_cases c3 : to - f ≤ 2880
 rotate_left
 ·rw [decide_eq_false c3, cond_false, Option.bind_some, decide_eq_false (by omega)]
 rw [decide_eq_true c3, cond_true]
 by_cases c5 : 0 ≤ e
 rotate_left
 ·rw [decide_eq_false c5, cond_false, Option.bind_some, decide_eq_false (by omega)]
 rw [decide_eq_true c5, cond_true, Option.bind_some]
 congr 1
 by_cases c6 : e ≤ 480000
 ·rw [decide_eq_true c6, decide_eq_true (by omega)]
 ·rw [decide_eq_false c6, decide_eq_false (by omega)]
theorem limB_spec {f to e : Int} (h : limB f to e = true) : 0 ≤ f ∧ f < to ∧ to - f ≤ 2880 ∧ to ≤ 52560000 ∧ 0 ≤ e ∧ e ≤ 480000 := by
 simpa [limB] using h
theorem q_count (n : Nat) (t : GTariff) (c : GCalendar) (f to : Int) (hn : 10000 ≤ n) (h1 : c.Changes.length ≤ 900) (h2 : c.Holidays.length ≤ 900) (hc : calB c = true) (hf : 0 ≤ f) (hto : to ≤ 52560000) (hd : to - f ≤ 2880) (a : GArticle) (ha : artB a = true) : g_quote_quoted_count n (⟨t, c, f, to⟩ : GQuoteQuoted) a = some (cN c a (to - f).toNat f) := by
 unfold g_quote_quoted_count
 have key : ∀ (k j : Nat) (z m : Int), (to - m).toNat = k → k < j → 0 ≤ m → k ≤ 2880 → 0 ≤ z ∧ z ≤ 3000 - k →
   loopN (fun recl2 (v : Int × Int) => g_quote_quoted_count_l2 n (⟨t, c, f, to⟩ : GQuoteQuoted) a recl2 v.1 v.2) j (m, z) = some (z + cN c a k m) := by
  intro k
  induction k with
  | zero =>
   intro j z m h3 h4 h5 h6 h7
   obtain ⟨j, rfl⟩ : ∃ j', j = j' + 1 := ⟨j - 1, by omega⟩
   unfold loopN
   simp only [g_quote_quoted_count_l2, ltI]
   rw [decide_eq_false (by omega), cond_false]
   simp [cN]
  | succ k ih =>
   intro j z m h3 h4 h5 h6 h7
   obtain ⟨j, rfl⟩ : ∃ j', j = j' + 1 := ⟨j - 1, by omega⟩
   have i0 := ih j z (m + 1) (by omega) (by omega) (by omega) (by omega) (by omega)
   have i1 := ih j (z + 1) (m + 1) (by omega) (by omega) (by omega) (by omega) (by omega)
   unfold loopN
   generalize loopN (fun recl2 (v : Int × Int) => g_quote_quoted_count_l2 n (⟨t, c, f, to⟩ : GQuoteQuoted) a recl2 v.1 v.2) j = L at i0 i1 ⊢
   show g_quote_quoted_count_l2 n (⟨t, c, f, to⟩ : GQuoteQuoted) a L m z = _
   unfold g_quote_quoted_count_l2
   simp only [ltI]
   rw [decide_eq_true (by omega), cond_true, b_applies n c a m (by omega) h1 h2 hc ha (by omega), Option.bind_some, wi_id (x := m + 1) (by omega) (by omega), wi_id (x := z + 1) (by omega) (by omega)]
   rw [show cN c a (k + 1) m = (if appB c a m then 1 else 0) + cN c a k (m + 1) from rfl]
   cases appB c a m
   ·rw [cond_false, Option.bind_some, i0]
    simp
   ·rw [cond_true, Option.bind_some, i1]
    simp
    omega
 have := key (to - f).toNat n 0 f rfl (by omega) hf (by omega) (by omega)
 rw [Int.zero_add] at this
 exact this
theorem q_cnt (n : Nat) (t : GTariff) (c : GCalendar) (f to : Int) (hn : 10000 ≤ n) (h1 : c.Changes.length ≤ 900) (h2 : c.Holidays.length ≤ 900) (hc : calB c = true) (ht : ∀ a ∈ t.Articles, artB a = true) (hl : t.Articles.length ≤ 12) (hf : 0 ≤ f) (hto : to ≤ 52560000) (hd : to - f ≤ 2880) (x : Int) (hx : 0 ≤ x ∧ x ≤ 6000000000) : loopN (fun recl12 (v : Int × Int) => g_quote_quoted_energy_l12 n (⟨t, c, f, to⟩ : GQuoteQuoted) recl12 v.1 v.2) n (x, 0) = some (x + enC c (to - f).toNat f t.Articles) := by
 have := loop_gen (l := t.Articles) (fun (a : Int) i => (a, i)) (B := fun recl12 (v : Int × Int) => g_quote_quoted_energy_l12 n (⟨t, c, f, to⟩ : GQuoteQuoted) recl12 v.1 v.2) (F := fun a r => a + enC c (to - f).toNat f r) (fun i a => 0 ≤ a ∧ a ≤ 6000000000 + i) (by omega) ?_ ?_ (n := n) 0 x (by omega) (by omega) (by omega)
 ·exact this
 ·intro rec a ha
  have h : ltI ((t.Articles.length : Nat) : Int) (lenI (List.map GArticle.cs t.Articles)) = false := by simp [ltI, lenI]
  show g_quote_quoted_energy_l12 n (⟨t, c, f, to⟩ : GQuoteQuoted) rec a ((t.Articles.length : Nat) : Int) = _
  unfold g_quote_quoted_energy_l12
  rw [h, cond_false]
  simp [enC]
 ·intro rec a i x r ha hdr hx hi hw hr
  have h3 : ltI (i : Int) (lenI (List.map GArticle.cs t.Articles)) = true := by
   simp only [ltI, lenI, List.length_map]
   rw [decide_eq_true (by omega)]
  have hxa := ht x (List.mem_of_getElem? hx)
  show g_quote_quoted_energy_l12 n (⟨t, c, f, to⟩ : GQuoteQuoted) rec a (i : Int) = some (a + enC c (to - f).toNat f (x :: r))
  unfold g_quote_quoted_energy_l12
  rw [h3, cond_true, getI_nat, hx, Option.bind_some, hw, eqI_d, q_count n t c f to hn h1 h2 hc hf hto hd x hxa, Option.bind_some, wi_id (x := a + 1) (by omega) (by omega), hr a (by omega), hr (a + 1) (by omega)]
  rw [show enC c (to - f).toNat f (x :: r) = (if x.Kind = 2 ∧ 0 < cN c x (to - f).toNat f then 1 else 0) + enC c (to - f).toNat f r from rfl]
  by_cases k2 : x.Kind = 2
  ·rw [decide_eq_true k2, cond_true, Option.bind_some]
   by_cases hp : 0 < cN c x (to - f).toNat f
   ·rw [show ltI 0 (cN c x (to - f).toNat f) = true from decide_eq_true hp, cond_true, if_pos ⟨k2, hp⟩, Int.add_assoc]
   ·rw [show ltI 0 (cN c x (to - f).toNat f) = false from decide_eq_false hp, cond_false, if_neg (fun h => hp h.2), Int.zero_add]
  ·rw [decide_eq_false k2, cond_false, Option.bind_some, cond_false, if_neg (fun h => k2 h.1), Int.zero_add]
theorem q_energy (n : Nat) (t : GTariff) (c : GCalendar) (f to : Int) (hn : 10000 ≤ n) (h1 : c.Changes.length ≤ 900) (h2 : c.Holidays.length ≤ 900) (hc : calB c = true) (ht : ∀ a ∈ t.Articles, artB a = true) (hl : t.Articles.length ≤ 12) (hf : 0 ≤ f) (hto : to ≤ 52560000) (hd : to - f ≤ 2880) (e : Int) (he : 0 ≤ e ∧ e ≤ 480000) : g_quote_quoted_energy n (⟨t, c, f, to⟩ : GQuoteQuoted) e = some (if eneQ c t.Articles (to - f).toNat f e ≤ 1000000000 then (eneQ c t.Articles (to - f).toNat f e, 0) else (0, 3)) := by
 unfold g_quote_quoted_energy eneQ
 rw [eqI_d]
 by_cases h0 : e = 0
 ·rw [decide_eq_true h0, cond_true, if_pos h0, if_pos (by omega)]
 rw [decide_eq_false h0, cond_false, if_neg h0]
 refine (congrArg (fun o => Option.bind o _) (q_gr2 n t c f to hn h1 h2 hc ht hl hf hto hd)).trans ?_
 have hg := grQ_range c t.Articles 2 (to - f).toNat f ht hl
 have hr := timE_range hg he
 have hE := enC_range c (to - f).toNat f t.Articles
 rw [Option.bind_some, b_times, q_times n _ e hg he, Option.bind_some]
 generalize timE (grQ c t.Articles 2 (to - f).toNat f) e = T at hr
 by_cases hT : T ≤ 1000000000
 ·rw [if_pos hT]
  simp only [eqI_d, decide_true, Bool.not_true, cond_false]
  refine (congrArg (fun o => Option.bind o _) (q_cnt n t c f to hn h1 h2 hc ht hl hf hto hd T hr)).trans ?_
  rw [Option.bind_some]
  by_cases hs : T + enC c (to - f).toNat f t.Articles ≤ 1000000000
  ·rw [if_pos hs, show ltI 1000000000 (T + enC c (to - f).toNat f t.Articles) = false from decide_eq_false (by omega), cond_false]
  ·rw [if_neg hs, show ltI 1000000000 (T + enC c (to - f).toNat f t.Articles) = true from decide_eq_true (by omega), cond_true]
 ·rw [if_neg hT, if_neg (by omega)]
  rfl
theorem q_tis (n : Nat) (t : GTariff) (c : GCalendar) (f to : Int) (hn : 10000 ≤ n) (h1 : c.Changes.length ≤ 900) (h2 : c.Holidays.length ≤ 900) (hc : calB c = true) (ht : ∀ a ∈ t.Articles, artB a = true) (hl : t.Articles.length ≤ 12) (hf : 0 ≤ f) (hto : to ≤ 52560000) (hd : to - f ≤ 2880) (x : Int) (hx : 0 ≤ x ∧ x ≤ 2000000000) : loopN (fun recl12 (v : Int × Int) => g_quote_quoted_sum_l12 n (⟨t, c, f, to⟩ : GQuoteQuoted) recl12 v.1 v.2) n (x, 0) = some (if x + tiS c (to - f).toNat f t.Articles ≤ 1000000000 then (x + tiS c (to - f).toNat f t.Articles, 0) else (0, 3)) := by
 have hj : (to - f).toNat ≤ 2880 := by omega
 have := loop_gen (l := t.Articles) (fun (a : Int) i => (a, i)) (B := fun recl12 (v : Int × Int) => g_quote_quoted_sum_l12 n (⟨t, c, f, to⟩ : GQuoteQuoted) recl12 v.1 v.2) (F := fun a r => if a + tiS c (to - f).toNat f r ≤ 1000000000 then (a + tiS c (to - f).toNat f r, 0) else (0, 3)) (fun i a => 0 ≤ a ∧ a ≤ 2000000000 + 1000000000 * i) (by omega) ?_ ?_ (n := n) 0 x (by omega) (by omega) (by omega)
 ·exact this
 ·intro rec a ha
  have h : ltI ((t.Articles.length : Nat) : Int) (lenI (List.map GArticle.cs t.Articles)) = false := by simp [ltI, lenI]
  show g_quote_quoted_sum_l12 n (⟨t, c, f, to⟩ : GQuoteQuoted) rec a ((t.Articles.length : Nat) : Int) = _
  unfold g_quote_quoted_sum_l12 g_quote_quoted_sum_j11
  rw [h, cond_false, show tiS c (to - f).toNat f [] = 0 from rfl, Int.add_zero]
  by_cases hs : a ≤ 1000000000
  ·rw [if_pos hs, show ltI 1000000000 a = false from decide_eq_false (by omega), cond_false]
  ·rw [if_neg hs, show ltI 1000000000 a = true from decide_eq_true (by omega), cond_true]
 ·intro rec a i x r ha hdr hx hi hw hr
  have h3 : ltI (i : Int) (lenI (List.map GArticle.cs t.Articles)) = true := by
   simp only [ltI, lenI, List.length_map]
   rw [decide_eq_true (by omega)]
  have hxa := ht x (List.mem_of_getElem? hx)
  have hA := artB_art hxa
  have htr := tiS_range c (to - f).toNat f hj r (fun y hy => ht y (by
   have : y ∈ t.Articles.drop i := by rw [hdr]; exact List.mem_cons_of_mem _ hy
   exact List.mem_of_mem_drop this))
  show g_quote_quoted_sum_l12 n (⟨t, c, f, to⟩ : GQuoteQuoted) rec a (i : Int) = _
  unfold g_quote_quoted_sum_l12
  rw [h3, cond_true, getI_nat, hx, Option.bind_some, hw, eqI_d, eqI_d]
  rw [show tiS c (to - f).toNat f (x :: r) = (if x.Kind = 3 ∨ x.Kind = 4 then tiA c (to - f).toNat f x else 0) + tiS c (to - f).toNat f r from rfl]
  by_cases k : x.Kind = 3 ∨ x.Kind = 4
  rotate_left
  ·have e : (bif !decide (x.Kind = 3) then some (!decide (x.Kind = 4)) else some false) = some true := by
    rw [decide_eq_false (fun h => k (Or.inl h)), decide_eq_false (fun h => k (Or.inr h))]; rfl
   rw [e, Option.bind_some, cond_true, if_neg k, Int.zero_add, hr a (by omega)]
  ·have e : (bif !decide (x.Kind = 3) then some (!decide (x.Kind = 4)) else some false) = some false := by
    rcases k with k | k
    ·rw [decide_eq_true k]; rfl
    ·rw [decide_eq_true k, decide_eq_false (show ¬ x.Kind = 3 by omega)]; rfl
   have hU := hA.unit k
   have hcn := cN_range c x (to - f).toNat f
   have hq : 0 ≤ maxI 0 (cN c x (to - f).toNat f - x.Free) ∧ maxI 0 (cN c x (to - f).toNat f - x.Free) ≤ 2880 := by unfold maxI; split <;> omega
   have hti := tiA_range c (to - f).toNat f x hxa k hj
   rw [e, Option.bind_some, cond_false, if_pos k, q_count n t c f to hn h1 h2 hc hf hto hd x hxa, Option.bind_some, b_started, wi_id (x := cN c x (to - f).toNat f - x.Free) (by omega) (by omega),
    q_started n x.Price _ x.Unit hA.price hq ⟨hU.1, hU.2.1⟩, Option.bind_some]
   rw [show cstM x.Price (maxI 0 (cN c x (to - f).toNat f - x.Free)) x.Unit = tiA c (to - f).toNat f x from rfl]
   generalize tiA c (to - f).toNat f x = A at hti
   by_cases hA1 : A ≤ 1000000000
   ·rw [if_pos hA1]
    simp only [eqI_d, decide_true, Bool.not_true, cond_false]
    rw [wi_id (x := a + A) (by omega) (by omega), hr (a + A) (by omega), Int.add_assoc]
   ·rw [if_neg hA1, if_neg (by omega)]
    rfl
theorem q_sum (n : Nat) (t : GTariff) (c : GCalendar) (f to : Int) (hn : 10000 ≤ n) (h1 : c.Changes.length ≤ 900) (h2 : c.Holidays.length ≤ 900) (hc : calB c = true) (ht : ∀ a ∈ t.Articles, artB a = true) (hl : t.Articles.length ≤ 12) (hf : 0 ≤ f) (hto : to ≤ 52560000) (hd : to - f ≤ 2880) (e : Int) (he : 0 ≤ e ∧ e ≤ 480000) : g_quote_quoted_sum n (⟨t, c, f, to⟩ : GQuoteQuoted) e = some (if sumQ c t.Articles (to - f).toNat f e ≤ 1000000000 then (sumQ c t.Articles (to - f).toNat f e, 0) else (0, 3)) := by
 unfold g_quote_quoted_sum sumQ
 rw [q_energy n t c f to hn h1 h2 hc ht hl hf hto hd e he, Option.bind_some]
 have hg := grQ_range c t.Articles 1 (to - f).toNat f ht hl
 have hti := tiS_range c (to - f).toNat f (by omega) t.Articles ht
 have hE : 0 ≤ eneQ c t.Articles (to - f).toNat f e := by
  unfold eneQ
  split
  ·omega
  ·have := timE_range (grQ_range c t.Articles 2 (to - f).toNat f ht hl) he
   have := enC_range c (to - f).toNat f t.Articles
   omega
 generalize eneQ c t.Articles (to - f).toNat f e = E at hE
 by_cases hE1 : E ≤ 1000000000
 ·rw [if_pos hE1]
  simp only [eqI_d, decide_true, Bool.not_true, cond_false]
  refine (congrArg (fun o => Option.bind o _) (q_gr1 n t c f to hn h1 h2 hc ht hl hf hto hd)).trans ?_
  rw [Option.bind_some, wi_id (x := E + grQ c t.Articles 1 (to - f).toNat f) (by omega) (by omega)]
  exact q_tis n t c f to hn h1 h2 hc ht hl hf hto hd _ (by omega)
 ·rw [if_neg hE1, if_neg (by omega)]
  rfl
def quoV (t : GTariff) (c : GCalendar) (f to e : Int) : Int × Int :=
 if (tariffB t && calB c && limB f to e) = true then
  (if sumQ c t.Articles (to - f).toNat f e ≤ 1000000000 then
   (if capF (sumQ c t.Articles (to - f).toNat f e) t.Articles + taxF (capF (sumQ c t.Articles (to - f).toNat f e) t.Articles) (rateF 0 t.Articles) ≤ 1000000000 then (capF (sumQ c t.Articles (to - f).toNat f e) t.Articles + taxF (capF (sumQ c t.Articles (to - f).toNat f e) t.Articles) (rateF 0 t.Articles), 0) else (0, 3))
  else (0, 3)) else (0, 1)
theorem sumQ_nonneg (c : GCalendar) (l : List GArticle) (j : Nat) (m e : Int) (h : ∀ a ∈ l, artB a = true) (hl : l.length ≤ 12) (hj : j ≤ 2880) (he : 0 ≤ e ∧ e ≤ 480000) : 0 ≤ sumQ c l j m e := by
 have h1 := grQ_range c l 1 j m h hl
 have h2 := tiS_range c j m hj l h
 have h3 : 0 ≤ eneQ c l j m e := by
  unfold eneQ
  split
  ·omega
  ·have := timE_range (grQ_range c l 2 j m h hl) he
   have := enC_range c j m l
   omega
 unfold sumQ
 omega
theorem capF_range : ∀ (l : List GArticle) (z : Int), (∀ a ∈ l, 0 ≤ a.Price) → 0 ≤ z → 0 ≤ capF z l ∧ capF z l ≤ z
 | [], z, _, h => ⟨h, Int.le_refl _⟩
 | a :: r, z, hp, h => by
  have ha := hp a List.mem_cons_self
  rw [show capF z (a :: r) = capF (if a.Kind = 5 then minI z a.Price else z) r from rfl]
  have hz : 0 ≤ (if a.Kind = 5 then minI z a.Price else z) ∧ (if a.Kind = 5 then minI z a.Price else z) ≤ z := by
   split
   ·unfold minI; split <;> omega
   ·omega
  have := capF_range r _ (fun x hx => hp x (List.mem_cons_of_mem _ hx)) hz.1
  omega
theorem rateQ {l : List GArticle} (h : ∀ a ∈ l, artB a = true) : 0 ≤ rateF 0 l ∧ rateF 0 l ≤ 10000 := rateF_range l 0 (fun a ha => ⟨(artB_art (h a ha)).price.1, (artB_art (h a ha)).rate⟩) (by omega)
theorem q_caps (n : Nat) (t : GTariff) (z : Int) (hn : 1000 ≤ n) (hl : t.Articles.length ≤ 900) : loopN (fun recl9 (v : Int × Int × Int) => g_quote_Quote_l9 t recl9 v.1 v.2.1 v.2.2) n (z, 0, 0) = some (capF z t.Articles, rateF 0 t.Articles) := by
 have := loop_gen (l := t.Articles) (fun (a : Int × Int) i => (a.1, a.2, i)) (B := fun recl9 (v : Int × Int × Int) => g_quote_Quote_l9 t recl9 v.1 v.2.1 v.2.2) (F := fun a r => (capF a.1 r, rateF a.2 r)) (fun _ _ => True) (by omega) ?_ ?_ (n := n) 0 (z, 0) trivial (by omega) (by omega)
 ·exact this
 ·intro rec a _
  have h : ltI ((t.Articles.length : Nat) : Int) (lenI (List.map GArticle.cs t.Articles)) = false := by simp [ltI, lenI]
  show g_quote_Quote_l9 t rec a.1 a.2 ((t.Articles.length : Nat) : Int) = _
  unfold g_quote_Quote_l9
  rw [h]; rfl
 ·intro rec a i x r _ hd hx hi hw hr
  have h3 : ltI (i : Int) (lenI (List.map GArticle.cs t.Articles)) = true := by
   simp only [ltI, lenI, List.length_map]
   rw [decide_eq_true (by omega)]
  have hr' := fun (u v : Int) => hr (u, v) trivial
  simp only at hr'
  show g_quote_Quote_l9 t rec a.1 a.2 (i : Int) = some (capF a.1 (x :: r), rateF a.2 (x :: r))
  unfold g_quote_Quote_l9
  rw [h3, cond_true, getI_nat, hx, Option.bind_some, hw, eqI_d, eqI_d, hr', hr', hr']
  rw [show capF a.1 (x :: r) = capF (if x.Kind = 5 then minI a.1 x.Price else a.1) r from rfl, show rateF a.2 (x :: r) = rateF (if x.Kind = 6 then x.Price else a.2) r from rfl]
  by_cases k5 : x.Kind = 5
  ·rw [decide_eq_true k5, cond_true, if_pos k5, if_neg (by omega)]
  ·rw [decide_eq_false k5, cond_false, if_neg k5]
   by_cases k6 : x.Kind = 6
   ·rw [decide_eq_true k6, cond_true, if_pos k6]
   ·rw [decide_eq_false k6, cond_false, if_neg k6]
theorem tariffB_spec {t : GTariff} (h : tariffB t = true) : (∀ a ∈ t.Articles, artB a = true) ∧ t.Articles.length ≤ 12 := by
 simp only [tariffB, Bool.and_eq_true, decide_eq_true_eq] at h
 exact ⟨tarB_all h.2, h.1.2⟩
theorem q_quote (n : Nat) (t : GTariff) (c : GCalendar) (f to e : Int) (hn : 10000 ≤ n) (h1 : c.Changes.length ≤ 900) (h2 : c.Holidays.length ≤ 900) (hb : i64b to) : g_quote_Quote n t c f to e = some (quoV t c f to e) := by
 unfold g_quote_Quote quoV
 rw [b_tariff n t (by omega), b_cal n c (by omega) h1 h2, q_limits n f to e hb]
 simp only [Option.bind_some, cond_some]
 cases ht : tariffB t
 ·rfl
 cases hc : calB c
 ·rfl
 cases hv : limB f to e
 ·rfl
 have hL := limB_spec hv
 obtain ⟨hall, hlen⟩ := tariffB_spec ht
 simp only [Bool.not_true, cond_false, Bool.and_self, if_true]
 rw [q_sum n t c f to hn h1 h2 hc hall hlen hL.1 (by omega) (by omega) e (by omega), Option.bind_some]
 have hs := sumQ_nonneg c t.Articles (to - f).toNat f e hall hlen (by omega) (by omega)
 generalize sumQ c t.Articles (to - f).toNat f e = Z at hs
 by_cases hz : Z ≤ 1000000000
 ·rw [if_pos hz, if_pos hz]
  simp only [eqI_d, decide_true, Bool.not_true, cond_false]
  refine (congrArg (fun o => Option.bind o _) (q_caps n t Z (by omega) (by omega))).trans ?_
  have hcap := capF_range t.Articles Z (fun a ha => (artB_art (hall a ha)).price.1) hs
  have hrt := rateQ hall
  rw [Option.bind_some]
  generalize capF Z t.Articles = N at hcap
  generalize rateF 0 t.Articles = R at hrt
  obtain ⟨g1, g2, g3⟩ := r_tax n N R (by omega) hrt
  simp only
  rw [b_tax, g1, Option.bind_some, wi_id (x := N + taxF N R) (by omega) (by omega)]
  simp only [decide_true, Bool.not_true, cond_false]
  by_cases hs2 : N + taxF N R ≤ 1000000000
  ·rw [if_pos hs2, show ltI 1000000000 (N + taxF N R) = false from decide_eq_false (by omega), cond_false]
  ·rw [if_neg hs2, show ltI 1000000000 (N + taxF N R) = true from decide_eq_true (by omega), cond_true]
 ·rw [if_neg hz, if_neg hz]
  rfl
def covB (s : GSession) (f to e : Int) : Bool := limB f to e && valB s && decide (f ≤ s.From) && decide (s.To ≤ to) && decide (sumS s.Slices ≤ e)
theorem q_covers (n : Nat) (s : GSession) (f to e : Int) (hn : 1000 ≤ n) (hl : s.Slices.length ≤ 900) (hb : i64b to) (hs : i64b s.To) : g_quote_Covers n s f to e = some (covB s f to e) := by
 unfold g_quote_Covers covB
 rw [q_limits n f to e hb, b_session n s hn hl hs]
 simp only [Option.bind_some, cond_some, ltI]
 cases hv : limB f to e
 ·rfl
 cases hw : valB s
 ·rfl
 obtain ⟨g1, g2⟩ := val_sl hw
 have hloop : loopN (fun recl7 (v : Int × Int) => g_quote_Covers_l7 s e recl7 v.1 v.2) n (0, 0) = some (decide (sumS s.Slices ≤ e)) := by
  have := loop_gen (l := s.Slices) (fun (a : Int) i => (a, i)) (B := fun recl7 (v : Int × Int) => g_quote_Covers_l7 s e recl7 v.1 v.2) (F := fun a r => decide (a + sumS r ≤ e)) (fun i a => 0 ≤ a ∧ a ≤ 10000 * i) (by omega) ?_ ?_ (n := n) 0 0 (by omega) (by omega) (by omega)
  ·rw [show ((0 : Nat) : Int) = 0 from rfl] at this
   rw [this]
   simp
  ·intro rec a ha
   have h : ltI ((s.Slices.length : Nat) : Int) (lenI (List.map GSlice.cs s.Slices)) = false := by simp [ltI, lenI]
   show g_quote_Covers_l7 s e rec a ((s.Slices.length : Nat) : Int) = _
   unfold g_quote_Covers_l7
   rw [h, cond_false, show sumS [] = 0 from rfl, Int.add_zero]
   rfl
  ·intro rec a i x r ha hd hx hi hw' hr
   have h3 : ltI (i : Int) (lenI (List.map GSlice.cs s.Slices)) = true := by
    simp only [ltI, lenI, List.length_map]
    rw [decide_eq_true (by omega)]
   have hxm := g2 x (List.mem_of_getElem? hx)
   show g_quote_Covers_l7 s e rec a (i : Int) = _
   unfold g_quote_Covers_l7
   rw [h3, cond_true, getI_nat, hx, Option.bind_some, hw', wi_id (x := a + x.Energy) (by omega) (by omega), hr _ (by omega), show sumS (x :: r) = x.Energy + sumS r from rfl, Int.add_assoc]
 by_cases c1 : s.From < f
 ·rw [decide_eq_true c1, decide_eq_false (show ¬ f ≤ s.From by omega)]; rfl
 rw [decide_eq_false c1, decide_eq_true (show f ≤ s.From by omega)]
 by_cases c2 : to < s.To
 ·rw [decide_eq_true c2, decide_eq_false (show ¬ s.To ≤ to by omega)]; rfl
 rw [decide_eq_false c2, decide_eq_true (show s.To ≤ to by omega)]
 exact hloop
theorem r_covers (n : Nat) (s : GSession) (f to e : Int) (hn : 1000 ≤ n) (hl : s.Slices.length ≤ 900) (hb : i64b to) (hs : i64b s.From) : g_ref35_Covers n s f to e = some (covB s f to e) := by
 unfold g_ref35_Covers covB
 rw [r_limits n f to e hb, r_session_valid n s hn hl hs]
 simp only [Option.bind_some, cond_some, ltI]
 cases hv : limB f to e
 ·rfl
 cases hw : valB s
 ·rfl
 obtain ⟨g1, g2⟩ := val_sl hw
 have hloop : loopN (fun recl7 (v : Int × Int) => g_ref35_Covers_l7 s e recl7 v.1 v.2) n (0, 0) = some (decide (sumS s.Slices ≤ e)) := by
  have := loop_gen (l := s.Slices) (fun (a : Int) i => (a, i)) (B := fun recl7 (v : Int × Int) => g_ref35_Covers_l7 s e recl7 v.1 v.2) (F := fun a r => decide (a + sumS r ≤ e)) (fun i a => 0 ≤ a ∧ a ≤ 10000 * i) (by omega) ?_ ?_ (n := n) 0 0 (by omega) (by omega) (by omega)
  ·rw [show ((0 : Nat) : Int) = 0 from rfl] at this
   rw [this]
   simp
  ·intro rec a ha
   have h : ltI ((s.Slices.length : Nat) : Int) (lenI (List.map GSlice.cs s.Slices)) = false := by simp [ltI, lenI]
   show g_ref35_Covers_l7 s e rec a ((s.Slices.length : Nat) : Int) = _
   unfold g_ref35_Covers_l7
   rw [h, cond_false, show sumS [] = 0 from rfl, Int.add_zero]
   rfl
  ·intro rec a i x r ha hd hx hi hw' hr
   have h3 : ltI (i : Int) (lenI (List.map GSlice.cs s.Slices)) = true := by
    simp only [ltI, lenI, List.length_map]
    rw [decide_eq_true (by omega)]
   have hxm := g2 x (List.mem_of_getElem? hx)
   show g_ref35_Covers_l7 s e rec a (i : Int) = _
   unfold g_ref35_Covers_l7
   rw [h3, cond_true, getI_nat, hx, Option.bind_some, hw', wi_id (x := a + x.Energy) (by omega) (by omega), hr _ (by omega), show sumS (x :: r) = x.Energy + sumS r from rfl, Int.add_assoc]
 by_cases c1 : s.From < f
 ·rw [decide_eq_true c1, decide_eq_false (show ¬ f ≤ s.From by omega)]; rfl
 rw [decide_eq_false c1, decide_eq_true (show f ≤ s.From by omega)]
 by_cases c2 : to < s.To
 ·rw [decide_eq_true c2, decide_eq_false (show ¬ s.To ≤ to by omega)]; rfl
 rw [decide_eq_false c2, decide_eq_true (show s.To ≤ to by omega)]
 exact hloop
end Go.Proofs
namespace Go.Proofs
open Go Go.Abs
set_option maxRecDepth 100000
set_option linter.unusedVariables false
theorem head35_big : g_law35_head 36893488147419103232 = some true := by kernel_rfl
theorem few35 (n : Nat) (t : GTariff) (k : GCalendar) (s : GSession) : ∃ b, g_ref35_Few n t k s = some b ∧ (b = true → t.Articles.length ≤ 20 ∧ s.Slices.length ≤ 60 ∧ k.Changes.length ≤ 30 ∧ k.Holidays.length ≤ 60 ∧ t.Name.length ≤ 40) := by
 unfold g_ref35_Few g_ref32_Few g_ref26_Few
 simp only [cond_some, Option.bind_some, lenI, List.length_map, leI]
 refine ⟨_, rfl, fun h => ?_⟩
 simp [Bool.cond_eq_ite] at h
 omega
end Go.Proofs
namespace Go.Proofs
open Go Go.Abs
set_option maxRecDepth 100000
set_option linter.unusedVariables false
theorem r_count (n : Nat) (c : GCalendar) (f to : Int) (a : GArticle) (hn : 10000 ≤ n) (h1 : c.Changes.length ≤ 900) (h2 : c.Holidays.length ≤ 900) (hc : calB c = true) (hf : 0 ≤ f) (hto : to ≤ 52560000) (hd : to - f ≤ 2880) (ha : artB a = true) : g_ref35_Minutes n a c f to = some (cN c a (to - f).toNat f) := by
 unfold g_ref35_Minutes
 have key : ∀ (k j : Nat) (z m : Int), (to - m).toNat = k → k < j → 0 ≤ m → k ≤ 2880 → 0 ≤ z ∧ z ≤ 3000 - k →
   loopN (fun recl1 (v : Int × Int) => g_ref35_Minutes_l1 n a c to recl1 v.1 v.2) j (z, m) = some (z + cN c a k m) := by
  intro k
  induction k with
  | zero =>
   intro j z m h3 h4 h5 h6 h7
   obtain ⟨j, rfl⟩ : ∃ j', j = j' + 1 := ⟨j - 1, by omega⟩
   unfold loopN
   simp only [g_ref35_Minutes_l1, ltI]
   rw [decide_eq_false (by omega), cond_false]
   simp [cN]
  | succ k ih =>
   intro j z m h3 h4 h5 h6 h7
   obtain ⟨j, rfl⟩ : ∃ j', j = j' + 1 := ⟨j - 1, by omega⟩
   have i0 := ih j z (m + 1) (by omega) (by omega) (by omega) (by omega) (by omega)
   have i1 := ih j (z + 1) (m + 1) (by omega) (by omega) (by omega) (by omega) (by omega)
   unfold loopN
   generalize loopN (fun recl1 (v : Int × Int) => g_ref35_Minutes_l1 n a c to recl1 v.1 v.2) j = L at i0 i1 ⊢
   show g_ref35_Minutes_l1 n a c to L z m = _
   unfold g_ref35_Minutes_l1
   simp only [ltI]
   rw [decide_eq_true (by omega), cond_true, r_applies n c a m (by omega) h1 h2 hc ha (by omega), Option.bind_some, wi_id (x := m + 1) (by omega) (by omega), wi_id (x := z + 1) (by omega) (by omega)]
   rw [show cN c a (k + 1) m = (if appB c a m then 1 else 0) + cN c a k (m + 1) from rfl]
   cases appB c a m
   ·rw [cond_false, i0]
    simp
   ·rw [cond_true, i1]
    simp
    omega
 have := key (to - f).toNat n 0 f rfl (by omega) hf (by omega) (by omega)
 rw [Int.zero_add] at this
 exact this
theorem r_greatest (n : Nat) (t : GTariff) (c : GCalendar) (kk f to : Int) (hn : 10000 ≤ n) (h1 : c.Changes.length ≤ 900) (h2 : c.Holidays.length ≤ 900) (hc : calB c = true) (ht : ∀ a ∈ t.Articles, artB a = true) (hl : t.Articles.length ≤ 12) (hf : 0 ≤ f) (hto : to ≤ 52560000) (hd : to - f ≤ 2880) :
  g_ref35_Greatest n t c kk f to = some (grQ c t.Articles kk (to - f).toNat f) := by
 unfold g_ref35_Greatest
 have key : ∀ (k j : Nat) (z m : Int), (to - m).toNat = k → k < j → 0 ≤ m → 0 ≤ z → loopN (fun recl1 (v : Int × Int) => g_ref35_Greatest_l1 n t c kk to recl1 v.1 v.2) j (z, m) = some (maxI z (gmx (fun m => prS c kk m t.Articles) k m)) := by
  intro k
  induction k with
  | zero =>
   intro j z m h3 h4 h5 h6
   obtain ⟨j, rfl⟩ : ∃ j', j = j' + 1 := ⟨j - 1, by omega⟩
   unfold loopN
   simp only [g_ref35_Greatest_l1, ltI]
   rw [decide_eq_false (by omega), cond_false]
   unfold gmx maxI
   rw [if_neg (by omega)]
  | succ k ih =>
   intro j z m h3 h4 h5 h6
   obtain ⟨j, rfl⟩ : ∃ j', j = j' + 1 := ⟨j - 1, by omega⟩
   have i0 := fun z' (hz : 0 ≤ z') => ih j z' (m + 1) (by omega) (by omega) (by omega) hz
   unfold loopN
   generalize loopN (fun recl1 (v : Int × Int) => g_ref35_Greatest_l1 n t c kk to recl1 v.1 v.2) j = L at i0 ⊢
   show g_ref35_Greatest_l1 n t c kk to L z m = _
   unfold g_ref35_Greatest_l1
   simp only [ltI]
   rw [decide_eq_true (by omega), cond_true]
   have := loop_gen (l := t.Articles) (fun (a : Int) i => (a, i)) (B := fun recl2 (v : Int × Int) => g_ref35_Greatest_l2 n t c kk z m L recl2 v.1 v.2) (F := fun a r => maxI (maxI z (a + prS c kk m r)) (gmx (fun m => prS c kk m t.Articles) k (m + 1))) (fun i a => 0 ≤ a ∧ a ≤ 1000000 * i) (by omega) ?_ ?_ (n := n) 0 0 (by omega) (by omega) (by omega)
   ·refine this.trans ?_
    simp only [List.drop_zero, Int.zero_add]
    rw [maxI_assoc]
    rfl
   ·intro rec a ha
    have h : ltI ((t.Articles.length : Nat) : Int) (lenI (List.map GArticle.cs t.Articles)) = false := by simp [ltI, lenI]
    show g_ref35_Greatest_l2 n t c kk z m L rec a ((t.Articles.length : Nat) : Int) = _
    unfold g_ref35_Greatest_l2
    rw [h, cond_false, wi_id (x := m + 1) (by omega) (by omega), i0 _ (Int.le_trans h6 (maxI_l _ _)), show prS c kk m [] = 0 from rfl, Int.add_zero]
   ·intro rec a i x r ha hdr hx hi hw hr
    have h3 : ltI (i : Int) (lenI (List.map GArticle.cs t.Articles)) = true := by
     simp only [ltI, lenI, List.length_map]
     rw [decide_eq_true (by omega)]
    have hxa := ht x (List.mem_of_getElem? hx)
    have hp := (artB_art hxa).price
    show g_ref35_Greatest_l2 n t c kk z m L rec a (i : Int) = _
    unfold g_ref35_Greatest_l2
    rw [h3, cond_true, getI_nat, hx, Option.bind_some, hw, eqI_d, r_applies n c x m (by omega) h1 h2 hc hxa (by omega), Option.bind_some, wi_id (x := a + x.Price) (by omega) (by omega), hr a (by omega), hr (a + x.Price) (by omega)]
    rw [show prS c kk m (x :: r) = (if x.Kind = kk ∧ appB c x m = true then x.Price else 0) + prS c kk m r from rfl]
    by_cases k2 : x.Kind = kk
    ·rw [decide_eq_true k2, cond_true, Option.bind_some]
     cases happ : appB c x m
     ·rw [cond_false, if_neg (by simp), Int.zero_add]
     ·rw [cond_true, if_pos ⟨k2, rfl⟩, Int.add_assoc]
    ·rw [decide_eq_false k2, cond_false, Option.bind_some, cond_false, if_neg (fun h => k2 h.1), Int.zero_add]
 have := key (to - f).toNat n 0 f rfl (by omega) hf (Int.le_refl _)
 refine this.trans ?_
 have hr := grQ_range c t.Articles kk (to - f).toNat f ht hl
 unfold grQ at hr ⊢
 unfold maxI
 split
 ·rfl
 ·congr 1; omega
def tiL (c : GCalendar) (j : Nat) (m : Int) : List GArticle → List Int
 | [] => []
 | a :: r => if a.Kind = 3 ∨ a.Kind = 4 then tiA c j m a :: tiL c j m r else tiL c j m r
def sumL : List Int → Int
 | [] => 0
 | x :: r => x + sumL r
theorem sumL_app : ∀ (x y : List Int), sumL (x ++ y) = sumL x + sumL y
 | [], y => by
  show sumL y = 0 + sumL y
  omega
 | a :: x, y => by
  rw [List.cons_append, show sumL (a :: (x ++ y)) = a + sumL (x ++ y) from rfl, sumL_app x y, show sumL (a :: x) = a + sumL x from rfl]
  omega
theorem tiL_sum (c : GCalendar) (j : Nat) (m : Int) : ∀ (l : List GArticle), sumL (tiL c j m l) = tiS c j m l ∧ (tiL c j m l).length ≤ l.length
 | [] => ⟨rfl, Nat.le_refl _⟩
 | a :: r => by
  obtain ⟨h1, h2⟩ := tiL_sum c j m r
  rw [show tiL c j m (a :: r) = if a.Kind = 3 ∨ a.Kind = 4 then tiA c j m a :: tiL c j m r else tiL c j m r from rfl, show tiS c j m (a :: r) = (if a.Kind = 3 ∨ a.Kind = 4 then tiA c j m a else 0) + tiS c j m r from rfl]
  by_cases k : a.Kind = 3 ∨ a.Kind = 4
  ·rw [if_pos k, if_pos k, show sumL (tiA c j m a :: tiL c j m r) = tiA c j m a + sumL (tiL c j m r) from rfl, h1]
   exact ⟨rfl, by simp only [List.length_cons]; omega⟩
  ·rw [if_neg k, if_neg k, h1]
   exact ⟨by omega, by simp only [List.length_cons]; omega⟩
theorem tiL_range (c : GCalendar) (j : Nat) (m : Int) (hj : j ≤ 2880) : ∀ (l : List GArticle), (∀ a ∈ l, artB a = true) → ∀ x ∈ tiL c j m l, 0 ≤ x ∧ x ≤ 2880000000
 | [], _, x, hx => by cases hx
 | a :: r, h, x, hx => by
  rw [show tiL c j m (a :: r) = if a.Kind = 3 ∨ a.Kind = 4 then tiA c j m a :: tiL c j m r else tiL c j m r from rfl] at hx
  split at hx
  ·rename_i k
   rcases List.mem_cons.1 hx with rfl | hx
   ·exact tiA_range c j m a (h a List.mem_cons_self) k hj
   ·exact tiL_range c j m hj r (fun y hy => h y (List.mem_cons_of_mem _ hy)) x hx
  ·exact tiL_range c j m hj r (fun y hy => h y (List.mem_cons_of_mem _ hy)) x hx
def allM (l : List Int) : Bool := l.all fun x => decide (x ≤ 1000000000)
end Go.Proofs
