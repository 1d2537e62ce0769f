/-
  A part of the proof of a statement of the seat YtfkhnaogcahcoaaGreat.
-/
import Derived.Test.YtfkhnaogcahcoaaGreatMat04
namespace Go.Proofs
open Go Go.Abs
set_option maxRecDepth 100000
set_option linter.unusedVariables false
theorem g_ref33_Line_ok (n : Nat) (a0a : GAr) (a1c : GCl) (a2s : GSs) : ∀ r, g_ref33_Line n a0a a1c a2s = some r → PCall Tryz.prog 34 [ag (GAr.cs a0a), ag (GCl.cs a1c), ag (GSs.cs a2s)] (.ret (.tup [I r.1, I r.2])) := by
 refine pcall_sim (X := fun r : Int × Int => AEnd.ret (.tup [I r.1, I r.2])) Tryz.func34 rfl Tryz.ntmps34 rfl ?_
 unfold g_ref33_Line
 refine sR tfm ⟨[3, 4, 5], [3, 4, 5], [], []⟩ ⟨[(3, .ptr 3 0), (4, .ptr 4 0), (5, .ptr 5 0)], [(3, .box 45 (bxc (GAr.cs a0a))), (4, .box 28 (bxc (GCl.cs a1c))), (5, .box 31 (bxc (GSs.cs a2s)))]⟩ krf ?_
 refine sS ?_
 refine sG ?_
 refine xR 1 krf ?_
 refine xC [] krf (g_ref32_Article_ok n a0a) krf krf (fun _ => by kernel_rfl) (fun r1 => ?_)
 refine xR 1 krf ?_
 refine xE ?_
 refine sN ⟨[3, 4, 5, 8], [3, 4, 5], [], []⟩ ⟨[(3, .ptr 3 0), (4, .ptr 4 0), (5, .ptr 5 0), (8, B r1)], [(3, .box 45 (bxc (GAr.cs a0a))), (4, .box 28 (bxc (GCl.cs a1c))), (5, .box 31 (bxc (GSs.cs a2s)))]⟩ krf ?_
 refine sS ?_
 refine sG ?_
 refine xR 1 krf ?_
 refine xC [] krf (g_ref26_Valid_ok n a1c) krf krf (fun _ => by kernel_rfl) (fun r2 => ?_)
 refine xR 1 krf ?_
 refine xE ?_
 refine sN ⟨[3, 4, 5, 8, 9], [3, 4, 5], [], []⟩ ⟨[(3, .ptr 3 0), (4, .ptr 4 0), (5, .ptr 5 0), (8, B r1), (9, B r2)], [(3, .box 45 (bxc (GAr.cs a0a))), (4, .box 28 (bxc (GCl.cs a1c))), (5, .box 31 (bxc (GSs.cs a2s)))]⟩ krf ?_
 refine sS ?_
 refine sG ?_
 refine xR 1 krf ?_
 refine xC [] krf (g_ref33_Valid_ok n a2s) krf krf (fun _ => by kernel_rfl) (fun r3 => ?_)
 refine xR 1 krf ?_
 refine xE ?_
 refine sN ⟨[3, 4, 5, 8, 9, 10], [3, 4, 5], [], []⟩ ⟨[(3, .ptr 3 0), (4, .ptr 4 0), (5, .ptr 5 0), (8, B r1), (9, B r2), (10, B r3)], [(3, .box 45 (bxc (GAr.cs a0a))), (4, .box 28 (bxc (GCl.cs a1c))), (5, .box 31 (bxc (GSs.cs a2s)))]⟩ krf ?_
 refine sS ?_
 refine sim_bind (fun j4 => ⟨[(3, .ptr 3 0), (4, .ptr 4 0), (5, .ptr 5 0), (26, B j4)], [(3, .box 45 (bxc (GAr.cs a0a))), (4, .box 28 (bxc (GCl.cs a1c))), (5, .box 31 (bxc (GSs.cs a2s)))]⟩ : Bool → St) ?_ ?_
 ·refine sG ?_
  refine xR 3 krf ?_
  refine xS (!r1) (fun h5 => ?_) (fun h5 => ?_)
  ·refine xN (want_ft krf h5) krf ?_
   refine xR 6 krf ?_
   refine xE ?_
   exact nq_n true ⟨[3, 4, 5, 26], [3, 4, 5], [], []⟩ krf
  ·refine xO (want_ff krf h5) krf ?_
   refine xR 3 krf ?_
   refine xS (!r2) (fun h6 => ?_) (fun h6 => ?_)
   ·refine xN (want_ft krf h6) krf ?_
    refine xR 2 krf ?_
    refine xE ?_
    exact nq_n true ⟨[3, 4, 5, 26], [3, 4, 5], [], []⟩ krf
   ·refine xO (want_ff krf h6) krf ?_
    refine xR 2 krf ?_
    refine xE ?_
    exact nq_n (!r3) ⟨[3, 4, 5, 26], [3, 4, 5], [], []⟩ krf
 ·rintro j4
  refine sC j4 krf ?_ ?_
  ·refine sR tfm ⟨[6, 7], [], [], []⟩ ⟨[(6, I 0), (7, I 1)], []⟩ krf ?_
   refine sT ?_
   refine sq_r ?_
   exact qR (.id) krf krf krf
  ·refine sK ?_
   refine sN ⟨[3, 4, 5], [3, 4, 5], [], []⟩ ⟨[(3, .ptr 3 0), (4, .ptr 4 0), (5, .ptr 5 0)], [(3, .box 45 (bxc (GAr.cs a0a))), (4, .box 28 (bxc (GCl.cs a1c))), (5, .box 31 (bxc (GSs.cs a2s)))]⟩ krf ?_
   refine sS ?_
   refine sR tfm ⟨[3, 4, 5, 28], [3, 4, 5], [], []⟩ ⟨[(3, .ptr 3 0), (4, .ptr 4 0), (5, .ptr 5 0), (28, I a0a.Kind)], [(3, .box 45 (bxc (GAr.cs a0a))), (4, .box 28 (bxc (GCl.cs a1c))), (5, .box 31 (bxc (GSs.cs a2s)))]⟩ krf ?_
   refine sB ?_
   refine sR tfm ⟨[3, 4, 5, 28, 29], [3, 4, 5], [], []⟩ ⟨[(3, .ptr 3 0), (4, .ptr 4 0), (5, .ptr 5 0), (28, I a0a.Kind), (29, B (eqI a0a.Kind 1))], [(3, .box 45 (bxc (GAr.cs a0a))), (4, .box 28 (bxc (GCl.cs a1c))), (5, .box 31 (bxc (GSs.cs a2s)))]⟩ krf ?_
   refine sC (eqI a0a.Kind 1) krf ?_ ?_
   ·refine sS ?_
    refine sim_drw tfm rfl ?_
    refine xR 9 krf ?_
    refine xC [] krf (g_ref33_Minutes_ok n a0a a1c a2s.From (wi (a2s.From + 1))) krf krf (fun _ => by kernel_rfl) (fun r7 => ?_)
    refine xR 3 krf ?_
    refine xs_endD krf ?_
    refine sN ⟨[6, 7], [], [], []⟩ ⟨[(6, I (wi (a0a.Price * r7))), (7, I 0)], []⟩ krf ?_
    refine sT ?_
    refine bq_r ?_
    refine sq_r ?_
    exact qR (.id) krf krf krf
   ·refine sR tfm ⟨[3, 4, 5, 28, 42], [3, 4, 5], [], []⟩ ⟨[(3, .ptr 3 0), (4, .ptr 4 0), (5, .ptr 5 0), (28, I a0a.Kind), (42, B (eqI a0a.Kind 2))], [(3, .box 45 (bxc (GAr.cs a0a))), (4, .box 28 (bxc (GCl.cs a1c))), (5, .box 31 (bxc (GSs.cs a2s)))]⟩ krf ?_
    refine sC (eqI a0a.Kind 2) krf ?_ ?_
    ·refine sS ?_
     refine sim_drw tfm rfl ?_
     refine xR 5 krf ?_
     refine xC [] krf (g_ref33_Energy_ok n a0a a1c a2s) krf krf (fun _ => by kernel_rfl) (fun r8 => ?_)
     refine xC [] krf (g_ref31_Times_ok n a0a.Price r8 1000) krf krf (fun _ => by kernel_rfl) (fun r9 => ?_)
     refine xR 4 krf ?_
     refine xs_endD krf ?_
     refine sN ⟨[6, 7], [], [], []⟩ ⟨[(6, I r9.1), (7, I r9.2)], []⟩ krf ?_
     refine sT ?_
     refine bq_r ?_
     refine sq_r ?_
     exact qR (.id) krf krf krf
    ·refine sR tfm ⟨[3, 4, 5, 28, 53], [3, 4, 5], [], []⟩ ⟨[(3, .ptr 3 0), (4, .ptr 4 0), (5, .ptr 5 0), (28, I a0a.Kind), (53, B (eqI a0a.Kind 3))], [(3, .box 45 (bxc (GAr.cs a0a))), (4, .box 28 (bxc (GCl.cs a1c))), (5, .box 31 (bxc (GSs.cs a2s)))]⟩ krf ?_
     refine sC (eqI a0a.Kind 3) krf ?_ ?_
     ·refine sS ?_
      refine sim_drw tfm rfl ?_
      refine xR 8 krf ?_
      refine xC [] krf (g_ref33_Minutes_ok n a0a a1c a2s.From a2s.To) krf krf (fun _ => by kernel_rfl) (fun r10 => ?_)
      refine xR 6 krf ?_
      refine xC [] krf (g_ref31_Started_ok n a0a.Price (maxI 0 (wi (r10 - a0a.Free))) a0a.Unit) krf krf (fun _ => by kernel_rfl) (fun r11 => ?_)
      refine xR 4 krf ?_
      refine xs_endD krf ?_
      refine sN ⟨[6, 7], [], [], []⟩ ⟨[(6, I r11.1), (7, I r11.2)], []⟩ krf ?_
      refine sT ?_
      refine bq_r ?_
      refine sq_r ?_
      exact qR (.id) krf krf krf
     ·refine sR tfm ⟨[3, 4, 5, 73], [3, 4, 5], [], []⟩ ⟨[(3, .ptr 3 0), (4, .ptr 4 0), (5, .ptr 5 0), (73, B (eqI a0a.Kind 4))], [(3, .box 45 (bxc (GAr.cs a0a))), (4, .box 28 (bxc (GCl.cs a1c))), (5, .box 31 (bxc (GSs.cs a2s)))]⟩ krf ?_
      refine sC (eqI a0a.Kind 4) krf ?_ ?_
      ·refine sS ?_
       refine sim_drw tfm rfl ?_
       refine xR 8 krf ?_
       refine xC [] krf (g_ref33_Minutes_ok n a0a a1c a2s.End a2s.To) krf krf (fun _ => by kernel_rfl) (fun r12 => ?_)
       refine xR 6 krf ?_
       refine xC [] krf (g_ref31_Started_ok n a0a.Price (maxI 0 (wi (r12 - a0a.Free))) a0a.Unit) krf krf (fun _ => by kernel_rfl) (fun r13 => ?_)
       refine xR 4 krf ?_
       refine xs_endD krf ?_
       refine sN ⟨[6, 7], [], [], []⟩ ⟨[(6, I r13.1), (7, I r13.2)], []⟩ krf ?_
       refine sT ?_
       refine bq_r ?_
       refine sq_r ?_
       exact qR (.id) krf krf krf
      ·refine sK ?_
       refine bq_n ?_
       refine sN ⟨[], [], [], []⟩ ⟨[], []⟩ krf ?_
       refine sR tfm ⟨[6, 7], [], [], []⟩ ⟨[(6, I 0), (7, I 0)], []⟩ krf ?_
       refine sT ?_
       exact qR (.id) krf krf krf
def g_ref31_Tax (n : Nat) (a0n : Int) (a1rate : Int) : Option (Int × Int) :=
 ((g_ref31_amount n a0n).bind fun r2 =>
 cond (!r2)
  (some true)
  (cond (ltI a1rate 0)
   (some true)
   (some (ltI 100000 a1rate)))).bind fun j1 =>
 cond j1
  (some (0, 1))
  ((g_ref31_divided n (wi (a0n * a1rate)) 10000).bind fun r5 =>
  (g_ref31_checked n r5).bind fun r6 =>
  some (r6.1, r6.2))
theorem g_ref31_Tax_ok (n : Nat) (a0n : Int) (a1rate : Int) : ∀ r, g_ref31_Tax n a0n a1rate = some r → PCall Tryz.prog 35 [I a0n, I a1rate] (.ret (.tup [I r.1, I r.2])) := by
 refine pcall_sim (X := fun r : Int × Int => AEnd.ret (.tup [I r.1, I r.2])) Tryz.func35 rfl Tryz.ntmps35 rfl ?_
 unfold g_ref31_Tax
 refine sR tfm ⟨[0, 1], [], [], []⟩ ⟨[(0, I a0n), (1, I a1rate)], []⟩ krf ?_
 refine sS ?_
 refine sim_bind (fun j1 => ⟨[(0, I a0n), (1, I a1rate), (16, B j1)], []⟩ : Bool → St) ?_ ?_
 ·refine sG ?_
  refine xR 1 krf ?_
  refine xC [] krf (g_ref31_amount_ok n a0n) krf krf (fun _ => by kernel_rfl) (fun r2 => ?_)
  refine xR 2 krf ?_
  refine xS (!r2) (fun h3 => ?_) (fun h3 => ?_)
  ·refine xN (want_ft krf h3) krf ?_
   refine xR 6 krf ?_
   refine xE ?_
   exact nq_n true ⟨[0, 1, 16], [], [], []⟩ krf
  ·refine xO (want_ff krf h3) krf ?_
   refine xR 3 krf ?_
   refine xS (ltI a1rate 0) (fun h4 => ?_) (fun h4 => ?_)
   ·refine xN (want_ft krf h4) krf ?_
    refine xR 2 krf ?_
    refine xE ?_
    exact nq_n true ⟨[0, 1, 16], [], [], []⟩ krf
   ·refine xO (want_ff krf h4) krf ?_
    refine xR 2 krf ?_
    refine xE ?_
    exact nq_n (ltI 100000 a1rate) ⟨[0, 1, 16], [], [], []⟩ krf
 ·rintro j1
  refine sC j1 krf ?_ ?_
  ·refine sR tfm ⟨[4, 5], [], [], []⟩ ⟨[(4, I 0), (5, I 1)], []⟩ krf ?_
   refine sT ?_
   refine sq_r ?_
   exact qR (.id) krf krf krf
  ·refine sK ?_
   refine sN ⟨[0, 1], [], [], []⟩ ⟨[(0, I a0n), (1, I a1rate)], []⟩ krf ?_
   refine sS ?_
   refine sG ?_
   refine xR 3 krf ?_
   refine xC [] krf (g_ref31_divided_ok n (wi (a0n * a1rate)) 10000) krf krf (fun _ => by kernel_rfl) (fun r5 => ?_)
   refine xC [] krf (g_ref31_checked_ok n r5) krf krf (fun _ => by kernel_rfl) (fun r6 => ?_)
   refine xR 4 krf ?_
   refine xE ?_
   refine sN ⟨[4, 5], [], [], []⟩ ⟨[(4, I r6.1), (5, I r6.2)], []⟩ krf ?_
   refine sT ?_
   exact qR (.id) krf krf krf
def g_ref33_Bill_j7 (n : Nat) (j7_1 : Int) (j7_2 : Int) (j7_3 : OL GLine) (j7_4 : Int) : Option (GBill × Int) :=
 ((cond (leI 0 j7_2)
  (some (ltI j7_2 j7_4))
  (some false)).bind fun j9 =>
 cond j9
  (some j7_2)
  (some j7_4)).bind fun j8 =>
 cond (ltI 1000000000 j8)
  (some ((⟨[], 0, 0, 0⟩ : GBill), 3))
  ((g_ref31_Tax n j8 j7_1).bind fun r11 =>
  (cond (!eqI r11.2 0)
   (some true)
   (some (ltI 1000000000 (wi (j8 + r11.1))))).bind fun j12 =>
  cond j12
   (some ((⟨[], 0, 0, 0⟩ : GBill), 3))
   (some ((⟨j7_3.toL, j8, r11.1, wi (j8 + r11.1)⟩ : GBill), 0)))
def g_ref33_Bill_l14 (n : Nat) (a0t : GTf) (a1c : GCl) (a2s : GSs) (recl14 : (Int × Int × Int × (OL GLine) × Int) → Option (GBill × Int)) (l14_1 : Int) (l14_2 : Int) (l14_3 : Int) (l14_4 : OL GLine) (l14_5 : Int) : Option (GBill × Int) :=
 cond (ltI l14_3 (lenI (List.map GAr.cs a0t.Articles)))
  ((getI a0t.Articles l14_3).bind fun x15 =>
  cond (eqI x15.Kind 6)
   (recl14 (x15.Price, l14_2, wi (l14_3 + 1), l14_4, l14_5))
   (cond (eqI x15.Kind 5)
    ((cond (ltI l14_2 0)
     (some true)
     (some (ltI x15.Price l14_2))).bind fun j16 =>
    cond j16
     (recl14 (l14_1, x15.Price, wi (l14_3 + 1), l14_4, l14_5))
     (recl14 (l14_1, l14_2, wi (l14_3 + 1), l14_4, l14_5)))
    ((g_ref33_Line n x15 a1c a2s).bind fun r18 =>
    cond (!eqI r18.2 0)
     (some ((⟨[], 0, 0, 0⟩ : GBill), r18.2))
     (cond (roomB (List.length (l14_4.toL ++ [(⟨l14_3, r18.1⟩ : GLine)])) 16) (
      recl14 (l14_1, l14_2, wi (l14_3 + 1), OL.own (l14_4.toL ++ [(⟨l14_3, r18.1⟩ : GLine)]), wi (l14_5 + r18.1))) none))))
  (g_ref33_Bill_j7 n l14_1 l14_2 l14_4 l14_5)
def g_ref33_Bill (n : Nat) (a0t : GTf) (a1c : GCl) (a2s : GSs) : Option (GBill × Int) :=
 (g_ref32_Valid n a0t).bind fun r1 =>
 (g_ref26_Valid n a1c).bind fun r2 =>
 (g_ref33_Valid n a2s).bind fun r3 =>
 (cond (!r1)
  (some true)
  (cond (!r2)
   (some true)
   (some (!r3)))).bind fun j4 =>
 cond j4
  (some ((⟨[], 0, 0, 0⟩ : GBill), 1))
  (loopN (fun recl14 (l14_1, l14_2, l14_3, l14_4, l14_5) => g_ref33_Bill_l14 n a0t a1c a2s recl14 l14_1 l14_2 l14_3 l14_4 l14_5) n (0, (-1), 0, OL.nil, 0))
theorem g_ref33_Bill_ok (n : Nat) (a0t : GTf) (a1c : GCl) (a2s : GSs) : ∀ r, g_ref33_Bill n a0t a1c a2s = some r → PCall Tryz.prog 24 [ag (GTf.cs a0t), ag (GCl.cs a1c), ag (GSs.cs a2s)] (.ret (.tup [ag (GBill.cs r.1), I r.2])) := by
 refine pcall_sim (X := fun r : GBill × Int => AEnd.ret (.tup [ag (GBill.cs r.1), I r.2])) Tryz.func24 rfl Tryz.ntmps24 rfl ?_
 unfold g_ref33_Bill
 refine sR tfm ⟨[3, 4, 5, 6], [3, 4, 5, 6], [], []⟩ ⟨[(3, .ptr 3 0), (4, .ptr 4 0), (5, .ptr 5 0), (6, .ptr 6 0)], [(3, .box 24 (bxc (GTf.cs a0t))), (4, .box 28 (bxc (GCl.cs a1c))), (5, .box 31 (bxc (GSs.cs a2s))), (6, .box 55 [.p (.val (.slice none 0 0)), I 0, I 0, I 0])]⟩ krf ?_
 refine sS ?_
 refine sG ?_
 refine xR 1 krf ?_
 refine xC [] krf (g_ref32_Valid_ok n a0t) krf krf (fun _ => by kernel_rfl) (fun r1 => ?_)
 refine xR 1 krf ?_
 refine xE ?_
 refine sN ⟨[3, 4, 5, 6, 8], [3, 4, 5, 6], [], []⟩ ⟨[(3, .ptr 3 0), (4, .ptr 4 0), (5, .ptr 5 0), (6, .ptr 6 0), (8, B r1)], [(3, .box 24 (bxc (GTf.cs a0t))), (4, .box 28 (bxc (GCl.cs a1c))), (5, .box 31 (bxc (GSs.cs a2s))), (6, .box 55 [.p (.val (.slice none 0 0)), I 0, I 0, I 0])]⟩ krf ?_
 refine sS ?_
 refine sG ?_
 refine xR 1 krf ?_
 refine xC [] krf (g_ref26_Valid_ok n a1c) krf krf (fun _ => by kernel_rfl) (fun r2 => ?_)
 refine xR 1 krf ?_
 refine xE ?_
 refine sN ⟨[3, 4, 5, 6, 8, 9], [3, 4, 5, 6], [], []⟩ ⟨[(3, .ptr 3 0), (4, .ptr 4 0), (5, .ptr 5 0), (6, .ptr 6 0), (8, B r1), (9, B r2)], [(3, .box 24 (bxc (GTf.cs a0t))), (4, .box 28 (bxc (GCl.cs a1c))), (5, .box 31 (bxc (GSs.cs a2s))), (6, .box 55 [.p (.val (.slice none 0 0)), I 0, I 0, I 0])]⟩ krf ?_
 refine sS ?_
 refine sG ?_
 refine xR 1 krf ?_
 refine xC [] krf (g_ref33_Valid_ok n a2s) krf krf (fun _ => by kernel_rfl) (fun r3 => ?_)
 refine xR 1 krf ?_
 refine xE ?_
 refine sN ⟨[3, 4, 5, 6, 8, 9, 10], [3, 4, 5, 6], [], []⟩ ⟨[(3, .ptr 3 0), (4, .ptr 4 0), (5, .ptr 5 0), (6, .ptr 6 0), (8, B r1), (9, B r2), (10, B r3)], [(3, .box 24 (bxc (GTf.cs a0t))), (4, .box 28 (bxc (GCl.cs a1c))), (5, .box 31 (bxc (GSs.cs a2s))), (6, .box 55 [.p (.val (.slice none 0 0)), I 0, I 0, I 0])]⟩ krf ?_
 refine sS ?_
 refine sim_bind (fun j4 => ⟨[(3, .ptr 3 0), (4, .ptr 4 0), (5, .ptr 5 0), (6, .ptr 6 0), (35, B j4)], [(3, .box 24 (bxc (GTf.cs a0t))), (4, .box 28 (bxc (GCl.cs a1c))), (5, .box 31 (bxc (GSs.cs a2s))), (6, .box 55 [.p (.val (.slice none 0 0)), I 0, I 0, I 0])]⟩ : Bool → St) ?_ ?_
 ·refine sG ?_
  refine xR 3 krf ?_
  refine xS (!r1) (fun h5 => ?_) (fun h5 => ?_)
  ·refine xN (want_ft krf h5) krf ?_
   refine xR 6 krf ?_
   refine xE ?_
   exact nq_n true ⟨[3, 4, 5, 6, 35], [3, 4, 5, 6], [], []⟩ krf
  ·refine xO (want_ff krf h5) krf ?_
   refine xR 3 krf ?_
   refine xS (!r2) (fun h6 => ?_) (fun h6 => ?_)
   ·refine xN (want_ft krf h6) krf ?_
    refine xR 2 krf ?_
    refine xE ?_
    exact nq_n true ⟨[3, 4, 5, 6, 35], [3, 4, 5, 6], [], []⟩ krf
   ·refine xO (want_ff krf h6) krf ?_
    refine xR 2 krf ?_
    refine xE ?_
    exact nq_n (!r3) ⟨[3, 4, 5, 6, 35], [3, 4, 5, 6], [], []⟩ krf
 ·rintro j4
  refine sC j4 krf ?_ ?_
  ·refine sR tfm ⟨[6, 7], [6], [], []⟩ ⟨[(6, .ptr 6 0), (7, I 1)], [(6, .box 55 [.p (.val (.slice none 0 0)), I 0, I 0, I 0])]⟩ krf ?_
   refine sT ?_
   refine sq_r ?_
   exact qR (.agg [.agg [.sl 2, .id, .id, .id], .id]) krf krf krf
  ·refine sK ?_
   refine sN ⟨[3, 4, 5, 6], [3, 4, 5, 6], [], []⟩ ⟨[(3, .ptr 3 0), (4, .ptr 4 0), (5, .ptr 5 0), (6, .ptr 6 0)], [(3, .box 24 (bxc (GTf.cs a0t))), (4, .box 28 (bxc (GCl.cs a1c))), (5, .box 31 (bxc (GSs.cs a2s))), (6, .box 55 [.p (.val (.slice none 0 0)), I 0, I 0, I 0])]⟩ krf ?_
   refine sR tfm ⟨[3, 4, 5, 6, 11], [3, 4, 5, 6, 11], [], []⟩ ⟨[(3, .ptr 3 0), (4, .ptr 4 0), (5, .ptr 5 0), (6, .ptr 6 0), (11, .ptr 11 0)], [(3, .box 24 (bxc (GTf.cs a0t))), (4, .box 28 (bxc (GCl.cs a1c))), (5, .box 31 (bxc (GSs.cs a2s))), (6, .box 55 [.p (.val (.slice none 0 0)), I 0, I 0, I 0]), (11, .box 55 [.p (.val (.slice none 0 0)), I 0, I 0, I 0])]⟩ krf ?_
   refine sR tfm ⟨[3, 4, 5, 6, 11, 12], [3, 4, 5, 6, 11], [], []⟩ ⟨[(3, .ptr 3 0), (4, .ptr 4 0), (5, .ptr 5 0), (6, .ptr 6 0), (11, .ptr 11 0), (12, I 0)], [(3, .box 24 (bxc (GTf.cs a0t))), (4, .box 28 (bxc (GCl.cs a1c))), (5, .box 31 (bxc (GSs.cs a2s))), (6, .box 55 [.p (.val (.slice none 0 0)), I 0, I 0, I 0]), (11, .box 55 [.p (.val (.slice none 0 0)), I 0, I 0, I 0])]⟩ krf ?_
   refine sR tfm ⟨[3, 4, 5, 6, 11, 12, 13], [3, 4, 5, 6, 11], [], []⟩ ⟨[(3, .ptr 3 0), (4, .ptr 4 0), (5, .ptr 5 0), (6, .ptr 6 0), (11, .ptr 11 0), (12, I 0), (13, I (-1))], [(3, .box 24 (bxc (GTf.cs a0t))), (4, .box 28 (bxc (GCl.cs a1c))), (5, .box 31 (bxc (GSs.cs a2s))), (6, .box 55 [.p (.val (.slice none 0 0)), I 0, I 0, I 0]), (11, .box 55 [.p (.val (.slice none 0 0)), I 0, I 0, I 0])]⟩ krf ?_
   refine sim_cps (fun (j7_1, j7_2, j7_3, j7_4) => ⟨[(6, .ptr 6 0), (11, .ptr 11 0), (12, I j7_1), (13, I j7_2)], [(6, .box 55 [.p (.val (.slice none 0 0)), I 0, I 0, I 0]), (11, .box 55 [osl 2 GLine.cs j7_3 84, I j7_4, I 0, I 0])] ++ oarr 68 2 GLine.cs j7_3 84⟩ : (Int × Int × (OL GLine) × Int) → St) (fun (j7_1, j7_2, j7_3, j7_4) => g_ref33_Bill_j7 n j7_1 j7_2 j7_3 j7_4) ?_ ?_
   ·rintro ⟨j7_1, j7_2, j7_3, j7_4⟩
    show SimE (g_ref33_Bill_j7 n j7_1 j7_2 j7_3 j7_4) _ _ _ _ _ _
    unfold g_ref33_Bill_j7
    rcases j7_3 with _ | ow_j7_3
    ·refine sim_bind (fun j8 => ⟨[(6, .ptr 6 0), (11, .ptr 11 0), (12, I j7_1)], [(6, .box 55 [.p (.val (.slice none 0 0)), I 0, I 0, I 0]), (11, .box 55 [.p (.val (.slice none 0 0)), I j8, I 0, I 0])]⟩ : Int → St) ?_ ?_
     ·refine sim_bind (fun j9 => ⟨[(6, .ptr 6 0), (11, .ptr 11 0), (12, I j7_1), (13, I j7_2), (98, B j9)], [(6, .box 55 [.p (.val (.slice none 0 0)), I 0, I 0, I 0]), (11, .box 55 [.p (.val (.slice none 0 0)), I j7_4, I 0, I 0])]⟩ : Bool → St) ?_ ?_
      ·refine sG ?_
       refine xR 3 krf ?_
       refine xS (leI 0 j7_2) (fun h10 => ?_) (fun h10 => ?_)
       ·refine xO (want_tt krf h10) krf ?_
        refine xR 4 krf ?_
        refine xE ?_
        exact nq_n (ltI j7_2 j7_4) ⟨[6, 11, 12, 13, 98], [6, 11], [], []⟩ krf
       ·refine xN (want_tf krf h10) krf ?_
        refine xR 4 krf ?_
        refine xE ?_
        exact nq_n false ⟨[6, 11, 12, 13, 98], [6, 11], [], []⟩ krf
      ·rintro j9
       refine sC j9 krf ?_ ?_
       ·refine sL tfm krf ?_
        exact nq_n j7_2 ⟨[6, 11, 12], [6, 11], [], []⟩ krf
       ·refine sK ?_
        exact nq_n j7_4 ⟨[6, 11, 12], [6, 11], [], []⟩ krf
     ·rintro j8
      refine sS ?_
      refine sR tfm ⟨[6, 11, 12, 103], [6, 11], [], []⟩ ⟨[(6, .ptr 6 0), (11, .ptr 11 0), (12, I j7_1), (103, B (ltI 1000000000 j8))], [(6, .box 55 [.p (.val (.slice none 0 0)), I 0, I 0, I 0]), (11, .box 55 [.p (.val (.slice none 0 0)), I j8, I 0, I 0])]⟩ krf ?_
      refine sC (ltI 1000000000 j8) krf ?_ ?_
      ·refine sR tfm ⟨[6, 7], [6], [], []⟩ ⟨[(6, .ptr 6 0), (7, I 3)], [(6, .box 55 [.p (.val (.slice none 0 0)), I 0, I 0, I 0])]⟩ krf ?_
       refine sT ?_
       refine sq_r ?_
       exact qR (.agg [.agg [.sl 2, .id, .id, .id], .id]) krf krf krf
      ·refine sK ?_
       refine sN ⟨[6, 11, 12], [6, 11], [], []⟩ ⟨[(6, .ptr 6 0), (11, .ptr 11 0), (12, I j7_1)], [(6, .box 55 [.p (.val (.slice none 0 0)), I 0, I 0, I 0]), (11, .box 55 [.p (.val (.slice none 0 0)), I j8, I 0, I 0])]⟩ krf ?_
       refine sS ?_
       refine sG ?_
       refine xR 3 krf ?_
       refine xC [] krf (g_ref31_Tax_ok n j8 j7_1) krf krf (fun _ => by kernel_rfl) (fun r11 => ?_)
       refine xR 5 krf ?_
       refine xE ?_
       refine sN ⟨[6, 11, 18, 19], [6, 11], [], []⟩ ⟨[(6, .ptr 6 0), (11, .ptr 11 0), (18, I r11.1), (19, I r11.2)], [(6, .box 55 [.p (.val (.slice none 0 0)), I 0, I 0, I 0]), (11, .box 55 [.p (.val (.slice none 0 0)), I j8, I 0, I 0])]⟩ krf ?_
       refine sR tfm ⟨[6, 11, 18, 19], [6, 11], [], []⟩ ⟨[(6, .ptr 6 0), (11, .ptr 11 0), (18, I r11.1), (19, I r11.2)], [(6, .box 55 [.p (.val (.slice none 0 0)), I 0, I 0, I 0]), (11, .box 55 [.p (.val (.slice none 0 0)), I j8, I r11.1, I 0])]⟩ krf ?_
       refine sR tfm ⟨[6, 11, 19], [6, 11], [], []⟩ ⟨[(6, .ptr 6 0), (11, .ptr 11 0), (19, I r11.2)], [(6, .box 55 [.p (.val (.slice none 0 0)), I 0, I 0, I 0]), (11, .box 55 [.p (.val (.slice none 0 0)), I j8, I r11.1, I (wi (j8 + r11.1))])]⟩ krf ?_
       refine sS ?_
       refine sim_bind (fun j12 => ⟨[(6, .ptr 6 0), (11, .ptr 11 0), (125, B j12)], [(6, .box 55 [.p (.val (.slice none 0 0)), I 0, I 0, I 0]), (11, .box 55 [.p (.val (.slice none 0 0)), I j8, I r11.1, I (wi (j8 + r11.1))])]⟩ : Bool → St) ?_ ?_
       ·refine sG ?_
        refine xR 3 krf ?_
        refine xS (!eqI r11.2 0) (fun h13 => ?_) (fun h13 => ?_)
        ·refine xN (want_ft krf h13) krf ?_
         refine xR 3 krf ?_
         refine xE ?_
         exact nq_n true ⟨[6, 11, 125], [6, 11], [], []⟩ krf
        ·refine xO (want_ff krf h13) krf ?_
         refine xR 3 krf ?_
         refine xE ?_
         exact nq_n (ltI 1000000000 (wi (j8 + r11.1))) ⟨[6, 11, 125], [6, 11], [], []⟩ krf
       ·rintro j12
        refine sC j12 krf ?_ ?_
        ·refine sR tfm ⟨[6, 7], [6], [], []⟩ ⟨[(6, .ptr 6 0), (7, I 3)], [(6, .box 55 [.p (.val (.slice none 0 0)), I 0, I 0, I 0])]⟩ krf ?_
         refine sT ?_
         refine sq_r ?_
         exact qR (.agg [.agg [.sl 2, .id, .id, .id], .id]) krf krf krf
        ·refine sK ?_
         refine sN ⟨[6, 11], [6, 11], [], []⟩ ⟨[(6, .ptr 6 0), (11, .ptr 11 0)], [(6, .box 55 [.p (.val (.slice none 0 0)), I 0, I 0, I 0]), (11, .box 55 [.p (.val (.slice none 0 0)), I j8, I r11.1, I (wi (j8 + r11.1))])]⟩ krf ?_
         refine sR tfm ⟨[6, 7], [6], [], []⟩ ⟨[(6, .ptr 6 0), (7, I 0)], [(6, .box 55 [.p (.val (.slice none 0 0)), I j8, I r11.1, I (wi (j8 + r11.1))])]⟩ krf ?_
         refine sT ?_
         exact qR (.agg [.agg [.sl 2, .id, .id, .id], .id]) krf krf krf
    ·refine sim_bind (fun j8 => ⟨[(6, .ptr 6 0), (11, .ptr 11 0), (12, I j7_1)], [(6, .box 55 [.p (.val (.slice none 0 0)), I 0, I 0, I 0]), (11, .box 55 [.tsl 2 (List.map GLine.cs (OL.own ow_j7_3).toL) 84, I j8, I 0, I 0]), (84, .arr 68 2 (List.map GLine.cs (OL.own ow_j7_3).toL).length)]⟩ : Int → St) ?_ ?_
     ·refine sim_bind (fun j9 => ⟨[(6, .ptr 6 0), (11, .ptr 11 0), (12, I j7_1), (13, I j7_2), (98, B j9)], [(6, .box 55 [.p (.val (.slice none 0 0)), I 0, I 0, I 0]), (11, .box 55 [.tsl 2 (List.map GLine.cs (OL.own ow_j7_3).toL) 84, I j7_4, I 0, I 0]), (84, .arr 68 2 (List.map GLine.cs (OL.own ow_j7_3).toL).length)]⟩ : Bool → St) ?_ ?_
      ·refine sG ?_
       refine xR 3 krf ?_
       refine xS (leI 0 j7_2) (fun h10 => ?_) (fun h10 => ?_)
       ·refine xO (want_tt krf h10) krf ?_
        refine xR 4 krf ?_
        refine xE ?_
        exact nq_n (ltI j7_2 j7_4) ⟨[6, 11, 12, 13, 98], [6, 11, 84], [], []⟩ krf
       ·refine xN (want_tf krf h10) krf ?_
        refine xR 4 krf ?_
        refine xE ?_
        exact nq_n false ⟨[6, 11, 12, 13, 98], [6, 11, 84], [], []⟩ krf
      ·rintro j9
       refine sC j9 krf ?_ ?_
       ·refine sL tfm krf ?_
        exact nq_n j7_2 ⟨[6, 11, 12], [6, 11, 84], [], []⟩ krf
       ·refine sK ?_
        exact nq_n j7_4 ⟨[6, 11, 12], [6, 11, 84], [], []⟩ krf
     ·rintro j8
      refine sS ?_
      refine sR tfm ⟨[6, 11, 12, 103], [6, 11, 84], [], []⟩ ⟨[(6, .ptr 6 0), (11, .ptr 11 0), (12, I j7_1), (103, B (ltI 1000000000 j8))], [(6, .box 55 [.p (.val (.slice none 0 0)), I 0, I 0, I 0]), (11, .box 55 [.tsl 2 (List.map GLine.cs (OL.own ow_j7_3).toL) 84, I j8, I 0, I 0]), (84, .arr 68 2 (List.map GLine.cs (OL.own ow_j7_3).toL).length)]⟩ krf ?_
      refine sC (ltI 1000000000 j8) krf ?_ ?_
      ·refine sR tfm ⟨[6, 7], [6], [], []⟩ ⟨[(6, .ptr 6 0), (7, I 3)], [(6, .box 55 [.p (.val (.slice none 0 0)), I 0, I 0, I 0])]⟩ krf ?_
       refine sT ?_
       refine sq_r ?_
       exact qR (.agg [.agg [.sl 2, .id, .id, .id], .id]) krf krf krf
      ·refine sK ?_
       refine sN ⟨[6, 11, 12], [6, 11, 84], [], []⟩ ⟨[(6, .ptr 6 0), (11, .ptr 11 0), (12, I j7_1)], [(6, .box 55 [.p (.val (.slice none 0 0)), I 0, I 0, I 0]), (11, .box 55 [.tsl 2 (List.map GLine.cs (OL.own ow_j7_3).toL) 84, I j8, I 0, I 0]), (84, .arr 68 2 (List.map GLine.cs (OL.own ow_j7_3).toL).length)]⟩ krf ?_
       refine sS ?_
       refine sG ?_
       refine xR 3 krf ?_
       refine xC [] krf (g_ref31_Tax_ok n j8 j7_1) krf krf (fun _ => by kernel_rfl) (fun r11 => ?_)
       refine xR 5 krf ?_
       refine xE ?_
       refine sN ⟨[6, 11, 18, 19], [6, 11, 84], [], []⟩ ⟨[(6, .ptr 6 0), (11, .ptr 11 0), (18, I r11.1), (19, I r11.2)], [(6, .box 55 [.p (.val (.slice none 0 0)), I 0, I 0, I 0]), (11, .box 55 [.tsl 2 (List.map GLine.cs (OL.own ow_j7_3).toL) 84, I j8, I 0, I 0]), (84, .arr 68 2 (List.map GLine.cs (OL.own ow_j7_3).toL).length)]⟩ krf ?_
       refine sR tfm ⟨[6, 11, 18, 19], [6, 11, 84], [], []⟩ ⟨[(6, .ptr 6 0), (11, .ptr 11 0), (18, I r11.1), (19, I r11.2)], [(6, .box 55 [.p (.val (.slice none 0 0)), I 0, I 0, I 0]), (11, .box 55 [.tsl 2 (List.map GLine.cs (OL.own ow_j7_3).toL) 84, I j8, I r11.1, I 0]), (84, .arr 68 2 (List.map GLine.cs (OL.own ow_j7_3).toL).length)]⟩ krf ?_
       refine sR tfm ⟨[6, 11, 19], [6, 11, 84], [], []⟩ ⟨[(6, .ptr 6 0), (11, .ptr 11 0), (19, I r11.2)], [(6, .box 55 [.p (.val (.slice none 0 0)), I 0, I 0, I 0]), (11, .box 55 [.tsl 2 (List.map GLine.cs (OL.own ow_j7_3).toL) 84, I j8, I r11.1, I (wi (j8 + r11.1))]), (84, .arr 68 2 (List.map GLine.cs (OL.own ow_j7_3).toL).length)]⟩ krf ?_
       refine sS ?_
       refine sim_bind (fun j12 => ⟨[(6, .ptr 6 0), (11, .ptr 11 0), (125, B j12)], [(6, .box 55 [.p (.val (.slice none 0 0)), I 0, I 0, I 0]), (11, .box 55 [.tsl 2 (List.map GLine.cs (OL.own ow_j7_3).toL) 84, I j8, I r11.1, I (wi (j8 + r11.1))]), (84, .arr 68 2 (List.map GLine.cs (OL.own ow_j7_3).toL).length)]⟩ : Bool → St) ?_ ?_
       ·refine sG ?_
        refine xR 3 krf ?_
        refine xS (!eqI r11.2 0) (fun h13 => ?_) (fun h13 => ?_)
        ·refine xN (want_ft krf h13) krf ?_
         refine xR 3 krf ?_
         refine xE ?_
         exact nq_n true ⟨[6, 11, 125], [6, 11, 84], [], []⟩ krf
        ·refine xO (want_ff krf h13) krf ?_
         refine xR 3 krf ?_
         refine xE ?_
         exact nq_n (ltI 1000000000 (wi (j8 + r11.1))) ⟨[6, 11, 125], [6, 11, 84], [], []⟩ krf
       ·rintro j12
        refine sC j12 krf ?_ ?_
        ·refine sR tfm ⟨[6, 7], [6], [], []⟩ ⟨[(6, .ptr 6 0), (7, I 3)], [(6, .box 55 [.p (.val (.slice none 0 0)), I 0, I 0, I 0])]⟩ krf ?_
         refine sT ?_
         refine sq_r ?_
         exact qR (.agg [.agg [.sl 2, .id, .id, .id], .id]) krf krf krf
        ·refine sK ?_
         refine sN ⟨[6, 11], [6, 11, 84], [], []⟩ ⟨[(6, .ptr 6 0), (11, .ptr 11 0)], [(6, .box 55 [.p (.val (.slice none 0 0)), I 0, I 0, I 0]), (11, .box 55 [.tsl 2 (List.map GLine.cs (OL.own ow_j7_3).toL) 84, I j8, I r11.1, I (wi (j8 + r11.1))]), (84, .arr 68 2 (List.map GLine.cs (OL.own ow_j7_3).toL).length)]⟩ krf ?_
         refine sR tfm ⟨[6, 7], [6, 84], [], []⟩ ⟨[(6, .ptr 6 0), (7, I 0)], [(6, .box 55 [.tsl 2 (List.map GLine.cs (OL.own ow_j7_3).toL) 84, I j8, I r11.1, I (wi (j8 + r11.1))]), (84, .arr 68 2 (List.map GLine.cs (OL.own ow_j7_3).toL).length)]⟩ krf ?_
         refine sT ?_
         exact qR (.agg [.agg [.sl 2, .id, .id, .id], .id]) krf krf krf
   ·refine sR tfm ⟨[3, 4, 5, 6, 11, 12, 13, 14], [3, 4, 5, 6, 11], [], []⟩ ⟨[(3, .ptr 3 0), (4, .ptr 4 0), (5, .ptr 5 0), (6, .ptr 6 0), (11, .ptr 11 0), (12, I 0), (13, I (-1)), (14, I 0)], [(3, .box 24 (bxc (GTf.cs a0t))), (4, .box 28 (bxc (GCl.cs a1c))), (5, .box 31 (bxc (GSs.cs a2s))), (6, .box 55 [.p (.val (.slice none 0 0)), I 0, I 0, I 0]), (11, .box 55 [.p (.val (.slice none 0 0)), I 0, I 0, I 0])]⟩ krf ?_
    refine sB ?_
    refine sim_loop (fun (l14_1, l14_2, l14_3, l14_4, l14_5) => ⟨[(3, .ptr 3 0), (4, .ptr 4 0), (5, .ptr 5 0), (6, .ptr 6 0), (11, .ptr 11 0), (12, I l14_1), (13, I l14_2), (14, I l14_3)], [(3, .box 24 (bxc (GTf.cs a0t))), (4, .box 28 (bxc (GCl.cs a1c))), (5, .box 31 (bxc (GSs.cs a2s))), (6, .box 55 [.p (.val (.slice none 0 0)), I 0, I 0, I 0]), (11, .box 55 [osl 2 GLine.cs l14_4 84, I l14_5, I 0, I 0])] ++ oarr 68 2 GLine.cs l14_4 84⟩ : (Int × Int × Int × (OL GLine) × Int) → St) (weak_shr (K := ⟨[3, 4, 5, 6, 11, 12, 13, 14], [3, 4, 5, 6, 11], [], []⟩) krf) ?_
    rintro recl14 ⟨l14_1, l14_2, l14_3, l14_4, l14_5⟩
    show SimE (g_ref33_Bill_l14 n a0t a1c a2s recl14 l14_1 l14_2 l14_3 l14_4 l14_5) _ _ _ _ _ _
    unfold g_ref33_Bill_l14
    rcases l14_4 with _ | ow_l14_4
    ·refine sS ?_
     refine sR tfm ⟨[3, 4, 5, 6, 11, 12, 13, 14, 41], [3, 4, 5, 6, 11], [], []⟩ ⟨[(3, .ptr 3 0), (4, .ptr 4 0), (5, .ptr 5 0), (6, .ptr 6 0), (11, .ptr 11 0), (12, I l14_1), (13, I l14_2), (14, I l14_3), (41, B (ltI l14_3 (lenI (List.map GAr.cs a0t.Articles))))], [(3, .box 24 (bxc (GTf.cs a0t))), (4, .box 28 (bxc (GCl.cs a1c))), (5, .box 31 (bxc (GSs.cs a2s))), (6, .box 55 [.p (.val (.slice none 0 0)), I 0, I 0, I 0]), (11, .box 55 [.p (.val (.slice none 0 0)), I l14_5, I 0, I 0])]⟩ krf ?_
     refine sC (ltI l14_3 (lenI (List.map GAr.cs a0t.Articles))) krf ?_ ?_
     ·refine sK ?_
      refine sN ⟨[3, 4, 5, 6, 11, 12, 13, 14], [3, 4, 5, 6, 11], [], []⟩ ⟨[(3, .ptr 3 0), (4, .ptr 4 0), (5, .ptr 5 0), (6, .ptr 6 0), (11, .ptr 11 0), (12, I l14_1), (13, I l14_2), (14, I l14_3)], [(3, .box 24 (bxc (GTf.cs a0t))), (4, .box 28 (bxc (GCl.cs a1c))), (5, .box 31 (bxc (GSs.cs a2s))), (6, .box 55 [.p (.val (.slice none 0 0)), I 0, I 0, I 0]), (11, .box 55 [.p (.val (.slice none 0 0)), I l14_5, I 0, I 0])]⟩ krf ?_
      refine sS ?_
      refine sB ?_
      refine sS ?_
      refine sG ?_
      refine xR 3 krf ?_
      refine xG krf krf (aop_idx (e := 45) (S := 7) (enc := GAr.cs) (l := a0t.Articles) (k := .i64) (n := l14_3) (sv := .p (.sl 7 (List.map GAr.cs a0t.Articles))) rfl krf krf krf krf krf) (fun x15 => ?_)
      refine xR 3 krf ?_
      refine xE ?_
      refine sN ⟨[3, 4, 5, 6, 11, 12, 13, 14, 15], [3, 4, 5, 6, 11, 15], [], []⟩ ⟨[(3, .ptr 3 0), (4, .ptr 4 0), (5, .ptr 5 0), (6, .ptr 6 0), (11, .ptr 11 0), (12, I l14_1), (13, I l14_2), (14, I l14_3), (15, .ptr 15 0)], [(3, .box 24 (bxc (GTf.cs a0t))), (4, .box 28 (bxc (GCl.cs a1c))), (5, .box 31 (bxc (GSs.cs a2s))), (6, .box 55 [.p (.val (.slice none 0 0)), I 0, I 0, I 0]), (11, .box 55 [.p (.val (.slice none 0 0)), I l14_5, I 0, I 0]), (15, .box 45 (bxc (GAr.cs x15)))]⟩ krf ?_
      refine sR tfm ⟨[3, 4, 5, 6, 11, 12, 13, 14, 15, 51], [3, 4, 5, 6, 11, 15], [], []⟩ ⟨[(3, .ptr 3 0), (4, .ptr 4 0), (5, .ptr 5 0), (6, .ptr 6 0), (11, .ptr 11 0), (12, I l14_1), (13, I l14_2), (14, I l14_3), (15, .ptr 15 0), (51, B (eqI x15.Kind 6))], [(3, .box 24 (bxc (GTf.cs a0t))), (4, .box 28 (bxc (GCl.cs a1c))), (5, .box 31 (bxc (GSs.cs a2s))), (6, .box 55 [.p (.val (.slice none 0 0)), I 0, I 0, I 0]), (11, .box 55 [.p (.val (.slice none 0 0)), I l14_5, I 0, I 0]), (15, .box 45 (bxc (GAr.cs x15)))]⟩ krf ?_
      refine sC (eqI x15.Kind 6) krf ?_ ?_
      ·refine sL tfm krf ?_
       refine bq_n ?_
       refine sN ⟨[3, 4, 5, 6, 11, 12, 13, 14], [3, 4, 5, 6, 11], [], []⟩ ⟨[(3, .ptr 3 0), (4, .ptr 4 0), (5, .ptr 5 0), (6, .ptr 6 0), (11, .ptr 11 0), (12, I x15.Price), (13, I l14_2), (14, I l14_3)], [(3, .box 24 (bxc (GTf.cs a0t))), (4, .box 28 (bxc (GCl.cs a1c))), (5, .box 31 (bxc (GSs.cs a2s))), (6, .box 55 [.p (.val (.slice none 0 0)), I 0, I 0, I 0]), (11, .box 55 [.p (.val (.slice none 0 0)), I l14_5, I 0, I 0])]⟩ krf ?_
       refine sL tfm krf ?_
       exact kq_n (x15.Price, l14_2, wi (l14_3 + 1), OL.nil, l14_5) ⟨[3, 4, 5, 6, 11, 12, 13, 14], [3, 4, 5, 6, 11], [], []⟩ krf
      ·refine sR tfm ⟨[3, 4, 5, 6, 11, 12, 13, 14, 15, 56], [3, 4, 5, 6, 11, 15], [], []⟩ ⟨[(3, .ptr 3 0), (4, .ptr 4 0), (5, .ptr 5 0), (6, .ptr 6 0), (11, .ptr 11 0), (12, I l14_1), (13, I l14_2), (14, I l14_3), (15, .ptr 15 0), (56, B (eqI x15.Kind 5))], [(3, .box 24 (bxc (GTf.cs a0t))), (4, .box 28 (bxc (GCl.cs a1c))), (5, .box 31 (bxc (GSs.cs a2s))), (6, .box 55 [.p (.val (.slice none 0 0)), I 0, I 0, I 0]), (11, .box 55 [.p (.val (.slice none 0 0)), I l14_5, I 0, I 0]), (15, .box 45 (bxc (GAr.cs x15)))]⟩ krf ?_
       refine sC (eqI x15.Kind 5) krf ?_ ?_
       ·refine sim_bind (fun j16 => ⟨[(3, .ptr 3 0), (4, .ptr 4 0), (5, .ptr 5 0), (6, .ptr 6 0), (11, .ptr 11 0), (12, I l14_1), (13, I l14_2), (14, I l14_3), (15, .ptr 15 0), (64, B j16)], [(3, .box 24 (bxc (GTf.cs a0t))), (4, .box 28 (bxc (GCl.cs a1c))), (5, .box 31 (bxc (GSs.cs a2s))), (6, .box 55 [.p (.val (.slice none 0 0)), I 0, I 0, I 0]), (11, .box 55 [.p (.val (.slice none 0 0)), I l14_5, I 0, I 0]), (15, .box 45 (bxc (GAr.cs x15)))]⟩ : Bool → St) ?_ ?_
        ·refine sG ?_
         refine xR 3 krf ?_
         refine xS (ltI l14_2 0) (fun h17 => ?_) (fun h17 => ?_)
         ·refine xN (want_ft krf h17) krf ?_
          refine xR 4 krf ?_
          refine xE ?_
          exact nq_n true ⟨[3, 4, 5, 6, 11, 12, 13, 14, 15, 64], [3, 4, 5, 6, 11, 15], [], []⟩ krf
         ·refine xO (want_ff krf h17) krf ?_
          refine xR 4 krf ?_
          refine xE ?_
          exact nq_n (ltI x15.Price l14_2) ⟨[3, 4, 5, 6, 11, 12, 13, 14, 15, 64], [3, 4, 5, 6, 11, 15], [], []⟩ krf
        ·rintro j16
         refine sC j16 krf ?_ ?_
         ·refine sL tfm krf ?_
          refine bq_n ?_
          refine sN ⟨[3, 4, 5, 6, 11, 12, 13, 14], [3, 4, 5, 6, 11], [], []⟩ ⟨[(3, .ptr 3 0), (4, .ptr 4 0), (5, .ptr 5 0), (6, .ptr 6 0), (11, .ptr 11 0), (12, I l14_1), (13, I x15.Price), (14, I l14_3)], [(3, .box 24 (bxc (GTf.cs a0t))), (4, .box 28 (bxc (GCl.cs a1c))), (5, .box 31 (bxc (GSs.cs a2s))), (6, .box 55 [.p (.val (.slice none 0 0)), I 0, I 0, I 0]), (11, .box 55 [.p (.val (.slice none 0 0)), I l14_5, I 0, I 0])]⟩ krf ?_
          refine sL tfm krf ?_
          exact kq_n (l14_1, x15.Price, wi (l14_3 + 1), OL.nil, l14_5) ⟨[3, 4, 5, 6, 11, 12, 13, 14], [3, 4, 5, 6, 11], [], []⟩ krf
         ·refine sK ?_
          refine bq_n ?_
          refine sN ⟨[3, 4, 5, 6, 11, 12, 13, 14], [3, 4, 5, 6, 11], [], []⟩ ⟨[(3, .ptr 3 0), (4, .ptr 4 0), (5, .ptr 5 0), (6, .ptr 6 0), (11, .ptr 11 0), (12, I l14_1), (13, I l14_2), (14, I l14_3)], [(3, .box 24 (bxc (GTf.cs a0t))), (4, .box 28 (bxc (GCl.cs a1c))), (5, .box 31 (bxc (GSs.cs a2s))), (6, .box 55 [.p (.val (.slice none 0 0)), I 0, I 0, I 0]), (11, .box 55 [.p (.val (.slice none 0 0)), I l14_5, I 0, I 0])]⟩ krf ?_
          refine sL tfm krf ?_
          exact kq_n (l14_1, l14_2, wi (l14_3 + 1), OL.nil, l14_5) ⟨[3, 4, 5, 6, 11, 12, 13, 14], [3, 4, 5, 6, 11], [], []⟩ krf
       ·refine sS ?_
        refine sG ?_
        refine xR 3 krf ?_
        refine xC [] krf (g_ref33_Line_ok n x15 a1c a2s) krf krf (fun _ => by kernel_rfl) (fun r18 => ?_)
        refine xR 5 krf ?_
        refine xE ?_
        refine sN ⟨[3, 4, 5, 6, 11, 12, 13, 14, 16, 17], [3, 4, 5, 6, 11], [], []⟩ ⟨[(3, .ptr 3 0), (4, .ptr 4 0), (5, .ptr 5 0), (6, .ptr 6 0), (11, .ptr 11 0), (12, I l14_1), (13, I l14_2), (14, I l14_3), (16, I r18.1), (17, I r18.2)], [(3, .box 24 (bxc (GTf.cs a0t))), (4, .box 28 (bxc (GCl.cs a1c))), (5, .box 31 (bxc (GSs.cs a2s))), (6, .box 55 [.p (.val (.slice none 0 0)), I 0, I 0, I 0]), (11, .box 55 [.p (.val (.slice none 0 0)), I l14_5, I 0, I 0])]⟩ krf ?_
        refine sS ?_
        refine sR tfm ⟨[3, 4, 5, 6, 11, 12, 13, 14, 16, 17, 75], [3, 4, 5, 6, 11], [], []⟩ ⟨[(3, .ptr 3 0), (4, .ptr 4 0), (5, .ptr 5 0), (6, .ptr 6 0), (11, .ptr 11 0), (12, I l14_1), (13, I l14_2), (14, I l14_3), (16, I r18.1), (17, I r18.2), (75, B (!eqI r18.2 0))], [(3, .box 24 (bxc (GTf.cs a0t))), (4, .box 28 (bxc (GCl.cs a1c))), (5, .box 31 (bxc (GSs.cs a2s))), (6, .box 55 [.p (.val (.slice none 0 0)), I 0, I 0, I 0]), (11, .box 55 [.p (.val (.slice none 0 0)), I l14_5, I 0, I 0])]⟩ krf ?_
        refine sC (!eqI r18.2 0) krf ?_ ?_
        ·refine sR tfm ⟨[6, 7], [6], [], []⟩ ⟨[(6, .ptr 6 0), (7, I r18.2)], [(6, .box 55 [.p (.val (.slice none 0 0)), I 0, I 0, I 0])]⟩ krf ?_
         refine sT ?_
         refine sq_r ?_
         refine bq_r ?_
         refine sq_r ?_
         refine kq_r ?_
         refine bq_r ?_
         refine kq_r ?_
         exact qR (.agg [.agg [.sl 2, .id, .id, .id], .id]) krf krf krf
        ·refine sK ?_
         refine sN ⟨[3, 4, 5, 6, 11, 12, 13, 14, 16], [3, 4, 5, 6, 11], [], []⟩ ⟨[(3, .ptr 3 0), (4, .ptr 4 0), (5, .ptr 5 0), (6, .ptr 6 0), (11, .ptr 11 0), (12, I l14_1), (13, I l14_2), (14, I l14_3), (16, I r18.1)], [(3, .box 24 (bxc (GTf.cs a0t))), (4, .box 28 (bxc (GCl.cs a1c))), (5, .box 31 (bxc (GSs.cs a2s))), (6, .box 55 [.p (.val (.slice none 0 0)), I 0, I 0, I 0]), (11, .box 55 [.p (.val (.slice none 0 0)), I l14_5, I 0, I 0])]⟩ krf ?_
         refine sS ?_
         refine sG ?_
         refine xR 6 krf ?_
         refine xF krf krf (aop_app0 (e := 68) (S := 2) (by_ := 16) (enc := GLine.cs) (d := 84) (l2 := [(⟨l14_3, r18.1⟩ : GLine)]) (xv := .tsl 2 (List.map GLine.cs [(⟨l14_3, r18.1⟩ : GLine)]) 83) rfl rfl krf krf rfl krf krf krf rfl krf) ?_
         refine xR 2 krf ?_
         refine xE ?_
         refine sN ⟨[3, 4, 5, 6, 11, 12, 13, 14, 16], [3, 4, 5, 6, 11, 84], [], []⟩ ⟨[(3, .ptr 3 0), (4, .ptr 4 0), (5, .ptr 5 0), (6, .ptr 6 0), (11, .ptr 11 0), (12, I l14_1), (13, I l14_2), (14, I l14_3), (16, I r18.1)], [(3, .box 24 (bxc (GTf.cs a0t))), (4, .box 28 (bxc (GCl.cs a1c))), (5, .box 31 (bxc (GSs.cs a2s))), (6, .box 55 [.p (.val (.slice none 0 0)), I 0, I 0, I 0]), (11, .box 55 [.tsl 2 (List.map GLine.cs (OL.nil.toL ++ [(⟨l14_3, r18.1⟩ : GLine)])) 84, I l14_5, I 0, I 0]), (84, .arr 68 2 (List.map GLine.cs (OL.nil.toL ++ [(⟨l14_3, r18.1⟩ : GLine)])).length)]⟩ krf ?_
         refine sL tfm krf ?_
         refine bq_n ?_
         refine sN ⟨[3, 4, 5, 6, 11, 12, 13, 14], [3, 4, 5, 6, 11, 84], [], []⟩ ⟨[(3, .ptr 3 0), (4, .ptr 4 0), (5, .ptr 5 0), (6, .ptr 6 0), (11, .ptr 11 0), (12, I l14_1), (13, I l14_2), (14, I l14_3)], [(3, .box 24 (bxc (GTf.cs a0t))), (4, .box 28 (bxc (GCl.cs a1c))), (5, .box 31 (bxc (GSs.cs a2s))), (6, .box 55 [.p (.val (.slice none 0 0)), I 0, I 0, I 0]), (11, .box 55 [.tsl 2 (List.map GLine.cs (OL.nil.toL ++ [(⟨l14_3, r18.1⟩ : GLine)])) 84, I (wi (l14_5 + r18.1)), I 0, I 0]), (84, .arr 68 2 (List.map GLine.cs (OL.nil.toL ++ [(⟨l14_3, r18.1⟩ : GLine)])).length)]⟩ krf ?_
         refine sL tfm krf ?_
         exact kq_n (l14_1, l14_2, wi (l14_3 + 1), OL.own (OL.nil.toL ++ [(⟨l14_3, r18.1⟩ : GLine)]), wi (l14_5 + r18.1)) ⟨[3, 4, 5, 6, 11, 12, 13, 14], [3, 4, 5, 6, 11, 84], [], []⟩ krf
     ·refine sim_exit ?_
      refine sq_x ?_
      refine kq_x ?_
      refine bq_hit ?_
      exact kq_n (k := fun (j7_1, j7_2, j7_3, j7_4) => g_ref33_Bill_j7 n j7_1 j7_2 j7_3 j7_4) (l14_1, l14_2, OL.nil, l14_5) ⟨[6, 11, 12, 13], [6, 11], [], []⟩ krf
    ·refine sS ?_
     refine sR tfm ⟨[3, 4, 5, 6, 11, 12, 13, 14, 41], [3, 4, 5, 6, 11, 84], [], []⟩ ⟨[(3, .ptr 3 0), (4, .ptr 4 0), (5, .ptr 5 0), (6, .ptr 6 0), (11, .ptr 11 0), (12, I l14_1), (13, I l14_2), (14, I l14_3), (41, B (ltI l14_3 (lenI (List.map GAr.cs a0t.Articles))))], [(3, .box 24 (bxc (GTf.cs a0t))), (4, .box 28 (bxc (GCl.cs a1c))), (5, .box 31 (bxc (GSs.cs a2s))), (6, .box 55 [.p (.val (.slice none 0 0)), I 0, I 0, I 0]), (11, .box 55 [.tsl 2 (List.map GLine.cs (OL.own ow_l14_4).toL) 84, I l14_5, I 0, I 0]), (84, .arr 68 2 (List.map GLine.cs (OL.own ow_l14_4).toL).length)]⟩ krf ?_
     refine sC (ltI l14_3 (lenI (List.map GAr.cs a0t.Articles))) krf ?_ ?_
     ·refine sK ?_
      refine sN ⟨[3, 4, 5, 6, 11, 12, 13, 14], [3, 4, 5, 6, 11, 84], [], []⟩ ⟨[(3, .ptr 3 0), (4, .ptr 4 0), (5, .ptr 5 0), (6, .ptr 6 0), (11, .ptr 11 0), (12, I l14_1), (13, I l14_2), (14, I l14_3)], [(3, .box 24 (bxc (GTf.cs a0t))), (4, .box 28 (bxc (GCl.cs a1c))), (5, .box 31 (bxc (GSs.cs a2s))), (6, .box 55 [.p (.val (.slice none 0 0)), I 0, I 0, I 0]), (11, .box 55 [.tsl 2 (List.map GLine.cs (OL.own ow_l14_4).toL) 84, I l14_5, I 0, I 0]), (84, .arr 68 2 (List.map GLine.cs (OL.own ow_l14_4).toL).length)]⟩ krf ?_
      refine sS ?_
      refine sB ?_
      refine sS ?_
      refine sG ?_
      refine xR 3 krf ?_
      refine xG krf krf (aop_idx (e := 45) (S := 7) (enc := GAr.cs) (l := a0t.Articles) (k := .i64) (n := l14_3) (sv := .p (.sl 7 (List.map GAr.cs a0t.Articles))) rfl krf krf krf krf krf) (fun x15 => ?_)
      refine xR 3 krf ?_
      refine xE ?_
      refine sN ⟨[3, 4, 5, 6, 11, 12, 13, 14, 15], [3, 4, 5, 6, 11, 15, 84], [], []⟩ ⟨[(3, .ptr 3 0), (4, .ptr 4 0), (5, .ptr 5 0), (6, .ptr 6 0), (11, .ptr 11 0), (12, I l14_1), (13, I l14_2), (14, I l14_3), (15, .ptr 15 0)], [(3, .box 24 (bxc (GTf.cs a0t))), (4, .box 28 (bxc (GCl.cs a1c))), (5, .box 31 (bxc (GSs.cs a2s))), (6, .box 55 [.p (.val (.slice none 0 0)), I 0, I 0, I 0]), (11, .box 55 [.tsl 2 (List.map GLine.cs (OL.own ow_l14_4).toL) 84, I l14_5, I 0, I 0]), (15, .box 45 (bxc (GAr.cs x15))), (84, .arr 68 2 (List.map GLine.cs (OL.own ow_l14_4).toL).length)]⟩ krf ?_
      refine sR tfm ⟨[3, 4, 5, 6, 11, 12, 13, 14, 15, 51], [3, 4, 5, 6, 11, 15, 84], [], []⟩ ⟨[(3, .ptr 3 0), (4, .ptr 4 0), (5, .ptr 5 0), (6, .ptr 6 0), (11, .ptr 11 0), (12, I l14_1), (13, I l14_2), (14, I l14_3), (15, .ptr 15 0), (51, B (eqI x15.Kind 6))], [(3, .box 24 (bxc (GTf.cs a0t))), (4, .box 28 (bxc (GCl.cs a1c))), (5, .box 31 (bxc (GSs.cs a2s))), (6, .box 55 [.p (.val (.slice none 0 0)), I 0, I 0, I 0]), (11, .box 55 [.tsl 2 (List.map GLine.cs (OL.own ow_l14_4).toL) 84, I l14_5, I 0, I 0]), (15, .box 45 (bxc (GAr.cs x15))), (84, .arr 68 2 (List.map GLine.cs (OL.own ow_l14_4).toL).length)]⟩ krf ?_
      refine sC (eqI x15.Kind 6) krf ?_ ?_
      ·refine sL tfm krf ?_
       refine bq_n ?_
       refine sN ⟨[3, 4, 5, 6, 11, 12, 13, 14], [3, 4, 5, 6, 11, 84], [], []⟩ ⟨[(3, .ptr 3 0), (4, .ptr 4 0), (5, .ptr 5 0), (6, .ptr 6 0), (11, .ptr 11 0), (12, I x15.Price), (13, I l14_2), (14, I l14_3)], [(3, .box 24 (bxc (GTf.cs a0t))), (4, .box 28 (bxc (GCl.cs a1c))), (5, .box 31 (bxc (GSs.cs a2s))), (6, .box 55 [.p (.val (.slice none 0 0)), I 0, I 0, I 0]), (11, .box 55 [.tsl 2 (List.map GLine.cs (OL.own ow_l14_4).toL) 84, I l14_5, I 0, I 0]), (84, .arr 68 2 (List.map GLine.cs (OL.own ow_l14_4).toL).length)]⟩ krf ?_
       refine sL tfm krf ?_
       exact kq_n (x15.Price, l14_2, wi (l14_3 + 1), (OL.own ow_l14_4), l14_5) ⟨[3, 4, 5, 6, 11, 12, 13, 14], [3, 4, 5, 6, 11, 84], [], []⟩ krf
      ·refine sR tfm ⟨[3, 4, 5, 6, 11, 12, 13, 14, 15, 56], [3, 4, 5, 6, 11, 15, 84], [], []⟩ ⟨[(3, .ptr 3 0), (4, .ptr 4 0), (5, .ptr 5 0), (6, .ptr 6 0), (11, .ptr 11 0), (12, I l14_1), (13, I l14_2), (14, I l14_3), (15, .ptr 15 0), (56, B (eqI x15.Kind 5))], [(3, .box 24 (bxc (GTf.cs a0t))), (4, .box 28 (bxc (GCl.cs a1c))), (5, .box 31 (bxc (GSs.cs a2s))), (6, .box 55 [.p (.val (.slice none 0 0)), I 0, I 0, I 0]), (11, .box 55 [.tsl 2 (List.map GLine.cs (OL.own ow_l14_4).toL) 84, I l14_5, I 0, I 0]), (15, .box 45 (bxc (GAr.cs x15))), (84, .arr 68 2 (List.map GLine.cs (OL.own ow_l14_4).toL).length)]⟩ krf ?_
       refine sC (eqI x15.Kind 5) krf ?_ ?_
       ·refine sim_bind (fun j16 => ⟨[(3, .ptr 3 0), (4, .ptr 4 0), (5, .ptr 5 0), (6, .ptr 6 0), (11, .ptr 11 0), (12, I l14_1), (13, I l14_2), (14, I l14_3), (15, .ptr 15 0), (64, B j16)], [(3, .box 24 (bxc (GTf.cs a0t))), (4, .box 28 (bxc (GCl.cs a1c))), (5, .box 31 (bxc (GSs.cs a2s))), (6, .box 55 [.p (.val (.slice none 0 0)), I 0, I 0, I 0]), (11, .box 55 [.tsl 2 (List.map GLine.cs (OL.own ow_l14_4).toL) 84, I l14_5, I 0, I 0]), (15, .box 45 (bxc (GAr.cs x15))), (84, .arr 68 2 (List.map GLine.cs (OL.own ow_l14_4).toL).length)]⟩ : Bool → St) ?_ ?_
        ·refine sG ?_
         refine xR 3 krf ?_
         refine xS (ltI l14_2 0) (fun h17 => ?_) (fun h17 => ?_)
         ·refine xN (want_ft krf h17) krf ?_
          refine xR 4 krf ?_
          refine xE ?_
          exact nq_n true ⟨[3, 4, 5, 6, 11, 12, 13, 14, 15, 64], [3, 4, 5, 6, 11, 15, 84], [], []⟩ krf
         ·refine xO (want_ff krf h17) krf ?_
          refine xR 4 krf ?_
          refine xE ?_
          exact nq_n (ltI x15.Price l14_2) ⟨[3, 4, 5, 6, 11, 12, 13, 14, 15, 64], [3, 4, 5, 6, 11, 15, 84], [], []⟩ krf
        ·rintro j16
         refine sC j16 krf ?_ ?_
         ·refine sL tfm krf ?_
          refine bq_n ?_
          refine sN ⟨[3, 4, 5, 6, 11, 12, 13, 14], [3, 4, 5, 6, 11, 84], [], []⟩ ⟨[(3, .ptr 3 0), (4, .ptr 4 0), (5, .ptr 5 0), (6, .ptr 6 0), (11, .ptr 11 0), (12, I l14_1), (13, I x15.Price), (14, I l14_3)], [(3, .box 24 (bxc (GTf.cs a0t))), (4, .box 28 (bxc (GCl.cs a1c))), (5, .box 31 (bxc (GSs.cs a2s))), (6, .box 55 [.p (.val (.slice none 0 0)), I 0, I 0, I 0]), (11, .box 55 [.tsl 2 (List.map GLine.cs (OL.own ow_l14_4).toL) 84, I l14_5, I 0, I 0]), (84, .arr 68 2 (List.map GLine.cs (OL.own ow_l14_4).toL).length)]⟩ krf ?_
          refine sL tfm krf ?_
          exact kq_n (l14_1, x15.Price, wi (l14_3 + 1), (OL.own ow_l14_4), l14_5) ⟨[3, 4, 5, 6, 11, 12, 13, 14], [3, 4, 5, 6, 11, 84], [], []⟩ krf
         ·refine sK ?_
          refine bq_n ?_
          refine sN ⟨[3, 4, 5, 6, 11, 12, 13, 14], [3, 4, 5, 6, 11, 84], [], []⟩ ⟨[(3, .ptr 3 0), (4, .ptr 4 0), (5, .ptr 5 0), (6, .ptr 6 0), (11, .ptr 11 0), (12, I l14_1), (13, I l14_2), (14, I l14_3)], [(3, .box 24 (bxc (GTf.cs a0t))), (4, .box 28 (bxc (GCl.cs a1c))), (5, .box 31 (bxc (GSs.cs a2s))), (6, .box 55 [.p (.val (.slice none 0 0)), I 0, I 0, I 0]), (11, .box 55 [.tsl 2 (List.map GLine.cs (OL.own ow_l14_4).toL) 84, I l14_5, I 0, I 0]), (84, .arr 68 2 (List.map GLine.cs (OL.own ow_l14_4).toL).length)]⟩ krf ?_
          refine sL tfm krf ?_
          exact kq_n (l14_1, l14_2, wi (l14_3 + 1), (OL.own ow_l14_4), l14_5) ⟨[3, 4, 5, 6, 11, 12, 13, 14], [3, 4, 5, 6, 11, 84], [], []⟩ krf
       ·refine sS ?_
        refine sG ?_
        refine xR 3 krf ?_
        refine xC [] krf (g_ref33_Line_ok n x15 a1c a2s) krf krf (fun _ => by kernel_rfl) (fun r18 => ?_)
        refine xR 5 krf ?_
        refine xE ?_
        refine sN ⟨[3, 4, 5, 6, 11, 12, 13, 14, 16, 17], [3, 4, 5, 6, 11, 84], [], []⟩ ⟨[(3, .ptr 3 0), (4, .ptr 4 0), (5, .ptr 5 0), (6, .ptr 6 0), (11, .ptr 11 0), (12, I l14_1), (13, I l14_2), (14, I l14_3), (16, I r18.1), (17, I r18.2)], [(3, .box 24 (bxc (GTf.cs a0t))), (4, .box 28 (bxc (GCl.cs a1c))), (5, .box 31 (bxc (GSs.cs a2s))), (6, .box 55 [.p (.val (.slice none 0 0)), I 0, I 0, I 0]), (11, .box 55 [.tsl 2 (List.map GLine.cs (OL.own ow_l14_4).toL) 84, I l14_5, I 0, I 0]), (84, .arr 68 2 (List.map GLine.cs (OL.own ow_l14_4).toL).length)]⟩ krf ?_
        refine sS ?_
        refine sR tfm ⟨[3, 4, 5, 6, 11, 12, 13, 14, 16, 17, 75], [3, 4, 5, 6, 11, 84], [], []⟩ ⟨[(3, .ptr 3 0), (4, .ptr 4 0), (5, .ptr 5 0), (6, .ptr 6 0), (11, .ptr 11 0), (12, I l14_1), (13, I l14_2), (14, I l14_3), (16, I r18.1), (17, I r18.2), (75, B (!eqI r18.2 0))], [(3, .box 24 (bxc (GTf.cs a0t))), (4, .box 28 (bxc (GCl.cs a1c))), (5, .box 31 (bxc (GSs.cs a2s))), (6, .box 55 [.p (.val (.slice none 0 0)), I 0, I 0, I 0]), (11, .box 55 [.tsl 2 (List.map GLine.cs (OL.own ow_l14_4).toL) 84, I l14_5, I 0, I 0]), (84, .arr 68 2 (List.map GLine.cs (OL.own ow_l14_4).toL).length)]⟩ krf ?_
        refine sC (!eqI r18.2 0) krf ?_ ?_
        ·refine sR tfm ⟨[6, 7], [6], [], []⟩ ⟨[(6, .ptr 6 0), (7, I r18.2)], [(6, .box 55 [.p (.val (.slice none 0 0)), I 0, I 0, I 0])]⟩ krf ?_
         refine sT ?_
         refine sq_r ?_
         refine bq_r ?_
         refine sq_r ?_
         refine kq_r ?_
         refine bq_r ?_
         refine kq_r ?_
         exact qR (.agg [.agg [.sl 2, .id, .id, .id], .id]) krf krf krf
        ·refine sK ?_
         refine sN ⟨[3, 4, 5, 6, 11, 12, 13, 14, 16], [3, 4, 5, 6, 11, 84], [], []⟩ ⟨[(3, .ptr 3 0), (4, .ptr 4 0), (5, .ptr 5 0), (6, .ptr 6 0), (11, .ptr 11 0), (12, I l14_1), (13, I l14_2), (14, I l14_3), (16, I r18.1)], [(3, .box 24 (bxc (GTf.cs a0t))), (4, .box 28 (bxc (GCl.cs a1c))), (5, .box 31 (bxc (GSs.cs a2s))), (6, .box 55 [.p (.val (.slice none 0 0)), I 0, I 0, I 0]), (11, .box 55 [.tsl 2 (List.map GLine.cs (OL.own ow_l14_4).toL) 84, I l14_5, I 0, I 0]), (84, .arr 68 2 (List.map GLine.cs (OL.own ow_l14_4).toL).length)]⟩ krf ?_
         refine sS ?_
         refine sG ?_
         refine xR 6 krf ?_
         refine xF krf krf (aop_app (e := 68) (S := 2) (by_ := 16) (enc := GLine.cs) (tk := 84) (l := (OL.own ow_l14_4).toL) (l2 := [(⟨l14_3, r18.1⟩ : GLine)]) (xv := .tsl 2 (List.map GLine.cs [(⟨l14_3, r18.1⟩ : GLine)]) 83) rfl krf krf rfl krf krf krf rfl krf) ?_
         refine xR 2 krf ?_
         refine xE ?_
         refine sN ⟨[3, 4, 5, 6, 11, 12, 13, 14, 16], [3, 4, 5, 6, 11, 84], [], []⟩ ⟨[(3, .ptr 3 0), (4, .ptr 4 0), (5, .ptr 5 0), (6, .ptr 6 0), (11, .ptr 11 0), (12, I l14_1), (13, I l14_2), (14, I l14_3), (16, I r18.1)], [(3, .box 24 (bxc (GTf.cs a0t))), (4, .box 28 (bxc (GCl.cs a1c))), (5, .box 31 (bxc (GSs.cs a2s))), (6, .box 55 [.p (.val (.slice none 0 0)), I 0, I 0, I 0]), (11, .box 55 [.tsl 2 (List.map GLine.cs ((OL.own ow_l14_4).toL ++ [(⟨l14_3, r18.1⟩ : GLine)])) 84, I l14_5, I 0, I 0]), (84, .arr 68 2 (List.map GLine.cs ((OL.own ow_l14_4).toL ++ [(⟨l14_3, r18.1⟩ : GLine)])).length)]⟩ krf ?_
         refine sL tfm krf ?_
         refine bq_n ?_
         refine sN ⟨[3, 4, 5, 6, 11, 12, 13, 14], [3, 4, 5, 6, 11, 84], [], []⟩ ⟨[(3, .ptr 3 0), (4, .ptr 4 0), (5, .ptr 5 0), (6, .ptr 6 0), (11, .ptr 11 0), (12, I l14_1), (13, I l14_2), (14, I l14_3)], [(3, .box 24 (bxc (GTf.cs a0t))), (4, .box 28 (bxc (GCl.cs a1c))), (5, .box 31 (bxc (GSs.cs a2s))), (6, .box 55 [.p (.val (.slice none 0 0)), I 0, I 0, I 0]), (11, .box 55 [.tsl 2 (List.map GLine.cs ((OL.own ow_l14_4).toL ++ [(⟨l14_3, r18.1⟩ : GLine)])) 84, I (wi (l14_5 + r18.1)), I 0, I 0]), (84, .arr 68 2 (List.map GLine.cs ((OL.own ow_l14_4).toL ++ [(⟨l14_3, r18.1⟩ : GLine)])).length)]⟩ krf ?_
         refine sL tfm krf ?_
         exact kq_n (l14_1, l14_2, wi (l14_3 + 1), OL.own ((OL.own ow_l14_4).toL ++ [(⟨l14_3, r18.1⟩ : GLine)]), wi (l14_5 + r18.1)) ⟨[3, 4, 5, 6, 11, 12, 13, 14], [3, 4, 5, 6, 11, 84], [], []⟩ krf
     ·refine sim_exit ?_
      refine sq_x ?_
      refine kq_x ?_
      refine bq_hit ?_
      exact kq_n (k := fun (j7_1, j7_2, j7_3, j7_4) => g_ref33_Bill_j7 n j7_1 j7_2 j7_3 j7_4) (l14_1, l14_2, (OL.own ow_l14_4), l14_5) ⟨[6, 11, 12, 13], [6, 11, 84], [], []⟩ krf
def g_ref34_Price_j5 (j5 : Int) : Option (Int × Int) :=
 cond (ltI 1000000000 j5)
  (some (0, 3))
  (some (j5, 0))
def g_ref34_Price_l6 (n : Nat) (a0t : GTf) (a1c : GCl) (a2s : GSs) (a3cuts : List Int) (recl6 : (Int × Int × Int) → Option (Int × Int)) (l6_1 : Int) (l6_2 : Int) (l6_3 : Int) : Option (Int × Int) :=
 cond (leI l6_3 (lenI (List.map ci a3cuts)))
  ((cond (ltI l6_3 (lenI (List.map ci a3cuts)))
   ((getI a3cuts l6_3).bind fun x8 =>
   some x8)
   (some a2s.To)).bind fun j7 =>
  (g_ref34_Part n a2s l6_2 j7).bind fun r9 =>
  (g_ref33_Bill n a0t a1c r9).bind fun r10 =>
  cond (!eqI r10.2 0)
   (some (0, 3))
   (recl6 (wi (l6_1 + r10.1.Total), j7, wi (l6_3 + 1))))
  (g_ref34_Price_j5 l6_1)
def g_ref34_Price_j4 (n : Nat) (a0t : GTf) (a1c : GCl) (a2s : GSs) (a3cuts : List Int) : Option (Int × Int) :=
 loopN (fun recl6 (l6_1, l6_2, l6_3) => g_ref34_Price_l6 n a0t a1c a2s a3cuts recl6 l6_1 l6_2 l6_3) n (0, a2s.From, 0)
def g_ref34_Price_l11 (n : Nat) (a0t : GTf) (a1c : GCl) (a2s : GSs) (a3cuts : List Int) (recl11 : Int → Option (Int × Int)) (l11 : Int) : Option (Int × Int) :=
 cond (ltI l11 (lenI (List.map ci a3cuts)))
  (((getI a3cuts l11).bind fun x13 =>
  cond (leI x13 a2s.From)
   (some true)
   ((getI a3cuts l11).bind fun x15 =>
   cond (leI a2s.To x15)
    (some true)
    (cond (ltI 0 l11)
     ((getI a3cuts l11).bind fun x18 =>
     (getI a3cuts (wi (l11 - 1))).bind fun x19 =>
     some (leI x18 x19))
     (some false)))).bind fun j12 =>
  cond j12
   (some (0, 1))
   (recl11 (wi (l11 + 1))))
  (g_ref34_Price_j4 n a0t a1c a2s a3cuts)
def g_ref34_Price (n : Nat) (a0t : GTf) (a1c : GCl) (a2s : GSs) (a3cuts : List Int) : Option (Int × Int) :=
 ((g_ref34_valid n a0t a1c a2s).bind fun r2 =>
 cond (!r2)
  (some true)
  (some (ltI 4 (lenI (List.map ci a3cuts))))).bind fun j1 =>
 cond j1
  (some (0, 1))
  (loopN (fun recl11 l11 => g_ref34_Price_l11 n a0t a1c a2s a3cuts recl11 l11) n 0)
theorem g_ref34_Price_ok (n : Nat) (a0t : GTf) (a1c : GCl) (a2s : GSs) (a3cuts : List Int) : ∀ r, g_ref34_Price n a0t a1c a2s a3cuts = some r → PCall Tryz.prog 9 [ag (GTf.cs a0t), ag (GCl.cs a1c), ag (GSs.cs a2s), .p (.sl 1 (List.map ci a3cuts))] (.ret (.tup [I r.1, I r.2])) := by
 refine pcall_sim (X := fun r : Int × Int => AEnd.ret (.tup [I r.1, I r.2])) Tryz.func9 rfl Tryz.ntmps9 rfl ?_
 unfold g_ref34_Price
 refine sR tfm ⟨[3, 4, 5, 6], [4, 5, 6], [], []⟩ ⟨[(3, .p (.sl 1 (List.map ci a3cuts))), (4, .ptr 4 0), (5, .ptr 5 0), (6, .ptr 6 0)], [(4, .box 24 (bxc (GTf.cs a0t))), (5, .box 28 (bxc (GCl.cs a1c))), (6, .box 31 (bxc (GSs.cs a2s)))]⟩ krf ?_
 refine sS ?_
 refine sim_bind (fun j1 => ⟨[(3, .p (.sl 1 (List.map ci a3cuts))), (4, .ptr 4 0), (5, .ptr 5 0), (6, .ptr 6 0), (26, B j1)], [(4, .box 24 (bxc (GTf.cs a0t))), (5, .box 28 (bxc (GCl.cs a1c))), (6, .box 31 (bxc (GSs.cs a2s)))]⟩ : Bool → St) ?_ ?_
 ·refine sG ?_
  refine xR 3 krf ?_
  refine xC [] krf (g_ref34_valid_ok n a0t a1c a2s) krf krf (fun _ => by kernel_rfl) (fun r2 => ?_)
  refine xR 2 krf ?_
  refine xS (!r2) (fun h3 => ?_) (fun h3 => ?_)
  ·refine xN (want_ft krf h3) krf ?_
   refine xR 3 krf ?_
   refine xE ?_
   exact nq_n true ⟨[3, 4, 5, 6, 26], [4, 5, 6], [], []⟩ krf
  ·refine xO (want_ff krf h3) krf ?_
   refine xR 3 krf ?_
   refine xE ?_
   exact nq_n (ltI 4 (lenI (List.map ci a3cuts))) ⟨[3, 4, 5, 6, 26], [4, 5, 6], [], []⟩ krf
 ·rintro j1
  refine sC j1 krf ?_ ?_
  ·refine sR tfm ⟨[8, 9], [], [], []⟩ ⟨[(8, I 0), (9, I 1)], []⟩ krf ?_
   refine sT ?_
   refine sq_r ?_
   exact qR (.id) krf krf krf
  ·refine sK ?_
   refine sN ⟨[3, 4, 5, 6], [4, 5, 6], [], []⟩ ⟨[(3, .p (.sl 1 (List.map ci a3cuts))), (4, .ptr 4 0), (5, .ptr 5 0), (6, .ptr 6 0)], [(4, .box 24 (bxc (GTf.cs a0t))), (5, .box 28 (bxc (GCl.cs a1c))), (6, .box 31 (bxc (GSs.cs a2s)))]⟩ krf ?_
   refine sim_cps (fun _ => ⟨[(3, .p (.sl 1 (List.map ci a3cuts))), (4, .ptr 4 0), (5, .ptr 5 0), (6, .ptr 6 0)], [(4, .box 24 (bxc (GTf.cs a0t))), (5, .box 28 (bxc (GCl.cs a1c))), (6, .box 31 (bxc (GSs.cs a2s)))]⟩ : Unit → St) (fun _ => g_ref34_Price_j4 n a0t a1c a2s a3cuts) ?_ ?_
   ·rintro _
    show SimE (g_ref34_Price_j4 n a0t a1c a2s a3cuts) _ _ _ _ _ _
    unfold g_ref34_Price_j4
    refine sR tfm ⟨[3, 4, 5, 6, 11], [4, 5, 6], [], []⟩ ⟨[(3, .p (.sl 1 (List.map ci a3cuts))), (4, .ptr 4 0), (5, .ptr 5 0), (6, .ptr 6 0), (11, I 0)], [(4, .box 24 (bxc (GTf.cs a0t))), (5, .box 28 (bxc (GCl.cs a1c))), (6, .box 31 (bxc (GSs.cs a2s)))]⟩ krf ?_
    refine sR tfm ⟨[3, 4, 5, 6, 11, 12], [4, 5, 6], [], []⟩ ⟨[(3, .p (.sl 1 (List.map ci a3cuts))), (4, .ptr 4 0), (5, .ptr 5 0), (6, .ptr 6 0), (11, I 0), (12, I a2s.From)], [(4, .box 24 (bxc (GTf.cs a0t))), (5, .box 28 (bxc (GCl.cs a1c))), (6, .box 31 (bxc (GSs.cs a2s)))]⟩ krf ?_
    refine sim_cps (fun j5 => ⟨[(11, I j5)], []⟩ : Int → St) (fun j5 => g_ref34_Price_j5 j5) ?_ ?_
    ·rintro j5
     show SimE (g_ref34_Price_j5 j5) _ _ _ _ _ _
     unfold g_ref34_Price_j5
     refine sS ?_
     refine sR tfm ⟨[11, 101], [], [], []⟩ ⟨[(11, I j5), (101, B (ltI 1000000000 j5))], []⟩ krf ?_
     refine sC (ltI 1000000000 j5) krf ?_ ?_
     ·refine sR tfm ⟨[8, 9], [], [], []⟩ ⟨[(8, I 0), (9, I 3)], []⟩ krf ?_
      refine sT ?_
      refine sq_r ?_
      exact qR (.id) krf krf krf
     ·refine sK ?_
      refine sN ⟨[11], [], [], []⟩ ⟨[(11, I j5)], []⟩ krf ?_
      refine sR tfm ⟨[8, 9], [], [], []⟩ ⟨[(8, I j5), (9, I 0)], []⟩ krf ?_
      refine sT ?_
      exact qR (.id) krf krf krf
    ·refine sR tfm ⟨[3, 4, 5, 6, 11, 12, 13], [4, 5, 6], [], []⟩ ⟨[(3, .p (.sl 1 (List.map ci a3cuts))), (4, .ptr 4 0), (5, .ptr 5 0), (6, .ptr 6 0), (11, I 0), (12, I a2s.From), (13, I 0)], [(4, .box 24 (bxc (GTf.cs a0t))), (5, .box 28 (bxc (GCl.cs a1c))), (6, .box 31 (bxc (GSs.cs a2s)))]⟩ krf ?_
     refine sB ?_
     refine sim_loop (fun (l6_1, l6_2, l6_3) => ⟨[(3, .p (.sl 1 (List.map ci a3cuts))), (4, .ptr 4 0), (5, .ptr 5 0), (6, .ptr 6 0), (11, I l6_1), (12, I l6_2), (13, I l6_3)], [(4, .box 24 (bxc (GTf.cs a0t))), (5, .box 28 (bxc (GCl.cs a1c))), (6, .box 31 (bxc (GSs.cs a2s)))]⟩ : (Int × Int × Int) → St) (weak_shr (K := ⟨[3, 4, 5, 6, 11, 12, 13], [4, 5, 6], [], []⟩) krf) ?_
     rintro recl6 ⟨l6_1, l6_2, l6_3⟩
     show SimE (g_ref34_Price_l6 n a0t a1c a2s a3cuts recl6 l6_1 l6_2 l6_3) _ _ _ _ _ _
     unfold g_ref34_Price_l6
     refine sS ?_
     refine sR tfm ⟨[3, 4, 5, 6, 11, 12, 13, 70], [4, 5, 6], [], []⟩ ⟨[(3, .p (.sl 1 (List.map ci a3cuts))), (4, .ptr 4 0), (5, .ptr 5 0), (6, .ptr 6 0), (11, I l6_1), (12, I l6_2), (13, I l6_3), (70, B (leI l6_3 (lenI (List.map ci a3cuts))))], [(4, .box 24 (bxc (GTf.cs a0t))), (5, .box 28 (bxc (GCl.cs a1c))), (6, .box 31 (bxc (GSs.cs a2s)))]⟩ krf ?_
     refine sC (leI l6_3 (lenI (List.map ci a3cuts))) krf ?_ ?_
     ·refine sK ?_
      refine sN ⟨[3, 4, 5, 6, 11, 12, 13], [4, 5, 6], [], []⟩ ⟨[(3, .p (.sl 1 (List.map ci a3cuts))), (4, .ptr 4 0), (5, .ptr 5 0), (6, .ptr 6 0), (11, I l6_1), (12, I l6_2), (13, I l6_3)], [(4, .box 24 (bxc (GTf.cs a0t))), (5, .box 28 (bxc (GCl.cs a1c))), (6, .box 31 (bxc (GSs.cs a2s)))]⟩ krf ?_
      refine sS ?_
      refine sB ?_
      refine sR tfm ⟨[3, 4, 5, 6, 11, 12, 13, 14], [4, 5, 6], [], []⟩ ⟨[(3, .p (.sl 1 (List.map ci a3cuts))), (4, .ptr 4 0), (5, .ptr 5 0), (6, .ptr 6 0), (11, I l6_1), (12, I l6_2), (13, I l6_3), (14, I a2s.To)], [(4, .box 24 (bxc (GTf.cs a0t))), (5, .box 28 (bxc (GCl.cs a1c))), (6, .box 31 (bxc (GSs.cs a2s)))]⟩ krf ?_
      refine sim_bind (fun j7 => ⟨[(3, .p (.sl 1 (List.map ci a3cuts))), (4, .ptr 4 0), (5, .ptr 5 0), (6, .ptr 6 0), (11, I l6_1), (12, I l6_2), (13, I l6_3), (14, I j7)], [(4, .box 24 (bxc (GTf.cs a0t))), (5, .box 28 (bxc (GCl.cs a1c))), (6, .box 31 (bxc (GSs.cs a2s)))]⟩ : Int → St) ?_ ?_
      ·refine sR tfm ⟨[3, 4, 5, 6, 11, 12, 13, 14, 78], [4, 5, 6], [], []⟩ ⟨[(3, .p (.sl 1 (List.map ci a3cuts))), (4, .ptr 4 0), (5, .ptr 5 0), (6, .ptr 6 0), (11, I l6_1), (12, I l6_2), (13, I l6_3), (14, I a2s.To), (78, B (ltI l6_3 (lenI (List.map ci a3cuts))))], [(4, .box 24 (bxc (GTf.cs a0t))), (5, .box 28 (bxc (GCl.cs a1c))), (6, .box 31 (bxc (GSs.cs a2s)))]⟩ krf ?_
       refine sC (ltI l6_3 (lenI (List.map ci a3cuts))) krf ?_ ?_
       ·refine sG ?_
        refine xR 2 krf ?_
        refine xG krf krf (aop_idx (e := 3) (S := 1) (enc := ci) (l := a3cuts) (k := .i64) (n := l6_3) (sv := .p (.sl 1 (List.map ci a3cuts))) rfl krf krf krf krf krf) (fun x8 => ?_)
        refine xR 2 krf ?_
        refine xE ?_
        exact nq_n x8 ⟨[3, 4, 5, 6, 11, 12, 13, 14], [4, 5, 6], [], []⟩ krf
       ·refine sK ?_
        exact nq_n a2s.To ⟨[3, 4, 5, 6, 11, 12, 13, 14], [4, 5, 6], [], []⟩ krf
      ·rintro j7
       refine sS ?_
       refine sim_drw tfm rfl ?_
       refine xR 5 krf ?_
       refine xC [] krf (g_ref34_Part_ok n a2s l6_2 j7) krf krf (fun _ => by kernel_rfl) (fun r9 => ?_)
       refine xC [] krf (g_ref33_Bill_ok n a0t a1c r9) krf krf (fun _ => by kernel_rfl) (fun r10 => ?_)
       refine xR 6 krf ?_
       refine xs_endD krf ?_
       refine sN ⟨[3, 4, 5, 6, 11, 13, 14, 15, 16], [4, 5, 6, 15], [], []⟩ ⟨[(3, .p (.sl 1 (List.map ci a3cuts))), (4, .ptr 4 0), (5, .ptr 5 0), (6, .ptr 6 0), (11, I l6_1), (13, I l6_3), (14, I j7), (15, .ptr 15 0), (16, I r10.2)], [(4, .box 24 (bxc (GTf.cs a0t))), (5, .box 28 (bxc (GCl.cs a1c))), (6, .box 31 (bxc (GSs.cs a2s))), (15, .box 55 (bxc (GBill.cs r10.1)))]⟩ krf ?_
       refine sS ?_
       refine sR tfm ⟨[3, 4, 5, 6, 11, 13, 14, 15, 94], [4, 5, 6, 15], [], []⟩ ⟨[(3, .p (.sl 1 (List.map ci a3cuts))), (4, .ptr 4 0), (5, .ptr 5 0), (6, .ptr 6 0), (11, I l6_1), (13, I l6_3), (14, I j7), (15, .ptr 15 0), (94, B (!eqI r10.2 0))], [(4, .box 24 (bxc (GTf.cs a0t))), (5, .box 28 (bxc (GCl.cs a1c))), (6, .box 31 (bxc (GSs.cs a2s))), (15, .box 55 (bxc (GBill.cs r10.1)))]⟩ krf ?_
       refine sC (!eqI r10.2 0) krf ?_ ?_
       ·refine sR tfm ⟨[8, 9], [], [], []⟩ ⟨[(8, I 0), (9, I 3)], []⟩ krf ?_
        refine sT ?_
        refine sq_r ?_
        refine bq_r ?_
        refine sq_r ?_
        refine kq_r ?_
        refine bq_r ?_
        refine kq_r ?_
        exact qR (.id) krf krf krf
       ·refine sK ?_
        refine sN ⟨[3, 4, 5, 6, 11, 13, 14, 15], [4, 5, 6, 15], [], []⟩ ⟨[(3, .p (.sl 1 (List.map ci a3cuts))), (4, .ptr 4 0), (5, .ptr 5 0), (6, .ptr 6 0), (11, I l6_1), (13, I l6_3), (14, I j7), (15, .ptr 15 0)], [(4, .box 24 (bxc (GTf.cs a0t))), (5, .box 28 (bxc (GCl.cs a1c))), (6, .box 31 (bxc (GSs.cs a2s))), (15, .box 55 (bxc (GBill.cs r10.1)))]⟩ krf ?_
        refine sR tfm ⟨[3, 4, 5, 6, 11, 13, 14], [4, 5, 6], [], []⟩ ⟨[(3, .p (.sl 1 (List.map ci a3cuts))), (4, .ptr 4 0), (5, .ptr 5 0), (6, .ptr 6 0), (11, I (wi (l6_1 + r10.1.Total))), (13, I l6_3), (14, I j7)], [(4, .box 24 (bxc (GTf.cs a0t))), (5, .box 28 (bxc (GCl.cs a1c))), (6, .box 31 (bxc (GSs.cs a2s)))]⟩ krf ?_
        refine sL tfm krf ?_
        refine bq_n ?_
        refine sN ⟨[3, 4, 5, 6, 11, 12, 13], [4, 5, 6], [], []⟩ ⟨[(3, .p (.sl 1 (List.map ci a3cuts))), (4, .ptr 4 0), (5, .ptr 5 0), (6, .ptr 6 0), (11, I (wi (l6_1 + r10.1.Total))), (12, I j7), (13, I l6_3)], [(4, .box 24 (bxc (GTf.cs a0t))), (5, .box 28 (bxc (GCl.cs a1c))), (6, .box 31 (bxc (GSs.cs a2s)))]⟩ krf ?_
        refine sL tfm krf ?_
        exact kq_n (wi (l6_1 + r10.1.Total), j7, wi (l6_3 + 1)) ⟨[3, 4, 5, 6, 11, 12, 13], [4, 5, 6], [], []⟩ krf
     ·refine sim_exit ?_
      refine sq_x ?_
      refine kq_x ?_
      refine bq_hit ?_
      exact kq_n (k := fun j5 => g_ref34_Price_j5 j5) l6_1 ⟨[11], [], [], []⟩ krf
   ·refine sR tfm ⟨[3, 4, 5, 6, 10], [4, 5, 6], [], []⟩ ⟨[(3, .p (.sl 1 (List.map ci a3cuts))), (4, .ptr 4 0), (5, .ptr 5 0), (6, .ptr 6 0), (10, I 0)], [(4, .box 24 (bxc (GTf.cs a0t))), (5, .box 28 (bxc (GCl.cs a1c))), (6, .box 31 (bxc (GSs.cs a2s)))]⟩ krf ?_
    refine sB ?_
    refine sim_loop (fun l11 => ⟨[(3, .p (.sl 1 (List.map ci a3cuts))), (4, .ptr 4 0), (5, .ptr 5 0), (6, .ptr 6 0), (10, I l11)], [(4, .box 24 (bxc (GTf.cs a0t))), (5, .box 28 (bxc (GCl.cs a1c))), (6, .box 31 (bxc (GSs.cs a2s)))]⟩ : Int → St) (weak_shr (K := ⟨[3, 4, 5, 6, 10], [4, 5, 6], [], []⟩) krf) ?_
    rintro recl11 l11
    show SimE (g_ref34_Price_l11 n a0t a1c a2s a3cuts recl11 l11) _ _ _ _ _ _
    unfold g_ref34_Price_l11
    refine sS ?_
    refine sR tfm ⟨[3, 4, 5, 6, 10, 30], [4, 5, 6], [], []⟩ ⟨[(3, .p (.sl 1 (List.map ci a3cuts))), (4, .ptr 4 0), (5, .ptr 5 0), (6, .ptr 6 0), (10, I l11), (30, B (ltI l11 (lenI (List.map ci a3cuts))))], [(4, .box 24 (bxc (GTf.cs a0t))), (5, .box 28 (bxc (GCl.cs a1c))), (6, .box 31 (bxc (GSs.cs a2s)))]⟩ krf ?_
    refine sC (ltI l11 (lenI (List.map ci a3cuts))) krf ?_ ?_
    ·refine sK ?_
     refine sN ⟨[3, 4, 5, 6, 10], [4, 5, 6], [], []⟩ ⟨[(3, .p (.sl 1 (List.map ci a3cuts))), (4, .ptr 4 0), (5, .ptr 5 0), (6, .ptr 6 0), (10, I l11)], [(4, .box 24 (bxc (GTf.cs a0t))), (5, .box 28 (bxc (GCl.cs a1c))), (6, .box 31 (bxc (GSs.cs a2s)))]⟩ krf ?_
     refine sS ?_
     refine sB ?_
     refine sim_bind (fun j12 => ⟨[(3, .p (.sl 1 (List.map ci a3cuts))), (4, .ptr 4 0), (5, .ptr 5 0), (6, .ptr 6 0), (10, I l11), (64, B j12)], [(4, .box 24 (bxc (GTf.cs a0t))), (5, .box 28 (bxc (GCl.cs a1c))), (6, .box 31 (bxc (GSs.cs a2s)))]⟩ : Bool → St) ?_ ?_
     ·refine sim_drw tfm rfl ?_
      refine xR 2 krf ?_
      refine xG krf krf (aop_idx (e := 3) (S := 1) (enc := ci) (l := a3cuts) (k := .i64) (n := l11) (sv := .p (.sl 1 (List.map ci a3cuts))) rfl krf krf krf krf krf) (fun x13 => ?_)
      refine xR 5 krf ?_
      refine xS (leI x13 a2s.From) (fun h14 => ?_) (fun h14 => ?_)
      ·refine xN (want_ft krf h14) krf ?_
       refine xR 23 krf ?_
       refine xs_endD krf ?_
       exact nq_n true ⟨[3, 4, 5, 6, 10, 64], [4, 5, 6], [], []⟩ krf
      ·refine xO (want_ff krf h14) krf ?_
       refine xR 1 krf ?_
       refine xG krf krf (aop_idx (e := 3) (S := 1) (enc := ci) (l := a3cuts) (k := .i64) (n := l11) (sv := .p (.sl 1 (List.map ci a3cuts))) rfl krf krf krf krf krf) (fun x15 => ?_)
       refine xR 6 krf ?_
       refine xS (leI a2s.To x15) (fun h16 => ?_) (fun h16 => ?_)
       ·refine xN (want_ft krf h16) krf ?_
        refine xR 14 krf ?_
        refine xs_endD krf ?_
        exact nq_n true ⟨[3, 4, 5, 6, 10, 64], [4, 5, 6], [], []⟩ krf
       ·refine xO (want_ff krf h16) krf ?_
        refine xR 2 krf ?_
        refine xS (ltI 0 l11) (fun h17 => ?_) (fun h17 => ?_)
        ·refine xO (want_tt krf h17) krf ?_
         refine xR 1 krf ?_
         refine xG krf krf (aop_idx (e := 3) (S := 1) (enc := ci) (l := a3cuts) (k := .i64) (n := l11) (sv := .p (.sl 1 (List.map ci a3cuts))) rfl krf krf krf krf krf) (fun x18 => ?_)
         refine xR 4 krf ?_
         refine xG krf krf (aop_idx (e := 3) (S := 1) (enc := ci) (l := a3cuts) (k := .i64) (n := wi (l11 - 1)) (sv := .p (.sl 1 (List.map ci a3cuts))) rfl krf krf krf krf krf) (fun x19 => ?_)
         refine xR 4 krf ?_
         refine xs_endD krf ?_
         exact nq_n (leI x18 x19) ⟨[3, 4, 5, 6, 10, 64], [4, 5, 6], [], []⟩ krf
        ·refine xN (want_tf krf h17) krf ?_
         refine xR 11 krf ?_
         refine xs_endD krf ?_
         exact nq_n false ⟨[3, 4, 5, 6, 10, 64], [4, 5, 6], [], []⟩ krf
     ·rintro j12
      refine sC j12 krf ?_ ?_
      ·refine sR tfm ⟨[8, 9], [], [], []⟩ ⟨[(8, I 0), (9, I 1)], []⟩ krf ?_
       refine sT ?_
       refine bq_r ?_
       refine sq_r ?_
       refine kq_r ?_
       refine bq_r ?_
       refine kq_r ?_
       exact qR (.id) krf krf krf
      ·refine sK ?_
       refine bq_n ?_
       refine sN ⟨[3, 4, 5, 6, 10], [4, 5, 6], [], []⟩ ⟨[(3, .p (.sl 1 (List.map ci a3cuts))), (4, .ptr 4 0), (5, .ptr 5 0), (6, .ptr 6 0), (10, I l11)], [(4, .box 24 (bxc (GTf.cs a0t))), (5, .box 28 (bxc (GCl.cs a1c))), (6, .box 31 (bxc (GSs.cs a2s)))]⟩ krf ?_
       refine sL tfm krf ?_
       exact kq_n (wi (l11 + 1)) ⟨[3, 4, 5, 6, 10], [4, 5, 6], [], []⟩ krf
    ·refine sim_exit ?_
     refine sq_x ?_
     refine kq_x ?_
     refine bq_hit ?_
     exact kq_n (k := fun _ => g_ref34_Price_j4 n a0t a1c a2s a3cuts) () ⟨[3, 4, 5, 6], [4, 5, 6], [], []⟩ krf
def g_ref34_table_l2 (n : Nat) (a0t : GTf) (a1c : GCl) (a2s : GSs) (l1_1 : OL (List Int)) (l1_2 : Int) (recl1 : ((OL (List Int)) × Int) → Option (List (List Int))) (recl2 : ((OL Int) × Int) → Option (List (List Int))) (l2_1 : OL Int) (l2_2 : Int) : Option (List (List Int)) :=
 cond (leI l2_2 (wi (a2s.To - a2s.From)))
  (cond (ltI l1_2 l2_2)
   ((g_ref34_Part n a2s (wi (a2s.From + l1_2)) (wi (a2s.From + l2_2))).bind fun r3 =>
   (g_ref33_Bill n a0t a1c r3).bind fun r4 =>
   cond (eqI r4.2 0)
    (cond (roomB (List.length (l2_1.toL ++ [r4.1.Total])) 8) (
     recl2 (OL.own (l2_1.toL ++ [r4.1.Total]), wi (l2_2 + 1))) none)
    (cond (roomB (List.length (l2_1.toL ++ [(-1)])) 8) (
     recl2 (OL.own (l2_1.toL ++ [(-1)]), wi (l2_2 + 1))) none))
   (cond (roomB (List.length (l2_1.toL ++ [(-1)])) 8) (
    recl2 (OL.own (l2_1.toL ++ [(-1)]), wi (l2_2 + 1))) none))
  (cond (roomB (List.length (l1_1.toL ++ [l2_1.toL])) 24) (
   recl1 (OL.own (l1_1.toL ++ [l2_1.toL]), wi (l1_2 + 1))) none)
def g_ref34_table_l1 (n : Nat) (a0t : GTf) (a1c : GCl) (a2s : GSs) (recl1 : ((OL (List Int)) × Int) → Option (List (List Int))) (l1_1 : OL (List Int)) (l1_2 : Int) : Option (List (List Int)) :=
 cond (ltI l1_2 (wi (a2s.To - a2s.From)))
  (loopN (fun recl2 (l2_1, l2_2) => g_ref34_table_l2 n a0t a1c a2s l1_1 l1_2 recl1 recl2 l2_1 l2_2) n (OL.nil, 0))
  (some l1_1.toL)
def g_ref34_table (n : Nat) (a0t : GTf) (a1c : GCl) (a2s : GSs) : Option (List (List Int)) :=
 loopN (fun recl1 (l1_1, l1_2) => g_ref34_table_l1 n a0t a1c a2s recl1 l1_1 l1_2) n (OL.nil, 0)
theorem g_ref34_table_ok (n : Nat) (a0t : GTf) (a1c : GCl) (a2s : GSs) : ∀ r, g_ref34_table n a0t a1c a2s = some r → PCall Tryz.prog 26 [ag (GTf.cs a0t), ag (GCl.cs a1c), ag (GSs.cs a2s)] (.ret (.p (.sl 1 (List.map enc_s_int r)))) := by
 refine pcall_sim (X := fun r : List (List Int) => AEnd.ret (.p (.sl 1 (List.map enc_s_int r)))) Tryz.func26 rfl Tryz.ntmps26 rfl ?_
 unfold g_ref34_table
 refine sR tfm ⟨[3, 4, 5], [3, 4, 5], [], []⟩ ⟨[(3, .ptr 3 0), (4, .ptr 4 0), (5, .ptr 5 0)], [(3, .box 24 (bxc (GTf.cs a0t))), (4, .box 28 (bxc (GCl.cs a1c))), (5, .box 31 (bxc (GSs.cs a2s)))]⟩ krf ?_
 refine sR tfm ⟨[3, 4, 5, 7], [3, 4, 5], [], []⟩ ⟨[(3, .ptr 3 0), (4, .ptr 4 0), (5, .ptr 5 0), (7, I (wi (a2s.To - a2s.From)))], [(3, .box 24 (bxc (GTf.cs a0t))), (4, .box 28 (bxc (GCl.cs a1c))), (5, .box 31 (bxc (GSs.cs a2s)))]⟩ krf ?_
 refine sR tfm ⟨[3, 4, 5, 7, 8], [3, 4, 5], [], []⟩ ⟨[(3, .ptr 3 0), (4, .ptr 4 0), (5, .ptr 5 0), (7, I (wi (a2s.To - a2s.From))), (8, .p (.val (.slice none 0 0)))], [(3, .box 24 (bxc (GTf.cs a0t))), (4, .box 28 (bxc (GCl.cs a1c))), (5, .box 31 (bxc (GSs.cs a2s)))]⟩ krf ?_
 refine sS ?_
 refine sR tfm ⟨[3, 4, 5, 7, 8, 9], [3, 4, 5], [], []⟩ ⟨[(3, .ptr 3 0), (4, .ptr 4 0), (5, .ptr 5 0), (7, I (wi (a2s.To - a2s.From))), (8, .p (.val (.slice none 0 0))), (9, I 0)], [(3, .box 24 (bxc (GTf.cs a0t))), (4, .box 28 (bxc (GCl.cs a1c))), (5, .box 31 (bxc (GSs.cs a2s)))]⟩ krf ?_
 refine sB ?_
 refine sim_loop (fun (l1_1, l1_2) => ⟨[(3, .ptr 3 0), (4, .ptr 4 0), (5, .ptr 5 0), (7, I (wi (a2s.To - a2s.From))), (8, osl 1 enc_s_int l1_1 60), (9, I l1_2)], [(3, .box 24 (bxc (GTf.cs a0t))), (4, .box 28 (bxc (GCl.cs a1c))), (5, .box 31 (bxc (GSs.cs a2s)))] ++ oarr 26 1 enc_s_int l1_1 60⟩ : ((OL (List Int)) × Int) → St) (weak_shr (K := ⟨[3, 4, 5, 7, 8, 9], [3, 4, 5], [], []⟩) krf) ?_
 rintro recl1 ⟨l1_1, l1_2⟩
 show SimE (g_ref34_table_l1 n a0t a1c a2s recl1 l1_1 l1_2) _ _ _ _ _ _
 unfold g_ref34_table_l1
 rcases l1_1 with _ | ow_l1_1
 ·refine sS ?_
  refine sR tfm ⟨[3, 4, 5, 7, 8, 9, 22], [3, 4, 5], [], []⟩ ⟨[(3, .ptr 3 0), (4, .ptr 4 0), (5, .ptr 5 0), (7, I (wi (a2s.To - a2s.From))), (8, .p (.val (.slice none 0 0))), (9, I l1_2), (22, B (ltI l1_2 (wi (a2s.To - a2s.From))))], [(3, .box 24 (bxc (GTf.cs a0t))), (4, .box 28 (bxc (GCl.cs a1c))), (5, .box 31 (bxc (GSs.cs a2s)))]⟩ krf ?_
  refine sC (ltI l1_2 (wi (a2s.To - a2s.From))) krf ?_ ?_
  ·refine sK ?_
   refine sN ⟨[3, 4, 5, 7, 8, 9], [3, 4, 5], [], []⟩ ⟨[(3, .ptr 3 0), (4, .ptr 4 0), (5, .ptr 5 0), (7, I (wi (a2s.To - a2s.From))), (8, .p (.val (.slice none 0 0))), (9, I l1_2)], [(3, .box 24 (bxc (GTf.cs a0t))), (4, .box 28 (bxc (GCl.cs a1c))), (5, .box 31 (bxc (GSs.cs a2s)))]⟩ krf ?_
   refine sS ?_
   refine sB ?_
   refine sR tfm ⟨[3, 4, 5, 7, 8, 9, 10], [3, 4, 5], [], []⟩ ⟨[(3, .ptr 3 0), (4, .ptr 4 0), (5, .ptr 5 0), (7, I (wi (a2s.To - a2s.From))), (8, .p (.val (.slice none 0 0))), (9, I l1_2), (10, .p (.val (.slice none 0 0)))], [(3, .box 24 (bxc (GTf.cs a0t))), (4, .box 28 (bxc (GCl.cs a1c))), (5, .box 31 (bxc (GSs.cs a2s)))]⟩ krf ?_
   refine sS ?_
   refine sR tfm ⟨[3, 4, 5, 7, 8, 9, 10, 11], [3, 4, 5], [], []⟩ ⟨[(3, .ptr 3 0), (4, .ptr 4 0), (5, .ptr 5 0), (7, I (wi (a2s.To - a2s.From))), (8, .p (.val (.slice none 0 0))), (9, I l1_2), (10, .p (.val (.slice none 0 0))), (11, I 0)], [(3, .box 24 (bxc (GTf.cs a0t))), (4, .box 28 (bxc (GCl.cs a1c))), (5, .box 31 (bxc (GSs.cs a2s)))]⟩ krf ?_
   refine sB ?_
   refine sim_loop (fun (l2_1, l2_2) => ⟨[(3, .ptr 3 0), (4, .ptr 4 0), (5, .ptr 5 0), (7, I (wi (a2s.To - a2s.From))), (8, .p (.val (.slice none 0 0))), (9, I l1_2), (10, osl 1 ci l2_1 56), (11, I l2_2)], [(3, .box 24 (bxc (GTf.cs a0t))), (4, .box 28 (bxc (GCl.cs a1c))), (5, .box 31 (bxc (GSs.cs a2s)))] ++ oarr 3 1 ci l2_1 56⟩ : ((OL Int) × Int) → St) (weak_shr (K := ⟨[3, 4, 5, 7, 8, 9, 10, 11], [3, 4, 5], [], []⟩) krf) ?_
   rintro recl2 ⟨l2_1, l2_2⟩
   show SimE (g_ref34_table_l2 n a0t a1c a2s OL.nil l1_2 recl1 recl2 l2_1 l2_2) _ _ _ _ _ _
   unfold g_ref34_table_l2
   rcases l2_1 with _ | ow_l2_1
   ·refine sS ?_
    refine sR tfm ⟨[3, 4, 5, 7, 8, 9, 10, 11, 27], [3, 4, 5], [], []⟩ ⟨[(3, .ptr 3 0), (4, .ptr 4 0), (5, .ptr 5 0), (7, I (wi (a2s.To - a2s.From))), (8, .p (.val (.slice none 0 0))), (9, I l1_2), (10, .p (.val (.slice none 0 0))), (11, I l2_2), (27, B (leI l2_2 (wi (a2s.To - a2s.From))))], [(3, .box 24 (bxc (GTf.cs a0t))), (4, .box 28 (bxc (GCl.cs a1c))), (5, .box 31 (bxc (GSs.cs a2s)))]⟩ krf ?_
    refine sC (leI l2_2 (wi (a2s.To - a2s.From))) krf ?_ ?_
    ·refine sK ?_
     refine sN ⟨[3, 4, 5, 7, 8, 9, 10, 11], [3, 4, 5], [], []⟩ ⟨[(3, .ptr 3 0), (4, .ptr 4 0), (5, .ptr 5 0), (7, I (wi (a2s.To - a2s.From))), (8, .p (.val (.slice none 0 0))), (9, I l1_2), (10, .p (.val (.slice none 0 0))), (11, I l2_2)], [(3, .box 24 (bxc (GTf.cs a0t))), (4, .box 28 (bxc (GCl.cs a1c))), (5, .box 31 (bxc (GSs.cs a2s)))]⟩ krf ?_
     refine sS ?_
     refine sB ?_
     refine sR tfm ⟨[3, 4, 5, 7, 8, 9, 10, 11, 12], [3, 4, 5], [], []⟩ ⟨[(3, .ptr 3 0), (4, .ptr 4 0), (5, .ptr 5 0), (7, I (wi (a2s.To - a2s.From))), (8, .p (.val (.slice none 0 0))), (9, I l1_2), (10, .p (.val (.slice none 0 0))), (11, I l2_2), (12, I (-1))], [(3, .box 24 (bxc (GTf.cs a0t))), (4, .box 28 (bxc (GCl.cs a1c))), (5, .box 31 (bxc (GSs.cs a2s)))]⟩ krf ?_
     refine sS ?_
     refine sR tfm ⟨[3, 4, 5, 7, 8, 9, 10, 11, 12, 32], [3, 4, 5], [], []⟩ ⟨[(3, .ptr 3 0), (4, .ptr 4 0), (5, .ptr 5 0), (7, I (wi (a2s.To - a2s.From))), (8, .p (.val (.slice none 0 0))), (9, I l1_2), (10, .p (.val (.slice none 0 0))), (11, I l2_2), (12, I (-1)), (32, B (ltI l1_2 l2_2))], [(3, .box 24 (bxc (GTf.cs a0t))), (4, .box 28 (bxc (GCl.cs a1c))), (5, .box 31 (bxc (GSs.cs a2s)))]⟩ krf ?_
     refine sC (ltI l1_2 l2_2) krf ?_ ?_
     ·refine sS ?_
      refine sim_drw tfm rfl ?_
      refine xR 11 krf ?_
      refine xC [] krf (g_ref34_Part_ok n a2s (wi (a2s.From + l1_2)) (wi (a2s.From + l2_2))) krf krf (fun _ => by kernel_rfl) (fun r3 => ?_)
      refine xC [] krf (g_ref33_Bill_ok n a0t a1c r3) krf krf (fun _ => by kernel_rfl) (fun r4 => ?_)
      refine xR 6 krf ?_
      refine xs_endD krf ?_
      refine sN ⟨[3, 4, 5, 7, 8, 9, 10, 11, 12, 13, 14], [3, 4, 5, 13], [], []⟩ ⟨[(3, .ptr 3 0), (4, .ptr 4 0), (5, .ptr 5 0), (7, I (wi (a2s.To - a2s.From))), (8, .p (.val (.slice none 0 0))), (9, I l1_2), (10, .p (.val (.slice none 0 0))), (11, I l2_2), (12, I (-1)), (13, .ptr 13 0), (14, I r4.2)], [(3, .box 24 (bxc (GTf.cs a0t))), (4, .box 28 (bxc (GCl.cs a1c))), (5, .box 31 (bxc (GSs.cs a2s))), (13, .box 55 (bxc (GBill.cs r4.1)))]⟩ krf ?_
      refine sR tfm ⟨[3, 4, 5, 7, 8, 9, 10, 11, 12, 13, 50], [3, 4, 5, 13], [], []⟩ ⟨[(3, .ptr 3 0), (4, .ptr 4 0), (5, .ptr 5 0), (7, I (wi (a2s.To - a2s.From))), (8, .p (.val (.slice none 0 0))), (9, I l1_2), (10, .p (.val (.slice none 0 0))), (11, I l2_2), (12, I (-1)), (13, .ptr 13 0), (50, B (eqI r4.2 0))], [(3, .box 24 (bxc (GTf.cs a0t))), (4, .box 28 (bxc (GCl.cs a1c))), (5, .box 31 (bxc (GSs.cs a2s))), (13, .box 55 (bxc (GBill.cs r4.1)))]⟩ krf ?_
      refine sC (eqI r4.2 0) krf ?_ ?_
      ·refine sL tfm krf ?_
       refine sN ⟨[3, 4, 5, 7, 8, 9, 10, 11, 12], [3, 4, 5], [], []⟩ ⟨[(3, .ptr 3 0), (4, .ptr 4 0), (5, .ptr 5 0), (7, I (wi (a2s.To - a2s.From))), (8, .p (.val (.slice none 0 0))), (9, I l1_2), (10, .p (.val (.slice none 0 0))), (11, I l2_2), (12, I r4.1.Total)], [(3, .box 24 (bxc (GTf.cs a0t))), (4, .box 28 (bxc (GCl.cs a1c))), (5, .box 31 (bxc (GSs.cs a2s)))]⟩ krf ?_
       refine sG ?_
       refine xR 3 krf ?_
       refine xF krf krf (aop_app0 (e := 3) (S := 1) (by_ := 8) (enc := ci) (d := 56) (l2 := [r4.1.Total]) (xv := .tsl 1 (List.map ci [r4.1.Total]) 55) rfl rfl krf krf rfl krf krf krf rfl krf) ?_
       refine xR 1 krf ?_
       refine xE ?_
       refine bq_n ?_
       refine sN ⟨[3, 4, 5, 7, 8, 9, 10, 11], [3, 4, 5, 56], [], []⟩ ⟨[(3, .ptr 3 0), (4, .ptr 4 0), (5, .ptr 5 0), (7, I (wi (a2s.To - a2s.From))), (8, .p (.val (.slice none 0 0))), (9, I l1_2), (10, .tsl 1 (List.map ci (OL.nil.toL ++ [r4.1.Total])) 56), (11, I l2_2)], [(3, .box 24 (bxc (GTf.cs a0t))), (4, .box 28 (bxc (GCl.cs a1c))), (5, .box 31 (bxc (GSs.cs a2s))), (56, .arr 3 1 (List.map ci (OL.nil.toL ++ [r4.1.Total])).length)]⟩ krf ?_
       refine sL tfm krf ?_
       exact kq_n (OL.own (OL.nil.toL ++ [r4.1.Total]), wi (l2_2 + 1)) ⟨[3, 4, 5, 7, 8, 9, 10, 11], [3, 4, 5, 56], [], []⟩ krf
      ·refine sK ?_
       refine sN ⟨[3, 4, 5, 7, 8, 9, 10, 11, 12], [3, 4, 5], [], []⟩ ⟨[(3, .ptr 3 0), (4, .ptr 4 0), (5, .ptr 5 0), (7, I (wi (a2s.To - a2s.From))), (8, .p (.val (.slice none 0 0))), (9, I l1_2), (10, .p (.val (.slice none 0 0))), (11, I l2_2), (12, I (-1))], [(3, .box 24 (bxc (GTf.cs a0t))), (4, .box 28 (bxc (GCl.cs a1c))), (5, .box 31 (bxc (GSs.cs a2s)))]⟩ krf ?_
       refine sG ?_
       refine xR 3 krf ?_
       refine xF krf krf (aop_app0 (e := 3) (S := 1) (by_ := 8) (enc := ci) (d := 56) (l2 := [(-1)]) (xv := .tsl 1 (List.map ci [(-1)]) 55) rfl rfl krf krf rfl krf krf krf rfl krf) ?_
       refine xR 1 krf ?_
       refine xE ?_
       refine bq_n ?_
       refine sN ⟨[3, 4, 5, 7, 8, 9, 10, 11], [3, 4, 5, 56], [], []⟩ ⟨[(3, .ptr 3 0), (4, .ptr 4 0), (5, .ptr 5 0), (7, I (wi (a2s.To - a2s.From))), (8, .p (.val (.slice none 0 0))), (9, I l1_2), (10, .tsl 1 (List.map ci (OL.nil.toL ++ [(-1)])) 56), (11, I l2_2)], [(3, .box 24 (bxc (GTf.cs a0t))), (4, .box 28 (bxc (GCl.cs a1c))), (5, .box 31 (bxc (GSs.cs a2s))), (56, .arr 3 1 (List.map ci (OL.nil.toL ++ [(-1)])).length)]⟩ krf ?_
       refine sL tfm krf ?_
       exact kq_n (OL.own (OL.nil.toL ++ [(-1)]), wi (l2_2 + 1)) ⟨[3, 4, 5, 7, 8, 9, 10, 11], [3, 4, 5, 56], [], []⟩ krf
     ·refine sK ?_
      refine sN ⟨[3, 4, 5, 7, 8, 9, 10, 11, 12], [3, 4, 5], [], []⟩ ⟨[(3, .ptr 3 0), (4, .ptr 4 0), (5, .ptr 5 0), (7, I (wi (a2s.To - a2s.From))), (8, .p (.val (.slice none 0 0))), (9, I l1_2), (10, .p (.val (.slice none 0 0))), (11, I l2_2), (12, I (-1))], [(3, .box 24 (bxc (GTf.cs a0t))), (4, .box 28 (bxc (GCl.cs a1c))), (5, .box 31 (bxc (GSs.cs a2s)))]⟩ krf ?_
      refine sG ?_
      refine xR 3 krf ?_
      refine xF krf krf (aop_app0 (e := 3) (S := 1) (by_ := 8) (enc := ci) (d := 56) (l2 := [(-1)]) (xv := .tsl 1 (List.map ci [(-1)]) 55) rfl rfl krf krf rfl krf krf krf rfl krf) ?_
      refine xR 1 krf ?_
      refine xE ?_
      refine bq_n ?_
      refine sN ⟨[3, 4, 5, 7, 8, 9, 10, 11], [3, 4, 5, 56], [], []⟩ ⟨[(3, .ptr 3 0), (4, .ptr 4 0), (5, .ptr 5 0), (7, I (wi (a2s.To - a2s.From))), (8, .p (.val (.slice none 0 0))), (9, I l1_2), (10, .tsl 1 (List.map ci (OL.nil.toL ++ [(-1)])) 56), (11, I l2_2)], [(3, .box 24 (bxc (GTf.cs a0t))), (4, .box 28 (bxc (GCl.cs a1c))), (5, .box 31 (bxc (GSs.cs a2s))), (56, .arr 3 1 (List.map ci (OL.nil.toL ++ [(-1)])).length)]⟩ krf ?_
      refine sL tfm krf ?_
      exact kq_n (OL.own (OL.nil.toL ++ [(-1)]), wi (l2_2 + 1)) ⟨[3, 4, 5, 7, 8, 9, 10, 11], [3, 4, 5, 56], [], []⟩ krf
    ·refine sim_exit ?_
     refine sq_x ?_
     refine kq_x ?_
     refine bq_hit ?_
     refine sN ⟨[3, 4, 5, 7, 8, 9, 10], [3, 4, 5], [], []⟩ ⟨[(3, .ptr 3 0), (4, .ptr 4 0), (5, .ptr 5 0), (7, I (wi (a2s.To - a2s.From))), (8, .p (.val (.slice none 0 0))), (9, I l1_2), (10, .p (.val (.slice none 0 0)))], [(3, .box 24 (bxc (GTf.cs a0t))), (4, .box 28 (bxc (GCl.cs a1c))), (5, .box 31 (bxc (GSs.cs a2s)))]⟩ krf ?_
     refine sP ⟨[3, 4, 5, 7, 8, 9, 10], [3, 4, 5], [(10, .sl 1)], []⟩ ⟨[(3, .ptr 3 0), (4, .ptr 4 0), (5, .ptr 5 0), (7, I (wi (a2s.To - a2s.From))), (8, .p (.val (.slice none 0 0))), (9, I l1_2), (10, .p (.sl 1 (List.map ci OL.nil.toL)))], [(3, .box 24 (bxc (GTf.cs a0t))), (4, .box 28 (bxc (GCl.cs a1c))), (5, .box 31 (bxc (GSs.cs a2s)))]⟩ krf ?_
     refine sG ?_
     refine xR 3 krf ?_
     refine xF krf krf (aop_app0 (e := 26) (S := 1) (by_ := 24) (enc := enc_s_int) (d := 60) (l2 := [OL.nil.toL]) (xv := .tsl 1 (List.map enc_s_int [OL.nil.toL]) 59) rfl rfl krf krf rfl krf krf krf rfl krf) ?_
     refine xR 1 krf ?_
     refine xE ?_
     refine bq_n ?_
     refine sN ⟨[3, 4, 5, 7, 8, 9], [3, 4, 5, 60], [], []⟩ ⟨[(3, .ptr 3 0), (4, .ptr 4 0), (5, .ptr 5 0), (7, I (wi (a2s.To - a2s.From))), (8, .tsl 1 (List.map enc_s_int (OL.nil.toL ++ [OL.nil.toL])) 60), (9, I l1_2)], [(3, .box 24 (bxc (GTf.cs a0t))), (4, .box 28 (bxc (GCl.cs a1c))), (5, .box 31 (bxc (GSs.cs a2s))), (60, .arr 26 1 (List.map enc_s_int (OL.nil.toL ++ [OL.nil.toL])).length)]⟩ krf ?_
     refine sL tfm krf ?_
     exact kq_n (OL.own (OL.nil.toL ++ [OL.nil.toL]), wi (l1_2 + 1)) ⟨[3, 4, 5, 7, 8, 9], [3, 4, 5, 60], [], []⟩ krf
   ·refine sS ?_
    refine sR tfm ⟨[3, 4, 5, 7, 8, 9, 10, 11, 27], [3, 4, 5, 56], [], []⟩ ⟨[(3, .ptr 3 0), (4, .ptr 4 0), (5, .ptr 5 0), (7, I (wi (a2s.To - a2s.From))), (8, .p (.val (.slice none 0 0))), (9, I l1_2), (10, .tsl 1 (List.map ci (OL.own ow_l2_1).toL) 56), (11, I l2_2), (27, B (leI l2_2 (wi (a2s.To - a2s.From))))], [(3, .box 24 (bxc (GTf.cs a0t))), (4, .box 28 (bxc (GCl.cs a1c))), (5, .box 31 (bxc (GSs.cs a2s))), (56, .arr 3 1 (List.map ci (OL.own ow_l2_1).toL).length)]⟩ krf ?_
    refine sC (leI l2_2 (wi (a2s.To - a2s.From))) krf ?_ ?_
    ·refine sK ?_
     refine sN ⟨[3, 4, 5, 7, 8, 9, 10, 11], [3, 4, 5, 56], [], []⟩ ⟨[(3, .ptr 3 0), (4, .ptr 4 0), (5, .ptr 5 0), (7, I (wi (a2s.To - a2s.From))), (8, .p (.val (.slice none 0 0))), (9, I l1_2), (10, .tsl 1 (List.map ci (OL.own ow_l2_1).toL) 56), (11, I l2_2)], [(3, .box 24 (bxc (GTf.cs a0t))), (4, .box 28 (bxc (GCl.cs a1c))), (5, .box 31 (bxc (GSs.cs a2s))), (56, .arr 3 1 (List.map ci (OL.own ow_l2_1).toL).length)]⟩ krf ?_
     refine sS ?_
     refine sB ?_
     refine sR tfm ⟨[3, 4, 5, 7, 8, 9, 10, 11, 12], [3, 4, 5, 56], [], []⟩ ⟨[(3, .ptr 3 0), (4, .ptr 4 0), (5, .ptr 5 0), (7, I (wi (a2s.To - a2s.From))), (8, .p (.val (.slice none 0 0))), (9, I l1_2), (10, .tsl 1 (List.map ci (OL.own ow_l2_1).toL) 56), (11, I l2_2), (12, I (-1))], [(3, .box 24 (bxc (GTf.cs a0t))), (4, .box 28 (bxc (GCl.cs a1c))), (5, .box 31 (bxc (GSs.cs a2s))), (56, .arr 3 1 (List.map ci (OL.own ow_l2_1).toL).length)]⟩ krf ?_
     refine sS ?_
     refine sR tfm ⟨[3, 4, 5, 7, 8, 9, 10, 11, 12, 32], [3, 4, 5, 56], [], []⟩ ⟨[(3, .ptr 3 0), (4, .ptr 4 0), (5, .ptr 5 0), (7, I (wi (a2s.To - a2s.From))), (8, .p (.val (.slice none 0 0))), (9, I l1_2), (10, .tsl 1 (List.map ci (OL.own ow_l2_1).toL) 56), (11, I l2_2), (12, I (-1)), (32, B (ltI l1_2 l2_2))], [(3, .box 24 (bxc (GTf.cs a0t))), (4, .box 28 (bxc (GCl.cs a1c))), (5, .box 31 (bxc (GSs.cs a2s))), (56, .arr 3 1 (List.map ci (OL.own ow_l2_1).toL).length)]⟩ krf ?_
     refine sC (ltI l1_2 l2_2) krf ?_ ?_
     ·refine sS ?_
      refine sim_drw tfm rfl ?_
      refine xR 11 krf ?_
      refine xC [] krf (g_ref34_Part_ok n a2s (wi (a2s.From + l1_2)) (wi (a2s.From + l2_2))) krf krf (fun _ => by kernel_rfl) (fun r3 => ?_)
      refine xC [] krf (g_ref33_Bill_ok n a0t a1c r3) krf krf (fun _ => by kernel_rfl) (fun r4 => ?_)
      refine xR 6 krf ?_
      refine xs_endD krf ?_
      refine sN ⟨[3, 4, 5, 7, 8, 9, 10, 11, 12, 13, 14], [3, 4, 5, 13, 56], [], []⟩ ⟨[(3, .ptr 3 0), (4, .ptr 4 0), (5, .ptr 5 0), (7, I (wi (a2s.To - a2s.From))), (8, .p (.val (.slice none 0 0))), (9, I l1_2), (10, .tsl 1 (List.map ci (OL.own ow_l2_1).toL) 56), (11, I l2_2), (12, I (-1)), (13, .ptr 13 0), (14, I r4.2)], [(3, .box 24 (bxc (GTf.cs a0t))), (4, .box 28 (bxc (GCl.cs a1c))), (5, .box 31 (bxc (GSs.cs a2s))), (13, .box 55 (bxc (GBill.cs r4.1))), (56, .arr 3 1 (List.map ci (OL.own ow_l2_1).toL).length)]⟩ krf ?_
      refine sR tfm ⟨[3, 4, 5, 7, 8, 9, 10, 11, 12, 13, 50], [3, 4, 5, 13, 56], [], []⟩ ⟨[(3, .ptr 3 0), (4, .ptr 4 0), (5, .ptr 5 0), (7, I (wi (a2s.To - a2s.From))), (8, .p (.val (.slice none 0 0))), (9, I l1_2), (10, .tsl 1 (List.map ci (OL.own ow_l2_1).toL) 56), (11, I l2_2), (12, I (-1)), (13, .ptr 13 0), (50, B (eqI r4.2 0))], [(3, .box 24 (bxc (GTf.cs a0t))), (4, .box 28 (bxc (GCl.cs a1c))), (5, .box 31 (bxc (GSs.cs a2s))), (13, .box 55 (bxc (GBill.cs r4.1))), (56, .arr 3 1 (List.map ci (OL.own ow_l2_1).toL).length)]⟩ krf ?_
      refine sC (eqI r4.2 0) krf ?_ ?_
      ·refine sL tfm krf ?_
       refine sN ⟨[3, 4, 5, 7, 8, 9, 10, 11, 12], [3, 4, 5, 56], [], []⟩ ⟨[(3, .ptr 3 0), (4, .ptr 4 0), (5, .ptr 5 0), (7, I (wi (a2s.To - a2s.From))), (8, .p (.val (.slice none 0 0))), (9, I l1_2), (10, .tsl 1 (List.map ci (OL.own ow_l2_1).toL) 56), (11, I l2_2), (12, I r4.1.Total)], [(3, .box 24 (bxc (GTf.cs a0t))), (4, .box 28 (bxc (GCl.cs a1c))), (5, .box 31 (bxc (GSs.cs a2s))), (56, .arr 3 1 (List.map ci (OL.own ow_l2_1).toL).length)]⟩ krf ?_
       refine sG ?_
       refine xR 3 krf ?_
       refine xF krf krf (aop_app (e := 3) (S := 1) (by_ := 8) (enc := ci) (tk := 56) (l := (OL.own ow_l2_1).toL) (l2 := [r4.1.Total]) (xv := .tsl 1 (List.map ci [r4.1.Total]) 55) rfl krf krf rfl krf krf krf rfl krf) ?_
       refine xR 1 krf ?_
       refine xE ?_
       refine bq_n ?_
       refine sN ⟨[3, 4, 5, 7, 8, 9, 10, 11], [3, 4, 5, 56], [], []⟩ ⟨[(3, .ptr 3 0), (4, .ptr 4 0), (5, .ptr 5 0), (7, I (wi (a2s.To - a2s.From))), (8, .p (.val (.slice none 0 0))), (9, I l1_2), (10, .tsl 1 (List.map ci ((OL.own ow_l2_1).toL ++ [r4.1.Total])) 56), (11, I l2_2)], [(3, .box 24 (bxc (GTf.cs a0t))), (4, .box 28 (bxc (GCl.cs a1c))), (5, .box 31 (bxc (GSs.cs a2s))), (56, .arr 3 1 (List.map ci ((OL.own ow_l2_1).toL ++ [r4.1.Total])).length)]⟩ krf ?_
       refine sL tfm krf ?_
       exact kq_n (OL.own ((OL.own ow_l2_1).toL ++ [r4.1.Total]), wi (l2_2 + 1)) ⟨[3, 4, 5, 7, 8, 9, 10, 11], [3, 4, 5, 56], [], []⟩ krf
      ·refine sK ?_
       refine sN ⟨[3, 4, 5, 7, 8, 9, 10, 11, 12], [3, 4, 5, 56], [], []⟩ ⟨[(3, .ptr 3 0), (4, .ptr 4 0), (5, .ptr 5 0), (7, I (wi (a2s.To - a2s.From))), (8, .p (.val (.slice none 0 0))), (9, I l1_2), (10, .tsl 1 (List.map ci (OL.own ow_l2_1).toL) 56), (11, I l2_2), (12, I (-1))], [(3, .box 24 (bxc (GTf.cs a0t))), (4, .box 28 (bxc (GCl.cs a1c))), (5, .box 31 (bxc (GSs.cs a2s))), (56, .arr 3 1 (List.map ci (OL.own ow_l2_1).toL).length)]⟩ krf ?_
       refine sG ?_
       refine xR 3 krf ?_
       refine xF krf krf (aop_app (e := 3) (S := 1) (by_ := 8) (enc := ci) (tk := 56) (l := (OL.own ow_l2_1).toL) (l2 := [(-1)]) (xv := .tsl 1 (List.map ci [(-1)]) 55) rfl krf krf rfl krf krf krf rfl krf) ?_
       refine xR 1 krf ?_
       refine xE ?_
       refine bq_n ?_
       refine sN ⟨[3, 4, 5, 7, 8, 9, 10, 11], [3, 4, 5, 56], [], []⟩ ⟨[(3, .ptr 3 0), (4, .ptr 4 0), (5, .ptr 5 0), (7, I (wi (a2s.To - a2s.From))), (8, .p (.val (.slice none 0 0))), (9, I l1_2), (10, .tsl 1 (List.map ci ((OL.own ow_l2_1).toL ++ [(-1)])) 56), (11, I l2_2)], [(3, .box 24 (bxc (GTf.cs a0t))), (4, .box 28 (bxc (GCl.cs a1c))), (5, .box 31 (bxc (GSs.cs a2s))), (56, .arr 3 1 (List.map ci ((OL.own ow_l2_1).toL ++ [(-1)])).length)]⟩ krf ?_
       refine sL tfm krf ?_
       exact kq_n (OL.own ((OL.own ow_l2_1).toL ++ [(-1)]), wi (l2_2 + 1)) ⟨[3, 4, 5, 7, 8, 9, 10, 11], [3, 4, 5, 56], [], []⟩ krf
     ·refine sK ?_
      refine sN ⟨[3, 4, 5, 7, 8, 9, 10, 11, 12], [3, 4, 5, 56], [], []⟩ ⟨[(3, .ptr 3 0), (4, .ptr 4 0), (5, .ptr 5 0), (7, I (wi (a2s.To - a2s.From))), (8, .p (.val (.slice none 0 0))), (9, I l1_2), (10, .tsl 1 (List.map ci (OL.own ow_l2_1).toL) 56), (11, I l2_2), (12, I (-1))], [(3, .box 24 (bxc (GTf.cs a0t))), (4, .box 28 (bxc (GCl.cs a1c))), (5, .box 31 (bxc (GSs.cs a2s))), (56, .arr 3 1 (List.map ci (OL.own ow_l2_1).toL).length)]⟩ krf ?_
      refine sG ?_
      refine xR 3 krf ?_
      refine xF krf krf (aop_app (e := 3) (S := 1) (by_ := 8) (enc := ci) (tk := 56) (l := (OL.own ow_l2_1).toL) (l2 := [(-1)]) (xv := .tsl 1 (List.map ci [(-1)]) 55) rfl krf krf rfl krf krf krf rfl krf) ?_
      refine xR 1 krf ?_
      refine xE ?_
      refine bq_n ?_
      refine sN ⟨[3, 4, 5, 7, 8, 9, 10, 11], [3, 4, 5, 56], [], []⟩ ⟨[(3, .ptr 3 0), (4, .ptr 4 0), (5, .ptr 5 0), (7, I (wi (a2s.To - a2s.From))), (8, .p (.val (.slice none 0 0))), (9, I l1_2), (10, .tsl 1 (List.map ci ((OL.own ow_l2_1).toL ++ [(-1)])) 56), (11, I l2_2)], [(3, .box 24 (bxc (GTf.cs a0t))), (4, .box 28 (bxc (GCl.cs a1c))), (5, .box 31 (bxc (GSs.cs a2s))), (56, .arr 3 1 (List.map ci ((OL.own ow_l2_1).toL ++ [(-1)])).length)]⟩ krf ?_
      refine sL tfm krf ?_
      exact kq_n (OL.own ((OL.own ow_l2_1).toL ++ [(-1)]), wi (l2_2 + 1)) ⟨[3, 4, 5, 7, 8, 9, 10, 11], [3, 4, 5, 56], [], []⟩ krf
    ·refine sim_exit ?_
     refine sq_x ?_
     refine kq_x ?_
     refine bq_hit ?_
     refine sN ⟨[3, 4, 5, 7, 8, 9, 10], [3, 4, 5, 56], [], []⟩ ⟨[(3, .ptr 3 0), (4, .ptr 4 0), (5, .ptr 5 0), (7, I (wi (a2s.To - a2s.From))), (8, .p (.val (.slice none 0 0))), (9, I l1_2), (10, .tsl 1 (List.map ci (OL.own ow_l2_1).toL) 56)], [(3, .box 24 (bxc (GTf.cs a0t))), (4, .box 28 (bxc (GCl.cs a1c))), (5, .box 31 (bxc (GSs.cs a2s))), (56, .arr 3 1 (List.map ci (OL.own ow_l2_1).toL).length)]⟩ krf ?_
     refine sP ⟨[3, 4, 5, 7, 8, 9, 10], [3, 4, 5, 56], [(10, .sl 1)], []⟩ ⟨[(3, .ptr 3 0), (4, .ptr 4 0), (5, .ptr 5 0), (7, I (wi (a2s.To - a2s.From))), (8, .p (.val (.slice none 0 0))), (9, I l1_2), (10, .p (.sl 1 (List.map ci (OL.own ow_l2_1).toL)))], [(3, .box 24 (bxc (GTf.cs a0t))), (4, .box 28 (bxc (GCl.cs a1c))), (5, .box 31 (bxc (GSs.cs a2s))), (56, .arr 3 1 (List.map ci (OL.own ow_l2_1).toL).length)]⟩ krf ?_
     refine sG ?_
     refine xR 3 krf ?_
     refine xF krf krf (aop_app0 (e := 26) (S := 1) (by_ := 24) (enc := enc_s_int) (d := 60) (l2 := [(OL.own ow_l2_1).toL]) (xv := .tsl 1 (List.map enc_s_int [(OL.own ow_l2_1).toL]) 59) rfl rfl krf krf rfl krf krf krf rfl krf) ?_
     refine xR 1 krf ?_
     refine xE ?_
     refine bq_n ?_
     refine sN ⟨[3, 4, 5, 7, 8, 9], [3, 4, 5, 60], [], []⟩ ⟨[(3, .ptr 3 0), (4, .ptr 4 0), (5, .ptr 5 0), (7, I (wi (a2s.To - a2s.From))), (8, .tsl 1 (List.map enc_s_int (OL.nil.toL ++ [(OL.own ow_l2_1).toL])) 60), (9, I l1_2)], [(3, .box 24 (bxc (GTf.cs a0t))), (4, .box 28 (bxc (GCl.cs a1c))), (5, .box 31 (bxc (GSs.cs a2s))), (60, .arr 26 1 (List.map enc_s_int (OL.nil.toL ++ [(OL.own ow_l2_1).toL])).length)]⟩ krf ?_
     refine sL tfm krf ?_
     exact kq_n (OL.own (OL.nil.toL ++ [(OL.own ow_l2_1).toL]), wi (l1_2 + 1)) ⟨[3, 4, 5, 7, 8, 9], [3, 4, 5, 60], [], []⟩ krf
  ·refine sim_exit ?_
   refine sq_x ?_
   refine kq_x ?_
   refine bq_hit ?_
   refine sN ⟨[8], [], [], []⟩ ⟨[(8, .p (.val (.slice none 0 0)))], []⟩ krf ?_
   refine sR tfm ⟨[6], [], [], []⟩ ⟨[(6, .p (.val (.slice none 0 0)))], []⟩ krf ?_
   refine sT ?_
   exact qR (.sl 1) krf krf krf
 ·refine sS ?_
  refine sR tfm ⟨[3, 4, 5, 7, 8, 9, 22], [3, 4, 5, 60], [], []⟩ ⟨[(3, .ptr 3 0), (4, .ptr 4 0), (5, .ptr 5 0), (7, I (wi (a2s.To - a2s.From))), (8, .tsl 1 (List.map enc_s_int (OL.own ow_l1_1).toL) 60), (9, I l1_2), (22, B (ltI l1_2 (wi (a2s.To - a2s.From))))], [(3, .box 24 (bxc (GTf.cs a0t))), (4, .box 28 (bxc (GCl.cs a1c))), (5, .box 31 (bxc (GSs.cs a2s))), (60, .arr 26 1 (List.map enc_s_int (OL.own ow_l1_1).toL).length)]⟩ krf ?_
  refine sC (ltI l1_2 (wi (a2s.To - a2s.From))) krf ?_ ?_
  ·refine sK ?_
   refine sN ⟨[3, 4, 5, 7, 8, 9], [3, 4, 5, 60], [], []⟩ ⟨[(3, .ptr 3 0), (4, .ptr 4 0), (5, .ptr 5 0), (7, I (wi (a2s.To - a2s.From))), (8, .tsl 1 (List.map enc_s_int (OL.own ow_l1_1).toL) 60), (9, I l1_2)], [(3, .box 24 (bxc (GTf.cs a0t))), (4, .box 28 (bxc (GCl.cs a1c))), (5, .box 31 (bxc (GSs.cs a2s))), (60, .arr 26 1 (List.map enc_s_int (OL.own ow_l1_1).toL).length)]⟩ krf ?_
   refine sS ?_
   refine sB ?_
   refine sR tfm ⟨[3, 4, 5, 7, 8, 9, 10], [3, 4, 5, 60], [], []⟩ ⟨[(3, .ptr 3 0), (4, .ptr 4 0), (5, .ptr 5 0), (7, I (wi (a2s.To - a2s.From))), (8, .tsl 1 (List.map enc_s_int (OL.own ow_l1_1).toL) 60), (9, I l1_2), (10, .p (.val (.slice none 0 0)))], [(3, .box 24 (bxc (GTf.cs a0t))), (4, .box 28 (bxc (GCl.cs a1c))), (5, .box 31 (bxc (GSs.cs a2s))), (60, .arr 26 1 (List.map enc_s_int (OL.own ow_l1_1).toL).length)]⟩ krf ?_
   refine sS ?_
   refine sR tfm ⟨[3, 4, 5, 7, 8, 9, 10, 11], [3, 4, 5, 60], [], []⟩ ⟨[(3, .ptr 3 0), (4, .ptr 4 0), (5, .ptr 5 0), (7, I (wi (a2s.To - a2s.From))), (8, .tsl 1 (List.map enc_s_int (OL.own ow_l1_1).toL) 60), (9, I l1_2), (10, .p (.val (.slice none 0 0))), (11, I 0)], [(3, .box 24 (bxc (GTf.cs a0t))), (4, .box 28 (bxc (GCl.cs a1c))), (5, .box 31 (bxc (GSs.cs a2s))), (60, .arr 26 1 (List.map enc_s_int (OL.own ow_l1_1).toL).length)]⟩ krf ?_
   refine sB ?_
   refine sim_loop (fun (l2_1, l2_2) => ⟨[(3, .ptr 3 0), (4, .ptr 4 0), (5, .ptr 5 0), (7, I (wi (a2s.To - a2s.From))), (8, .tsl 1 (List.map enc_s_int (OL.own ow_l1_1).toL) 60), (9, I l1_2), (10, osl 1 ci l2_1 56), (11, I l2_2)], [(3, .box 24 (bxc (GTf.cs a0t))), (4, .box 28 (bxc (GCl.cs a1c))), (5, .box 31 (bxc (GSs.cs a2s))), (60, .arr 26 1 (List.map enc_s_int (OL.own ow_l1_1).toL).length)] ++ oarr 3 1 ci l2_1 56⟩ : ((OL Int) × Int) → St) (weak_shr (K := ⟨[3, 4, 5, 7, 8, 9, 10, 11], [3, 4, 5, 60], [], []⟩) krf) ?_
   rintro recl2 ⟨l2_1, l2_2⟩
   show SimE (g_ref34_table_l2 n a0t a1c a2s (OL.own ow_l1_1) l1_2 recl1 recl2 l2_1 l2_2) _ _ _ _ _ _
   unfold g_ref34_table_l2
   rcases l2_1 with _ | ow_l2_1
   ·refine sS ?_
    refine sR tfm ⟨[3, 4, 5, 7, 8, 9, 10, 11, 27], [3, 4, 5, 60], [], []⟩ ⟨[(3, .ptr 3 0), (4, .ptr 4 0), (5, .ptr 5 0), (7, I (wi (a2s.To - a2s.From))), (8, .tsl 1 (List.map enc_s_int (OL.own ow_l1_1).toL) 60), (9, I l1_2), (10, .p (.val (.slice none 0 0))), (11, I l2_2), (27, B (leI l2_2 (wi (a2s.To - a2s.From))))], [(3, .box 24 (bxc (GTf.cs a0t))), (4, .box 28 (bxc (GCl.cs a1c))), (5, .box 31 (bxc (GSs.cs a2s))), (60, .arr 26 1 (List.map enc_s_int (OL.own ow_l1_1).toL).length)]⟩ krf ?_
    refine sC (leI l2_2 (wi (a2s.To - a2s.From))) krf ?_ ?_
    ·refine sK ?_
     refine sN ⟨[3, 4, 5, 7, 8, 9, 10, 11], [3, 4, 5, 60], [], []⟩ ⟨[(3, .ptr 3 0), (4, .ptr 4 0), (5, .ptr 5 0), (7, I (wi (a2s.To - a2s.From))), (8, .tsl 1 (List.map enc_s_int (OL.own ow_l1_1).toL) 60), (9, I l1_2), (10, .p (.val (.slice none 0 0))), (11, I l2_2)], [(3, .box 24 (bxc (GTf.cs a0t))), (4, .box 28 (bxc (GCl.cs a1c))), (5, .box 31 (bxc (GSs.cs a2s))), (60, .arr 26 1 (List.map enc_s_int (OL.own ow_l1_1).toL).length)]⟩ krf ?_
     refine sS ?_
     refine sB ?_
     refine sR tfm ⟨[3, 4, 5, 7, 8, 9, 10, 11, 12], [3, 4, 5, 60], [], []⟩ ⟨[(3, .ptr 3 0), (4, .ptr 4 0), (5, .ptr 5 0), (7, I (wi (a2s.To - a2s.From))), (8, .tsl 1 (List.map enc_s_int (OL.own ow_l1_1).toL) 60), (9, I l1_2), (10, .p (.val (.slice none 0 0))), (11, I l2_2), (12, I (-1))], [(3, .box 24 (bxc (GTf.cs a0t))), (4, .box 28 (bxc (GCl.cs a1c))), (5, .box 31 (bxc (GSs.cs a2s))), (60, .arr 26 1 (List.map enc_s_int (OL.own ow_l1_1).toL).length)]⟩ krf ?_
     refine sS ?_
     refine sR tfm ⟨[3, 4, 5, 7, 8, 9, 10, 11, 12, 32], [3, 4, 5, 60], [], []⟩ ⟨[(3, .ptr 3 0), (4, .ptr 4 0), (5, .ptr 5 0), (7, I (wi (a2s.To - a2s.From))), (8, .tsl 1 (List.map enc_s_int (OL.own ow_l1_1).toL) 60), (9, I l1_2), (10, .p (.val (.slice none 0 0))), (11, I l2_2), (12, I (-1)), (32, B (ltI l1_2 l2_2))], [(3, .box 24 (bxc (GTf.cs a0t))), (4, .box 28 (bxc (GCl.cs a1c))), (5, .box 31 (bxc (GSs.cs a2s))), (60, .arr 26 1 (List.map enc_s_int (OL.own ow_l1_1).toL).length)]⟩ krf ?_
     refine sC (ltI l1_2 l2_2) krf ?_ ?_
     ·refine sS ?_
      refine sim_drw tfm rfl ?_
      refine xR 11 krf ?_
      refine xC [] krf (g_ref34_Part_ok n a2s (wi (a2s.From + l1_2)) (wi (a2s.From + l2_2))) krf krf (fun _ => by kernel_rfl) (fun r3 => ?_)
      refine xC [] krf (g_ref33_Bill_ok n a0t a1c r3) krf krf (fun _ => by kernel_rfl) (fun r4 => ?_)
      refine xR 6 krf ?_
      refine xs_endD krf ?_
      refine sN ⟨[3, 4, 5, 7, 8, 9, 10, 11, 12, 13, 14], [3, 4, 5, 13, 60], [], []⟩ ⟨[(3, .ptr 3 0), (4, .ptr 4 0), (5, .ptr 5 0), (7, I (wi (a2s.To - a2s.From))), (8, .tsl 1 (List.map enc_s_int (OL.own ow_l1_1).toL) 60), (9, I l1_2), (10, .p (.val (.slice none 0 0))), (11, I l2_2), (12, I (-1)), (13, .ptr 13 0), (14, I r4.2)], [(3, .box 24 (bxc (GTf.cs a0t))), (4, .box 28 (bxc (GCl.cs a1c))), (5, .box 31 (bxc (GSs.cs a2s))), (13, .box 55 (bxc (GBill.cs r4.1))), (60, .arr 26 1 (List.map enc_s_int (OL.own ow_l1_1).toL).length)]⟩ krf ?_
      refine sR tfm ⟨[3, 4, 5, 7, 8, 9, 10, 11, 12, 13, 50], [3, 4, 5, 13, 60], [], []⟩ ⟨[(3, .ptr 3 0), (4, .ptr 4 0), (5, .ptr 5 0), (7, I (wi (a2s.To - a2s.From))), (8, .tsl 1 (List.map enc_s_int (OL.own ow_l1_1).toL) 60), (9, I l1_2), (10, .p (.val (.slice none 0 0))), (11, I l2_2), (12, I (-1)), (13, .ptr 13 0), (50, B (eqI r4.2 0))], [(3, .box 24 (bxc (GTf.cs a0t))), (4, .box 28 (bxc (GCl.cs a1c))), (5, .box 31 (bxc (GSs.cs a2s))), (13, .box 55 (bxc (GBill.cs r4.1))), (60, .arr 26 1 (List.map enc_s_int (OL.own ow_l1_1).toL).length)]⟩ krf ?_
      refine sC (eqI r4.2 0) krf ?_ ?_
      ·refine sL tfm krf ?_
       refine sN ⟨[3, 4, 5, 7, 8, 9, 10, 11, 12], [3, 4, 5, 60], [], []⟩ ⟨[(3, .ptr 3 0), (4, .ptr 4 0), (5, .ptr 5 0), (7, I (wi (a2s.To - a2s.From))), (8, .tsl 1 (List.map enc_s_int (OL.own ow_l1_1).toL) 60), (9, I l1_2), (10, .p (.val (.slice none 0 0))), (11, I l2_2), (12, I r4.1.Total)], [(3, .box 24 (bxc (GTf.cs a0t))), (4, .box 28 (bxc (GCl.cs a1c))), (5, .box 31 (bxc (GSs.cs a2s))), (60, .arr 26 1 (List.map enc_s_int (OL.own ow_l1_1).toL).length)]⟩ krf ?_
       refine sG ?_
       refine xR 3 krf ?_
       refine xF krf krf (aop_app0 (e := 3) (S := 1) (by_ := 8) (enc := ci) (d := 56) (l2 := [r4.1.Total]) (xv := .tsl 1 (List.map ci [r4.1.Total]) 55) rfl rfl krf krf rfl krf krf krf rfl krf) ?_
       refine xR 1 krf ?_
       refine xE ?_
       refine bq_n ?_
       refine sN ⟨[3, 4, 5, 7, 8, 9, 10, 11], [3, 4, 5, 56, 60], [], []⟩ ⟨[(3, .ptr 3 0), (4, .ptr 4 0), (5, .ptr 5 0), (7, I (wi (a2s.To - a2s.From))), (8, .tsl 1 (List.map enc_s_int (OL.own ow_l1_1).toL) 60), (9, I l1_2), (10, .tsl 1 (List.map ci (OL.nil.toL ++ [r4.1.Total])) 56), (11, I l2_2)], [(3, .box 24 (bxc (GTf.cs a0t))), (4, .box 28 (bxc (GCl.cs a1c))), (5, .box 31 (bxc (GSs.cs a2s))), (56, .arr 3 1 (List.map ci (OL.nil.toL ++ [r4.1.Total])).length), (60, .arr 26 1 (List.map enc_s_int (OL.own ow_l1_1).toL).length)]⟩ krf ?_
       refine sL tfm krf ?_
       exact kq_n (OL.own (OL.nil.toL ++ [r4.1.Total]), wi (l2_2 + 1)) ⟨[3, 4, 5, 7, 8, 9, 10, 11], [3, 4, 5, 60, 56], [], []⟩ krf
      ·refine sK ?_
       refine sN ⟨[3, 4, 5, 7, 8, 9, 10, 11, 12], [3, 4, 5, 60], [], []⟩ ⟨[(3, .ptr 3 0), (4, .ptr 4 0), (5, .ptr 5 0), (7, I (wi (a2s.To - a2s.From))), (8, .tsl 1 (List.map enc_s_int (OL.own ow_l1_1).toL) 60), (9, I l1_2), (10, .p (.val (.slice none 0 0))), (11, I l2_2), (12, I (-1))], [(3, .box 24 (bxc (GTf.cs a0t))), (4, .box 28 (bxc (GCl.cs a1c))), (5, .box 31 (bxc (GSs.cs a2s))), (60, .arr 26 1 (List.map enc_s_int (OL.own ow_l1_1).toL).length)]⟩ krf ?_
       refine sG ?_
       refine xR 3 krf ?_
       refine xF krf krf (aop_app0 (e := 3) (S := 1) (by_ := 8) (enc := ci) (d := 56) (l2 := [(-1)]) (xv := .tsl 1 (List.map ci [(-1)]) 55) rfl rfl krf krf rfl krf krf krf rfl krf) ?_
       refine xR 1 krf ?_
       refine xE ?_
       refine bq_n ?_
       refine sN ⟨[3, 4, 5, 7, 8, 9, 10, 11], [3, 4, 5, 56, 60], [], []⟩ ⟨[(3, .ptr 3 0), (4, .ptr 4 0), (5, .ptr 5 0), (7, I (wi (a2s.To - a2s.From))), (8, .tsl 1 (List.map enc_s_int (OL.own ow_l1_1).toL) 60), (9, I l1_2), (10, .tsl 1 (List.map ci (OL.nil.toL ++ [(-1)])) 56), (11, I l2_2)], [(3, .box 24 (bxc (GTf.cs a0t))), (4, .box 28 (bxc (GCl.cs a1c))), (5, .box 31 (bxc (GSs.cs a2s))), (56, .arr 3 1 (List.map ci (OL.nil.toL ++ [(-1)])).length), (60, .arr 26 1 (List.map enc_s_int (OL.own ow_l1_1).toL).length)]⟩ krf ?_
       refine sL tfm krf ?_
       exact kq_n (OL.own (OL.nil.toL ++ [(-1)]), wi (l2_2 + 1)) ⟨[3, 4, 5, 7, 8, 9, 10, 11], [3, 4, 5, 60, 56], [], []⟩ krf
     ·refine sK ?_
      refine sN ⟨[3, 4, 5, 7, 8, 9, 10, 11, 12], [3, 4, 5, 60], [], []⟩ ⟨[(3, .ptr 3 0), (4, .ptr 4 0), (5, .ptr 5 0), (7, I (wi (a2s.To - a2s.From))), (8, .tsl 1 (List.map enc_s_int (OL.own ow_l1_1).toL) 60), (9, I l1_2), (10, .p (.val (.slice none 0 0))), (11, I l2_2), (12, I (-1))], [(3, .box 24 (bxc (GTf.cs a0t))), (4, .box 28 (bxc (GCl.cs a1c))), (5, .box 31 (bxc (GSs.cs a2s))), (60, .arr 26 1 (List.map enc_s_int (OL.own ow_l1_1).toL).length)]⟩ krf ?_
      refine sG ?_
      refine xR 3 krf ?_
      refine xF krf krf (aop_app0 (e := 3) (S := 1) (by_ := 8) (enc := ci) (d := 56) (l2 := [(-1)]) (xv := .tsl 1 (List.map ci [(-1)]) 55) rfl rfl krf krf rfl krf krf krf rfl krf) ?_
      refine xR 1 krf ?_
      refine xE ?_
      refine bq_n ?_
      refine sN ⟨[3, 4, 5, 7, 8, 9, 10, 11], [3, 4, 5, 56, 60], [], []⟩ ⟨[(3, .ptr 3 0), (4, .ptr 4 0), (5, .ptr 5 0), (7, I (wi (a2s.To - a2s.From))), (8, .tsl 1 (List.map enc_s_int (OL.own ow_l1_1).toL) 60), (9, I l1_2), (10, .tsl 1 (List.map ci (OL.nil.toL ++ [(-1)])) 56), (11, I l2_2)], [(3, .box 24 (bxc (GTf.cs a0t))), (4, .box 28 (bxc (GCl.cs a1c))), (5, .box 31 (bxc (GSs.cs a2s))), (56, .arr 3 1 (List.map ci (OL.nil.toL ++ [(-1)])).length), (60, .arr 26 1 (List.map enc_s_int (OL.own ow_l1_1).toL).length)]⟩ krf ?_
      refine sL tfm krf ?_
      exact kq_n (OL.own (OL.nil.toL ++ [(-1)]), wi (l2_2 + 1)) ⟨[3, 4, 5, 7, 8, 9, 10, 11], [3, 4, 5, 60, 56], [], []⟩ krf
    ·refine sim_exit ?_
     refine sq_x ?_
     refine kq_x ?_
     refine bq_hit ?_
     refine sN ⟨[3, 4, 5, 7, 8, 9, 10], [3, 4, 5, 60], [], []⟩ ⟨[(3, .ptr 3 0), (4, .ptr 4 0), (5, .ptr 5 0), (7, I (wi (a2s.To - a2s.From))), (8, .tsl 1 (List.map enc_s_int (OL.own ow_l1_1).toL) 60), (9, I l1_2), (10, .p (.val (.slice none 0 0)))], [(3, .box 24 (bxc (GTf.cs a0t))), (4, .box 28 (bxc (GCl.cs a1c))), (5, .box 31 (bxc (GSs.cs a2s))), (60, .arr 26 1 (List.map enc_s_int (OL.own ow_l1_1).toL).length)]⟩ krf ?_
     refine sP ⟨[3, 4, 5, 7, 8, 9, 10], [3, 4, 5, 60], [(10, .sl 1)], []⟩ ⟨[(3, .ptr 3 0), (4, .ptr 4 0), (5, .ptr 5 0), (7, I (wi (a2s.To - a2s.From))), (8, .tsl 1 (List.map enc_s_int (OL.own ow_l1_1).toL) 60), (9, I l1_2), (10, .p (.sl 1 (List.map ci OL.nil.toL)))], [(3, .box 24 (bxc (GTf.cs a0t))), (4, .box 28 (bxc (GCl.cs a1c))), (5, .box 31 (bxc (GSs.cs a2s))), (60, .arr 26 1 (List.map enc_s_int (OL.own ow_l1_1).toL).length)]⟩ krf ?_
     refine sG ?_
     refine xR 3 krf ?_
     refine xF krf krf (aop_app (e := 26) (S := 1) (by_ := 24) (enc := enc_s_int) (tk := 60) (l := (OL.own ow_l1_1).toL) (l2 := [OL.nil.toL]) (xv := .tsl 1 (List.map enc_s_int [OL.nil.toL]) 59) rfl krf krf rfl krf krf krf rfl krf) ?_
     refine xR 1 krf ?_
     refine xE ?_
     refine bq_n ?_
     refine sN ⟨[3, 4, 5, 7, 8, 9], [3, 4, 5, 60], [], []⟩ ⟨[(3, .ptr 3 0), (4, .ptr 4 0), (5, .ptr 5 0), (7, I (wi (a2s.To - a2s.From))), (8, .tsl 1 (List.map enc_s_int ((OL.own ow_l1_1).toL ++ [OL.nil.toL])) 60), (9, I l1_2)], [(3, .box 24 (bxc (GTf.cs a0t))), (4, .box 28 (bxc (GCl.cs a1c))), (5, .box 31 (bxc (GSs.cs a2s))), (60, .arr 26 1 (List.map enc_s_int ((OL.own ow_l1_1).toL ++ [OL.nil.toL])).length)]⟩ krf ?_
     refine sL tfm krf ?_
     exact kq_n (OL.own ((OL.own ow_l1_1).toL ++ [OL.nil.toL]), wi (l1_2 + 1)) ⟨[3, 4, 5, 7, 8, 9], [3, 4, 5, 60], [], []⟩ krf
   ·refine sS ?_
    refine sR tfm ⟨[3, 4, 5, 7, 8, 9, 10, 11, 27], [3, 4, 5, 56, 60], [], []⟩ ⟨[(3, .ptr 3 0), (4, .ptr 4 0), (5, .ptr 5 0), (7, I (wi (a2s.To - a2s.From))), (8, .tsl 1 (List.map enc_s_int (OL.own ow_l1_1).toL) 60), (9, I l1_2), (10, .tsl 1 (List.map ci (OL.own ow_l2_1).toL) 56), (11, I l2_2), (27, B (leI l2_2 (wi (a2s.To - a2s.From))))], [(3, .box 24 (bxc (GTf.cs a0t))), (4, .box 28 (bxc (GCl.cs a1c))), (5, .box 31 (bxc (GSs.cs a2s))), (56, .arr 3 1 (List.map ci (OL.own ow_l2_1).toL).length), (60, .arr 26 1 (List.map enc_s_int (OL.own ow_l1_1).toL).length)]⟩ krf ?_
    refine sC (leI l2_2 (wi (a2s.To - a2s.From))) krf ?_ ?_
    ·refine sK ?_
     refine sN ⟨[3, 4, 5, 7, 8, 9, 10, 11], [3, 4, 5, 56, 60], [], []⟩ ⟨[(3, .ptr 3 0), (4, .ptr 4 0), (5, .ptr 5 0), (7, I (wi (a2s.To - a2s.From))), (8, .tsl 1 (List.map enc_s_int (OL.own ow_l1_1).toL) 60), (9, I l1_2), (10, .tsl 1 (List.map ci (OL.own ow_l2_1).toL) 56), (11, I l2_2)], [(3, .box 24 (bxc (GTf.cs a0t))), (4, .box 28 (bxc (GCl.cs a1c))), (5, .box 31 (bxc (GSs.cs a2s))), (56, .arr 3 1 (List.map ci (OL.own ow_l2_1).toL).length), (60, .arr 26 1 (List.map enc_s_int (OL.own ow_l1_1).toL).length)]⟩ krf ?_
     refine sS ?_
     refine sB ?_
     refine sR tfm ⟨[3, 4, 5, 7, 8, 9, 10, 11, 12], [3, 4, 5, 56, 60], [], []⟩ ⟨[(3, .ptr 3 0), (4, .ptr 4 0), (5, .ptr 5 0), (7, I (wi (a2s.To - a2s.From))), (8, .tsl 1 (List.map enc_s_int (OL.own ow_l1_1).toL) 60), (9, I l1_2), (10, .tsl 1 (List.map ci (OL.own ow_l2_1).toL) 56), (11, I l2_2), (12, I (-1))], [(3, .box 24 (bxc (GTf.cs a0t))), (4, .box 28 (bxc (GCl.cs a1c))), (5, .box 31 (bxc (GSs.cs a2s))), (56, .arr 3 1 (List.map ci (OL.own ow_l2_1).toL).length), (60, .arr 26 1 (List.map enc_s_int (OL.own ow_l1_1).toL).length)]⟩ krf ?_
     refine sS ?_
     refine sR tfm ⟨[3, 4, 5, 7, 8, 9, 10, 11, 12, 32], [3, 4, 5, 56, 60], [], []⟩ ⟨[(3, .ptr 3 0), (4, .ptr 4 0), (5, .ptr 5 0), (7, I (wi (a2s.To - a2s.From))), (8, .tsl 1 (List.map enc_s_int (OL.own ow_l1_1).toL) 60), (9, I l1_2), (10, .tsl 1 (List.map ci (OL.own ow_l2_1).toL) 56), (11, I l2_2), (12, I (-1)), (32, B (ltI l1_2 l2_2))], [(3, .box 24 (bxc (GTf.cs a0t))), (4, .box 28 (bxc (GCl.cs a1c))), (5, .box 31 (bxc (GSs.cs a2s))), (56, .arr 3 1 (List.map ci (OL.own ow_l2_1).toL).length), (60, .arr 26 1 (List.map enc_s_int (OL.own ow_l1_1).toL).length)]⟩ krf ?_
     refine sC (ltI l1_2 l2_2) krf ?_ ?_
     ·refine sS ?_
      refine sim_drw tfm rfl ?_
      refine xR 11 krf ?_
      refine xC [] krf (g_ref34_Part_ok n a2s (wi (a2s.From + l1_2)) (wi (a2s.From + l2_2))) krf krf (fun _ => by kernel_rfl) (fun r3 => ?_)
      refine xC [] krf (g_ref33_Bill_ok n a0t a1c r3) krf krf (fun _ => by kernel_rfl) (fun r4 => ?_)
      refine xR 6 krf ?_
      refine xs_endD krf ?_
      refine sN ⟨[3, 4, 5, 7, 8, 9, 10, 11, 12, 13, 14], [3, 4, 5, 13, 56, 60], [], []⟩ ⟨[(3, .ptr 3 0), (4, .ptr 4 0), (5, .ptr 5 0), (7, I (wi (a2s.To - a2s.From))), (8, .tsl 1 (List.map enc_s_int (OL.own ow_l1_1).toL) 60), (9, I l1_2), (10, .tsl 1 (List.map ci (OL.own ow_l2_1).toL) 56), (11, I l2_2), (12, I (-1)), (13, .ptr 13 0), (14, I r4.2)], [(3, .box 24 (bxc (GTf.cs a0t))), (4, .box 28 (bxc (GCl.cs a1c))), (5, .box 31 (bxc (GSs.cs a2s))), (13, .box 55 (bxc (GBill.cs r4.1))), (56, .arr 3 1 (List.map ci (OL.own ow_l2_1).toL).length), (60, .arr 26 1 (List.map enc_s_int (OL.own ow_l1_1).toL).length)]⟩ krf ?_
      refine sR tfm ⟨[3, 4, 5, 7, 8, 9, 10, 11, 12, 13, 50], [3, 4, 5, 13, 56, 60], [], []⟩ ⟨[(3, .ptr 3 0), (4, .ptr 4 0), (5, .ptr 5 0), (7, I (wi (a2s.To - a2s.From))), (8, .tsl 1 (List.map enc_s_int (OL.own ow_l1_1).toL) 60), (9, I l1_2), (10, .tsl 1 (List.map ci (OL.own ow_l2_1).toL) 56), (11, I l2_2), (12, I (-1)), (13, .ptr 13 0), (50, B (eqI r4.2 0))], [(3, .box 24 (bxc (GTf.cs a0t))), (4, .box 28 (bxc (GCl.cs a1c))), (5, .box 31 (bxc (GSs.cs a2s))), (13, .box 55 (bxc (GBill.cs r4.1))), (56, .arr 3 1 (List.map ci (OL.own ow_l2_1).toL).length), (60, .arr 26 1 (List.map enc_s_int (OL.own ow_l1_1).toL).length)]⟩ krf ?_
      refine sC (eqI r4.2 0) krf ?_ ?_
      ·refine sL tfm krf ?_
       refine sN ⟨[3, 4, 5, 7, 8, 9, 10, 11, 12], [3, 4, 5, 56, 60], [], []⟩ ⟨[(3, .ptr 3 0), (4, .ptr 4 0), (5, .ptr 5 0), (7, I (wi (a2s.To - a2s.From))), (8, .tsl 1 (List.map enc_s_int (OL.own ow_l1_1).toL) 60), (9, I l1_2), (10, .tsl 1 (List.map ci (OL.own ow_l2_1).toL) 56), (11, I l2_2), (12, I r4.1.Total)], [(3, .box 24 (bxc (GTf.cs a0t))), (4, .box 28 (bxc (GCl.cs a1c))), (5, .box 31 (bxc (GSs.cs a2s))), (56, .arr 3 1 (List.map ci (OL.own ow_l2_1).toL).length), (60, .arr 26 1 (List.map enc_s_int (OL.own ow_l1_1).toL).length)]⟩ krf ?_
       refine sG ?_
       refine xR 3 krf ?_
       refine xF krf krf (aop_app (e := 3) (S := 1) (by_ := 8) (enc := ci) (tk := 56) (l := (OL.own ow_l2_1).toL) (l2 := [r4.1.Total]) (xv := .tsl 1 (List.map ci [r4.1.Total]) 55) rfl krf krf rfl krf krf krf rfl krf) ?_
       refine xR 1 krf ?_
       refine xE ?_
       refine bq_n ?_
       refine sN ⟨[3, 4, 5, 7, 8, 9, 10, 11], [3, 4, 5, 56, 60], [], []⟩ ⟨[(3, .ptr 3 0), (4, .ptr 4 0), (5, .ptr 5 0), (7, I (wi (a2s.To - a2s.From))), (8, .tsl 1 (List.map enc_s_int (OL.own ow_l1_1).toL) 60), (9, I l1_2), (10, .tsl 1 (List.map ci ((OL.own ow_l2_1).toL ++ [r4.1.Total])) 56), (11, I l2_2)], [(3, .box 24 (bxc (GTf.cs a0t))), (4, .box 28 (bxc (GCl.cs a1c))), (5, .box 31 (bxc (GSs.cs a2s))), (56, .arr 3 1 (List.map ci ((OL.own ow_l2_1).toL ++ [r4.1.Total])).length), (60, .arr 26 1 (List.map enc_s_int (OL.own ow_l1_1).toL).length)]⟩ krf ?_
       refine sL tfm krf ?_
       exact kq_n (OL.own ((OL.own ow_l2_1).toL ++ [r4.1.Total]), wi (l2_2 + 1)) ⟨[3, 4, 5, 7, 8, 9, 10, 11], [3, 4, 5, 60, 56], [], []⟩ krf
      ·refine sK ?_
       refine sN ⟨[3, 4, 5, 7, 8, 9, 10, 11, 12], [3, 4, 5, 56, 60], [], []⟩ ⟨[(3, .ptr 3 0), (4, .ptr 4 0), (5, .ptr 5 0), (7, I (wi (a2s.To - a2s.From))), (8, .tsl 1 (List.map enc_s_int (OL.own ow_l1_1).toL) 60), (9, I l1_2), (10, .tsl 1 (List.map ci (OL.own ow_l2_1).toL) 56), (11, I l2_2), (12, I (-1))], [(3, .box 24 (bxc (GTf.cs a0t))), (4, .box 28 (bxc (GCl.cs a1c))), (5, .box 31 (bxc (GSs.cs a2s))), (56, .arr 3 1 (List.map ci (OL.own ow_l2_1).toL).length), (60, .arr 26 1 (List.map enc_s_int (OL.own ow_l1_1).toL).length)]⟩ krf ?_
       refine sG ?_
       refine xR 3 krf ?_
       refine xF krf krf (aop_app (e := 3) (S := 1) (by_ := 8) (enc := ci) (tk := 56) (l := (OL.own ow_l2_1).toL) (l2 := [(-1)]) (xv := .tsl 1 (List.map ci [(-1)]) 55) rfl krf krf rfl krf krf krf rfl krf) ?_
       refine xR 1 krf ?_
       refine xE ?_
       refine bq_n ?_
       refine sN ⟨[3, 4, 5, 7, 8, 9, 10, 11], [3, 4, 5, 56, 60], [], []⟩ ⟨[(3, .ptr 3 0), (4, .ptr 4 0), (5, .ptr 5 0), (7, I (wi (a2s.To - a2s.From))), (8, .tsl 1 (List.map enc_s_int (OL.own ow_l1_1).toL) 60), (9, I l1_2), (10, .tsl 1 (List.map ci ((OL.own ow_l2_1).toL ++ [(-1)])) 56), (11, I l2_2)], [(3, .box 24 (bxc (GTf.cs a0t))), (4, .box 28 (bxc (GCl.cs a1c))), (5, .box 31 (bxc (GSs.cs a2s))), (56, .arr 3 1 (List.map ci ((OL.own ow_l2_1).toL ++ [(-1)])).length), (60, .arr 26 1 (List.map enc_s_int (OL.own ow_l1_1).toL).length)]⟩ krf ?_
       refine sL tfm krf ?_
       exact kq_n (OL.own ((OL.own ow_l2_1).toL ++ [(-1)]), wi (l2_2 + 1)) ⟨[3, 4, 5, 7, 8, 9, 10, 11], [3, 4, 5, 60, 56], [], []⟩ krf
     ·refine sK ?_
      refine sN ⟨[3, 4, 5, 7, 8, 9, 10, 11, 12], [3, 4, 5, 56, 60], [], []⟩ ⟨[(3, .ptr 3 0), (4, .ptr 4 0), (5, .ptr 5 0), (7, I (wi (a2s.To - a2s.From))), (8, .tsl 1 (List.map enc_s_int (OL.own ow_l1_1).toL) 60), (9, I l1_2), (10, .tsl 1 (List.map ci (OL.own ow_l2_1).toL) 56), (11, I l2_2), (12, I (-1))], [(3, .box 24 (bxc (GTf.cs a0t))), (4, .box 28 (bxc (GCl.cs a1c))), (5, .box 31 (bxc (GSs.cs a2s))), (56, .arr 3 1 (List.map ci (OL.own ow_l2_1).toL).length), (60, .arr 26 1 (List.map enc_s_int (OL.own ow_l1_1).toL).length)]⟩ krf ?_
      refine sG ?_
      refine xR 3 krf ?_
      refine xF krf krf (aop_app (e := 3) (S := 1) (by_ := 8) (enc := ci) (tk := 56) (l := (OL.own ow_l2_1).toL) (l2 := [(-1)]) (xv := .tsl 1 (List.map ci [(-1)]) 55) rfl krf krf rfl krf krf krf rfl krf) ?_
      refine xR 1 krf ?_
      refine xE ?_
      refine bq_n ?_
      refine sN ⟨[3, 4, 5, 7, 8, 9, 10, 11], [3, 4, 5, 56, 60], [], []⟩ ⟨[(3, .ptr 3 0), (4, .ptr 4 0), (5, .ptr 5 0), (7, I (wi (a2s.To - a2s.From))), (8, .tsl 1 (List.map enc_s_int (OL.own ow_l1_1).toL) 60), (9, I l1_2), (10, .tsl 1 (List.map ci ((OL.own ow_l2_1).toL ++ [(-1)])) 56), (11, I l2_2)], [(3, .box 24 (bxc (GTf.cs a0t))), (4, .box 28 (bxc (GCl.cs a1c))), (5, .box 31 (bxc (GSs.cs a2s))), (56, .arr 3 1 (List.map ci ((OL.own ow_l2_1).toL ++ [(-1)])).length), (60, .arr 26 1 (List.map enc_s_int (OL.own ow_l1_1).toL).length)]⟩ krf ?_
      refine sL tfm krf ?_
      exact kq_n (OL.own ((OL.own ow_l2_1).toL ++ [(-1)]), wi (l2_2 + 1)) ⟨[3, 4, 5, 7, 8, 9, 10, 11], [3, 4, 5, 60, 56], [], []⟩ krf
    ·refine sim_exit ?_
     refine sq_x ?_
     refine kq_x ?_
     refine bq_hit ?_
     refine sN ⟨[3, 4, 5, 7, 8, 9, 10], [3, 4, 5, 56, 60], [], []⟩ ⟨[(3, .ptr 3 0), (4, .ptr 4 0), (5, .ptr 5 0), (7, I (wi (a2s.To - a2s.From))), (8, .tsl 1 (List.map enc_s_int (OL.own ow_l1_1).toL) 60), (9, I l1_2), (10, .tsl 1 (List.map ci (OL.own ow_l2_1).toL) 56)], [(3, .box 24 (bxc (GTf.cs a0t))), (4, .box 28 (bxc (GCl.cs a1c))), (5, .box 31 (bxc (GSs.cs a2s))), (56, .arr 3 1 (List.map ci (OL.own ow_l2_1).toL).length), (60, .arr 26 1 (List.map enc_s_int (OL.own ow_l1_1).toL).length)]⟩ krf ?_
     refine sP ⟨[3, 4, 5, 7, 8, 9, 10], [3, 4, 5, 56, 60], [(10, .sl 1)], []⟩ ⟨[(3, .ptr 3 0), (4, .ptr 4 0), (5, .ptr 5 0), (7, I (wi (a2s.To - a2s.From))), (8, .tsl 1 (List.map enc_s_int (OL.own ow_l1_1).toL) 60), (9, I l1_2), (10, .p (.sl 1 (List.map ci (OL.own ow_l2_1).toL)))], [(3, .box 24 (bxc (GTf.cs a0t))), (4, .box 28 (bxc (GCl.cs a1c))), (5, .box 31 (bxc (GSs.cs a2s))), (56, .arr 3 1 (List.map ci (OL.own ow_l2_1).toL).length), (60, .arr 26 1 (List.map enc_s_int (OL.own ow_l1_1).toL).length)]⟩ krf ?_
     refine sG ?_
     refine xR 3 krf ?_
     refine xF krf krf (aop_app (e := 26) (S := 1) (by_ := 24) (enc := enc_s_int) (tk := 60) (l := (OL.own ow_l1_1).toL) (l2 := [(OL.own ow_l2_1).toL]) (xv := .tsl 1 (List.map enc_s_int [(OL.own ow_l2_1).toL]) 59) rfl krf krf rfl krf krf krf rfl krf) ?_
     refine xR 1 krf ?_
     refine xE ?_
     refine bq_n ?_
     refine sN ⟨[3, 4, 5, 7, 8, 9], [3, 4, 5, 60], [], []⟩ ⟨[(3, .ptr 3 0), (4, .ptr 4 0), (5, .ptr 5 0), (7, I (wi (a2s.To - a2s.From))), (8, .tsl 1 (List.map enc_s_int ((OL.own ow_l1_1).toL ++ [(OL.own ow_l2_1).toL])) 60), (9, I l1_2)], [(3, .box 24 (bxc (GTf.cs a0t))), (4, .box 28 (bxc (GCl.cs a1c))), (5, .box 31 (bxc (GSs.cs a2s))), (60, .arr 26 1 (List.map enc_s_int ((OL.own ow_l1_1).toL ++ [(OL.own ow_l2_1).toL])).length)]⟩ krf ?_
     refine sL tfm krf ?_
     exact kq_n (OL.own ((OL.own ow_l1_1).toL ++ [(OL.own ow_l2_1).toL]), wi (l1_2 + 1)) ⟨[3, 4, 5, 7, 8, 9], [3, 4, 5, 60], [], []⟩ krf
  ·refine sim_exit ?_
   refine sq_x ?_
   refine kq_x ?_
   refine bq_hit ?_
   refine sN ⟨[8], [60], [], []⟩ ⟨[(8, .tsl 1 (List.map enc_s_int (OL.own ow_l1_1).toL) 60)], [(60, .arr 26 1 (List.map enc_s_int (OL.own ow_l1_1).toL).length)]⟩ krf ?_
   refine sR tfm ⟨[6], [60], [], []⟩ ⟨[(6, .tsl 1 (List.map enc_s_int (OL.own ow_l1_1).toL) 60)], [(60, .arr 26 1 (List.map enc_s_int (OL.own ow_l1_1).toL).length)]⟩ krf ?_
   refine sT ?_
   exact qR (.sl 1) krf krf krf
def g_ref34_Find_l12 (a2s : GSs) (r6 : Int × Int) (r7 : List (List Int)) (l9 : Int) (recl9 : Int → Option ((List Int) × Bool × Int)) (recl12 : Int → Option ((List Int) × Bool × Int)) (l12 : Int) : Option ((List Int) × Bool × Int) :=
 cond (ltI l12 (wi (a2s.To - a2s.From)))
  (((getI r7 0).bind fun x14 =>
  (getI x14 l9).bind fun x15 =>
  cond (leI 0 x15)
   ((getI r7 l9).bind fun x17 =>
   (getI x17 l12).bind fun x18 =>
   cond (leI 0 x18)
    ((getI r7 l12).bind fun x20 =>
    (getI x20 (wi (a2s.To - a2s.From))).bind fun x21 =>
    cond (leI 0 x21)
     ((getI r7 0).bind fun x23 =>
     (getI x23 l9).bind fun x24 =>
     (getI r7 l9).bind fun x25 =>
     (getI x25 l12).bind fun x26 =>
     (getI r7 l12).bind fun x27 =>
     (getI x27 (wi (a2s.To - a2s.From))).bind fun x28 =>
     some (ltI (wi ((wi (x24 + x26)) + x28)) r6.1))
     (some false))
    (some false))
   (some false)).bind fun j13 =>
  cond j13
   (some ([wi (a2s.From + l9), wi (a2s.From + l12)], true, 0))
   (recl12 (wi (l12 + 1))))
  (recl9 (wi (l9 + 1)))
def g_ref34_Find_l9 (n : Nat) (a2s : GSs) (a3most : Int) (r6 : Int × Int) (r7 : List (List Int)) (recl9 : Int → Option ((List Int) × Bool × Int)) (l9 : Int) : Option ((List Int) × Bool × Int) :=
 (cond (ltI l9 (wi (a2s.To - a2s.From)))
  (some (eqI a3most 2))
  (some false)).bind fun j10 =>
 cond j10
  (loopN (fun recl12 l12 => g_ref34_Find_l12 a2s r6 r7 l9 recl9 recl12 l12) n (wi (l9 + 1)))
  (some ([], false, 0))
def g_ref34_Find_j8 (n : Nat) (a2s : GSs) (a3most : Int) (r6 : Int × Int) (r7 : List (List Int)) : Option ((List Int) × Bool × Int) :=
 loopN (fun recl9 l9 => g_ref34_Find_l9 n a2s a3most r6 r7 recl9 l9) n 1
def g_ref34_Find_l29 (n : Nat) (a2s : GSs) (a3most : Int) (r6 : Int × Int) (r7 : List (List Int)) (recl29 : Int → Option ((List Int) × Bool × Int)) (l29 : Int) : Option ((List Int) × Bool × Int) :=
 cond (ltI l29 (wi (a2s.To - a2s.From)))
  (((getI r7 0).bind fun x31 =>
  (getI x31 l29).bind fun x32 =>
  cond (leI 0 x32)
   ((getI r7 l29).bind fun x34 =>
   (getI x34 (wi (a2s.To - a2s.From))).bind fun x35 =>
   cond (leI 0 x35)
    ((getI r7 0).bind fun x37 =>
    (getI x37 l29).bind fun x38 =>
    (getI r7 l29).bind fun x39 =>
    (getI x39 (wi (a2s.To - a2s.From))).bind fun x40 =>
    some (ltI (wi (x38 + x40)) r6.1))
    (some false))
   (some false)).bind fun j30 =>
  cond j30
   (some ([wi (a2s.From + l29)], true, 0))
   (recl29 (wi (l29 + 1))))
  (g_ref34_Find_j8 n a2s a3most r6 r7)
def g_ref34_Find (n : Nat) (a0t : GTf) (a1c : GCl) (a2s : GSs) (a3most : Int) : Option ((List Int) × Bool × Int) :=
 ((g_ref34_valid n a0t a1c a2s).bind fun r2 =>
 cond (!r2)
  (some true)
  (cond (ltI 60 (wi (a2s.To - a2s.From)))
   (some true)
   (cond (ltI a3most 1)
    (some true)
    (some (ltI 2 a3most))))).bind fun j1 =>
 cond j1
  (some ([], false, 1))
  ((g_ref34_Price n a0t a1c a2s []).bind fun r6 =>
  cond (!eqI r6.2 0)
   (some ([], false, r6.2))
   ((g_ref34_table n a0t a1c a2s).bind fun r7 =>
   loopN (fun recl29 l29 => g_ref34_Find_l29 n a2s a3most r6 r7 recl29 l29) n 1))
theorem g_ref34_Find_ok (n : Nat) (a0t : GTf) (a1c : GCl) (a2s : GSs) (a3most : Int) : ∀ r, g_ref34_Find n a0t a1c a2s a3most = some r → PCall Tryz.prog 11 [ag (GTf.cs a0t), ag (GCl.cs a1c), ag (GSs.cs a2s), I a3most] (.ret (.tup [.p (.sl 1 (List.map ci r.1)), B r.2.1, I r.2.2])) := by
 refine pcall_sim (X := fun r : (List Int) × Bool × Int => AEnd.ret (.tup [.p (.sl 1 (List.map ci r.1)), B r.2.1, I r.2.2])) Tryz.func11 rfl Tryz.ntmps11 rfl ?_
 unfold g_ref34_Find
 refine sR tfm ⟨[3, 4, 5, 6], [4, 5, 6], [], []⟩ ⟨[(3, I a3most), (4, .ptr 4 0), (5, .ptr 5 0), (6, .ptr 6 0)], [(4, .box 24 (bxc (GTf.cs a0t))), (5, .box 28 (bxc (GCl.cs a1c))), (6, .box 31 (bxc (GSs.cs a2s)))]⟩ krf ?_
 refine sS ?_
 refine sim_bind (fun j1 => ⟨[(3, I a3most), (4, .ptr 4 0), (5, .ptr 5 0), (6, .ptr 6 0), (38, B j1)], [(4, .box 24 (bxc (GTf.cs a0t))), (5, .box 28 (bxc (GCl.cs a1c))), (6, .box 31 (bxc (GSs.cs a2s)))]⟩ : Bool → St) ?_ ?_
 ·refine sG ?_
  refine xR 3 krf ?_
  refine xC [] krf (g_ref34_valid_ok n a0t a1c a2s) krf krf (fun _ => by kernel_rfl) (fun r2 => ?_)
  refine xR 2 krf ?_
  refine xS (!r2) (fun h3 => ?_) (fun h3 => ?_)
  ·refine xN (want_ft krf h3) krf ?_
   refine xR 14 krf ?_
   refine xE ?_
   exact nq_n true ⟨[3, 4, 5, 6, 38], [4, 5, 6], [], []⟩ krf
  ·refine xO (want_ff krf h3) krf ?_
   refine xR 7 krf ?_
   refine xS (ltI 60 (wi (a2s.To - a2s.From))) (fun h4 => ?_) (fun h4 => ?_)
   ·refine xN (want_ft krf h4) krf ?_
    refine xR 6 krf ?_
    refine xE ?_
    exact nq_n true ⟨[3, 4, 5, 6, 38], [4, 5, 6], [], []⟩ krf
   ·refine xO (want_ff krf h4) krf ?_
    refine xR 3 krf ?_
    refine xS (ltI a3most 1) (fun h5 => ?_) (fun h5 => ?_)
    ·refine xN (want_ft krf h5) krf ?_
     refine xR 2 krf ?_
     refine xE ?_
     exact nq_n true ⟨[3, 4, 5, 6, 38], [4, 5, 6], [], []⟩ krf
    ·refine xO (want_ff krf h5) krf ?_
     refine xR 2 krf ?_
     refine xE ?_
     exact nq_n (ltI 2 a3most) ⟨[3, 4, 5, 6, 38], [4, 5, 6], [], []⟩ krf
 ·rintro j1
  refine sC j1 krf ?_ ?_
  ·refine sR tfm ⟨[8, 9, 10], [], [], []⟩ ⟨[(8, .p (.val (.slice none 0 0))), (9, B false), (10, I 1)], []⟩ krf ?_
   refine sT ?_
   refine sq_r ?_
   exact qR (.agg [.sl 1, .id, .id]) krf krf krf
  ·refine sK ?_
   refine sN ⟨[3, 4, 5, 6], [4, 5, 6], [], []⟩ ⟨[(3, I a3most), (4, .ptr 4 0), (5, .ptr 5 0), (6, .ptr 6 0)], [(4, .box 24 (bxc (GTf.cs a0t))), (5, .box 28 (bxc (GCl.cs a1c))), (6, .box 31 (bxc (GSs.cs a2s)))]⟩ krf ?_
   refine sS ?_
   refine sG ?_
   refine xR 3 krf ?_
   refine xC [.id, .id, .id, .sl 1] krf (g_ref34_Price_ok n a0t a1c a2s []) krf krf (fun _ => by kernel_rfl) (fun r6 => ?_)
   refine xR 5 krf ?_
   refine xE ?_
   refine sN ⟨[3, 4, 5, 6, 11, 12], [4, 5, 6], [], []⟩ ⟨[(3, I a3most), (4, .ptr 4 0), (5, .ptr 5 0), (6, .ptr 6 0), (11, I r6.1), (12, I r6.2)], [(4, .box 24 (bxc (GTf.cs a0t))), (5, .box 28 (bxc (GCl.cs a1c))), (6, .box 31 (bxc (GSs.cs a2s)))]⟩ krf ?_
   refine sS ?_
   refine sR tfm ⟨[3, 4, 5, 6, 11, 12, 47], [4, 5, 6], [], []⟩ ⟨[(3, I a3most), (4, .ptr 4 0), (5, .ptr 5 0), (6, .ptr 6 0), (11, I r6.1), (12, I r6.2), (47, B (!eqI r6.2 0))], [(4, .box 24 (bxc (GTf.cs a0t))), (5, .box 28 (bxc (GCl.cs a1c))), (6, .box 31 (bxc (GSs.cs a2s)))]⟩ krf ?_
   refine sC (!eqI r6.2 0) krf ?_ ?_
   ·refine sR tfm ⟨[8, 9, 10], [], [], []⟩ ⟨[(8, .p (.val (.slice none 0 0))), (9, B false), (10, I r6.2)], []⟩ krf ?_
    refine sT ?_
    refine sq_r ?_
    exact qR (.agg [.sl 1, .id, .id]) krf krf krf
   ·refine sK ?_
    refine sN ⟨[3, 4, 5, 6, 11], [4, 5, 6], [], []⟩ ⟨[(3, I a3most), (4, .ptr 4 0), (5, .ptr 5 0), (6, .ptr 6 0), (11, I r6.1)], [(4, .box 24 (bxc (GTf.cs a0t))), (5, .box 28 (bxc (GCl.cs a1c))), (6, .box 31 (bxc (GSs.cs a2s)))]⟩ krf ?_
    refine sS ?_
    refine sG ?_
    refine xR 3 krf ?_
    refine xC [] krf (g_ref34_table_ok n a0t a1c a2s) krf krf (fun _ => by kernel_rfl) (fun r7 => ?_)
    refine xR 1 krf ?_
    refine xE ?_
    refine sN ⟨[3, 6, 11, 13], [6], [], []⟩ ⟨[(3, I a3most), (6, .ptr 6 0), (11, I r6.1), (13, .p (.sl 1 (List.map enc_s_int r7)))], [(6, .box 31 (bxc (GSs.cs a2s)))]⟩ krf ?_
    refine sR tfm ⟨[3, 6, 11, 13, 14], [6], [], []⟩ ⟨[(3, I a3most), (6, .ptr 6 0), (11, I r6.1), (13, .p (.sl 1 (List.map enc_s_int r7))), (14, I (wi (a2s.To - a2s.From)))], [(6, .box 31 (bxc (GSs.cs a2s)))]⟩ krf ?_
    refine sim_cps (fun _ => ⟨[(3, I a3most), (6, .ptr 6 0), (11, I r6.1), (13, .p (.sl 1 (List.map enc_s_int r7))), (14, I (wi (a2s.To - a2s.From)))], [(6, .box 31 (bxc (GSs.cs a2s)))]⟩ : Unit → St) (fun _ => g_ref34_Find_j8 n a2s a3most r6 r7) ?_ ?_
    ·rintro _
     show SimE (g_ref34_Find_j8 n a2s a3most r6 r7) _ _ _ _ _ _
     unfold g_ref34_Find_j8
     refine sS ?_
     refine sR tfm ⟨[3, 6, 11, 13, 14, 16], [6], [], []⟩ ⟨[(3, I a3most), (6, .ptr 6 0), (11, I r6.1), (13, .p (.sl 1 (List.map enc_s_int r7))), (14, I (wi (a2s.To - a2s.From))), (16, I 1)], [(6, .box 31 (bxc (GSs.cs a2s)))]⟩ krf ?_
     refine sB ?_
     refine sim_loop (fun l9 => ⟨[(3, I a3most), (6, .ptr 6 0), (11, I r6.1), (13, .p (.sl 1 (List.map enc_s_int r7))), (14, I (wi (a2s.To - a2s.From))), (16, I l9)], [(6, .box 31 (bxc (GSs.cs a2s)))]⟩ : Int → St) (weak_shr (K := ⟨[3, 6, 11, 13, 14, 16], [6], [], []⟩) krf) ?_
     rintro recl9 l9
     show SimE (g_ref34_Find_l9 n a2s a3most r6 r7 recl9 l9) _ _ _ _ _ _
     unfold g_ref34_Find_l9
     refine sS ?_
     refine sim_bind (fun j10 => ⟨[(3, I a3most), (6, .ptr 6 0), (11, I r6.1), (13, .p (.sl 1 (List.map enc_s_int r7))), (14, I (wi (a2s.To - a2s.From))), (16, I l9), (109, B j10)], [(6, .box 31 (bxc (GSs.cs a2s)))]⟩ : Bool → St) ?_ ?_
     ·refine sG ?_
      refine xR 4 krf ?_
      refine xS (ltI l9 (wi (a2s.To - a2s.From))) (fun h11 => ?_) (fun h11 => ?_)
      ·refine xO (want_tt krf h11) krf ?_
       refine xR 2 krf ?_
       refine xE ?_
       exact nq_n (eqI a3most 2) ⟨[3, 6, 11, 13, 14, 16, 109], [6], [], []⟩ krf
      ·refine xN (want_tf krf h11) krf ?_
       refine xR 2 krf ?_
       refine xE ?_
       exact nq_n false ⟨[3, 6, 11, 13, 14, 16, 109], [6], [], []⟩ krf
     ·rintro j10
      refine sC j10 krf ?_ ?_
      ·refine sK ?_
       refine sN ⟨[3, 6, 11, 13, 14, 16], [6], [], []⟩ ⟨[(3, I a3most), (6, .ptr 6 0), (11, I r6.1), (13, .p (.sl 1 (List.map enc_s_int r7))), (14, I (wi (a2s.To - a2s.From))), (16, I l9)], [(6, .box 31 (bxc (GSs.cs a2s)))]⟩ krf ?_
       refine sS ?_
       refine sB ?_
       refine sR tfm ⟨[3, 6, 11, 13, 14, 16, 17], [6], [], []⟩ ⟨[(3, I a3most), (6, .ptr 6 0), (11, I r6.1), (13, .p (.sl 1 (List.map enc_s_int r7))), (14, I (wi (a2s.To - a2s.From))), (16, I l9), (17, I (wi (l9 + 1)))], [(6, .box 31 (bxc (GSs.cs a2s)))]⟩ krf ?_
       refine sB ?_
       refine sim_loop (fun l12 => ⟨[(3, I a3most), (6, .ptr 6 0), (11, I r6.1), (13, .p (.sl 1 (List.map enc_s_int r7))), (14, I (wi (a2s.To - a2s.From))), (16, I l9), (17, I l12)], [(6, .box 31 (bxc (GSs.cs a2s)))]⟩ : Int → St) (weak_shr (K := ⟨[3, 6, 11, 13, 14, 16, 17], [6], [], []⟩) krf) ?_
       rintro recl12 l12
       show SimE (g_ref34_Find_l12 a2s r6 r7 l9 recl9 recl12 l12) _ _ _ _ _ _
       unfold g_ref34_Find_l12
       refine sS ?_
       refine sR tfm ⟨[3, 6, 11, 13, 14, 16, 17, 116], [6], [], []⟩ ⟨[(3, I a3most), (6, .ptr 6 0), (11, I r6.1), (13, .p (.sl 1 (List.map enc_s_int r7))), (14, I (wi (a2s.To - a2s.From))), (16, I l9), (17, I l12), (116, B (ltI l12 (wi (a2s.To - a2s.From))))], [(6, .box 31 (bxc (GSs.cs a2s)))]⟩ krf ?_
       refine sC (ltI l12 (wi (a2s.To - a2s.From))) krf ?_ ?_
       ·refine sK ?_
        refine sN ⟨[3, 6, 11, 13, 14, 16, 17], [6], [], []⟩ ⟨[(3, I a3most), (6, .ptr 6 0), (11, I r6.1), (13, .p (.sl 1 (List.map enc_s_int r7))), (14, I (wi (a2s.To - a2s.From))), (16, I l9), (17, I l12)], [(6, .box 31 (bxc (GSs.cs a2s)))]⟩ krf ?_
        refine sS ?_
        refine sB ?_
        refine sim_bind (fun j13 => ⟨[(3, I a3most), (6, .ptr 6 0), (11, I r6.1), (13, .p (.sl 1 (List.map enc_s_int r7))), (14, I (wi (a2s.To - a2s.From))), (16, I l9), (17, I l12), (171, B j13)], [(6, .box 31 (bxc (GSs.cs a2s)))]⟩ : Bool → St) ?_ ?_
        ·refine sim_drw tfm rfl ?_
         refine xR 1 krf ?_
         refine xG krf krf (aop_idx (e := 26) (S := 1) (enc := enc_s_int) (l := r7) (k := .i64) (n := 0) (sv := .p (.sl 1 (List.map enc_s_int r7))) rfl krf krf krf krf krf) (fun x14 => ?_)
         refine xR 2 krf ?_
         refine xG krf krf (aop_idx (e := 3) (S := 1) (enc := ci) (l := x14) (k := .i64) (n := l9) (sv := .p (.sl 1 (List.map ci x14))) rfl krf krf krf krf krf) (fun x15 => ?_)
         refine xR 3 krf ?_
         refine xS (leI 0 x15) (fun h16 => ?_) (fun h16 => ?_)
         ·refine xO (want_tt krf h16) krf ?_
          refine xR 1 krf ?_
          refine xG krf krf (aop_idx (e := 26) (S := 1) (enc := enc_s_int) (l := r7) (k := .i64) (n := l9) (sv := .p (.sl 1 (List.map enc_s_int r7))) rfl krf krf krf krf krf) (fun x17 => ?_)
          refine xR 2 krf ?_
          refine xG krf krf (aop_idx (e := 3) (S := 1) (enc := ci) (l := x17) (k := .i64) (n := l12) (sv := .p (.sl 1 (List.map ci x17))) rfl krf krf krf krf krf) (fun x18 => ?_)
          refine xR 4 krf ?_
          refine xS (leI 0 x18) (fun h19 => ?_) (fun h19 => ?_)
          ·refine xO (want_tt krf h19) krf ?_
           refine xR 1 krf ?_
           refine xG krf krf (aop_idx (e := 26) (S := 1) (enc := enc_s_int) (l := r7) (k := .i64) (n := l12) (sv := .p (.sl 1 (List.map enc_s_int r7))) rfl krf krf krf krf krf) (fun x20 => ?_)
           refine xR 2 krf ?_
           refine xG krf krf (aop_idx (e := 3) (S := 1) (enc := ci) (l := x20) (k := .i64) (n := wi (a2s.To - a2s.From)) (sv := .p (.sl 1 (List.map ci x20))) rfl krf krf krf krf krf) (fun x21 => ?_)
           refine xR 4 krf ?_
           refine xS (leI 0 x21) (fun h22 => ?_) (fun h22 => ?_)
           ·refine xO (want_tt krf h22) krf ?_
            refine xG krf krf (aop_idx (e := 26) (S := 1) (enc := enc_s_int) (l := r7) (k := .i64) (n := 0) (sv := .p (.sl 1 (List.map enc_s_int r7))) rfl krf krf krf krf krf) (fun x23 => ?_)
            refine xR 2 krf ?_
            refine xG krf krf (aop_idx (e := 3) (S := 1) (enc := ci) (l := x23) (k := .i64) (n := l9) (sv := .p (.sl 1 (List.map ci x23))) rfl krf krf krf krf krf) (fun x24 => ?_)
            refine xR 3 krf ?_
            refine xG krf krf (aop_idx (e := 26) (S := 1) (enc := enc_s_int) (l := r7) (k := .i64) (n := l9) (sv := .p (.sl 1 (List.map enc_s_int r7))) rfl krf krf krf krf krf) (fun x25 => ?_)
            refine xR 2 krf ?_
            refine xG krf krf (aop_idx (e := 3) (S := 1) (enc := ci) (l := x25) (k := .i64) (n := l12) (sv := .p (.sl 1 (List.map ci x25))) rfl krf krf krf krf krf) (fun x26 => ?_)
            refine xR 4 krf ?_
            refine xG krf krf (aop_idx (e := 26) (S := 1) (enc := enc_s_int) (l := r7) (k := .i64) (n := l12) (sv := .p (.sl 1 (List.map enc_s_int r7))) rfl krf krf krf krf krf) (fun x27 => ?_)
            refine xR 2 krf ?_
            refine xG krf krf (aop_idx (e := 3) (S := 1) (enc := ci) (l := x27) (k := .i64) (n := wi (a2s.To - a2s.From)) (sv := .p (.sl 1 (List.map ci x27))) rfl krf krf krf krf krf) (fun x28 => ?_)
            refine xR 5 krf ?_
            refine xs_endD krf ?_
            exact nq_n (ltI (wi ((wi (x24 + x26)) + x28)) r6.1) ⟨[3, 6, 11, 13, 14, 16, 17, 171], [6], [], []⟩ krf
           ·refine xN (want_tf krf h22) krf ?_
            refine xR 24 krf ?_
            refine xs_endD krf ?_
            exact nq_n false ⟨[3, 6, 11, 13, 14, 16, 17, 171], [6], [], []⟩ krf
          ·refine xN (want_tf krf h19) krf ?_
           refine xR 34 krf ?_
           refine xs_endD krf ?_
           exact nq_n false ⟨[3, 6, 11, 13, 14, 16, 17, 171], [6], [], []⟩ krf
         ·refine xN (want_tf krf h16) krf ?_
          refine xR 44 krf ?_
          refine xs_endD krf ?_
          exact nq_n false ⟨[3, 6, 11, 13, 14, 16, 17, 171], [6], [], []⟩ krf
        ·rintro j13
         refine sC j13 krf ?_ ?_
         ·refine sR tfm ⟨[8, 9, 10], [180], [], []⟩ ⟨[(8, .tsl 1 (List.map ci [wi (a2s.From + l9), wi (a2s.From + l12)]) 180), (9, B true), (10, I 0)], [(180, .arr 3 1 (List.map ci [wi (a2s.From + l9), wi (a2s.From + l12)]).length)]⟩ krf ?_
          refine sT ?_
          refine bq_r ?_
          refine sq_r ?_
          refine kq_r ?_
          refine bq_r ?_
          refine bq_r ?_
          refine sq_r ?_
          refine kq_r ?_
          refine bq_r ?_
          refine sq_r ?_
          exact qR (.agg [.sl 1, .id, .id]) krf krf krf
         ·refine sK ?_
          refine bq_n ?_
          refine sN ⟨[3, 6, 11, 13, 14, 16, 17], [6], [], []⟩ ⟨[(3, I a3most), (6, .ptr 6 0), (11, I r6.1), (13, .p (.sl 1 (List.map enc_s_int r7))), (14, I (wi (a2s.To - a2s.From))), (16, I l9), (17, I l12)], [(6, .box 31 (bxc (GSs.cs a2s)))]⟩ krf ?_
          refine sL tfm krf ?_
          exact kq_n (wi (l12 + 1)) ⟨[3, 6, 11, 13, 14, 16, 17], [6], [], []⟩ krf
       ·refine sim_exit ?_
        refine sq_x ?_
        refine kq_x ?_
        refine bq_hit ?_
        refine bq_n ?_
        refine sN ⟨[3, 6, 11, 13, 14, 16], [6], [], []⟩ ⟨[(3, I a3most), (6, .ptr 6 0), (11, I r6.1), (13, .p (.sl 1 (List.map enc_s_int r7))), (14, I (wi (a2s.To - a2s.From))), (16, I l9)], [(6, .box 31 (bxc (GSs.cs a2s)))]⟩ krf ?_
        refine sL tfm krf ?_
        exact kq_n (wi (l9 + 1)) ⟨[3, 6, 11, 13, 14, 16], [6], [], []⟩ krf
      ·refine sim_exit ?_
       refine sq_x ?_
       refine kq_x ?_
       refine bq_hit ?_
       refine sN ⟨[], [], [], []⟩ ⟨[], []⟩ krf ?_
       refine sR tfm ⟨[8, 9, 10], [], [], []⟩ ⟨[(8, .p (.val (.slice none 0 0))), (9, B false), (10, I 0)], []⟩ krf ?_
       refine sT ?_
       exact qR (.agg [.sl 1, .id, .id]) krf krf krf
    ·refine sR tfm ⟨[3, 6, 11, 13, 14, 15], [6], [], []⟩ ⟨[(3, I a3most), (6, .ptr 6 0), (11, I r6.1), (13, .p (.sl 1 (List.map enc_s_int r7))), (14, I (wi (a2s.To - a2s.From))), (15, I 1)], [(6, .box 31 (bxc (GSs.cs a2s)))]⟩ krf ?_
     refine sB ?_
     refine sim_loop (fun l29 => ⟨[(3, I a3most), (6, .ptr 6 0), (11, I r6.1), (13, .p (.sl 1 (List.map enc_s_int r7))), (14, I (wi (a2s.To - a2s.From))), (15, I l29)], [(6, .box 31 (bxc (GSs.cs a2s)))]⟩ : Int → St) (weak_shr (K := ⟨[3, 6, 11, 13, 14, 15], [6], [], []⟩) krf) ?_
     rintro recl29 l29
     show SimE (g_ref34_Find_l29 n a2s a3most r6 r7 recl29 l29) _ _ _ _ _ _
     unfold g_ref34_Find_l29
     refine sS ?_
     refine sR tfm ⟨[3, 6, 11, 13, 14, 15, 60], [6], [], []⟩ ⟨[(3, I a3most), (6, .ptr 6 0), (11, I r6.1), (13, .p (.sl 1 (List.map enc_s_int r7))), (14, I (wi (a2s.To - a2s.From))), (15, I l29), (60, B (ltI l29 (wi (a2s.To - a2s.From))))], [(6, .box 31 (bxc (GSs.cs a2s)))]⟩ krf ?_
     refine sC (ltI l29 (wi (a2s.To - a2s.From))) krf ?_ ?_
     ·refine sK ?_
      refine sN ⟨[3, 6, 11, 13, 14, 15], [6], [], []⟩ ⟨[(3, I a3most), (6, .ptr 6 0), (11, I r6.1), (13, .p (.sl 1 (List.map enc_s_int r7))), (14, I (wi (a2s.To - a2s.From))), (15, I l29)], [(6, .box 31 (bxc (GSs.cs a2s)))]⟩ krf ?_
      refine sS ?_
      refine sB ?_
      refine sim_bind (fun j30 => ⟨[(3, I a3most), (6, .ptr 6 0), (11, I r6.1), (13, .p (.sl 1 (List.map enc_s_int r7))), (14, I (wi (a2s.To - a2s.From))), (15, I l29), (97, B j30)], [(6, .box 31 (bxc (GSs.cs a2s)))]⟩ : Bool → St) ?_ ?_
      ·refine sim_drw tfm rfl ?_
       refine xR 1 krf ?_
       refine xG krf krf (aop_idx (e := 26) (S := 1) (enc := enc_s_int) (l := r7) (k := .i64) (n := 0) (sv := .p (.sl 1 (List.map enc_s_int r7))) rfl krf krf krf krf krf) (fun x31 => ?_)
       refine xR 2 krf ?_
       refine xG krf krf (aop_idx (e := 3) (S := 1) (enc := ci) (l := x31) (k := .i64) (n := l29) (sv := .p (.sl 1 (List.map ci x31))) rfl krf krf krf krf krf) (fun x32 => ?_)
       refine xR 3 krf ?_
       refine xS (leI 0 x32) (fun h33 => ?_) (fun h33 => ?_)
       ·refine xO (want_tt krf h33) krf ?_
        refine xR 1 krf ?_
        refine xG krf krf (aop_idx (e := 26) (S := 1) (enc := enc_s_int) (l := r7) (k := .i64) (n := l29) (sv := .p (.sl 1 (List.map enc_s_int r7))) rfl krf krf krf krf krf) (fun x34 => ?_)
        refine xR 2 krf ?_
        refine xG krf krf (aop_idx (e := 3) (S := 1) (enc := ci) (l := x34) (k := .i64) (n := wi (a2s.To - a2s.From)) (sv := .p (.sl 1 (List.map ci x34))) rfl krf krf krf krf krf) (fun x35 => ?_)
        refine xR 4 krf ?_
        refine xS (leI 0 x35) (fun h36 => ?_) (fun h36 => ?_)
        ·refine xO (want_tt krf h36) krf ?_
         refine xG krf krf (aop_idx (e := 26) (S := 1) (enc := enc_s_int) (l := r7) (k := .i64) (n := 0) (sv := .p (.sl 1 (List.map enc_s_int r7))) rfl krf krf krf krf krf) (fun x37 => ?_)
         refine xR 2 krf ?_
         refine xG krf krf (aop_idx (e := 3) (S := 1) (enc := ci) (l := x37) (k := .i64) (n := l29) (sv := .p (.sl 1 (List.map ci x37))) rfl krf krf krf krf krf) (fun x38 => ?_)
         refine xR 3 krf ?_
         refine xG krf krf (aop_idx (e := 26) (S := 1) (enc := enc_s_int) (l := r7) (k := .i64) (n := l29) (sv := .p (.sl 1 (List.map enc_s_int r7))) rfl krf krf krf krf krf) (fun x39 => ?_)
         refine xR 2 krf ?_
         refine xG krf krf (aop_idx (e := 3) (S := 1) (enc := ci) (l := x39) (k := .i64) (n := wi (a2s.To - a2s.From)) (sv := .p (.sl 1 (List.map ci x39))) rfl krf krf krf krf krf) (fun x40 => ?_)
         refine xR 5 krf ?_
         refine xs_endD krf ?_
         exact nq_n (ltI (wi (x38 + x40)) r6.1) ⟨[3, 6, 11, 13, 14, 15, 97], [6], [], []⟩ krf
        ·refine xN (want_tf krf h36) krf ?_
         refine xR 16 krf ?_
         refine xs_endD krf ?_
         exact nq_n false ⟨[3, 6, 11, 13, 14, 15, 97], [6], [], []⟩ krf
       ·refine xN (want_tf krf h33) krf ?_
        refine xR 26 krf ?_
        refine xs_endD krf ?_
        exact nq_n false ⟨[3, 6, 11, 13, 14, 15, 97], [6], [], []⟩ krf
      ·rintro j30
       refine sC j30 krf ?_ ?_
       ·refine sR tfm ⟨[8, 9, 10], [102], [], []⟩ ⟨[(8, .tsl 1 (List.map ci [wi (a2s.From + l29)]) 102), (9, B true), (10, I 0)], [(102, .arr 3 1 (List.map ci [wi (a2s.From + l29)]).length)]⟩ krf ?_
        refine sT ?_
        refine bq_r ?_
        refine sq_r ?_
        refine kq_r ?_
        refine bq_r ?_
        refine kq_r ?_
        exact qR (.agg [.sl 1, .id, .id]) krf krf krf
       ·refine sK ?_
        refine bq_n ?_
        refine sN ⟨[3, 6, 11, 13, 14, 15], [6], [], []⟩ ⟨[(3, I a3most), (6, .ptr 6 0), (11, I r6.1), (13, .p (.sl 1 (List.map enc_s_int r7))), (14, I (wi (a2s.To - a2s.From))), (15, I l29)], [(6, .box 31 (bxc (GSs.cs a2s)))]⟩ krf ?_
        refine sL tfm krf ?_
        exact kq_n (wi (l29 + 1)) ⟨[3, 6, 11, 13, 14, 15], [6], [], []⟩ krf
     ·refine sim_exit ?_
      refine sq_x ?_
      refine kq_x ?_
      refine bq_hit ?_
      exact kq_n (k := fun _ => g_ref34_Find_j8 n a2s a3most r6 r7) () ⟨[3, 6, 11, 13, 14], [6], [], []⟩ krf
def g_law34_LoopholeMatchesReference (n : Nat) (a0t : GTf) (a1c : GCl) (a2s : GSs) (a3cuts : List Int) (a4minute : Int) (a5most : Int) : Option Bool :=
 (g_law34_head n).bind fun r1 =>
 ((g_ref33_Few n a0t a1c a2s).bind fun r3 =>
 cond (!r3)
  (some true)
  (some (ltI 10 (lenI (List.map ci a3cuts))))).bind fun j2 =>
 cond j2
  (some r1)
  ((g_l_Split n a2s a4minute).bind fun r5 =>
  (g_ref34_Split n a2s a4minute).bind fun r6 =>
  (g_l_Price n a0t a1c a2s a3cuts).bind fun r7 =>
  (g_ref34_Price n a0t a1c a2s a3cuts).bind fun r8 =>
  (g_l_Find n a0t a1c a2s a5most).bind fun r9 =>
  (g_ref34_Find n a0t a1c a2s a5most).bind fun r10 =>
  (cond r1
   ((g_ref34_Same n r5.1 r6.1).bind fun r13 =>
   cond r13
    ((g_ref34_Same n r5.2.1 r6.2.1).bind fun r15 =>
    cond r15
     (cond (eqI r5.2.2 r6.2.2)
      (cond (eqI r7.1 r8.1)
       (cond (eqI r7.2 r8.2)
        ((g_ref34_Ints n r9.1 r10.1).bind fun r20 =>
        cond r20
         (cond (opq (r9.2.1 == r10.2.1))
          (some (eqI r9.2.2 r10.2.2))
          (some false))
         (some false))
        (some false))
       (some false))
      (some false))
     (some false))
    (some false))
   (some false)).bind fun j11 =>
  some j11)
theorem g_law34_LoopholeMatchesReference_ok (n : Nat) (a0t : GTf) (a1c : GCl) (a2s : GSs) (a3cuts : List Int) (a4minute : Int) (a5most : Int) : ∀ r, g_law34_LoopholeMatchesReference n a0t a1c a2s a3cuts a4minute a5most = some r → PCall Tryz.prog 3 [ag (GTf.cs a0t), ag (GCl.cs a1c), ag (GSs.cs a2s), .p (.sl 1 (List.map ci a3cuts)), I a4minute, I a5most] (.ret (B r)) := by
 refine pcall_sim (X := fun r : Bool => AEnd.ret (B r)) Tryz.func3 rfl Tryz.ntmps3 rfl ?_
 unfold g_law34_LoopholeMatchesReference
 refine sR tfm ⟨[3, 4, 5, 6, 7, 8], [6, 7, 8], [], []⟩ ⟨[(3, .p (.sl 1 (List.map ci a3cuts))), (4, I a4minute), (5, I a5most), (6, .ptr 6 0), (7, .ptr 7 0), (8, .ptr 8 0)], [(6, .box 24 (bxc (GTf.cs a0t))), (7, .box 28 (bxc (GCl.cs a1c))), (8, .box 31 (bxc (GSs.cs a2s)))]⟩ krf ?_
 refine sS ?_
 refine sG ?_
 refine xC [] krf (g_law34_head_ok n) krf krf (fun _ => by kernel_rfl) (fun r1 => ?_)
 refine xR 1 krf ?_
 refine xE ?_
 refine sN ⟨[3, 4, 5, 6, 7, 8, 13], [6, 7, 8], [], []⟩ ⟨[(3, .p (.sl 1 (List.map ci a3cuts))), (4, I a4minute), (5, I a5most), (6, .ptr 6 0), (7, .ptr 7 0), (8, .ptr 8 0), (13, B r1)], [(6, .box 24 (bxc (GTf.cs a0t))), (7, .box 28 (bxc (GCl.cs a1c))), (8, .box 31 (bxc (GSs.cs a2s)))]⟩ krf ?_
 refine sS ?_
 refine sim_bind (fun j2 => ⟨[(3, .p (.sl 1 (List.map ci a3cuts))), (4, I a4minute), (5, I a5most), (6, .ptr 6 0), (7, .ptr 7 0), (8, .ptr 8 0), (13, B r1), (40, B j2)], [(6, .box 24 (bxc (GTf.cs a0t))), (7, .box 28 (bxc (GCl.cs a1c))), (8, .box 31 (bxc (GSs.cs a2s)))]⟩ : Bool → St) ?_ ?_
 ·refine sG ?_
  refine xR 3 krf ?_
  refine xC [] krf (g_ref33_Few_ok n a0t a1c a2s) krf krf (fun _ => by kernel_rfl) (fun r3 => ?_)
  refine xR 2 krf ?_
  refine xS (!r3) (fun h4 => ?_) (fun h4 => ?_)
  ·refine xN (want_ft krf h4) krf ?_
   refine xR 3 krf ?_
   refine xE ?_
   exact nq_n true ⟨[3, 4, 5, 6, 7, 8, 13, 40], [6, 7, 8], [], []⟩ krf
  ·refine xO (want_ff krf h4) krf ?_
   refine xR 3 krf ?_
   refine xE ?_
   exact nq_n (ltI 10 (lenI (List.map ci a3cuts))) ⟨[3, 4, 5, 6, 7, 8, 13, 40], [6, 7, 8], [], []⟩ krf
 ·rintro j2
  refine sC j2 krf ?_ ?_
  ·refine sR tfm ⟨[12], [], [], []⟩ ⟨[(12, B r1)], []⟩ krf ?_
   refine sT ?_
   refine sq_r ?_
   exact qR (.id) krf krf krf
  ·refine sK ?_
   refine sN ⟨[3, 4, 5, 6, 7, 8, 13], [6, 7, 8], [], []⟩ ⟨[(3, .p (.sl 1 (List.map ci a3cuts))), (4, I a4minute), (5, I a5most), (6, .ptr 6 0), (7, .ptr 7 0), (8, .ptr 8 0), (13, B r1)], [(6, .box 24 (bxc (GTf.cs a0t))), (7, .box 28 (bxc (GCl.cs a1c))), (8, .box 31 (bxc (GSs.cs a2s)))]⟩ krf ?_
   refine sS ?_
   refine sG ?_
   refine xR 2 krf ?_
   refine xC [] krf (g_l_Split_ok n a2s a4minute) krf krf (fun _ => by kernel_rfl) (fun r5 => ?_)
   refine xR 9 krf ?_
   refine xE ?_
   refine sN ⟨[3, 4, 5, 6, 7, 8, 13, 14, 15, 16], [6, 7, 8, 14, 15], [], []⟩ ⟨[(3, .p (.sl 1 (List.map ci a3cuts))), (4, I a4minute), (5, I a5most), (6, .ptr 6 0), (7, .ptr 7 0), (8, .ptr 8 0), (13, B r1), (14, .ptr 14 0), (15, .ptr 15 0), (16, I r5.2.2)], [(6, .box 24 (bxc (GTf.cs a0t))), (7, .box 28 (bxc (GCl.cs a1c))), (8, .box 31 (bxc (GSs.cs a2s))), (14, .box 31 (bxc (GSs.cs r5.1))), (15, .box 31 (bxc (GSs.cs r5.2.1)))]⟩ krf ?_
   refine sS ?_
   refine sG ?_
   refine xR 2 krf ?_
   refine xC [] krf (g_ref34_Split_ok n a2s a4minute) krf krf (fun _ => by kernel_rfl) (fun r6 => ?_)
   refine xR 9 krf ?_
   refine xE ?_
   refine sN ⟨[3, 5, 6, 7, 8, 13, 14, 15, 16, 17, 18, 19], [6, 7, 8, 14, 15, 17, 18], [], []⟩ ⟨[(3, .p (.sl 1 (List.map ci a3cuts))), (5, I a5most), (6, .ptr 6 0), (7, .ptr 7 0), (8, .ptr 8 0), (13, B r1), (14, .ptr 14 0), (15, .ptr 15 0), (16, I r5.2.2), (17, .ptr 17 0), (18, .ptr 18 0), (19, I r6.2.2)], [(6, .box 24 (bxc (GTf.cs a0t))), (7, .box 28 (bxc (GCl.cs a1c))), (8, .box 31 (bxc (GSs.cs a2s))), (14, .box 31 (bxc (GSs.cs r5.1))), (15, .box 31 (bxc (GSs.cs r5.2.1))), (17, .box 31 (bxc (GSs.cs r6.1))), (18, .box 31 (bxc (GSs.cs r6.2.1)))]⟩ krf ?_
   refine sS ?_
   refine sG ?_
   refine xR 4 krf ?_
   refine xC [] krf (g_l_Price_ok n a0t a1c a2s a3cuts) krf krf (fun _ => by kernel_rfl) (fun r7 => ?_)
   refine xR 5 krf ?_
   refine xE ?_
   refine sN ⟨[3, 5, 6, 7, 8, 13, 14, 15, 16, 17, 18, 19, 20, 21], [6, 7, 8, 14, 15, 17, 18], [], []⟩ ⟨[(3, .p (.sl 1 (List.map ci a3cuts))), (5, I a5most), (6, .ptr 6 0), (7, .ptr 7 0), (8, .ptr 8 0), (13, B r1), (14, .ptr 14 0), (15, .ptr 15 0), (16, I r5.2.2), (17, .ptr 17 0), (18, .ptr 18 0), (19, I r6.2.2), (20, I r7.1), (21, I r7.2)], [(6, .box 24 (bxc (GTf.cs a0t))), (7, .box 28 (bxc (GCl.cs a1c))), (8, .box 31 (bxc (GSs.cs a2s))), (14, .box 31 (bxc (GSs.cs r5.1))), (15, .box 31 (bxc (GSs.cs r5.2.1))), (17, .box 31 (bxc (GSs.cs r6.1))), (18, .box 31 (bxc (GSs.cs r6.2.1)))]⟩ krf ?_
   refine sS ?_
   refine sG ?_
   refine xR 4 krf ?_
   refine xC [] krf (g_ref34_Price_ok n a0t a1c a2s a3cuts) krf krf (fun _ => by kernel_rfl) (fun r8 => ?_)
   refine xR 5 krf ?_
   refine xE ?_
   refine sN ⟨[5, 6, 7, 8, 13, 14, 15, 16, 17, 18, 19, 20, 21, 22, 23], [6, 7, 8, 14, 15, 17, 18], [], []⟩ ⟨[(5, I a5most), (6, .ptr 6 0), (7, .ptr 7 0), (8, .ptr 8 0), (13, B r1), (14, .ptr 14 0), (15, .ptr 15 0), (16, I r5.2.2), (17, .ptr 17 0), (18, .ptr 18 0), (19, I r6.2.2), (20, I r7.1), (21, I r7.2), (22, I r8.1), (23, I r8.2)], [(6, .box 24 (bxc (GTf.cs a0t))), (7, .box 28 (bxc (GCl.cs a1c))), (8, .box 31 (bxc (GSs.cs a2s))), (14, .box 31 (bxc (GSs.cs r5.1))), (15, .box 31 (bxc (GSs.cs r5.2.1))), (17, .box 31 (bxc (GSs.cs r6.1))), (18, .box 31 (bxc (GSs.cs r6.2.1)))]⟩ krf ?_
   refine sS ?_
   refine sG ?_
   refine xR 4 krf ?_
   refine xC [] krf (g_l_Find_ok n a0t a1c a2s a5most) krf krf (fun _ => by kernel_rfl) (fun r9 => ?_)
   refine xR 7 krf ?_
   refine xE ?_
   refine sN ⟨[5, 6, 7, 8, 13, 14, 15, 16, 17, 18, 19, 20, 21, 22, 23, 24, 25, 26], [6, 7, 8, 14, 15, 17, 18], [], []⟩ ⟨[(5, I a5most), (6, .ptr 6 0), (7, .ptr 7 0), (8, .ptr 8 0), (13, B r1), (14, .ptr 14 0), (15, .ptr 15 0), (16, I r5.2.2), (17, .ptr 17 0), (18, .ptr 18 0), (19, I r6.2.2), (20, I r7.1), (21, I r7.2), (22, I r8.1), (23, I r8.2), (24, .p (.sl 1 (List.map ci r9.1))), (25, B r9.2.1), (26, I r9.2.2)], [(6, .box 24 (bxc (GTf.cs a0t))), (7, .box 28 (bxc (GCl.cs a1c))), (8, .box 31 (bxc (GSs.cs a2s))), (14, .box 31 (bxc (GSs.cs r5.1))), (15, .box 31 (bxc (GSs.cs r5.2.1))), (17, .box 31 (bxc (GSs.cs r6.1))), (18, .box 31 (bxc (GSs.cs r6.2.1)))]⟩ krf ?_
   refine sS ?_
   refine sG ?_
   refine xR 4 krf ?_
   refine xC [] krf (g_ref34_Find_ok n a0t a1c a2s a5most) krf krf (fun _ => by kernel_rfl) (fun r10 => ?_)
   refine xR 7 krf ?_
   refine xE ?_
   refine sN ⟨[13, 14, 15, 16, 17, 18, 19, 20, 21, 22, 23, 24, 25, 26, 27, 28, 29], [14, 15, 17, 18], [], []⟩ ⟨[(13, B r1), (14, .ptr 14 0), (15, .ptr 15 0), (16, I r5.2.2), (17, .ptr 17 0), (18, .ptr 18 0), (19, I r6.2.2), (20, I r7.1), (21, I r7.2), (22, I r8.1), (23, I r8.2), (24, .p (.sl 1 (List.map ci r9.1))), (25, B r9.2.1), (26, I r9.2.2), (27, .p (.sl 1 (List.map ci r10.1))), (28, B r10.2.1), (29, I r10.2.2)], [(14, .box 31 (bxc (GSs.cs r5.1))), (15, .box 31 (bxc (GSs.cs r5.2.1))), (17, .box 31 (bxc (GSs.cs r6.1))), (18, .box 31 (bxc (GSs.cs r6.2.1)))]⟩ krf ?_
   refine sim_bind (fun j11 => ⟨[(12, B j11)], []⟩ : Bool → St) ?_ ?_
   ·refine sG ?_
    refine xR 2 krf ?_
    refine xS r1 (fun h12 => ?_) (fun h12 => ?_)
    ·refine xO (want_tt krf h12) krf ?_
     refine xR 1 krf ?_
     refine xC [] krf (g_ref34_Same_ok n r5.1 r6.1) krf krf (fun _ => by kernel_rfl) (fun r13 => ?_)
     refine xR 2 krf ?_
     refine xS r13 (fun h14 => ?_) (fun h14 => ?_)
     ·refine xO (want_tt krf h14) krf ?_
      refine xR 1 krf ?_
      refine xC [] krf (g_ref34_Same_ok n r5.2.1 r6.2.1) krf krf (fun _ => by kernel_rfl) (fun r15 => ?_)
      refine xR 2 krf ?_
      refine xS r15 (fun h16 => ?_) (fun h16 => ?_)
      ·refine xO (want_tt krf h16) krf ?_
       refine xR 4 krf ?_
       refine xS (eqI r5.2.2 r6.2.2) (fun h17 => ?_) (fun h17 => ?_)
       ·refine xO (want_tt krf h17) krf ?_
        refine xR 4 krf ?_
        refine xS (eqI r7.1 r8.1) (fun h18 => ?_) (fun h18 => ?_)
        ·refine xO (want_tt krf h18) krf ?_
         refine xR 4 krf ?_
         refine xS (eqI r7.2 r8.2) (fun h19 => ?_) (fun h19 => ?_)
         ·refine xO (want_tt krf h19) krf ?_
          refine xR 1 krf ?_
          refine xC [] krf (g_ref34_Ints_ok n r9.1 r10.1) krf krf (fun _ => by kernel_rfl) (fun r20 => ?_)
          refine xR 2 krf ?_
          refine xS r20 (fun h21 => ?_) (fun h21 => ?_)
          ·refine xO (want_tt krf h21) krf ?_
           refine xR 4 krf ?_
           refine xS (opq (r9.2.1 == r10.2.1)) (fun h22 => ?_) (fun h22 => ?_)
           ·refine xO (want_tt krf h22) krf ?_
            refine xR 4 krf ?_
            refine xE ?_
            exact nq_n (eqI r9.2.2 r10.2.2) ⟨[12], [], [], []⟩ krf
           ·refine xN (want_tf krf h22) krf ?_
            refine xR 4 krf ?_
            refine xE ?_
            exact nq_n false ⟨[12], [], [], []⟩ krf
          ·refine xN (want_tf krf h21) krf ?_
           refine xR 9 krf ?_
           refine xE ?_
           exact nq_n false ⟨[12], [], [], []⟩ krf
         ·refine xN (want_tf krf h19) krf ?_
          refine xR 14 krf ?_
          refine xE ?_
          exact nq_n false ⟨[12], [], [], []⟩ krf
        ·refine xN (want_tf krf h18) krf ?_
         refine xR 19 krf ?_
         refine xE ?_
         exact nq_n false ⟨[12], [], [], []⟩ krf
       ·refine xN (want_tf krf h17) krf ?_
        refine xR 24 krf ?_
        refine xE ?_
        exact nq_n false ⟨[12], [], [], []⟩ krf
      ·refine xN (want_tf krf h16) krf ?_
       refine xR 29 krf ?_
       refine xE ?_
       exact nq_n false ⟨[12], [], [], []⟩ krf
     ·refine xN (want_tf krf h14) krf ?_
      refine xR 34 krf ?_
      refine xE ?_
      exact nq_n false ⟨[12], [], [], []⟩ krf
    ·refine xN (want_tf krf h12) krf ?_
     refine xR 39 krf ?_
     refine xE ?_
     exact nq_n false ⟨[12], [], [], []⟩ krf
   ·rintro j11
    refine sT ?_
    exact qR (.id) krf krf krf
end Go.Proofs
namespace Go.Proofs
open Go Go.Abs
set_option maxRecDepth 100000
set_option linter.unusedVariables false
structure GQuoteQuoted where
 Tariff : GTf
 calendar : GCl
 from_ : Int
 to_ : Int
deriving DecidableEq
def GQuoteQuoted.cs (x : GQuoteQuoted) : List PV := [VS x.Tariff.Name, .sl 7 (List.map GAr.cs x.Tariff.Articles), VI x.calendar.Offset, .sl 2 (List.map GCh.cs x.calendar.Changes), .sl 1 (List.map ci x.calendar.Holidays), VI x.from_, VI x.to_]
structure GReading where
 Serial : Int
 Number : Int
 Minute : Int
 Register : Int
 Link : Int
deriving DecidableEq
def GReading.cs (x : GReading) : List PV := [VI x.Serial, VI x.Number, VI x.Minute, VI x.Register, VU x.Link]
structure GClaim where
 Tariff : GTf
 Calendar : GCl
 Readings : List GReading
 Seed : Int
 Session : GSs
 Bill : GBill
deriving DecidableEq
def GClaim.cs (x : GClaim) : List PV := [VS x.Tariff.Name, .sl 7 (List.map GAr.cs x.Tariff.Articles), VI x.Calendar.Offset, .sl 2 (List.map GCh.cs x.Calendar.Changes), .sl 1 (List.map ci x.Calendar.Holidays), .sl 5 (List.map GReading.cs x.Readings), VU x.Seed, VI x.Session.From, VI x.Session.To, VI x.Session.End, .sl 2 (List.map GSl.cs x.Session.Slices), .sl 2 (List.map GLine.cs x.Bill.Lines), VI x.Bill.Net, VI x.Bill.Tax, VI x.Bill.Total]
structure GAE where
 Claim : GClaim
 follows : GSs
 bill : GBill
 rate : Int
deriving DecidableEq
def GAE.cs (x : GAE) : List PV := [VS x.Claim.Tariff.Name, .sl 7 (List.map GAr.cs x.Claim.Tariff.Articles), VI x.Claim.Calendar.Offset, .sl 2 (List.map GCh.cs x.Claim.Calendar.Changes), .sl 1 (List.map ci x.Claim.Calendar.Holidays), .sl 5 (List.map GReading.cs x.Claim.Readings), VU x.Claim.Seed, VI x.Claim.Session.From, VI x.Claim.Session.To, VI x.Claim.Session.End, .sl 2 (List.map GSl.cs x.Claim.Session.Slices), .sl 2 (List.map GLine.cs x.Claim.Bill.Lines), VI x.Claim.Bill.Net, VI x.Claim.Bill.Tax, VI x.Claim.Bill.Total, VI x.follows.From, VI x.follows.To, VI x.follows.End, .sl 2 (List.map GSl.cs x.follows.Slices), .sl 2 (List.map GLine.cs x.bill.Lines), VI x.bill.Net, VI x.bill.Tax, VI x.bill.Total, VI x.rate]
def g_a_inside (n : Nat) (a0n : Int) (a1least : Int) (a2greatest : Int) : Option Bool :=
 cond (leI a1least a0n)
  (some (leI a0n a2greatest))
  (some false)
def g_a_isKey (n : Nat) (a0word : List UInt8) : Option Bool :=
 (cond (eqS a0word [102, 101, 101, 100, 101, 114])
  (some (eqS a0word [102, 101, 101, 100, 101, 114]))
  (cond (eqS a0word [99, 97, 98, 108, 101])
   (some (eqS a0word [99, 97, 98, 108, 101]))
   (cond (eqS a0word [111, 119, 110, 101, 114])
    (some (eqS a0word [111, 119, 110, 101, 114]))
    (cond (eqS a0word [99, 111, 110, 116, 114, 97, 99, 116])
     (some (eqS a0word [99, 111, 110, 116, 114, 97, 99, 116]))
     (cond (eqS a0word [99, 104, 97, 114, 103, 101, 114])
      (some (eqS a0word [99, 104, 97, 114, 103, 101, 114]))
      (cond (eqS a0word [98, 97, 121])
       (some (eqS a0word [98, 97, 121]))
       (some (eqS a0word [116, 97, 114, 105, 102, 102])))))))).bind fun j1 =>
 cond j1
  (some true)
  ((cond (eqS a0word [108, 105, 109, 105, 116])
   (some (eqS a0word [108, 105, 109, 105, 116]))
   (cond (eqS a0word [110, 101, 117, 116, 114, 97, 108])
    (some (eqS a0word [110, 101, 117, 116, 114, 97, 108]))
    (cond (eqS a0word [102, 117, 115, 101])
     (some (eqS a0word [102, 117, 115, 101]))
     (cond (eqS a0word [116, 104, 101, 114, 109, 97, 108])
      (some (eqS a0word [116, 104, 101, 114, 109, 97, 108]))
      (cond (eqS a0word [102, 114, 111, 109])
       (some (eqS a0word [102, 114, 111, 109]))
       (cond (eqS a0word [97, 116])
        (some (eqS a0word [97, 116]))
        (cond (eqS a0word [112, 104, 97, 115, 101, 115])
         (some (eqS a0word [112, 104, 97, 115, 101, 115]))
         (cond (eqS a0word [97, 109, 112, 115])
          (some (eqS a0word [97, 109, 112, 115]))
          (cond (eqS a0word [102, 97, 108, 108, 98, 97, 99, 107])
           (some (eqS a0word [102, 97, 108, 108, 98, 97, 99, 107]))
           (cond (eqS a0word [99, 97, 114, 100])
            (some (eqS a0word [99, 97, 114, 100]))
            (some (eqS a0word [114, 97, 110, 107])))))))))))).bind fun j2 =>
  cond j2
   (some true)
   ((cond (eqS a0word [115, 116, 97, 114, 116])
    (some (eqS a0word [115, 116, 97, 114, 116]))
    (cond (eqS a0word [101, 110, 101, 114, 103, 121])
     (some (eqS a0word [101, 110, 101, 114, 103, 121]))
     (cond (eqS a0word [116, 105, 109, 101])
      (some (eqS a0word [116, 105, 109, 101]))
      (cond (eqS a0word [105, 100, 108, 101])
       (some (eqS a0word [105, 100, 108, 101]))
       (cond (eqS a0word [99, 97, 112])
        (some (eqS a0word [99, 97, 112]))
        (some (eqS a0word [116, 97, 120]))))))).bind fun j3 =>
   cond j3
    (some true)
    ((cond (eqS a0word [111, 110])
     (some (eqS a0word [111, 110]))
     (cond (eqS a0word [119, 111, 114, 107])
      (some (eqS a0word [119, 111, 114, 107]))
      (cond (eqS a0word [115, 97, 116, 117, 114, 100, 97, 121])
       (some (eqS a0word [115, 97, 116, 117, 114, 100, 97, 121]))
       (cond (eqS a0word [115, 117, 110, 100, 97, 121])
        (some (eqS a0word [115, 117, 110, 100, 97, 121]))
        (cond (eqS a0word [98, 101, 116, 119, 101, 101, 110])
         (some (eqS a0word [98, 101, 116, 119, 101, 101, 110]))
         (cond (eqS a0word [112, 101, 114])
          (some (eqS a0word [112, 101, 114]))
          (some (eqS a0word [102, 114, 101, 101])))))))).bind fun j4 =>
    cond j4
     (some true)
     (some false))))
def g_a_validArticle (n : Nat) (a0a : GAr) : Option Bool :=
 ((g_a_inside n a0a.Kind 1 6).bind fun r2 =>
 cond (!r2)
  (some true)
  ((g_a_inside n a0a.Days 1 7).bind fun r4 =>
  some (!r4))).bind fun j1 =>
 cond j1
  (some false)
  (((g_a_inside n a0a.From 0 1439).bind fun r6 =>
  cond (!r6)
   (some true)
   (cond (leI a0a.To a0a.From)
    (some true)
    (some (ltI 1440 a0a.To)))).bind fun j5 =>
  cond j5
   (some false)
   ((cond (eqI a0a.From 0)
    (cond (eqI a0a.To 1440)
     (some (eqI a0a.Days 7))
     (some false))
    (some false)).bind fun j9 =>
   (cond (eqI a0a.Unit 0)
    (some (eqI a0a.Free 0))
    (some false)).bind fun j12 =>
   (g_a_inside n a0a.Price 0 1000000).bind fun r14 =>
   (cond (eqI a0a.Kind 3)
    (some (eqI a0a.Kind 3))
    (some (eqI a0a.Kind 4))).bind fun j15 =>
   cond j15
    ((cond r14
     ((g_a_inside n a0a.Unit 1 1440).bind fun r18 =>
     cond r18
      ((g_a_inside n a0a.Free 0 1440).bind fun r20 =>
      some r20)
      (some false))
     (some false)).bind fun j16 =>
    some j16)
    (cond (eqI a0a.Kind 5)
     ((cond r14
      (cond j12
       (some j9)
       (some false))
      (some false)).bind fun j21 =>
     some j21)
     (cond (eqI a0a.Kind 6)
      (((g_a_inside n a0a.Price 0 10000).bind fun r25 =>
      cond r25
       (cond j12
        (some j9)
        (some false))
       (some false)).bind fun j24 =>
      some j24)
      (cond r14
       (some j12)
       (some false))))))
end Go.Proofs
namespace Go.Proofs
open Go Go.Abs Go.ChangeShapes Go.WideShapes Go.ChangeAt Go.RowKit Go.Proofs.YtfkhnaogcahcoaaGreat
set_option maxRecDepth 100000
set_option linter.unusedVariables false
structure GAr.wf (x : GAr) : Prop where
 Kind : i64b x.Kind
 Days : i64b x.Days
 From : i64b x.From
 To : i64b x.To
 Price : i64b x.Price
 Unit : i64b x.Unit
 Free : i64b x.Free
theorem sh_GAr {d : Nat} {cs : List PV} (h : Sh Tryz.prog (d + 2) 45 cs) : ∃ r : GAr, cs = GAr.cs r ∧ GAr.wf r := by
 have h := sh_struct Tryz.underlying45 h
 obtain ⟨_, _, rfl, h0, _, _, rfl, h1, _, _, rfl, h2, _, _, rfl, h3, _, _, rfl, h4, _, _, rfl, h5, _, _, rfl, h6, rfl⟩ := h
 obtain ⟨x0, rfl, w0⟩ := sh_i64 Tryz.underlying3 h0
 obtain ⟨x1, rfl, w1⟩ := sh_i64 Tryz.underlying3 h1
 obtain ⟨x2, rfl, w2⟩ := sh_i64 Tryz.underlying3 h2
 obtain ⟨x3, rfl, w3⟩ := sh_i64 Tryz.underlying3 h3
 obtain ⟨x4, rfl, w4⟩ := sh_i64 Tryz.underlying3 h4
 obtain ⟨x5, rfl, w5⟩ := sh_i64 Tryz.underlying3 h5
 obtain ⟨x6, rfl, w6⟩ := sh_i64 Tryz.underlying3 h6
 exact ⟨⟨x0, x1, x2, x3, x4, x5, x6⟩, rfl, ⟨w0, w1, w2, w3, w4, w5, w6⟩⟩
structure GTf.wf (x : GTf) : Prop where
 Name : strb x.Name
 Articles : (listb GAr.wf) x.Articles
theorem sh_GTf {d : Nat} {cs : List PV} (h : Sh Tryz.prog (d + 4) 24 cs) : ∃ r : GTf, cs = GTf.cs r ∧ GTf.wf r := by
 have h := sh_struct Tryz.underlying24 h
 obtain ⟨_, _, rfl, h0, _, _, rfl, h1, rfl⟩ := h
 obtain ⟨x0, rfl, w0⟩ := sh_str Tryz.underlying9 h0
 obtain ⟨x1, rfl, w1⟩ := sh_list (S := 7) (f := GAr.cs) (W := GAr.wf) Tryz.underlying22 krf (fun c h => sh_GAr h) h1
 exact ⟨⟨x0, x1⟩, rfl, ⟨w0, w1⟩⟩
structure GCh.wf (x : GCh) : Prop where
 At : i64b x.At
 Offset : i64b x.Offset
theorem sh_GCh {d : Nat} {cs : List PV} (h : Sh Tryz.prog (d + 2) 81 cs) : ∃ r : GCh, cs = GCh.cs r ∧ GCh.wf r := by
 have h := sh_struct Tryz.underlying81 h
 obtain ⟨_, _, rfl, h0, _, _, rfl, h1, rfl⟩ := h
 obtain ⟨x0, rfl, w0⟩ := sh_i64 Tryz.underlying3 h0
 obtain ⟨x1, rfl, w1⟩ := sh_i64 Tryz.underlying3 h1
 exact ⟨⟨x0, x1⟩, rfl, ⟨w0, w1⟩⟩
structure GCl.wf (x : GCl) : Prop where
 Offset : i64b x.Offset
 Changes : (listb GCh.wf) x.Changes
 Holidays : (listb i64b) x.Holidays
theorem sh_GCl {d : Nat} {cs : List PV} (h : Sh Tryz.prog (d + 4) 28 cs) : ∃ r : GCl, cs = GCl.cs r ∧ GCl.wf r := by
 have h := sh_struct Tryz.underlying28 h
 obtain ⟨_, _, rfl, h0, _, _, rfl, h1, _, _, rfl, h2, rfl⟩ := h
 obtain ⟨x0, rfl, w0⟩ := sh_i64 Tryz.underlying3 h0
 obtain ⟨x1, rfl, w1⟩ := sh_list (S := 2) (f := GCh.cs) (W := GCh.wf) Tryz.underlying25 krf (fun c h => sh_GCh h) h1
 obtain ⟨x2, rfl, w2⟩ := sh_list (S := 1) (f := ci) (W := i64b) Tryz.underlying26 krf (fun c h => sh_i64 Tryz.underlying3 h) h2
 exact ⟨⟨x0, x1, x2⟩, rfl, ⟨w0, w1, w2⟩⟩
structure GSl.wf (x : GSl) : Prop where
 Minute : i64b x.Minute
 Energy : i64b x.Energy
theorem sh_GSl {d : Nat} {cs : List PV} (h : Sh Tryz.prog (d + 2) 48 cs) : ∃ r : GSl, cs = GSl.cs r ∧ GSl.wf r := by
 have h := sh_struct Tryz.underlying48 h
 obtain ⟨_, _, rfl, h0, _, _, rfl, h1, rfl⟩ := h
 obtain ⟨x0, rfl, w0⟩ := sh_i64 Tryz.underlying3 h0
 obtain ⟨x1, rfl, w1⟩ := sh_i64 Tryz.underlying3 h1
 exact ⟨⟨x0, x1⟩, rfl, ⟨w0, w1⟩⟩
structure GSs.wf (x : GSs) : Prop where
 From : i64b x.From
 To : i64b x.To
 End : i64b x.End
 Slices : (listb GSl.wf) x.Slices
theorem sh_GSs {d : Nat} {cs : List PV} (h : Sh Tryz.prog (d + 4) 31 cs) : ∃ r : GSs, cs = GSs.cs r ∧ GSs.wf r := by
 have h := sh_struct Tryz.underlying31 h
 obtain ⟨_, _, rfl, h0, _, _, rfl, h1, _, _, rfl, h2, _, _, rfl, h3, rfl⟩ := h
 obtain ⟨x0, rfl, w0⟩ := sh_i64 Tryz.underlying3 h0
 obtain ⟨x1, rfl, w1⟩ := sh_i64 Tryz.underlying3 h1
 obtain ⟨x2, rfl, w2⟩ := sh_i64 Tryz.underlying3 h2
 obtain ⟨x3, rfl, w3⟩ := sh_list (S := 2) (f := GSl.cs) (W := GSl.wf) Tryz.underlying29 krf (fun c h => sh_GSl h) h3
 exact ⟨⟨x0, x1, x2, x3⟩, rfl, ⟨w0, w1, w2, w3⟩⟩
def LoopholeMatchesReferencePlain : Prop := ∀ (a0 : GTf) (a1 : GCl) (a2 : GSs) (a3 : List Int) (a4 : Int) (a5 : Int), GTf.wf a0 → GCl.wf a1 → GSs.wf a2 → (listb i64b) a3 → i64b a4 → i64b a5 → ∃ n, g_law34_LoopholeMatchesReference n a0 a1 a2 a3 a4 a5 = some true
theorem loopholeMatchesReference_call (h : LoopholeMatchesReferencePlain) : ∀ xs, ArgsSh Tryz.prog 9 Tryz.f3.params.toList xs → PCall Tryz.prog 3 xs (.ret (.p (.val (.bool true)))) := by
 intro xs ha
 rw [Tryz.params3] at ha
 obtain ⟨_, _, rfl, h0, _, _, rfl, h1, _, _, rfl, h2, _, _, rfl, h3, _, _, rfl, h4, _, _, rfl, h5, rfl⟩ := ha
 obtain ⟨a0, rfl, w0⟩ := sh_GTf h0
 obtain ⟨a1, rfl, w1⟩ := sh_GCl h1
 obtain ⟨a2, rfl, w2⟩ := sh_GSs h2
 obtain ⟨a3, rfl, w3⟩ := sh_list (S := 1) (f := ci) (W := i64b) Tryz.underlying26 krf (fun c h => sh_i64 Tryz.underlying3 h) h3
 obtain ⟨a4, rfl, w4⟩ := sh_i64 Tryz.underlying3 h4
 obtain ⟨a5, rfl, w5⟩ := sh_i64 Tryz.underlying3 h5
 obtain ⟨n, hn⟩ := h a0 a1 a2 a3 a4 a5 w0 w1 w2 w3 w4 w5
 simp only [avOf_struct Tryz.underlying24, avOf_struct Tryz.underlying28, avOf_struct Tryz.underlying31, avOf_slice Tryz.underlying26, avOf_int Tryz.underlying3]
 exact g_law34_LoopholeMatchesReference_ok n a0 a1 a2 a3 a4 a5 true hn
set_option maxRecDepth 100000 in
theorem loopholeMatchesReference_lifted (h : LoopholeMatchesReferencePlain) (os : Os) (started : os.Started) (H : Type) (enc : TypeId × Value → H) :
  ReturnsInHanded {} Tryz.checked os 3 .any (Rows.loopholeMatchesReferenceSpec.pre6 enc Tryz.prog Tryz.f3 Rows.loopholeMatchesReferenceRow.domain false) (Rows.loopholeMatchesReferenceSpec.post enc Tryz.prog Tryz.f3 false true false false) := by
 refine returnsInHanded_of_change (C := Tryz.checked) krf started krf Tryz.func3
  (ChangeSpec.witness6 (enc := enc) (C := Tryz.checked) false ⟨#[], #[.agg #[.string ⟨#[]⟩, .slice none 0 0], .agg #[.int .i64 0, .slice none 0 0, .slice none 0 0], .agg #[.int .i64 0, .int .i64 0, .int .i64 0, .slice none 0 0], .slice none 0 0, .int .i64 0, .int .i64 0], []⟩ 8 krf krf krf krf) ?_
 intro W base args ds gs before hval hW _ _
 exact law_contract (P := Tryz.prog) (f := 3) (fn := Tryz.f3) (s := Rows.loopholeMatchesReferenceSpec) (tb := 4) (d := 9) krf krf krf krf Tryz.underlying4 rfl
  (fun ds hd => by
   have hd : ds.length = 6 := by rw [hd, show Tryz.f3.params.size = 6 from by kernel_rfl]
   match ds, hd with
   | [d0, d1, d2, d3, d4, d5], _ => rfl)
  (loopholeMatchesReference_call h) hval hW
theorem loopholeMatchesReference_said (h : LoopholeMatchesReferencePlain) : Rows.LoopholeMatchesReferenceSaid :=
 OpenClaim.holds_of_wide 3 Tryz.f3 rfl rfl rfl rfl rfl rfl rfl ⟨rfl, rfl, rfl, rfl, rfl⟩ rfl rfl rfl rfl rfl krf Tryz.func3 krf
  (of_decide_eq_true krf) (by unfold Func.isWrapper; first | (rw [if_pos (by decide +kernel)]; kernel_rfl) | (rw [if_neg (by decide +kernel)]; exact ⟨rfl, rfl⟩))
  (fun os started H enc _ => loopholeMatchesReference_lifted h os started H enc)
end Go.Proofs
namespace Go.Proofs
open Go Go.Abs
set_option maxRecDepth 100000
set_option linter.unusedVariables false
def Does {α : Type} (m : Option α) (Q : α → Prop) : Prop := ∃ r, m = some r ∧ Q r
section
variable {α β V R E : Type}
theorem does_some {x : α} {Q : α → Prop} (h : Q x) : Does (some x) Q := ⟨x, rfl, h⟩
theorem does_mono {m : Option α} {Q Q' : α → Prop} (h : Does m Q) (hq : ∀ x, Q x → Q' x) : Does m Q' := by obtain ⟨x, e, h⟩ := h; exact ⟨x, e, hq x h⟩
theorem does_cond {b : Bool} {x y : Option α} {Q : α → Prop} (h1 : b = true → Does x Q) (h2 : b = false → Does y Q) : Does (cond b x y) Q := by
 cases b
 ·exact h2 rfl
 ·exact h1 rfl
theorem does_loop {B : (V → Option R) → V → Option R} {Q : V → R → Prop} (μ : V → Nat) (Inv : V → Prop)
  (hB : ∀ rec v, Inv v → (∀ v', Inv v' → μ v' < μ v → Does (rec v') (Q v')) → Does (B rec v) (Q v)) : ∀ {n : Nat} {v : V}, Inv v → μ v < n → Does (loopN B n v) (Q v)
 | 0, _, _, h => absurd h (Nat.not_lt_zero _)
 | n + 1, v, hv, h => hB _ v hv (fun v' h1 h2 => does_loop μ Inv hB h1 (by omega))
end
theorem getI_nat {α : Type} {l : List α} {i : Nat} : getI l (i : Int) = l[i]? := by
 unfold getI; rw [if_neg (by omega)]; simp
theorem wi_id {x : Int} (h1 : -9223372036854775808 ≤ x) (h2 : x ≤ 9223372036854775807) : wi x = x := by
 simp [wi, IntKind.wrap, IntKind.signed, IntKind.bits]; omega
theorem a_inside (n : Nat) (x a b : Int) : g_a_inside n x a b = some (decide (a ≤ x ∧ x ≤ b)) := by
 unfold g_a_inside leI
 by_cases h : a ≤ x <;> simp [h]
def needE (b : Bool) (p : Int) : Except Int Unit := if b then .ok () else .error p
def folB (a r : GReading) : Bool := if r.Serial = a.Serial then decide (a.Minute ≤ r.Minute ∧ a.Register ≤ r.Register) else decide (r.Minute = a.Minute)
def mixB (s x k : Int) : Int := wu ((bXor .u64 s (bAnd .u64 (shrI .u64 (wu x) k) 255)) * 1099511628211)
def mixW (s x : Int) : Int := [56, 48, 40, 32, 24, 16, 8, 0].foldl (fun s k => mixB s x k) s
def linkF (s : Int) (r : GReading) : Int := [r.Serial, r.Number, r.Minute, r.Register].foldl mixW s
theorem exc_need {R : Type} {k : Unit → Option R} {e : Int → Option R} {b : Bool} {p : Int} : exc k e (needE b p) = cond b (k ()) (e p) := by cases b <;> rfl
def prevLink (seed : Int) (l : List GReading) (i : Nat) : Int := if i = 0 then seed else ((l[i - 1]?).map (·.Link)).getD 0
def chainAt (seed : Int) (l : List GReading) (i : Nat) : Prop := ∀ r ∈ l[i]?, (1 ≤ r.Serial ∧ r.Serial ≤ 1000000) ∧ r.Number = i + 1 ∧ (0 ≤ r.Minute ∧ r.Minute ≤ 52560000) ∧ (0 ≤ r.Register ∧ r.Register ≤ 1000000000) ∧
 (i ≠ 0 → ∀ a ∈ l[i - 1]?, folB a r = true) ∧ r.Link = linkF (prevLink seed l i) r
def chainOk (seed : Int) (l : List GReading) : Prop := (1 ≤ l.length ∧ l.length ≤ 64) ∧ ∀ i, i < l.length → chainAt seed l i
end Go.Proofs
namespace Go.Proofs
open Go Go.Abs
set_option maxRecDepth 100000
set_option linter.unusedVariables false
theorem eqI_d (x y : Int) : eqI x y = decide (x = y) := by unfold eqI; by_cases h : x = y <;> simp [h]
theorem cond_some {α : Type} {b : Bool} {x y : α} : cond b (some x) (some y) = some (cond b x y) := by cases b <;> rfl
def keyB (w : List UInt8) : Bool := (g_a_isKey 0 w).getD false
def artB (a : GAr) : Bool := (g_a_validArticle 0 a).getD false
def chrB (x : UInt8) : Bool := decide ((97 ≤ b2i x ∧ b2i x ≤ 122) ∨ (48 ≤ b2i x ∧ b2i x ≤ 57) ∨ b2i x = 95)
def nameB (s : List UInt8) : Bool := decide (1 ≤ s.length ∧ s.length ≤ 12) && decide (∀ x ∈ s.head?, 97 ≤ b2i x ∧ b2i x ≤ 122) && !keyB s && s.all chrB
theorem loop_list {α R : Type} {l : List α} {B : (Int → Option R) → Int → Option R} {F : List α → R} (hlen : l.length ≤ 4611686018427387904)
  (hend : ∀ rec, B rec (l.length : Int) = some (F []))
  (hstep : ∀ (rec : Int → Option R) (i : Nat) (x : α) (r : List α), l.drop i = x :: r → l[i]? = some x → i < l.length → wi ((i : Int) + 1) = ((i + 1 : Nat) : Int) → (rec ((i + 1 : Nat) : Int) = some (F r)) → B rec (i : Int) = some (F (x :: r))) :
  ∀ {n : Nat} (i : Nat), i ≤ l.length → l.length - i < n → loopN B n (i : Int) = some (F (l.drop i))
 | 0, _, _, h => absurd h (Nat.not_lt_zero _)
 | n + 1, i, hi, h => by
  unfold loopN
  by_cases he : i = l.length
  ·subst he; rw [hend]; simp
  ·have hlt : i < l.length := by omega
   have hd : l.drop i = l[i] :: l.drop (i + 1) := by rw [List.drop_eq_getElem_cons hlt]
   rw [hd]
   exact hstep _ i _ _ hd (by simp [hlt]) hlt (by rw [wi_id] <;> omega) (loop_list hlen hend hstep (i + 1) (by omega) (by omega))
theorem chr_lem (c : Int) : (bif decide (97 ≤ c) then bif decide (c ≤ 122) then false else bif decide (48 ≤ c) then bif decide (c ≤ 57) then false else !(c == 95) else !(c == 95)
  else bif decide (48 ≤ c) then bif decide (c ≤ 57) then false else !(c == 95) else !(c == 95)) = !decide ((97 ≤ c ∧ c ≤ 122) ∨ (48 ≤ c ∧ c ≤ 57) ∨ c = 95) := by
 by_cases h1 : 97 ≤ c <;> by_cases h2 : c ≤ 122 <;> by_cases h3 : 48 ≤ c <;> by_cases h4 : c ≤ 57 <;> by_cases h5 : c = 95 <;> simp [h1, h2, h3, h4, h5] <;> omega
theorem loop_acc {α R A : Type} {l : List α} {B : (A × Int → Option R) → A × Int → Option R} {F : A → List α → R} (hlen : l.length ≤ 4611686018427387904)
  (hend : ∀ rec a, B rec (a, (l.length : Int)) = some (F a []))
  (hstep : ∀ (rec : A × Int → Option R) (a : A) (i : Nat) (x : α) (r : List α), l.drop i = x :: r → l[i]? = some x → i < l.length → wi ((i : Int) + 1) = ((i + 1 : Nat) : Int) → (∀ a, rec (a, ((i + 1 : Nat) : Int)) = some (F a r)) → B rec (a, (i : Int)) = some (F a (x :: r))) :
  ∀ {n : Nat} (i : Nat) (a : A), i ≤ l.length → l.length - i < n → loopN B n (a, (i : Int)) = some (F a (l.drop i))
 | 0, _, _, _, h => absurd h (Nat.not_lt_zero _)
 | n + 1, i, a, hi, h => by
  unfold loopN
  by_cases he : i = l.length
  ·subst he; rw [hend]; simp
  ·have hlt : i < l.length := by omega
   have hd : l.drop i = l[i] :: l.drop (i + 1) := by rw [List.drop_eq_getElem_cons hlt]
   rw [hd]
   exact hstep _ a i _ _ hd (by simp [hlt]) hlt (by rw [wi_id] <;> omega) (fun a => loop_acc hlen hend hstep (i + 1) a (by omega) (by omega))
def holB : Int → List Int → Bool
 | _, [] => true
 | a, x :: r => decide (a < x ∧ x ≤ 36500) && holB x r
def chgB : Int → List GCh → Bool
 | _, [] => true
 | a, x :: r => decide (a < x.At ∧ x.At ≤ 52560000 ∧ -1440 ≤ x.Offset ∧ x.Offset ≤ 1440) && chgB x.At r
def calB (c : GCl) : Bool := decide (-1440 ≤ c.Offset ∧ c.Offset ≤ 1440) && decide (c.Changes.length ≤ 16) && decide (c.Holidays.length ≤ 32) && chgB (-1) c.Changes && holB (-1) c.Holidays
theorem loop_gen {α R A V : Type} {l : List α} (S : A → Int → V) {B : (V → Option R) → V → Option R} {F : A → List α → R} (Inv : Nat → A → Prop) (hlen : l.length ≤ 4611686018427387904)
  (hend : ∀ rec a, Inv l.length a → B rec (S a (l.length : Int)) = some (F a []))
  (hstep : ∀ (rec : V → Option R) (a : A) (i : Nat) (x : α) (r : List α), Inv i a → l.drop i = x :: r → l[i]? = some x → i < l.length → wi ((i : Int) + 1) = ((i + 1 : Nat) : Int) → (∀ a, Inv (i + 1) a → rec (S a ((i + 1 : Nat) : Int)) = some (F a r)) → B rec (S a (i : Int)) = some (F a (x :: r))) :
  ∀ {n : Nat} (i : Nat) (a : A), Inv i a → i ≤ l.length → l.length - i < n → loopN B n (S a (i : Int)) = some (F a (l.drop i))
 | 0, _, _, _, _, h => absurd h (Nat.not_lt_zero _)
 | n + 1, i, a, ha, hi, h => by
  unfold loopN
  by_cases he : i = l.length
  ·subst he; rw [hend _ _ ha]; simp
  ·have hlt : i < l.length := by omega
   have hd : l.drop i = l[i] :: l.drop (i + 1) := by rw [List.drop_eq_getElem_cons hlt]
   rw [hd]
   exact hstep _ a i _ _ ha hd (by simp [hlt]) hlt (by rw [wi_id] <;> omega) (fun a ha => loop_gen S Inv hlen hend hstep (i + 1) a ha (by omega) (by omega))
def tarB : Int → List GAr → Bool
 | k, [] => decide (k ≤ 1)
 | k, a :: r => artB a && tarB (if a.Kind = 6 then k + 1 else k) r
def rateF : Int → List GAr → Int
 | z, [] => z
 | z, a :: r => rateF (if a.Kind = 6 then a.Price else z) r
def tariffB (t : GTf) : Bool := nameB t.Name && decide (t.Articles.length ≤ 12) && tarB 0 t.Articles
end Go.Proofs
namespace Go.Proofs
open Go Go.Abs
set_option maxRecDepth 100000
set_option linter.unusedVariables false
def offF (m : Int) : Int → List GCh → Int
 | o, [] => o
 | o, x :: r => offF m (if x.At ≤ m then x.Offset else o) r
def wkF (d : Int) : Int := if Int.tmod (wi (d + 7)) 7 = 5 then 1 else if Int.tmod (wi (d + 7)) 7 = 6 then 2 else 0
def typF (d : Int) : List Int → Int
 | [] => wkF d
 | x :: r => if x = d then 2 else typF d r
theorem typF_range (d : Int) : ∀ l, 0 ≤ typF d l ∧ typF d l ≤ 2
 | [] => by
  unfold typF wkF
  split
  ·omega
  ·split <;> omega
 | x :: r => by
  have := typF_range d r
  unfold typF; split <;> omega
def appB (c : GCl) (a : GAr) (m : Int) : Bool :=
 let w := wi (wi (m + offF m c.Offset c.Changes) + 1440)
 decide (a.From ≤ Int.tmod w 1440) && decide (Int.tmod w 1440 < a.To) && !decide (bAnd .i64 a.Days (shlI .i64 1 (typF (wi (wi (Int.tdiv w 1440) - 1)) c.Holidays)) = 0)
def cntF (c : GCl) (a : GAr) : Nat → Int → Int → Int
 | 0, _, z => z
 | k + 1, m, z => cntF c a k (m + 1) (if appB c a m then wi (z + 1) else z)
def staF (c : GCl) (a : GAr) (f t : Int) : Int :=
 wi (a.Price * wi (Int.tdiv (wi (wi (maxI 0 (cntF c a (t - f).toNat f (wi (0 - a.Free))) + a.Unit) - 1)) a.Unit))
def eneF (c : GCl) (a : GAr) : Int → List GSl → Int
 | z, [] => z
 | z, x :: r => eneF c a (if appB c a x.Minute then wi (z + x.Energy) else z) r
def cosF (c : GCl) (s : GSs) (a : GAr) : Int :=
 if a.Kind = 1 then (if appB c a s.From then a.Price else 0)
 else if a.Kind = 2 then wi (Int.tdiv (wi (wi (wi (2 * a.Price) * eneF c a 0 s.Slices) + 1000)) 2000)
 else if a.Kind = 3 then staF c a s.From s.To
 else if a.Kind = 4 then staF c a s.End s.To
 else 0
end Go.Proofs
namespace Go.Proofs
open Go Go.Abs
set_option maxRecDepth 100000
set_option linter.unusedVariables false
theorem loop_does {α R A V : Type} {l : List α} (S : A → Int → V) {B : (V → Option R) → V → Option R} {Q : A → List α → R → Prop} (Inv : Nat → A → Prop) (hlen : l.length ≤ 4611686018427387904)
  (hend : ∀ rec a, Inv l.length a → Does (B rec (S a (l.length : Int))) (Q a []))
  (hstep : ∀ (rec : V → Option R) (a : A) (i : Nat) (x : α) (r : List α), Inv i a → l.drop i = x :: r → l[i]? = some x → i < l.length → wi ((i : Int) + 1) = ((i + 1 : Nat) : Int) → (∀ a, Inv (i + 1) a → Does (rec (S a ((i + 1 : Nat) : Int))) (Q a r)) → Does (B rec (S a (i : Int))) (Q a (x :: r))) :
  ∀ {n : Nat} (i : Nat) (a : A), Inv i a → i ≤ l.length → l.length - i < n → Does (loopN B n (S a (i : Int))) (Q a (l.drop i))
 | 0, _, _, _, _, h => absurd h (Nat.not_lt_zero _)
 | n + 1, i, a, ha, hi, h => by
  unfold loopN
  by_cases he : i = l.length
  ·subst he; simpa using hend _ _ ha
  ·have hlt : i < l.length := by omega
   have hd : l.drop i = l[i] :: l.drop (i + 1) := by rw [List.drop_eq_getElem_cons hlt]
   rw [hd]
   exact hstep _ a i _ _ ha hd (by simp [hlt]) hlt (by rw [wi_id] <;> omega) (fun a ha => loop_does S Inv hlen hend hstep (i + 1) a ha (by omega) (by omega))
def linF (c : GCl) (s : GSs) : Nat → List GAr → List GLine
 | _, [] => []
 | i, a :: r => if a.Kind = 5 ∨ a.Kind = 6 then linF c s (i + 1) r else ⟨i, cosF c s a⟩ :: linF c s (i + 1) r
def linB (l : List GLine) : Bool := l.all (fun x => decide (x.Amount ≤ 1000000000))
def sumF : Int → List GLine → Int
 | z, [] => z
 | z, x :: r => sumF (wi (z + x.Amount)) r
def capF : Int → List GAr → Int
 | z, [] => z
 | z, a :: r => capF (if a.Kind = 5 then minI z a.Price else z) r
def taxF (net rate : Int) : Int := wi (Int.tdiv (wi (wi (wi (2 * net) * rate) + 10000)) 20000)
def netF (t : GTf) (z : Int) (l : List GLine) : Int := capF (sumF z l) t.Articles
def bilF (t : GTf) (rate z : Int) (l : List GLine) : GBill := ⟨l, netF t z l, taxF (netF t z l) rate, wi (netF t z l + taxF (netF t z l) rate)⟩
def bilB (b : GBill) : Bool := decide (b.Net ≤ 1000000000) && decide (b.Total ≤ 1000000000)
end Go.Proofs
namespace Go.Proofs
open Go Go.Abs
set_option maxRecDepth 100000
set_option linter.unusedVariables false
theorem tarB_all : ∀ {l : List GAr} {k : Int}, tarB k l = true → ∀ a ∈ l, artB a = true
 | [], _, _, a, ha => by cases ha
 | x :: r, k, h, a, ha => by
  simp only [tarB, bae] at h
  rcases List.mem_cons.1 ha with rfl | ha
  ·exact h.1
  ·exact tarB_all h.2 a ha
end Go.Proofs
namespace Go.Proofs
open Go Go.Abs
set_option maxRecDepth 100000
set_option linter.unusedVariables false
theorem r_in (n : Nat) (l : List (List UInt8)) (s : List UInt8) (hn : 1000 ≤ n) (hl : l.length ≤ 900) : Does (g_ref02_In n l s) (fun r => leI 0 r = l.contains s) := by
 unfold g_ref02_In
 have := loop_does (l := l) (fun (_ : Unit) i => i) (B := fun recl1 l1 => g_ref02_In_l1 l s recl1 l1) (Q := fun _ r x => leI 0 x = r.contains s) (fun _ _ => True) (by omega) ?_ ?_ (n := n) 0 () trivial (by omega) (by omega)
 ·exact this
 ·intro rec a _
  simp only [g_ref02_In_l1, lenI, List.length_map, ltI]
  rw [dzF (by omega), cond_false]
  exact does_some rfl
 ·intro rec a i x r _ hd hx hi hw hr
  simp only [g_ref02_In_l1, lenI, List.length_map, ltI, getI_nat, hx, obs, eqS]
  rw [dzT (by omega), cond_true]
  by_cases h : x = s
  ·subst h
   rw [beq_self_eq_true, cond_true]
   refine does_some ?_
   simp [leI]
  ·rw [show (x == s) = false from by simpa using h, cond_false, hw]
   refine does_mono (hr () trivial) (fun y hy => ?_)
   rw [hy, List.contains_cons, show (s == x) = false from by simpa using fun e => h e.symm, Bool.false_or]
def keyL : List (List UInt8) := ((g_ref02_Kinds 0).getD []) ++ (((g_ref02_Attrs 0).getD []) ++ (((g_ref02_Articles 0).getD []) ++ ((g_ref02_Words 0).getD [])))
theorem cse (b c : Bool) : (bif b then b else c) = (b || c) := by cases b <;> rfl
theorem cst (b c : Bool) : (bif b then true else c) = (b || c) := by cases b <;> rfl
def keyA : List (List UInt8) := [[102, 101, 101, 100, 101, 114], [99, 97, 98, 108, 101], [111, 119, 110, 101, 114], [99, 111, 110, 116, 114, 97, 99, 116], [99, 104, 97, 114, 103, 101, 114], [98, 97, 121], [116, 97, 114, 105, 102, 102], [108, 105, 109, 105, 116], [110, 101, 117, 116, 114, 97, 108], [102, 117, 115, 101], [116, 104, 101, 114, 109, 97, 108], [102, 114, 111, 109], [97, 116], [112, 104, 97, 115, 101, 115], [97, 109, 112, 115], [102, 97, 108, 108, 98, 97, 99, 107], [99, 97, 114, 100], [114, 97, 110, 107], [115, 116, 97, 114, 116], [101, 110, 101, 114, 103, 121], [116, 105, 109, 101], [105, 100, 108, 101], [99, 97, 112], [116, 97, 120], [111, 110], [119, 111, 114, 107], [115, 97, 116, 117, 114, 100, 97, 121], [115, 117, 110, 100, 97, 121], [98, 101, 116, 119, 101, 101, 110], [112, 101, 114], [102, 114, 101, 101]]
theorem keyB_any (s : List UInt8) : keyB s = keyA.contains s := by
 unfold keyB g_a_isKey keyA
 simp only [cond_some, obs, Option.getD_some, cse, cst, eqS, List.contains_cons, List.contains_nil, Bool.or_assoc, Bool.or_false]
theorem keyB_mem (s : List UInt8) : keyB s = keyL.contains s := by
 rw [keyB_any, Bool.eq_iff_iff, List.contains_iff_mem, List.contains_iff_mem]
 have h1 : ∀ x ∈ keyA, x ∈ keyL := by decide
 have h2 : ∀ x ∈ keyL, x ∈ keyA := by decide
 exact ⟨h1 s, h2 s⟩
theorem r_namej (n : Nat) (s : List UInt8) (hn : 1000 ≤ n) : g_ref02_Name_j1 n s = some (decide (1 ≤ s.length ∧ s.length ≤ 12) && !keyB s) := by
 unfold g_ref02_Name_j1 g_ref02_Kinds g_ref02_Attrs g_ref02_Articles g_ref02_Words
 simp only [obs]
 rw [keyB_mem]
 unfold keyL g_ref02_Kinds g_ref02_Attrs g_ref02_Articles g_ref02_Words
 simp only [Option.getD_some]
 have e := fun (l : List (List UInt8)) (hl : l.length ≤ 900) => r_in n l s hn hl
 obtain ⟨r1, e1, h1⟩ := e [[102, 101, 101, 100, 101, 114], [99, 97, 98, 108, 101], [111, 119, 110, 101, 114], [99, 111, 110, 116, 114, 97, 99, 116], [99, 104, 97, 114, 103, 101, 114], [98, 97, 121], [116, 97, 114, 105, 102, 102]] (by decide)
 obtain ⟨r2, e2, h2⟩ := e [[108, 105, 109, 105, 116], [110, 101, 117, 116, 114, 97, 108], [102, 117, 115, 101], [116, 104, 101, 114, 109, 97, 108], [102, 114, 111, 109], [97, 116], [112, 104, 97, 115, 101, 115], [97, 109, 112, 115], [102, 97, 108, 108, 98, 97, 99, 107], [111, 119, 110, 101, 114], [99, 97, 114, 100], [114, 97, 110, 107], [99, 104, 97, 114, 103, 101, 114]] (by decide)
 obtain ⟨r3, e3, h3⟩ := e [[115, 116, 97, 114, 116], [101, 110, 101, 114, 103, 121], [116, 105, 109, 101], [105, 100, 108, 101], [99, 97, 112], [116, 97, 120]] (by decide)
 obtain ⟨r4, e4, h4⟩ := e [[111, 110], [119, 111, 114, 107], [115, 97, 116, 117, 114, 100, 97, 121], [115, 117, 110, 100, 97, 121], [98, 101, 116, 119, 101, 101, 110], [112, 101, 114], [102, 114, 101, 101]] (by decide)
 rw [e1, obs, e2, obs, e3, obs, e4, obs, h1, h2, h3, h4]
 have ha : ∀ (a b : List (List UInt8)), (a ++ b).contains s = (a.contains s || b.contains s) := by intro a b; simp
 rw [ha, ha, ha]
 simp only [cond_some, obs, leI, lenI, cst]
 generalize ((_ : Bool) || _) = k
 by_cases c1 : 1 ≤ s.length
 ·by_cases c2 : s.length ≤ 12
  ·rw [dzT (show (1 : Int) ≤ s.length by omega), dzT (show (s.length : Int) ≤ 12 by omega), dzT (show 1 ≤ s.length ∧ s.length ≤ 12 from ⟨c1, c2⟩)]; rfl
  ·rw [dzT (show (1 : Int) ≤ s.length by omega), dzF (show ¬ (s.length : Int) ≤ 12 by omega), dzF (show ¬ (1 ≤ s.length ∧ s.length ≤ 12) from fun h => c2 h.2)]; rfl
 ·rw [dzF (show ¬ (1 : Int) ≤ s.length by omega), dzF (show ¬ (1 ≤ s.length ∧ s.length ≤ 12) from fun h => c1 h.1)]; rfl
theorem chr_ref (c : Int) (z : Bool) : (bif decide (c < 97) then bif z then true else bif decide (c < 48) then !decide (c = 95) else bif decide (57 < c) then !decide (c = 95) else false
  else bif decide (122 < c) then bif z then true else bif decide (c < 48) then !decide (c = 95) else bif decide (57 < c) then !decide (c = 95) else false else false) = !(bif z then decide (97 ≤ c ∧ c ≤ 122) else decide ((97 ≤ c ∧ c ≤ 122) ∨ (48 ≤ c ∧ c ≤ 57) ∨ c = 95)) := by
 cases z <;> by_cases h1 : c < 97 <;> by_cases h2 : 122 < c <;> by_cases h3 : c < 48 <;> by_cases h4 : 57 < c <;> by_cases h5 : c = 95 <;> simp [h1, h2, h3, h4, h5] <;> omega
theorem r_name (n : Nat) (s : List UInt8) (hn : 1000 ≤ n) (hl : s.length ≤ 900) : g_ref02_Name n s = some (nameB s) := by
 unfold g_ref02_Name
 have h1 : ∀ (rec : Int → Option Bool) (a : Unit), (1 ≤ s.length ∨ s.length = 0) → g_ref02_Name_l16 n s rec (s.length : Int) = some (([] : List UInt8).all chrB && (decide (1 ≤ s.length ∧ s.length ≤ 12) && !keyB s)) := by
  intro rec a ha
  simp only [g_ref02_Name_l16, lenI, ltI]
  rw [dzF (by omega), cond_false, r_namej n s hn]
  rfl
 have h2 : ∀ (rec : Int → Option Bool) (a : Unit) (i : Nat) (x : UInt8) (r : List UInt8), (1 ≤ i ∨ s.length = 0) → s.drop i = x :: r → s[i]? = some x → i < s.length → wi ((i : Int) + 1) = ((i + 1 : Nat) : Int) →
   (∀ a : Unit, (1 ≤ i + 1 ∨ s.length = 0) → rec ((i + 1 : Nat) : Int) = some (r.all chrB && (decide (1 ≤ s.length ∧ s.length ≤ 12) && !keyB s))) → g_ref02_Name_l16 n s rec (i : Int) = some ((x :: r).all chrB && (decide (1 ≤ s.length ∧ s.length ≤ 12) && !keyB s)) := by
  intro rec a i x r ha hd hx hi hw hr
  simp only [g_ref02_Name_l16, lenI, ltI, getI_nat, hx, obs, hw, cond_some, eqI_d, chr_ref]
  rw [dzT (by omega), cond_true, dzF (show ¬ (i : Int) = 0 by omega), cond_false, hr () (Or.inl (by omega)), List.all_cons]
  show (bif !chrB x then some false else _) = _
  cases chrB x <;> rfl
 cases s with
 | nil =>
  have := loop_gen (l := []) (fun (_ : Unit) i => i) (F := fun _ r => r.all chrB && (decide (1 ≤ ([] : List UInt8).length ∧ ([] : List UInt8).length ≤ 12) && !keyB [])) (fun i _ => 1 ≤ i ∨ ([] : List UInt8).length = 0) (by simp) h1 h2 (n := n) 0 () (Or.inr rfl) (by simp) (by simp; omega)
  rw [show ((0 : Nat) : Int) = 0 from rfl] at this
  rw [this]; rfl
 | cons x r =>
  obtain ⟨m, rfl⟩ : ∃ m, n = m + 1 := ⟨n - 1, by omega⟩
  have hs := loop_gen (l := x :: r) (fun (_ : Unit) i => i) (F := fun _ q => q.all chrB && (decide (1 ≤ (x :: r).length ∧ (x :: r).length ≤ 12) && !keyB (x :: r))) (fun i _ => 1 ≤ i ∨ (x :: r).length = 0) (by omega) h1 h2 (n := m) 1 () (Or.inl (Nat.le_refl _)) (by simp) (by simp at hl ⊢; omega)
  rw [show ((1 : Nat) : Int) = 1 from rfl] at hs
  unfold loopN
  show g_ref02_Name_l16 (m + 1) (x :: r) (loopN (g_ref02_Name_l16 (m + 1) (x :: r)) m) 0 = _
  generalize loopN (g_ref02_Name_l16 (m + 1) (x :: r)) m = L at hs ⊢
  unfold g_ref02_Name_l16
  rw [show getI (x :: r) 0 = some x from rfl]
  simp only [lenI, ltI, obs, cond_some, eqI_d, chr_ref, show wi (0 + 1) = 1 from rfl]
  rw [hs, dzT (show (0 : Int) < ((x :: r).length : Nat) by simp), cond_true, decide_true, cond_true]
  unfold nameB
  simp only [List.head?_cons, Option.mem_def, sie, forall_eq', List.drop_succ_cons, List.drop_zero, List.all_cons]
  by_cases hx : 97 ≤ b2i x ∧ b2i x ≤ 122
  ·rw [dzT hx]
   have : chrB x = true := by unfold chrB; rw [dzT]; exact Or.inl hx
   rw [this]
   cases decide (1 ≤ (x :: r).length ∧ (x :: r).length ≤ 12) <;> cases keyB (x :: r) <;> cases r.all chrB <;> rfl
  ·rw [dzF hx]
   cases decide (1 ≤ (x :: r).length ∧ (x :: r).length ≤ 12) <;> rfl
theorem r_article (n : Nat) (a : GAr) : g_ref32_Article n a = some (artB a) := by
 unfold g_ref32_Article artB g_a_validArticle
 simp only [a_inside, cond_some, obs, Option.getD_some, eqI_d, ltI, leI]
 rw [sie, Bool.eq_iff_iff]
 obtain ⟨k, d, f, t, p, u, v⟩ := a
 simp only [Bool.cond_eq_ite]
 by_cases k1 : k = 1
 ·subst k1; simp; omega
 by_cases k2 : k = 2
 ·subst k2; simp; omega
 by_cases k3 : k = 3
 ·subst k3; simp; omega
 by_cases k4 : k = 4
 ·subst k4; simp; omega
 by_cases k5 : k = 5
 ·subst k5; simp; omega
 by_cases k6 : k = 6
 ·subst k6; simp; omega
 simp [k1, k2, k3, k4, k5, k6]
 omega
theorem r_tariff (n : Nat) (t : GTf) (hn : 1000 ≤ n) (h1 : t.Name.length ≤ 900) : g_ref32_Valid n t = some (tariffB t) := by
 unfold g_ref32_Valid tariffB
 simp only [r_name n _ hn h1, obs, cond_some, lenI, List.length_map, ltI]
 cases hname : nameB t.Name
 ·rfl
 by_cases h2 : t.Articles.length ≤ 12
 rotate_left
 ·rw [dzT (show (12 : Int) < t.Articles.length by omega), dzF h2]; rfl
 rw [dzF (show ¬ (12 : Int) < t.Articles.length by omega), dzT h2]
 simp only [Bool.not_true, cond_false, Bool.true_and]
 have := loop_gen (l := t.Articles) (fun (a : Int) i => (a, i)) (B := fun recl4 (v : Int × Int) => g_ref32_Valid_l4 n t recl4 v.1 v.2) (F := tarB) (fun i a => 0 ≤ a ∧ a ≤ i) (by omega) ?_ ?_ (n := n) 0 0 (by omega) (by omega) (by omega)
 ·exact this
 ·intro rec a ha
  simp only [g_ref32_Valid_l4, lenI, List.length_map, ltI, leI]
  rw [dzF (by omega), cond_false]
  rfl
 ·intro rec a i x r ha hd hx hi hw hr
  simp only [g_ref32_Valid_l4, lenI, List.length_map, ltI, getI_nat, hx, obs, r_article, hw, eqI_d]
  rw [dzT (by omega), cond_true, tarB]
  cases hb : artB x
  ·rfl
  ·have hw2 : wi (a + 1) = a + 1 := wi_id (by omega) (by omega)
   simp only [Bool.not_true, cond_false, Bool.true_and]
   by_cases h6 : x.Kind = 6
   ·rw [dzT h6, cond_true, if_pos h6, hw2, hr _ (by omega)]
   ·rw [dzF h6, cond_false, if_neg h6, hr _ (by omega)]
theorem r_off (n : Nat) (x : Int) : g_ref26_offset n x = some (decide (-1440 ≤ x ∧ x ≤ 1440)) := by
 unfold g_ref26_offset
 by_cases h : -1440 ≤ x <;> simp [leI, h]
theorem r_cal5 (n : Nat) (c : GCl) (hn : 1000 ≤ n) (hl : c.Holidays.length ≤ 900) : g_ref26_Valid_j5 n c = some (holB (-1) c.Holidays) := by
 unfold g_ref26_Valid_j5
 have := loop_gen (l := c.Holidays) (fun (_ : Int) i => i) (B := fun recl6 l6 => g_ref26_Valid_l6 c recl6 l6) (F := holB) (fun i a => -1 ≤ a ∧ (i = 0 → a = -1) ∧ (i ≠ 0 → c.Holidays[i - 1]? = some a)) (by omega) ?_ ?_ (n := n) 0 (-1) (by simp) (by omega) (by omega)
 ·exact this
 ·intro rec a ha
  simp only [g_ref26_Valid_l6, lenI, List.length_map, ltI]
  rw [dzF (by omega), cond_false]
  rfl
 ·intro rec a i x r ha hd hx hi hw hr
  simp only [g_ref26_Valid_l6, lenI, List.length_map, ltI, leI, getI_nat, hx, obs, hw]
  rw [dzT (by omega), cond_true, holB]
  by_cases c1 : x < 0
  ·rw [dzT c1]
   simp only [cond_true, obs]
   rw [dzF (show ¬ (a < x ∧ x ≤ 36500) by omega)]; rfl
  rw [dzF c1, cond_false]
  by_cases c2 : 36500 < x
  ·rw [dzT c2]
   simp only [cond_true, obs]
   rw [dzF (show ¬ (a < x ∧ x ≤ 36500) by omega)]; rfl
  rw [dzF c2, cond_false]
  have hrr := hr x ⟨by omega, by omega, fun _ => by simpa using hx⟩
  by_cases c3 : i = 0
  ·rw [dzF (show ¬ (0 : Int) < i by omega)]
   simp only [cond_false, obs]
   rw [hrr, dzT (show a < x ∧ x ≤ 36500 by have := ha.2.1 c3; omega)]; rfl
  ·rw [dzT (show (0 : Int) < i by omega), cond_true, show wi ((i : Int) - 1) = ((i - 1 : Nat) : Int) from by rw [wi_id] <;> omega, getI_nat, ha.2.2 c3]
   simp only [obs]
   by_cases c4 : x ≤ a
   ·rw [dzT c4, cond_true, dzF (show ¬ (a < x ∧ x ≤ 36500) by omega)]; rfl
   ·rw [dzF c4, cond_false, hrr, dzT (show a < x ∧ x ≤ 36500 by omega)]; rfl
theorem r_cal (n : Nat) (c : GCl) (hn : 1000 ≤ n) (h1 : c.Changes.length ≤ 900) (h2 : c.Holidays.length ≤ 900) : g_ref26_Valid n c = some (calB c) := by
 have key : loopN (fun recl13 l13 => g_ref26_Valid_l13 n c recl13 l13) n 0 = some (chgB (-1) c.Changes && holB (-1) c.Holidays) := by
  have := loop_gen (l := c.Changes) (fun (_ : Int) i => i) (B := fun recl13 l13 => g_ref26_Valid_l13 n c recl13 l13) (F := fun a r => chgB a r && holB (-1) c.Holidays) (fun i a => -1 ≤ a ∧ (i = 0 → a = -1) ∧ (i ≠ 0 → ∃ x, c.Changes[i - 1]? = some x ∧ x.At = a)) (by omega) ?_ ?_ (n := n) 0 (-1) (by simp) (by omega) (by omega)
  ·exact this
  ·intro rec a ha
   simp only [g_ref26_Valid_l13, lenI, List.length_map, ltI]
   rw [dzF (by omega), cond_false, r_cal5 n c hn h2]
   rfl
  ·intro rec a i x r ha hd hx hi hw hr
   simp only [g_ref26_Valid_l13, lenI, List.length_map, ltI, leI, getI_nat, hx, obs, hw, r_off]
   rw [dzT (by omega), cond_true, chgB]
   by_cases c0 : -1440 ≤ x.Offset ∧ x.Offset ≤ 1440
   rotate_left
   ·rw [dzF c0]
    simp only [Bool.not_false, cond_true, obs]
    rw [dzF (show ¬ (a < x.At ∧ x.At ≤ 52560000 ∧ -1440 ≤ x.Offset ∧ x.Offset ≤ 1440) by omega)]; rfl
   rw [dzT c0, Bool.not_true, cond_false]
   by_cases c1 : x.At < 0
   ·rw [dzT c1]
    simp only [cond_true, obs]
    rw [dzF (show ¬ (a < x.At ∧ x.At ≤ 52560000 ∧ -1440 ≤ x.Offset ∧ x.Offset ≤ 1440) by omega)]; rfl
   rw [dzF c1, cond_false]
   by_cases c2 : 52560000 < x.At
   ·rw [dzT c2]
    simp only [cond_true, obs]
    rw [dzF (show ¬ (a < x.At ∧ x.At ≤ 52560000 ∧ -1440 ≤ x.Offset ∧ x.Offset ≤ 1440) by omega)]; rfl
   rw [dzF c2, cond_false]
   have hrr := hr x.At ⟨by omega, by omega, fun _ => ⟨x, by simpa using hx, rfl⟩⟩
   by_cases c3 : i = 0
   ·rw [dzF (show ¬ (0 : Int) < i by omega)]
    simp only [cond_false, obs]
    rw [hrr, dzT (show a < x.At ∧ x.At ≤ 52560000 ∧ -1440 ≤ x.Offset ∧ x.Offset ≤ 1440 by have := ha.2.1 c3; omega)]; rfl
   ·obtain ⟨y, hy, hya⟩ := ha.2.2 c3
    rw [dzT (show (0 : Int) < i by omega), cond_true, show wi ((i : Int) - 1) = ((i - 1 : Nat) : Int) from by rw [wi_id] <;> omega, getI_nat, hy]
    simp only [obs, hya]
    by_cases c4 : x.At ≤ a
    ·rw [dzT c4, cond_true, dzF (show ¬ (a < x.At ∧ x.At ≤ 52560000 ∧ -1440 ≤ x.Offset ∧ x.Offset ≤ 1440) by omega)]; rfl
    ·rw [dzF c4, cond_false, hrr, dzT (show a < x.At ∧ x.At ≤ 52560000 ∧ -1440 ≤ x.Offset ∧ x.Offset ≤ 1440 by omega)]; rfl
 unfold g_ref26_Valid calB
 rw [key]
 simp only [r_off, obs, cond_some, lenI, List.length_map, ltI]
 by_cases c0 : -1440 ≤ c.Offset ∧ c.Offset ≤ 1440
 rotate_left
 ·rw [dzF c0]; rfl
 rw [dzT c0]
 by_cases c1 : c.Changes.length ≤ 16
 rotate_left
 ·rw [dzT (show (16 : Int) < c.Changes.length by omega), dzF c1]; rfl
 rw [dzF (show ¬ (16 : Int) < c.Changes.length by omega), dzT c1]
 by_cases c2 : c.Holidays.length ≤ 32
 rotate_left
 ·rw [dzT (show (32 : Int) < c.Holidays.length by omega), dzF c2]; rfl
 rw [dzF (show ¬ (32 : Int) < c.Holidays.length by omega), dzT c2]
 rfl
end Go.Proofs
namespace Go.Proofs
open Go Go.Abs
set_option maxRecDepth 100000
set_option linter.unusedVariables false
structure Art (a : GAr) : Prop where
 days : 1 ≤ a.Days ∧ a.Days ≤ 7
 from_ : 0 ≤ a.From ∧ a.From ≤ 1439
 to_ : a.From < a.To ∧ a.To ≤ 1440
 price : 0 ≤ a.Price ∧ a.Price ≤ 1000000
 kind : 1 ≤ a.Kind ∧ a.Kind ≤ 6
 unit : a.Kind = 3 ∨ a.Kind = 4 → 1 ≤ a.Unit ∧ a.Unit ≤ 1440 ∧ 0 ≤ a.Free ∧ a.Free ≤ 1440
 rate : a.Kind = 6 → a.Price ≤ 10000
theorem artB_art {a : GAr} (h : artB a = true) : Art a := by
 unfold artB g_a_validArticle at h
 simp only [a_inside, cond_some, obs, Option.getD_some, eqI_d, ltI, leI] at h
 obtain ⟨k, d, f, t, p, u, v⟩ := a
 simp only [Bool.cond_eq_ite] at h
 by_cases k1 : k = 1
 ·subst k1; simp at h; constructor <;> simp <;> omega
 by_cases k2 : k = 2
 ·subst k2; simp at h; constructor <;> simp <;> omega
 by_cases k3 : k = 3
 ·subst k3; simp at h; constructor <;> simp <;> omega
 by_cases k4 : k = 4
 ·subst k4; simp at h; constructor <;> simp <;> omega
 by_cases k5 : k = 5
 ·subst k5; simp at h; constructor <;> simp <;> omega
 by_cases k6 : k = 6
 ·subst k6; simp at h; constructor <;> simp <;> omega
 exfalso
 simp [k3, k4, k5, k6] at h
 omega
theorem offF_range (m : Int) : ∀ (l : List GCh) (p o : Int), chgB p l = true → (-1440 ≤ o ∧ o ≤ 1440) → -1440 ≤ offF m o l ∧ offF m o l ≤ 1440
 | [], _, o, _, h => h
 | x :: r, p, o, hc, h => by
  simp only [chgB, bae, decide_eq_true_eq] at hc
  unfold offF
  refine offF_range m r x.At _ hc.2 ?_
  split
  ·exact ⟨hc.1.2.2.1, hc.1.2.2.2⟩
  ·exact h
theorem cal_off {c : GCl} (m : Int) (h : calB c = true) : -1440 ≤ offF m c.Offset c.Changes ∧ offF m c.Offset c.Changes ≤ 1440 := by
 simp only [calB, bae, decide_eq_true_eq] at h
 exact offF_range m _ _ _ h.1.2 h.1.1.1.1
theorem r_offset (n : Nat) (c : GCl) (m : Int) (hn : 1000 ≤ n) (hl : c.Changes.length ≤ 900) : g_ref26_Offset n c m = some (offF m c.Offset c.Changes) := by
 unfold g_ref26_Offset
 have := loop_acc (l := c.Changes) (B := fun recl1 (v : Int × Int) => g_ref26_Offset_l1 c m recl1 v.1 v.2) (F := offF m) (by omega) ?_ ?_ (n := n) 0 c.Offset (by omega) (by omega)
 ·exact this
 ·intro rec a; simp [g_ref26_Offset_l1, ltI, lenI, offF]
 ·intro rec a i x r hd hx hi hw hr
  simp only [g_ref26_Offset_l1, lenI, List.length_map, getI_nat, hx, obs, hw, hr, ltI, leI, offF]
  rw [dzT (by omega), cond_true]
  by_cases h : x.At ≤ m <;> simp [h]
theorem r_type (n : Nat) (c : GCl) (d : Int) (hn : 1000 ≤ n) (h1 : c.Changes.length ≤ 900) (h2 : c.Holidays.length ≤ 900) (hc : calB c = true) (hd : -1 ≤ d ∧ d ≤ 36501) : g_ref26_Type n c d = some (typF d c.Holidays, 0) := by
 unfold g_ref26_Type
 rw [r_cal n c hn h1 h2, hc]
 simp only [obs, Bool.not_true, cond_false, ltI]
 rw [dzF (show ¬ d < -1 by omega), cond_false, obs, dzF (show ¬ 36501 < d by omega), cond_false]
 have := loop_list (l := c.Holidays) (B := fun recl6 l6 => g_ref26_Type_l6 c d recl6 l6) (F := fun r => (typF d r, (0 : Int))) (by omega) ?_ ?_ (n := n) 0 (by omega) (by omega)
 ·exact this
 ·intro rec
  simp only [g_ref26_Type_l6, g_ref26_Type_j5, lenI, List.length_map, ltI, eqI_d, typF, wkF]
  rw [dzF (by omega), cond_false]
  by_cases k1 : Int.tmod (wi (d + 7)) 7 = 5
  ·simp [k1]
  ·by_cases k2 : Int.tmod (wi (d + 7)) 7 = 6 <;> simp [k1, k2]
 ·intro rec i x r hd hx hi hw hr
  simp only [g_ref26_Type_l6, lenI, List.length_map, getI_nat, hx, obs, hw, hr, ltI, eqI_d, typF]
  rw [dzT (by omega), cond_true]
  by_cases h : x = d <;> simp [h]
theorem days_lem (d t : Int) (hd : 1 ≤ d ∧ d ≤ 7) (ht : 0 ≤ t ∧ t ≤ 2) :
  (bif decide (t = 2) then decide (Int.tmod (wi (Int.tdiv d 4)) 2 = 1) else bif decide (t = 1) then decide (Int.tmod (wi (Int.tdiv d 2)) 2 = 1) else decide (Int.tmod d 2 = 1)) = !decide (bAnd .i64 d (shlI .i64 1 t) = 0) := by
 have hd' : d = 1 ∨ d = 2 ∨ d = 3 ∨ d = 4 ∨ d = 5 ∨ d = 6 ∨ d = 7 := by omega
 have ht' : t = 0 ∨ t = 1 ∨ t = 2 := by omega
 rcases hd' with rfl | rfl | rfl | rfl | rfl | rfl | rfl <;> rcases ht' with rfl | rfl | rfl <;> decide
theorem r_applies (n : Nat) (c : GCl) (a : GAr) (m : Int) (hn : 1000 ≤ n) (h1 : c.Changes.length ≤ 900) (h2 : c.Holidays.length ≤ 900) (hc : calB c = true) (ha : artB a = true) (hm : 0 ≤ m ∧ m ≤ 52560000) :
  g_ref32_Applies n a c m = some (appB c a m) := by
 have ho := cal_off m hc
 have hA := artB_art ha
 have hloc : g_ref26_Local n c m = some ((m + offF m c.Offset c.Changes + 1440) / 1440 - 1, (m + offF m c.Offset c.Changes + 1440) % 1440, 0) := by
  unfold g_ref26_Local
  rw [r_cal n c hn h1 h2, hc]
  simp only [obs, Bool.not_true, cond_false, ltI]
  rw [dzF (show ¬ m < 0 by omega), cond_false, obs, dzF (show ¬ 52560000 < m by omega), cond_false, r_offset n c m hn h1, obs]
  generalize offF m c.Offset c.Changes = o at ho
  rw [wi_id (x := m + o) (by omega) (by omega)]
  by_cases hneg : m + o < 0
  ·rw [dzT hneg, cond_true, wi_id (x := m + o - -1440) (by omega) (by omega)]
   congr 2
   ·omega
   ·congr 1
    omega
  ·rw [dzF hneg, cond_false, Int.tdiv_eq_ediv_of_nonneg (by omega)]
   rw [wi_id (x := (m + o) / 1440) (by omega) (by omega), wi_id (x := 1440 * ((m + o) / 1440)) (by omega) (by omega), wi_id (by omega) (by omega)]
   congr 2
   ·omega
   ·congr 1
    omega
 unfold g_ref32_Applies appB
 rw [r_article, ha, hloc]
 simp only [obs, Bool.not_true, cond_false, eqI_d, decide_true]
 generalize offF m c.Offset c.Changes = o at ho
 rw [wi_id (x := m + o) (by omega) (by omega), wi_id (x := m + o + 1440) (by omega) (by omega)]
 rw [Int.tdiv_eq_ediv_of_nonneg (a := m + o + 1440) (by omega), Int.tmod_eq_emod_of_nonneg (a := m + o + 1440) (by omega)]
 rw [wi_id (x := (m + o + 1440) / 1440) (by omega) (by omega), wi_id (x := (m + o + 1440) / 1440 - 1) (by omega) (by omega)]
 rw [r_type n c _ hn h1 h2 hc (by omega)]
 simp only [obs, cond_some, leI, ltI]
 rw [days_lem _ _ hA.days (typF_range _ _)]
 generalize decide (bAnd .i64 a.Days (shlI .i64 1 (typF ((m + o + 1440) / 1440 - 1) c.Holidays)) = 0) = b
 generalize decide (a.From ≤ (m + o + 1440) % 1440) = b1
 generalize decide ((m + o + 1440) % 1440 < a.To) = b2
 cases b <;> cases b1 <;> cases b2 <;> rfl
def cN (c : GCl) (a : GAr) : Nat → Int → Int
 | 0, _ => 0
 | k + 1, m => (if appB c a m then 1 else 0) + cN c a k (m + 1)
theorem cN_range (c : GCl) (a : GAr) : ∀ (k : Nat) (m : Int), 0 ≤ cN c a k m ∧ cN c a k m ≤ k
 | 0, _ => by simp [cN]
 | k + 1, m => by
  have := cN_range c a k (m + 1)
  unfold cN
  split <;> omega
theorem cntF_cN (c : GCl) (a : GAr) : ∀ (k : Nat) (m z : Int), k ≤ 1000000 → -1000000 ≤ z ∧ z ≤ 2000000 - k → cntF c a k m z = z + cN c a k m
 | 0, m, z, _, _ => by simp [cntF, cN]
 | k + 1, m, z, hk, hz => by
  unfold cntF cN
  split
  ·rw [wi_id (by omega) (by omega), cntF_cN c a k (m + 1) (z + 1) (by omega) (by omega)]
   omega
  ·rw [cntF_cN c a k (m + 1) z (by omega) (by omega)]
   omega
theorem r_minutes (n : Nat) (c : GCl) (a : GAr) (f t : Int) (hn : 10000 ≤ n) (h1 : c.Changes.length ≤ 900) (h2 : c.Holidays.length ≤ 900) (hc : calB c = true) (ha : artB a = true) (hf : 0 ≤ f) (ht : t ≤ 52560000) (hk : t - f ≤ 2880) :
  g_ref33_Minutes n a c f t = some (cN c a (t - f).toNat f) := by
 unfold g_ref33_Minutes
 have key : ∀ (k j : Nat) (z m : Int), (t - m).toNat = k → k < j → 0 ≤ m → k ≤ 2880 → 0 ≤ z ∧ z ≤ 3000 - k →
   loopN (fun recl1 (v : Int × Int) => g_ref33_Minutes_l1 n a c t recl1 v.1 v.2) j (z, m) = some (z + cN c a k m) := by
  intro k
  induction k with
  | zero =>
   intro j z m h3 h4 h5 h6 h7
   obtain ⟨j, rfl⟩ : ∃ j', j = j' + 1 := ⟨j - 1, by omega⟩
   unfold loopN
   simp only [g_ref33_Minutes_l1, ltI]
   rw [dzF (by omega), cond_false]
   simp [cN]
  | succ k ih =>
   intro j z m h3 h4 h5 h6 h7
   obtain ⟨j, rfl⟩ : ∃ j', j = j' + 1 := ⟨j - 1, by omega⟩
   have i0 := ih j z (m + 1) (by omega) (by omega) (by omega) (by omega) (by omega)
   have i1 := ih j (z + 1) (m + 1) (by omega) (by omega) (by omega) (by omega) (by omega)
   unfold loopN
   generalize loopN (fun recl1 (v : Int × Int) => g_ref33_Minutes_l1 n a c t recl1 v.1 v.2) j = L at i0 i1 ⊢
   show g_ref33_Minutes_l1 n a c t L z m = _
   unfold g_ref33_Minutes_l1
   simp only [ltI]
   rw [dzT (by omega), cond_true, r_applies n c a m (by omega) h1 h2 hc ha (by omega), obs, wi_id (x := m + 1) (by omega) (by omega), wi_id (x := z + 1) (by omega) (by omega)]
   unfold cN
   cases appB c a m
   ·rw [cond_false, i0]
    simp
   ·rw [cond_true, i1]
    simp
    omega
 have := key (t - f).toNat n 0 f rfl (by omega) hf (by omega) (by omega)
 rw [Int.zero_add] at this
 exact this
def slB (f e : Int) : Int → List GSl → Bool
 | _, [] => true
 | p, x :: r => decide (f ≤ x.Minute ∧ x.Minute < e ∧ 0 ≤ x.Energy ∧ x.Energy ≤ 10000 ∧ p < x.Minute) && slB f e x.Minute r
def valB (s : GSs) : Bool := decide (0 ≤ s.From ∧ s.From < s.To ∧ s.To ≤ 52560000 ∧ s.To - s.From ≤ 2880 ∧ s.From ≤ s.End ∧ s.End ≤ s.To ∧ s.Slices.length ≤ 48) && slB s.From s.End (s.From - 1) s.Slices
theorem r_session_valid (n : Nat) (s : GSs) (hn : 1000 ≤ n) (hl : s.Slices.length ≤ 900) (hb : i64b s.From) : g_ref33_Valid n s = some (valB s) := by
 unfold i64b at hb
 unfold g_ref33_Valid valB
 simp only [ltI, leI, lenI, List.length_map]
 have key : loopN (fun recl8 l8 => g_ref33_Valid_l8 s recl8 l8) n 0 = some (slB s.From s.End (s.From - 1) s.Slices) := by
  have := loop_gen (l := s.Slices) (fun (_ : Int) i => i) (B := fun recl8 l8 => g_ref33_Valid_l8 s recl8 l8) (F := slB s.From s.End) (fun i a => s.From - 1 ≤ a ∧ (i = 0 → a = s.From - 1) ∧ (i ≠ 0 → ∃ x, s.Slices[i - 1]? = some x ∧ x.Minute = a)) (by omega) ?_ ?_ (n := n) 0 (s.From - 1) (by simp) (by omega) (by omega)
  ·exact this
  ·intro rec a ha
   simp only [g_ref33_Valid_l8, lenI, List.length_map, ltI]
   rw [dzF (by omega), cond_false]
   rfl
  ·intro rec a i x r ha hd hx hi hw hr
   simp only [g_ref33_Valid_l8, lenI, List.length_map, ltI, leI, getI_nat, hx, obs, hw]
   rw [dzT (by omega), cond_true, slB]
   by_cases c1 : x.Minute < s.From
   ·rw [dzT c1, cond_true, obs, cond_true, dzF (by omega)]; rfl
   rw [dzF c1, cond_false]
   by_cases c2 : s.End ≤ x.Minute
   ·rw [dzT c2, cond_true, obs, cond_true, dzF (by omega)]; rfl
   rw [dzF c2, cond_false]
   by_cases c3 : x.Energy < 0
   ·rw [dzT c3, cond_true, obs, cond_true, dzF (by omega)]; rfl
   rw [dzF c3, cond_false]
   by_cases c4 : 10000 < x.Energy
   ·rw [dzT c4, cond_true, obs, cond_true, dzF (by omega)]; rfl
   rw [dzF c4, cond_false]
   have hrr := hr x.Minute ⟨by omega, by omega, fun _ => ⟨x, by simpa using hx, rfl⟩⟩
   by_cases c5 : i = 0
   ·rw [dzF (show ¬ (0 : Int) < i by omega), cond_false, obs, cond_false, hrr, dzT (show s.From ≤ x.Minute ∧ x.Minute < s.End ∧ 0 ≤ x.Energy ∧ x.Energy ≤ 10000 ∧ a < x.Minute by have := ha.2.1 c5; omega)]; rfl
   ·obtain ⟨y, hy, hya⟩ := ha.2.2 c5
    rw [dzT (show (0 : Int) < i by omega), cond_true, show wi ((i : Int) - 1) = ((i - 1 : Nat) : Int) from by rw [wi_id] <;> omega, getI_nat, hy]
    simp only [obs, hya]
    by_cases c6 : x.Minute ≤ a
    ·rw [dzT c6, cond_true, dzF (show ¬ (s.From ≤ x.Minute ∧ x.Minute < s.End ∧ 0 ≤ x.Energy ∧ x.Energy ≤ 10000 ∧ a < x.Minute) by omega)]; rfl
    ·rw [dzF c6, cond_false, hrr, dzT (show s.From ≤ x.Minute ∧ x.Minute < s.End ∧ 0 ≤ x.Energy ∧ x.Energy ≤ 10000 ∧ a < x.Minute by omega)]; rfl
 rw [key]
 by_cases c1 : s.From < 0
 ·rw [dzT c1, cond_true, obs, cond_true, dzF (by omega)]; rfl
 rw [dzF c1, cond_false]
 by_cases c2 : s.To ≤ s.From
 ·rw [dzT c2, cond_true, obs, cond_true, dzF (by omega)]; rfl
 rw [dzF c2, cond_false]
 by_cases c3 : 52560000 < s.To
 ·rw [dzT c3, cond_true, obs, cond_true, dzF (by omega)]; rfl
 rw [dzF c3, cond_false, wi_id (x := s.To - s.From) (by omega) (by omega)]
 by_cases c4 : 2880 < s.To - s.From
 ·rw [dzT c4, cond_true, obs, cond_true, dzF (by omega)]; rfl
 rw [dzF c4, cond_false]
 by_cases c5 : s.End < s.From
 ·rw [dzT c5, cond_true, obs, cond_true, dzF (by omega)]; rfl
 rw [dzF c5, cond_false]
 by_cases c6 : s.To < s.End
 ·rw [dzT c6, cond_true, obs, cond_true, dzF (by omega)]; rfl
 rw [dzF c6, cond_false, obs]
 by_cases c7 : s.Slices.length ≤ 48
 ·rw [dzF (show ¬ (48 : Int) < s.Slices.length by omega), cond_false, dzT (show 0 ≤ s.From ∧ s.From < s.To ∧ s.To ≤ 52560000 ∧ s.To - s.From ≤ 2880 ∧ s.From ≤ s.End ∧ s.End ≤ s.To ∧ s.Slices.length ≤ 48 by omega)]; rfl
 ·rw [dzT (show (48 : Int) < s.Slices.length by omega), cond_true, dzF (show ¬ (0 ≤ s.From ∧ s.From < s.To ∧ s.To ≤ 52560000 ∧ s.To - s.From ≤ 2880 ∧ s.From ≤ s.End ∧ s.End ≤ s.To ∧ s.Slices.length ≤ 48) by omega)]; rfl
end Go.Proofs
namespace Go.Proofs
open Go Go.Abs
set_option maxRecDepth 100000
set_option linter.unusedVariables false
theorem slB_mem {f e : Int} : ∀ {l : List GSl} {p : Int}, slB f e p l = true → ∀ x ∈ l, f ≤ x.Minute ∧ x.Minute < e ∧ 0 ≤ x.Energy ∧ x.Energy ≤ 10000
 | [], _, _, x, hx => by cases hx
 | y :: r, p, h, x, hx => by
  simp only [slB, bae, decide_eq_true_eq] at h
  rcases List.mem_cons.1 hx with rfl | hx
  ·omega
  ·exact slB_mem h.2 x hx
theorem eneF_range (c : GCl) (a : GAr) : ∀ (l : List GSl) (z : Int), (∀ x ∈ l, 0 ≤ x.Energy ∧ x.Energy ≤ 10000) → 0 ≤ z → z + 10000 * l.length ≤ 10000000 → 0 ≤ eneF c a z l ∧ eneF c a z l ≤ z + 10000 * l.length
 | [], z, _, h0, h1 => by
  show 0 ≤ z ∧ z ≤ z + 10000 * ((0 : Nat) : Int)
  omega
 | x :: r, z, h, h0, h1 => by
  have hx := h x List.mem_cons_self
  simp only [List.length_cons] at h1 ⊢
  unfold eneF
  split
  ·rw [wi_id (by omega) (by omega)]
   have := eneF_range c a r (z + x.Energy) (fun y hy => h y (List.mem_cons_of_mem _ hy)) (by omega) (by omega)
   omega
  ·have := eneF_range c a r z (fun y hy => h y (List.mem_cons_of_mem _ hy)) (by omega) (by omega)
   omega
theorem r_energy (n : Nat) (c : GCl) (a : GAr) (s : GSs) (hn : 1000 ≤ n) (h1 : c.Changes.length ≤ 900) (h2 : c.Holidays.length ≤ 900) (hc : calB c = true) (ha : artB a = true) (hl : s.Slices.length ≤ 900) (hs : ∀ x ∈ s.Slices, 0 ≤ x.Minute ∧ x.Minute ≤ 52560000) :
  g_ref33_Energy n a c s = some (eneF c a 0 s.Slices) := by
 unfold g_ref33_Energy
 have := loop_acc (l := s.Slices) (B := fun recl1 (v : Int × Int) => g_ref33_Energy_l1 n a c s recl1 v.1 v.2) (F := eneF c a) (by omega) ?_ ?_ (n := n) 0 0 (by omega) (by omega)
 ·exact this
 ·intro rec z
  have h : ltI ((s.Slices.length : Nat) : Int) (lenI (List.map GSl.cs s.Slices)) = false := by simp [ltI, lenI]
  show g_ref33_Energy_l1 n a c s rec z ((s.Slices.length : Nat) : Int) = some z
  unfold g_ref33_Energy_l1
  rw [h, cond_false]
 ·intro rec z i x r hd hx hi hw hr
  have h3 : ltI (i : Int) (lenI (List.map GSl.cs s.Slices)) = true := by
   simp only [ltI, lenI, List.length_map]
   rw [dzT (by omega)]
  show g_ref33_Energy_l1 n a c s rec z (i : Int) = some (eneF c a z (x :: r))
  unfold g_ref33_Energy_l1 eneF
  rw [h3, cond_true, getI_nat, hx, obs, r_applies n c a x.Minute hn h1 h2 hc ha (hs x (List.mem_of_getElem? hx)), obs, obs, hw, hr, hr]
  cases appB c a x.Minute
  ·rfl
  ·rfl
theorem r_amount (n : Nat) (x : Int) : g_ref31_amount n x = some (decide (0 ≤ x ∧ x ≤ 1000000000)) := by
 unfold g_ref31_amount
 by_cases h : 0 ≤ x <;> simp [leI, h]
theorem r_checked (n : Nat) (x : Int) (h : 0 ≤ x) : g_ref31_checked n x = some (if x ≤ 1000000000 then (x, 0) else (0, 3)) := by
 unfold g_ref31_checked
 rw [r_amount, obs]
 by_cases h1 : x ≤ 1000000000
 ·rw [dzT ⟨h, h1⟩, if_pos h1]; rfl
 ·rw [dzF (fun h => h1 h.2), if_neg h1]; rfl
theorem mul_bound {x y X Y : Int} (hx : 0 ≤ x ∧ x ≤ X) (hy : 0 ≤ y ∧ y ≤ Y) : 0 ≤ x * y ∧ x * y ≤ X * Y :=
 ⟨Int.mul_nonneg hx.1 hy.1, Int.mul_le_mul hx.2 hy.2 hy.1 (Int.le_trans hx.1 hx.2)⟩
theorem r_times (n : Nat) (p q : Int) (hp : 0 ≤ p ∧ p ≤ 1000000) (hq : 0 ≤ q ∧ q ≤ 480000) :
  g_ref31_Times n p q 1000 = some (if wi (Int.tdiv (wi (wi (wi (2 * p) * q) + 1000)) 2000) ≤ 1000000000 then (wi (Int.tdiv (wi (wi (wi (2 * p) * q) + 1000)) 2000), 0) else (0, 3)) ∧ 0 ≤ wi (Int.tdiv (wi (wi (wi (2 * p) * q) + 1000)) 2000) := by
 have hb := mul_bound hp hq
 have e1 : wi (p * q) = p * q := wi_id (by omega) (by omega)
 have e2 : wi (2 * p) = 2 * p := wi_id (by omega) (by omega)
 have e3 : 2 * p * q = 2 * (p * q) := Int.mul_assoc ..
 have e4 : wi (2 * (p * q)) = 2 * (p * q) := wi_id (by omega) (by omega)
 have e5 : wi (2 * (p * q) + 1000) = 2 * (p * q) + 1000 := wi_id (by omega) (by omega)
 have e6 : Int.tdiv (2 * (p * q) + 1000) 2000 = (2 * (p * q) + 1000) / 2000 := Int.tdiv_eq_ediv_of_nonneg (by omega)
 have e7 : wi ((2 * (p * q) + 1000) / 2000) = (2 * (p * q) + 1000) / 2000 := wi_id (by omega) (by omega)
 rw [e2, e3, e4, e5, e6, e7]
 refine ⟨?_, by omega⟩
 unfold g_ref31_Times g_ref31_divided
 simp only [r_amount, obs]
 rw [dzT (show 0 ≤ p ∧ p ≤ 1000000000 by omega), dzT (show 0 ≤ q ∧ q ≤ 1000000000 by omega)]
 simp only [Bool.not_true, cond_false, obs, show ltI 1000 1 = false from rfl, show ltI 1000000000 1000 = false from rfl]
 rw [show wi (2 * 1000) = 2000 from rfl, show (!eqI 2000 0) = true from rfl, cond_true, obs, e1, e4, e5, e6, e7, r_checked n _ (by omega), obs]
theorem r_started (n : Nat) (p q u : Int) (hp : 0 ≤ p ∧ p ≤ 1000000) (hq : 0 ≤ q ∧ q ≤ 3000) (hu : 1 ≤ u ∧ u ≤ 1440) :
  g_ref31_Started n p q u = some (if wi (p * wi (Int.tdiv (wi (wi (q + u) - 1)) u)) ≤ 1000000000 then (wi (p * wi (Int.tdiv (wi (wi (q + u) - 1)) u)), 0) else (0, 3)) ∧ 0 ≤ wi (p * wi (Int.tdiv (wi (wi (q + u) - 1)) u)) := by
 have e1 : wi (q + u) = q + u := wi_id (by omega) (by omega)
 have e2 : wi (q + u - 1) = q + u - 1 := wi_id (by omega) (by omega)
 have e3 : Int.tdiv (q + u - 1) u = (q + u - 1) / u := Int.tdiv_eq_ediv_of_nonneg (by omega)
 have hd : 0 ≤ (q + u - 1) / u ∧ (q + u - 1) / u ≤ 5000 := by
  constructor
  ·exact Int.ediv_nonneg (by omega) (by omega)
  ·have := Int.ediv_le_self (a := q + u - 1) u (by omega)
   omega
 have e4 : wi ((q + u - 1) / u) = (q + u - 1) / u := wi_id (by omega) (by omega)
 have hb := mul_bound hp hd
 have e5 : wi (p * ((q + u - 1) / u)) = p * ((q + u - 1) / u) := wi_id (by omega) (by omega)
 rw [e1, e2, e3, e4, e5]
 refine ⟨?_, hb.1⟩
 unfold g_ref31_Started
 simp only [r_amount, obs]
 rw [dzT (show 0 ≤ p ∧ p ≤ 1000000000 by omega), dzT (show 0 ≤ q ∧ q ≤ 1000000000 by omega)]
 simp only [Bool.not_true, cond_false, ltI, eqI_d]
 rw [dzF (show ¬ u < 1 by omega), cond_false, obs, dzF (show ¬ 1000000000 < u by omega), cond_false, dzF (show ¬ u = 0 by omega), Bool.not_false, cond_true, e1, e2, e3, e4, e5, r_checked n _ hb.1, obs]
theorem r_sta (n : Nat) (c : GCl) (a : GAr) (f t : Int) (hn : 10000 ≤ n) (h1 : c.Changes.length ≤ 900) (h2 : c.Holidays.length ≤ 900) (hc : calB c = true) (ha : artB a = true) (hk34 : a.Kind = 3 ∨ a.Kind = 4) (hf : 0 ≤ f) (ht : t ≤ 52560000) (hk : t - f ≤ 2880) :
  ((g_ref33_Minutes n a c f t).bind fun r => (g_ref31_Started n a.Price (maxI 0 (wi (r - a.Free))) a.Unit).bind fun r => some (r.1, r.2)) = some (if staF c a f t ≤ 1000000000 then (staF c a f t, 0) else (0, 3)) ∧ 0 ≤ staF c a f t := by
 have hA := artB_art ha
 have hU := hA.unit hk34
 have hcn := cN_range c a (t - f).toNat f
 have eq : maxI 0 (wi (cN c a (t - f).toNat f - a.Free)) = maxI 0 (cntF c a (t - f).toNat f (wi (0 - a.Free))) := by
  rw [wi_id (x := 0 - a.Free) (by omega) (by omega), cntF_cN c a _ _ _ (by omega) (by omega), wi_id (by omega) (by omega)]
  congr 1
  omega
 have hq : 0 ≤ maxI 0 (wi (cN c a (t - f).toNat f - a.Free)) ∧ maxI 0 (wi (cN c a (t - f).toNat f - a.Free)) ≤ 3000 := by
  rw [wi_id (by omega) (by omega)]
  unfold maxI
  split <;> omega
 have hs := r_started n a.Price _ a.Unit hA.price hq ⟨hU.1, hU.2.1⟩
 rw [eq] at hs
 unfold staF
 refine ⟨?_, hs.2⟩
 rw [r_minutes n c a f t hn h1 h2 hc ha hf ht hk, obs, eq, hs.1, obs]
theorem r_line (n : Nat) (c : GCl) (a : GAr) (s : GSs) (hn : 10000 ≤ n) (h1 : c.Changes.length ≤ 900) (h2 : c.Holidays.length ≤ 900) (hc : calB c = true) (ha : artB a = true) (hv : valB s = true) :
  g_ref33_Line n a c s = some (if cosF c s a ≤ 1000000000 then (cosF c s a, 0) else (0, 3)) ∧ 0 ≤ cosF c s a := by
 have hA := artB_art ha
 have hv' := hv
 simp only [valB, bae, decide_eq_true_eq] at hv'
 obtain ⟨hr, hs⟩ := hv'
 unfold g_ref33_Line cosF
 rw [r_article, r_cal n c (by omega) h1 h2, r_session_valid n s (by omega) (by omega) (by unfold i64b; omega), ha, hc, hv]
 simp only [obs, Bool.not_true, cond_false, eqI_d]
 by_cases k1 : a.Kind = 1
 ·rw [dzT k1, cond_true, if_pos k1, wi_id (x := s.From + 1) (by omega) (by omega), r_minutes n c a s.From (s.From + 1) hn h1 h2 hc ha hr.1 (by omega) (by omega), obs]
  rw [show (s.From + 1 - s.From).toNat = 1 from by omega]
  unfold cN cN
  have := hA.price
  cases appB c a s.From
  ·refine ⟨?_, by simp⟩
   simp
   rfl
  ·rw [if_pos rfl, if_pos rfl, if_pos (by omega), show (1 : Int) + 0 = 1 from rfl, Int.mul_one, wi_id (by omega) (by omega)]
   exact ⟨rfl, this.1⟩
 rw [dzF k1, cond_false, if_neg k1]
 by_cases k2 : a.Kind = 2
 ·rw [dzT k2, cond_true, if_pos k2]
  have hm := slB_mem hs
  rw [r_energy n c a s (by omega) h1 h2 hc ha (by omega) (fun x hx => by have := hm x hx; omega), obs]
  have he := eneF_range c a s.Slices 0 (fun x hx => by have := hm x hx; omega) (by omega) (by omega)
  have ht := r_times n a.Price (eneF c a 0 s.Slices) hA.price (by omega)
  refine ⟨?_, ht.2⟩
  rw [ht.1, obs]
 rw [dzF k2, cond_false, if_neg k2]
 by_cases k3 : a.Kind = 3
 ·rw [dzT k3, cond_true, if_pos k3]
  exact r_sta n c a s.From s.To hn h1 h2 hc ha (Or.inl k3) hr.1 (by omega) (by omega)
 rw [dzF k3, cond_false, if_neg k3]
 by_cases k4 : a.Kind = 4
 ·rw [dzT k4, cond_true, if_pos k4]
  exact r_sta n c a s.End s.To hn h1 h2 hc ha (Or.inr k4) (by omega) (by omega) (by omega)
 rw [dzF k4, cond_false, if_neg k4]
 exact ⟨rfl, by omega⟩
end Go.Proofs
namespace Go.Proofs
open Go Go.Abs
set_option maxRecDepth 100000
set_option linter.unusedVariables false
theorem drop_idx {α : Type} {l : List α} {i : Nat} {x : α} {r : List α} (h : l.drop i = x :: r) (hi : i < l.length) : l.length - (r.length + 1) = i ∧ l.length - r.length = i + 1 := by
 have := congrArg List.length h
 simp only [List.length_drop, List.length_cons] at this
 omega
theorem linB_cons (x : GLine) (r : List GLine) : linB (x :: r) = (decide (x.Amount ≤ 1000000000) && linB r) := by
 unfold linB
 rw [List.all_cons]
def capR : Int → List GAr → Int
 | k, [] => k
 | k, a :: r => capR (if a.Kind = 5 then (if k < 0 ∨ a.Price < k then a.Price else k) else k) r
def capV (k z : Int) : Int := if 0 ≤ k ∧ k < z then k else z
theorem capF_R : ∀ (l : List GAr) (k z : Int), (∀ a ∈ l, 0 ≤ a.Price) → capF (capV k z) l = capV (capR k l) z
 | [], k, z, _ => rfl
 | a :: r, k, z, h => by
  have ha := h a List.mem_cons_self
  unfold capF capR
  by_cases h5 : a.Kind = 5
  ·rw [if_pos h5, if_pos h5, ← capF_R r _ z (fun x hx => h x (List.mem_cons_of_mem _ hx))]
   congr 1
   unfold capV minI
   by_cases c1 : 0 ≤ k ∧ k < z
   ·rw [if_pos c1]
    by_cases c2 : k < 0 ∨ a.Price < k
    ·rw [if_pos c2]
     split <;> first | omega | (split <;> omega)
    ·rw [if_neg c2]
     split <;> first | omega | (split <;> omega)
   ·rw [if_neg c1]
    by_cases c2 : k < 0 ∨ a.Price < k
    ·rw [if_pos c2]
     split <;> first | omega | (split <;> omega)
    ·rw [if_neg c2]
     split <;> first | omega | (split <;> omega)
  ·rw [if_neg h5, if_neg h5]
   exact capF_R r k z (fun x hx => h x (List.mem_cons_of_mem _ hx))
theorem rateF_range : ∀ (l : List GAr) (z : Int), (∀ a ∈ l, 0 ≤ a.Price ∧ (a.Kind = 6 → a.Price ≤ 10000)) → (0 ≤ z ∧ z ≤ 10000) → 0 ≤ rateF z l ∧ rateF z l ≤ 10000
 | [], z, _, hz => hz
 | a :: r, z, h, hz => by
  have ha := h a List.mem_cons_self
  unfold rateF
  refine rateF_range r _ (fun x hx => h x (List.mem_cons_of_mem _ hx)) ?_
  split
  ·rename_i h6
   exact ⟨ha.1, ha.2 h6⟩
  ·exact hz
theorem r_tax (n : Nat) (net rate : Int) (hn : 0 ≤ net ∧ net ≤ 1000000000) (hr : 0 ≤ rate ∧ rate ≤ 10000) : g_ref31_Tax n net rate = some (taxF net rate, 0) ∧ 0 ≤ taxF net rate ∧ taxF net rate ≤ net + 1 := by
 have hb := mul_bound hn hr
 have hb2 : net * rate ≤ net * 10000 := Int.mul_le_mul_of_nonneg_left hr.2 hn.1
 have e1 : wi (net * rate) = net * rate := wi_id (by omega) (by omega)
 have e2 : wi (2 * net) = 2 * net := wi_id (by omega) (by omega)
 have e3 : 2 * net * rate = 2 * (net * rate) := Int.mul_assoc ..
 have e4 : wi (2 * (net * rate)) = 2 * (net * rate) := wi_id (by omega) (by omega)
 have e5 : wi (2 * (net * rate) + 10000) = 2 * (net * rate) + 10000 := wi_id (by omega) (by omega)
 have e6 : Int.tdiv (2 * (net * rate) + 10000) 20000 = (2 * (net * rate) + 10000) / 20000 := Int.tdiv_eq_ediv_of_nonneg (by omega)
 have e7 : wi ((2 * (net * rate) + 10000) / 20000) = (2 * (net * rate) + 10000) / 20000 := wi_id (by omega) (by omega)
 unfold taxF
 rw [e2, e3, e4, e5, e6, e7]
 refine ⟨?_, by omega, by omega⟩
 unfold g_ref31_Tax g_ref31_divided
 simp only [r_amount, obs, ltI]
 rw [dzT (show 0 ≤ net ∧ net ≤ 1000000000 by omega), Bool.not_true, cond_false, dzF (show ¬ rate < 0 by omega), cond_false, obs, dzF (show ¬ 100000 < rate by omega), cond_false]
 rw [show wi (2 * 10000) = 20000 from rfl, show (!eqI 20000 0) = true from rfl, cond_true, obs, e1, e4, e5, e6, e7, r_checked n _ (by omega), obs, if_pos (by omega)]
def zeroBill : GBill := ⟨[], 0, 0, 0⟩
def endV (rate net : Int) (l : List GLine) : GBill × Int :=
 if net ≤ 1000000000 ∧ wi (net + taxF net rate) ≤ 1000000000 then (⟨l, net, taxF net rate, wi (net + taxF net rate)⟩, 0) else (zeroBill, 3)
theorem r_bill7 (n : Nat) (rate cap : Int) (l : OL GLine) (z : Int) (hr : 0 ≤ rate ∧ rate ≤ 10000) (hz : 0 ≤ z) : g_ref33_Bill_j7 n rate cap l z = some (endV rate (capV cap z) l.toL) := by
 unfold g_ref33_Bill_j7
 have e : ((bif leI 0 cap then some (ltI cap z) else some false).bind fun j9 => bif j9 then some cap else some z) = some (capV cap z) := by
  unfold capV leI ltI
  by_cases c1 : 0 ≤ cap <;> by_cases c2 : cap < z <;> simp [c1, c2]
 rw [e, obs]
 have hnet : 0 ≤ capV cap z := by unfold capV; split <;> omega
 generalize capV cap z = net at hnet
 unfold endV
 simp only [ltI]
 by_cases c : 1000000000 < net
 ·rw [dzT c, cond_true, if_neg (by omega)]; rfl
 rw [dzF c, cond_false]
 obtain ⟨g1, g2, g3⟩ := r_tax n net rate (by omega) hr
 rw [g1, obs]
 simp only [show eqI 0 0 = true from rfl, Bool.not_true, cond_false, obs]
 by_cases c2 : 1000000000 < wi (net + taxF net rate)
 ·rw [dzT c2, cond_true, if_neg (by omega)]; rfl
 ·rw [dzF c2, cond_false, if_pos (by omega)]
theorem r_bill (n : Nat) (t : GTf) (c : GCl) (s : GSs) (hn : 10000 ≤ n) (h1 : c.Changes.length ≤ 900) (h2 : c.Holidays.length ≤ 900) (hc : calB c = true) (ht : tariffB t = true) (hv : valB s = true) :
  g_ref33_Bill n t c s = some (if linB (linF c s 0 t.Articles) then (if bilB (bilF t (rateF 0 t.Articles) 0 (linF c s 0 t.Articles)) then (bilF t (rateF 0 t.Articles) 0 (linF c s 0 t.Articles), 0) else (zeroBill, 3)) else (zeroBill, 3)) := by
 have ht' := ht
 simp only [tariffB, bae, decide_eq_true_eq] at ht'
 have hall := tarB_all ht'.2
 have hArt := fun a h => artB_art (hall a h)
 have hlen : t.Name.length ≤ 900 := by
  have := ht'.1.1
  simp only [nameB, bae, decide_eq_true_eq] at this
  omega
 have hv' := hv
 simp only [valB, bae, decide_eq_true_eq] at hv'
 unfold g_ref33_Bill
 rw [r_tariff n t (by omega) hlen, r_cal n c (by omega) h1 h2, r_session_valid n s (by omega) (by omega) (by unfold i64b; omega), ht, hc, hv]
 simp only [obs, Bool.not_true, cond_false]
 have := loop_gen (l := t.Articles) (fun (a : Int × Int × OL GLine × Int) i => (a.1, a.2.1, i, a.2.2.1, a.2.2.2)) (B := fun recl14 (v : Int × Int × Int × (OL GLine) × Int) => g_ref33_Bill_l14 n t c s recl14 v.1 v.2.1 v.2.2.1 v.2.2.2.1 v.2.2.2.2)
  (F := fun a r => if linB (linF c s (t.Articles.length - r.length) r) then endV (rateF a.1 r) (capV (capR a.2.1 r) (sumF a.2.2.2 (linF c s (t.Articles.length - r.length) r))) (a.2.2.1.toL ++ linF c s (t.Articles.length - r.length) r) else (zeroBill, 3))
  (fun i a => (0 ≤ a.1 ∧ a.1 ≤ 10000) ∧ a.2.2.1.toL.length ≤ i ∧ 0 ≤ a.2.2.2 ∧ a.2.2.2 ≤ 1000000000 * i) (by omega) ?_ ?_ (n := n) 0 (0, -1, OL.nil, 0) (by simp) (by omega) (by omega)
 ·rw [show ((0 : Nat) : Int) = 0 from rfl] at this
  refine this.trans ?_
  simp only [OL.toL_nil, List.nil_append, List.drop_zero, Nat.sub_self]
  rw [← capF_R _ _ _ (fun a h => (hArt a h).price.1), show ∀ z, capV (-1) z = z from fun z => by unfold capV; rw [if_neg (by omega)]]
  unfold endV bilF bilB netF
  simp only [bae, decide_eq_true_eq]
 ·intro rec a ha
  have h : ltI ((t.Articles.length : Nat) : Int) (lenI (List.map GAr.cs t.Articles)) = false := by simp [ltI, lenI]
  show g_ref33_Bill_l14 n t c s rec a.1 a.2.1 ((t.Articles.length : Nat) : Int) a.2.2.1 a.2.2.2 = _
  unfold g_ref33_Bill_l14
  rw [h, cond_false, r_bill7 n _ _ _ _ ha.1 ha.2.2.1]
  simp [linF, linB, rateF, capR, sumF]
 ·intro rec a i x r hi0 hd hx hi hw hr
  have h3 : ltI (i : Int) (lenI (List.map GAr.cs t.Articles)) = true := by
   simp only [ltI, lenI, List.length_map]
   rw [dzT (by omega)]
  have hidx := drop_idx hd hi
  have hxa := hall x (List.mem_of_getElem? hx)
  have hA := artB_art hxa
  simp only [List.length_cons, hidx.1]
  simp only [hidx.2] at hr
  obtain ⟨rate, cap, acc, z⟩ := a
  simp only at hi0 ⊢
  show g_ref33_Bill_l14 n t c s rec rate cap (i : Int) acc z = _
  unfold g_ref33_Bill_l14
  rw [h3, cond_true, getI_nat, hx, obs, hw]
  simp only [eqI_d]
  unfold linF rateF capR
  by_cases k6 : x.Kind = 6
  ·have := hr (x.Price, cap, acc, z) ⟨⟨hA.price.1, hA.rate k6⟩, by simp only; omega, by simp only; omega, by simp only; omega⟩
   simp only at this
   rw [dzT k6, cond_true, if_pos (Or.inr k6), if_pos k6, if_neg (show ¬ x.Kind = 5 by omega), this]
  rw [dzF k6, cond_false]
  by_cases k5 : x.Kind = 5
  ·rw [dzT k5, cond_true, if_pos (Or.inl k5), if_neg k6, if_pos k5]
   have hcap := fun k => hr (rate, k, acc, z) ⟨hi0.1, by simp only; omega, hi0.2.2.1, by simp only; omega⟩
   simp only at hcap
   simp only [ltI, cond_some, obs]
   rw [hcap, hcap]
   by_cases c1 : cap < 0
   ·simp [c1]
   ·by_cases c2 : x.Price < cap <;> simp [c1, c2]
  rw [dzF k5, cond_false, if_neg (show ¬ (x.Kind = 5 ∨ x.Kind = 6) by omega), if_neg k6, if_neg k5]
  obtain ⟨g1, g2⟩ := r_line n c x s hn h1 h2 hc hxa hv
  rw [g1, obs, linB_cons]
  by_cases hb : cosF c s x ≤ 1000000000
  ·rw [if_pos hb, dzT hb]
   simp only [decide_true, Bool.not_true, cond_false, Bool.true_and]
   have hroom : roomB (List.length (acc.toL ++ [(⟨(i : Int), cosF c s x⟩ : GLine)])) 16 = true := by
    simp only [roomB, List.length_append, List.length_cons, List.length_nil]
    rw [dzT]
    omega
   have := hr (rate, cap, OL.own (acc.toL ++ [(⟨(i : Int), cosF c s x⟩ : GLine)]), z + cosF c s x) ⟨hi0.1, by simp only [OL.toL_own, List.length_append, List.length_cons, List.length_nil]; omega, by simp only; omega, by simp only; omega⟩
   simp only at this
   rw [hroom, cond_true, wi_id (x := z + cosF c s x) (by omega) (by omega), this]
   rw [show ∀ l, sumF z (⟨(i : Int), cosF c s x⟩ :: l) = sumF (wi (z + cosF c s x)) l from fun _ => rfl, wi_id (x := z + cosF c s x) (by omega) (by omega)]
   simp only [OL.toL_own, List.append_assoc, List.singleton_append]
  ·rw [if_neg hb, dzF hb]
   rfl
end Go.Proofs
namespace Go.Proofs
open Go Go.Abs
set_option maxRecDepth 100000
set_option linter.unusedVariables false
theorem b_goodWord (n : Nat) (s : List UInt8) (hn : 1000 ≤ n) : g_p_goodWord n s = some (decide (1 ≤ s.length ∧ s.length ≤ 12) && decide (∀ x ∈ s.head?, 97 ≤ b2i x ∧ b2i x ≤ 122) && s.all chrB) := by
 unfold g_p_goodWord
 simp only [lenI, ltI]
 cases s with
 | nil => simp
 | cons x r =>
  rw [dzF (show ¬ (((x :: r).length : Nat) : Int) < 1 by simp only [List.length_cons]; omega), cond_false]
  by_cases hl : (x :: r).length ≤ 12
  rotate_left
  ·rw [dzT (show (12 : Int) < (((x :: r).length : Nat) : Int) by omega), dzF (show ¬ (1 ≤ (x :: r).length ∧ (x :: r).length ≤ 12) by omega)]; rfl
  rw [dzF (show ¬ (12 : Int) < (((x :: r).length : Nat) : Int) by omega), cond_false, dzT (show 1 ≤ (x :: r).length ∧ (x :: r).length ≤ 12 by simp only [List.length_cons] at hl ⊢; omega)]
  rw [show getI (x :: r) 0 = some x from rfl]
  have hloop : loopN (fun recl7 l7 => g_p_goodWord_l7 (x :: r) recl7 l7) n 1 = some (r.all chrB) := by
   have := loop_list (l := x :: r) (B := fun recl7 l7 => g_p_goodWord_l7 (x :: r) recl7 l7) (F := fun r => r.all chrB) (by omega) ?_ ?_ (n := n) 1 (by simp) (by omega)
   ·simpa using this
   ·intro rec; simp [g_p_goodWord_l7, ltI, lenI]
   ·intro rec i y q hd hx hi hw hr
    unfold g_p_goodWord_l7
    simp only [lenI, getI_nat, hx, obs, hw, hr, ltI, leI, eqI, cond_some]
    rw [dzT (by omega), cond_true, List.all_cons]
    rw [chr_lem, chrB]
    cases decide ((97 ≤ b2i y ∧ b2i y ≤ 122) ∨ (48 ≤ b2i y ∧ b2i y ≤ 57) ∨ b2i y = 95) <;> simp
  rw [hloop]
  simp only [obs, cond_some, List.head?_cons, Option.mem_def, sie, forall_eq', Bool.true_and, List.all_cons]
  by_cases h1 : b2i x < 97
  ·rw [dzT h1, dzF (show ¬ (97 ≤ b2i x ∧ b2i x ≤ 122) by omega)]; rfl
  ·rw [dzF h1, cond_false]
   by_cases h2 : 122 < b2i x
   ·rw [dzT h2, dzF (show ¬ (97 ≤ b2i x ∧ b2i x ≤ 122) by omega)]; rfl
   ·have h3 : 97 ≤ b2i x ∧ b2i x ≤ 122 := by omega
    have h4 : chrB x = true := by unfold chrB; rw [dzT]; exact Or.inl h3
    rw [dzF h2, dzT h3, h4]; rfl
theorem cnz (b : Bool) (k r : Int) (hk : k ≠ 0) : (!eqI (bif b then k else r) 0) = (b || !eqI r 0) := by
 cases b
 ·rfl
 ·simp [eqI, hk]
theorem b_isKey (n : Nat) (s : List UInt8) : g_p_isKey n s = some (keyB s) := by
 unfold g_p_isKey g_p_kindOf g_p_isAttr g_p_isArticle g_p_isWord
 rw [keyB_mem]
 simp only [cond_some, obs, cse, cst, keyL, g_ref02_Kinds, g_ref02_Attrs, g_ref02_Articles, g_ref02_Words, Option.getD_some, List.cons_append, List.nil_append, List.contains_cons, List.contains_nil, Bool.or_false, eqS]
 rw [cnz _ 1 _ (by decide), cnz _ 2 _ (by decide), cnz _ 3 _ (by decide), cnz _ 4 _ (by decide), cnz _ 5 _ (by decide), cnz _ 6 _ (by decide), cnz _ 7 _ (by decide), show (!eqI 0 0) = false from rfl]
 simp only [Bool.or_assoc, Bool.or_false]
theorem b_goodName (n : Nat) (s : List UInt8) (hn : 1000 ≤ n) : g_p_goodName n s = some (nameB s) := by
 unfold g_p_goodName nameB
 rw [b_goodWord n s hn, obs, b_isKey, obs, cond_some]
 generalize decide (1 ≤ s.length ∧ s.length ≤ 12) = a
 generalize decide (∀ x ∈ s.head?, 97 ≤ b2i x ∧ b2i x ≤ 122) = b
 generalize s.all chrB = c
 generalize keyB s = d
 cases a <;> cases b <;> cases c <;> cases d <;> rfl
theorem of_cs' (k : Int) (s : List UInt8) (m t : Int) (l : List (List PV)) : GNode.of (GNode.cs ⟨k, s, m, t, l⟩) = some ⟨k, s, m, t, l⟩ := by
 unfold GNode.cs GNode.of
 simp only [map_idc, byt_mkS, if_true]
theorem b_parser (n : Nat) (s : List UInt8) (hn : 1000 ≤ n) : g_p_Valid n (⟨1, [], 0, 0, [GNode.cs (⟨2, s, 3, 0, []⟩ : GNode)]⟩ : GNode) = some (nameB s) := by
 obtain ⟨m, rfl⟩ : ∃ m, n = m + 2 := ⟨n - 2, by omega⟩
 have hitem : g_p_validItem (m + 2) (⟨2, s, 3, 0, []⟩ : GNode) 1498 = some (nameB s, 1498) := by
  unfold g_p_validItem
  rw [b_goodName (m + 2) s hn]
  simp only [show (!eqI 2 2) = false from rfl, show ltI 3 1 = false from rfl, show ltI 7 3 = false from rfl, cond_false, obs]
  cases nameB s
  ·rfl
  ·unfold loopN; rfl
 unfold g_p_Valid
 have e1 : ((bif !eqI 1 1 then some true else bif !eqS [] [] then some true else bif !eqI 0 0 then some true else some (ltI (wi (1499 - lenI (List.map idc [GNode.cs (⟨2, s, 3, 0, []⟩ : GNode)]))) 0))) = some false := rfl
 have e2 : wi (1499 - lenI (List.map idc [GNode.cs (⟨2, s, 3, 0, []⟩ : GNode)])) = 1498 := rfl
 simp only
 rw [e1, obs, cond_false, e2]
 unfold loopN
 simp only [g_p_Valid_l5]
 rw [show ltI 0 (lenI (List.map idc [GNode.cs (⟨2, s, 3, 0, []⟩ : GNode)])) = true from rfl, cond_true, show getI [GNode.cs (⟨2, s, 3, 0, []⟩ : GNode)] 0 = some (GNode.cs (⟨2, s, 3, 0, []⟩ : GNode)) from rfl, obs, of_cs', obs, hitem, obs]
 cases nameB s
 ·rfl
 ·unfold loopN; rfl
theorem b_inside (n : Nat) (x a b : Int) : g_t_inside n x a b = some (decide (a ≤ x ∧ x ≤ b)) := by
 unfold g_t_inside leI
 by_cases h : a ≤ x <;> simp [h]
theorem b_article (n : Nat) (a : GAr) : g_t_validArticle n a = some (artB a) := by
 have bad : ¬ Art a → some false = some (artB a) := by
  intro h
  cases hb : artB a
  ·rfl
  ·exact absurd (artB_art hb) h
 unfold g_t_validArticle g_t_isWhole g_t_isTime
 simp only [b_inside, obs]
 by_cases c2 : 1 ≤ a.Kind ∧ a.Kind ≤ 6
 rotate_left
 ·rw [dzF c2]; exact bad (fun h => c2 h.kind)
 rw [dzT c2]
 by_cases c4 : 0 ≤ a.From ∧ a.From ≤ 1439
 rotate_left
 ·rw [dzF c4]; exact bad (fun h => c4 h.from_)
 rw [dzT c4, wi_id (x := a.From + 1) (by omega) (by omega)]
 by_cases c6 : a.From + 1 ≤ a.To ∧ a.To ≤ 1440
 rotate_left
 ·rw [dzF c6]; exact bad (fun h => by have := h.to_; omega)
 rw [dzT c6]
 by_cases c8 : 1 ≤ a.Days ∧ a.Days ≤ 7
 rotate_left
 ·rw [dzF c8]; exact bad (fun h => c8 h.days)
 rw [dzT c8]
 unfold artB g_a_validArticle
 simp only [a_inside, cond_some, obs, Option.getD_some, eqI_d, Bool.not_true, cond_false]
 rw [sie, Bool.eq_iff_iff]
 obtain ⟨k, d, f, t, p, u, v⟩ := a
 simp only at c2 c4 c6 c8
 simp only [Bool.cond_eq_ite]
 have hk : k = 1 ∨ k = 2 ∨ k = 3 ∨ k = 4 ∨ k = 5 ∨ k = 6 := by omega
 rcases hk with rfl | rfl | rfl | rfl | rfl | rfl <;> simp [leI, ltI] <;> omega
theorem b_tariff (n : Nat) (t : GTf) (hn : 1000 ≤ n) : g_t_Valid n t = some (tariffB t) := by
 unfold g_t_Valid tariffB
 rw [b_parser n t.Name hn]
 simp only [obs, cond_some, lenI, List.length_map, ltI]
 cases hname : nameB t.Name
 ·rfl
 by_cases h2 : t.Articles.length ≤ 12
 rotate_left
 ·rw [dzT (show (12 : Int) < t.Articles.length by omega), dzF h2]; rfl
 rw [dzF (show ¬ (12 : Int) < t.Articles.length by omega), dzT h2]
 simp only [Bool.not_true, cond_false, Bool.true_and]
 have := loop_gen (l := t.Articles) (fun (a : Int) i => (a, i)) (B := fun recl4 (v : Int × Int) => g_t_Valid_l4 n t recl4 v.1 v.2) (F := tarB) (fun i a => 0 ≤ a ∧ a ≤ i) (by omega) ?_ ?_ (n := n) 0 0 (by omega) (by omega) (by omega)
 ·exact this
 ·intro rec a ha
  simp only [g_t_Valid_l4, lenI, List.length_map, ltI, leI]
  rw [dzF (by omega), cond_false]
  rfl
 ·intro rec a i x r ha hd hx hi hw hr
  simp only [g_t_Valid_l4, lenI, List.length_map, ltI, getI_nat, hx, obs, b_article, hw, eqI_d]
  rw [dzT (by omega), cond_true, tarB]
  cases hb : artB x
  ·rfl
  ·have hw2 : wi (a + 1) = a + 1 := wi_id (by omega) (by omega)
   simp only [Bool.not_true, cond_false, Bool.true_and]
   by_cases h6 : x.Kind = 6
   ·rw [dzT h6, cond_true, if_pos h6, hw2, hr _ (by omega)]
   ·rw [dzF h6, cond_false, if_neg h6, hr _ (by omega)]
def chK : Int → List GCh → Bool
 | _, [] => true
 | a, x :: r => decide (a < x.At ∧ x.At ≤ 52560000) && chK x.At r
def chO (l : List GCh) : Bool := l.all (fun x => decide (-1440 ≤ x.Offset ∧ x.Offset ≤ 1440))
theorem chgB_KO : ∀ (l : List GCh) (a : Int), chgB a l = (chO l && chK a l)
 | [], _ => rfl
 | x :: r, a => by
  unfold chgB chK
  rw [chgB_KO r x.At, show chO (x :: r) = (decide (-1440 ≤ x.Offset ∧ x.Offset ≤ 1440) && chO r) from List.all_cons]
  by_cases c1 : a < x.At ∧ x.At ≤ 52560000
  ·by_cases c2 : -1440 ≤ x.Offset ∧ x.Offset ≤ 1440
   ·rw [dzT (show a < x.At ∧ x.At ≤ 52560000 ∧ -1440 ≤ x.Offset ∧ x.Offset ≤ 1440 by omega), dzT c1, dzT c2]; rfl
   ·rw [dzF (show ¬ (a < x.At ∧ x.At ≤ 52560000 ∧ -1440 ≤ x.Offset ∧ x.Offset ≤ 1440) by omega), dzF c2]; rfl
  ·rw [dzF (show ¬ (a < x.At ∧ x.At ≤ 52560000 ∧ -1440 ≤ x.Offset ∧ x.Offset ≤ 1440) by omega), dzF c1]
   simp
theorem b_dinside (n : Nat) (x a b : Int) : g_days_inside n x a b = some (decide (a ≤ x ∧ x ≤ b)) := by
 unfold g_days_inside leI
 by_cases h : a ≤ x <;> simp [h]
theorem b_listC (n : Nat) (l : List GCh) (hn : 1000 ≤ n) (hl : l.length ≤ 900) : g_dv_api_Change n l 52560000 = some (chK (-1) l) := by
 unfold g_dv_api_Change
 have := loop_acc (l := l) (B := fun recl1 (v : Int × Int) => g_dv_api_Change_l1 n l 52560000 recl1 v.1 v.2) (F := chK) (by omega) ?_ ?_ (n := n) 0 (-1) (by omega) (by omega)
 ·exact this
 ·intro rec a; simp [g_dv_api_Change_l1, ltI, lenI, chK]
 ·intro rec a i x r hd hx hi hw hr
  simp only [g_dv_api_Change_l1, g_days_keys_1, lenI, List.length_map, getI_nat, hx, obs, hw, hr, ltI, leI, chK, cond_some]
  rw [dzT (by omega), cond_true]
  by_cases h1 : x.At ≤ a
  ·rw [dzT h1, dzF (show ¬ (a < x.At ∧ x.At ≤ 52560000) by omega)]; rfl
  ·rw [dzF h1]
   by_cases h2 : 52560000 < x.At
   ·rw [dzT h2, dzF (show ¬ (a < x.At ∧ x.At ≤ 52560000) by omega)]; rfl
   ·rw [dzF h2, dzT (show a < x.At ∧ x.At ≤ 52560000 by omega)]; rfl
theorem b_listI (n : Nat) (l : List Int) (hn : 1000 ≤ n) (hl : l.length ≤ 900) : g_dv_int n l 36500 = some (holB (-1) l) := by
 unfold g_dv_int
 have := loop_acc (l := l) (B := fun recl1 (v : Int × Int) => g_dv_int_l1 n l 36500 recl1 v.1 v.2) (F := holB) (by omega) ?_ ?_ (n := n) 0 (-1) (by omega) (by omega)
 ·exact this
 ·intro rec a; simp [g_dv_int_l1, ltI, lenI, holB]
 ·intro rec a i x r hd hx hi hw hr
  simp only [g_dv_int_l1, g_days_keys_2, lenI, List.length_map, getI_nat, hx, obs, hw, hr, ltI, leI, holB, cond_some]
  rw [dzT (by omega), cond_true]
  by_cases h1 : x ≤ a
  ·rw [dzT h1, dzF (show ¬ (a < x ∧ x ≤ 36500) by omega)]; rfl
  ·rw [dzF h1]
   by_cases h2 : 36500 < x
   ·rw [dzT h2, dzF (show ¬ (a < x ∧ x ≤ 36500) by omega)]; rfl
   ·rw [dzF h2, dzT (show a < x ∧ x ≤ 36500 by omega)]; rfl
theorem b_cal (n : Nat) (c : GCl) (hn : 1000 ≤ n) (h1 : c.Changes.length ≤ 900) (h2 : c.Holidays.length ≤ 900) : g_days_Valid n c = some (calB c) := by
 have key : loopN (fun recl9 l9 => g_days_Valid_l9 n c recl9 l9) n 0 = some (chO c.Changes && (chK (-1) c.Changes && holB (-1) c.Holidays)) := by
  have := loop_list (l := c.Changes) (B := fun recl9 l9 => g_days_Valid_l9 n c recl9 l9) (F := fun r => chO r && (chK (-1) c.Changes && holB (-1) c.Holidays)) (by omega) ?_ ?_ (n := n) 0 (by omega) (by omega)
  ·exact this
  ·intro rec
   simp only [g_days_Valid_l9, g_days_Valid_j5, lenI, List.length_map, ltI, b_listC n _ hn h1, b_listI n _ hn h2, obs, cond_some]
   rw [dzF (by omega), cond_false]
   cases chK (-1) c.Changes <;> rfl
  ·intro rec i x r hd hx hi hw hr
   simp only [g_days_Valid_l9, lenI, List.length_map, getI_nat, hx, obs, hw, hr, ltI, b_dinside]
   rw [dzT (by omega), cond_true, show chO (x :: r) = (decide (-1440 ≤ x.Offset ∧ x.Offset ≤ 1440) && chO r) from List.all_cons]
   cases decide (-1440 ≤ x.Offset ∧ x.Offset ≤ 1440) <;> rfl
 unfold g_days_Valid calB
 rw [key, chgB_KO]
 simp only [b_dinside, obs, cond_some, lenI, List.length_map, ltI]
 by_cases c1 : c.Changes.length ≤ 16
 rotate_left
 ·rw [dzT (show (16 : Int) < c.Changes.length by omega), dzF c1]; simp
 rw [dzF (show ¬ (16 : Int) < c.Changes.length by omega), dzT c1]
 by_cases c2 : c.Holidays.length ≤ 32
 rotate_left
 ·rw [dzT (show (32 : Int) < c.Holidays.length by omega), dzF c2]; simp
 rw [dzF (show ¬ (32 : Int) < c.Holidays.length by omega), dzT c2]
 generalize decide (-1440 ≤ c.Offset ∧ c.Offset ≤ 1440) = b0
 generalize chO c.Changes = b1
 generalize chK (-1) c.Changes = b2
 generalize holB (-1) c.Holidays = b3
 cases b0 <;> cases b1 <;> cases b2 <;> cases b3 <;> rfl
end Go.Proofs
namespace Go.Proofs
open Go Go.Abs
set_option maxRecDepth 100000
set_option linter.unusedVariables false
theorem chK_lt : ∀ (l : List GCh) (a : Int), chK a l = true → (∀ x ∈ l, a < x.At) ∧ l.Pairwise (fun x y => x.At < y.At)
 | [], _, _ => ⟨(fun x h => by cases h), List.Pairwise.nil⟩
 | x :: r, a, h => by
  simp only [chK, bae, decide_eq_true_eq] at h
  obtain ⟨h1, h2⟩ := chK_lt r x.At h.2
  refine ⟨fun y hy => ?_, List.pairwise_cons.2 ⟨h1, h2⟩⟩
  rcases List.mem_cons.1 hy with rfl | hy
  ·exact h.1.1
  ·have := h1 y hy; omega
theorem holB_lt : ∀ (l : List Int) (a : Int), holB a l = true → (∀ x ∈ l, a < x) ∧ l.Pairwise (fun x y => x < y)
 | [], _, _ => ⟨(fun x h => by cases h), List.Pairwise.nil⟩
 | x :: r, a, h => by
  simp only [holB, bae, decide_eq_true_eq] at h
  obtain ⟨h1, h2⟩ := holB_lt r x h.2
  refine ⟨fun y hy => ?_, List.pairwise_cons.2 ⟨h1, h2⟩⟩
  rcases List.mem_cons.1 hy with rfl | hy
  ·exact h.1.1
  ·have := h1 y hy; omega
structure LastOf {α : Type} (key : α → Int) (l : List α) (m r : Int) : Prop where
 lo : -1 ≤ r
 hi : r < l.length
 le : ∀ (i : Nat) (x : α), (i : Int) ≤ r → l[i]? = some x → key x ≤ m
 gt : ∀ (i : Nat) (x : α), r < (i : Int) → l[i]? = some x → m < key x
theorem last_gen {α : Type} {key : α → Int} {l : List α} {m : Int} {B : (Int × Int → Option Int) → Int × Int → Option Int} (hl : l.length ≤ 900) (hs : l.Pairwise (fun x y => key x < key y))
  (hB : ∀ rec lo hi, B rec (lo, hi) = cond (ltI lo hi) ((getI l (wi (lo + wi (Int.tdiv (wi (wi (hi - lo) + 1)) 2)))).bind fun x => cond (leI (key x) m) (rec (wi (lo + wi (Int.tdiv (wi (wi (hi - lo) + 1)) 2)), hi)) (rec (lo, wi (wi (lo + wi (Int.tdiv (wi (wi (hi - lo) + 1)) 2)) - 1)))) (some lo))
  {n : Nat} (hn : 1000 ≤ n) : Does (loopN B n (-1, (l.length : Int) - 1)) (LastOf key l m) := by
 have := does_loop (B := B) (Q := fun _ r => LastOf key l m r) (fun v => (v.2 - v.1).toNat) (fun v => -1 ≤ v.1 ∧ v.1 ≤ v.2 ∧ v.2 < l.length ∧ (∀ (i : Nat) (x : α), (i : Int) ≤ v.1 → l[i]? = some x → key x ≤ m) ∧ (∀ (i : Nat) (x : α), v.2 < (i : Int) → l[i]? = some x → m < key x)) ?_ (n := n) (v := (-1, (l.length : Int) - 1)) ⟨by simp, by simp; omega, by simp; omega, fun i x h => by simp only at h; omega, fun i x h hx => by
  have := (List.getElem?_eq_some_iff.1 hx).1
  simp only at h
  omega⟩ (by simp only; omega)
 ·exact this
 ·rintro rec ⟨lo, hi⟩ ⟨h1, h2, h3, h4, h5⟩ ih
  simp only at h1 h2 h3 h4 h5 ih
  rw [hB]
  by_cases hlt : lo < hi
  rotate_left
  ·rw [show ltI lo hi = false from by simp only [ltI]; rw [dzF hlt], cond_false]
   exact does_some ⟨h1, by omega, h4, fun i x hi' hx => h5 i x (by omega) hx⟩
  rw [show ltI lo hi = true from by simp only [ltI]; rw [dzT hlt], cond_true]
  rw [wi_id (x := hi - lo) (by omega) (by omega), wi_id (x := hi - lo + 1) (by omega) (by omega), Int.tdiv_eq_ediv_of_nonneg (by omega), wi_id (x := (hi - lo + 1) / 2) (by omega) (by omega), wi_id (x := lo + (hi - lo + 1) / 2) (by omega) (by omega), wi_id (x := lo + (hi - lo + 1) / 2 - 1) (by omega) (by omega)]
  generalize hmid : lo + (hi - lo + 1) / 2 = mid
  have hm : lo < mid ∧ mid ≤ hi := by omega
  obtain ⟨j, rfl⟩ : ∃ j : Nat, mid = (j : Int) := ⟨mid.toNat, by omega⟩
  have hx : l[j]? = some (l[j]'(by omega)) := by rw [List.getElem?_eq_getElem]
  generalize l[j]'(by omega) = x at hx
  rw [getI_nat, hx, obs]
  refine does_cond (fun hc => ?_) (fun hc => ?_)
  ·simp only [leI, decide_eq_true_eq] at hc
   refine ih (j, hi) ⟨by simp only; omega, by simp only; omega, h3, fun i y hi' hy => ?_, h5⟩ (by simp only; omega)
   simp only at hi'
   by_cases e : i = j
   ·subst e
    rw [hx] at hy; cases hy
    exact hc
   ·have hij : i < j := by omega
    have hy' := List.getElem?_eq_some_iff.1 hy
    have hx' := List.getElem?_eq_some_iff.1 hx
    have := List.pairwise_iff_getElem.1 hs i j hy'.1 hx'.1 hij
    rw [hy'.2, hx'.2] at this
    omega
  ·simp only [leI, decide_eq_false_iff_not] at hc
   refine ih (lo, (j : Int) - 1) ⟨h1, by simp only; omega, by simp only; omega, h4, fun i y hi' hy => ?_⟩ (by simp only; omega)
   simp only at hi'
   by_cases e : i = j
   ·subst e
    rw [hx] at hy; cases hy
    omega
   ·have hij : j < i := by omega
    have hy' := List.getElem?_eq_some_iff.1 hy
    have hx' := List.getElem?_eq_some_iff.1 hx
    have := List.pairwise_iff_getElem.1 hs j i hx'.1 hy'.1 hij
    rw [hy'.2, hx'.2] at this
    omega
theorem b_lastC (n : Nat) (l : List GCh) (m : Int) (hn : 1000 ≤ n) (hl : l.length ≤ 900) (hs : chK (-1) l = true) : Does (g_days_last_api_Change n l m) (LastOf GCh.At l m) := by
 unfold g_days_last_api_Change
 simp only [lenI, List.length_map]
 rw [wi_id (x := (l.length : Int) - 1) (by omega) (by omega)]
 exact last_gen (B := fun recl1 (v : Int × Int) => g_days_last_api_Change_l1 n l m recl1 v.1 v.2) hl (chK_lt l _ hs).2 (fun rec lo hi => rfl) hn
theorem b_lastI (n : Nat) (l : List Int) (m : Int) (hn : 1000 ≤ n) (hl : l.length ≤ 900) (hs : holB (-1) l = true) : Does (g_days_last_int n l m) (LastOf (fun x => x) l m) := by
 unfold g_days_last_int
 simp only [lenI, List.length_map]
 rw [wi_id (x := (l.length : Int) - 1) (by omega) (by omega)]
 exact last_gen (key := fun x => x) (B := fun recl1 (v : Int × Int) => g_days_last_int_l1 n l m recl1 v.1 v.2) hl (holB_lt l _ hs).2 (fun rec lo hi => rfl) hn
theorem offF_gt (m : Int) : ∀ (l : List GCh) (o : Int), (∀ x ∈ l, m < x.At) → offF m o l = o
 | [], _, _ => rfl
 | x :: r, o, h => by
  have := h x List.mem_cons_self
  unfold offF
  rw [if_neg (by omega)]
  exact offF_gt m r o (fun y hy => h y (List.mem_cons_of_mem _ hy))
theorem offF_at (m : Int) : ∀ (l : List GCh) (o : Int) (k : Nat) (x : GCh), l[k]? = some x → (∀ (i : Nat) (y : GCh), i ≤ k → l[i]? = some y → y.At ≤ m) → (∀ (i : Nat) (y : GCh), k < i → l[i]? = some y → m < y.At) → offF m o l = x.Offset
 | [], _, _, _, h, _, _ => by simp at h
 | z :: r, o, 0, x, h, h1, h2 => by
  simp at h
  subst h
  unfold offF
  rw [if_pos (h1 0 z (Nat.le_refl _) rfl)]
  exact offF_gt m r _ (fun y hy => by
   obtain ⟨i, hi⟩ := List.mem_iff_getElem?.1 hy
   exact h2 (i + 1) y (by omega) (by simpa using hi))
 | z :: r, o, k + 1, x, h, h1, h2 => by
  unfold offF
  exact offF_at m r _ k x (by simpa using h) (fun i y hi hy => h1 (i + 1) y (by omega) (by simpa using hy)) (fun i y hi hy => h2 (i + 1) y (by omega) (by simpa using hy))
theorem typF_mem (d : Int) : ∀ (l : List Int), typF d l = if d ∈ l then 2 else wkF d
 | [] => by simp [typF]
 | x :: r => by
  unfold typF
  rw [typF_mem d r]
  by_cases h : x = d
  ·simp [h]
  ·simp [h, Ne.symm h]
theorem tdiv_neg' (x : Int) (b : Int) (h : x ≤ 0) : Int.tdiv x b = -((-x) / b) ∧ Int.tmod x b = -((-x) % b) := by
 obtain ⟨y, rfl⟩ : ∃ y : Int, x = -y := ⟨-x, by omega⟩
 rw [Int.neg_tdiv, Int.neg_tmod, Int.neg_neg, Int.tdiv_eq_ediv_of_nonneg (by omega), Int.tmod_eq_emod_of_nonneg (by omega)]
 exact ⟨rfl, rfl⟩
theorem b_split1440 (n : Nat) (x : Int) (h : -1440 ≤ x ∧ x ≤ 100000000) : g_days_split n x 1440 = some ((x + 1440) / 1440 - 1, (x + 1440) % 1440) := by
 unfold g_days_split
 rw [show (!eqI 1440 0) = true from rfl, cond_true, cond_true]
 simp only [ltI]
 by_cases hx : 0 ≤ x
 ·rw [Int.tdiv_eq_ediv_of_nonneg hx, Int.tmod_eq_emod_of_nonneg hx, dzF (by omega), cond_false, wi_id (x := x / 1440) (by omega) (by omega)]
  congr 2
  ·omega
  ·omega
 ·obtain ⟨e1, e2⟩ := tdiv_neg' x 1440 (by omega)
  rw [e1, e2]
  by_cases hm : -((-x) % 1440) < 0
  ·rw [dzT hm, cond_true, wi_id (x := -((-x) / 1440)) (by omega) (by omega), wi_id (by omega) (by omega), wi_id (by omega) (by omega)]
   congr 2
   ·omega
   ·omega
  ·rw [dzF hm, cond_false, wi_id (x := -((-x) / 1440)) (by omega) (by omega)]
   congr 2
   ·omega
   ·omega
theorem b_local (n : Nat) (c : GCl) (m : Int) (hn : 1000 ≤ n) (h1 : c.Changes.length ≤ 900) (h2 : c.Holidays.length ≤ 900) (hc : calB c = true) (hm : 0 ≤ m ∧ m ≤ 52560000) :
  g_days_Local n c m = some ((m + offF m c.Offset c.Changes + 1440) / 1440 - 1, (m + offF m c.Offset c.Changes + 1440) % 1440, 0) := by
 have ho := cal_off m hc
 have hc' := hc
 simp only [calB, bae] at hc'
 have hK : chK (-1) c.Changes = true := by
  have := hc'.1.2
  rw [chgB_KO, bae] at this
  exact this.2
 unfold g_days_Local
 rw [b_cal n c hn h1 h2, hc, b_dinside, dzT hm]
 simp only [obs, Bool.not_true, cond_false]
 obtain ⟨r, e, L⟩ := b_lastC n c.Changes m hn h1 hK
 rw [e]
 simp only [obs]
 have hoff : (bif leI 0 r then (getI c.Changes r).bind fun x7 => some x7.Offset else some c.Offset) = some (offF m c.Offset c.Changes) := by
  by_cases h0 : 0 ≤ r
  ·obtain ⟨k, rfl⟩ : ∃ k : Nat, r = (k : Int) := ⟨r.toNat, by omega⟩
   have hk := L.hi
   have hx : c.Changes[k]? = some (c.Changes[k]'(by omega)) := by rw [List.getElem?_eq_getElem]
   rw [show leI 0 (k : Int) = true from by simp only [leI]; rw [dzT h0], cond_true, getI_nat, hx, obs]
   rw [offF_at m c.Changes c.Offset k _ hx (fun i y hi hy => L.le i y (by omega) hy) (fun i y hi hy => L.gt i y (by omega) hy)]
  ·rw [show leI 0 r = false from by simp only [leI]; rw [dzF h0], cond_false]
   rw [offF_gt m c.Changes c.Offset (fun x hx => by
    obtain ⟨i, hi⟩ := List.mem_iff_getElem?.1 hx
    exact L.gt i x (by omega) hi)]
 rw [hoff, obs]
 generalize offF m c.Offset c.Changes = o at ho
 rw [wi_id (x := m + o) (by omega) (by omega), b_split1440 n (m + o) (by omega), obs]
theorem b_split7 (n : Nat) (d : Int) (h : -1 ≤ d ∧ d ≤ 36501) : g_days_split n d 7 = some ((d + 7) / 7 - 1, (d + 7) % 7) := by
 unfold g_days_split
 rw [show (!eqI 7 0) = true from rfl, cond_true, cond_true]
 simp only [ltI]
 by_cases hx : 0 ≤ d
 ·rw [Int.tdiv_eq_ediv_of_nonneg hx, Int.tmod_eq_emod_of_nonneg hx, dzF (by omega), cond_false, wi_id (x := d / 7) (by omega) (by omega)]
  congr 2
  ·omega
  ·omega
 ·have : d = -1 := by omega
  subst this
  rfl
theorem b_type (n : Nat) (c : GCl) (d : Int) (hn : 1000 ≤ n) (h1 : c.Changes.length ≤ 900) (h2 : c.Holidays.length ≤ 900) (hc : calB c = true) (hd : -1 ≤ d ∧ d ≤ 36501) : g_days_Type n c d = some (typF d c.Holidays, 0) := by
 have hc' := hc
 simp only [calB, bae] at hc'
 unfold g_days_Type
 rw [b_cal n c hn h1 h2, hc, b_dinside, dzT hd]
 simp only [obs, Bool.not_true, cond_false]
 obtain ⟨r, e, L⟩ := b_lastI n c.Holidays d hn h2 hc'.2
 have hpw := (holB_lt _ _ hc'.2).2
 rw [e]
 simp only [obs]
 have hj : (bif leI 0 r then (getI c.Holidays r).bind fun x8 => some (eqI x8 d) else some false) = some (decide (d ∈ c.Holidays)) := by
  by_cases h0 : 0 ≤ r
  ·obtain ⟨k, rfl⟩ : ∃ k : Nat, r = (k : Int) := ⟨r.toNat, by omega⟩
   have hk := L.hi
   have hx : c.Holidays[k]? = some (c.Holidays[k]'(by omega)) := by rw [List.getElem?_eq_getElem]
   rw [show leI 0 (k : Int) = true from by simp only [leI]; rw [dzT h0], cond_true, getI_nat, hx, obs, eqI_d]
   generalize c.Holidays[k]'(by omega) = x at hx
   by_cases hxd : x = d
   ·rw [dzT hxd, dzT]
    rw [← hxd]
    exact List.mem_of_getElem? hx
   ·rw [dzF hxd, dzF]
    intro hmem
    obtain ⟨i, hi⟩ := List.mem_iff_getElem?.1 hmem
    have hik : (i : Int) ≤ k := by
     apply Classical.byContradiction
     intro h
     have := L.gt i d (by omega) hi
     omega
    by_cases e : i = k
    ·subst e
     rw [hx] at hi; cases hi
     exact hxd rfl
    ·have hi' := List.getElem?_eq_some_iff.1 hi
     have hx' := List.getElem?_eq_some_iff.1 hx
     have := List.pairwise_iff_getElem.1 hpw i k hi'.1 hx'.1 (by omega)
     rw [hi'.2, hx'.2] at this
     have := L.le k x (Int.le_refl _) hx
     omega
  ·rw [show leI 0 r = false from by simp only [leI]; rw [dzF h0], cond_false, dzF]
   intro hmem
   obtain ⟨i, hi⟩ := List.mem_iff_getElem?.1 hmem
   have := L.gt i d (by omega) hi
   omega
 rw [hj, obs, typF_mem]
 by_cases hmem : d ∈ c.Holidays
 ·rw [dzT hmem, if_pos hmem]; rfl
 ·rw [dzF hmem, if_neg hmem, cond_false, b_split7 n d hd]
  unfold g_days_week wkF
  simp only [obs]
  rw [wi_id (x := d + 7) (by omega) (by omega), Int.tmod_eq_emod_of_nonneg (a := d + 7) (by omega)]
  have hr : 0 ≤ (d + 7) % 7 ∧ (d + 7) % 7 < 7 := by omega
  generalize (d + 7) % 7 = w at hr
  have hw : w = 0 ∨ w = 1 ∨ w = 2 ∨ w = 3 ∨ w = 4 ∨ w = 5 ∨ w = 6 := by omega
  rcases hw with rfl | rfl | rfl | rfl | rfl | rfl | rfl <;> rfl
theorem b_applies (n : Nat) (c : GCl) (a : GAr) (m : Int) (hn : 1000 ≤ n) (h1 : c.Changes.length ≤ 900) (h2 : c.Holidays.length ≤ 900) (hc : calB c = true) (ha : artB a = true) (hm : 0 ≤ m ∧ m ≤ 52560000) :
  g_t_Applies n a c m = some (appB c a m) := by
 have ho := cal_off m hc
 unfold g_t_Applies appB
 rw [b_article, ha, b_local n c m hn h1 h2 hc hm]
 simp only [obs, Bool.not_true, cond_false, eqI_d, decide_true]
 generalize offF m c.Offset c.Changes = o at ho
 rw [wi_id (x := m + o) (by omega) (by omega), wi_id (x := m + o + 1440) (by omega) (by omega)]
 rw [Int.tdiv_eq_ediv_of_nonneg (a := m + o + 1440) (by omega), Int.tmod_eq_emod_of_nonneg (a := m + o + 1440) (by omega)]
 rw [wi_id (x := (m + o + 1440) / 1440) (by omega) (by omega), wi_id (x := (m + o + 1440) / 1440 - 1) (by omega) (by omega)]
 rw [b_type n c _ hn h1 h2 hc (by omega)]
 have ht := typF_range ((m + o + 1440) / 1440 - 1) c.Holidays
 simp only [obs, cond_some, leI, ltI, decide_true, cond_true]
 rw [dzF (show ¬ typF ((m + o + 1440) / 1440 - 1) c.Holidays < 0 by omega)]
 generalize decide (bAnd .i64 a.Days (shlI .i64 1 (typF ((m + o + 1440) / 1440 - 1) c.Holidays)) = 0) = b
 generalize (m + o + 1440) % 1440 = w
 by_cases c1 : a.From ≤ w
 ·by_cases c2 : w < a.To
  ·rw [dzF (show ¬ w < a.From by omega), dzF (show ¬ a.To ≤ w by omega), dzT c1, dzT c2]
   cases b <;> rfl
  ·rw [dzF (show ¬ w < a.From by omega), dzT (show a.To ≤ w by omega), dzF c2]
   cases b <;> simp
 ·rw [dzT (show w < a.From by omega), dzF c1]; rfl
end Go.Proofs
namespace Go.Proofs
open Go Go.Abs
set_option maxRecDepth 100000
set_option linter.unusedVariables false
theorem b_minside (n : Nat) (x a b : Int) : g_money_inside n x a b = some (decide (a ≤ x ∧ x ≤ b)) := by
 unfold g_money_inside leI
 by_cases h : a ≤ x <;> simp [h]
theorem b_amount (n : Nat) (x : Int) : g_money_isAmount n x = some (decide (0 ≤ x ∧ x ≤ 1000000000)) := by
 unfold g_money_isAmount
 rw [b_minside, obs]
theorem b_need (n : Nat) (b : Bool) (e : Int) : g_money_need n b e = some (needE b e) := by cases b <;> rfl
theorem b_checked (n : Nat) (x : Int) : g_money_checked n x = some (if 0 ≤ x ∧ x ≤ 1000000000 then .ok x else .error 3) := by
 unfold g_money_checked
 rw [b_amount, obs, b_need, obs, exc_need]
 by_cases h : 0 ≤ x ∧ x ≤ 1000000000
 ·rw [dzT h, if_pos h]; rfl
 ·rw [dzF h, if_neg h]; rfl
theorem r_checked' (n : Nat) (x : Int) : g_ref31_checked n x = some (if 0 ≤ x ∧ x ≤ 1000000000 then (x, 0) else (0, 3)) := by
 unfold g_ref31_checked
 rw [r_amount, obs]
 by_cases h : 0 ≤ x ∧ x ≤ 1000000000
 ·rw [dzT h, if_pos h]; rfl
 ·rw [dzF h, if_neg h]; rfl
theorem b_end (n : Nat) (x : Int) : ((g_money_checked n x).bind (exc (fun r3 => (g_money_caught n 0).bind fun r5 => some (r3, r5)) fun e4 => (g_money_caught_2 n e4 0).bind fun r6 => some (0, r6))) = ((g_ref31_checked n x).bind fun r8 => some (r8.1, r8.2)) := by
 rw [b_checked, r_checked', obs, obs]
 by_cases h : 0 ≤ x ∧ x ≤ 1000000000
 ·rw [if_pos h, if_pos h]; rfl
 ·rw [if_neg h, if_neg h]; rfl
theorem b_times (n : Nat) (p q d : Int) : g_money_Times n p q d = g_ref31_Times n p q d := by
 unfold g_money_Times g_ref31_Times g_money_Times_j1
 simp only [b_amount, r_amount, b_minside, b_need, obs, exc_need, b_end]
 unfold g_money_half g_ref31_divided
 by_cases c1 : 0 ≤ p ∧ p ≤ 1000000000
 rotate_left
 ·rw [dzF c1]; rfl
 rw [dzT c1]
 by_cases c2 : 0 ≤ q ∧ q ≤ 1000000000
 rotate_left
 ·rw [dzF c2]; rfl
 rw [dzT c2]
 simp only [Bool.not_true, cond_false, cond_true, ltI]
 by_cases c3 : 1 ≤ d
 ·rw [dzF (show ¬ d < 1 by omega)]
  by_cases c4 : d ≤ 1000000000
  ·rw [dzT (show 1 ≤ d ∧ d ≤ 1000000000 from ⟨c3, c4⟩), dzF (show ¬ 1000000000 < d by omega)]; rfl
  ·rw [dzF (show ¬ (1 ≤ d ∧ d ≤ 1000000000) by omega), dzT (show 1000000000 < d by omega)]; rfl
 ·rw [dzT (show d < 1 by omega), dzF (show ¬ (1 ≤ d ∧ d ≤ 1000000000) by omega)]; rfl
theorem b_started (n : Nat) (p q u : Int) : g_money_Started n p q u = g_ref31_Started n p q u := by
 unfold g_money_Started g_ref31_Started g_money_Started_j1
 simp only [b_amount, r_amount, b_minside, b_need, obs, exc_need, b_end]
 by_cases c1 : 0 ≤ p ∧ p ≤ 1000000000
 rotate_left
 ·rw [dzF c1]; rfl
 rw [dzT c1]
 by_cases c2 : 0 ≤ q ∧ q ≤ 1000000000
 rotate_left
 ·rw [dzF c2]; rfl
 rw [dzT c2]
 simp only [Bool.not_true, cond_false, cond_true, ltI]
 by_cases c3 : 1 ≤ u
 ·rw [dzF (show ¬ u < 1 by omega)]
  by_cases c4 : u ≤ 1000000000
  ·rw [dzT (show 1 ≤ u ∧ u ≤ 1000000000 from ⟨c3, c4⟩), dzF (show ¬ 1000000000 < u by omega)]; rfl
  ·rw [dzF (show ¬ (1 ≤ u ∧ u ≤ 1000000000) by omega), dzT (show 1000000000 < u by omega)]; rfl
 ·rw [dzT (show u < 1 by omega), dzF (show ¬ (1 ≤ u ∧ u ≤ 1000000000) by omega)]; rfl
theorem b_tax (n : Nat) (x r : Int) : g_money_Tax n x r = g_ref31_Tax n x r := by
 unfold g_money_Tax g_ref31_Tax g_money_Tax_j1
 simp only [b_amount, r_amount, b_minside, b_need, obs, exc_need, b_end]
 unfold g_money_half g_ref31_divided
 by_cases c1 : 0 ≤ x ∧ x ≤ 1000000000
 rotate_left
 ·rw [dzF c1]; rfl
 rw [dzT c1]
 simp only [Bool.not_true, cond_false, cond_true, ltI]
 by_cases c3 : 0 ≤ r
 ·rw [dzF (show ¬ r < 0 by omega)]
  by_cases c4 : r ≤ 100000
  ·rw [dzT (show 0 ≤ r ∧ r ≤ 100000 from ⟨c3, c4⟩), dzF (show ¬ 100000 < r by omega)]; rfl
  ·rw [dzF (show ¬ (0 ≤ r ∧ r ≤ 100000) by omega), dzT (show 100000 < r by omega)]; rfl
 ·rw [dzT (show r < 0 by omega), dzF (show ¬ (0 ≤ r ∧ r ≤ 100000) by omega)]; rfl
def amt (x : Int) : Except Int Int := if x ≤ 1000000000 then .ok x else .error 3
theorem b_must (n : Nat) (x : Int) : g_bill_must n (if x ≤ 1000000000 then (x, 0) else (0, 3) : Int × Int).1 (if x ≤ 1000000000 then (x, 0) else (0, 3) : Int × Int).2 = some (amt x) := by
 unfold amt
 by_cases h : x ≤ 1000000000
 ·rw [if_pos h, if_pos h]; rfl
 ·rw [if_neg h, if_neg h]; rfl
theorem b_session (n : Nat) (s : GSs) (hn : 1000 ≤ n) (hl : s.Slices.length ≤ 900) (hb : i64b s.To) : g_bill_Valid n s = some (valB s) := by
 unfold i64b at hb
 unfold g_bill_Valid valB
 simp only [ltI, leI, lenI, List.length_map]
 by_cases c1 : s.From < 0
 ·rw [dzT c1, cond_true, obs, cond_true, dzF (by omega)]; rfl
 rw [dzF c1, cond_false]
 by_cases c2 : s.To ≤ s.From
 ·rw [dzT c2, cond_true, obs, cond_true, dzF (by omega)]; rfl
 rw [dzF c2, cond_false, wi_id (x := s.To - s.From) (by omega) (by omega)]
 by_cases c4 : 2880 < s.To - s.From
 ·rw [dzT c4, cond_true, obs, cond_true, dzF (by omega)]; rfl
 rw [dzF c4, cond_false, obs]
 by_cases c3 : 52560000 < s.To
 ·rw [dzT c3, cond_true, dzF (by omega)]; rfl
 rw [dzF c3, cond_false]
 by_cases c5 : s.End < s.From
 ·rw [dzT c5, cond_true, obs, cond_true, dzF (by omega)]; rfl
 rw [dzF c5, cond_false]
 by_cases c6 : s.To < s.End
 ·rw [dzT c6, cond_true, obs, cond_true, dzF (by omega)]; rfl
 rw [dzF c6, cond_false, obs]
 by_cases c7 : s.Slices.length ≤ 48
 rotate_left
 ·rw [dzT (show (48 : Int) < s.Slices.length by omega), cond_true, dzF (show ¬ (0 ≤ s.From ∧ s.From < s.To ∧ s.To ≤ 52560000 ∧ s.To - s.From ≤ 2880 ∧ s.From ≤ s.End ∧ s.End ≤ s.To ∧ s.Slices.length ≤ 48) by omega)]; rfl
 rw [dzF (show ¬ (48 : Int) < s.Slices.length by omega), cond_false, dzT (show 0 ≤ s.From ∧ s.From < s.To ∧ s.To ≤ 52560000 ∧ s.To - s.From ≤ 2880 ∧ s.From ≤ s.End ∧ s.End ≤ s.To ∧ s.Slices.length ≤ 48 by omega), Bool.true_and, wi_id (x := s.From - 1) (by omega) (by omega)]
 have := loop_gen (l := s.Slices) (fun (a : Int) i => (a, i)) (B := fun recl8 (v : Int × Int) => g_bill_Valid_l8 s recl8 v.1 v.2) (F := slB s.From s.End) (fun i a => s.From - 1 ≤ a) (by omega) ?_ ?_ (n := n) 0 (s.From - 1) (Int.le_refl _) (by omega) (by omega)
 ·exact this
 ·intro rec a ha
  simp only [g_bill_Valid_l8, lenI, List.length_map, ltI]
  rw [dzF (by omega), cond_false]
  rfl
 ·intro rec a i x r ha hd hx hi hw hr
  simp only [g_bill_Valid_l8, lenI, List.length_map, ltI, leI, getI_nat, hx, obs, hw]
  rw [dzT (by omega), cond_true, slB]
  by_cases d1 : x.Minute ≤ a
  ·rw [dzT d1, cond_true, obs, cond_true, dzF (by omega)]; rfl
  rw [dzF d1, cond_false]
  by_cases d2 : s.End ≤ x.Minute
  ·rw [dzT d2, cond_true, obs, cond_true, dzF (by omega)]; rfl
  rw [dzF d2, cond_false]
  by_cases d3 : x.Energy < 0
  ·rw [dzT d3, cond_true, obs, cond_true, dzF (by omega)]; rfl
  rw [dzF d3, cond_false, obs]
  by_cases d4 : 10000 < x.Energy
  ·rw [dzT d4, cond_true, dzF (by omega)]; rfl
  rw [dzF d4, cond_false, hr x.Minute (by omega), dzT (by omega)]; rfl
theorem b_stretch (n : Nat) (c : GCl) (a : GAr) (s : GSs) (f t : Int) (hn : 10000 ≤ n) (h1 : c.Changes.length ≤ 900) (h2 : c.Holidays.length ≤ 900) (hc : calB c = true) (ha : artB a = true) (hk34 : a.Kind = 3 ∨ a.Kind = 4) (hf : 0 ≤ f) (ht : t ≤ 52560000) (hk : t - f ≤ 2880) :
  g_bb_stretch n (⟨a, c, s⟩ : GBB) f t = some (amt (staF c a f t)) := by
 unfold g_bb_stretch
 have key : ∀ (k j : Nat) (z m : Int), (t - m).toNat = k → k < j → 0 ≤ m → k ≤ 2880 → 0 ≤ z ∧ z ≤ 3000 - k →
   loopN (fun recl3 (v : Int × Int) => g_bb_stretch_l3 n (⟨a, c, s⟩ : GBB) t recl3 v.1 v.2) j (m, z) = some (z + cN c a k m) := by
  intro k
  induction k with
  | zero =>
   intro j z m h3 h4 h5 h6 h7
   obtain ⟨j, rfl⟩ : ∃ j', j = j' + 1 := ⟨j - 1, by omega⟩
   unfold loopN
   simp only [g_bb_stretch_l3, ltI]
   rw [dzF (by omega), cond_false]
   simp [cN]
  | succ k ih =>
   intro j z m h3 h4 h5 h6 h7
   obtain ⟨j, rfl⟩ : ∃ j', j = j' + 1 := ⟨j - 1, by omega⟩
   have i0 := ih j z (m + 1) (by omega) (by omega) (by omega) (by omega) (by omega)
   have i1 := ih j (z + 1) (m + 1) (by omega) (by omega) (by omega) (by omega) (by omega)
   unfold loopN
   generalize loopN (fun recl3 (v : Int × Int) => g_bb_stretch_l3 n (⟨a, c, s⟩ : GBB) t recl3 v.1 v.2) j = L at i0 i1 ⊢
   show g_bb_stretch_l3 n (⟨a, c, s⟩ : GBB) t L m z = _
   unfold g_bb_stretch_l3 g_bb_applies
   simp only [ltI]
   rw [dzT (by omega), cond_true, b_applies n c a m (by omega) h1 h2 hc ha (by omega), obs, obs, wi_id (x := m + 1) (by omega) (by omega), wi_id (x := z + 1) (by omega) (by omega)]
   unfold cN
   cases appB c a m
   ·rw [cond_false, obs, i0]
    simp
   ·rw [cond_true, obs, i1]
    simp
    omega
 have hloop := key (t - f).toNat n 0 f rfl (by omega) hf (by omega) (by omega)
 rw [Int.zero_add] at hloop
 obtain ⟨g1, g2⟩ := r_sta n c a f t hn h1 h2 hc ha hk34 hf ht hk
 rw [r_minutes n c a f t hn h1 h2 hc ha hf ht hk, obs] at g1
 simp only
 refine (congrArg (fun o => Option.bind o _) hloop).trans ?_
 rw [obs, b_started]
 cases hS : g_ref31_Started n a.Price (maxI 0 (wi (cN c a (t - f).toNat f - a.Free))) a.Unit with
 | none => rw [hS] at g1; cases g1
 | some r =>
  rw [hS, obs] at g1
  have hr : r = if staF c a f t ≤ 1000000000 then (staF c a f t, 0) else (0, 3) := Option.some.inj g1
  rw [obs, hr]
  rw [b_must n (staF c a f t), obs]
  unfold amt
  by_cases h : staF c a f t ≤ 1000000000
  ·rw [if_pos h]; rfl
  ·rw [if_neg h]; rfl
def endE (rate net : Int) (l : List GLine) : Except Int GBill :=
 if net ≤ 1000000000 ∧ wi (net + taxF net rate) ≤ 1000000000 then .ok ⟨l, net, taxF net rate, wi (net + taxF net rate)⟩ else .error 3
theorem b_sum1 (n : Nat) (rate cap : Int) (l : OL GLine) (z : Int) (hr : 0 ≤ rate ∧ rate ≤ 10000) (hz : 0 ≤ z) : g_bill_sum_j1 n rate cap l z = some (endE rate (capV cap z) l.toL) := by
 unfold g_bill_sum_j1
 have e : (bif leI 0 cap then some (minI z cap) else some z) = some (capV cap z) := by
  unfold capV leI minI
  by_cases c1 : 0 ≤ cap <;> by_cases c2 : cap < z <;> simp [c1, c2]
 rw [e, obs]
 have hnet : 0 ≤ capV cap z := by unfold capV; split <;> omega
 generalize capV cap z = net at hnet
 unfold endE
 rw [b_tax]
 by_cases c : 1000000000 < net
 ·have : g_ref31_Tax n net rate = some (0, 1) := by
   unfold g_ref31_Tax
   rw [r_amount, dzF (show ¬ (0 ≤ net ∧ net ≤ 1000000000) by omega)]; rfl
  rw [this, if_neg (by omega)]; rfl
 ·obtain ⟨g1, g2, g3⟩ := r_tax n net rate (by omega) hr
  rw [g1, obs]
  have hm : g_bill_must n (taxF net rate) 0 = some (.ok (taxF net rate)) := rfl
  simp only [hm, obs, exc, ltI]
  by_cases c2 : 1000000000 < wi (net + taxF net rate)
  ·rw [dzT c2, cond_true, if_neg (by omega)]
  ·rw [dzF c2, cond_false, if_pos (by omega)]
theorem b_sum (n : Nat) (t : GTf) (c : GCl) (s : GSs) (hn : 10000 ≤ n) (h1 : c.Changes.length ≤ 900) (h2 : c.Holidays.length ≤ 900) (hc : calB c = true) (ht : tariffB t = true) (hv : valB s = true) :
  g_bill_sum n t c s = some (if linB (linF c s 0 t.Articles) then (if bilB (bilF t (rateF 0 t.Articles) 0 (linF c s 0 t.Articles)) then .ok (bilF t (rateF 0 t.Articles) 0 (linF c s 0 t.Articles)) else .error 3) else .error 3) := by
 have ht' := ht
 simp only [tariffB, bae, decide_eq_true_eq] at ht'
 have hall := tarB_all ht'.2
 have hArt := fun a h => artB_art (hall a h)
 have hv' := hv
 simp only [valB, bae, decide_eq_true_eq] at hv'
 obtain ⟨hrng, hsl⟩ := hv'
 have hm := slB_mem hsl
 unfold g_bill_sum
 have := loop_gen (l := t.Articles) (fun (a : Int × Int × OL GLine × Int) i => (a.1, a.2.1, i, a.2.2.1, a.2.2.2)) (B := fun recl6 (v : Int × Int × Int × (OL GLine) × Int) => g_bill_sum_l6 n t c s recl6 v.1 v.2.1 v.2.2.1 v.2.2.2.1 v.2.2.2.2)
  (F := fun a r => if linB (linF c s (t.Articles.length - r.length) r) then endE (rateF a.1 r) (capV (capR a.2.1 r) (sumF a.2.2.2 (linF c s (t.Articles.length - r.length) r))) (a.2.2.1.toL ++ linF c s (t.Articles.length - r.length) r) else .error 3)
  (fun i a => (0 ≤ a.1 ∧ a.1 ≤ 10000) ∧ a.2.2.1.toL.length ≤ i ∧ 0 ≤ a.2.2.2 ∧ a.2.2.2 ≤ 1000000000 * i) (by omega) ?_ ?_ (n := n) 0 (0, -1, OL.nil, 0) (by simp) (by omega) (by omega)
 ·rw [show ((0 : Nat) : Int) = 0 from rfl] at this
  refine this.trans ?_
  simp only [OL.toL_nil, List.nil_append, List.drop_zero, Nat.sub_self]
  rw [← capF_R _ _ _ (fun a h => (hArt a h).price.1), show ∀ z, capV (-1) z = z from fun z => by unfold capV; rw [if_neg (by omega)]]
  unfold endE bilF bilB netF
  simp only [bae, decide_eq_true_eq]
 ·intro rec a ha
  have h : ltI ((t.Articles.length : Nat) : Int) (lenI (List.map GAr.cs t.Articles)) = false := by simp [ltI, lenI]
  show g_bill_sum_l6 n t c s rec a.1 a.2.1 ((t.Articles.length : Nat) : Int) a.2.2.1 a.2.2.2 = _
  unfold g_bill_sum_l6
  rw [h, cond_false, b_sum1 n _ _ _ _ ha.1 ha.2.2.1]
  simp [linF, linB, rateF, capR, sumF]
 ·intro rec a i x r hi0 hd hx hi hw hr
  have h3 : ltI (i : Int) (lenI (List.map GAr.cs t.Articles)) = true := by
   simp only [ltI, lenI, List.length_map]
   rw [dzT (by omega)]
  have hidx := drop_idx hd hi
  have hxa := hall x (List.mem_of_getElem? hx)
  have hA := artB_art hxa
  simp only [List.length_cons, hidx.1]
  simp only [hidx.2] at hr
  obtain ⟨rate, cap, acc, z⟩ := a
  simp only at hi0 ⊢
  show g_bill_sum_l6 n t c s rec rate cap (i : Int) acc z = _
  unfold g_bill_sum_l6
  rw [h3, cond_true, getI_nat, hx, obs, hw]
  simp only [eqI_d]
  unfold linF rateF capR
  by_cases k5 : x.Kind = 5
  ·rw [dzT k5, cond_true, if_pos (Or.inl k5), if_neg (show ¬ x.Kind = 6 by omega), if_pos k5]
   have hcap := fun k => hr (rate, k, acc, z) ⟨hi0.1, by simp only; omega, hi0.2.2.1, by simp only; omega⟩
   simp only at hcap
   simp only [ltI, cond_some, obs]
   rw [hcap, hcap]
   by_cases c1 : cap < 0
   ·simp [c1]
   ·by_cases c2 : x.Price < cap <;> simp [c1, c2]
  rw [dzF k5, cond_false]
  by_cases k6 : x.Kind = 6
  ·have := hr (x.Price, cap, acc, z) ⟨⟨hA.price.1, hA.rate k6⟩, by simp only; omega, by simp only; omega, by simp only; omega⟩
   simp only at this
   rw [dzT k6, cond_true, if_pos (Or.inr k6), if_pos k6, if_neg k5, this]
  rw [dzF k6, cond_false, if_neg (show ¬ (x.Kind = 5 ∨ x.Kind = 6) by omega), if_neg k6, if_neg k5]
  have g2 := (r_line n c x s hn h1 h2 hc hxa hv).2
  have hj : ∀ y, 0 ≤ y → y ≤ 1000000000 → g_bill_sum_j10 rate cap (i : Int) acc z rec y = some (if linB (linF c s (i + 1) r) then endE (rateF rate r) (capV (capR cap r) (sumF (z + y) (linF c s (i + 1) r))) (acc.toL ++ ⟨(i : Int), y⟩ :: linF c s (i + 1) r) else .error 3) := by
   intro y hy0 hy
   unfold g_bill_sum_j10
   have hroom : roomB (List.length (acc.toL ++ [(⟨(i : Int), y⟩ : GLine)])) 16 = true := by
    simp only [roomB, List.length_append, List.length_cons, List.length_nil]
    rw [dzT]
    omega
   have := hr (rate, cap, OL.own (acc.toL ++ [(⟨(i : Int), y⟩ : GLine)]), z + y) ⟨hi0.1, by simp only [OL.toL_own, List.length_append, List.length_cons, List.length_nil]; omega, by simp only; omega, by simp only; omega⟩
   simp only at this
   rw [hroom, cond_true, wi_id (x := z + y) (by omega) (by omega), hw, this]
   simp only [OL.toL_own, List.append_assoc, List.singleton_append]
  have hgoal : ∀ (y : Int), cosF c s x = y → 0 ≤ y → ∀ (p : Option (Except Int GBill)), p = (exc (fun y => g_bill_sum_j10 rate cap (i : Int) acc z rec y) (fun e => some (.error e)) (amt y)) →
    p = some (if linB (⟨(i : Int), cosF c s x⟩ :: linF c s (i + 1) r) then endE (rateF rate r) (capV (capR cap r) (sumF z (⟨(i : Int), cosF c s x⟩ :: linF c s (i + 1) r))) (acc.toL ++ ⟨(i : Int), cosF c s x⟩ :: linF c s (i + 1) r) else .error 3) := by
   rintro y rfl hy0 p rfl
   rw [linB_cons]
   unfold amt
   by_cases hb : cosF c s x ≤ 1000000000
   ·rw [if_pos hb, dzT hb]
    simp only [exc, Bool.true_and]
    rw [hj _ hy0 hb, show ∀ l, sumF z (⟨(i : Int), cosF c s x⟩ :: l) = sumF (wi (z + cosF c s x)) l from fun _ => rfl, wi_id (x := z + cosF c s x) (by omega) (by omega)]
   ·rw [if_neg hb, dzF hb]
    rfl
  have hcos : cosF c s x = if x.Kind = 1 then (if appB c x s.From then x.Price else 0) else if x.Kind = 2 then wi (Int.tdiv (wi (wi (wi (2 * x.Price) * eneF c x 0 s.Slices) + 1000)) 2000) else if x.Kind = 3 then staF c x s.From s.To else if x.Kind = 4 then staF c x s.End s.To else 0 := rfl
  by_cases k1 : x.Kind = 1
  ·rw [dzT k1, cond_true]
   rw [if_pos k1] at hcos
   unfold g_bb_applies
   have hp := hA.price
   rw [b_applies n c x s.From (by omega) h1 h2 hc hxa (by omega), obs, obs]
   cases happ : appB c x s.From
   ·rw [happ] at hcos
    refine hgoal 0 hcos (Int.le_refl _) _ ?_
    rfl
   ·rw [happ] at hcos
    refine hgoal x.Price hcos hp.1 _ ?_
    unfold amt
    rw [if_pos (by omega)]; rfl
  rw [dzF k1, cond_false]
  rw [if_neg k1] at hcos
  by_cases k2 : x.Kind = 2
  ·rw [dzT k2, cond_true]
   rw [if_pos k2] at hcos
   have hloop : loopN (fun recl13 (v : Int × Int) => g_bill_sum_l13 n c s x recl13 v.1 v.2) n (0, 0) = some (eneF c x 0 s.Slices) := by
    have := loop_acc (l := s.Slices) (B := fun recl13 (v : Int × Int) => g_bill_sum_l13 n c s x recl13 v.1 v.2) (F := eneF c x) (by omega) ?_ ?_ (n := n) 0 0 (by omega) (by omega)
    ·exact this
    ·intro rec z
     have h : ltI ((s.Slices.length : Nat) : Int) (lenI (List.map GSl.cs s.Slices)) = false := by simp [ltI, lenI]
     show g_bill_sum_l13 n c s x rec z ((s.Slices.length : Nat) : Int) = some z
     unfold g_bill_sum_l13
     rw [h, cond_false]
    ·intro rec z i y q hd hy hi hw hr
     have h3 : ltI (i : Int) (lenI (List.map GSl.cs s.Slices)) = true := by
      simp only [ltI, lenI, List.length_map]
      rw [dzT (by omega)]
     have hym := hm y (List.mem_of_getElem? hy)
     show g_bill_sum_l13 n c s x rec z (i : Int) = some (eneF c x z (y :: q))
     unfold g_bill_sum_l13 eneF g_bb_applies
     rw [h3, cond_true, getI_nat, hy, obs, b_applies n c x y.Minute (by omega) h1 h2 hc hxa (by omega), obs, obs, hw, hr, hr]
     cases appB c x y.Minute
     ·rfl
     ·rfl
   have he := eneF_range c x s.Slices 0 (fun y hy => by have := hm y hy; omega) (by omega) (by omega)
   obtain ⟨g3, g4⟩ := r_times n x.Price (eneF c x 0 s.Slices) hA.price (by omega)
   refine hgoal _ hcos g4 _ ?_
   refine (congrArg (fun o => Option.bind o _) hloop).trans ?_
   rw [obs, b_times, g3, obs]
   refine (congrArg (fun o => Option.bind o _) (b_must n _)).trans ?_
   rw [obs]
  rw [dzF k2, cond_false]
  rw [if_neg k2] at hcos
  by_cases k3 : x.Kind = 3
  ·rw [dzT k3, cond_true]
   rw [if_pos k3] at hcos
   refine hgoal _ hcos (by rw [← hcos]; exact g2) _ ?_
   rw [b_stretch n c x s s.From s.To hn h1 h2 hc hxa (Or.inl k3) hrng.1 (by omega) (by omega), obs]
  rw [dzF k3, cond_false]
  rw [if_neg k3] at hcos
  by_cases k4 : x.Kind = 4
  ·rw [dzT k4, cond_true]
   rw [if_pos k4] at hcos
   refine hgoal _ hcos (by rw [← hcos]; exact g2) _ ?_
   rw [b_stretch n c x s s.End s.To hn h1 h2 hc hxa (Or.inr k4) (by omega) (by omega) (by omega), obs]
  have := hA.kind
  omega
theorem b_bill (n : Nat) (t : GTf) (c : GCl) (s : GSs) (hn : 10000 ≤ n) (h1 : c.Changes.length ≤ 900) (h2 : c.Holidays.length ≤ 900) (h3 : s.Slices.length ≤ 900) (hb : i64b s.To) :
  g_bill_Bill n t c s = some (if (tariffB t && calB c && valB s) = true then (if linB (linF c s 0 t.Articles) then (if bilB (bilF t (rateF 0 t.Articles) 0 (linF c s 0 t.Articles)) then (bilF t (rateF 0 t.Articles) 0 (linF c s 0 t.Articles), 0) else (zeroBill, 3)) else (zeroBill, 3)) else (zeroBill, 1)) := by
 unfold g_bill_Bill
 rw [b_tariff n t (by omega), b_cal n c (by omega) h1 h2, b_session n s (by omega) h3 hb]
 simp only [obs, cond_some]
 cases ht : tariffB t
 ·rfl
 cases hc : calB c
 ·rfl
 cases hv : valB s
 ·rfl
 rw [b_sum n t c s hn h1 h2 hc ht hv]
 simp only [Bool.not_true, cond_false, obs, Bool.and_self, if_true]
 cases linB (linF c s 0 t.Articles)
 ·rfl
 ·cases bilB (bilF t (rateF 0 t.Articles) 0 (linF c s 0 t.Articles))
  ·rfl
  ·rfl
end Go.Proofs
namespace Go.Proofs
open Go Go.Abs
set_option maxRecDepth 100000
set_option linter.unusedVariables false
def bilV (t : GTf) (c : GCl) (s : GSs) : GBill × Int := if (tariffB t && calB c && valB s) = true then (if linB (linF c s 0 t.Articles) then (if bilB (bilF t (rateF 0 t.Articles) 0 (linF c s 0 t.Articles)) then (bilF t (rateF 0 t.Articles) 0 (linF c s 0 t.Articles), 0) else (zeroBill, 3)) else (zeroBill, 3)) else (zeroBill, 1)
theorem b_billV (n : Nat) (t : GTf) (c : GCl) (s : GSs) (hn : 10000 ≤ n) (h1 : c.Changes.length ≤ 900) (h2 : c.Holidays.length ≤ 900) (h3 : s.Slices.length ≤ 900) (hb : i64b s.To) : g_bill_Bill n t c s = some (bilV t c s) := b_bill n t c s hn h1 h2 h3 hb
theorem r_billV (n : Nat) (t : GTf) (c : GCl) (s : GSs) (hn : 10000 ≤ n) (h1 : c.Changes.length ≤ 900) (h2 : c.Holidays.length ≤ 900) (h3 : s.Slices.length ≤ 900) (h4 : t.Name.length ≤ 900) (hb : i64b s.From) : g_ref33_Bill n t c s = some (bilV t c s) := by
 unfold bilV
 cases ht : tariffB t
 ·unfold g_ref33_Bill
  rw [r_tariff n t (by omega) h4, r_cal n c (by omega) h1 h2, r_session_valid n s (by omega) h3 hb, ht]; rfl
 cases hc : calB c
 ·unfold g_ref33_Bill
  rw [r_tariff n t (by omega) h4, r_cal n c (by omega) h1 h2, r_session_valid n s (by omega) h3 hb, ht, hc]; rfl
 cases hv : valB s
 ·unfold g_ref33_Bill
  rw [r_tariff n t (by omega) h4, r_cal n c (by omega) h1 h2, r_session_valid n s (by omega) h3 hb, ht, hc, hv]; rfl
 rw [r_bill n t c s hn h1 h2 hc ht hv]; rfl
theorem few33 (n : Nat) (t : GTf) (k : GCl) (s : GSs) : ∃ b, g_ref33_Few n t k s = some b ∧ (b = true → t.Articles.length ≤ 20 ∧ s.Slices.length ≤ 60 ∧ k.Changes.length ≤ 30 ∧ k.Holidays.length ≤ 60 ∧ t.Name.length ≤ 50) := by
 unfold g_ref33_Few g_ref26_Few
 simp only [cond_some, obs, lenI, List.length_map, leI]
 refine ⟨_, rfl, fun h => ?_⟩
 simp [Bool.cond_eq_ite] at h
 omega
end Go.Proofs
namespace Go.Proofs
open Go Go.Abs
set_option maxRecDepth 100000
set_option linter.unusedVariables false
def enS (c : GCl) (a : GAr) : List GSl → Int
 | [] => 0
 | x :: r => (if appB c a x.Minute then x.Energy else 0) + enS c a r
end Go.Proofs
namespace Go.Proofs
open Go Go.Abs
set_option maxRecDepth 100000
set_option linter.unusedVariables false
def isLn (a : GAr) : Bool := !(decide (a.Kind = 5) || decide (a.Kind = 6))
theorem isLn_iff (a : GAr) : isLn a = true ↔ ¬ (a.Kind = 5 ∨ a.Kind = 6) := by
 unfold isLn
 simp
def sumA (c : GCl) (s : GSs) : List GAr → Int
 | [] => 0
 | a :: r => (if isLn a then cosF c s a else 0) + sumA c s r
def okA (c : GCl) (s : GSs) (l : List GAr) : Bool := l.all fun a => !isLn a || decide (cosF c s a ≤ 1000000000)
theorem linB_okA (c : GCl) (s : GSs) : ∀ (l : List GAr) (i : Nat), linB (linF c s i l) = okA c s l
 | [], _ => rfl
 | a :: r, i => by
  have ih := linB_okA c s r (i + 1)
  unfold okA at ih ⊢
  rw [List.all_cons, ← ih, show linF c s i (a :: r) = if a.Kind = 5 ∨ a.Kind = 6 then linF c s (i + 1) r else ⟨(i : Int), cosF c s a⟩ :: linF c s (i + 1) r from rfl]
  by_cases h : a.Kind = 5 ∨ a.Kind = 6
  ·rw [if_pos h, show isLn a = false from by cases hl : isLn a with | false => rfl | true => exact absurd h ((isLn_iff a).1 hl)]
   simp
  ·rw [if_neg h, (isLn_iff a).2 h, linB_cons]
   simp
theorem sumF_A (c : GCl) (s : GSs) : ∀ (l : List GAr) (i : Nat) (z : Int), okA c s l = true → (∀ a ∈ l, 0 ≤ cosF c s a) → 0 ≤ z → z + 1000000000 * l.length ≤ 1000000000000000 → sumF z (linF c s i l) = z + sumA c s l ∧ 0 ≤ sumA c s l ∧ sumA c s l ≤ 1000000000 * l.length
 | [], i, z, _, _, h0, h1 => by
  refine ⟨?_, Int.le_refl _, ?_⟩
  ·show z = z + 0
   omega
  ·show (0 : Int) ≤ 1000000000 * ((0 : Nat) : Int)
   omega
 | a :: r, i, z, hok, hp, h0, h1 => by
  unfold okA at hok
  rw [List.all_cons, bae] at hok
  have hpa := hp a List.mem_cons_self
  simp only [List.length_cons] at h1 ⊢
  rw [show linF c s i (a :: r) = if a.Kind = 5 ∨ a.Kind = 6 then linF c s (i + 1) r else ⟨(i : Int), cosF c s a⟩ :: linF c s (i + 1) r from rfl, show sumA c s (a :: r) = (if isLn a then cosF c s a else 0) + sumA c s r from rfl]
  by_cases h : a.Kind = 5 ∨ a.Kind = 6
  ·have hl : isLn a = false := by cases hl : isLn a with | false => rfl | true => exact absurd h ((isLn_iff a).1 hl)
   obtain ⟨g1, g2, g3⟩ := sumF_A c s r (i + 1) z hok.2 (fun x hx => hp x (List.mem_cons_of_mem _ hx)) h0 (by omega)
   rw [if_pos h, hl, g1]
   simp only [Bool.false_eq_true, if_false]
   omega
  ·have hl := (isLn_iff a).2 h
   have hle : cosF c s a ≤ 1000000000 := by
    have := hok.1
    rw [hl] at this
    simpa using this
   obtain ⟨g1, g2, g3⟩ := sumF_A c s r (i + 1) (z + cosF c s a) hok.2 (fun x hx => hp x (List.mem_cons_of_mem _ hx)) (by omega) (by omega)
   rw [if_neg h, hl, show ∀ q, sumF z (⟨(i : Int), cosF c s a⟩ :: q) = sumF (wi (z + cosF c s a)) q from fun _ => rfl, wi_id (x := z + cosF c s a) (by omega) (by omega), g1]
   simp only [if_true]
   omega
end Go.Proofs
namespace Go.Proofs
open Go Go.Abs
set_option maxRecDepth 100000
set_option linter.unusedVariables false
theorem capF_range : ∀ (l : List GAr) (z : Int), (∀ a ∈ l, 0 ≤ a.Price) → 0 ≤ z → 0 ≤ capF z l ∧ capF z l ≤ z
 | [], z, _, h => ⟨h, Int.le_refl _⟩
 | a :: r, z, hp, h => by
  have ha := hp a List.mem_cons_self
  rw [show capF z (a :: r) = capF (if a.Kind = 5 then minI z a.Price else z) r from rfl]
  have hz : 0 ≤ (if a.Kind = 5 then minI z a.Price else z) ∧ (if a.Kind = 5 then minI z a.Price else z) ≤ z := by
   split
   ·unfold minI; split <;> omega
   ·omega
  have := capF_range r _ (fun x hx => hp x (List.mem_cons_of_mem _ hx)) hz.1
  omega
theorem rateQ {l : List GAr} (h : ∀ a ∈ l, artB a = true) : 0 ≤ rateF 0 l ∧ rateF 0 l ≤ 10000 := rateF_range l 0 (fun a ha => ⟨(artB_art (h a ha)).price.1, (artB_art (h a ha)).rate⟩) (by omega)
theorem tariffB_spec {t : GTf} (h : tariffB t = true) : (∀ a ∈ t.Articles, artB a = true) ∧ t.Articles.length ≤ 12 := by
 simp only [tariffB, bae, decide_eq_true_eq] at h
 exact ⟨tarB_all h.2, h.1.2⟩
end Go.Proofs
namespace Go.Proofs
open Go Go.Abs
set_option maxRecDepth 100000
set_option linter.unusedVariables false
def xS (c : GCl) (sl : List GSl) : List GAr → Int
 | [] => 0
 | a :: r => (if a.Kind = 2 then a.Price * enS c a sl else 0) + xS c sl r
end Go.Proofs
namespace Go.Proofs
open Go Go.Abs
set_option maxRecDepth 100000
set_option linter.unusedVariables false
def inP (f t : Int) (x : GSl) : Bool := decide (f ≤ x.Minute) && decide (x.Minute < t)
def parL (f t : Int) (l : List GSl) : List GSl := l.filter (inP f t)
def parV (s : GSs) (f t : Int) : GSs := ⟨f, t, minI (maxI s.End f) t, parL f t s.Slices⟩
theorem parL_len (f t : Int) (l : List GSl) : (parL f t l).length ≤ l.length := List.length_filter_le _ _
theorem l_session (n : Nat) (s : GSs) (hn : 1000 ≤ n) (hb : i64b s.To) : g_bill_Valid n s = some (valB s) := by
 by_cases hl : s.Slices.length ≤ 900
 ·exact b_session n s hn hl hb
 unfold i64b at hb
 unfold g_bill_Valid valB
 simp only [ltI, leI, lenI, List.length_map]
 rw [dzF (show ¬ (0 ≤ s.From ∧ s.From < s.To ∧ s.To ≤ 52560000 ∧ s.To - s.From ≤ 2880 ∧ s.From ≤ s.End ∧ s.End ≤ s.To ∧ s.Slices.length ≤ 48) by omega), Bool.false_and]
 rw [dzT (show (48 : Int) < s.Slices.length by omega)]
 cases decide (s.From < 0) <;> cases decide (s.To ≤ s.From) <;> cases decide (2880 < wi (s.To - s.From)) <;> cases decide (52560000 < s.To) <;> cases decide (s.End < s.From) <;> cases decide (s.To < s.End) <;> rfl
theorem l_part (n : Nat) (s : GSs) (f t : Int) (hn : 1000 ≤ n) (hl : s.Slices.length ≤ 900) : g_l_part n s f t = some (parV s f t) := by
 unfold g_l_part
 have := loop_gen (l := s.Slices) (fun (a : OL GSl) i => (i, a)) (B := fun recl1 (v : Int × OL GSl) => g_l_part_l1 s f t recl1 v.1 v.2) (F := fun a r => (⟨f, t, minI (maxI s.End f) t, a.toL ++ parL f t r⟩ : GSs)) (fun i a => a.toL.length ≤ i) (by omega) ?_ ?_ (n := n) 0 OL.nil (Nat.le_refl _) (by omega) (by omega)
 ·refine Eq.trans this ?_
  simp [parV, OL.toL]
 ·intro rec a ha
  simp only [g_l_part_l1, lenI, List.length_map, ltI]
  rw [dzF (by omega), cond_false]
  simp [parL]
 ·intro rec a i x r ha hd hx hi hw hr
  simp only [g_l_part_l1, lenI, List.length_map, ltI, leI, getI_nat, hx, obs, hw]
  rw [dzT (by omega), cond_true]
  have e1 : ((bif decide (f ≤ x.Minute) then some (decide (x.Minute < t)) else some false).bind fun j3 => bif j3 then bif roomB (List.length (a.toL ++ [x])) 16 then rec (((i + 1 : Nat) : Int), OL.own (a.toL ++ [x])) else none else rec (((i + 1 : Nat) : Int), a)) = (bif inP f t x then bif roomB (List.length (a.toL ++ [x])) 16 then rec (((i + 1 : Nat) : Int), OL.own (a.toL ++ [x])) else none else rec (((i + 1 : Nat) : Int), a)) := by
   unfold inP
   cases decide (f ≤ x.Minute) <;> cases decide (x.Minute < t) <;> rfl
  rw [e1]
  have e2 : roomB (List.length (a.toL ++ [x])) 16 = true := by
   simp only [roomB, List.length_append, List.length_cons, List.length_nil, decide_eq_true_eq]
   omega
  rw [e2, cond_true]
  have e3 : parL f t (x :: r) = bif inP f t x then x :: parL f t r else parL f t r := by
   unfold parL
   rw [List.filter_cons]
   cases inP f t x <;> rfl
  rw [e3]
  cases inP f t x
  ·rw [cond_false, cond_false]
   exact hr a (by omega)
  ·rw [cond_true, cond_true]
   refine (hr (OL.own (a.toL ++ [x])) ?_).trans ?_
   ·show (a.toL ++ [x]).length ≤ i + 1
    simp only [List.length_append, List.length_cons, List.length_nil]; omega
   ·simp [OL.toL]
theorem slB_memP {f e : Int} : ∀ (l : List GSl) (p : Int), slB f e p l = true → ∀ x ∈ l, f ≤ x.Minute ∧ x.Minute < e ∧ 0 ≤ x.Energy ∧ x.Energy ≤ 10000 ∧ p < x.Minute
 | [], _, _, x, hx => by cases hx
 | y :: l, p, h, x, hx => by
  simp only [slB, bae, decide_eq_true_eq] at h
  rcases List.mem_cons.1 hx with rfl | hx
  ·exact h.1
  ·have := slB_memP l _ h.2 x hx
   omega
theorem slB_mono {f e f' e' : Int} : ∀ (l : List GSl) (p p' : Int), slB f e p l = true → (∀ x ∈ l, f' ≤ x.Minute ∧ x.Minute < e' ∧ p' < x.Minute) → slB f' e' p' l = true
 | [], _, _, _, _ => rfl
 | y :: l, p, p', h, hx => by
  have hm := slB_memP (f := f) (e := e) l
  simp only [slB, bae, decide_eq_true_eq] at h ⊢
  have h1 := hx y (List.mem_cons_self ..)
  refine ⟨by omega, slB_mono l _ _ h.2 fun x hxl => ?_⟩
  have h2 := hx x (List.mem_cons_of_mem _ hxl)
  have h3 := hm _ h.2 x hxl
  omega
theorem slB_filter {f e : Int} (q : GSl → Bool) : ∀ (l : List GSl) (p : Int), slB f e p l = true → slB f e p (l.filter q) = true
 | [], _, _ => rfl
 | y :: l, p, h => by
  have h0 := h
  simp only [slB, bae, decide_eq_true_eq] at h
  rw [List.filter_cons]
  split
  ·simp only [slB, bae, decide_eq_true_eq]
   exact ⟨h.1, slB_filter q l _ h.2⟩
  ·refine slB_filter q l p (slB_mono l _ _ h.2 fun x hx => ?_)
   have := slB_memP l _ h.2 x hx
   omega
theorem valB_spec {s : GSs} (h : valB s = true) : 0 ≤ s.From ∧ s.From < s.To ∧ s.To ≤ 52560000 ∧ s.To - s.From ≤ 2880 ∧ s.From ≤ s.End ∧ s.End ≤ s.To ∧ s.Slices.length ≤ 48 := by
 simp only [valB, bae, decide_eq_true_eq] at h; exact h.1
theorem valB_sl {s : GSs} (h : valB s = true) : slB s.From s.End (s.From - 1) s.Slices = true := by
 simp only [valB, bae, decide_eq_true_eq] at h; exact h.2
theorem parV_val {s : GSs} {f t : Int} (h : valB s = true) (h1 : s.From ≤ f) (h2 : f < t) (h3 : t ≤ s.To) : valB (parV s f t) = true := by
 have hs := valB_spec h
 have hl := valB_sl h
 have hlen := parL_len f t s.Slices
 have he : f ≤ minI (maxI s.End f) t ∧ minI (maxI s.End f) t ≤ t := by unfold minI maxI; split <;> split <;> omega
 have hsl : slB f (minI (maxI s.End f) t) (f - 1) (parL f t s.Slices) = true := by
  refine slB_mono _ _ _ (slB_filter (inP f t) _ _ hl) fun x hx => ?_
  have hx2 := List.mem_filter.1 hx
  have hx3 := slB_memP _ _ hl x hx2.1
  have hx4 : f ≤ x.Minute ∧ x.Minute < t := by simpa [inP] using hx2.2
  refine ⟨hx4.1, ?_, by omega⟩
  unfold minI maxI; split <;> split <;> omega
 unfold valB parV
 simp only [bae, decide_eq_true_eq]
 exact ⟨by omega, hsl⟩
def splV (s : GSs) (m : Int) : GSs × GSs × Int := if (valB s && decide (s.From < m) && decide (m < s.To)) = true then (parV s s.From m, parV s m s.To, 0) else (⟨0, 0, 0, []⟩, ⟨0, 0, 0, []⟩, 1)
theorem l_split (n : Nat) (s : GSs) (m : Int) (hn : 1000 ≤ n) (hb : i64b s.To) : g_l_Split n s m = some (splV s m) := by
 unfold g_l_Split splV
 rw [l_session n s hn hb, obs]
 cases hv : valB s
 ·rfl
 have hs := valB_spec hv
 simp only [Bool.not_true, cond_false, leI, Bool.true_and]
 by_cases c1 : m ≤ s.From
 ·rw [dzT c1, cond_true, obs, cond_true, dzF (show ¬ s.From < m by omega)]; rfl
 rw [dzF c1, cond_false, obs]
 by_cases c2 : s.To ≤ m
 ·rw [dzT c2, cond_true, dzF (show ¬ m < s.To by omega), Bool.and_false]; rfl
 rw [dzF c2, cond_false, l_part n s s.From m hn (by omega), obs, l_part n s m s.To hn (by omega), obs, dzT (show s.From < m by omega), dzT (show m < s.To by omega)]
 rfl
end Go.Proofs
namespace Go.Proofs
open Go Go.Abs
set_option maxRecDepth 100000
set_option linter.unusedVariables false
def cutB (e : Int) : Int → List Int → Bool
 | _, [] => true
 | b, m :: r => decide (b < m ∧ m < e) && cutB e m r
def cutsB (s : GSs) (l : List Int) : Bool := decide (l.length ≤ 4) && cutB s.To s.From l
theorem l_cuts (n : Nat) (s : GSs) (l : List Int) (hn : 1000 ≤ n) : g_l_validCuts n s l = some (cutsB s l) := by
 unfold g_l_validCuts cutsB
 simp only [ltI, lenI, List.length_map]
 by_cases c : l.length ≤ 4
 ·rw [dzF (show ¬ (4 : Int) < l.length by omega), cond_false, dzT c, Bool.true_and]
  have := loop_gen (l := l) (fun (a : Int) i => (a, i)) (B := fun recl1 (v : Int × Int) => g_l_validCuts_l1 s l recl1 v.1 v.2) (F := cutB s.To) (fun _ _ => True) (by omega) ?_ ?_ (n := n) 0 s.From trivial (by omega) (by omega)
  ·exact this
  ·intro rec a _
   simp only [g_l_validCuts_l1, ltI, lenI, List.length_map]
   rw [dzF (by omega)]
   rfl
  ·intro rec a i x r _ hd hx hi hw hr
   simp only [g_l_validCuts_l1, ltI, leI, lenI, List.length_map, getI_nat, hx, obs, hw]
   rw [dzT (by omega), cond_true, hr x trivial]
   show _ = some (decide (a < x ∧ x < s.To) && cutB s.To x r)
   by_cases c1 : x ≤ a
   ·rw [dzT c1, dzF (show ¬ (a < x ∧ x < s.To) by omega)]; rfl
   ·rw [dzF c1]
    by_cases c2 : s.To ≤ x
    ·rw [dzT c2, dzF (show ¬ (a < x ∧ x < s.To) by omega)]; rfl
    ·rw [dzF c2, dzT (show (a < x ∧ x < s.To) by omega)]; rfl
 ·rw [dzT (show (4 : Int) < l.length by omega), cond_true, dzF c]; rfl
theorem bil_ok {t : GTf} {c : GCl} {s : GSs} (hcc : c.Changes.length ≤ 900) (hch : c.Holidays.length ≤ 900) (h : (bilV t c s).2 = 0) :
  tariffB t = true ∧ calB c = true ∧ valB s = true ∧ okA c s t.Articles = true ∧ 0 ≤ sumA c s t.Articles ∧ capF (sumA c s t.Articles) t.Articles ≤ 1000000000 ∧
  (bilV t c s).1.Total = capF (sumA c s t.Articles) t.Articles + taxF (capF (sumA c s t.Articles) t.Articles) (rateF 0 t.Articles) ∧ 0 ≤ (bilV t c s).1.Total ∧ (bilV t c s).1.Total ≤ 1000000000 := by
 have h3 : (tariffB t && calB c && valB s) = true := by
  by_cases q : (tariffB t && calB c && valB s) = true
  ·exact q
  ·exfalso
   unfold bilV at h
   rw [if_neg q] at h
   cases h
 have h3' : tariffB t = true ∧ calB c = true ∧ valB s = true := by
  simp only [bae] at h3; exact ⟨h3.1.1, h3.1.2, h3.2⟩
 obtain ⟨ht, hc, hv⟩ := h3'
 have e0 : bilV t c s = if linB (linF c s 0 t.Articles) then (if bilB (bilF t (rateF 0 t.Articles) 0 (linF c s 0 t.Articles)) then (bilF t (rateF 0 t.Articles) 0 (linF c s 0 t.Articles), 0) else (zeroBill, 3)) else (zeroBill, 3) := by
  unfold bilV
  rw [if_pos h3]
 rw [e0] at h ⊢
 have hok : okA c s t.Articles = true := by
  rw [← linB_okA c s t.Articles 0]
  by_cases q : linB (linF c s 0 t.Articles) = true
  ·exact q
  ·exfalso
   rw [if_neg q] at h
   cases h
 have hlb : linB (linF c s 0 t.Articles) = true := by rw [linB_okA]; exact hok
 rw [if_pos hlb] at h ⊢
 obtain ⟨hall, hlen⟩ := tariffB_spec ht
 have hp : ∀ a ∈ t.Articles, 0 ≤ cosF c s a := fun a ha => (r_line 10000 c a s (Nat.le_refl _) hcc hch hc (hall a ha) hv).2
 obtain ⟨g1, g2, g3⟩ := sumF_A c s t.Articles 0 0 hok hp (Int.le_refl _) (by omega)
 rw [Int.zero_add] at g1
 have hrt := rateQ hall
 have k1 := capF_range t.Articles _ (fun a ha => (artB_art (hall a ha)).price.1) g2
 have hnet : netF t 0 (linF c s 0 t.Articles) = capF (sumA c s t.Articles) t.Articles := by unfold netF; rw [g1]
 have hbil : bilF t (rateF 0 t.Articles) 0 (linF c s 0 t.Articles) = ⟨linF c s 0 t.Articles, capF (sumA c s t.Articles) t.Articles, taxF (capF (sumA c s t.Articles) t.Articles) (rateF 0 t.Articles), wi (capF (sumA c s t.Articles) t.Articles + taxF (capF (sumA c s t.Articles) t.Articles) (rateF 0 t.Articles))⟩ := by
  unfold bilF
  rw [hnet]
 have hB : bilB (bilF t (rateF 0 t.Articles) 0 (linF c s 0 t.Articles)) = true := by
  by_cases q : bilB (bilF t (rateF 0 t.Articles) 0 (linF c s 0 t.Articles)) = true
  ·exact q
  ·exfalso
   rw [if_neg q] at h
   cases h
 rw [if_pos hB]
 rw [hbil] at hB ⊢
 simp only [bilB, bae, decide_eq_true_eq] at hB
 have ht2 := (r_tax 0 (capF (sumA c s t.Articles) t.Articles) (rateF 0 t.Articles) (by omega) hrt).2
 have hw := wi_id (x := capF (sumA c s t.Articles) t.Articles + taxF (capF (sumA c s t.Articles) t.Articles) (rateF 0 t.Articles)) (by omega) (by omega)
 rw [hw] at hB ⊢
 exact ⟨ht, hc, hv, hok, g2, hB.1, rfl, by show 0 ≤ capF (sumA c s t.Articles) t.Articles + taxF (capF (sumA c s t.Articles) t.Articles) (rateF 0 t.Articles); omega, hB.2⟩
theorem bil_err {t : GTf} {c : GCl} {s : GSs} (ht : tariffB t = true) (hc : calB c = true) (hv : valB s = true) (h : (bilV t c s).2 ≠ 0) : (bilV t c s).2 = 3 := by
 unfold bilV at h ⊢
 rw [ht, hc, hv] at h ⊢
 simp only [Bool.and_true, if_true] at h ⊢
 cases hl : linB (linF c s 0 t.Articles)
 ·rfl
 ·rw [hl] at h
  simp only [if_true] at h ⊢
  cases hB : bilB (bilF t (rateF 0 t.Articles) 0 (linF c s 0 t.Articles))
  ·rfl
  ·rw [hB] at h; exact absurd rfl h
def ptV (t : GTf) (c : GCl) (s : GSs) (f e : Int) : Int := if (bilV t c (parV s f e)).2 = 0 then (bilV t c (parV s f e)).1.Total else 1000000001
theorem ptV_range (t : GTf) (c : GCl) (s : GSs) (f e : Int) (hcc : c.Changes.length ≤ 900) (hch : c.Holidays.length ≤ 900) : 0 ≤ ptV t c s f e ∧ ptV t c s f e ≤ 1000000001 := by
 unfold ptV
 split
 ·rename_i h
  have := bil_ok hcc hch h
  omega
 ·omega
end Go.Proofs
