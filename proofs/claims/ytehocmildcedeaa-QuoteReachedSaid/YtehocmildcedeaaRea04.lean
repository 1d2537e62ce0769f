/-
  A part of the proof of a statement of the seat Ytehocmildcedeaa.
-/
import Derived.Test.YtehocmildcedeaaRea03
namespace Go.Proofs
open Go Go.Abs
set_option maxRecDepth 100000
set_option linter.unusedVariables false
theorem g_quote_quoted_energy_ok (n : Nat) (a0q : GQuoteQuoted) (a1energy : Int) : ∀ r, g_quote_quoted_energy n a0q a1energy = some r → PCall Try.prog 45 [.eptr (GQuoteQuoted.cs a0q), I a1energy] (.ret (.tup [I r.1, I r.2])) := by
 refine pcall_sim (X := fun r : Int × Int => AEnd.ret (.tup [I r.1, I r.2])) Try.func45 rfl Try.ntmps45 rfl ?_
 unfold g_quote_quoted_energy
 refine sR tfm ⟨[0, 1], [], [], []⟩ ⟨[(0, .eptr (GQuoteQuoted.cs a0q)), (1, I a1energy)], []⟩ krf ?_
 refine sS ?_
 refine sR tfm ⟨[0, 1, 12], [], [], []⟩ ⟨[(0, .eptr (GQuoteQuoted.cs a0q)), (1, I a1energy), (12, B (eqI a1energy 0))], []⟩ krf ?_
 refine sC (eqI a1energy 0) krf ?_ ?_
 ·refine sR tfm ⟨[4, 5], [], [], []⟩ ⟨[(4, I 0), (5, I 0)], []⟩ krf ?_
  refine sT ?_
  refine sq_r ?_
  exact qR (.id) krf krf krf
 ·refine sK ?_
  refine sN ⟨[0, 1], [], [], []⟩ ⟨[(0, .eptr (GQuoteQuoted.cs a0q)), (1, I a1energy)], []⟩ krf ?_
  refine sS ?_
  refine sim_hst [0, 1, 2, 3, 4, 5, 6, 7, 9] [9] [(8, []), (10, []), (11, []), (12, [])] tfm rfl krf krf ?_
  refine h_enter (f := 47) (args := [I a0q.from_, I a0q.to_]) (dst := some 21) krf krf ?_
  refine sc_inline (hc := []) (args' := [I a0q.from_, I a0q.to_]) [(2, 402), (3, 403)] [] [] Try.func47 rfl Try.ntmps47 rfl krf krf krf ?_
  refine sR tfm ⟨[2, 3], [2, 3], [], []⟩ ⟨[(2, .ptr 2 0), (3, .ptr 3 0)], [(2, .box 3 [I a0q.from_]), (3, .box 3 [I a0q.to_])]⟩ krf ?_
  refine sR tfm ⟨[4], [2, 3], [], []⟩ ⟨[(4, .fn (.func 77) [] [.ptr 2 0, .ptr 3 0])], [(2, .box 3 [I a0q.from_]), (3, .box 3 [I a0q.to_])]⟩ krf ?_
  refine sT ?_
  refine iq_ret (.id) [2, 3] [] (.fn (.func 77) [] [.ptr 2 0, .ptr 3 0]) krf krf ?_
  refine kh [9] krf (lates_cons (late_move krf) (lates_nil)) krf ?_
  refine h_enter (f := 48) (args := [.eptr (GQuoteQuoted.cs a0q), I 2]) (dst := some 23) krf krf ?_
  refine sc_inline (hc := []) (args' := [.eptr (GQuoteQuoted.cs a0q), I 2]) [(2, 439), (3, 440)] [] [] Try.func48 rfl Try.ntmps48 rfl krf krf krf ?_
  refine sR tfm ⟨[2, 3], [2, 3], [], []⟩ ⟨[(2, .ptr 2 0), (3, .ptr 3 0)], [(2, .box 62 [.eptr (GQuoteQuoted.cs a0q)]), (3, .box 3 [I 2])]⟩ krf ?_
  refine sR tfm ⟨[4], [2, 3], [], []⟩ ⟨[(4, .fn (.func 78) [] [.ptr 2 0, .ptr 3 0])], [(2, .box 62 [.eptr (GQuoteQuoted.cs a0q)]), (3, .box 3 [I 2])]⟩ krf ?_
  refine sT ?_
  refine iq_ret (.id) [2, 3] [] (.fn (.func 78) [] [.ptr 2 0, .ptr 3 0]) krf krf ?_
  refine kh [] krf (lates_nil) krf ?_
  refine h_enter (f := 46) (args := [.fn (.func 77) [] [.ptr 402 0, .ptr 403 0], .fn (.func 78) [] [.ptr 439 0, .ptr 440 0]]) (dst := some 24) krf krf ?_
  refine sc_inline (hc := [(1000, .box 3 [I a0q.from_]), (1001, .box 3 [I a0q.to_]), (1002, .box 62 [.eptr (GQuoteQuoted.cs a0q)]), (1003, .box 3 [I 2])]) (args' := [.fn (.func 77) [] [.ptr 1000 0, .ptr 1001 0], .fn (.func 78) [] [.ptr 1002 0, .ptr 1003 0]]) [(1000, 402), (1001, 403), (1002, 439), (1003, 440)] [] [] Try.func46 rfl Try.ntmps46 rfl krf krf krf ?_
  refine sR tfm ⟨[0, 3], [3, 1000, 1001, 1002, 1003], [], []⟩ ⟨[(0, .fn (.func 77) [] [.ptr 1000 0, .ptr 1001 0]), (3, .ptr 3 0)], [(3, .box 80 [.fn (.func 78) [] [.ptr 1002 0, .ptr 1003 0]]), (1000, .box 3 [I a0q.from_]), (1001, .box 3 [I a0q.to_]), (1002, .box 62 [.eptr (GQuoteQuoted.cs a0q)]), (1003, .box 3 [I 2])]⟩ krf ?_
  refine sR tfm ⟨[0, 3, 5], [3, 5, 1000, 1001, 1002, 1003], [], []⟩ ⟨[(0, .fn (.func 77) [] [.ptr 1000 0, .ptr 1001 0]), (3, .ptr 3 0), (5, .ptr 5 0)], [(3, .box 80 [.fn (.func 78) [] [.ptr 1002 0, .ptr 1003 0]]), (5, .box 3 [I 0]), (1000, .box 3 [I a0q.from_]), (1001, .box 3 [I a0q.to_]), (1002, .box 62 [.eptr (GQuoteQuoted.cs a0q)]), (1003, .box 3 [I 2])]⟩ krf ?_
  refine sim_bind (fun j1 => ⟨[(5, .ptr 5 0)], [(5, .box 3 [I j1]), (1000, .box 3 [I a0q.from_]), (1001, .box 3 [I a0q.to_]), (1002, .box 62 [.eptr (GQuoteQuoted.cs a0q)]), (1003, .box 3 [I 2])]⟩ : Int → St) ?_ ?_
  ·refine sR tfm ⟨[3, 5, 7], [3, 5, 1000, 1001, 1002, 1003], [], []⟩ ⟨[(3, .ptr 3 0), (5, .ptr 5 0), (7, .fn (.func 77) [] [.ptr 1000 0, .ptr 1001 0])], [(3, .box 80 [.fn (.func 78) [] [.ptr 1002 0, .ptr 1003 0]]), (5, .box 3 [I 0]), (1000, .box 3 [I a0q.from_]), (1001, .box 3 [I a0q.to_]), (1002, .box 62 [.eptr (GQuoteQuoted.cs a0q)]), (1003, .box 3 [I 2])]⟩ krf ?_
   refine sB ?_
   refine sP ⟨[3, 5, 7], [3, 5, 1000, 1001, 1002, 1003], [], []⟩ ⟨[(3, .ptr 3 0), (5, .ptr 5 0), (7, .fn (.func 77) [] [.ptr 1000 0, .ptr 1001 0])], [(3, .box 80 [.fn (.func 78) [] [.ptr 1002 0, .ptr 1003 0]]), (5, .box 3 [I 0]), (1000, .box 3 [I a0q.from_]), (1001, .box 3 [I a0q.to_]), (1002, .box 62 [.eptr (GQuoteQuoted.cs a0q)]), (1003, .box 3 [I 2])]⟩ krf ?_
   refine sim_range 77 3000 [] [.ptr 1000 0, .ptr 1001 0] krf krf (fun nf2 _ hnf2 => ?_)
   refine sc_inline (hc := [(1003, .box 80 [.fn (.func 78) [] [.ptr 2002 0, .ptr 2003 0]]), (1005, .box 3 [I 0]), (2000, .box 3 [I a0q.from_]), (2001, .box 3 [I a0q.to_]), (2002, .box 62 [.eptr (GQuoteQuoted.cs a0q)]), (2003, .box 3 [I 2]), (4000, .lp [(3, .ptr 1003 0), (5, .ptr 1005 0), (7, .fn (.func 77) [] [.ptr 2000 0, .ptr 2001 0])] nf2 .ready none)]) (args' := [.yv 4000, .ptr 2000 0, .ptr 2001 0]) [(1003, 3), (1005, 5), (2000, 1000), (2001, 1001), (2002, 1002), (2003, 1003), (4000, 3000)] [] [] Try.func77 rfl Try.ntmps77 rfl krf krf krf ?_
   refine sR tfm ⟨[0, 2, 4], [1003, 1005, 2000, 2001, 2002, 2003, 4000], [], []⟩ ⟨[(0, .yv 4000), (2, .ptr 2001 0), (4, I a0q.from_)], [(1003, .box 80 [.fn (.func 78) [] [.ptr 2002 0, .ptr 2003 0]]), (1005, .box 3 [I 0]), (2000, .box 3 [I a0q.from_]), (2001, .box 3 [I a0q.to_]), (2002, .box 62 [.eptr (GQuoteQuoted.cs a0q)]), (2003, .box 3 [I 2]), (4000, .lp [(3, .ptr 1003 0), (5, .ptr 1005 0), (7, .fn (.func 77) [] [.ptr 2000 0, .ptr 2001 0])] nf2 .ready none)]⟩ krf ?_
   refine sB ?_
   refine sim_loop (fun (l3_1, l3_2) => ⟨[(0, .yv 4000), (2, .ptr 2001 0), (4, I l3_1)], [(1003, .box 80 [.fn (.func 78) [] [.ptr 2002 0, .ptr 2003 0]]), (1005, .box 3 [I l3_2]), (2000, .box 3 [I a0q.from_]), (2001, .box 3 [I a0q.to_]), (2002, .box 62 [.eptr (GQuoteQuoted.cs a0q)]), (2003, .box 3 [I 2]), (4000, .lp [(3, .ptr 1003 0), (5, .ptr 1005 0), (7, .fn (.func 77) [] [.ptr 2000 0, .ptr 2001 0])] nf2 .ready none)]⟩ : (Int × Int) → St) (weak_shr (K := ⟨[0, 2, 4], [1003, 1005, 2000, 2001, 2002, 2003, 4000], [], []⟩) krf) ?_
   rintro recl3 ⟨l3_1, l3_2⟩
   show SimE (g_quote_quoted_energy_l3 n a0q recl3 l3_1 l3_2) _ _ _ _ _ _
   unfold g_quote_quoted_energy_l3
   refine sS ?_
   refine sR tfm ⟨[0, 2, 4, 8], [1003, 1005, 2000, 2001, 2002, 2003, 4000], [], []⟩ ⟨[(0, .yv 4000), (2, .ptr 2001 0), (4, I l3_1), (8, B (ltI l3_1 a0q.to_))], [(1003, .box 80 [.fn (.func 78) [] [.ptr 2002 0, .ptr 2003 0]]), (1005, .box 3 [I l3_2]), (2000, .box 3 [I a0q.from_]), (2001, .box 3 [I a0q.to_]), (2002, .box 62 [.eptr (GQuoteQuoted.cs a0q)]), (2003, .box 3 [I 2]), (4000, .lp [(3, .ptr 1003 0), (5, .ptr 1005 0), (7, .fn (.func 77) [] [.ptr 2000 0, .ptr 2001 0])] nf2 .ready none)]⟩ krf ?_
   refine sC (ltI l3_1 a0q.to_) krf ?_ ?_
   ·refine sK ?_
    refine sN ⟨[0, 2, 4], [1003, 1005, 2000, 2001, 2002, 2003, 4000], [], []⟩ ⟨[(0, .yv 4000), (2, .ptr 2001 0), (4, I l3_1)], [(1003, .box 80 [.fn (.func 78) [] [.ptr 2002 0, .ptr 2003 0]]), (1005, .box 3 [I l3_2]), (2000, .box 3 [I a0q.from_]), (2001, .box 3 [I a0q.to_]), (2002, .box 62 [.eptr (GQuoteQuoted.cs a0q)]), (2003, .box 3 [I 2]), (4000, .lp [(3, .ptr 1003 0), (5, .ptr 1005 0), (7, .fn (.func 77) [] [.ptr 2000 0, .ptr 2001 0])] nf2 .ready none)]⟩ krf ?_
    refine sS ?_
    refine sB ?_
    refine sS ?_
    refine sG ?_
    refine xR 2 krf ?_
    refine xs_yield [] [(1003, .box 80 [.fn (.func 78) [] [.ptr 2002 0, .ptr 2003 0]]), (1005, .box 3 [I l3_2]), (2000, .box 3 [I a0q.from_]), (2001, .box 3 [I a0q.to_]), (2002, .box 62 [.eptr (GQuoteQuoted.cs a0q)]), (2003, .box 3 [I 2]), (4000, .lp [(3, .ptr 1003 0), (5, .ptr 1005 0), (7, .fn (.func 77) [] [.ptr 2000 0, .ptr 2001 0])] nf2 .ready none)] 4000 [(3, .ptr 1003 0), (5, .ptr 1005 0), (7, .fn (.func 77) [] [.ptr 2000 0, .ptr 2001 0])] [] [] [I l3_1] krf hnf2 krf krf krf krf krf (fun _ => ?_)
    refine sL tfm krf ?_
    refine as_n ⟨[3, 5, 6], [1003, 1005, 2000, 2001, 2002, 2003, 4000], [], []⟩ ⟨[(3, .ptr 1003 0), (5, .ptr 1005 0), (6, I l3_1)], [(1003, .box 80 [.fn (.func 78) [] [.ptr 2002 0, .ptr 2003 0]]), (1005, .box 3 [I l3_2]), (2000, .box 3 [I a0q.from_]), (2001, .box 3 [I a0q.to_]), (2002, .box 62 [.eptr (GQuoteQuoted.cs a0q)]), (2003, .box 3 [I 2]), (4000, .lp [(3, .ptr 1003 0), (5, .ptr 1005 0), (7, .fn (.func 77) [] [.ptr 2000 0, .ptr 2001 0])] nf2 .busy none)]⟩ none krf krf ?_
    refine sB ?_
    refine sim_hst [0, 1, 2] [0] [(3, []), (4, []), (5, [])] tfm rfl krf krf ?_
    refine h_enter (f := 78) (args := [I l3_1, .ptr 2002 0, .ptr 2003 0]) (dst := some 12) krf krf ?_
    refine sc_inline (hc := [(1000, .box 62 [.eptr (GQuoteQuoted.cs a0q)]), (1001, .box 3 [I 2])]) (args' := [I l3_1, .ptr 1000 0, .ptr 1001 0]) [(1000, 2002), (1001, 2003)] [] [] Try.func78 rfl Try.ntmps78 rfl krf krf krf ?_
    refine sR tfm ⟨[0, 1, 2], [1000, 1001], [], []⟩ ⟨[(0, I l3_1), (1, .ptr 1000 0), (2, .ptr 1001 0)], [(1000, .box 62 [.eptr (GQuoteQuoted.cs a0q)]), (1001, .box 3 [I 2])]⟩ krf ?_
    refine sR tfm ⟨[0, 1, 2, 5], [1000, 1001], [], []⟩ ⟨[(0, I l3_1), (1, .ptr 1000 0), (2, .ptr 1001 0), (5, I 0)], [(1000, .box 62 [.eptr (GQuoteQuoted.cs a0q)]), (1001, .box 3 [I 2])]⟩ krf ?_
    refine sim_bind (fun j4 => ⟨[(5, I j4)], [(1000, .box 62 [.eptr (GQuoteQuoted.cs a0q)]), (1001, .box 3 [I 2])]⟩ : Int → St) ?_ ?_
    ·refine sR tfm ⟨[0, 1, 2, 5, 12, 13, 14], [1000, 1001], [], []⟩ ⟨[(0, I l3_1), (1, .ptr 1000 0), (2, .ptr 1001 0), (5, I 0), (12, .p (.sl 7 (List.map GAr.cs a0q.Tariff.Articles))), (13, I (lenI (List.map GAr.cs a0q.Tariff.Articles))), (14, I 0)], [(1000, .box 62 [.eptr (GQuoteQuoted.cs a0q)]), (1001, .box 3 [I 2])]⟩ krf ?_
     refine sB ?_
     refine sim_loop (fun (l5_1, l5_2) => ⟨[(0, I l3_1), (1, .ptr 1000 0), (2, .ptr 1001 0), (5, I l5_1), (12, .p (.sl 7 (List.map GAr.cs a0q.Tariff.Articles))), (13, I (lenI (List.map GAr.cs a0q.Tariff.Articles))), (14, I l5_2)], [(1000, .box 62 [.eptr (GQuoteQuoted.cs a0q)]), (1001, .box 3 [I 2])]⟩ : (Int × Int) → St) (weak_shr (K := ⟨[0, 1, 2, 5, 12, 13, 14], [1000, 1001], [], []⟩) krf) ?_
     rintro recl5 ⟨l5_1, l5_2⟩
     show SimE (g_quote_quoted_energy_l5 n a0q l3_1 recl5 l5_1 l5_2) _ _ _ _ _ _
     unfold g_quote_quoted_energy_l5
     refine sR tfm ⟨[0, 1, 2, 5, 12, 13, 14, 15], [1000, 1001], [], []⟩ ⟨[(0, I l3_1), (1, .ptr 1000 0), (2, .ptr 1001 0), (5, I l5_1), (12, .p (.sl 7 (List.map GAr.cs a0q.Tariff.Articles))), (13, I (lenI (List.map GAr.cs a0q.Tariff.Articles))), (14, I l5_2), (15, B (ltI l5_2 (lenI (List.map GAr.cs a0q.Tariff.Articles))))], [(1000, .box 62 [.eptr (GQuoteQuoted.cs a0q)]), (1001, .box 3 [I 2])]⟩ krf ?_
     refine sS ?_
     refine sC (ltI l5_2 (lenI (List.map GAr.cs a0q.Tariff.Articles))) krf ?_ ?_
     ·refine sK ?_
      refine sN ⟨[0, 1, 2, 5, 12, 13, 14], [1000, 1001], [], []⟩ ⟨[(0, I l3_1), (1, .ptr 1000 0), (2, .ptr 1001 0), (5, I l5_1), (12, .p (.sl 7 (List.map GAr.cs a0q.Tariff.Articles))), (13, I (lenI (List.map GAr.cs a0q.Tariff.Articles))), (14, I l5_2)], [(1000, .box 62 [.eptr (GQuoteQuoted.cs a0q)]), (1001, .box 3 [I 2])]⟩ krf ?_
      refine sS ?_
      refine sB ?_
      refine sS ?_
      refine sG ?_
      refine xG krf krf (aop_idx (e := 44) (S := 7) (enc := GAr.cs) (l := a0q.Tariff.Articles) (k := .i64) (n := l5_2) (sv := .p (.sl 7 (List.map GAr.cs a0q.Tariff.Articles))) rfl krf krf krf krf krf) (fun x6 => ?_)
      refine xR 3 krf ?_
      refine xE ?_
      refine sN ⟨[0, 1, 2, 5, 7, 12, 13, 14], [7, 1000, 1001], [], []⟩ ⟨[(0, I l3_1), (1, .ptr 1000 0), (2, .ptr 1001 0), (5, I l5_1), (7, .ptr 7 0), (12, .p (.sl 7 (List.map GAr.cs a0q.Tariff.Articles))), (13, I (lenI (List.map GAr.cs a0q.Tariff.Articles))), (14, I l5_2)], [(7, .box 44 (bxc (GAr.cs x6))), (1000, .box 62 [.eptr (GQuoteQuoted.cs a0q)]), (1001, .box 3 [I 2])]⟩ krf ?_
      refine sim_bind (fun j7 => ⟨[(0, I l3_1), (1, .ptr 1000 0), (2, .ptr 1001 0), (5, I l5_1), (7, .ptr 7 0), (12, .p (.sl 7 (List.map GAr.cs a0q.Tariff.Articles))), (13, I (lenI (List.map GAr.cs a0q.Tariff.Articles))), (14, I l5_2), (30, B j7)], [(7, .box 44 (bxc (GAr.cs x6))), (1000, .box 62 [.eptr (GQuoteQuoted.cs a0q)]), (1001, .box 3 [I 2])]⟩ : Bool → St) ?_ ?_
      ·refine sim_drw tfm rfl ?_
       refine xR 5 krf ?_
       refine xS (eqI x6.Kind 2) (fun h8 => ?_) (fun h8 => ?_)
       ·refine xO (want_tt krf h8) krf ?_
        refine xR 5 krf ?_
        refine xC [] krf (g_t_Applies_ok n x6 a0q.calendar l3_1) krf krf (fun _ => by kernel_rfl) (fun r9 => ?_)
        refine xR 1 krf ?_
        refine xs_endD krf ?_
        exact nq_n r9 ⟨[0, 1, 2, 5, 7, 12, 13, 14, 30], [7, 1000, 1001], [], []⟩ krf
       ·refine xN (want_tf krf h8) krf ?_
        refine xR 7 krf ?_
        refine xs_endD krf ?_
        exact nq_n false ⟨[0, 1, 2, 5, 7, 12, 13, 14, 30], [7, 1000, 1001], [], []⟩ krf
      ·rintro j7
       refine sC j7 krf ?_ ?_
       ·refine sL tfm krf ?_
        refine bq_n ?_
        refine sN ⟨[0, 1, 2, 5, 12, 13, 14], [1000, 1001], [], []⟩ ⟨[(0, I l3_1), (1, .ptr 1000 0), (2, .ptr 1001 0), (5, I (wi (l5_1 + x6.Price))), (12, .p (.sl 7 (List.map GAr.cs a0q.Tariff.Articles))), (13, I (lenI (List.map GAr.cs a0q.Tariff.Articles))), (14, I l5_2)], [(1000, .box 62 [.eptr (GQuoteQuoted.cs a0q)]), (1001, .box 3 [I 2])]⟩ krf ?_
        refine sL tfm krf ?_
        exact kq_n (wi (l5_1 + x6.Price), wi (l5_2 + 1)) ⟨[0, 1, 2, 5, 12, 13, 14], [1000, 1001], [], []⟩ krf
       ·refine sK ?_
        refine bq_n ?_
        refine sN ⟨[0, 1, 2, 5, 12, 13, 14], [1000, 1001], [], []⟩ ⟨[(0, I l3_1), (1, .ptr 1000 0), (2, .ptr 1001 0), (5, I l5_1), (12, .p (.sl 7 (List.map GAr.cs a0q.Tariff.Articles))), (13, I (lenI (List.map GAr.cs a0q.Tariff.Articles))), (14, I l5_2)], [(1000, .box 62 [.eptr (GQuoteQuoted.cs a0q)]), (1001, .box 3 [I 2])]⟩ krf ?_
        refine sL tfm krf ?_
        exact kq_n (l5_1, wi (l5_2 + 1)) ⟨[0, 1, 2, 5, 12, 13, 14], [1000, 1001], [], []⟩ krf
     ·refine sim_exit ?_
      refine sq_x ?_
      refine kq_x ?_
      refine bq_hit ?_
      exact nq_n l5_1 ⟨[5], [1000, 1001], [], []⟩ krf
    ·rintro j4
     refine sR tfm ⟨[4], [1000, 1001], [], []⟩ ⟨[(4, I j4)], [(1000, .box 62 [.eptr (GQuoteQuoted.cs a0q)]), (1001, .box 3 [I 2])]⟩ krf ?_
     refine sT ?_
     refine iq_ret (.id) [1000, 1001] [] (I j4) krf krf ?_
     refine kh [0] krf (lates_cons (late_read (I l3_2) krf rfl) (lates_nil)) krf ?_
     refine h_op [] krf krf (lates_nil) ?_
     refine h_op [] krf krf (lates_nil) ?_
     refine h_end ?_
     refine bq_n ?_
     refine rn_n [1003, 1005, 2000, 2001, 2002, 2003, 4000] [] .busy none krf krf ?_
     refine kr0 ?_
     refine xR 1 krf ?_
     refine xE ?_
     refine sN ⟨[0, 2, 4, 14], [1003, 1005, 2000, 2001, 2002, 2003, 4000], [], []⟩ ⟨[(0, .yv 4000), (2, .ptr 2001 0), (4, I l3_1), (14, B false)], [(1003, .box 80 [.fn (.func 78) [] [.ptr 2002 0, .ptr 2003 0]]), (1005, .box 3 [I (maxI l3_2 j4)]), (2000, .box 3 [I a0q.from_]), (2001, .box 3 [I a0q.to_]), (2002, .box 62 [.eptr (GQuoteQuoted.cs a0q)]), (2003, .box 3 [I 2]), (4000, .lp [(3, .ptr 1003 0), (5, .ptr 1005 0), (7, .fn (.func 77) [] [.ptr 2000 0, .ptr 2001 0])] nf2 .ready none)]⟩ krf ?_
     refine sim_condF krf ?_
     refine sK ?_
     refine bq_n ?_
     refine sN ⟨[0, 2, 4], [1003, 1005, 2000, 2001, 2002, 2003, 4000], [], []⟩ ⟨[(0, .yv 4000), (2, .ptr 2001 0), (4, I l3_1)], [(1003, .box 80 [.fn (.func 78) [] [.ptr 2002 0, .ptr 2003 0]]), (1005, .box 3 [I (maxI l3_2 j4)]), (2000, .box 3 [I a0q.from_]), (2001, .box 3 [I a0q.to_]), (2002, .box 62 [.eptr (GQuoteQuoted.cs a0q)]), (2003, .box 3 [I 2]), (4000, .lp [(3, .ptr 1003 0), (5, .ptr 1005 0), (7, .fn (.func 77) [] [.ptr 2000 0, .ptr 2001 0])] nf2 .ready none)]⟩ krf ?_
     refine sL tfm krf ?_
     exact kq_n (wi (l3_1 + 1), maxI l3_2 j4) ⟨[0, 2, 4], [1003, 1005, 2000, 2001, 2002, 2003, 4000], [], []⟩ krf
   ·refine sim_exit ?_
    refine sq_x ?_
    refine kq_x ?_
    refine bq_hit ?_
    refine iq_n .id [1003, 1005, 2000, 2001, 2002, 2003, 4000] [] (.tup []) krf krf ?_
    refine kg_n .ready ⟨[5], [5, 1000, 1001, 1002, 1003], [], []⟩ ⟨[(5, .ptr 5 0)], [(5, .box 3 [I l3_2]), (1000, .box 3 [I a0q.from_]), (1001, .box 3 [I a0q.to_]), (1002, .box 62 [.eptr (GQuoteQuoted.cs a0q)]), (1003, .box 3 [I 2])]⟩ krf (by intro h; cases h) krf ?_
    refine bq_n ?_
    exact nq_n l3_2 ⟨[5], [5, 1000, 1001, 1002, 1003], [], []⟩ krf
  ·rintro j1
   refine sR tfm ⟨[4], [1000, 1001, 1002, 1003], [], []⟩ ⟨[(4, I j1)], [(1000, .box 3 [I a0q.from_]), (1001, .box 3 [I a0q.to_]), (1002, .box 62 [.eptr (GQuoteQuoted.cs a0q)]), (1003, .box 3 [I 2])]⟩ krf ?_
   refine sT ?_
   refine iq_ret (.id) [1000, 1001, 1002, 1003] [] (I j1) krf krf ?_
   refine kh [] krf (lates_nil) krf ?_
   refine h_op [] krf krf (lates_nil) ?_
   refine h_end ?_
   refine sN ⟨[0, 1, 6], [], [], []⟩ ⟨[(0, .eptr (GQuoteQuoted.cs a0q)), (1, I a1energy), (6, I j1)], []⟩ krf ?_
   refine sS ?_
   refine sG ?_
   refine xR 2 krf ?_
   refine xC [] krf (g_money_Times_ok n j1 a1energy 1000) krf krf (fun _ => by kernel_rfl) (fun r10 => ?_)
   refine xR 5 krf ?_
   refine xE ?_
   refine sN ⟨[0, 7, 8], [], [], []⟩ ⟨[(0, .eptr (GQuoteQuoted.cs a0q)), (7, I r10.1), (8, I r10.2)], []⟩ krf ?_
   refine sS ?_
   refine sR tfm ⟨[0, 7, 32], [], [], []⟩ ⟨[(0, .eptr (GQuoteQuoted.cs a0q)), (7, I r10.1), (32, B (!eqI r10.2 0))], []⟩ krf ?_
   refine sC (!eqI r10.2 0) krf ?_ ?_
   ·refine sR tfm ⟨[4, 5], [], [], []⟩ ⟨[(4, I 0), (5, I 3)], []⟩ krf ?_
    refine sT ?_
    refine sq_r ?_
    exact qR (.id) krf krf krf
   ·refine sK ?_
    refine sN ⟨[0, 7], [], [], []⟩ ⟨[(0, .eptr (GQuoteQuoted.cs a0q)), (7, I r10.1)], []⟩ krf ?_
    refine sim_bind (fun j11 => ⟨[(7, I j11)], []⟩ : Int → St) ?_ ?_
    ·refine sR tfm ⟨[0, 7, 37, 38, 39], [], [], []⟩ ⟨[(0, .eptr (GQuoteQuoted.cs a0q)), (7, I r10.1), (37, .p (.sl 7 (List.map GAr.cs a0q.Tariff.Articles))), (38, I (lenI (List.map GAr.cs a0q.Tariff.Articles))), (39, I 0)], []⟩ krf ?_
     refine sB ?_
     refine sim_loop (fun (l12_1, l12_2) => ⟨[(0, .eptr (GQuoteQuoted.cs a0q)), (7, I l12_1), (37, .p (.sl 7 (List.map GAr.cs a0q.Tariff.Articles))), (38, I (lenI (List.map GAr.cs a0q.Tariff.Articles))), (39, I l12_2)], []⟩ : (Int × Int) → St) (weak_shr (K := ⟨[0, 7, 37, 38, 39], [], [], []⟩) krf) ?_
     rintro recl12 ⟨l12_1, l12_2⟩
     show SimE (g_quote_quoted_energy_l12 n a0q recl12 l12_1 l12_2) _ _ _ _ _ _
     unfold g_quote_quoted_energy_l12
     refine sR tfm ⟨[0, 7, 37, 38, 39, 40], [], [], []⟩ ⟨[(0, .eptr (GQuoteQuoted.cs a0q)), (7, I l12_1), (37, .p (.sl 7 (List.map GAr.cs a0q.Tariff.Articles))), (38, I (lenI (List.map GAr.cs a0q.Tariff.Articles))), (39, I l12_2), (40, B (ltI l12_2 (lenI (List.map GAr.cs a0q.Tariff.Articles))))], []⟩ krf ?_
     refine sS ?_
     refine sC (ltI l12_2 (lenI (List.map GAr.cs a0q.Tariff.Articles))) krf ?_ ?_
     ·refine sK ?_
      refine sN ⟨[0, 7, 37, 38, 39], [], [], []⟩ ⟨[(0, .eptr (GQuoteQuoted.cs a0q)), (7, I l12_1), (37, .p (.sl 7 (List.map GAr.cs a0q.Tariff.Articles))), (38, I (lenI (List.map GAr.cs a0q.Tariff.Articles))), (39, I l12_2)], []⟩ krf ?_
      refine sS ?_
      refine sB ?_
      refine sS ?_
      refine sG ?_
      refine xG krf krf (aop_idx (e := 44) (S := 7) (enc := GAr.cs) (l := a0q.Tariff.Articles) (k := .i64) (n := l12_2) (sv := .p (.sl 7 (List.map GAr.cs a0q.Tariff.Articles))) rfl krf krf krf krf krf) (fun x13 => ?_)
      refine xR 3 krf ?_
      refine xE ?_
      refine sN ⟨[0, 7, 10, 37, 38, 39], [10], [], []⟩ ⟨[(0, .eptr (GQuoteQuoted.cs a0q)), (7, I l12_1), (10, .ptr 10 0), (37, .p (.sl 7 (List.map GAr.cs a0q.Tariff.Articles))), (38, I (lenI (List.map GAr.cs a0q.Tariff.Articles))), (39, I l12_2)], [(10, .box 44 (bxc (GAr.cs x13)))]⟩ krf ?_
      refine sim_bind (fun j14 => ⟨[(0, .eptr (GQuoteQuoted.cs a0q)), (7, I l12_1), (37, .p (.sl 7 (List.map GAr.cs a0q.Tariff.Articles))), (38, I (lenI (List.map GAr.cs a0q.Tariff.Articles))), (39, I l12_2), (51, B j14)], []⟩ : Bool → St) ?_ ?_
      ·refine sG ?_
       refine xR 4 krf ?_
       refine xS (eqI x13.Kind 2) (fun h15 => ?_) (fun h15 => ?_)
       ·refine xO (want_tt krf h15) krf ?_
        refine xR 1 krf ?_
        refine xC [] krf (g_quote_quoted_count_ok n a0q x13) krf krf (fun _ => by kernel_rfl) (fun r16 => ?_)
        refine xR 2 krf ?_
        refine xE ?_
        exact nq_n (ltI 0 r16) ⟨[0, 7, 37, 38, 39, 51], [], [], []⟩ krf
       ·refine xN (want_tf krf h15) krf ?_
        refine xR 4 krf ?_
        refine xE ?_
        exact nq_n false ⟨[0, 7, 37, 38, 39, 51], [], [], []⟩ krf
      ·rintro j14
       refine sC j14 krf ?_ ?_
       ·refine sL tfm krf ?_
        refine bq_n ?_
        refine sN ⟨[0, 7, 37, 38, 39], [], [], []⟩ ⟨[(0, .eptr (GQuoteQuoted.cs a0q)), (7, I (wi (l12_1 + 1))), (37, .p (.sl 7 (List.map GAr.cs a0q.Tariff.Articles))), (38, I (lenI (List.map GAr.cs a0q.Tariff.Articles))), (39, I l12_2)], []⟩ krf ?_
        refine sL tfm krf ?_
        exact kq_n (wi (l12_1 + 1), wi (l12_2 + 1)) ⟨[0, 7, 37, 38, 39], [], [], []⟩ krf
       ·refine sK ?_
        refine bq_n ?_
        refine sN ⟨[0, 7, 37, 38, 39], [], [], []⟩ ⟨[(0, .eptr (GQuoteQuoted.cs a0q)), (7, I l12_1), (37, .p (.sl 7 (List.map GAr.cs a0q.Tariff.Articles))), (38, I (lenI (List.map GAr.cs a0q.Tariff.Articles))), (39, I l12_2)], []⟩ krf ?_
        refine sL tfm krf ?_
        exact kq_n (l12_1, wi (l12_2 + 1)) ⟨[0, 7, 37, 38, 39], [], [], []⟩ krf
     ·refine sim_exit ?_
      refine sq_x ?_
      refine kq_x ?_
      refine bq_hit ?_
      exact nq_n l12_1 ⟨[7], [], [], []⟩ krf
    ·rintro j11
     refine sS ?_
     refine sR tfm ⟨[7, 56], [], [], []⟩ ⟨[(7, I j11), (56, B (ltI 1000000000 j11))], []⟩ krf ?_
     refine sC (ltI 1000000000 j11) krf ?_ ?_
     ·refine sR tfm ⟨[4, 5], [], [], []⟩ ⟨[(4, I 0), (5, I 3)], []⟩ krf ?_
      refine sT ?_
      refine sq_r ?_
      exact qR (.id) krf krf krf
     ·refine sK ?_
      refine sN ⟨[7], [], [], []⟩ ⟨[(7, I j11)], []⟩ krf ?_
      refine sR tfm ⟨[4, 5], [], [], []⟩ ⟨[(4, I j11), (5, I 0)], []⟩ krf ?_
      refine sT ?_
      exact qR (.id) krf krf krf
def g_money_Started_j1 (n : Nat) (a0price : Int) (a1quantity : Int) (a2unit : Int) : Option (Int × Int) :=
 cond (!eqI a2unit 0) (
  (g_money_checked n (wi (a0price * (wi (Int.tdiv (wi ((wi (a1quantity + a2unit)) - 1)) a2unit))))).bind (exc (fun r2 =>
   (g_money_caught n 0).bind fun r4 =>
   some (r2, r4)) fun e3 => (g_money_caught_2 n e3 0).bind fun r5 =>
  some (0, r5))) none
def g_money_Started (n : Nat) (a0price : Int) (a1quantity : Int) (a2unit : Int) : Option (Int × Int) :=
 (g_money_isAmount n a0price).bind fun r6 =>
 cond r6
  ((g_money_inside n a1quantity 0 1000000000).bind fun r8 =>
  cond r8
   ((g_money_inside n a2unit 1 1000000000).bind fun r10 =>
   (g_money_need n r10 1).bind (exc (fun r11 =>
    g_money_Started_j1 n a0price a1quantity a2unit) fun e12 => (g_money_caught_2 n e12 0).bind fun r13 =>
   some (0, r13)))
   ((g_money_need n false 1).bind (exc (fun r14 =>
    g_money_Started_j1 n a0price a1quantity a2unit) fun e15 => (g_money_caught_2 n e15 0).bind fun r16 =>
   some (0, r16))))
  ((g_money_need n false 1).bind (exc (fun r17 =>
   g_money_Started_j1 n a0price a1quantity a2unit) fun e18 => (g_money_caught_2 n e18 0).bind fun r19 =>
  some (0, r19)))
theorem g_money_Started_okH (n : Nat) (a0price : Int) (a1quantity : Int) (a2unit : Int) : ∀ r, g_money_Started n a0price a1quantity a2unit = some r → ACall Try.prog 49 [I a0price, I a1quantity, I a2unit] (Go.Abs.look []) (heapR (fun r : Int × Int => ((.ret (.tup [I r.1, I r.2]), []) : AEnd × List (Nat × Blk))) r) := by
 refine defer_sim (X := fun r : Int × Int => ((.ret (.tup [I r.1, I r.2]), []) : AEnd × List (Nat × Blk))) [] (⟨Try.f80, _, _, _, 1, _, _, Try.func80, rfl, rfl, rfl, rfl, rfl, rfl, by decide, by decide, rfl, by kernel_rfl⟩ : Catcher Try.prog 80 52) (⟨_, _, _, _, _, 7, 8, _, rfl, rfl, rfl, rfl, rfl, rfl, rfl, by decide⟩ : Deferrer Try.f49 80) 7 Try.func49 Try.ntmps49 rfl krf rfl tfm rfl krf krf krf ?_
 unfold g_money_Started
 refine sP ⟨[0, 1, 2, 6, 7], [2000], [], []⟩ ⟨[(0, I a0price), (1, I a1quantity), (2, I a2unit), (6, I 0), (7, .ptr 2000 0)], [(2000, .box 34 [I 0])]⟩ krf ?_
 refine sim_cps (fun _ => ⟨[(0, I a0price), (1, I a1quantity), (2, I a2unit), (6, I 0), (7, .ptr 2000 0)], [(2000, .box 34 [I 0])]⟩ : Unit → St) (fun _ => g_money_Started_j1 n a0price a1quantity a2unit) ?_ ?_
 ·rintro _
  show SimE (g_money_Started_j1 n a0price a1quantity a2unit) _ _ _ _ _ _
  unfold g_money_Started_j1
  refine sS ?_
  refine sG ?_
  refine xR 6 krf ?_
  refine xF krf krf (aop_quo (k := .i64) (a := wi ((wi (a1quantity + a2unit)) - 1)) (b := a2unit) rfl krf krf) ?_
  refine xR 1 krf ?_
  refine xs_exc [] krf (g_money_checked_ok n (wi (a0price * (wi (Int.tdiv (wi ((wi (a1quantity + a2unit)) - 1)) a2unit))))) krf krf (fun _ => by kernel_rfl) (fun _ => by kernel_rfl) (fun r2 => ?_) (fun e3 => ?_)
  ·refine xR 2 krf ?_
   refine xE ?_
   refine sN ⟨[6, 7], [2000], [], []⟩ ⟨[(6, I r2), (7, .ptr 2000 0)], [(2000, .box 34 [I 0])]⟩ krf ?_
   refine sT ?_
   refine dq_ret ?_
   refine sc_heap [(1001, 2000)] [] [] (g_money_caught_ok n 0) krf krf krf (fun _ => by kernel_rfl) (fun _ => by kernel_rfl) (fun r4 => ?_)
   exact ke_end (.id) [] [] krf krf krf krf
  ·refine sq_p ?_
   refine dq_p ?_
   refine sc_heap [(1001, 2000)] [] [] (g_money_caught_2_ok n e3 0) krf krf krf (fun _ => by kernel_rfl) (fun _ => by kernel_rfl) (fun r5 => ?_)
   exact ke_end (.id) [] [] krf krf krf krf
 ·refine sG ?_
  refine xR 1 krf ?_
  refine xC [] krf (g_money_isAmount_ok n a0price) krf krf (fun _ => by kernel_rfl) (fun r6 => ?_)
  refine xR 1 krf ?_
  refine xS r6 (fun h7 => ?_) (fun h7 => ?_)
  ·refine xO (want_tt krf h7) krf ?_
   refine xC [] krf (g_money_inside_ok n a1quantity 0 1000000000) krf krf (fun _ => by kernel_rfl) (fun r8 => ?_)
   refine xR 2 krf ?_
   refine xS r8 (fun h9 => ?_) (fun h9 => ?_)
   ·refine xO (want_tt krf h9) krf ?_
    refine xC [] krf (g_money_inside_ok n a2unit 1 1000000000) krf krf (fun _ => by kernel_rfl) (fun r10 => ?_)
    refine xR 1 krf ?_
    refine xs_exc [] krf (g_money_need_ok n r10 1) krf krf (fun _ => by kernel_rfl) (fun _ => by kernel_rfl) (fun r11 => ?_) (fun e12 => ?_)
    ·refine xE ?_
     exact kq_n (k := fun _ => g_money_Started_j1 n a0price a1quantity a2unit) () ⟨[0, 1, 2, 6, 7], [2000], [], []⟩ krf
    ·refine kq_p ?_
     refine dq_p ?_
     refine sc_heap [(1001, 2000)] [] [] (g_money_caught_2_ok n e12 0) krf krf krf (fun _ => by kernel_rfl) (fun _ => by kernel_rfl) (fun r13 => ?_)
     exact ke_end (.id) [] [] krf krf krf krf
   ·refine xN (want_tf krf h9) krf ?_
    refine xR 2 krf ?_
    refine xs_exc [] krf (g_money_need_ok n false 1) krf krf (fun _ => by kernel_rfl) (fun _ => by kernel_rfl) (fun r14 => ?_) (fun e15 => ?_)
    ·refine xE ?_
     exact kq_n (k := fun _ => g_money_Started_j1 n a0price a1quantity a2unit) () ⟨[0, 1, 2, 6, 7], [2000], [], []⟩ krf
    ·refine kq_p ?_
     refine dq_p ?_
     refine sc_heap [(1001, 2000)] [] [] (g_money_caught_2_ok n e15 0) krf krf krf (fun _ => by kernel_rfl) (fun _ => by kernel_rfl) (fun r16 => ?_)
     exact ke_end (.id) [] [] krf krf krf krf
  ·refine xN (want_tf krf h7) krf ?_
   refine xR 6 krf ?_
   refine xs_exc [] krf (g_money_need_ok n false 1) krf krf (fun _ => by kernel_rfl) (fun _ => by kernel_rfl) (fun r17 => ?_) (fun e18 => ?_)
   ·refine xE ?_
    exact kq_n (k := fun _ => g_money_Started_j1 n a0price a1quantity a2unit) () ⟨[0, 1, 2, 6, 7], [2000], [], []⟩ krf
   ·refine kq_p ?_
    refine dq_p ?_
    refine sc_heap [(1001, 2000)] [] [] (g_money_caught_2_ok n e18 0) krf krf krf (fun _ => by kernel_rfl) (fun _ => by kernel_rfl) (fun r19 => ?_)
    exact ke_end (.id) [] [] krf krf krf krf
theorem g_money_Started_ok (n : Nat) (a0price : Int) (a1quantity : Int) (a2unit : Int) : ∀ r, g_money_Started n a0price a1quantity a2unit = some r → PCall Try.prog 49 [I a0price, I a1quantity, I a2unit] (.ret (.tup [I r.1, I r.2])) := fun r h => pcall_of (g_money_Started_okH n a0price a1quantity a2unit r h) rfl
def g_quote_quoted_sum_l6 (n : Nat) (a0q : GQuoteQuoted) (l4_1 : Int) (recl6 : (Int × Int) → Option Int) (l6_1 : Int) (l6_2 : Int) : Option Int :=
 cond (ltI l6_2 (lenI (List.map GAr.cs a0q.Tariff.Articles)))
  ((getI a0q.Tariff.Articles l6_2).bind fun x7 =>
  (cond (eqI x7.Kind 1)
   ((g_t_Applies n x7 a0q.calendar l4_1).bind fun r10 =>
   some r10)
   (some false)).bind fun j8 =>
  cond j8
   (recl6 (wi (l6_1 + x7.Price), wi (l6_2 + 1)))
   (recl6 (l6_1, wi (l6_2 + 1))))
  (some l6_1)
def g_quote_quoted_sum_l4 (n : Nat) (a0q : GQuoteQuoted) (recl4 : (Int × Int) → Option Int) (l4_1 : Int) (l4_2 : Int) : Option Int :=
 cond (ltI l4_1 a0q.to_)
  ((loopN (fun recl6 (l6_1, l6_2) => g_quote_quoted_sum_l6 n a0q l4_1 recl6 l6_1 l6_2) n (0, 0)).bind fun j5 =>
  recl4 (wi (l4_1 + 1), maxI l4_2 j5))
  (some l4_2)
def g_quote_quoted_sum_j11 (j11 : Int) : Option (Int × Int) :=
 cond (ltI 1000000000 j11)
  (some (0, 3))
  (some (j11, 0))
def g_quote_quoted_sum_l12 (n : Nat) (a0q : GQuoteQuoted) (recl12 : (Int × Int) → Option (Int × Int)) (l12_1 : Int) (l12_2 : Int) : Option (Int × Int) :=
 cond (ltI l12_2 (lenI (List.map GAr.cs a0q.Tariff.Articles)))
  ((getI a0q.Tariff.Articles l12_2).bind fun x13 =>
  (cond (!eqI x13.Kind 3)
   (some (!eqI x13.Kind 4))
   (some false)).bind fun j14 =>
  cond j14
   (recl12 (l12_1, wi (l12_2 + 1)))
   ((g_quote_quoted_count n a0q x13).bind fun r16 =>
   (g_money_Started n x13.Price (maxI 0 (wi (r16 - x13.Free))) x13.Unit).bind fun r17 =>
   cond (!eqI r17.2 0)
    (some (0, 3))
    (recl12 (wi (l12_1 + r17.1), wi (l12_2 + 1)))))
  (g_quote_quoted_sum_j11 l12_1)
def g_quote_quoted_sum (n : Nat) (a0q : GQuoteQuoted) (a1energy : Int) : Option (Int × Int) :=
 (g_quote_quoted_energy n a0q a1energy).bind fun r1 =>
 cond (!eqI r1.2 0)
  (some (0, r1.2))
  ((loopN (fun recl4 (l4_1, l4_2) => g_quote_quoted_sum_l4 n a0q recl4 l4_1 l4_2) n (a0q.from_, 0)).bind fun j2 =>
  loopN (fun recl12 (l12_1, l12_2) => g_quote_quoted_sum_l12 n a0q recl12 l12_1 l12_2) n (wi (r1.1 + j2), 0))
theorem g_quote_quoted_sum_ok (n : Nat) (a0q : GQuoteQuoted) (a1energy : Int) : ∀ r, g_quote_quoted_sum n a0q a1energy = some r → PCall Try.prog 29 [.eptr (GQuoteQuoted.cs a0q), I a1energy] (.ret (.tup [I r.1, I r.2])) := by
 refine pcall_sim (X := fun r : Int × Int => AEnd.ret (.tup [I r.1, I r.2])) Try.func29 rfl Try.ntmps29 rfl ?_
 unfold g_quote_quoted_sum
 refine sR tfm ⟨[0, 1], [], [], []⟩ ⟨[(0, .eptr (GQuoteQuoted.cs a0q)), (1, I a1energy)], []⟩ krf ?_
 refine sS ?_
 refine sG ?_
 refine xR 2 krf ?_
 refine xC [] krf (g_quote_quoted_energy_ok n a0q a1energy) krf krf (fun _ => by kernel_rfl) (fun r1 => ?_)
 refine xR 5 krf ?_
 refine xE ?_
 refine sN ⟨[0, 6, 7], [], [], []⟩ ⟨[(0, .eptr (GQuoteQuoted.cs a0q)), (6, I r1.1), (7, I r1.2)], []⟩ krf ?_
 refine sS ?_
 refine sR tfm ⟨[0, 6, 7, 20], [], [], []⟩ ⟨[(0, .eptr (GQuoteQuoted.cs a0q)), (6, I r1.1), (7, I r1.2), (20, B (!eqI r1.2 0))], []⟩ krf ?_
 refine sC (!eqI r1.2 0) krf ?_ ?_
 ·refine sR tfm ⟨[4, 5], [], [], []⟩ ⟨[(4, I 0), (5, I r1.2)], []⟩ krf ?_
  refine sT ?_
  refine sq_r ?_
  exact qR (.id) krf krf krf
 ·refine sK ?_
  refine sN ⟨[0, 6], [], [], []⟩ ⟨[(0, .eptr (GQuoteQuoted.cs a0q)), (6, I r1.1)], []⟩ krf ?_
  refine sS ?_
  refine sim_hst [0, 1, 2, 3, 4, 5, 6, 7, 8, 10] [0, 10] [(9, []), (11, []), (12, []), (13, []), (14, [])] tfm rfl krf krf ?_
  refine h_enter (f := 47) (args := [I a0q.from_, I a0q.to_]) (dst := some 31) krf krf ?_
  refine sc_inline (hc := []) (args' := [I a0q.from_, I a0q.to_]) [(2, 402), (3, 403)] [] [] Try.func47 rfl Try.ntmps47 rfl krf krf krf ?_
  refine sR tfm ⟨[2, 3], [2, 3], [], []⟩ ⟨[(2, .ptr 2 0), (3, .ptr 3 0)], [(2, .box 3 [I a0q.from_]), (3, .box 3 [I a0q.to_])]⟩ krf ?_
  refine sR tfm ⟨[4], [2, 3], [], []⟩ ⟨[(4, .fn (.func 77) [] [.ptr 2 0, .ptr 3 0])], [(2, .box 3 [I a0q.from_]), (3, .box 3 [I a0q.to_])]⟩ krf ?_
  refine sT ?_
  refine iq_ret (.id) [2, 3] [] (.fn (.func 77) [] [.ptr 2 0, .ptr 3 0]) krf krf ?_
  refine kh [0, 10] krf (lates_cons (late_move krf) (lates_cons (late_move krf) (lates_nil))) krf ?_
  refine h_enter (f := 48) (args := [.eptr (GQuoteQuoted.cs a0q), I 1]) (dst := some 33) krf krf ?_
  refine sc_inline (hc := []) (args' := [.eptr (GQuoteQuoted.cs a0q), I 1]) [(2, 439), (3, 440)] [] [] Try.func48 rfl Try.ntmps48 rfl krf krf krf ?_
  refine sR tfm ⟨[2, 3], [2, 3], [], []⟩ ⟨[(2, .ptr 2 0), (3, .ptr 3 0)], [(2, .box 62 [.eptr (GQuoteQuoted.cs a0q)]), (3, .box 3 [I 1])]⟩ krf ?_
  refine sR tfm ⟨[4], [2, 3], [], []⟩ ⟨[(4, .fn (.func 78) [] [.ptr 2 0, .ptr 3 0])], [(2, .box 62 [.eptr (GQuoteQuoted.cs a0q)]), (3, .box 3 [I 1])]⟩ krf ?_
  refine sT ?_
  refine iq_ret (.id) [2, 3] [] (.fn (.func 78) [] [.ptr 2 0, .ptr 3 0]) krf krf ?_
  refine kh [0] krf (lates_cons (late_move krf) (lates_nil)) krf ?_
  refine h_enter (f := 46) (args := [.fn (.func 77) [] [.ptr 402 0, .ptr 403 0], .fn (.func 78) [] [.ptr 439 0, .ptr 440 0]]) (dst := some 34) krf krf ?_
  refine sc_inline (hc := [(1000, .box 3 [I a0q.from_]), (1001, .box 3 [I a0q.to_]), (1002, .box 62 [.eptr (GQuoteQuoted.cs a0q)]), (1003, .box 3 [I 1])]) (args' := [.fn (.func 77) [] [.ptr 1000 0, .ptr 1001 0], .fn (.func 78) [] [.ptr 1002 0, .ptr 1003 0]]) [(1000, 402), (1001, 403), (1002, 439), (1003, 440)] [] [] Try.func46 rfl Try.ntmps46 rfl krf krf krf ?_
  refine sR tfm ⟨[0, 3], [3, 1000, 1001, 1002, 1003], [], []⟩ ⟨[(0, .fn (.func 77) [] [.ptr 1000 0, .ptr 1001 0]), (3, .ptr 3 0)], [(3, .box 80 [.fn (.func 78) [] [.ptr 1002 0, .ptr 1003 0]]), (1000, .box 3 [I a0q.from_]), (1001, .box 3 [I a0q.to_]), (1002, .box 62 [.eptr (GQuoteQuoted.cs a0q)]), (1003, .box 3 [I 1])]⟩ krf ?_
  refine sR tfm ⟨[0, 3, 5], [3, 5, 1000, 1001, 1002, 1003], [], []⟩ ⟨[(0, .fn (.func 77) [] [.ptr 1000 0, .ptr 1001 0]), (3, .ptr 3 0), (5, .ptr 5 0)], [(3, .box 80 [.fn (.func 78) [] [.ptr 1002 0, .ptr 1003 0]]), (5, .box 3 [I 0]), (1000, .box 3 [I a0q.from_]), (1001, .box 3 [I a0q.to_]), (1002, .box 62 [.eptr (GQuoteQuoted.cs a0q)]), (1003, .box 3 [I 1])]⟩ krf ?_
  refine sim_bind (fun j2 => ⟨[(5, .ptr 5 0)], [(5, .box 3 [I j2]), (1000, .box 3 [I a0q.from_]), (1001, .box 3 [I a0q.to_]), (1002, .box 62 [.eptr (GQuoteQuoted.cs a0q)]), (1003, .box 3 [I 1])]⟩ : Int → St) ?_ ?_
  ·refine sR tfm ⟨[3, 5, 7], [3, 5, 1000, 1001, 1002, 1003], [], []⟩ ⟨[(3, .ptr 3 0), (5, .ptr 5 0), (7, .fn (.func 77) [] [.ptr 1000 0, .ptr 1001 0])], [(3, .box 80 [.fn (.func 78) [] [.ptr 1002 0, .ptr 1003 0]]), (5, .box 3 [I 0]), (1000, .box 3 [I a0q.from_]), (1001, .box 3 [I a0q.to_]), (1002, .box 62 [.eptr (GQuoteQuoted.cs a0q)]), (1003, .box 3 [I 1])]⟩ krf ?_
   refine sB ?_
   refine sP ⟨[3, 5, 7], [3, 5, 1000, 1001, 1002, 1003], [], []⟩ ⟨[(3, .ptr 3 0), (5, .ptr 5 0), (7, .fn (.func 77) [] [.ptr 1000 0, .ptr 1001 0])], [(3, .box 80 [.fn (.func 78) [] [.ptr 1002 0, .ptr 1003 0]]), (5, .box 3 [I 0]), (1000, .box 3 [I a0q.from_]), (1001, .box 3 [I a0q.to_]), (1002, .box 62 [.eptr (GQuoteQuoted.cs a0q)]), (1003, .box 3 [I 1])]⟩ krf ?_
   refine sim_range 77 3000 [] [.ptr 1000 0, .ptr 1001 0] krf krf (fun nf3 _ hnf3 => ?_)
   refine sc_inline (hc := [(1003, .box 80 [.fn (.func 78) [] [.ptr 2002 0, .ptr 2003 0]]), (1005, .box 3 [I 0]), (2000, .box 3 [I a0q.from_]), (2001, .box 3 [I a0q.to_]), (2002, .box 62 [.eptr (GQuoteQuoted.cs a0q)]), (2003, .box 3 [I 1]), (4000, .lp [(3, .ptr 1003 0), (5, .ptr 1005 0), (7, .fn (.func 77) [] [.ptr 2000 0, .ptr 2001 0])] nf3 .ready none)]) (args' := [.yv 4000, .ptr 2000 0, .ptr 2001 0]) [(1003, 3), (1005, 5), (2000, 1000), (2001, 1001), (2002, 1002), (2003, 1003), (4000, 3000)] [] [] Try.func77 rfl Try.ntmps77 rfl krf krf krf ?_
   refine sR tfm ⟨[0, 2, 4], [1003, 1005, 2000, 2001, 2002, 2003, 4000], [], []⟩ ⟨[(0, .yv 4000), (2, .ptr 2001 0), (4, I a0q.from_)], [(1003, .box 80 [.fn (.func 78) [] [.ptr 2002 0, .ptr 2003 0]]), (1005, .box 3 [I 0]), (2000, .box 3 [I a0q.from_]), (2001, .box 3 [I a0q.to_]), (2002, .box 62 [.eptr (GQuoteQuoted.cs a0q)]), (2003, .box 3 [I 1]), (4000, .lp [(3, .ptr 1003 0), (5, .ptr 1005 0), (7, .fn (.func 77) [] [.ptr 2000 0, .ptr 2001 0])] nf3 .ready none)]⟩ krf ?_
   refine sB ?_
   refine sim_loop (fun (l4_1, l4_2) => ⟨[(0, .yv 4000), (2, .ptr 2001 0), (4, I l4_1)], [(1003, .box 80 [.fn (.func 78) [] [.ptr 2002 0, .ptr 2003 0]]), (1005, .box 3 [I l4_2]), (2000, .box 3 [I a0q.from_]), (2001, .box 3 [I a0q.to_]), (2002, .box 62 [.eptr (GQuoteQuoted.cs a0q)]), (2003, .box 3 [I 1]), (4000, .lp [(3, .ptr 1003 0), (5, .ptr 1005 0), (7, .fn (.func 77) [] [.ptr 2000 0, .ptr 2001 0])] nf3 .ready none)]⟩ : (Int × Int) → St) (weak_shr (K := ⟨[0, 2, 4], [1003, 1005, 2000, 2001, 2002, 2003, 4000], [], []⟩) krf) ?_
   rintro recl4 ⟨l4_1, l4_2⟩
   show SimE (g_quote_quoted_sum_l4 n a0q recl4 l4_1 l4_2) _ _ _ _ _ _
   unfold g_quote_quoted_sum_l4
   refine sS ?_
   refine sR tfm ⟨[0, 2, 4, 8], [1003, 1005, 2000, 2001, 2002, 2003, 4000], [], []⟩ ⟨[(0, .yv 4000), (2, .ptr 2001 0), (4, I l4_1), (8, B (ltI l4_1 a0q.to_))], [(1003, .box 80 [.fn (.func 78) [] [.ptr 2002 0, .ptr 2003 0]]), (1005, .box 3 [I l4_2]), (2000, .box 3 [I a0q.from_]), (2001, .box 3 [I a0q.to_]), (2002, .box 62 [.eptr (GQuoteQuoted.cs a0q)]), (2003, .box 3 [I 1]), (4000, .lp [(3, .ptr 1003 0), (5, .ptr 1005 0), (7, .fn (.func 77) [] [.ptr 2000 0, .ptr 2001 0])] nf3 .ready none)]⟩ krf ?_
   refine sC (ltI l4_1 a0q.to_) krf ?_ ?_
   ·refine sK ?_
    refine sN ⟨[0, 2, 4], [1003, 1005, 2000, 2001, 2002, 2003, 4000], [], []⟩ ⟨[(0, .yv 4000), (2, .ptr 2001 0), (4, I l4_1)], [(1003, .box 80 [.fn (.func 78) [] [.ptr 2002 0, .ptr 2003 0]]), (1005, .box 3 [I l4_2]), (2000, .box 3 [I a0q.from_]), (2001, .box 3 [I a0q.to_]), (2002, .box 62 [.eptr (GQuoteQuoted.cs a0q)]), (2003, .box 3 [I 1]), (4000, .lp [(3, .ptr 1003 0), (5, .ptr 1005 0), (7, .fn (.func 77) [] [.ptr 2000 0, .ptr 2001 0])] nf3 .ready none)]⟩ krf ?_
    refine sS ?_
    refine sB ?_
    refine sS ?_
    refine sG ?_
    refine xR 2 krf ?_
    refine xs_yield [] [(1003, .box 80 [.fn (.func 78) [] [.ptr 2002 0, .ptr 2003 0]]), (1005, .box 3 [I l4_2]), (2000, .box 3 [I a0q.from_]), (2001, .box 3 [I a0q.to_]), (2002, .box 62 [.eptr (GQuoteQuoted.cs a0q)]), (2003, .box 3 [I 1]), (4000, .lp [(3, .ptr 1003 0), (5, .ptr 1005 0), (7, .fn (.func 77) [] [.ptr 2000 0, .ptr 2001 0])] nf3 .ready none)] 4000 [(3, .ptr 1003 0), (5, .ptr 1005 0), (7, .fn (.func 77) [] [.ptr 2000 0, .ptr 2001 0])] [] [] [I l4_1] krf hnf3 krf krf krf krf krf (fun _ => ?_)
    refine sL tfm krf ?_
    refine as_n ⟨[3, 5, 6], [1003, 1005, 2000, 2001, 2002, 2003, 4000], [], []⟩ ⟨[(3, .ptr 1003 0), (5, .ptr 1005 0), (6, I l4_1)], [(1003, .box 80 [.fn (.func 78) [] [.ptr 2002 0, .ptr 2003 0]]), (1005, .box 3 [I l4_2]), (2000, .box 3 [I a0q.from_]), (2001, .box 3 [I a0q.to_]), (2002, .box 62 [.eptr (GQuoteQuoted.cs a0q)]), (2003, .box 3 [I 1]), (4000, .lp [(3, .ptr 1003 0), (5, .ptr 1005 0), (7, .fn (.func 77) [] [.ptr 2000 0, .ptr 2001 0])] nf3 .busy none)]⟩ none krf krf ?_
    refine sB ?_
    refine sim_hst [0, 1, 2] [0] [(3, []), (4, []), (5, [])] tfm rfl krf krf ?_
    refine h_enter (f := 78) (args := [I l4_1, .ptr 2002 0, .ptr 2003 0]) (dst := some 12) krf krf ?_
    refine sc_inline (hc := [(1000, .box 62 [.eptr (GQuoteQuoted.cs a0q)]), (1001, .box 3 [I 1])]) (args' := [I l4_1, .ptr 1000 0, .ptr 1001 0]) [(1000, 2002), (1001, 2003)] [] [] Try.func78 rfl Try.ntmps78 rfl krf krf krf ?_
    refine sR tfm ⟨[0, 1, 2], [1000, 1001], [], []⟩ ⟨[(0, I l4_1), (1, .ptr 1000 0), (2, .ptr 1001 0)], [(1000, .box 62 [.eptr (GQuoteQuoted.cs a0q)]), (1001, .box 3 [I 1])]⟩ krf ?_
    refine sR tfm ⟨[0, 1, 2, 5], [1000, 1001], [], []⟩ ⟨[(0, I l4_1), (1, .ptr 1000 0), (2, .ptr 1001 0), (5, I 0)], [(1000, .box 62 [.eptr (GQuoteQuoted.cs a0q)]), (1001, .box 3 [I 1])]⟩ krf ?_
    refine sim_bind (fun j5 => ⟨[(5, I j5)], [(1000, .box 62 [.eptr (GQuoteQuoted.cs a0q)]), (1001, .box 3 [I 1])]⟩ : Int → St) ?_ ?_
    ·refine sR tfm ⟨[0, 1, 2, 5, 12, 13, 14], [1000, 1001], [], []⟩ ⟨[(0, I l4_1), (1, .ptr 1000 0), (2, .ptr 1001 0), (5, I 0), (12, .p (.sl 7 (List.map GAr.cs a0q.Tariff.Articles))), (13, I (lenI (List.map GAr.cs a0q.Tariff.Articles))), (14, I 0)], [(1000, .box 62 [.eptr (GQuoteQuoted.cs a0q)]), (1001, .box 3 [I 1])]⟩ krf ?_
     refine sB ?_
     refine sim_loop (fun (l6_1, l6_2) => ⟨[(0, I l4_1), (1, .ptr 1000 0), (2, .ptr 1001 0), (5, I l6_1), (12, .p (.sl 7 (List.map GAr.cs a0q.Tariff.Articles))), (13, I (lenI (List.map GAr.cs a0q.Tariff.Articles))), (14, I l6_2)], [(1000, .box 62 [.eptr (GQuoteQuoted.cs a0q)]), (1001, .box 3 [I 1])]⟩ : (Int × Int) → St) (weak_shr (K := ⟨[0, 1, 2, 5, 12, 13, 14], [1000, 1001], [], []⟩) krf) ?_
     rintro recl6 ⟨l6_1, l6_2⟩
     show SimE (g_quote_quoted_sum_l6 n a0q l4_1 recl6 l6_1 l6_2) _ _ _ _ _ _
     unfold g_quote_quoted_sum_l6
     refine sR tfm ⟨[0, 1, 2, 5, 12, 13, 14, 15], [1000, 1001], [], []⟩ ⟨[(0, I l4_1), (1, .ptr 1000 0), (2, .ptr 1001 0), (5, I l6_1), (12, .p (.sl 7 (List.map GAr.cs a0q.Tariff.Articles))), (13, I (lenI (List.map GAr.cs a0q.Tariff.Articles))), (14, I l6_2), (15, B (ltI l6_2 (lenI (List.map GAr.cs a0q.Tariff.Articles))))], [(1000, .box 62 [.eptr (GQuoteQuoted.cs a0q)]), (1001, .box 3 [I 1])]⟩ krf ?_
     refine sS ?_
     refine sC (ltI l6_2 (lenI (List.map GAr.cs a0q.Tariff.Articles))) krf ?_ ?_
     ·refine sK ?_
      refine sN ⟨[0, 1, 2, 5, 12, 13, 14], [1000, 1001], [], []⟩ ⟨[(0, I l4_1), (1, .ptr 1000 0), (2, .ptr 1001 0), (5, I l6_1), (12, .p (.sl 7 (List.map GAr.cs a0q.Tariff.Articles))), (13, I (lenI (List.map GAr.cs a0q.Tariff.Articles))), (14, I l6_2)], [(1000, .box 62 [.eptr (GQuoteQuoted.cs a0q)]), (1001, .box 3 [I 1])]⟩ krf ?_
      refine sS ?_
      refine sB ?_
      refine sS ?_
      refine sG ?_
      refine xG krf krf (aop_idx (e := 44) (S := 7) (enc := GAr.cs) (l := a0q.Tariff.Articles) (k := .i64) (n := l6_2) (sv := .p (.sl 7 (List.map GAr.cs a0q.Tariff.Articles))) rfl krf krf krf krf krf) (fun x7 => ?_)
      refine xR 3 krf ?_
      refine xE ?_
      refine sN ⟨[0, 1, 2, 5, 7, 12, 13, 14], [7, 1000, 1001], [], []⟩ ⟨[(0, I l4_1), (1, .ptr 1000 0), (2, .ptr 1001 0), (5, I l6_1), (7, .ptr 7 0), (12, .p (.sl 7 (List.map GAr.cs a0q.Tariff.Articles))), (13, I (lenI (List.map GAr.cs a0q.Tariff.Articles))), (14, I l6_2)], [(7, .box 44 (bxc (GAr.cs x7))), (1000, .box 62 [.eptr (GQuoteQuoted.cs a0q)]), (1001, .box 3 [I 1])]⟩ krf ?_
      refine sim_bind (fun j8 => ⟨[(0, I l4_1), (1, .ptr 1000 0), (2, .ptr 1001 0), (5, I l6_1), (7, .ptr 7 0), (12, .p (.sl 7 (List.map GAr.cs a0q.Tariff.Articles))), (13, I (lenI (List.map GAr.cs a0q.Tariff.Articles))), (14, I l6_2), (30, B j8)], [(7, .box 44 (bxc (GAr.cs x7))), (1000, .box 62 [.eptr (GQuoteQuoted.cs a0q)]), (1001, .box 3 [I 1])]⟩ : Bool → St) ?_ ?_
      ·refine sim_drw tfm rfl ?_
       refine xR 5 krf ?_
       refine xS (eqI x7.Kind 1) (fun h9 => ?_) (fun h9 => ?_)
       ·refine xO (want_tt krf h9) krf ?_
        refine xR 5 krf ?_
        refine xC [] krf (g_t_Applies_ok n x7 a0q.calendar l4_1) krf krf (fun _ => by kernel_rfl) (fun r10 => ?_)
        refine xR 1 krf ?_
        refine xs_endD krf ?_
        exact nq_n r10 ⟨[0, 1, 2, 5, 7, 12, 13, 14, 30], [7, 1000, 1001], [], []⟩ krf
       ·refine xN (want_tf krf h9) krf ?_
        refine xR 7 krf ?_
        refine xs_endD krf ?_
        exact nq_n false ⟨[0, 1, 2, 5, 7, 12, 13, 14, 30], [7, 1000, 1001], [], []⟩ krf
      ·rintro j8
       refine sC j8 krf ?_ ?_
       ·refine sL tfm krf ?_
        refine bq_n ?_
        refine sN ⟨[0, 1, 2, 5, 12, 13, 14], [1000, 1001], [], []⟩ ⟨[(0, I l4_1), (1, .ptr 1000 0), (2, .ptr 1001 0), (5, I (wi (l6_1 + x7.Price))), (12, .p (.sl 7 (List.map GAr.cs a0q.Tariff.Articles))), (13, I (lenI (List.map GAr.cs a0q.Tariff.Articles))), (14, I l6_2)], [(1000, .box 62 [.eptr (GQuoteQuoted.cs a0q)]), (1001, .box 3 [I 1])]⟩ krf ?_
        refine sL tfm krf ?_
        exact kq_n (wi (l6_1 + x7.Price), wi (l6_2 + 1)) ⟨[0, 1, 2, 5, 12, 13, 14], [1000, 1001], [], []⟩ krf
       ·refine sK ?_
        refine bq_n ?_
        refine sN ⟨[0, 1, 2, 5, 12, 13, 14], [1000, 1001], [], []⟩ ⟨[(0, I l4_1), (1, .ptr 1000 0), (2, .ptr 1001 0), (5, I l6_1), (12, .p (.sl 7 (List.map GAr.cs a0q.Tariff.Articles))), (13, I (lenI (List.map GAr.cs a0q.Tariff.Articles))), (14, I l6_2)], [(1000, .box 62 [.eptr (GQuoteQuoted.cs a0q)]), (1001, .box 3 [I 1])]⟩ krf ?_
        refine sL tfm krf ?_
        exact kq_n (l6_1, wi (l6_2 + 1)) ⟨[0, 1, 2, 5, 12, 13, 14], [1000, 1001], [], []⟩ krf
     ·refine sim_exit ?_
      refine sq_x ?_
      refine kq_x ?_
      refine bq_hit ?_
      exact nq_n l6_1 ⟨[5], [1000, 1001], [], []⟩ krf
    ·rintro j5
     refine sR tfm ⟨[4], [1000, 1001], [], []⟩ ⟨[(4, I j5)], [(1000, .box 62 [.eptr (GQuoteQuoted.cs a0q)]), (1001, .box 3 [I 1])]⟩ krf ?_
     refine sT ?_
     refine iq_ret (.id) [1000, 1001] [] (I j5) krf krf ?_
     refine kh [0] krf (lates_cons (late_read (I l4_2) krf rfl) (lates_nil)) krf ?_
     refine h_op [] krf krf (lates_nil) ?_
     refine h_op [] krf krf (lates_nil) ?_
     refine h_end ?_
     refine bq_n ?_
     refine rn_n [1003, 1005, 2000, 2001, 2002, 2003, 4000] [] .busy none krf krf ?_
     refine kr0 ?_
     refine xR 1 krf ?_
     refine xE ?_
     refine sN ⟨[0, 2, 4, 14], [1003, 1005, 2000, 2001, 2002, 2003, 4000], [], []⟩ ⟨[(0, .yv 4000), (2, .ptr 2001 0), (4, I l4_1), (14, B false)], [(1003, .box 80 [.fn (.func 78) [] [.ptr 2002 0, .ptr 2003 0]]), (1005, .box 3 [I (maxI l4_2 j5)]), (2000, .box 3 [I a0q.from_]), (2001, .box 3 [I a0q.to_]), (2002, .box 62 [.eptr (GQuoteQuoted.cs a0q)]), (2003, .box 3 [I 1]), (4000, .lp [(3, .ptr 1003 0), (5, .ptr 1005 0), (7, .fn (.func 77) [] [.ptr 2000 0, .ptr 2001 0])] nf3 .ready none)]⟩ krf ?_
     refine sim_condF krf ?_
     refine sK ?_
     refine bq_n ?_
     refine sN ⟨[0, 2, 4], [1003, 1005, 2000, 2001, 2002, 2003, 4000], [], []⟩ ⟨[(0, .yv 4000), (2, .ptr 2001 0), (4, I l4_1)], [(1003, .box 80 [.fn (.func 78) [] [.ptr 2002 0, .ptr 2003 0]]), (1005, .box 3 [I (maxI l4_2 j5)]), (2000, .box 3 [I a0q.from_]), (2001, .box 3 [I a0q.to_]), (2002, .box 62 [.eptr (GQuoteQuoted.cs a0q)]), (2003, .box 3 [I 1]), (4000, .lp [(3, .ptr 1003 0), (5, .ptr 1005 0), (7, .fn (.func 77) [] [.ptr 2000 0, .ptr 2001 0])] nf3 .ready none)]⟩ krf ?_
     refine sL tfm krf ?_
     exact kq_n (wi (l4_1 + 1), maxI l4_2 j5) ⟨[0, 2, 4], [1003, 1005, 2000, 2001, 2002, 2003, 4000], [], []⟩ krf
   ·refine sim_exit ?_
    refine sq_x ?_
    refine kq_x ?_
    refine bq_hit ?_
    refine iq_n .id [1003, 1005, 2000, 2001, 2002, 2003, 4000] [] (.tup []) krf krf ?_
    refine kg_n .ready ⟨[5], [5, 1000, 1001, 1002, 1003], [], []⟩ ⟨[(5, .ptr 5 0)], [(5, .box 3 [I l4_2]), (1000, .box 3 [I a0q.from_]), (1001, .box 3 [I a0q.to_]), (1002, .box 62 [.eptr (GQuoteQuoted.cs a0q)]), (1003, .box 3 [I 1])]⟩ krf (by intro h; cases h) krf ?_
    refine bq_n ?_
    exact nq_n l4_2 ⟨[5], [5, 1000, 1001, 1002, 1003], [], []⟩ krf
  ·rintro j2
   refine sR tfm ⟨[4], [1000, 1001, 1002, 1003], [], []⟩ ⟨[(4, I j2)], [(1000, .box 3 [I a0q.from_]), (1001, .box 3 [I a0q.to_]), (1002, .box 62 [.eptr (GQuoteQuoted.cs a0q)]), (1003, .box 3 [I 1])]⟩ krf ?_
   refine sT ?_
   refine iq_ret (.id) [1000, 1001, 1002, 1003] [] (I j2) krf krf ?_
   refine kh [0] krf (lates_cons (late_move krf) (lates_nil)) krf ?_
   refine h_op [] krf krf (lates_nil) ?_
   refine h_op [] krf krf (lates_nil) ?_
   refine h_end ?_
   refine sN ⟨[0, 8], [], [], []⟩ ⟨[(0, .eptr (GQuoteQuoted.cs a0q)), (8, I (wi (r1.1 + j2)))], []⟩ krf ?_
   refine sim_cps (fun j11 => ⟨[(8, I j11)], []⟩ : Int → St) (fun j11 => g_quote_quoted_sum_j11 j11) ?_ ?_
   ·rintro j11
    show SimE (g_quote_quoted_sum_j11 j11) _ _ _ _ _ _
    unfold g_quote_quoted_sum_j11
    refine sS ?_
    refine sR tfm ⟨[8, 76], [], [], []⟩ ⟨[(8, I j11), (76, B (ltI 1000000000 j11))], []⟩ krf ?_
    refine sC (ltI 1000000000 j11) krf ?_ ?_
    ·refine sR tfm ⟨[4, 5], [], [], []⟩ ⟨[(4, I 0), (5, I 3)], []⟩ krf ?_
     refine sT ?_
     refine sq_r ?_
     exact qR (.id) krf krf krf
    ·refine sK ?_
     refine sN ⟨[8], [], [], []⟩ ⟨[(8, I j11)], []⟩ krf ?_
     refine sR tfm ⟨[4, 5], [], [], []⟩ ⟨[(4, I j11), (5, I 0)], []⟩ krf ?_
     refine sT ?_
     exact qR (.id) krf krf krf
   ·refine sR tfm ⟨[0, 8, 40, 41, 42], [], [], []⟩ ⟨[(0, .eptr (GQuoteQuoted.cs a0q)), (8, I (wi (r1.1 + j2))), (40, .p (.sl 7 (List.map GAr.cs a0q.Tariff.Articles))), (41, I (lenI (List.map GAr.cs a0q.Tariff.Articles))), (42, I 0)], []⟩ krf ?_
    refine sB ?_
    refine sim_loop (fun (l12_1, l12_2) => ⟨[(0, .eptr (GQuoteQuoted.cs a0q)), (8, I l12_1), (40, .p (.sl 7 (List.map GAr.cs a0q.Tariff.Articles))), (41, I (lenI (List.map GAr.cs a0q.Tariff.Articles))), (42, I l12_2)], []⟩ : (Int × Int) → St) (weak_shr (K := ⟨[0, 8, 40, 41, 42], [], [], []⟩) krf) ?_
    rintro recl12 ⟨l12_1, l12_2⟩
    show SimE (g_quote_quoted_sum_l12 n a0q recl12 l12_1 l12_2) _ _ _ _ _ _
    unfold g_quote_quoted_sum_l12
    refine sR tfm ⟨[0, 8, 40, 41, 42, 43], [], [], []⟩ ⟨[(0, .eptr (GQuoteQuoted.cs a0q)), (8, I l12_1), (40, .p (.sl 7 (List.map GAr.cs a0q.Tariff.Articles))), (41, I (lenI (List.map GAr.cs a0q.Tariff.Articles))), (42, I l12_2), (43, B (ltI l12_2 (lenI (List.map GAr.cs a0q.Tariff.Articles))))], []⟩ krf ?_
    refine sS ?_
    refine sC (ltI l12_2 (lenI (List.map GAr.cs a0q.Tariff.Articles))) krf ?_ ?_
    ·refine sK ?_
     refine sN ⟨[0, 8, 40, 41, 42], [], [], []⟩ ⟨[(0, .eptr (GQuoteQuoted.cs a0q)), (8, I l12_1), (40, .p (.sl 7 (List.map GAr.cs a0q.Tariff.Articles))), (41, I (lenI (List.map GAr.cs a0q.Tariff.Articles))), (42, I l12_2)], []⟩ krf ?_
     refine sS ?_
     refine sB ?_
     refine sS ?_
     refine sG ?_
     refine xG krf krf (aop_idx (e := 44) (S := 7) (enc := GAr.cs) (l := a0q.Tariff.Articles) (k := .i64) (n := l12_2) (sv := .p (.sl 7 (List.map GAr.cs a0q.Tariff.Articles))) rfl krf krf krf krf krf) (fun x13 => ?_)
     refine xR 3 krf ?_
     refine xE ?_
     refine sN ⟨[0, 8, 10, 40, 41, 42], [10], [], []⟩ ⟨[(0, .eptr (GQuoteQuoted.cs a0q)), (8, I l12_1), (10, .ptr 10 0), (40, .p (.sl 7 (List.map GAr.cs a0q.Tariff.Articles))), (41, I (lenI (List.map GAr.cs a0q.Tariff.Articles))), (42, I l12_2)], [(10, .box 44 (bxc (GAr.cs x13)))]⟩ krf ?_
     refine sS ?_
     refine sim_bind (fun j14 => ⟨[(0, .eptr (GQuoteQuoted.cs a0q)), (8, I l12_1), (10, .ptr 10 0), (40, .p (.sl 7 (List.map GAr.cs a0q.Tariff.Articles))), (41, I (lenI (List.map GAr.cs a0q.Tariff.Articles))), (42, I l12_2), (53, B j14)], [(10, .box 44 (bxc (GAr.cs x13)))]⟩ : Bool → St) ?_ ?_
     ·refine sG ?_
      refine xR 4 krf ?_
      refine xS (!eqI x13.Kind 3) (fun h15 => ?_) (fun h15 => ?_)
      ·refine xO (want_tt krf h15) krf ?_
       refine xR 3 krf ?_
       refine xE ?_
       exact nq_n (!eqI x13.Kind 4) ⟨[0, 8, 10, 40, 41, 42, 53], [10], [], []⟩ krf
      ·refine xN (want_tf krf h15) krf ?_
       refine xR 3 krf ?_
       refine xE ?_
       exact nq_n false ⟨[0, 8, 10, 40, 41, 42, 53], [10], [], []⟩ krf
     ·rintro j14
      refine sC j14 krf ?_ ?_
      ·refine sim_exit ?_
       refine sq_x ?_
       refine bq_hit ?_
       refine sN ⟨[0, 8, 40, 41, 42], [], [], []⟩ ⟨[(0, .eptr (GQuoteQuoted.cs a0q)), (8, I l12_1), (40, .p (.sl 7 (List.map GAr.cs a0q.Tariff.Articles))), (41, I (lenI (List.map GAr.cs a0q.Tariff.Articles))), (42, I l12_2)], []⟩ krf ?_
       refine sL tfm krf ?_
       exact kq_n (l12_1, wi (l12_2 + 1)) ⟨[0, 8, 40, 41, 42], [], [], []⟩ krf
      ·refine sK ?_
       refine sN ⟨[0, 8, 10, 40, 41, 42], [10], [], []⟩ ⟨[(0, .eptr (GQuoteQuoted.cs a0q)), (8, I l12_1), (10, .ptr 10 0), (40, .p (.sl 7 (List.map GAr.cs a0q.Tariff.Articles))), (41, I (lenI (List.map GAr.cs a0q.Tariff.Articles))), (42, I l12_2)], [(10, .box 44 (bxc (GAr.cs x13)))]⟩ krf ?_
       refine sS ?_
       refine sim_drw tfm rfl ?_
       refine xR 4 krf ?_
       refine xC [] krf (g_quote_quoted_count_ok n a0q x13) krf krf (fun _ => by kernel_rfl) (fun r16 => ?_)
       refine xR 6 krf ?_
       refine xC [] krf (g_money_Started_ok n x13.Price (maxI 0 (wi (r16 - x13.Free))) x13.Unit) krf krf (fun _ => by kernel_rfl) (fun r17 => ?_)
       refine xR 5 krf ?_
       refine xs_endD krf ?_
       refine sN ⟨[0, 8, 11, 12, 40, 41, 42], [], [], []⟩ ⟨[(0, .eptr (GQuoteQuoted.cs a0q)), (8, I l12_1), (11, I r17.1), (12, I r17.2), (40, .p (.sl 7 (List.map GAr.cs a0q.Tariff.Articles))), (41, I (lenI (List.map GAr.cs a0q.Tariff.Articles))), (42, I l12_2)], []⟩ krf ?_
       refine sS ?_
       refine sR tfm ⟨[0, 8, 11, 40, 41, 42, 70], [], [], []⟩ ⟨[(0, .eptr (GQuoteQuoted.cs a0q)), (8, I l12_1), (11, I r17.1), (40, .p (.sl 7 (List.map GAr.cs a0q.Tariff.Articles))), (41, I (lenI (List.map GAr.cs a0q.Tariff.Articles))), (42, I l12_2), (70, B (!eqI r17.2 0))], []⟩ krf ?_
       refine sC (!eqI r17.2 0) krf ?_ ?_
       ·refine sR tfm ⟨[4, 5], [], [], []⟩ ⟨[(4, I 0), (5, I 3)], []⟩ krf ?_
        refine sT ?_
        refine sq_r ?_
        refine bq_r ?_
        refine sq_r ?_
        refine kq_r ?_
        refine bq_r ?_
        refine kq_r ?_
        exact qR (.id) krf krf krf
       ·refine sK ?_
        refine sN ⟨[0, 8, 11, 40, 41, 42], [], [], []⟩ ⟨[(0, .eptr (GQuoteQuoted.cs a0q)), (8, I l12_1), (11, I r17.1), (40, .p (.sl 7 (List.map GAr.cs a0q.Tariff.Articles))), (41, I (lenI (List.map GAr.cs a0q.Tariff.Articles))), (42, I l12_2)], []⟩ krf ?_
        refine sL tfm krf ?_
        refine bq_n ?_
        refine sN ⟨[0, 8, 40, 41, 42], [], [], []⟩ ⟨[(0, .eptr (GQuoteQuoted.cs a0q)), (8, I (wi (l12_1 + r17.1))), (40, .p (.sl 7 (List.map GAr.cs a0q.Tariff.Articles))), (41, I (lenI (List.map GAr.cs a0q.Tariff.Articles))), (42, I l12_2)], []⟩ krf ?_
        refine sL tfm krf ?_
        exact kq_n (wi (l12_1 + r17.1), wi (l12_2 + 1)) ⟨[0, 8, 40, 41, 42], [], [], []⟩ krf
    ·refine sim_exit ?_
     refine sq_x ?_
     refine kq_x ?_
     refine bq_hit ?_
     exact kq_n (k := fun j11 => g_quote_quoted_sum_j11 j11) l12_1 ⟨[8], [], [], []⟩ krf
def g_money_Tax_j1 (n : Nat) (a0amount : Int) (a1rate : Int) : Option (Int × Int) :=
 (g_money_half n (wi (a0amount * a1rate)) 10000).bind fun r2 =>
 (g_money_checked n r2).bind (exc (fun r3 =>
  (g_money_caught n 0).bind fun r5 =>
  some (r3, r5)) fun e4 => (g_money_caught_2 n e4 0).bind fun r6 =>
 some (0, r6))
def g_money_Tax (n : Nat) (a0amount : Int) (a1rate : Int) : Option (Int × Int) :=
 (g_money_isAmount n a0amount).bind fun r7 =>
 cond r7
  ((g_money_inside n a1rate 0 100000).bind fun r9 =>
  (g_money_need n r9 1).bind (exc (fun r10 =>
   g_money_Tax_j1 n a0amount a1rate) fun e11 => (g_money_caught_2 n e11 0).bind fun r12 =>
  some (0, r12)))
  ((g_money_need n false 1).bind (exc (fun r13 =>
   g_money_Tax_j1 n a0amount a1rate) fun e14 => (g_money_caught_2 n e14 0).bind fun r15 =>
  some (0, r15)))
theorem g_money_Tax_okH (n : Nat) (a0amount : Int) (a1rate : Int) : ∀ r, g_money_Tax n a0amount a1rate = some r → ACall Try.prog 30 [I a0amount, I a1rate] (Go.Abs.look []) (heapR (fun r : Int × Int => ((.ret (.tup [I r.1, I r.2]), []) : AEnd × List (Nat × Blk))) r) := by
 refine defer_sim (X := fun r : Int × Int => ((.ret (.tup [I r.1, I r.2]), []) : AEnd × List (Nat × Blk))) [] (⟨Try.f51, _, _, _, 1, _, _, Try.func51, rfl, rfl, rfl, rfl, rfl, rfl, by decide, by decide, rfl, by kernel_rfl⟩ : Catcher Try.prog 51 52) (⟨_, _, _, _, _, 5, 6, _, rfl, rfl, rfl, rfl, rfl, rfl, rfl, by decide⟩ : Deferrer Try.f30 51) 5 Try.func30 Try.ntmps30 rfl krf rfl tfm rfl krf krf krf ?_
 unfold g_money_Tax
 refine sP ⟨[0, 1, 4, 5], [2000], [], []⟩ ⟨[(0, I a0amount), (1, I a1rate), (4, I 0), (5, .ptr 2000 0)], [(2000, .box 34 [I 0])]⟩ krf ?_
 refine sim_cps (fun _ => ⟨[(0, I a0amount), (1, I a1rate), (4, I 0), (5, .ptr 2000 0)], [(2000, .box 34 [I 0])]⟩ : Unit → St) (fun _ => g_money_Tax_j1 n a0amount a1rate) ?_ ?_
 ·rintro _
  show SimE (g_money_Tax_j1 n a0amount a1rate) _ _ _ _ _ _
  unfold g_money_Tax_j1
  refine sS ?_
  refine sG ?_
  refine xR 3 krf ?_
  refine xC [] krf (g_money_half_ok n (wi (a0amount * a1rate)) 10000) krf krf (fun _ => by kernel_rfl) (fun r2 => ?_)
  refine xs_exc [] krf (g_money_checked_ok n r2) krf krf (fun _ => by kernel_rfl) (fun _ => by kernel_rfl) (fun r3 => ?_) (fun e4 => ?_)
  ·refine xR 2 krf ?_
   refine xE ?_
   refine sN ⟨[4, 5], [2000], [], []⟩ ⟨[(4, I r3), (5, .ptr 2000 0)], [(2000, .box 34 [I 0])]⟩ krf ?_
   refine sT ?_
   refine dq_ret ?_
   refine sc_heap [(1001, 2000)] [] [] (g_money_caught_ok n 0) krf krf krf (fun _ => by kernel_rfl) (fun _ => by kernel_rfl) (fun r5 => ?_)
   exact ke_end (.id) [] [] krf krf krf krf
  ·refine sq_p ?_
   refine dq_p ?_
   refine sc_heap [(1001, 2000)] [] [] (g_money_caught_2_ok n e4 0) krf krf krf (fun _ => by kernel_rfl) (fun _ => by kernel_rfl) (fun r6 => ?_)
   exact ke_end (.id) [] [] krf krf krf krf
 ·refine sG ?_
  refine xR 1 krf ?_
  refine xC [] krf (g_money_isAmount_ok n a0amount) krf krf (fun _ => by kernel_rfl) (fun r7 => ?_)
  refine xR 1 krf ?_
  refine xS r7 (fun h8 => ?_) (fun h8 => ?_)
  ·refine xO (want_tt krf h8) krf ?_
   refine xC [] krf (g_money_inside_ok n a1rate 0 100000) krf krf (fun _ => by kernel_rfl) (fun r9 => ?_)
   refine xR 1 krf ?_
   refine xs_exc [] krf (g_money_need_ok n r9 1) krf krf (fun _ => by kernel_rfl) (fun _ => by kernel_rfl) (fun r10 => ?_) (fun e11 => ?_)
   ·refine xE ?_
    exact kq_n (k := fun _ => g_money_Tax_j1 n a0amount a1rate) () ⟨[0, 1, 4, 5], [2000], [], []⟩ krf
   ·refine kq_p ?_
    refine dq_p ?_
    refine sc_heap [(1001, 2000)] [] [] (g_money_caught_2_ok n e11 0) krf krf krf (fun _ => by kernel_rfl) (fun _ => by kernel_rfl) (fun r12 => ?_)
    exact ke_end (.id) [] [] krf krf krf krf
  ·refine xN (want_tf krf h8) krf ?_
   refine xR 2 krf ?_
   refine xs_exc [] krf (g_money_need_ok n false 1) krf krf (fun _ => by kernel_rfl) (fun _ => by kernel_rfl) (fun r13 => ?_) (fun e14 => ?_)
   ·refine xE ?_
    exact kq_n (k := fun _ => g_money_Tax_j1 n a0amount a1rate) () ⟨[0, 1, 4, 5], [2000], [], []⟩ krf
   ·refine kq_p ?_
    refine dq_p ?_
    refine sc_heap [(1001, 2000)] [] [] (g_money_caught_2_ok n e14 0) krf krf krf (fun _ => by kernel_rfl) (fun _ => by kernel_rfl) (fun r15 => ?_)
    exact ke_end (.id) [] [] krf krf krf krf
theorem g_money_Tax_ok (n : Nat) (a0amount : Int) (a1rate : Int) : ∀ r, g_money_Tax n a0amount a1rate = some r → PCall Try.prog 30 [I a0amount, I a1rate] (.ret (.tup [I r.1, I r.2])) := fun r h => pcall_of (g_money_Tax_okH n a0amount a1rate r h) rfl
def g_quote_Quote_l9 (a0t : GTf) (recl9 : (Int × Int × Int) → Option (Int × Int)) (l9_1 : Int) (l9_2 : Int) (l9_3 : Int) : Option (Int × Int) :=
 cond (ltI l9_3 (lenI (List.map GAr.cs a0t.Articles)))
  ((getI a0t.Articles l9_3).bind fun x10 =>
  cond (eqI x10.Kind 5)
   (recl9 (minI l9_1 x10.Price, l9_2, wi (l9_3 + 1)))
   (cond (eqI x10.Kind 6)
    (recl9 (l9_1, x10.Price, wi (l9_3 + 1)))
    (recl9 (l9_1, l9_2, wi (l9_3 + 1)))))
  (some (l9_1, l9_2))
def g_quote_Quote (n : Nat) (a0t : GTf) (a1c : GCl) (a2from : Int) (a3to : Int) (a4energy : Int) : Option (Int × Int) :=
 ((g_t_Valid n a0t).bind fun r2 =>
 cond (!r2)
  (some true)
  ((g_days_Valid n a1c).bind fun r4 =>
  cond (!r4)
   (some true)
   ((g_quote_validLimits n a2from a3to a4energy).bind fun r6 =>
   some (!r6)))).bind fun j1 =>
 cond j1
  (some (0, 1))
  ((g_quote_quoted_sum n (⟨a0t, a1c, a2from, a3to⟩ : GQuoteQuoted) a4energy).bind fun r7 =>
  cond (!eqI r7.2 0)
   (some (0, r7.2))
   ((loopN (fun recl9 (l9_1, l9_2, l9_3) => g_quote_Quote_l9 a0t recl9 l9_1 l9_2 l9_3) n (r7.1, 0, 0)).bind fun (j8_1, j8_2) =>
   (g_money_Tax n j8_1 j8_2).bind fun r11 =>
   (cond (!eqI r11.2 0)
    (some true)
    (some (ltI 1000000000 (wi (j8_1 + r11.1))))).bind fun j12 =>
   cond j12
    (some (0, 3))
    (some (wi (j8_1 + r11.1), 0))))
theorem g_quote_Quote_ok (n : Nat) (a0t : GTf) (a1c : GCl) (a2from : Int) (a3to : Int) (a4energy : Int) : ∀ r, g_quote_Quote n a0t a1c a2from a3to a4energy = some r → PCall Try.prog 13 [ag (GTf.cs a0t), ag (GCl.cs a1c), I a2from, I a3to, I a4energy] (.ret (.tup [I r.1, I r.2])) := by
 refine pcall_sim (X := fun r : Int × Int => AEnd.ret (.tup [I r.1, I r.2])) Try.func13 rfl Try.ntmps13 rfl ?_
 unfold g_quote_Quote
 refine sR tfm ⟨[2, 3, 4, 5, 6], [5, 6], [], []⟩ ⟨[(2, I a2from), (3, I a3to), (4, I a4energy), (5, .ptr 5 0), (6, .ptr 6 0)], [(5, .box 24 (bxc (GTf.cs a0t))), (6, .box 28 (bxc (GCl.cs a1c)))]⟩ krf ?_
 refine sS ?_
 refine sim_bind (fun j1 => ⟨[(2, I a2from), (3, I a3to), (4, I a4energy), (5, .ptr 5 0), (6, .ptr 6 0), (33, B j1)], [(5, .box 24 (bxc (GTf.cs a0t))), (6, .box 28 (bxc (GCl.cs a1c)))]⟩ : Bool → St) ?_ ?_
 ·refine sG ?_
  refine xR 1 krf ?_
  refine xC [] krf (g_t_Valid_ok n a0t) krf krf (fun _ => by kernel_rfl) (fun r2 => ?_)
  refine xR 2 krf ?_
  refine xS (!r2) (fun h3 => ?_) (fun h3 => ?_)
  ·refine xN (want_ft krf h3) krf ?_
   refine xR 10 krf ?_
   refine xE ?_
   exact nq_n true ⟨[2, 3, 4, 5, 6, 33], [5, 6], [], []⟩ krf
  ·refine xO (want_ff krf h3) krf ?_
   refine xC [] krf (g_days_Valid_ok n a1c) krf krf (fun _ => by kernel_rfl) (fun r4 => ?_)
   refine xR 3 krf ?_
   refine xS (!r4) (fun h5 => ?_) (fun h5 => ?_)
   ·refine xN (want_ft krf h5) krf ?_
    refine xR 5 krf ?_
    refine xE ?_
    exact nq_n true ⟨[2, 3, 4, 5, 6, 33], [5, 6], [], []⟩ krf
   ·refine xO (want_ff krf h5) krf ?_
    refine xR 2 krf ?_
    refine xC [] krf (g_quote_validLimits_ok n a2from a3to a4energy) krf krf (fun _ => by kernel_rfl) (fun r6 => ?_)
    refine xR 2 krf ?_
    refine xE ?_
    exact nq_n (!r6) ⟨[2, 3, 4, 5, 6, 33], [5, 6], [], []⟩ krf
 ·rintro j1
  refine sC j1 krf ?_ ?_
  ·refine sR tfm ⟨[10, 11], [], [], []⟩ ⟨[(10, I 0), (11, I 1)], []⟩ krf ?_
   refine sT ?_
   refine sq_r ?_
   exact qR (.id) krf krf krf
  ·refine sK ?_
   refine sN ⟨[2, 3, 4, 5, 6], [5, 6], [], []⟩ ⟨[(2, I a2from), (3, I a3to), (4, I a4energy), (5, .ptr 5 0), (6, .ptr 6 0)], [(5, .box 24 (bxc (GTf.cs a0t))), (6, .box 28 (bxc (GCl.cs a1c)))]⟩ krf ?_
   refine sR tfm ⟨[4, 5, 12], [5, 39], [], []⟩ ⟨[(4, I a4energy), (5, .ptr 5 0), (12, .ptr 39 0)], [(5, .box 24 (bxc (GTf.cs a0t))), (39, .box 64 (bxc (GQuoteQuoted.cs ⟨a0t, a1c, a2from, a3to⟩)))]⟩ krf ?_
   refine sS ?_
   refine sG ?_
   refine xR 2 krf ?_
   refine xs_ro [.ro [], .cv (.id)] krf (g_quote_quoted_sum_ok n (⟨a0t, a1c, a2from, a3to⟩ : GQuoteQuoted) a4energy) krf krf (fun _ => by kernel_rfl) (fun r7 => ?_)
   refine xR 5 krf ?_
   refine xE ?_
   refine sN ⟨[5, 13, 14], [5], [], []⟩ ⟨[(5, .ptr 5 0), (13, I r7.1), (14, I r7.2)], [(5, .box 24 (bxc (GTf.cs a0t)))]⟩ krf ?_
   refine sS ?_
   refine sR tfm ⟨[5, 13, 14, 47], [5], [], []⟩ ⟨[(5, .ptr 5 0), (13, I r7.1), (14, I r7.2), (47, B (!eqI r7.2 0))], [(5, .box 24 (bxc (GTf.cs a0t)))]⟩ krf ?_
   refine sC (!eqI r7.2 0) krf ?_ ?_
   ·refine sR tfm ⟨[10, 11], [], [], []⟩ ⟨[(10, I 0), (11, I r7.2)], []⟩ krf ?_
    refine sT ?_
    refine sq_r ?_
    exact qR (.id) krf krf krf
   ·refine sK ?_
    refine sN ⟨[5, 13], [5], [], []⟩ ⟨[(5, .ptr 5 0), (13, I r7.1)], [(5, .box 24 (bxc (GTf.cs a0t)))]⟩ krf ?_
    refine sR tfm ⟨[5, 13, 15], [5], [], []⟩ ⟨[(5, .ptr 5 0), (13, I r7.1), (15, I 0)], [(5, .box 24 (bxc (GTf.cs a0t)))]⟩ krf ?_
    refine sim_bind (fun (j8_1, j8_2) => ⟨[(13, I j8_1), (15, I j8_2)], []⟩ : (Int × Int) → St) ?_ ?_
    ·refine sR tfm ⟨[13, 15, 50, 51, 52], [], [], []⟩ ⟨[(13, I r7.1), (15, I 0), (50, .p (.sl 7 (List.map GAr.cs a0t.Articles))), (51, I (lenI (List.map GAr.cs a0t.Articles))), (52, I 0)], []⟩ krf ?_
     refine sB ?_
     refine sim_loop (fun (l9_1, l9_2, l9_3) => ⟨[(13, I l9_1), (15, I l9_2), (50, .p (.sl 7 (List.map GAr.cs a0t.Articles))), (51, I (lenI (List.map GAr.cs a0t.Articles))), (52, I l9_3)], []⟩ : (Int × Int × Int) → St) (weak_shr (K := ⟨[13, 15, 50, 51, 52], [], [], []⟩) krf) ?_
     rintro recl9 ⟨l9_1, l9_2, l9_3⟩
     show SimE (g_quote_Quote_l9 a0t recl9 l9_1 l9_2 l9_3) _ _ _ _ _ _
     unfold g_quote_Quote_l9
     refine sR tfm ⟨[13, 15, 50, 51, 52, 53], [], [], []⟩ ⟨[(13, I l9_1), (15, I l9_2), (50, .p (.sl 7 (List.map GAr.cs a0t.Articles))), (51, I (lenI (List.map GAr.cs a0t.Articles))), (52, I l9_3), (53, B (ltI l9_3 (lenI (List.map GAr.cs a0t.Articles))))], []⟩ krf ?_
     refine sS ?_
     refine sC (ltI l9_3 (lenI (List.map GAr.cs a0t.Articles))) krf ?_ ?_
     ·refine sK ?_
      refine sN ⟨[13, 15, 50, 51, 52], [], [], []⟩ ⟨[(13, I l9_1), (15, I l9_2), (50, .p (.sl 7 (List.map GAr.cs a0t.Articles))), (51, I (lenI (List.map GAr.cs a0t.Articles))), (52, I l9_3)], []⟩ krf ?_
      refine sS ?_
      refine sB ?_
      refine sS ?_
      refine sG ?_
      refine xG krf krf (aop_idx (e := 44) (S := 7) (enc := GAr.cs) (l := a0t.Articles) (k := .i64) (n := l9_3) (sv := .p (.sl 7 (List.map GAr.cs a0t.Articles))) rfl krf krf krf krf krf) (fun x10 => ?_)
      refine xR 3 krf ?_
      refine xE ?_
      refine sN ⟨[13, 15, 17, 50, 51, 52], [17], [], []⟩ ⟨[(13, I l9_1), (15, I l9_2), (17, .ptr 17 0), (50, .p (.sl 7 (List.map GAr.cs a0t.Articles))), (51, I (lenI (List.map GAr.cs a0t.Articles))), (52, I l9_3)], [(17, .box 44 (bxc (GAr.cs x10)))]⟩ krf ?_
      refine sR tfm ⟨[13, 15, 17, 50, 51, 52, 57], [17], [], []⟩ ⟨[(13, I l9_1), (15, I l9_2), (17, .ptr 17 0), (50, .p (.sl 7 (List.map GAr.cs a0t.Articles))), (51, I (lenI (List.map GAr.cs a0t.Articles))), (52, I l9_3), (57, I x10.Kind)], [(17, .box 44 (bxc (GAr.cs x10)))]⟩ krf ?_
      refine sB ?_
      refine sR tfm ⟨[13, 15, 17, 50, 51, 52, 57, 58], [17], [], []⟩ ⟨[(13, I l9_1), (15, I l9_2), (17, .ptr 17 0), (50, .p (.sl 7 (List.map GAr.cs a0t.Articles))), (51, I (lenI (List.map GAr.cs a0t.Articles))), (52, I l9_3), (57, I x10.Kind), (58, B (eqI x10.Kind 5))], [(17, .box 44 (bxc (GAr.cs x10)))]⟩ krf ?_
      refine sC (eqI x10.Kind 5) krf ?_ ?_
      ·refine sL tfm krf ?_
       refine bq_n ?_
       refine bq_n ?_
       refine sN ⟨[13, 15, 50, 51, 52], [], [], []⟩ ⟨[(13, I (minI l9_1 x10.Price)), (15, I l9_2), (50, .p (.sl 7 (List.map GAr.cs a0t.Articles))), (51, I (lenI (List.map GAr.cs a0t.Articles))), (52, I l9_3)], []⟩ krf ?_
       refine sL tfm krf ?_
       exact kq_n (minI l9_1 x10.Price, l9_2, wi (l9_3 + 1)) ⟨[13, 15, 50, 51, 52], [], [], []⟩ krf
      ·refine sR tfm ⟨[13, 15, 17, 50, 51, 52, 64], [17], [], []⟩ ⟨[(13, I l9_1), (15, I l9_2), (17, .ptr 17 0), (50, .p (.sl 7 (List.map GAr.cs a0t.Articles))), (51, I (lenI (List.map GAr.cs a0t.Articles))), (52, I l9_3), (64, B (eqI x10.Kind 6))], [(17, .box 44 (bxc (GAr.cs x10)))]⟩ krf ?_
       refine sC (eqI x10.Kind 6) krf ?_ ?_
       ·refine sL tfm krf ?_
        refine bq_n ?_
        refine bq_n ?_
        refine sN ⟨[13, 15, 50, 51, 52], [], [], []⟩ ⟨[(13, I l9_1), (15, I x10.Price), (50, .p (.sl 7 (List.map GAr.cs a0t.Articles))), (51, I (lenI (List.map GAr.cs a0t.Articles))), (52, I l9_3)], []⟩ krf ?_
        refine sL tfm krf ?_
        exact kq_n (l9_1, x10.Price, wi (l9_3 + 1)) ⟨[13, 15, 50, 51, 52], [], [], []⟩ krf
       ·refine sK ?_
        refine bq_n ?_
        refine bq_n ?_
        refine sN ⟨[13, 15, 50, 51, 52], [], [], []⟩ ⟨[(13, I l9_1), (15, I l9_2), (50, .p (.sl 7 (List.map GAr.cs a0t.Articles))), (51, I (lenI (List.map GAr.cs a0t.Articles))), (52, I l9_3)], []⟩ krf ?_
        refine sL tfm krf ?_
        exact kq_n (l9_1, l9_2, wi (l9_3 + 1)) ⟨[13, 15, 50, 51, 52], [], [], []⟩ krf
     ·refine sim_exit ?_
      refine sq_x ?_
      refine kq_x ?_
      refine bq_hit ?_
      exact nq_n (l9_1, l9_2) ⟨[13, 15], [], [], []⟩ krf
    ·rintro ⟨j8_1, j8_2⟩
     refine sS ?_
     refine sG ?_
     refine xR 2 krf ?_
     refine xC [] krf (g_money_Tax_ok n j8_1 j8_2) krf krf (fun _ => by kernel_rfl) (fun r11 => ?_)
     refine xR 5 krf ?_
     refine xE ?_
     refine sN ⟨[13, 14, 18], [], [], []⟩ ⟨[(13, I j8_1), (14, I r11.2), (18, I r11.1)], []⟩ krf ?_
     refine sS ?_
     refine sim_bind (fun j12 => ⟨[(13, I j8_1), (18, I r11.1), (82, B j12)], []⟩ : Bool → St) ?_ ?_
     ·refine sG ?_
      refine xR 3 krf ?_
      refine xS (!eqI r11.2 0) (fun h13 => ?_) (fun h13 => ?_)
      ·refine xN (want_ft krf h13) krf ?_
       refine xR 4 krf ?_
       refine xE ?_
       exact nq_n true ⟨[13, 18, 82], [], [], []⟩ krf
      ·refine xO (want_ff krf h13) krf ?_
       refine xR 4 krf ?_
       refine xE ?_
       exact nq_n (ltI 1000000000 (wi (j8_1 + r11.1))) ⟨[13, 18, 82], [], [], []⟩ krf
     ·rintro j12
      refine sC j12 krf ?_ ?_
      ·refine sR tfm ⟨[10, 11], [], [], []⟩ ⟨[(10, I 0), (11, I 3)], []⟩ krf ?_
       refine sT ?_
       refine sq_r ?_
       exact qR (.id) krf krf krf
      ·refine sK ?_
       refine sN ⟨[13, 18], [], [], []⟩ ⟨[(13, I j8_1), (18, I r11.1)], []⟩ krf ?_
       refine sR tfm ⟨[10, 11], [], [], []⟩ ⟨[(10, I (wi (j8_1 + r11.1))), (11, I 0)], []⟩ krf ?_
       refine sT ?_
       exact qR (.id) krf krf krf
def g_law35_gives (n : Nat) (a0t : GTf) (a1from : Int) (a2to : Int) (a3energy : Int) (a4want : Int) : Option Bool :=
 (g_quote_Quote n a0t (⟨0, [], []⟩ : GCl) a1from a2to a3energy).bind fun r1 =>
 cond (eqI r1.2 0)
  (some (eqI r1.1 a4want))
  (some false)
theorem g_law35_gives_ok (n : Nat) (a0t : GTf) (a1from : Int) (a2to : Int) (a3energy : Int) (a4want : Int) : ∀ r, g_law35_gives n a0t a1from a2to a3energy a4want = some r → PCall Try.prog 22 [ag (GTf.cs a0t), I a1from, I a2to, I a3energy, I a4want] (.ret (B r)) := by
 refine pcall_sim (X := fun r : Bool => AEnd.ret (B r)) Try.func22 rfl Try.ntmps22 rfl ?_
 unfold g_law35_gives
 refine sR tfm ⟨[1, 2, 3, 4, 5], [5], [], []⟩ ⟨[(1, I a1from), (2, I a2to), (3, I a3energy), (4, I a4want), (5, .ptr 5 0)], [(5, .box 24 (bxc (GTf.cs a0t)))]⟩ krf ?_
 refine sS ?_
 refine sG ?_
 refine xR 5 krf ?_
 refine xC [.id, .agg [.id, .sl 2, .sl 1], .id, .id, .id] krf (g_quote_Quote_ok n a0t (⟨0, [], []⟩ : GCl) a1from a2to a3energy) krf krf (fun _ => by kernel_rfl) (fun r1 => ?_)
 refine xR 5 krf ?_
 refine xE ?_
 refine sN ⟨[4, 11, 12], [], [], []⟩ ⟨[(4, I a4want), (11, I r1.1), (12, I r1.2)], []⟩ krf ?_
 refine sS ?_
 refine sG ?_
 refine xR 3 krf ?_
 refine xS (eqI r1.2 0) (fun h2 => ?_) (fun h2 => ?_)
 ·refine xO (want_tt krf h2) krf ?_
  refine xR 4 krf ?_
  refine xE ?_
  refine sN ⟨[10], [], [], []⟩ ⟨[(10, B (eqI r1.1 a4want))], []⟩ krf ?_
  refine sT ?_
  exact qR (.id) krf krf krf
 ·refine xN (want_tf krf h2) krf ?_
  refine xR 4 krf ?_
  refine xE ?_
  refine sN ⟨[10], [], [], []⟩ ⟨[(10, B false)], []⟩ krf ?_
  refine sT ?_
  exact qR (.id) krf krf krf
def g_bill_Valid_l8 (a0s : GSs) (recl8 : (Int × Int) → Option Bool) (l8_1 : Int) (l8_2 : Int) : Option Bool :=
 cond (ltI l8_2 (lenI (List.map GSl.cs a0s.Slices)))
  ((getI a0s.Slices l8_2).bind fun x9 =>
  (cond (leI x9.Minute l8_1)
   (some true)
   (cond (leI a0s.End x9.Minute)
    (some true)
    (cond (ltI x9.Energy 0)
     (some true)
     (some (ltI 10000 x9.Energy))))).bind fun j10 =>
  cond j10
   (some false)
   (recl8 (x9.Minute, wi (l8_2 + 1))))
  (some true)
def g_bill_Valid (n : Nat) (a0s : GSs) : Option Bool :=
 (cond (ltI a0s.From 0)
  (some true)
  (cond (leI a0s.To a0s.From)
   (some true)
   (cond (ltI 2880 (wi (a0s.To - a0s.From)))
    (some true)
    (some (ltI 52560000 a0s.To))))).bind fun j1 =>
 cond j1
  (some false)
  ((cond (ltI a0s.End a0s.From)
   (some true)
   (cond (ltI a0s.To a0s.End)
    (some true)
    (some (ltI 48 (lenI (List.map GSl.cs a0s.Slices)))))).bind fun j5 =>
  cond j5
   (some false)
   (loopN (fun recl8 (l8_1, l8_2) => g_bill_Valid_l8 a0s recl8 l8_1 l8_2) n (wi (a0s.From - 1), 0)))
theorem g_bill_Valid_ok (n : Nat) (a0s : GSs) : ∀ r, g_bill_Valid n a0s = some r → PCall Try.prog 20 [ag (GSs.cs a0s)] (.ret (B r)) := by
 refine pcall_sim (X := fun r : Bool => AEnd.ret (B r)) Try.func20 rfl Try.ntmps20 rfl ?_
 unfold g_bill_Valid
 refine sR tfm ⟨[1], [1], [], []⟩ ⟨[(1, .ptr 1 0)], [(1, .box 31 (bxc (GSs.cs a0s)))]⟩ krf ?_
 refine sS ?_
 refine sim_bind (fun j1 => ⟨[(1, .ptr 1 0), (28, B j1)], [(1, .box 31 (bxc (GSs.cs a0s)))]⟩ : Bool → St) ?_ ?_
 ·refine sG ?_
  refine xR 4 krf ?_
  refine xS (ltI a0s.From 0) (fun h2 => ?_) (fun h2 => ?_)
  ·refine xN (want_ft krf h2) krf ?_
   refine xR 18 krf ?_
   refine xE ?_
   exact nq_n true ⟨[1, 28], [1], [], []⟩ krf
  ·refine xO (want_ff krf h2) krf ?_
   refine xR 6 krf ?_
   refine xS (leI a0s.To a0s.From) (fun h3 => ?_) (fun h3 => ?_)
   ·refine xN (want_ft krf h3) krf ?_
    refine xR 11 krf ?_
    refine xE ?_
    exact nq_n true ⟨[1, 28], [1], [], []⟩ krf
   ·refine xO (want_ff krf h3) krf ?_
    refine xR 7 krf ?_
    refine xS (ltI 2880 (wi (a0s.To - a0s.From))) (fun h4 => ?_) (fun h4 => ?_)
    ·refine xN (want_ft krf h4) krf ?_
     refine xR 3 krf ?_
     refine xE ?_
     exact nq_n true ⟨[1, 28], [1], [], []⟩ krf
    ·refine xO (want_ff krf h4) krf ?_
     refine xR 3 krf ?_
     refine xE ?_
     exact nq_n (ltI 52560000 a0s.To) ⟨[1, 28], [1], [], []⟩ krf
 ·rintro j1
  refine sC j1 krf ?_ ?_
  ·refine sR tfm ⟨[2], [], [], []⟩ ⟨[(2, B false)], []⟩ krf ?_
   refine sT ?_
   refine sq_r ?_
   exact qR (.id) krf krf krf
  ·refine sK ?_
   refine sN ⟨[1], [1], [], []⟩ ⟨[(1, .ptr 1 0)], [(1, .box 31 (bxc (GSs.cs a0s)))]⟩ krf ?_
   refine sS ?_
   refine sim_bind (fun j5 => ⟨[(1, .ptr 1 0), (46, B j5)], [(1, .box 31 (bxc (GSs.cs a0s)))]⟩ : Bool → St) ?_ ?_
   ·refine sG ?_
    refine xR 6 krf ?_
    refine xS (ltI a0s.End a0s.From) (fun h6 => ?_) (fun h6 => ?_)
    ·refine xN (want_ft krf h6) krf ?_
     refine xR 11 krf ?_
     refine xE ?_
     exact nq_n true ⟨[1, 46], [1], [], []⟩ krf
    ·refine xO (want_ff krf h6) krf ?_
     refine xR 6 krf ?_
     refine xS (ltI a0s.To a0s.End) (fun h7 => ?_) (fun h7 => ?_)
     ·refine xN (want_ft krf h7) krf ?_
      refine xR 4 krf ?_
      refine xE ?_
      exact nq_n true ⟨[1, 46], [1], [], []⟩ krf
     ·refine xO (want_ff krf h7) krf ?_
      refine xR 4 krf ?_
      refine xE ?_
      exact nq_n (ltI 48 (lenI (List.map GSl.cs a0s.Slices))) ⟨[1, 46], [1], [], []⟩ krf
   ·rintro j5
    refine sC j5 krf ?_ ?_
    ·refine sR tfm ⟨[2], [], [], []⟩ ⟨[(2, B false)], []⟩ krf ?_
     refine sT ?_
     refine sq_r ?_
     exact qR (.id) krf krf krf
    ·refine sK ?_
     refine sN ⟨[1], [1], [], []⟩ ⟨[(1, .ptr 1 0)], [(1, .box 31 (bxc (GSs.cs a0s)))]⟩ krf ?_
     refine sR tfm ⟨[1, 3], [1], [], []⟩ ⟨[(1, .ptr 1 0), (3, I (wi (a0s.From - 1)))], [(1, .box 31 (bxc (GSs.cs a0s)))]⟩ krf ?_
     refine sS ?_
     refine sR tfm ⟨[1, 3, 51, 52, 53], [1], [], []⟩ ⟨[(1, .ptr 1 0), (3, I (wi (a0s.From - 1))), (51, .p (.sl 2 (List.map GSl.cs a0s.Slices))), (52, I (lenI (List.map GSl.cs a0s.Slices))), (53, I 0)], [(1, .box 31 (bxc (GSs.cs a0s)))]⟩ krf ?_
     refine sB ?_
     refine sim_loop (fun (l8_1, l8_2) => ⟨[(1, .ptr 1 0), (3, I l8_1), (51, .p (.sl 2 (List.map GSl.cs a0s.Slices))), (52, I (lenI (List.map GSl.cs a0s.Slices))), (53, I l8_2)], [(1, .box 31 (bxc (GSs.cs a0s)))]⟩ : (Int × Int) → St) (weak_shr (K := ⟨[1, 3, 51, 52, 53], [1], [], []⟩) krf) ?_
     rintro recl8 ⟨l8_1, l8_2⟩
     show SimE (g_bill_Valid_l8 a0s recl8 l8_1 l8_2) _ _ _ _ _ _
     unfold g_bill_Valid_l8
     refine sR tfm ⟨[1, 3, 51, 52, 53, 54], [1], [], []⟩ ⟨[(1, .ptr 1 0), (3, I l8_1), (51, .p (.sl 2 (List.map GSl.cs a0s.Slices))), (52, I (lenI (List.map GSl.cs a0s.Slices))), (53, I l8_2), (54, B (ltI l8_2 (lenI (List.map GSl.cs a0s.Slices))))], [(1, .box 31 (bxc (GSs.cs a0s)))]⟩ krf ?_
     refine sS ?_
     refine sC (ltI l8_2 (lenI (List.map GSl.cs a0s.Slices))) krf ?_ ?_
     ·refine sK ?_
      refine sN ⟨[1, 3, 51, 52, 53], [1], [], []⟩ ⟨[(1, .ptr 1 0), (3, I l8_1), (51, .p (.sl 2 (List.map GSl.cs a0s.Slices))), (52, I (lenI (List.map GSl.cs a0s.Slices))), (53, I l8_2)], [(1, .box 31 (bxc (GSs.cs a0s)))]⟩ krf ?_
      refine sS ?_
      refine sB ?_
      refine sS ?_
      refine sG ?_
      refine xG krf krf (aop_idx (e := 49) (S := 2) (enc := GSl.cs) (l := a0s.Slices) (k := .i64) (n := l8_2) (sv := .p (.sl 2 (List.map GSl.cs a0s.Slices))) rfl krf krf krf krf krf) (fun x9 => ?_)
      refine xR 3 krf ?_
      refine xE ?_
      refine sN ⟨[1, 3, 5, 51, 52, 53], [1, 5], [], []⟩ ⟨[(1, .ptr 1 0), (3, I l8_1), (5, .ptr 5 0), (51, .p (.sl 2 (List.map GSl.cs a0s.Slices))), (52, I (lenI (List.map GSl.cs a0s.Slices))), (53, I l8_2)], [(1, .box 31 (bxc (GSs.cs a0s))), (5, .box 49 (bxc (GSl.cs x9)))]⟩ krf ?_
      refine sS ?_
      refine sim_bind (fun j10 => ⟨[(1, .ptr 1 0), (5, .ptr 5 0), (51, .p (.sl 2 (List.map GSl.cs a0s.Slices))), (52, I (lenI (List.map GSl.cs a0s.Slices))), (53, I l8_2), (77, B j10)], [(1, .box 31 (bxc (GSs.cs a0s))), (5, .box 49 (bxc (GSl.cs x9)))]⟩ : Bool → St) ?_ ?_
      ·refine sG ?_
       refine xR 5 krf ?_
       refine xS (leI x9.Minute l8_1) (fun h11 => ?_) (fun h11 => ?_)
       ·refine xN (want_ft krf h11) krf ?_
        refine xR 15 krf ?_
        refine xE ?_
        exact nq_n true ⟨[1, 5, 51, 52, 53, 77], [1, 5], [], []⟩ krf
       ·refine xO (want_ff krf h11) krf ?_
        refine xR 6 krf ?_
        refine xS (leI a0s.End x9.Minute) (fun h12 => ?_) (fun h12 => ?_)
        ·refine xN (want_ft krf h12) krf ?_
         refine xR 8 krf ?_
         refine xE ?_
         exact nq_n true ⟨[1, 5, 51, 52, 53, 77], [1, 5], [], []⟩ krf
        ·refine xO (want_ff krf h12) krf ?_
         refine xR 4 krf ?_
         refine xS (ltI x9.Energy 0) (fun h13 => ?_) (fun h13 => ?_)
         ·refine xN (want_ft krf h13) krf ?_
          refine xR 3 krf ?_
          refine xE ?_
          exact nq_n true ⟨[1, 5, 51, 52, 53, 77], [1, 5], [], []⟩ krf
         ·refine xO (want_ff krf h13) krf ?_
          refine xR 3 krf ?_
          refine xE ?_
          exact nq_n (ltI 10000 x9.Energy) ⟨[1, 5, 51, 52, 53, 77], [1, 5], [], []⟩ krf
      ·rintro j10
       refine sC j10 krf ?_ ?_
       ·refine sR tfm ⟨[2], [], [], []⟩ ⟨[(2, B false)], []⟩ krf ?_
        refine sT ?_
        refine sq_r ?_
        refine bq_r ?_
        refine sq_r ?_
        refine kq_r ?_
        refine bq_r ?_
        refine sq_r ?_
        exact qR (.id) krf krf krf
       ·refine sK ?_
        refine sN ⟨[1, 5, 51, 52, 53], [1, 5], [], []⟩ ⟨[(1, .ptr 1 0), (5, .ptr 5 0), (51, .p (.sl 2 (List.map GSl.cs a0s.Slices))), (52, I (lenI (List.map GSl.cs a0s.Slices))), (53, I l8_2)], [(1, .box 31 (bxc (GSs.cs a0s))), (5, .box 49 (bxc (GSl.cs x9)))]⟩ krf ?_
        refine sL tfm krf ?_
        refine bq_n ?_
        refine sN ⟨[1, 3, 51, 52, 53], [1], [], []⟩ ⟨[(1, .ptr 1 0), (3, I x9.Minute), (51, .p (.sl 2 (List.map GSl.cs a0s.Slices))), (52, I (lenI (List.map GSl.cs a0s.Slices))), (53, I l8_2)], [(1, .box 31 (bxc (GSs.cs a0s)))]⟩ krf ?_
        refine sL tfm krf ?_
        exact kq_n (x9.Minute, wi (l8_2 + 1)) ⟨[1, 3, 51, 52, 53], [1], [], []⟩ krf
     ·refine sim_exit ?_
      refine sq_x ?_
      refine kq_x ?_
      refine bq_hit ?_
      refine sN ⟨[], [], [], []⟩ ⟨[], []⟩ krf ?_
      refine sR tfm ⟨[2], [], [], []⟩ ⟨[(2, B true)], []⟩ krf ?_
      refine sT ?_
      exact qR (.id) krf krf krf
def g_quote_Covers_l7 (a0s : GSs) (a3energy : Int) (recl7 : (Int × Int) → Option Bool) (l7_1 : Int) (l7_2 : Int) : Option Bool :=
 cond (ltI l7_2 (lenI (List.map GSl.cs a0s.Slices)))
  ((getI a0s.Slices l7_2).bind fun x8 =>
  recl7 (wi (l7_1 + x8.Energy), wi (l7_2 + 1)))
  (some (leI l7_1 a3energy))
def g_quote_Covers (n : Nat) (a0s : GSs) (a1from : Int) (a2to : Int) (a3energy : Int) : Option Bool :=
 ((g_quote_validLimits n a1from a2to a3energy).bind fun r2 =>
 cond (!r2)
  (some true)
  ((g_bill_Valid n a0s).bind fun r4 =>
  cond (!r4)
   (some true)
   (cond (ltI a0s.From a1from)
    (some true)
    (some (ltI a2to a0s.To))))).bind fun j1 =>
 cond j1
  (some false)
  (loopN (fun recl7 (l7_1, l7_2) => g_quote_Covers_l7 a0s a3energy recl7 l7_1 l7_2) n (0, 0))
theorem g_quote_Covers_ok (n : Nat) (a0s : GSs) (a1from : Int) (a2to : Int) (a3energy : Int) : ∀ r, g_quote_Covers n a0s a1from a2to a3energy = some r → PCall Try.prog 15 [ag (GSs.cs a0s), I a1from, I a2to, I a3energy] (.ret (B r)) := by
 refine pcall_sim (X := fun r : Bool => AEnd.ret (B r)) Try.func15 rfl Try.ntmps15 rfl ?_
 unfold g_quote_Covers
 refine sR tfm ⟨[1, 2, 3, 4], [4], [], []⟩ ⟨[(1, I a1from), (2, I a2to), (3, I a3energy), (4, .ptr 4 0)], [(4, .box 31 (bxc (GSs.cs a0s)))]⟩ krf ?_
 refine sS ?_
 refine sim_bind (fun j1 => ⟨[(3, I a3energy), (4, .ptr 4 0), (33, B j1)], [(4, .box 31 (bxc (GSs.cs a0s)))]⟩ : Bool → St) ?_ ?_
 ·refine sG ?_
  refine xR 3 krf ?_
  refine xC [] krf (g_quote_validLimits_ok n a1from a2to a3energy) krf krf (fun _ => by kernel_rfl) (fun r2 => ?_)
  refine xR 2 krf ?_
  refine xS (!r2) (fun h3 => ?_) (fun h3 => ?_)
  ·refine xN (want_ft krf h3) krf ?_
   refine xR 15 krf ?_
   refine xE ?_
   exact nq_n true ⟨[3, 4, 33], [4], [], []⟩ krf
  ·refine xO (want_ff krf h3) krf ?_
   refine xC [] krf (g_bill_Valid_ok n a0s) krf krf (fun _ => by kernel_rfl) (fun r4 => ?_)
   refine xR 3 krf ?_
   refine xS (!r4) (fun h5 => ?_) (fun h5 => ?_)
   ·refine xN (want_ft krf h5) krf ?_
    refine xR 10 krf ?_
    refine xE ?_
    exact nq_n true ⟨[3, 4, 33], [4], [], []⟩ krf
   ·refine xO (want_ff krf h5) krf ?_
    refine xR 5 krf ?_
    refine xS (ltI a0s.From a1from) (fun h6 => ?_) (fun h6 => ?_)
    ·refine xN (want_ft krf h6) krf ?_
     refine xR 4 krf ?_
     refine xE ?_
     exact nq_n true ⟨[3, 4, 33], [4], [], []⟩ krf
    ·refine xO (want_ff krf h6) krf ?_
     refine xR 4 krf ?_
     refine xE ?_
     exact nq_n (ltI a2to a0s.To) ⟨[3, 4, 33], [4], [], []⟩ krf
 ·rintro j1
  refine sC j1 krf ?_ ?_
  ·refine sR tfm ⟨[8], [], [], []⟩ ⟨[(8, B false)], []⟩ krf ?_
   refine sT ?_
   refine sq_r ?_
   exact qR (.id) krf krf krf
  ·refine sK ?_
   refine sN ⟨[3, 4], [4], [], []⟩ ⟨[(3, I a3energy), (4, .ptr 4 0)], [(4, .box 31 (bxc (GSs.cs a0s)))]⟩ krf ?_
   refine sR tfm ⟨[3, 4, 9], [4], [], []⟩ ⟨[(3, I a3energy), (4, .ptr 4 0), (9, I 0)], [(4, .box 31 (bxc (GSs.cs a0s)))]⟩ krf ?_
   refine sS ?_
   refine sR tfm ⟨[3, 9, 35, 36, 37], [], [], []⟩ ⟨[(3, I a3energy), (9, I 0), (35, .p (.sl 2 (List.map GSl.cs a0s.Slices))), (36, I (lenI (List.map GSl.cs a0s.Slices))), (37, I 0)], []⟩ krf ?_
   refine sB ?_
   refine sim_loop (fun (l7_1, l7_2) => ⟨[(3, I a3energy), (9, I l7_1), (35, .p (.sl 2 (List.map GSl.cs a0s.Slices))), (36, I (lenI (List.map GSl.cs a0s.Slices))), (37, I l7_2)], []⟩ : (Int × Int) → St) (weak_shr (K := ⟨[3, 9, 35, 36, 37], [], [], []⟩) krf) ?_
   rintro recl7 ⟨l7_1, l7_2⟩
   show SimE (g_quote_Covers_l7 a0s a3energy recl7 l7_1 l7_2) _ _ _ _ _ _
   unfold g_quote_Covers_l7
   refine sR tfm ⟨[3, 9, 35, 36, 37, 38], [], [], []⟩ ⟨[(3, I a3energy), (9, I l7_1), (35, .p (.sl 2 (List.map GSl.cs a0s.Slices))), (36, I (lenI (List.map GSl.cs a0s.Slices))), (37, I l7_2), (38, B (ltI l7_2 (lenI (List.map GSl.cs a0s.Slices))))], []⟩ krf ?_
   refine sS ?_
   refine sC (ltI l7_2 (lenI (List.map GSl.cs a0s.Slices))) krf ?_ ?_
   ·refine sK ?_
    refine sN ⟨[3, 9, 35, 36, 37], [], [], []⟩ ⟨[(3, I a3energy), (9, I l7_1), (35, .p (.sl 2 (List.map GSl.cs a0s.Slices))), (36, I (lenI (List.map GSl.cs a0s.Slices))), (37, I l7_2)], []⟩ krf ?_
    refine sS ?_
    refine sB ?_
    refine sS ?_
    refine sG ?_
    refine xG krf krf (aop_idx (e := 49) (S := 2) (enc := GSl.cs) (l := a0s.Slices) (k := .i64) (n := l7_2) (sv := .p (.sl 2 (List.map GSl.cs a0s.Slices))) rfl krf krf krf krf krf) (fun x8 => ?_)
    refine xR 3 krf ?_
    refine xE ?_
    refine sN ⟨[3, 9, 11, 35, 36, 37], [11], [], []⟩ ⟨[(3, I a3energy), (9, I l7_1), (11, .ptr 11 0), (35, .p (.sl 2 (List.map GSl.cs a0s.Slices))), (36, I (lenI (List.map GSl.cs a0s.Slices))), (37, I l7_2)], [(11, .box 49 (bxc (GSl.cs x8)))]⟩ krf ?_
    refine sL tfm krf ?_
    refine bq_n ?_
    refine sN ⟨[3, 9, 35, 36, 37], [], [], []⟩ ⟨[(3, I a3energy), (9, I (wi (l7_1 + x8.Energy))), (35, .p (.sl 2 (List.map GSl.cs a0s.Slices))), (36, I (lenI (List.map GSl.cs a0s.Slices))), (37, I l7_2)], []⟩ krf ?_
    refine sL tfm krf ?_
    exact kq_n (wi (l7_1 + x8.Energy), wi (l7_2 + 1)) ⟨[3, 9, 35, 36, 37], [], [], []⟩ krf
   ·refine sim_exit ?_
    refine sq_x ?_
    refine kq_x ?_
    refine bq_hit ?_
    refine sN ⟨[3, 9], [], [], []⟩ ⟨[(3, I a3energy), (9, I l7_1)], []⟩ krf ?_
    refine sR tfm ⟨[8], [], [], []⟩ ⟨[(8, B (leI l7_1 a3energy))], []⟩ krf ?_
    refine sT ?_
    exact qR (.id) krf krf krf
def g_law35_head (n : Nat) : Option Bool :=
 ((g_law35_bench n []).bind fun r2 =>
 (g_law35_gives n r2 0 60 5000 15021).bind fun r3 =>
 cond r3
  ((g_law35_bench n [(⟨5, 7, 0, 1440, 15000, 0, 0⟩ : GAr)]).bind fun r5 =>
  (g_law35_gives n r5 0 60 5000 15000).bind fun r6 =>
  cond r6
   ((g_law35_bench n [(⟨5, 7, 0, 1440, 15000, 0, 0⟩ : GAr), (⟨6, 7, 0, 1440, 1900, 0, 0⟩ : GAr)]).bind fun r8 =>
   (g_law35_gives n r8 0 60 5000 17850).bind fun r9 =>
   cond r9
    ((g_law35_bench n []).bind fun r11 =>
    (g_law35_gives n r11 0 60 0 20).bind fun r12 =>
    some r12)
    (some false))
   (some false))
  (some false)).bind fun j1 =>
 (g_law35_bench n []).bind fun r13 =>
 (g_quote_Quote n r13 (⟨0, [], []⟩ : GCl) 60 60 5).bind fun r14 =>
 (cond j1
  (cond (eqI r14.2 1)
   ((g_quote_Covers n (⟨5, 9, 7, [(⟨6, 100⟩ : GSl)]⟩ : GSs) 5 9 100).bind fun r18 =>
   cond r18
    ((g_quote_Covers n (⟨5, 9, 7, [(⟨6, 100⟩ : GSl)]⟩ : GSs) 5 9 99).bind fun r20 =>
    cond (!r20)
     ((g_quote_Covers n (⟨5, 9, 7, [(⟨6, 100⟩ : GSl)]⟩ : GSs) 6 9 100).bind fun r22 =>
     cond (!r22)
      ((g_quote_Covers n (⟨5, 9, 7, [(⟨6, 100⟩ : GSl)]⟩ : GSs) 5 8 100).bind fun r24 =>
      some (!r24))
      (some false))
     (some false))
    (some false))
   (some false))
  (some false)).bind fun j15 =>
 some j15
theorem g_law35_head_ok (n : Nat) : ∀ r, g_law35_head n = some r → PCall Try.prog 11 [] (.ret (B r)) := by
 refine pcall_sim (X := fun r : Bool => AEnd.ret (B r)) Try.func11 rfl Try.ntmps11 rfl ?_
 unfold g_law35_head
 refine sR tfm ⟨[], [], [], []⟩ ⟨[], []⟩ krf ?_
 refine sR tfm ⟨[1], [1], [], []⟩ ⟨[(1, .ptr 1 0)], [(1, .box 44 [I 5, I 7, I 0, I 1440, I 15000, I 0, I 0])]⟩ krf ?_
 refine sR tfm ⟨[1, 2], [1, 2], [], []⟩ ⟨[(1, .ptr 1 0), (2, .ptr 2 0)], [(1, .box 44 [I 5, I 7, I 0, I 1440, I 15000, I 0, I 0]), (2, .box 44 [I 6, I 7, I 0, I 1440, I 1900, I 0, I 0])]⟩ krf ?_
 refine sim_bind (fun j1 => ⟨[(3, B j1)], []⟩ : Bool → St) ?_ ?_
 ·refine sG ?_
  refine xC [.sl 7] krf (g_law35_bench_ok n []) krf krf (fun _ => by kernel_rfl) (fun r2 => ?_)
  refine xC [] krf (g_law35_gives_ok n r2 0 60 5000 15021) krf krf (fun _ => by kernel_rfl) (fun r3 => ?_)
  refine xR 1 krf ?_
  refine xS r3 (fun h4 => ?_) (fun h4 => ?_)
  ·refine xO (want_tt krf h4) krf ?_
   refine xR 1 krf ?_
   refine xC [.sl 7] krf (g_law35_bench_ok n [(⟨5, 7, 0, 1440, 15000, 0, 0⟩ : GAr)]) krf krf (fun _ => by kernel_rfl) (fun r5 => ?_)
   refine xC [] krf (g_law35_gives_ok n r5 0 60 5000 15000) krf krf (fun _ => by kernel_rfl) (fun r6 => ?_)
   refine xR 2 krf ?_
   refine xS r6 (fun h7 => ?_) (fun h7 => ?_)
   ·refine xO (want_tt krf h7) krf ?_
    refine xR 2 krf ?_
    refine xC [.sl 7] krf (g_law35_bench_ok n [(⟨5, 7, 0, 1440, 15000, 0, 0⟩ : GAr), (⟨6, 7, 0, 1440, 1900, 0, 0⟩ : GAr)]) krf krf (fun _ => by kernel_rfl) (fun r8 => ?_)
    refine xC [] krf (g_law35_gives_ok n r8 0 60 5000 17850) krf krf (fun _ => by kernel_rfl) (fun r9 => ?_)
    refine xR 2 krf ?_
    refine xS r9 (fun h10 => ?_) (fun h10 => ?_)
    ·refine xC [.sl 7] (want_tt krf h10) (g_law35_bench_ok n []) krf krf (fun _ => by kernel_rfl) (fun r11 => ?_)
     refine xC [] krf (g_law35_gives_ok n r11 0 60 0 20) krf krf (fun _ => by kernel_rfl) (fun r12 => ?_)
     refine xR 2 krf ?_
     refine xE ?_
     exact nq_n r12 ⟨[3], [], [], []⟩ krf
    ·refine xN (want_tf krf h10) krf ?_
     refine xR 3 krf ?_
     refine xE ?_
     exact nq_n false ⟨[3], [], [], []⟩ krf
   ·refine xN (want_tf krf h7) krf ?_
    refine xR 10 krf ?_
    refine xE ?_
    exact nq_n false ⟨[3], [], [], []⟩ krf
  ·refine xN (want_tf krf h4) krf ?_
   refine xR 16 krf ?_
   refine xE ?_
   exact nq_n false ⟨[3], [], [], []⟩ krf
 ·rintro j1
  refine sS ?_
  refine sG ?_
  refine xC [.sl 7] krf (g_law35_bench_ok n []) krf krf (fun _ => by kernel_rfl) (fun r13 => ?_)
  refine xR 1 krf ?_
  refine xC [.id, .agg [.id, .sl 2, .sl 1], .id, .id, .id] krf (g_quote_Quote_ok n r13 (⟨0, [], []⟩ : GCl) 60 60 5) krf krf (fun _ => by kernel_rfl) (fun r14 => ?_)
  refine xR 5 krf ?_
  refine xE ?_
  refine sN ⟨[3, 5], [], [], []⟩ ⟨[(3, B j1), (5, I r14.2)], []⟩ krf ?_
  refine sR tfm ⟨[3, 5, 6], [6, 35], [], []⟩ ⟨[(3, B j1), (5, I r14.2), (6, .ptr 6 0)], [(6, .box 31 [I 5, I 9, I 7, .tsl 2 (List.map GSl.cs [(⟨6, 100⟩ : GSl)]) 35]), (35, .arr 49 2 (List.map GSl.cs [(⟨6, 100⟩ : GSl)]).length)]⟩ krf ?_
  refine sim_bind (fun j15 => ⟨[(0, B j15)], []⟩ : Bool → St) ?_ ?_
  ·refine sG ?_
   refine xR 2 krf ?_
   refine xS j1 (fun h16 => ?_) (fun h16 => ?_)
   ·refine xO (want_tt krf h16) krf ?_
    refine xR 3 krf ?_
    refine xS (eqI r14.2 1) (fun h17 => ?_) (fun h17 => ?_)
    ·refine xO (want_tt krf h17) krf ?_
     refine xC [.agg [.id, .id, .id, .sl 2], .id, .id, .id] krf (g_quote_Covers_ok n (⟨5, 9, 7, [(⟨6, 100⟩ : GSl)]⟩ : GSs) 5 9 100) krf krf (fun _ => by kernel_rfl) (fun r18 => ?_)
     refine xR 2 krf ?_
     refine xS r18 (fun h19 => ?_) (fun h19 => ?_)
     ·refine xO (want_tt krf h19) krf ?_
      refine xC [.agg [.id, .id, .id, .sl 2], .id, .id, .id] krf (g_quote_Covers_ok n (⟨5, 9, 7, [(⟨6, 100⟩ : GSl)]⟩ : GSs) 5 9 99) krf krf (fun _ => by kernel_rfl) (fun r20 => ?_)
      refine xR 3 krf ?_
      refine xS (!r20) (fun h21 => ?_) (fun h21 => ?_)
      ·refine xO (want_tt krf h21) krf ?_
       refine xC [.agg [.id, .id, .id, .sl 2], .id, .id, .id] krf (g_quote_Covers_ok n (⟨5, 9, 7, [(⟨6, 100⟩ : GSl)]⟩ : GSs) 6 9 100) krf krf (fun _ => by kernel_rfl) (fun r22 => ?_)
       refine xR 3 krf ?_
       refine xS (!r22) (fun h23 => ?_) (fun h23 => ?_)
       ·refine xO (want_tt krf h23) krf ?_
        refine xC [.agg [.id, .id, .id, .sl 2], .id, .id, .id] krf (g_quote_Covers_ok n (⟨5, 9, 7, [(⟨6, 100⟩ : GSl)]⟩ : GSs) 5 8 100) krf krf (fun _ => by kernel_rfl) (fun r24 => ?_)
        refine xR 3 krf ?_
        refine xE ?_
        exact nq_n (!r24) ⟨[0], [], [], []⟩ krf
       ·refine xN (want_tf krf h23) krf ?_
        refine xR 4 krf ?_
        refine xE ?_
        exact nq_n false ⟨[0], [], [], []⟩ krf
      ·refine xN (want_tf krf h21) krf ?_
       refine xR 9 krf ?_
       refine xE ?_
       exact nq_n false ⟨[0], [], [], []⟩ krf
     ·refine xN (want_tf krf h19) krf ?_
      refine xR 14 krf ?_
      refine xE ?_
      exact nq_n false ⟨[0], [], [], []⟩ krf
    ·refine xN (want_tf krf h17) krf ?_
     refine xR 18 krf ?_
     refine xE ?_
     exact nq_n false ⟨[0], [], [], []⟩ krf
   ·refine xN (want_tf krf h16) krf ?_
    refine xR 22 krf ?_
    refine xE ?_
    exact nq_n false ⟨[0], [], [], []⟩ krf
  ·rintro j15
   refine sT ?_
   exact qR (.id) krf krf krf
def g_ref32_Few (n : Nat) (a0t : GTf) : Option Bool :=
 cond (leI (lenI (List.map GAr.cs a0t.Articles)) 20)
  (some (leI (lenI a0t.Name) 40))
  (some false)
theorem g_ref32_Few_ok (n : Nat) (a0t : GTf) : ∀ r, g_ref32_Few n a0t = some r → PCall Try.prog 24 [ag (GTf.cs a0t)] (.ret (B r)) := by
 refine pcall_sim (X := fun r : Bool => AEnd.ret (B r)) Try.func24 rfl Try.ntmps24 rfl ?_
 unfold g_ref32_Few
 refine sR tfm ⟨[1], [1], [], []⟩ ⟨[(1, .ptr 1 0)], [(1, .box 24 (bxc (GTf.cs a0t)))]⟩ krf ?_
 refine sS ?_
 refine sG ?_
 refine xR 5 krf ?_
 refine xS (leI (lenI (List.map GAr.cs a0t.Articles)) 20) (fun h1 => ?_) (fun h1 => ?_)
 ·refine xO (want_tt krf h1) krf ?_
  refine xR 5 krf ?_
  refine xE ?_
  refine sN ⟨[2], [], [], []⟩ ⟨[(2, B (leI (lenI a0t.Name) 40))], []⟩ krf ?_
  refine sT ?_
  exact qR (.id) krf krf krf
 ·refine xN (want_tf krf h1) krf ?_
  refine xR 5 krf ?_
  refine xE ?_
  refine sN ⟨[2], [], [], []⟩ ⟨[(2, B false)], []⟩ krf ?_
  refine sT ?_
  exact qR (.id) krf krf krf
def g_ref26_Few (n : Nat) (a0c : GCl) : Option Bool :=
 cond (leI (lenI (List.map GCh.cs a0c.Changes)) 30)
  (some (leI (lenI (List.map ci a0c.Holidays)) 60))
  (some false)
theorem g_ref26_Few_ok (n : Nat) (a0c : GCl) : ∀ r, g_ref26_Few n a0c = some r → PCall Try.prog 25 [ag (GCl.cs a0c)] (.ret (B r)) := by
 refine pcall_sim (X := fun r : Bool => AEnd.ret (B r)) Try.func25 rfl Try.ntmps25 rfl ?_
 unfold g_ref26_Few
 refine sR tfm ⟨[1], [1], [], []⟩ ⟨[(1, .ptr 1 0)], [(1, .box 28 (bxc (GCl.cs a0c)))]⟩ krf ?_
 refine sS ?_
 refine sG ?_
 refine xR 5 krf ?_
 refine xS (leI (lenI (List.map GCh.cs a0c.Changes)) 30) (fun h1 => ?_) (fun h1 => ?_)
 ·refine xO (want_tt krf h1) krf ?_
  refine xR 5 krf ?_
  refine xE ?_
  refine sN ⟨[2], [], [], []⟩ ⟨[(2, B (leI (lenI (List.map ci a0c.Holidays)) 60))], []⟩ krf ?_
  refine sT ?_
  exact qR (.id) krf krf krf
 ·refine xN (want_tf krf h1) krf ?_
  refine xR 5 krf ?_
  refine xE ?_
  refine sN ⟨[2], [], [], []⟩ ⟨[(2, B false)], []⟩ krf ?_
  refine sT ?_
  exact qR (.id) krf krf krf
def g_ref35_Few (n : Nat) (a0t : GTf) (a1c : GCl) (a2s : GSs) : Option Bool :=
 (g_ref32_Few n a0t).bind fun r1 =>
 cond r1
  ((g_ref26_Few n a1c).bind fun r3 =>
  cond r3
   (some (leI (lenI (List.map GSl.cs a2s.Slices)) 60))
   (some false))
  (some false)
theorem g_ref35_Few_ok (n : Nat) (a0t : GTf) (a1c : GCl) (a2s : GSs) : ∀ r, g_ref35_Few n a0t a1c a2s = some r → PCall Try.prog 12 [ag (GTf.cs a0t), ag (GCl.cs a1c), ag (GSs.cs a2s)] (.ret (B r)) := by
 refine pcall_sim (X := fun r : Bool => AEnd.ret (B r)) Try.func12 rfl Try.ntmps12 rfl ?_
 unfold g_ref35_Few
 refine sR tfm ⟨[3, 4, 5], [3, 4, 5], [], []⟩ ⟨[(3, .ptr 3 0), (4, .ptr 4 0), (5, .ptr 5 0)], [(3, .box 24 (bxc (GTf.cs a0t))), (4, .box 28 (bxc (GCl.cs a1c))), (5, .box 31 (bxc (GSs.cs a2s)))]⟩ krf ?_
 refine sS ?_
 refine sG ?_
 refine xR 1 krf ?_
 refine xC [] krf (g_ref32_Few_ok n a0t) krf krf (fun _ => by kernel_rfl) (fun r1 => ?_)
 refine xR 1 krf ?_
 refine xS r1 (fun h2 => ?_) (fun h2 => ?_)
 ·refine xO (want_tt krf h2) krf ?_
  refine xC [] krf (g_ref26_Few_ok n a1c) krf krf (fun _ => by kernel_rfl) (fun r3 => ?_)
  refine xR 2 krf ?_
  refine xS r3 (fun h4 => ?_) (fun h4 => ?_)
  ·refine xO (want_tt krf h4) krf ?_
   refine xR 5 krf ?_
   refine xE ?_
   refine sN ⟨[6], [], [], []⟩ ⟨[(6, B (leI (lenI (List.map GSl.cs a2s.Slices)) 60))], []⟩ krf ?_
   refine sT ?_
   exact qR (.id) krf krf krf
  ·refine xN (want_tf krf h4) krf ?_
   refine xR 5 krf ?_
   refine xE ?_
   refine sN ⟨[6], [], [], []⟩ ⟨[(6, B false)], []⟩ krf ?_
   refine sT ?_
   exact qR (.id) krf krf krf
 ·refine xN (want_tf krf h2) krf ?_
  refine xR 9 krf ?_
  refine xE ?_
  refine sN ⟨[6], [], [], []⟩ ⟨[(6, B false)], []⟩ krf ?_
  refine sT ?_
  exact qR (.id) krf krf krf
def g_ref02_Kinds (n : Nat) : Option (List (List UInt8)) :=
 some [[102, 101, 101, 100, 101, 114], [99, 97, 98, 108, 101], [111, 119, 110, 101, 114], [99, 111, 110, 116, 114, 97, 99, 116], [99, 104, 97, 114, 103, 101, 114], [98, 97, 121], [116, 97, 114, 105, 102, 102]]
theorem g_ref02_Kinds_ok (n : Nat) : ∀ r, g_ref02_Kinds n = some r → PCall Try.prog 82 [] (.ret (.p (.sl 1 (List.map cstr r)))) := by
 refine pcall_sim (X := fun r : List (List UInt8) => AEnd.ret (.p (.sl 1 (List.map cstr r)))) Try.func82 rfl Try.ntmps82 rfl ?_
 unfold g_ref02_Kinds
 refine sR tfm ⟨[], [], [], []⟩ ⟨[], []⟩ krf ?_
 refine sR tfm ⟨[0], [1], [], []⟩ ⟨[(0, .tsl 1 (List.map cstr [[102, 101, 101, 100, 101, 114], [99, 97, 98, 108, 101], [111, 119, 110, 101, 114], [99, 111, 110, 116, 114, 97, 99, 116], [99, 104, 97, 114, 103, 101, 114], [98, 97, 121], [116, 97, 114, 105, 102, 102]]) 1)], [(1, .arr 9 1 (List.map cstr [[102, 101, 101, 100, 101, 114], [99, 97, 98, 108, 101], [111, 119, 110, 101, 114], [99, 111, 110, 116, 114, 97, 99, 116], [99, 104, 97, 114, 103, 101, 114], [98, 97, 121], [116, 97, 114, 105, 102, 102]]).length)]⟩ krf ?_
 refine sT ?_
 exact qR (.sl 1) krf krf krf
def g_ref02_In_l1 (a0l : List (List UInt8)) (a1s : List UInt8) (recl1 : Int → Option Int) (l1 : Int) : Option Int :=
 cond (ltI l1 (lenI (List.map cstr a0l)))
  ((getI a0l l1).bind fun x2 =>
  cond (eqS x2 a1s)
   (some l1)
   (recl1 (wi (l1 + 1))))
  (some (-1))
def g_ref02_In (n : Nat) (a0l : List (List UInt8)) (a1s : List UInt8) : Option Int :=
 loopN (fun recl1 l1 => g_ref02_In_l1 a0l a1s recl1 l1) n 0
theorem g_ref02_In_ok (n : Nat) (a0l : List (List UInt8)) (a1s : List UInt8) : ∀ r, g_ref02_In n a0l a1s = some r → PCall Try.prog 81 [.p (.sl 1 (List.map cstr a0l)), S a1s] (.ret (I r)) := by
 refine pcall_sim (X := fun r : Int => AEnd.ret (I r)) Try.func81 rfl Try.ntmps81 rfl ?_
 unfold g_ref02_In
 refine sR tfm ⟨[0, 1], [], [], []⟩ ⟨[(0, .p (.sl 1 (List.map cstr a0l))), (1, S a1s)], []⟩ krf ?_
 refine sS ?_
 refine sR tfm ⟨[0, 1, 5], [], [], []⟩ ⟨[(0, .p (.sl 1 (List.map cstr a0l))), (1, S a1s), (5, I 0)], []⟩ krf ?_
 refine sB ?_
 refine sim_loop (fun l1 => ⟨[(0, .p (.sl 1 (List.map cstr a0l))), (1, S a1s), (5, I l1)], []⟩ : Int → St) (weak_shr (K := ⟨[0, 1, 5], [], [], []⟩) krf) ?_
 rintro recl1 l1
 show SimE (g_ref02_In_l1 a0l a1s recl1 l1) _ _ _ _ _ _
 unfold g_ref02_In_l1
 refine sS ?_
 refine sR tfm ⟨[0, 1, 5, 9], [], [], []⟩ ⟨[(0, .p (.sl 1 (List.map cstr a0l))), (1, S a1s), (5, I l1), (9, B (ltI l1 (lenI (List.map cstr a0l))))], []⟩ krf ?_
 refine sC (ltI l1 (lenI (List.map cstr a0l))) krf ?_ ?_
 ·refine sK ?_
  refine sN ⟨[0, 1, 5], [], [], []⟩ ⟨[(0, .p (.sl 1 (List.map cstr a0l))), (1, S a1s), (5, I l1)], []⟩ krf ?_
  refine sS ?_
  refine sB ?_
  refine sS ?_
  refine sG ?_
  refine xR 2 krf ?_
  refine xG krf krf (aop_idx (e := 9) (S := 1) (enc := cstr) (l := a0l) (k := .i64) (n := l1) (sv := .p (.sl 1 (List.map cstr a0l))) rfl krf krf krf krf krf) (fun x2 => ?_)
  refine xR 3 krf ?_
  refine xE ?_
  refine sN ⟨[0, 1, 5, 17], [], [], []⟩ ⟨[(0, .p (.sl 1 (List.map cstr a0l))), (1, S a1s), (5, I l1), (17, B (eqS x2 a1s))], []⟩ krf ?_
  refine sC (eqS x2 a1s) krf ?_ ?_
  ·refine sR tfm ⟨[4], [], [], []⟩ ⟨[(4, I l1)], []⟩ krf ?_
   refine sT ?_
   refine bq_r ?_
   refine sq_r ?_
   refine kq_r ?_
   refine bq_r ?_
   refine sq_r ?_
   exact qR (.id) krf krf krf
  ·refine sK ?_
   refine bq_n ?_
   refine sN ⟨[0, 1, 5], [], [], []⟩ ⟨[(0, .p (.sl 1 (List.map cstr a0l))), (1, S a1s), (5, I l1)], []⟩ krf ?_
   refine sL tfm krf ?_
   exact kq_n (wi (l1 + 1)) ⟨[0, 1, 5], [], [], []⟩ krf
 ·refine sim_exit ?_
  refine sq_x ?_
  refine kq_x ?_
  refine bq_hit ?_
  refine sN ⟨[], [], [], []⟩ ⟨[], []⟩ krf ?_
  refine sR tfm ⟨[4], [], [], []⟩ ⟨[(4, I (-1))], []⟩ krf ?_
  refine sT ?_
  exact qR (.id) krf krf krf
def g_ref02_Attrs (n : Nat) : Option (List (List UInt8)) :=
 some [[108, 105, 109, 105, 116], [110, 101, 117, 116, 114, 97, 108], [102, 117, 115, 101], [116, 104, 101, 114, 109, 97, 108], [102, 114, 111, 109], [97, 116], [112, 104, 97, 115, 101, 115], [97, 109, 112, 115], [102, 97, 108, 108, 98, 97, 99, 107], [111, 119, 110, 101, 114], [99, 97, 114, 100], [114, 97, 110, 107], [99, 104, 97, 114, 103, 101, 114]]
theorem g_ref02_Attrs_ok (n : Nat) : ∀ r, g_ref02_Attrs n = some r → PCall Try.prog 83 [] (.ret (.p (.sl 1 (List.map cstr r)))) := by
 refine pcall_sim (X := fun r : List (List UInt8) => AEnd.ret (.p (.sl 1 (List.map cstr r)))) Try.func83 rfl Try.ntmps83 rfl ?_
 unfold g_ref02_Attrs
 refine sR tfm ⟨[], [], [], []⟩ ⟨[], []⟩ krf ?_
 refine sR tfm ⟨[0], [1], [], []⟩ ⟨[(0, .tsl 1 (List.map cstr [[108, 105, 109, 105, 116], [110, 101, 117, 116, 114, 97, 108], [102, 117, 115, 101], [116, 104, 101, 114, 109, 97, 108], [102, 114, 111, 109], [97, 116], [112, 104, 97, 115, 101, 115], [97, 109, 112, 115], [102, 97, 108, 108, 98, 97, 99, 107], [111, 119, 110, 101, 114], [99, 97, 114, 100], [114, 97, 110, 107], [99, 104, 97, 114, 103, 101, 114]]) 1)], [(1, .arr 9 1 (List.map cstr [[108, 105, 109, 105, 116], [110, 101, 117, 116, 114, 97, 108], [102, 117, 115, 101], [116, 104, 101, 114, 109, 97, 108], [102, 114, 111, 109], [97, 116], [112, 104, 97, 115, 101, 115], [97, 109, 112, 115], [102, 97, 108, 108, 98, 97, 99, 107], [111, 119, 110, 101, 114], [99, 97, 114, 100], [114, 97, 110, 107], [99, 104, 97, 114, 103, 101, 114]]).length)]⟩ krf ?_
 refine sT ?_
 exact qR (.sl 1) krf krf krf
def g_ref02_Articles (n : Nat) : Option (List (List UInt8)) :=
 some [[115, 116, 97, 114, 116], [101, 110, 101, 114, 103, 121], [116, 105, 109, 101], [105, 100, 108, 101], [99, 97, 112], [116, 97, 120]]
theorem g_ref02_Articles_ok (n : Nat) : ∀ r, g_ref02_Articles n = some r → PCall Try.prog 84 [] (.ret (.p (.sl 1 (List.map cstr r)))) := by
 refine pcall_sim (X := fun r : List (List UInt8) => AEnd.ret (.p (.sl 1 (List.map cstr r)))) Try.func84 rfl Try.ntmps84 rfl ?_
 unfold g_ref02_Articles
 refine sR tfm ⟨[], [], [], []⟩ ⟨[], []⟩ krf ?_
 refine sR tfm ⟨[0], [1], [], []⟩ ⟨[(0, .tsl 1 (List.map cstr [[115, 116, 97, 114, 116], [101, 110, 101, 114, 103, 121], [116, 105, 109, 101], [105, 100, 108, 101], [99, 97, 112], [116, 97, 120]]) 1)], [(1, .arr 9 1 (List.map cstr [[115, 116, 97, 114, 116], [101, 110, 101, 114, 103, 121], [116, 105, 109, 101], [105, 100, 108, 101], [99, 97, 112], [116, 97, 120]]).length)]⟩ krf ?_
 refine sT ?_
 exact qR (.sl 1) krf krf krf
def g_ref02_Words (n : Nat) : Option (List (List UInt8)) :=
 some [[111, 110], [119, 111, 114, 107], [115, 97, 116, 117, 114, 100, 97, 121], [115, 117, 110, 100, 97, 121], [98, 101, 116, 119, 101, 101, 110], [112, 101, 114], [102, 114, 101, 101]]
theorem g_ref02_Words_ok (n : Nat) : ∀ r, g_ref02_Words n = some r → PCall Try.prog 85 [] (.ret (.p (.sl 1 (List.map cstr r)))) := by
 refine pcall_sim (X := fun r : List (List UInt8) => AEnd.ret (.p (.sl 1 (List.map cstr r)))) Try.func85 rfl Try.ntmps85 rfl ?_
 unfold g_ref02_Words
 refine sR tfm ⟨[], [], [], []⟩ ⟨[], []⟩ krf ?_
 refine sR tfm ⟨[0], [1], [], []⟩ ⟨[(0, .tsl 1 (List.map cstr [[111, 110], [119, 111, 114, 107], [115, 97, 116, 117, 114, 100, 97, 121], [115, 117, 110, 100, 97, 121], [98, 101, 116, 119, 101, 101, 110], [112, 101, 114], [102, 114, 101, 101]]) 1)], [(1, .arr 9 1 (List.map cstr [[111, 110], [119, 111, 114, 107], [115, 97, 116, 117, 114, 100, 97, 121], [115, 117, 110, 100, 97, 121], [98, 101, 116, 119, 101, 101, 110], [112, 101, 114], [102, 114, 101, 101]]).length)]⟩ krf ?_
 refine sT ?_
 exact qR (.sl 1) krf krf krf
def g_ref02_Name_j1 (n : Nat) (a0s : List UInt8) : Option Bool :=
 ((g_ref02_Kinds n).bind fun r3 =>
 (g_ref02_In n r3 a0s).bind fun r4 =>
 cond (leI 0 r4)
  (some true)
  ((g_ref02_Attrs n).bind fun r6 =>
  (g_ref02_In n r6 a0s).bind fun r7 =>
  cond (leI 0 r7)
   (some true)
   ((g_ref02_Articles n).bind fun r9 =>
   (g_ref02_In n r9 a0s).bind fun r10 =>
   cond (leI 0 r10)
    (some true)
    ((g_ref02_Words n).bind fun r12 =>
    (g_ref02_In n r12 a0s).bind fun r13 =>
    some (leI 0 r13))))).bind fun j2 =>
 cond (leI 1 (lenI a0s))
  (cond (leI (lenI a0s) 12)
   (some (!j2))
   (some false))
  (some false)
def g_ref02_Name_l16 (n : Nat) (a0s : List UInt8) (recl16 : Int → Option Bool) (l16 : Int) : Option Bool :=
 cond (ltI l16 (lenI a0s))
  ((getI a0s l16).bind fun x17 =>
  (cond (ltI (b2i x17) 97)
   (cond (eqI l16 0)
    (some true)
    (cond (ltI (b2i x17) 48)
     (some (!eqI (b2i x17) 95))
     (cond (ltI 57 (b2i x17))
      (some (!eqI (b2i x17) 95))
      (some false))))
   (cond (ltI 122 (b2i x17))
    (cond (eqI l16 0)
     (some true)
     (cond (ltI (b2i x17) 48)
      (some (!eqI (b2i x17) 95))
      (cond (ltI 57 (b2i x17))
       (some (!eqI (b2i x17) 95))
       (some false))))
    (some false))).bind fun j18 =>
  cond j18
   (some false)
   (recl16 (wi (l16 + 1))))
  (g_ref02_Name_j1 n a0s)
def g_ref02_Name (n : Nat) (a0s : List UInt8) : Option Bool :=
 loopN (fun recl16 l16 => g_ref02_Name_l16 n a0s recl16 l16) n 0
theorem g_ref02_Name_ok (n : Nat) (a0s : List UInt8) : ∀ r, g_ref02_Name n a0s = some r → PCall Try.prog 58 [S a0s] (.ret (B r)) := by
 refine pcall_sim (X := fun r : Bool => AEnd.ret (B r)) Try.func58 rfl Try.ntmps58 rfl ?_
 unfold g_ref02_Name
 refine sR tfm ⟨[0], [], [], []⟩ ⟨[(0, S a0s)], []⟩ krf ?_
 refine sim_cps (fun _ => ⟨[(0, S a0s)], []⟩ : Unit → St) (fun _ => g_ref02_Name_j1 n a0s) ?_ ?_
 ·rintro _
  show SimE (g_ref02_Name_j1 n a0s) _ _ _ _ _ _
  unfold g_ref02_Name_j1
  refine sim_bind (fun j2 => ⟨[(0, S a0s), (5, B j2)], []⟩ : Bool → St) ?_ ?_
  ·refine sG ?_
   refine xC [] krf (g_ref02_Kinds_ok n) krf krf (fun _ => by kernel_rfl) (fun r3 => ?_)
   refine xR 1 krf ?_
   refine xC [] krf (g_ref02_In_ok n r3 a0s) krf krf (fun _ => by kernel_rfl) (fun r4 => ?_)
   refine xR 2 krf ?_
   refine xS (leI 0 r4) (fun h5 => ?_) (fun h5 => ?_)
   ·refine xN (want_ft krf h5) krf ?_
    refine xR 17 krf ?_
    refine xE ?_
    exact nq_n true ⟨[0, 5], [], [], []⟩ krf
   ·refine xC [] (want_ff krf h5) (g_ref02_Attrs_ok n) krf krf (fun _ => by kernel_rfl) (fun r6 => ?_)
    refine xR 1 krf ?_
    refine xC [] krf (g_ref02_In_ok n r6 a0s) krf krf (fun _ => by kernel_rfl) (fun r7 => ?_)
    refine xR 3 krf ?_
    refine xS (leI 0 r7) (fun h8 => ?_) (fun h8 => ?_)
    ·refine xN (want_ft krf h8) krf ?_
     refine xR 11 krf ?_
     refine xE ?_
     exact nq_n true ⟨[0, 5], [], [], []⟩ krf
    ·refine xC [] (want_ff krf h8) (g_ref02_Articles_ok n) krf krf (fun _ => by kernel_rfl) (fun r9 => ?_)
     refine xR 1 krf ?_
     refine xC [] krf (g_ref02_In_ok n r9 a0s) krf krf (fun _ => by kernel_rfl) (fun r10 => ?_)
     refine xR 3 krf ?_
     refine xS (leI 0 r10) (fun h11 => ?_) (fun h11 => ?_)
     ·refine xN (want_ft krf h11) krf ?_
      refine xR 5 krf ?_
      refine xE ?_
      exact nq_n true ⟨[0, 5], [], [], []⟩ krf
     ·refine xC [] (want_ff krf h11) (g_ref02_Words_ok n) krf krf (fun _ => by kernel_rfl) (fun r12 => ?_)
      refine xR 1 krf ?_
      refine xC [] krf (g_ref02_In_ok n r12 a0s) krf krf (fun _ => by kernel_rfl) (fun r13 => ?_)
      refine xR 3 krf ?_
      refine xE ?_
      exact nq_n (leI 0 r13) ⟨[0, 5], [], [], []⟩ krf
  ·rintro j2
   refine sS ?_
   refine sG ?_
   refine xR 4 krf ?_
   refine xS (leI 1 (lenI a0s)) (fun h14 => ?_) (fun h14 => ?_)
   ·refine xO (want_tt krf h14) krf ?_
    refine xR 4 krf ?_
    refine xS (leI (lenI a0s) 12) (fun h15 => ?_) (fun h15 => ?_)
    ·refine xO (want_tt krf h15) krf ?_
     refine xR 3 krf ?_
     refine xE ?_
     refine sN ⟨[2], [], [], []⟩ ⟨[(2, B (!j2))], []⟩ krf ?_
     refine sT ?_
     exact qR (.id) krf krf krf
    ·refine xN (want_tf krf h15) krf ?_
     refine xR 3 krf ?_
     refine xE ?_
     refine sN ⟨[2], [], [], []⟩ ⟨[(2, B false)], []⟩ krf ?_
     refine sT ?_
     exact qR (.id) krf krf krf
   ·refine xN (want_tf krf h14) krf ?_
    refine xR 8 krf ?_
    refine xE ?_
    refine sN ⟨[2], [], [], []⟩ ⟨[(2, B false)], []⟩ krf ?_
    refine sT ?_
    exact qR (.id) krf krf krf
 ·refine sR tfm ⟨[0, 3], [], [], []⟩ ⟨[(0, S a0s), (3, I 0)], []⟩ krf ?_
  refine sB ?_
  refine sim_loop (fun l16 => ⟨[(0, S a0s), (3, I l16)], []⟩ : Int → St) (weak_shr (K := ⟨[0, 3], [], [], []⟩) krf) ?_
  rintro recl16 l16
  show SimE (g_ref02_Name_l16 n a0s recl16 l16) _ _ _ _ _ _
  unfold g_ref02_Name_l16
  refine sS ?_
  refine sR tfm ⟨[0, 3, 9], [], [], []⟩ ⟨[(0, S a0s), (3, I l16), (9, B (ltI l16 (lenI a0s)))], []⟩ krf ?_
  refine sC (ltI l16 (lenI a0s)) krf ?_ ?_
  ·refine sK ?_
   refine sN ⟨[0, 3], [], [], []⟩ ⟨[(0, S a0s), (3, I l16)], []⟩ krf ?_
   refine sS ?_
   refine sB ?_
   refine sS ?_
   refine sG ?_
   refine xR 2 krf ?_
   refine xG krf krf (aop_sidx (l := a0s) (k := .i64) (n := l16) rfl krf krf krf) (fun x17 => ?_)
   refine xR 1 krf ?_
   refine xE ?_
   refine sN ⟨[0, 3, 4], [], [], []⟩ ⟨[(0, S a0s), (3, I l16), (4, B8 (b2i x17))], []⟩ krf ?_
   refine sim_bind (fun j18 => ⟨[(0, S a0s), (3, I l16), (36, B j18)], []⟩ : Bool → St) ?_ ?_
   ·refine sG ?_
    refine xR 3 krf ?_
    refine xS (ltI (b2i x17) 97) (fun h19 => ?_) (fun h19 => ?_)
    ·refine xN (want_ft krf h19) krf ?_
     refine xR 6 krf ?_
     refine xS (eqI l16 0) (fun h20 => ?_) (fun h20 => ?_)
     ·refine xN (want_ft krf h20) krf ?_
      refine xR 11 krf ?_
      refine xE ?_
      exact nq_n true ⟨[0, 3, 36], [], [], []⟩ krf
     ·refine xO (want_ff krf h20) krf ?_
      refine xR 2 krf ?_
      refine xS (ltI (b2i x17) 48) (fun h21 => ?_) (fun h21 => ?_)
      ·refine xN (want_ft krf h21) krf ?_
       refine xR 8 krf ?_
       refine xE ?_
       exact nq_n (!eqI (b2i x17) 95) ⟨[0, 3, 36], [], [], []⟩ krf
      ·refine xO (want_ff krf h21) krf ?_
       refine xR 3 krf ?_
       refine xS (ltI 57 (b2i x17)) (fun h22 => ?_) (fun h22 => ?_)
       ·refine xO (want_tt krf h22) krf ?_
        refine xR 4 krf ?_
        refine xE ?_
        exact nq_n (!eqI (b2i x17) 95) ⟨[0, 3, 36], [], [], []⟩ krf
       ·refine xN (want_tf krf h22) krf ?_
        refine xR 4 krf ?_
        refine xE ?_
        exact nq_n false ⟨[0, 3, 36], [], [], []⟩ krf
    ·refine xO (want_ff krf h19) krf ?_
     refine xR 3 krf ?_
     refine xS (ltI 122 (b2i x17)) (fun h23 => ?_) (fun h23 => ?_)
     ·refine xO (want_tt krf h23) krf ?_
      refine xR 2 krf ?_
      refine xS (eqI l16 0) (fun h24 => ?_) (fun h24 => ?_)
      ·refine xN (want_ft krf h24) krf ?_
       refine xR 11 krf ?_
       refine xE ?_
       exact nq_n true ⟨[0, 3, 36], [], [], []⟩ krf
      ·refine xO (want_ff krf h24) krf ?_
       refine xR 2 krf ?_
       refine xS (ltI (b2i x17) 48) (fun h25 => ?_) (fun h25 => ?_)
       ·refine xN (want_ft krf h25) krf ?_
        refine xR 8 krf ?_
        refine xE ?_
        exact nq_n (!eqI (b2i x17) 95) ⟨[0, 3, 36], [], [], []⟩ krf
       ·refine xO (want_ff krf h25) krf ?_
        refine xR 3 krf ?_
        refine xS (ltI 57 (b2i x17)) (fun h26 => ?_) (fun h26 => ?_)
        ·refine xO (want_tt krf h26) krf ?_
         refine xR 4 krf ?_
         refine xE ?_
         exact nq_n (!eqI (b2i x17) 95) ⟨[0, 3, 36], [], [], []⟩ krf
        ·refine xN (want_tf krf h26) krf ?_
         refine xR 4 krf ?_
         refine xE ?_
         exact nq_n false ⟨[0, 3, 36], [], [], []⟩ krf
     ·refine xN (want_tf krf h23) krf ?_
      refine xR 14 krf ?_
      refine xE ?_
      exact nq_n false ⟨[0, 3, 36], [], [], []⟩ krf
   ·rintro j18
    refine sC j18 krf ?_ ?_
    ·refine sR tfm ⟨[2], [], [], []⟩ ⟨[(2, B false)], []⟩ krf ?_
     refine sT ?_
     refine bq_r ?_
     refine sq_r ?_
     refine kq_r ?_
     refine bq_r ?_
     refine kq_r ?_
     exact qR (.id) krf krf krf
    ·refine sK ?_
     refine bq_n ?_
     refine sN ⟨[0, 3], [], [], []⟩ ⟨[(0, S a0s), (3, I l16)], []⟩ krf ?_
     refine sL tfm krf ?_
     exact kq_n (wi (l16 + 1)) ⟨[0, 3], [], [], []⟩ krf
  ·refine sim_exit ?_
   refine sq_x ?_
   refine kq_x ?_
   refine bq_hit ?_
   exact kq_n (k := fun _ => g_ref02_Name_j1 n a0s) () ⟨[0], [], [], []⟩ krf
def g_ref32_Article (n : Nat) (a0a : GAr) : Option Bool :=
 (cond (ltI a0a.Price 0)
  (some true)
  (cond (ltI 1000000 a0a.Price)
   (some true)
   (cond (ltI a0a.From 0)
    (some true)
    (cond (ltI 1439 a0a.From)
     (some true)
     (cond (leI a0a.To a0a.From)
      (some true)
      (cond (ltI 1440 a0a.To)
       (some true)
       (cond (ltI a0a.Days 1)
        (some true)
        (some (ltI 7 a0a.Days))))))))).bind fun j1 =>
 cond j1
  (some false)
  ((cond (eqI a0a.Kind 3)
   (some true)
   (some (eqI a0a.Kind 4))).bind fun j9 =>
  cond j9
   ((cond (leI 1 a0a.Unit)
    (cond (leI a0a.Unit 1440)
     (cond (leI 0 a0a.Free)
      (some (leI a0a.Free 1440))
      (some false))
     (some false))
    (some false)).bind fun j11 =>
   some j11)
   ((cond (!eqI a0a.Unit 0)
    (some true)
    (some (!eqI a0a.Free 0))).bind fun j15 =>
   cond j15
    (some false)
    ((cond (eqI a0a.From 0)
     (cond (eqI a0a.To 1440)
      (some (eqI a0a.Days 7))
      (some false))
     (some false)).bind fun j17 =>
    cond (eqI a0a.Kind 6)
     ((cond j17
      (some (leI a0a.Price 10000))
      (some false)).bind fun j20 =>
     some j20)
     (cond (eqI a0a.Kind 5)
      (some j17)
      (cond (eqI a0a.Kind 1)
       (some true)
       (some (eqI a0a.Kind 2)))))))
theorem g_ref32_Article_ok (n : Nat) (a0a : GAr) : ∀ r, g_ref32_Article n a0a = some r → PCall Try.prog 59 [ag (GAr.cs a0a)] (.ret (B r)) := by
 refine pcall_sim (X := fun r : Bool => AEnd.ret (B r)) Try.func59 rfl Try.ntmps59 rfl ?_
 unfold g_ref32_Article
 refine sR tfm ⟨[1], [1], [], []⟩ ⟨[(1, .ptr 1 0)], [(1, .box 44 (bxc (GAr.cs a0a)))]⟩ krf ?_
 refine sS ?_
 refine sim_bind (fun j1 => ⟨[(1, .ptr 1 0), (43, B j1)], [(1, .box 44 (bxc (GAr.cs a0a)))]⟩ : Bool → St) ?_ ?_
 ·refine sG ?_
  refine xR 4 krf ?_
  refine xS (ltI a0a.Price 0) (fun h2 => ?_) (fun h2 => ?_)
  ·refine xN (want_ft krf h2) krf ?_
   refine xR 35 krf ?_
   refine xE ?_
   exact nq_n true ⟨[1, 43], [1], [], []⟩ krf
  ·refine xO (want_ff krf h2) krf ?_
   refine xR 4 krf ?_
   refine xS (ltI 1000000 a0a.Price) (fun h3 => ?_) (fun h3 => ?_)
   ·refine xN (want_ft krf h3) krf ?_
    refine xR 30 krf ?_
    refine xE ?_
    exact nq_n true ⟨[1, 43], [1], [], []⟩ krf
   ·refine xO (want_ff krf h3) krf ?_
    refine xR 4 krf ?_
    refine xS (ltI a0a.From 0) (fun h4 => ?_) (fun h4 => ?_)
    ·refine xN (want_ft krf h4) krf ?_
     refine xR 25 krf ?_
     refine xE ?_
     exact nq_n true ⟨[1, 43], [1], [], []⟩ krf
    ·refine xO (want_ff krf h4) krf ?_
     refine xR 4 krf ?_
     refine xS (ltI 1439 a0a.From) (fun h5 => ?_) (fun h5 => ?_)
     ·refine xN (want_ft krf h5) krf ?_
      refine xR 20 krf ?_
      refine xE ?_
      exact nq_n true ⟨[1, 43], [1], [], []⟩ krf
     ·refine xO (want_ff krf h5) krf ?_
      refine xR 6 krf ?_
      refine xS (leI a0a.To a0a.From) (fun h6 => ?_) (fun h6 => ?_)
      ·refine xN (want_ft krf h6) krf ?_
       refine xR 13 krf ?_
       refine xE ?_
       exact nq_n true ⟨[1, 43], [1], [], []⟩ krf
      ·refine xO (want_ff krf h6) krf ?_
       refine xR 4 krf ?_
       refine xS (ltI 1440 a0a.To) (fun h7 => ?_) (fun h7 => ?_)
       ·refine xN (want_ft krf h7) krf ?_
        refine xR 8 krf ?_
        refine xE ?_
        exact nq_n true ⟨[1, 43], [1], [], []⟩ krf
       ·refine xO (want_ff krf h7) krf ?_
        refine xR 4 krf ?_
        refine xS (ltI a0a.Days 1) (fun h8 => ?_) (fun h8 => ?_)
        ·refine xN (want_ft krf h8) krf ?_
         refine xR 3 krf ?_
         refine xE ?_
         exact nq_n true ⟨[1, 43], [1], [], []⟩ krf
        ·refine xO (want_ff krf h8) krf ?_
         refine xR 3 krf ?_
         refine xE ?_
         exact nq_n (ltI 7 a0a.Days) ⟨[1, 43], [1], [], []⟩ krf
 ·rintro j1
  refine sC j1 krf ?_ ?_
  ·refine sR tfm ⟨[2], [], [], []⟩ ⟨[(2, B false)], []⟩ krf ?_
   refine sT ?_
   refine sq_r ?_
   exact qR (.id) krf krf krf
  ·refine sK ?_
   refine sN ⟨[1], [1], [], []⟩ ⟨[(1, .ptr 1 0)], [(1, .box 44 (bxc (GAr.cs a0a)))]⟩ krf ?_
   refine sS ?_
   refine sim_bind (fun j9 => ⟨[(1, .ptr 1 0), (51, B j9)], [(1, .box 44 (bxc (GAr.cs a0a)))]⟩ : Bool → St) ?_ ?_
   ·refine sG ?_
    refine xR 4 krf ?_
    refine xS (eqI a0a.Kind 3) (fun h10 => ?_) (fun h10 => ?_)
    ·refine xN (want_ft krf h10) krf ?_
     refine xR 3 krf ?_
     refine xE ?_
     exact nq_n true ⟨[1, 51], [1], [], []⟩ krf
    ·refine xO (want_ff krf h10) krf ?_
     refine xR 3 krf ?_
     refine xE ?_
     exact nq_n (eqI a0a.Kind 4) ⟨[1, 51], [1], [], []⟩ krf
   ·rintro j9
    refine sC j9 krf ?_ ?_
    ·refine sim_bind (fun j11 => ⟨[(2, B j11)], []⟩ : Bool → St) ?_ ?_
     ·refine sG ?_
      refine xR 4 krf ?_
      refine xS (leI 1 a0a.Unit) (fun h12 => ?_) (fun h12 => ?_)
      ·refine xO (want_tt krf h12) krf ?_
       refine xR 4 krf ?_
       refine xS (leI a0a.Unit 1440) (fun h13 => ?_) (fun h13 => ?_)
       ·refine xO (want_tt krf h13) krf ?_
        refine xR 4 krf ?_
        refine xS (leI 0 a0a.Free) (fun h14 => ?_) (fun h14 => ?_)
        ·refine xO (want_tt krf h14) krf ?_
         refine xR 4 krf ?_
         refine xE ?_
         exact nq_n (leI a0a.Free 1440) ⟨[2], [], [], []⟩ krf
        ·refine xN (want_tf krf h14) krf ?_
         refine xR 4 krf ?_
         refine xE ?_
         exact nq_n false ⟨[2], [], [], []⟩ krf
       ·refine xN (want_tf krf h13) krf ?_
        refine xR 9 krf ?_
        refine xE ?_
        exact nq_n false ⟨[2], [], [], []⟩ krf
      ·refine xN (want_tf krf h12) krf ?_
       refine xR 14 krf ?_
       refine xE ?_
       exact nq_n false ⟨[2], [], [], []⟩ krf
     ·rintro j11
      refine sT ?_
      refine sq_r ?_
      exact qR (.id) krf krf krf
    ·refine sK ?_
     refine sN ⟨[1], [1], [], []⟩ ⟨[(1, .ptr 1 0)], [(1, .box 44 (bxc (GAr.cs a0a)))]⟩ krf ?_
     refine sS ?_
     refine sim_bind (fun j15 => ⟨[(1, .ptr 1 0), (77, B j15)], [(1, .box 44 (bxc (GAr.cs a0a)))]⟩ : Bool → St) ?_ ?_
     ·refine sG ?_
      refine xR 4 krf ?_
      refine xS (!eqI a0a.Unit 0) (fun h16 => ?_) (fun h16 => ?_)
      ·refine xN (want_ft krf h16) krf ?_
       refine xR 3 krf ?_
       refine xE ?_
       exact nq_n true ⟨[1, 77], [1], [], []⟩ krf
      ·refine xO (want_ff krf h16) krf ?_
       refine xR 3 krf ?_
       refine xE ?_
       exact nq_n (!eqI a0a.Free 0) ⟨[1, 77], [1], [], []⟩ krf
     ·rintro j15
      refine sC j15 krf ?_ ?_
      ·refine sR tfm ⟨[2], [], [], []⟩ ⟨[(2, B false)], []⟩ krf ?_
       refine sT ?_
       refine sq_r ?_
       exact qR (.id) krf krf krf
      ·refine sK ?_
       refine sN ⟨[1], [1], [], []⟩ ⟨[(1, .ptr 1 0)], [(1, .box 44 (bxc (GAr.cs a0a)))]⟩ krf ?_
       refine sim_bind (fun j17 => ⟨[(1, .ptr 1 0), (3, B j17)], [(1, .box 44 (bxc (GAr.cs a0a)))]⟩ : Bool → St) ?_ ?_
       ·refine sG ?_
        refine xR 4 krf ?_
        refine xS (eqI a0a.From 0) (fun h18 => ?_) (fun h18 => ?_)
        ·refine xO (want_tt krf h18) krf ?_
         refine xR 4 krf ?_
         refine xS (eqI a0a.To 1440) (fun h19 => ?_) (fun h19 => ?_)
         ·refine xO (want_tt krf h19) krf ?_
          refine xR 4 krf ?_
          refine xE ?_
          exact nq_n (eqI a0a.Days 7) ⟨[1, 3], [1], [], []⟩ krf
         ·refine xN (want_tf krf h19) krf ?_
          refine xR 4 krf ?_
          refine xE ?_
          exact nq_n false ⟨[1, 3], [1], [], []⟩ krf
        ·refine xN (want_tf krf h18) krf ?_
         refine xR 9 krf ?_
         refine xE ?_
         exact nq_n false ⟨[1, 3], [1], [], []⟩ krf
       ·rintro j17
        refine sS ?_
        refine sR tfm ⟨[1, 3, 93], [1], [], []⟩ ⟨[(1, .ptr 1 0), (3, B j17), (93, B (eqI a0a.Kind 6))], [(1, .box 44 (bxc (GAr.cs a0a)))]⟩ krf ?_
        refine sC (eqI a0a.Kind 6) krf ?_ ?_
        ·refine sim_bind (fun j20 => ⟨[(2, B j20)], []⟩ : Bool → St) ?_ ?_
         ·refine sG ?_
          refine xR 2 krf ?_
          refine xS j17 (fun h21 => ?_) (fun h21 => ?_)
          ·refine xO (want_tt krf h21) krf ?_
           refine xR 4 krf ?_
           refine xE ?_
           exact nq_n (leI a0a.Price 10000) ⟨[2], [], [], []⟩ krf
          ·refine xN (want_tf krf h21) krf ?_
           refine xR 4 krf ?_
           refine xE ?_
           exact nq_n false ⟨[2], [], [], []⟩ krf
         ·rintro j20
          refine sT ?_
          refine sq_r ?_
          exact qR (.id) krf krf krf
        ·refine sK ?_
         refine sN ⟨[1, 3], [1], [], []⟩ ⟨[(1, .ptr 1 0), (3, B j17)], [(1, .box 44 (bxc (GAr.cs a0a)))]⟩ krf ?_
         refine sS ?_
         refine sR tfm ⟨[1, 3, 102], [1], [], []⟩ ⟨[(1, .ptr 1 0), (3, B j17), (102, B (eqI a0a.Kind 5))], [(1, .box 44 (bxc (GAr.cs a0a)))]⟩ krf ?_
         refine sC (eqI a0a.Kind 5) krf ?_ ?_
         ·refine sR tfm ⟨[2], [], [], []⟩ ⟨[(2, B j17)], []⟩ krf ?_
          refine sT ?_
          refine sq_r ?_
          exact qR (.id) krf krf krf
         ·refine sK ?_
          refine sN ⟨[1], [1], [], []⟩ ⟨[(1, .ptr 1 0)], [(1, .box 44 (bxc (GAr.cs a0a)))]⟩ krf ?_
          refine sS ?_
          refine sG ?_
          refine xR 4 krf ?_
          refine xS (eqI a0a.Kind 1) (fun h22 => ?_) (fun h22 => ?_)
          ·refine xN (want_ft krf h22) krf ?_
           refine xR 4 krf ?_
           refine xE ?_
           refine sN ⟨[2], [], [], []⟩ ⟨[(2, B true)], []⟩ krf ?_
           refine sT ?_
           exact qR (.id) krf krf krf
          ·refine xO (want_ff krf h22) krf ?_
           refine xR 4 krf ?_
           refine xE ?_
           refine sN ⟨[2], [], [], []⟩ ⟨[(2, B (eqI a0a.Kind 2))], []⟩ krf ?_
           refine sT ?_
           exact qR (.id) krf krf krf
def g_ref32_Valid_l4 (n : Nat) (a0t : GTf) (recl4 : (Int × Int) → Option Bool) (l4_1 : Int) (l4_2 : Int) : Option Bool :=
 cond (ltI l4_2 (lenI (List.map GAr.cs a0t.Articles)))
  ((getI a0t.Articles l4_2).bind fun x5 =>
  (g_ref32_Article n x5).bind fun r6 =>
  cond (!r6)
   (some false)
   ((getI a0t.Articles l4_2).bind fun x7 =>
   cond (eqI x7.Kind 6)
    (recl4 (wi (l4_1 + 1), wi (l4_2 + 1)))
    (recl4 (l4_1, wi (l4_2 + 1)))))
  (some (leI l4_1 1))
def g_ref32_Valid (n : Nat) (a0t : GTf) : Option Bool :=
 ((g_ref02_Name n a0t.Name).bind fun r2 =>
 cond (!r2)
  (some true)
  (some (ltI 12 (lenI (List.map GAr.cs a0t.Articles))))).bind fun j1 =>
 cond j1
  (some false)
  (loopN (fun recl4 (l4_1, l4_2) => g_ref32_Valid_l4 n a0t recl4 l4_1 l4_2) n (0, 0))
theorem g_ref32_Valid_ok (n : Nat) (a0t : GTf) : ∀ r, g_ref32_Valid n a0t = some r → PCall Try.prog 31 [ag (GTf.cs a0t)] (.ret (B r)) := by
 refine pcall_sim (X := fun r : Bool => AEnd.ret (B r)) Try.func31 rfl Try.ntmps31 rfl ?_
 unfold g_ref32_Valid
 refine sR tfm ⟨[1], [1], [], []⟩ ⟨[(1, .ptr 1 0)], [(1, .box 24 (bxc (GTf.cs a0t)))]⟩ krf ?_
 refine sS ?_
 refine sim_bind (fun j1 => ⟨[(1, .ptr 1 0), (14, B j1)], [(1, .box 24 (bxc (GTf.cs a0t)))]⟩ : Bool → St) ?_ ?_
 ·refine sG ?_
  refine xR 2 krf ?_
  refine xC [] krf (g_ref02_Name_ok n a0t.Name) krf krf (fun _ => by kernel_rfl) (fun r2 => ?_)
  refine xR 2 krf ?_
  refine xS (!r2) (fun h3 => ?_) (fun h3 => ?_)
  ·refine xN (want_ft krf h3) krf ?_
   refine xR 4 krf ?_
   refine xE ?_
   exact nq_n true ⟨[1, 14], [1], [], []⟩ krf
  ·refine xO (want_ff krf h3) krf ?_
   refine xR 4 krf ?_
   refine xE ?_
   exact nq_n (ltI 12 (lenI (List.map GAr.cs a0t.Articles))) ⟨[1, 14], [1], [], []⟩ krf
 ·rintro j1
  refine sC j1 krf ?_ ?_
  ·refine sR tfm ⟨[2], [], [], []⟩ ⟨[(2, B false)], []⟩ krf ?_
   refine sT ?_
   refine sq_r ?_
   exact qR (.id) krf krf krf
  ·refine sK ?_
   refine sN ⟨[1], [1], [], []⟩ ⟨[(1, .ptr 1 0)], [(1, .box 24 (bxc (GTf.cs a0t)))]⟩ krf ?_
   refine sR tfm ⟨[1, 3], [1], [], []⟩ ⟨[(1, .ptr 1 0), (3, I 0)], [(1, .box 24 (bxc (GTf.cs a0t)))]⟩ krf ?_
   refine sS ?_
   refine sR tfm ⟨[1, 3, 4], [1], [], []⟩ ⟨[(1, .ptr 1 0), (3, I 0), (4, I 0)], [(1, .box 24 (bxc (GTf.cs a0t)))]⟩ krf ?_
   refine sB ?_
   refine sim_loop (fun (l4_1, l4_2) => ⟨[(1, .ptr 1 0), (3, I l4_1), (4, I l4_2)], [(1, .box 24 (bxc (GTf.cs a0t)))]⟩ : (Int × Int) → St) (weak_shr (K := ⟨[1, 3, 4], [1], [], []⟩) krf) ?_
   rintro recl4 ⟨l4_1, l4_2⟩
   show SimE (g_ref32_Valid_l4 n a0t recl4 l4_1 l4_2) _ _ _ _ _ _
   unfold g_ref32_Valid_l4
   refine sS ?_
   refine sR tfm ⟨[1, 3, 4, 19], [1], [], []⟩ ⟨[(1, .ptr 1 0), (3, I l4_1), (4, I l4_2), (19, B (ltI l4_2 (lenI (List.map GAr.cs a0t.Articles))))], [(1, .box 24 (bxc (GTf.cs a0t)))]⟩ krf ?_
   refine sC (ltI l4_2 (lenI (List.map GAr.cs a0t.Articles))) krf ?_ ?_
   ·refine sK ?_
    refine sN ⟨[1, 3, 4], [1], [], []⟩ ⟨[(1, .ptr 1 0), (3, I l4_1), (4, I l4_2)], [(1, .box 24 (bxc (GTf.cs a0t)))]⟩ krf ?_
    refine sS ?_
    refine sB ?_
    refine sS ?_
    refine sS ?_
    refine sG ?_
    refine xR 3 krf ?_
    refine xG krf krf (aop_idx (e := 44) (S := 7) (enc := GAr.cs) (l := a0t.Articles) (k := .i64) (n := l4_2) (sv := .p (.sl 7 (List.map GAr.cs a0t.Articles))) rfl krf krf krf krf krf) (fun x5 => ?_)
    refine xR 1 krf ?_
    refine xC [] krf (g_ref32_Article_ok n x5) krf krf (fun _ => by kernel_rfl) (fun r6 => ?_)
    refine xR 1 krf ?_
    refine xE ?_
    refine sN ⟨[1, 3, 4, 28], [1], [], []⟩ ⟨[(1, .ptr 1 0), (3, I l4_1), (4, I l4_2), (28, B (!r6))], [(1, .box 24 (bxc (GTf.cs a0t)))]⟩ krf ?_
    refine sC (!r6) krf ?_ ?_
    ·refine sR tfm ⟨[2], [], [], []⟩ ⟨[(2, B false)], []⟩ krf ?_
     refine sT ?_
     refine sq_r ?_
     refine bq_r ?_
     refine sq_r ?_
     refine kq_r ?_
     refine bq_r ?_
     refine sq_r ?_
     exact qR (.id) krf krf krf
    ·refine sK ?_
     refine sN ⟨[1, 3, 4], [1], [], []⟩ ⟨[(1, .ptr 1 0), (3, I l4_1), (4, I l4_2)], [(1, .box 24 (bxc (GTf.cs a0t)))]⟩ krf ?_
     refine sS ?_
     refine sG ?_
     refine xR 3 krf ?_
     refine xG krf krf (aop_idx (e := 44) (S := 7) (enc := GAr.cs) (l := a0t.Articles) (k := .i64) (n := l4_2) (sv := .p (.sl 7 (List.map GAr.cs a0t.Articles))) rfl krf krf krf krf krf) (fun x7 => ?_)
     refine xR 3 krf ?_
     refine xE ?_
     refine sN ⟨[1, 3, 4, 35], [1], [], []⟩ ⟨[(1, .ptr 1 0), (3, I l4_1), (4, I l4_2), (35, B (eqI x7.Kind 6))], [(1, .box 24 (bxc (GTf.cs a0t)))]⟩ krf ?_
     refine sC (eqI x7.Kind 6) krf ?_ ?_
     ·refine sL tfm krf ?_
      refine bq_n ?_
      refine sN ⟨[1, 3, 4], [1], [], []⟩ ⟨[(1, .ptr 1 0), (3, I (wi (l4_1 + 1))), (4, I l4_2)], [(1, .box 24 (bxc (GTf.cs a0t)))]⟩ krf ?_
      refine sL tfm krf ?_
      exact kq_n (wi (l4_1 + 1), wi (l4_2 + 1)) ⟨[1, 3, 4], [1], [], []⟩ krf
     ·refine sK ?_
      refine bq_n ?_
      refine sN ⟨[1, 3, 4], [1], [], []⟩ ⟨[(1, .ptr 1 0), (3, I l4_1), (4, I l4_2)], [(1, .box 24 (bxc (GTf.cs a0t)))]⟩ krf ?_
      refine sL tfm krf ?_
      exact kq_n (l4_1, wi (l4_2 + 1)) ⟨[1, 3, 4], [1], [], []⟩ krf
   ·refine sim_exit ?_
    refine sq_x ?_
    refine kq_x ?_
    refine bq_hit ?_
    refine sN ⟨[3], [], [], []⟩ ⟨[(3, I l4_1)], []⟩ krf ?_
    refine sR tfm ⟨[2], [], [], []⟩ ⟨[(2, B (leI l4_1 1))], []⟩ krf ?_
    refine sT ?_
    exact qR (.id) krf krf krf
def g_ref26_offset (n : Nat) (a0n : Int) : Option Bool :=
 cond (leI (-1440) a0n)
  (some (leI a0n 1440))
  (some false)
theorem g_ref26_offset_ok (n : Nat) (a0n : Int) : ∀ r, g_ref26_offset n a0n = some r → PCall Try.prog 60 [I a0n] (.ret (B r)) := by
 refine pcall_sim (X := fun r : Bool => AEnd.ret (B r)) Try.func60 rfl Try.ntmps60 rfl ?_
 unfold g_ref26_offset
 refine sR tfm ⟨[0], [], [], []⟩ ⟨[(0, I a0n)], []⟩ krf ?_
 refine sS ?_
 refine sG ?_
 refine xR 3 krf ?_
 refine xS (leI (-1440) a0n) (fun h1 => ?_) (fun h1 => ?_)
 ·refine xO (want_tt krf h1) krf ?_
  refine xR 3 krf ?_
  refine xE ?_
  refine sN ⟨[2], [], [], []⟩ ⟨[(2, B (leI a0n 1440))], []⟩ krf ?_
  refine sT ?_
  exact qR (.id) krf krf krf
 ·refine xN (want_tf krf h1) krf ?_
  refine xR 3 krf ?_
  refine xE ?_
  refine sN ⟨[2], [], [], []⟩ ⟨[(2, B false)], []⟩ krf ?_
  refine sT ?_
  exact qR (.id) krf krf krf
def g_ref26_Valid_l6 (a0c : GCl) (recl6 : Int → Option Bool) (l6 : Int) : Option Bool :=
 cond (ltI l6 (lenI (List.map ci a0c.Holidays)))
  ((getI a0c.Holidays l6).bind fun x7 =>
  (cond (ltI x7 0)
   (some true)
   (cond (ltI 36500 x7)
    (some true)
    (cond (ltI 0 l6)
     ((getI a0c.Holidays (wi (l6 - 1))).bind fun x12 =>
     some (leI x7 x12))
     (some false)))).bind fun j8 =>
  cond j8
   (some false)
   (recl6 (wi (l6 + 1))))
  (some true)
def g_ref26_Valid_j5 (n : Nat) (a0c : GCl) : Option Bool :=
 loopN (fun recl6 l6 => g_ref26_Valid_l6 a0c recl6 l6) n 0
def g_ref26_Valid_l13 (n : Nat) (a0c : GCl) (recl13 : Int → Option Bool) (l13 : Int) : Option Bool :=
 cond (ltI l13 (lenI (List.map GCh.cs a0c.Changes)))
  ((getI a0c.Changes l13).bind fun x14 =>
  ((g_ref26_offset n x14.Offset).bind fun r16 =>
  cond (!r16)
   (some true)
   (cond (ltI x14.At 0)
    (some true)
    (cond (ltI 52560000 x14.At)
     (some true)
     (cond (ltI 0 l13)
      ((getI a0c.Changes (wi (l13 - 1))).bind fun x21 =>
      some (leI x14.At x21.At))
      (some false))))).bind fun j15 =>
  cond j15
   (some false)
   (recl13 (wi (l13 + 1))))
  (g_ref26_Valid_j5 n a0c)
def g_ref26_Valid (n : Nat) (a0c : GCl) : Option Bool :=
 ((g_ref26_offset n a0c.Offset).bind fun r2 =>
 cond (!r2)
  (some true)
  (cond (ltI 16 (lenI (List.map GCh.cs a0c.Changes)))
   (some true)
   (some (ltI 32 (lenI (List.map ci a0c.Holidays)))))).bind fun j1 =>
 cond j1
  (some false)
  (loopN (fun recl13 l13 => g_ref26_Valid_l13 n a0c recl13 l13) n 0)
theorem g_ref26_Valid_ok (n : Nat) (a0c : GCl) : ∀ r, g_ref26_Valid n a0c = some r → PCall Try.prog 32 [ag (GCl.cs a0c)] (.ret (B r)) := by
 refine pcall_sim (X := fun r : Bool => AEnd.ret (B r)) Try.func32 rfl Try.ntmps32 rfl ?_
 unfold g_ref26_Valid
 refine sR tfm ⟨[1], [1], [], []⟩ ⟨[(1, .ptr 1 0)], [(1, .box 28 (bxc (GCl.cs a0c)))]⟩ krf ?_
 refine sS ?_
 refine sim_bind (fun j1 => ⟨[(1, .ptr 1 0), (22, B j1)], [(1, .box 28 (bxc (GCl.cs a0c)))]⟩ : Bool → St) ?_ ?_
 ·refine sG ?_
  refine xR 2 krf ?_
  refine xC [] krf (g_ref26_offset_ok n a0c.Offset) krf krf (fun _ => by kernel_rfl) (fun r2 => ?_)
  refine xR 2 krf ?_
  refine xS (!r2) (fun h3 => ?_) (fun h3 => ?_)
  ·refine xN (want_ft krf h3) krf ?_
   refine xR 10 krf ?_
   refine xE ?_
   exact nq_n true ⟨[1, 22], [1], [], []⟩ krf
  ·refine xO (want_ff krf h3) krf ?_
   refine xR 5 krf ?_
   refine xS (ltI 16 (lenI (List.map GCh.cs a0c.Changes))) (fun h4 => ?_) (fun h4 => ?_)
   ·refine xN (want_ft krf h4) krf ?_
    refine xR 4 krf ?_
    refine xE ?_
    exact nq_n true ⟨[1, 22], [1], [], []⟩ krf
   ·refine xO (want_ff krf h4) krf ?_
    refine xR 4 krf ?_
    refine xE ?_
    exact nq_n (ltI 32 (lenI (List.map ci a0c.Holidays))) ⟨[1, 22], [1], [], []⟩ krf
 ·rintro j1
  refine sC j1 krf ?_ ?_
  ·refine sR tfm ⟨[2], [], [], []⟩ ⟨[(2, B false)], []⟩ krf ?_
   refine sT ?_
   refine sq_r ?_
   exact qR (.id) krf krf krf
  ·refine sK ?_
   refine sN ⟨[1], [1], [], []⟩ ⟨[(1, .ptr 1 0)], [(1, .box 28 (bxc (GCl.cs a0c)))]⟩ krf ?_
   refine sim_cps (fun _ => ⟨[(1, .ptr 1 0)], [(1, .box 28 (bxc (GCl.cs a0c)))]⟩ : Unit → St) (fun _ => g_ref26_Valid_j5 n a0c) ?_ ?_
   ·rintro _
    show SimE (g_ref26_Valid_j5 n a0c) _ _ _ _ _ _
    unfold g_ref26_Valid_j5
    refine sS ?_
    refine sR tfm ⟨[1, 5], [1], [], []⟩ ⟨[(1, .ptr 1 0), (5, I 0)], [(1, .box 28 (bxc (GCl.cs a0c)))]⟩ krf ?_
    refine sB ?_
    refine sim_loop (fun l6 => ⟨[(1, .ptr 1 0), (5, I l6)], [(1, .box 28 (bxc (GCl.cs a0c)))]⟩ : Int → St) (weak_shr (K := ⟨[1, 5], [1], [], []⟩) krf) ?_
    rintro recl6 l6
    show SimE (g_ref26_Valid_l6 a0c recl6 l6) _ _ _ _ _ _
    unfold g_ref26_Valid_l6
    refine sS ?_
    refine sR tfm ⟨[1, 5, 69], [1], [], []⟩ ⟨[(1, .ptr 1 0), (5, I l6), (69, B (ltI l6 (lenI (List.map ci a0c.Holidays))))], [(1, .box 28 (bxc (GCl.cs a0c)))]⟩ krf ?_
    refine sC (ltI l6 (lenI (List.map ci a0c.Holidays))) krf ?_ ?_
    ·refine sK ?_
     refine sN ⟨[1, 5], [1], [], []⟩ ⟨[(1, .ptr 1 0), (5, I l6)], [(1, .box 28 (bxc (GCl.cs a0c)))]⟩ krf ?_
     refine sS ?_
     refine sB ?_
     refine sS ?_
     refine sG ?_
     refine xR 3 krf ?_
     refine xG krf krf (aop_idx (e := 3) (S := 1) (enc := ci) (l := a0c.Holidays) (k := .i64) (n := l6) (sv := .p (.sl 1 (List.map ci a0c.Holidays))) rfl krf krf krf krf krf) (fun x7 => ?_)
     refine xR 2 krf ?_
     refine xE ?_
     refine sN ⟨[1, 5, 6], [1], [], []⟩ ⟨[(1, .ptr 1 0), (5, I l6), (6, I x7)], [(1, .box 28 (bxc (GCl.cs a0c)))]⟩ krf ?_
     refine sim_bind (fun j8 => ⟨[(1, .ptr 1 0), (5, I l6), (96, B j8)], [(1, .box 28 (bxc (GCl.cs a0c)))]⟩ : Bool → St) ?_ ?_
     ·refine sG ?_
      refine xR 3 krf ?_
      refine xS (ltI x7 0) (fun h9 => ?_) (fun h9 => ?_)
      ·refine xN (want_ft krf h9) krf ?_
       refine xR 16 krf ?_
       refine xE ?_
       exact nq_n true ⟨[1, 5, 96], [1], [], []⟩ krf
      ·refine xO (want_ff krf h9) krf ?_
       refine xR 3 krf ?_
       refine xS (ltI 36500 x7) (fun h10 => ?_) (fun h10 => ?_)
       ·refine xN (want_ft krf h10) krf ?_
        refine xR 12 krf ?_
        refine xE ?_
        exact nq_n true ⟨[1, 5, 96], [1], [], []⟩ krf
       ·refine xO (want_ff krf h10) krf ?_
        refine xR 2 krf ?_
        refine xS (ltI 0 l6) (fun h11 => ?_) (fun h11 => ?_)
        ·refine xO (want_tt krf h11) krf ?_
         refine xR 4 krf ?_
         refine xG krf krf (aop_idx (e := 3) (S := 1) (enc := ci) (l := a0c.Holidays) (k := .i64) (n := wi (l6 - 1)) (sv := .p (.sl 1 (List.map ci a0c.Holidays))) rfl krf krf krf krf krf) (fun x12 => ?_)
         refine xR 4 krf ?_
         refine xE ?_
         exact nq_n (leI x7 x12) ⟨[1, 5, 96], [1], [], []⟩ krf
        ·refine xN (want_tf krf h11) krf ?_
         refine xR 9 krf ?_
         refine xE ?_
         exact nq_n false ⟨[1, 5, 96], [1], [], []⟩ krf
     ·rintro j8
      refine sC j8 krf ?_ ?_
      ·refine sR tfm ⟨[2], [], [], []⟩ ⟨[(2, B false)], []⟩ krf ?_
       refine sT ?_
       refine bq_r ?_
       refine sq_r ?_
       refine kq_r ?_
       refine bq_r ?_
       refine sq_r ?_
       exact qR (.id) krf krf krf
      ·refine sK ?_
       refine bq_n ?_
       refine sN ⟨[1, 5], [1], [], []⟩ ⟨[(1, .ptr 1 0), (5, I l6)], [(1, .box 28 (bxc (GCl.cs a0c)))]⟩ krf ?_
       refine sL tfm krf ?_
       exact kq_n (wi (l6 + 1)) ⟨[1, 5], [1], [], []⟩ krf
    ·refine sim_exit ?_
     refine sq_x ?_
     refine kq_x ?_
     refine bq_hit ?_
     refine sN ⟨[], [], [], []⟩ ⟨[], []⟩ krf ?_
     refine sR tfm ⟨[2], [], [], []⟩ ⟨[(2, B true)], []⟩ krf ?_
     refine sT ?_
     exact qR (.id) krf krf krf
   ·refine sR tfm ⟨[1, 3], [1], [], []⟩ ⟨[(1, .ptr 1 0), (3, I 0)], [(1, .box 28 (bxc (GCl.cs a0c)))]⟩ krf ?_
    refine sB ?_
    refine sim_loop (fun l13 => ⟨[(1, .ptr 1 0), (3, I l13)], [(1, .box 28 (bxc (GCl.cs a0c)))]⟩ : Int → St) (weak_shr (K := ⟨[1, 3], [1], [], []⟩) krf) ?_
    rintro recl13 l13
    show SimE (g_ref26_Valid_l13 n a0c recl13 l13) _ _ _ _ _ _
    unfold g_ref26_Valid_l13
    refine sS ?_
    refine sR tfm ⟨[1, 3, 27], [1], [], []⟩ ⟨[(1, .ptr 1 0), (3, I l13), (27, B (ltI l13 (lenI (List.map GCh.cs a0c.Changes))))], [(1, .box 28 (bxc (GCl.cs a0c)))]⟩ krf ?_
    refine sC (ltI l13 (lenI (List.map GCh.cs a0c.Changes))) krf ?_ ?_
    ·refine sK ?_
     refine sN ⟨[1, 3], [1], [], []⟩ ⟨[(1, .ptr 1 0), (3, I l13)], [(1, .box 28 (bxc (GCl.cs a0c)))]⟩ krf ?_
     refine sS ?_
     refine sB ?_
     refine sS ?_
     refine sG ?_
     refine xR 3 krf ?_
     refine xG krf krf (aop_idx (e := 78) (S := 2) (enc := GCh.cs) (l := a0c.Changes) (k := .i64) (n := l13) (sv := .p (.sl 2 (List.map GCh.cs a0c.Changes))) rfl krf krf krf krf krf) (fun x14 => ?_)
     refine xR 3 krf ?_
     refine xE ?_
     refine sN ⟨[1, 3, 4], [1, 4], [], []⟩ ⟨[(1, .ptr 1 0), (3, I l13), (4, .ptr 4 0)], [(1, .box 28 (bxc (GCl.cs a0c))), (4, .box 78 (bxc (GCh.cs x14)))]⟩ krf ?_
     refine sim_bind (fun j15 => ⟨[(1, .ptr 1 0), (3, I l13), (64, B j15)], [(1, .box 28 (bxc (GCl.cs a0c)))]⟩ : Bool → St) ?_ ?_
     ·refine sim_drw tfm rfl ?_
      refine xR 2 krf ?_
      refine xC [] krf (g_ref26_offset_ok n x14.Offset) krf krf (fun _ => by kernel_rfl) (fun r16 => ?_)
      refine xR 2 krf ?_
      refine xS (!r16) (fun h17 => ?_) (fun h17 => ?_)
      ·refine xN (want_ft krf h17) krf ?_
       refine xR 24 krf ?_
       refine xs_endD krf ?_
       exact nq_n true ⟨[1, 3, 64], [1], [], []⟩ krf
      ·refine xO (want_ff krf h17) krf ?_
       refine xR 4 krf ?_
       refine xS (ltI x14.At 0) (fun h18 => ?_) (fun h18 => ?_)
       ·refine xN (want_ft krf h18) krf ?_
        refine xR 19 krf ?_
        refine xs_endD krf ?_
        exact nq_n true ⟨[1, 3, 64], [1], [], []⟩ krf
       ·refine xO (want_ff krf h18) krf ?_
        refine xR 4 krf ?_
        refine xS (ltI 52560000 x14.At) (fun h19 => ?_) (fun h19 => ?_)
        ·refine xN (want_ft krf h19) krf ?_
         refine xR 14 krf ?_
         refine xs_endD krf ?_
         exact nq_n true ⟨[1, 3, 64], [1], [], []⟩ krf
        ·refine xO (want_ff krf h19) krf ?_
         refine xR 2 krf ?_
         refine xS (ltI 0 l13) (fun h20 => ?_) (fun h20 => ?_)
         ·refine xO (want_tt krf h20) krf ?_
          refine xR 5 krf ?_
          refine xG krf krf (aop_idx (e := 78) (S := 2) (enc := GCh.cs) (l := a0c.Changes) (k := .i64) (n := wi (l13 - 1)) (sv := .p (.sl 2 (List.map GCh.cs a0c.Changes))) rfl krf krf krf krf krf) (fun x21 => ?_)
          refine xR 5 krf ?_
          refine xs_endD krf ?_
          exact nq_n (leI x14.At x21.At) ⟨[1, 3, 64], [1], [], []⟩ krf
         ·refine xN (want_tf krf h20) krf ?_
          refine xR 11 krf ?_
          refine xs_endD krf ?_
          exact nq_n false ⟨[1, 3, 64], [1], [], []⟩ krf
     ·rintro j15
      refine sC j15 krf ?_ ?_
      ·refine sR tfm ⟨[2], [], [], []⟩ ⟨[(2, B false)], []⟩ krf ?_
       refine sT ?_
       refine bq_r ?_
       refine sq_r ?_
       refine kq_r ?_
       refine bq_r ?_
       refine kq_r ?_
       exact qR (.id) krf krf krf
      ·refine sK ?_
       refine bq_n ?_
       refine sN ⟨[1, 3], [1], [], []⟩ ⟨[(1, .ptr 1 0), (3, I l13)], [(1, .box 28 (bxc (GCl.cs a0c)))]⟩ krf ?_
       refine sL tfm krf ?_
       exact kq_n (wi (l13 + 1)) ⟨[1, 3], [1], [], []⟩ krf
    ·refine sim_exit ?_
     refine sq_x ?_
     refine kq_x ?_
     refine bq_hit ?_
     exact kq_n (k := fun _ => g_ref26_Valid_j5 n a0c) () ⟨[1], [1], [], []⟩ krf
def g_ref35_Limits (n : Nat) (a0from : Int) (a1to : Int) (a2energy : Int) : Option Bool :=
 (cond (leI 0 a0from)
  (cond (ltI a0from a1to)
   (cond (leI a1to 52560000)
    (cond (leI (wi (a1to - a0from)) 2880)
     (cond (leI 0 a2energy)
      (some (leI a2energy 480000))
      (some false))
     (some false))
    (some false))
   (some false))
  (some false)).bind fun j1 =>
 some j1
theorem g_ref35_Limits_ok (n : Nat) (a0from : Int) (a1to : Int) (a2energy : Int) : ∀ r, g_ref35_Limits n a0from a1to a2energy = some r → PCall Try.prog 18 [I a0from, I a1to, I a2energy] (.ret (B r)) := by
 refine pcall_sim (X := fun r : Bool => AEnd.ret (B r)) Try.func18 rfl Try.ntmps18 rfl ?_
 unfold g_ref35_Limits
 refine sR tfm ⟨[0, 1, 2], [], [], []⟩ ⟨[(0, I a0from), (1, I a1to), (2, I a2energy)], []⟩ krf ?_
 refine sim_bind (fun j1 => ⟨[(6, B j1)], []⟩ : Bool → St) ?_ ?_
 ·refine sG ?_
  refine xR 3 krf ?_
  refine xS (leI 0 a0from) (fun h2 => ?_) (fun h2 => ?_)
  ·refine xO (want_tt krf h2) krf ?_
   refine xR 4 krf ?_
   refine xS (ltI a0from a1to) (fun h3 => ?_) (fun h3 => ?_)
   ·refine xO (want_tt krf h3) krf ?_
    refine xR 3 krf ?_
    refine xS (leI a1to 52560000) (fun h4 => ?_) (fun h4 => ?_)
    ·refine xO (want_tt krf h4) krf ?_
     refine xR 5 krf ?_
     refine xS (leI (wi (a1to - a0from)) 2880) (fun h5 => ?_) (fun h5 => ?_)
     ·refine xO (want_tt krf h5) krf ?_
      refine xR 3 krf ?_
      refine xS (leI 0 a2energy) (fun h6 => ?_) (fun h6 => ?_)
      ·refine xO (want_tt krf h6) krf ?_
       refine xR 3 krf ?_
       refine xE ?_
       exact nq_n (leI a2energy 480000) ⟨[6], [], [], []⟩ krf
      ·refine xN (want_tf krf h6) krf ?_
       refine xR 3 krf ?_
       refine xE ?_
       exact nq_n false ⟨[6], [], [], []⟩ krf
     ·refine xN (want_tf krf h5) krf ?_
      refine xR 7 krf ?_
      refine xE ?_
      exact nq_n false ⟨[6], [], [], []⟩ krf
    ·refine xN (want_tf krf h4) krf ?_
     refine xR 13 krf ?_
     refine xE ?_
     exact nq_n false ⟨[6], [], [], []⟩ krf
   ·refine xN (want_tf krf h3) krf ?_
    refine xR 17 krf ?_
    refine xE ?_
    exact nq_n false ⟨[6], [], [], []⟩ krf
  ·refine xN (want_tf krf h2) krf ?_
   refine xR 22 krf ?_
   refine xE ?_
   exact nq_n false ⟨[6], [], [], []⟩ krf
 ·rintro j1
  refine sT ?_
  exact qR (.id) krf krf krf
def g_law35_usable (n : Nat) (a0t : GTf) (a1c : GCl) (a2from : Int) (a3to : Int) (a4energy : Int) : Option Bool :=
 (g_ref35_Few n a0t a1c (⟨0, 0, 0, []⟩ : GSs)).bind fun r1 =>
 cond r1
  ((g_ref32_Valid n a0t).bind fun r3 =>
  cond r3
   ((g_ref26_Valid n a1c).bind fun r5 =>
   cond r5
    ((g_ref35_Limits n a2from a3to a4energy).bind fun r7 =>
    some r7)
    (some false))
   (some false))
  (some false)
theorem g_law35_usable_ok (n : Nat) (a0t : GTf) (a1c : GCl) (a2from : Int) (a3to : Int) (a4energy : Int) : ∀ r, g_law35_usable n a0t a1c a2from a3to a4energy = some r → PCall Try.prog 17 [ag (GTf.cs a0t), ag (GCl.cs a1c), I a2from, I a3to, I a4energy] (.ret (B r)) := by
 refine pcall_sim (X := fun r : Bool => AEnd.ret (B r)) Try.func17 rfl Try.ntmps17 rfl ?_
 unfold g_law35_usable
 refine sR tfm ⟨[2, 3, 4, 5, 6], [5, 6], [], []⟩ ⟨[(2, I a2from), (3, I a3to), (4, I a4energy), (5, .ptr 5 0), (6, .ptr 6 0)], [(5, .box 24 (bxc (GTf.cs a0t))), (6, .box 28 (bxc (GCl.cs a1c)))]⟩ krf ?_
 refine sS ?_
 refine sG ?_
 refine xR 3 krf ?_
 refine xC [.id, .id, .agg [.id, .id, .id, .sl 2]] krf (g_ref35_Few_ok n a0t a1c (⟨0, 0, 0, []⟩ : GSs)) krf krf (fun _ => by kernel_rfl) (fun r1 => ?_)
 refine xR 1 krf ?_
 refine xS r1 (fun h2 => ?_) (fun h2 => ?_)
 ·refine xO (want_tt krf h2) krf ?_
  refine xC [] krf (g_ref32_Valid_ok n a0t) krf krf (fun _ => by kernel_rfl) (fun r3 => ?_)
  refine xR 2 krf ?_
  refine xS r3 (fun h4 => ?_) (fun h4 => ?_)
  ·refine xO (want_tt krf h4) krf ?_
   refine xC [] krf (g_ref26_Valid_ok n a1c) krf krf (fun _ => by kernel_rfl) (fun r5 => ?_)
   refine xR 2 krf ?_
   refine xS r5 (fun h6 => ?_) (fun h6 => ?_)
   ·refine xO (want_tt krf h6) krf ?_
    refine xR 2 krf ?_
    refine xC [] krf (g_ref35_Limits_ok n a2from a3to a4energy) krf krf (fun _ => by kernel_rfl) (fun r7 => ?_)
    refine xR 2 krf ?_
    refine xE ?_
    refine sN ⟨[10], [], [], []⟩ ⟨[(10, B r7)], []⟩ krf ?_
    refine sT ?_
    exact qR (.id) krf krf krf
   ·refine xN (want_tf krf h6) krf ?_
    refine xR 5 krf ?_
    refine xE ?_
    refine sN ⟨[10], [], [], []⟩ ⟨[(10, B false)], []⟩ krf ?_
    refine sT ?_
    exact qR (.id) krf krf krf
  ·refine xN (want_tf krf h4) krf ?_
   refine xR 9 krf ?_
   refine xE ?_
   refine sN ⟨[10], [], [], []⟩ ⟨[(10, B false)], []⟩ krf ?_
   refine sT ?_
   exact qR (.id) krf krf krf
 ·refine xN (want_tf krf h2) krf ?_
  refine xR 13 krf ?_
  refine xE ?_
  refine sN ⟨[10], [], [], []⟩ ⟨[(10, B false)], []⟩ krf ?_
  refine sT ?_
  exact qR (.id) krf krf krf
def g_bill_caught (n : Nat) (a1err : Int) : Option Int :=
 some a1err
theorem g_bill_caught_ok (n : Nat) (a1err : Int) : ∀ r, g_bill_caught n a1err = some r → ACall Try.prog 37 [.p (.val (.nilIface)), .ptr 1001 0] (Go.Abs.look [(1001, .box 34 [I a1err])]) (heapR (fun r : Int => ((.ret (.tup []), [(1001, .box 34 [I r])]) : AEnd × List (Nat × Blk))) r) := by
 refine acall_sim (X := fun r : Int => ((.ret (.tup []), [(1001, .box 34 [I r])]) : AEnd × List (Nat × Blk))) [(1001, .box 34 [I a1err])] Try.func37 rfl Try.ntmps37 rfl ?_
 unfold g_bill_caught
 refine sS ?_
 refine sR tfm ⟨[0, 1, 6, 7], [1001], [], []⟩ ⟨[(0, .p (.val (.nilIface))), (1, .ptr 1001 0), (6, .p (.val (.nilIface))), (7, B true)], [(1001, .box 34 [I a1err])]⟩ krf ?_
 refine sim_condT krf ?_
 refine sT ?_
 refine sq_r ?_
 exact hq_ret (.id) [1001] [] krf krf krf krf
def g_bb_applies (n : Nat) (a0b : GBB) (a1minute : Int) : Option Bool :=
 (g_t_Applies n a0b.article a0b.calendar a1minute).bind fun r1 =>
 some r1
theorem g_bb_applies_ok (n : Nat) (a0b : GBB) (a1minute : Int) : ∀ r, g_bb_applies n a0b a1minute = some r → PCall Try.prog 99 [.eptr (GBB.cs a0b), I a1minute] (.ret (B r)) := by
 refine pcall_sim (X := fun r : Bool => AEnd.ret (B r)) Try.func99 rfl Try.ntmps99 rfl ?_
 unfold g_bb_applies
 refine sR tfm ⟨[0, 1], [], [], []⟩ ⟨[(0, .eptr (GBB.cs a0b)), (1, I a1minute)], []⟩ krf ?_
 refine sS ?_
 refine sim_drw tfm rfl ?_
 refine xR 9 krf ?_
 refine xC [] krf (g_t_Applies_ok n a0b.article a0b.calendar a1minute) krf krf (fun _ => by kernel_rfl) (fun r1 => ?_)
 refine xR 1 krf ?_
 refine xs_endD krf ?_
 refine sN ⟨[4], [], [], []⟩ ⟨[(4, B r1)], []⟩ krf ?_
 refine sT ?_
 exact qR (.id) krf krf krf
def g_bill_must (n : Nat) (a0amount : Int) (a1err : Int) : Option (Except Int Int) :=
 cond (!eqI a1err 0)
  (some (.error 3))
  (some (.ok a0amount))
theorem g_bill_must_ok (n : Nat) (a0amount : Int) (a1err : Int) : ∀ r, g_bill_must n a0amount a1err = some r → PCall Try.prog 69 [I a0amount, I a1err] (excE (fun r : Int => (I r : AV)) (fun e : Int => (.ifc 99 (.agg [I e]) : AV)) r) := by
 refine pcall_sim (X := excE (fun r : Int => (I r : AV)) (fun e : Int => (.ifc 99 (.agg [I e]) : AV))) Try.func69 rfl Try.ntmps69 rfl ?_
 unfold g_bill_must
 refine sR tfm ⟨[0, 1], [], [], []⟩ ⟨[(0, I a0amount), (1, I a1err)], []⟩ krf ?_
 refine sS ?_
 refine sR tfm ⟨[0, 6], [], [], []⟩ ⟨[(0, I a0amount), (6, B (!eqI a1err 0))], []⟩ krf ?_
 refine sC (!eqI a1err 0) krf ?_ ?_
 ·refine sG ?_
  refine xR 2 krf ?_
  refine xs_panic 99 (.agg [I 3]) krf rfl krf ?_
  refine sq_p ?_
  exact rq_p krf krf
 ·refine sK ?_
  refine sN ⟨[0, 6], [], [], []⟩ ⟨[(0, I a0amount), (6, B (!eqI a1err 0))], []⟩ krf ?_
  refine sR tfm ⟨[4], [], [], []⟩ ⟨[(4, I a0amount)], []⟩ krf ?_
  refine sT ?_
  exact qR (.id) krf krf krf
def g_bb_stretch_l3 (n : Nat) (a0b : GBB) (a2to : Int) (recl3 : (Int × Int) → Option Int) (l3_1 : Int) (l3_2 : Int) : Option Int :=
 cond (ltI l3_1 a2to)
  (((g_bb_applies n a0b l3_1).bind fun r5 =>
  cond r5
   (some (wi (l3_2 + 1)))
   (some l3_2)).bind fun j4 =>
  recl3 (wi (l3_1 + 1), j4))
  (some l3_2)
def g_bb_stretch (n : Nat) (a0b : GBB) (a1from : Int) (a2to : Int) : Option (Except Int Int) :=
 (loopN (fun recl3 (l3_1, l3_2) => g_bb_stretch_l3 n a0b a2to recl3 l3_1 l3_2) n (a1from, 0)).bind fun j1 =>
 (g_money_Started n a0b.article.Price (maxI 0 (wi (j1 - a0b.article.Free))) a0b.article.Unit).bind fun r7 =>
 (g_bill_must n r7.1 r7.2).bind (exc (fun r8 =>
  some (.ok r8)) fun e9 => some (.error e9))
theorem g_bb_stretch_ok (n : Nat) (a0b : GBB) (a1from : Int) (a2to : Int) : ∀ r, g_bb_stretch n a0b a1from a2to = some r → PCall Try.prog 100 [.eptr (GBB.cs a0b), I a1from, I a2to] (excE (fun r : Int => (I r : AV)) (fun e : Int => (.ifc 99 (.agg [I e]) : AV)) r) := by
 refine pcall_sim (X := excE (fun r : Int => (I r : AV)) (fun e : Int => (.ifc 99 (.agg [I e]) : AV))) Try.func100 rfl Try.ntmps100 rfl ?_
 unfold g_bb_stretch
 refine sR tfm ⟨[0, 1, 2, 6], [], [], []⟩ ⟨[(0, .eptr (GBB.cs a0b)), (1, I a1from), (2, I a2to), (6, I 0)], []⟩ krf ?_
 refine sR tfm ⟨[0, 1, 2, 6, 7], [7], [], []⟩ ⟨[(0, .eptr (GBB.cs a0b)), (1, I a1from), (2, I a2to), (6, I 0), (7, .ptr 7 0)], [(7, .box 3 [I 0])]⟩ krf ?_
 refine sim_bind (fun j1 => ⟨[(0, .eptr (GBB.cs a0b)), (6, I 0), (7, .ptr 7 0)], [(7, .box 3 [I j1])]⟩ : Int → St) ?_ ?_
 ·refine sS ?_
  refine sG ?_
  refine xR 3 krf ?_
  refine xs_inline [] [.eptr (GBB.cs a0b), I a1from, I a2to] [(3, 403), (4, 404), (5, 405)] [] [] krf Try.func111 rfl Try.ntmps111 rfl krf krf krf ?_
  refine sR tfm ⟨[3, 4, 5, 6], [3, 4, 5], [], []⟩ ⟨[(3, .ptr 3 0), (4, .ptr 4 0), (5, .ptr 5 0), (6, .p (.val (.nilFunc)))], [(3, .box 101 [.eptr (GBB.cs a0b)]), (4, .box 3 [I a1from]), (5, .box 3 [I a2to])]⟩ krf ?_
  refine sR tfm ⟨[6], [3, 4, 5], [], []⟩ ⟨[(6, .fn (.func 114) [] [.ptr 4 0, .ptr 5 0, .ptr 3 0])], [(3, .box 101 [.eptr (GBB.cs a0b)]), (4, .box 3 [I a1from]), (5, .box 3 [I a2to])]⟩ krf ?_
  refine sT ?_
  refine iq_ret (.id) [3, 4, 5] [] (.fn (.func 114) [] [.ptr 4 0, .ptr 5 0, .ptr 3 0]) krf krf ?_
  refine kr0 ?_
  refine xE ?_
  refine sN ⟨[0, 6, 7, 11], [7, 403, 404, 405], [], []⟩ ⟨[(0, .eptr (GBB.cs a0b)), (6, I 0), (7, .ptr 7 0), (11, .fn (.func 114) [] [.ptr 404 0, .ptr 405 0, .ptr 403 0])], [(7, .box 3 [I 0]), (403, .box 101 [.eptr (GBB.cs a0b)]), (404, .box 3 [I a1from]), (405, .box 3 [I a2to])]⟩ krf ?_
  refine sB ?_
  refine sP ⟨[0, 6, 7, 11], [7, 403, 404, 405], [], []⟩ ⟨[(0, .eptr (GBB.cs a0b)), (6, I 0), (7, .ptr 7 0), (11, .fn (.func 114) [] [.ptr 404 0, .ptr 405 0, .ptr 403 0])], [(7, .box 3 [I 0]), (403, .box 101 [.eptr (GBB.cs a0b)]), (404, .box 3 [I a1from]), (405, .box 3 [I a2to])]⟩ krf ?_
  refine sim_range 114 3000 [] [.ptr 404 0, .ptr 405 0, .ptr 403 0] krf krf (fun nf2 _ hnf2 => ?_)
  refine sc_inline (hc := [(1007, .box 3 [I 0]), (1403, .box 101 [.eptr (GBB.cs a0b)]), (1404, .box 3 [I a1from]), (1405, .box 3 [I a2to]), (4000, .lp [(0, .eptr (GBB.cs a0b)), (6, I 0), (7, .ptr 1007 0), (11, .fn (.func 114) [] [.ptr 1404 0, .ptr 1405 0, .ptr 1403 0])] nf2 .ready none)]) (args' := [.yv 4000, .ptr 1404 0, .ptr 1405 0, .ptr 1403 0]) [(1007, 7), (1403, 403), (1404, 404), (1405, 405), (4000, 3000)] [] [] Try.func114 rfl Try.ntmps114 rfl krf krf krf ?_
  refine sR tfm ⟨[0, 2, 3, 5, 6], [1007, 1403, 1404, 1405, 4000], [], []⟩ ⟨[(0, .yv 4000), (2, .ptr 1405 0), (3, .ptr 1403 0), (5, I a1from), (6, I a1from)], [(1007, .box 3 [I 0]), (1403, .box 101 [.eptr (GBB.cs a0b)]), (1404, .box 3 [I a1from]), (1405, .box 3 [I a2to]), (4000, .lp [(0, .eptr (GBB.cs a0b)), (6, I 0), (7, .ptr 1007 0), (11, .fn (.func 114) [] [.ptr 1404 0, .ptr 1405 0, .ptr 1403 0])] nf2 .ready none)]⟩ krf ?_
  refine sB ?_
  refine sim_loop (fun (l3_1, l3_2) => ⟨[(0, .yv 4000), (2, .ptr 1405 0), (3, .ptr 1403 0), (5, I l3_1), (6, I a1from)], [(1007, .box 3 [I l3_2]), (1403, .box 101 [.eptr (GBB.cs a0b)]), (1404, .box 3 [I a1from]), (1405, .box 3 [I a2to]), (4000, .lp [(0, .eptr (GBB.cs a0b)), (6, I 0), (7, .ptr 1007 0), (11, .fn (.func 114) [] [.ptr 1404 0, .ptr 1405 0, .ptr 1403 0])] nf2 .ready none)]⟩ : (Int × Int) → St) (weak_shr (K := ⟨[0, 2, 3, 5, 6], [1007, 1403, 1404, 1405, 4000], [], []⟩) krf) ?_
  rintro recl3 ⟨l3_1, l3_2⟩
  show SimE (g_bb_stretch_l3 n a0b a2to recl3 l3_1 l3_2) _ _ _ _ _ _
  unfold g_bb_stretch_l3
  refine sS ?_
  refine sR tfm ⟨[0, 2, 3, 5, 6, 7, 9], [1007, 1403, 1404, 1405, 4000], [], []⟩ ⟨[(0, .yv 4000), (2, .ptr 1405 0), (3, .ptr 1403 0), (5, I l3_1), (6, I a1from), (7, I l3_1), (9, B (ltI l3_1 a2to))], [(1007, .box 3 [I l3_2]), (1403, .box 101 [.eptr (GBB.cs a0b)]), (1404, .box 3 [I a1from]), (1405, .box 3 [I a2to]), (4000, .lp [(0, .eptr (GBB.cs a0b)), (6, I 0), (7, .ptr 1007 0), (11, .fn (.func 114) [] [.ptr 1404 0, .ptr 1405 0, .ptr 1403 0])] nf2 .ready none)]⟩ krf ?_
  refine sC (ltI l3_1 a2to) krf ?_ ?_
  ·refine sK ?_
   refine sN ⟨[0, 2, 3, 5, 6, 7], [1007, 1403, 1404, 1405, 4000], [], []⟩ ⟨[(0, .yv 4000), (2, .ptr 1405 0), (3, .ptr 1403 0), (5, I l3_1), (6, I a1from), (7, I l3_1)], [(1007, .box 3 [I l3_2]), (1403, .box 101 [.eptr (GBB.cs a0b)]), (1404, .box 3 [I a1from]), (1405, .box 3 [I a2to]), (4000, .lp [(0, .eptr (GBB.cs a0b)), (6, I 0), (7, .ptr 1007 0), (11, .fn (.func 114) [] [.ptr 1404 0, .ptr 1405 0, .ptr 1403 0])] nf2 .ready none)]⟩ krf ?_
   refine sS ?_
   refine sB ?_
   refine sim_bind (fun j4 => ⟨[(0, .yv 4000), (2, .ptr 1405 0), (3, .ptr 1403 0), (5, I l3_1), (6, I a1from), (7, I l3_1), (20, B false)], [(1007, .box 3 [I j4]), (1403, .box 101 [.eptr (GBB.cs a0b)]), (1404, .box 3 [I a1from]), (1405, .box 3 [I a2to]), (4000, .lp [(0, .eptr (GBB.cs a0b)), (6, I 0), (7, .ptr 1007 0), (11, .fn (.func 114) [] [.ptr 1404 0, .ptr 1405 0, .ptr 1403 0])] nf2 .ready none)]⟩ : Int → St) ?_ ?_
   ·refine sG ?_
    refine xR 2 krf ?_
    refine xC [] krf (g_bb_applies_ok n a0b l3_1) krf krf (fun _ => by kernel_rfl) (fun r5 => ?_)
    refine xR 1 krf ?_
    refine xS r5 (fun h6 => ?_) (fun h6 => ?_)
    ·refine xO (want_tt krf h6) krf ?_
     refine xR 1 krf ?_
     refine xs_yield [] [(1007, .box 3 [I l3_2]), (1403, .box 101 [.eptr (GBB.cs a0b)]), (1404, .box 3 [I a1from]), (1405, .box 3 [I a2to]), (4000, .lp [(0, .eptr (GBB.cs a0b)), (6, I 0), (7, .ptr 1007 0), (11, .fn (.func 114) [] [.ptr 1404 0, .ptr 1405 0, .ptr 1403 0])] nf2 .ready none)] 4000 [(0, .eptr (GBB.cs a0b)), (6, I 0), (7, .ptr 1007 0), (11, .fn (.func 114) [] [.ptr 1404 0, .ptr 1405 0, .ptr 1403 0])] [] [] [I l3_1] krf hnf2 krf krf krf krf krf (fun _ => ?_)
     refine sK ?_
     refine as_n ⟨[6, 7], [1007, 1403, 1404, 1405, 4000], [], []⟩ ⟨[(6, I 0), (7, .ptr 1007 0)], [(1007, .box 3 [I l3_2]), (1403, .box 101 [.eptr (GBB.cs a0b)]), (1404, .box 3 [I a1from]), (1405, .box 3 [I a2to]), (4000, .lp [(0, .eptr (GBB.cs a0b)), (6, I 0), (7, .ptr 1007 0), (11, .fn (.func 114) [] [.ptr 1404 0, .ptr 1405 0, .ptr 1403 0])] nf2 .busy none)]⟩ none krf krf ?_
     refine sB ?_
     refine sL tfm krf ?_
     refine bq_n ?_
     refine rn_n [1007, 1403, 1404, 1405, 4000] [] .busy none krf krf ?_
     refine kr0 ?_
     refine xR 2 krf ?_
     refine xE ?_
     exact nq_n (wi (l3_2 + 1)) ⟨[0, 2, 3, 5, 6, 7, 20], [1007, 1403, 1404, 1405, 4000], [], []⟩ krf
    ·refine xN (want_tf krf h6) krf ?_
     refine xR 4 krf ?_
     refine xE ?_
     exact nq_n l3_2 ⟨[0, 2, 3, 5, 6, 7, 20], [1007, 1403, 1404, 1405, 4000], [], []⟩ krf
   ·rintro j4
    refine sim_condF krf ?_
    refine sK ?_
    refine bq_n ?_
    refine sN ⟨[0, 2, 3, 5, 6, 7], [1007, 1403, 1404, 1405, 4000], [], []⟩ ⟨[(0, .yv 4000), (2, .ptr 1405 0), (3, .ptr 1403 0), (5, I l3_1), (6, I a1from), (7, I l3_1)], [(1007, .box 3 [I j4]), (1403, .box 101 [.eptr (GBB.cs a0b)]), (1404, .box 3 [I a1from]), (1405, .box 3 [I a2to]), (4000, .lp [(0, .eptr (GBB.cs a0b)), (6, I 0), (7, .ptr 1007 0), (11, .fn (.func 114) [] [.ptr 1404 0, .ptr 1405 0, .ptr 1403 0])] nf2 .ready none)]⟩ krf ?_
    refine sL tfm krf ?_
    exact kq_n (wi (l3_1 + 1), j4) ⟨[0, 2, 3, 5, 6], [1007, 1403, 1404, 1405, 4000], [], []⟩ krf
  ·refine sim_exit ?_
   refine sq_x ?_
   refine kq_x ?_
   refine bq_hit ?_
   refine iq_n .id [1007, 1403, 1404, 1405, 4000] [] (.tup []) krf krf ?_
   refine kg_n .ready ⟨[0, 6, 7], [7], [], []⟩ ⟨[(0, .eptr (GBB.cs a0b)), (6, I 0), (7, .ptr 7 0)], [(7, .box 3 [I l3_2])]⟩ krf (by intro h; cases h) krf ?_
   refine bq_n ?_
   exact nq_n l3_2 ⟨[0, 6, 7], [7], [], []⟩ krf
 ·rintro j1
  refine sS ?_
  refine sim_drw tfm rfl ?_
  refine xR 18 krf ?_
  refine xC [] krf (g_money_Started_ok n a0b.article.Price (maxI 0 (wi (j1 - a0b.article.Free))) a0b.article.Unit) krf krf (fun _ => by kernel_rfl) (fun r7 => ?_)
  refine xR 2 krf ?_
  refine xs_seqL rfl krf krf ?_
  refine xs_exc [] krf (g_bill_must_ok n r7.1 r7.2) krf krf (fun _ => by kernel_rfl) (fun _ => by kernel_rfl) (fun r8 => ?_) (fun e9 => ?_)
  ·refine xR 1 krf ?_
   refine xE ?_
   refine sN ⟨[6], [], [], []⟩ ⟨[(6, I r8)], []⟩ krf ?_
   refine sT ?_
   exact qR (.id) krf krf krf
  ·refine sq_p ?_
   exact rq_p krf krf
def g_bill_sum_j1 (n : Nat) (j1_1 : Int) (j1_2 : Int) (j1_3 : OL GLine) (j1_4 : Int) : Option (Except Int GBill) :=
 (cond (leI 0 j1_2)
  (some (minI j1_4 j1_2))
  (some j1_4)).bind fun j2 =>
 (g_money_Tax n j2 j1_1).bind fun r3 =>
 (g_bill_must n r3.1 r3.2).bind (exc (fun r4 =>
  cond (ltI 1000000000 (wi (j2 + r4)))
   (some (.error 3))
   (some (.ok (⟨j1_3.toL, j2, r4, wi (j2 + r4)⟩ : GBill)))) fun e5 => some (.error e5))
def g_bill_sum_j10 (l6_1 : Int) (l6_2 : Int) (l6_3 : Int) (l6_4 : OL GLine) (l6_5 : Int) (recl6 : (Int × Int × Int × (OL GLine) × Int) → Option (Except Int GBill)) (j10 : Int) : Option (Except Int GBill) :=
 cond (roomB (List.length (l6_4.toL ++ [(⟨l6_3, j10⟩ : GLine)])) 16) (
  recl6 (l6_1, l6_2, wi (l6_3 + 1), OL.own (l6_4.toL ++ [(⟨l6_3, j10⟩ : GLine)]), wi (l6_5 + j10))) none
def g_bill_sum_l13 (n : Nat) (a1c : GCl) (a2s : GSs) (x7 : GAr) (recl13 : (Int × Int) → Option Int) (l13_1 : Int) (l13_2 : Int) : Option Int :=
 cond (ltI l13_2 (lenI (List.map GSl.cs a2s.Slices)))
  ((getI a2s.Slices l13_2).bind fun x14 =>
  (g_bb_applies n (⟨x7, a1c, a2s⟩ : GBB) x14.Minute).bind fun r15 =>
  cond r15
   (recl13 (wi (l13_1 + x14.Energy), wi (l13_2 + 1)))
   (recl13 (l13_1, wi (l13_2 + 1))))
  (some l13_1)
def g_bill_sum_l6 (n : Nat) (a0t : GTf) (a1c : GCl) (a2s : GSs) (recl6 : (Int × Int × Int × (OL GLine) × Int) → Option (Except Int GBill)) (l6_1 : Int) (l6_2 : Int) (l6_3 : Int) (l6_4 : OL GLine) (l6_5 : Int) : Option (Except Int GBill) :=
 cond (ltI l6_3 (lenI (List.map GAr.cs a0t.Articles)))
  ((getI a0t.Articles l6_3).bind fun x7 =>
  cond (eqI x7.Kind 5)
   ((cond (ltI l6_2 0)
    (some true)
    (some (ltI x7.Price l6_2))).bind fun j8 =>
   cond j8
    (recl6 (l6_1, x7.Price, wi (l6_3 + 1), l6_4, l6_5))
    (recl6 (l6_1, l6_2, wi (l6_3 + 1), l6_4, l6_5)))
   (cond (eqI x7.Kind 6)
    (recl6 (x7.Price, l6_2, wi (l6_3 + 1), l6_4, l6_5))
    (cond (eqI x7.Kind 1)
     ((g_bb_applies n (⟨x7, a1c, a2s⟩ : GBB) a2s.From).bind fun r11 =>
     cond r11
      (g_bill_sum_j10 l6_1 l6_2 l6_3 l6_4 l6_5 recl6 x7.Price)
      (g_bill_sum_j10 l6_1 l6_2 l6_3 l6_4 l6_5 recl6 0))
     (cond (eqI x7.Kind 2)
      ((loopN (fun recl13 (l13_1, l13_2) => g_bill_sum_l13 n a1c a2s x7 recl13 l13_1 l13_2) n (0, 0)).bind fun j12 =>
      (g_money_Times n x7.Price j12 1000).bind fun r16 =>
      (g_bill_must n r16.1 r16.2).bind (exc (fun r17 =>
       g_bill_sum_j10 l6_1 l6_2 l6_3 l6_4 l6_5 recl6 r17) fun e18 => some (.error e18)))
      (cond (eqI x7.Kind 3)
       ((g_bb_stretch n (⟨x7, a1c, a2s⟩ : GBB) a2s.From a2s.To).bind (exc (fun r19 =>
        g_bill_sum_j10 l6_1 l6_2 l6_3 l6_4 l6_5 recl6 r19) fun e20 => some (.error e20)))
       (cond (eqI x7.Kind 4)
        ((g_bb_stretch n (⟨x7, a1c, a2s⟩ : GBB) a2s.End a2s.To).bind (exc (fun r21 =>
         g_bill_sum_j10 l6_1 l6_2 l6_3 l6_4 l6_5 recl6 r21) fun e22 => some (.error e22)))
        (g_bill_sum_j10 l6_1 l6_2 l6_3 l6_4 l6_5 recl6 0)))))))
  (g_bill_sum_j1 n l6_1 l6_2 l6_4 l6_5)
def g_bill_sum (n : Nat) (a0t : GTf) (a1c : GCl) (a2s : GSs) : Option (Except Int GBill) :=
 loopN (fun recl6 (l6_1, l6_2, l6_3, l6_4, l6_5) => g_bill_sum_l6 n a0t a1c a2s recl6 l6_1 l6_2 l6_3 l6_4 l6_5) n (0, (-1), 0, OL.nil, 0)
theorem g_bill_sum_ok (n : Nat) (a0t : GTf) (a1c : GCl) (a2s : GSs) : ∀ r, g_bill_sum n a0t a1c a2s = some r → PCall Try.prog 38 [ag (GTf.cs a0t), ag (GCl.cs a1c), ag (GSs.cs a2s)] (excE (fun r : GBill => (ag (GBill.cs r) : AV)) (fun e : Int => (.ifc 99 (.agg [I e]) : AV)) r) := by
 refine pcall_sim (X := excE (fun r : GBill => (ag (GBill.cs r) : AV)) (fun e : Int => (.ifc 99 (.agg [I e]) : AV))) Try.func38 rfl Try.ntmps38 rfl ?_
 unfold g_bill_sum
 refine sR tfm ⟨[3, 4, 5, 6], [3, 4, 5, 6], [], []⟩ ⟨[(3, .ptr 3 0), (4, .ptr 4 0), (5, .ptr 5 0), (6, .ptr 6 0)], [(3, .box 24 (bxc (GTf.cs a0t))), (4, .box 28 (bxc (GCl.cs a1c))), (5, .box 31 (bxc (GSs.cs a2s))), (6, .box 54 [.p (.val (.slice none 0 0)), I 0, I 0, I 0])]⟩ krf ?_
 refine sR tfm ⟨[3, 4, 5, 6, 7], [3, 4, 5, 6, 7], [], []⟩ ⟨[(3, .ptr 3 0), (4, .ptr 4 0), (5, .ptr 5 0), (6, .ptr 6 0), (7, .ptr 7 0)], [(3, .box 24 (bxc (GTf.cs a0t))), (4, .box 28 (bxc (GCl.cs a1c))), (5, .box 31 (bxc (GSs.cs a2s))), (6, .box 54 [.p (.val (.slice none 0 0)), I 0, I 0, I 0]), (7, .box 54 [.p (.val (.slice none 0 0)), I 0, I 0, I 0])]⟩ krf ?_
 refine sR tfm ⟨[3, 4, 5, 6, 7, 8, 9], [3, 4, 5, 6, 7], [], []⟩ ⟨[(3, .ptr 3 0), (4, .ptr 4 0), (5, .ptr 5 0), (6, .ptr 6 0), (7, .ptr 7 0), (8, I 0), (9, I (-1))], [(3, .box 24 (bxc (GTf.cs a0t))), (4, .box 28 (bxc (GCl.cs a1c))), (5, .box 31 (bxc (GSs.cs a2s))), (6, .box 54 [.p (.val (.slice none 0 0)), I 0, I 0, I 0]), (7, .box 54 [.p (.val (.slice none 0 0)), I 0, I 0, I 0])]⟩ krf ?_
 refine sim_cps (fun (j1_1, j1_2, j1_3, j1_4) => ⟨[(6, .ptr 6 0), (7, .ptr 7 0), (8, I j1_1), (9, I j1_2)], [(6, .box 54 [.p (.val (.slice none 0 0)), I 0, I 0, I 0]), (7, .box 54 [osl 2 GLine.cs j1_3 38, I j1_4, I 0, I 0])] ++ oarr 107 2 GLine.cs j1_3 38⟩ : (Int × Int × (OL GLine) × Int) → St) (fun (j1_1, j1_2, j1_3, j1_4) => g_bill_sum_j1 n j1_1 j1_2 j1_3 j1_4) ?_ ?_
 ·rintro ⟨j1_1, j1_2, j1_3, j1_4⟩
  show SimE (g_bill_sum_j1 n j1_1 j1_2 j1_3 j1_4) _ _ _ _ _ _
  unfold g_bill_sum_j1
  rcases j1_3 with _ | ow_j1_3
  ·refine sim_bind (fun j2 => ⟨[(6, .ptr 6 0), (7, .ptr 7 0), (8, I j1_1)], [(6, .box 54 [.p (.val (.slice none 0 0)), I 0, I 0, I 0]), (7, .box 54 [.p (.val (.slice none 0 0)), I j2, I 0, I 0])]⟩ : Int → St) ?_ ?_
   ·refine sR tfm ⟨[6, 7, 8, 9, 63], [6, 7], [], []⟩ ⟨[(6, .ptr 6 0), (7, .ptr 7 0), (8, I j1_1), (9, I j1_2), (63, B (leI 0 j1_2))], [(6, .box 54 [.p (.val (.slice none 0 0)), I 0, I 0, I 0]), (7, .box 54 [.p (.val (.slice none 0 0)), I j1_4, I 0, I 0])]⟩ krf ?_
    refine sC (leI 0 j1_2) krf ?_ ?_
    ·refine sL tfm krf ?_
     exact nq_n (minI j1_4 j1_2) ⟨[6, 7, 8], [6, 7], [], []⟩ krf
    ·refine sK ?_
     exact nq_n j1_4 ⟨[6, 7, 8], [6, 7], [], []⟩ krf
   ·rintro j2
    refine sS ?_
    refine sG ?_
    refine xR 3 krf ?_
    refine xC [] krf (g_money_Tax_ok n j2 j1_1) krf krf (fun _ => by kernel_rfl) (fun r3 => ?_)
    refine xR 2 krf ?_
    refine xs_exc [] krf (g_bill_must_ok n r3.1 r3.2) krf krf (fun _ => by kernel_rfl) (fun _ => by kernel_rfl) (fun r4 => ?_) (fun e5 => ?_)
    ·refine xR 2 krf ?_
     refine xE ?_
     refine sN ⟨[6, 7], [6, 7], [], []⟩ ⟨[(6, .ptr 6 0), (7, .ptr 7 0)], [(6, .box 54 [.p (.val (.slice none 0 0)), I 0, I 0, I 0]), (7, .box 54 [.p (.val (.slice none 0 0)), I j2, I r4, I 0])]⟩ krf ?_
     refine sR tfm ⟨[6, 7], [6, 7], [], []⟩ ⟨[(6, .ptr 6 0), (7, .ptr 7 0)], [(6, .box 54 [.p (.val (.slice none 0 0)), I 0, I 0, I 0]), (7, .box 54 [.p (.val (.slice none 0 0)), I j2, I r4, I (wi (j2 + r4))])]⟩ krf ?_
     refine sS ?_
     refine sR tfm ⟨[6, 7, 85], [6, 7], [], []⟩ ⟨[(6, .ptr 6 0), (7, .ptr 7 0), (85, B (ltI 1000000000 (wi (j2 + r4))))], [(6, .box 54 [.p (.val (.slice none 0 0)), I 0, I 0, I 0]), (7, .box 54 [.p (.val (.slice none 0 0)), I j2, I r4, I (wi (j2 + r4))])]⟩ krf ?_
     refine sC (ltI 1000000000 (wi (j2 + r4))) krf ?_ ?_
     ·refine sG ?_
      refine xR 2 krf ?_
      refine xs_panic 99 (.agg [I 3]) krf rfl krf ?_
      refine sq_p ?_
      exact rq_p krf krf
     ·refine sK ?_
      refine sN ⟨[6, 7], [6, 7], [], []⟩ ⟨[(6, .ptr 6 0), (7, .ptr 7 0)], [(6, .box 54 [.p (.val (.slice none 0 0)), I 0, I 0, I 0]), (7, .box 54 [.p (.val (.slice none 0 0)), I j2, I r4, I (wi (j2 + r4))])]⟩ krf ?_
      refine sR tfm ⟨[6], [6], [], []⟩ ⟨[(6, .ptr 6 0)], [(6, .box 54 [.p (.val (.slice none 0 0)), I j2, I r4, I (wi (j2 + r4))])]⟩ krf ?_
      refine sT ?_
      exact qR (.agg [.sl 2, .id, .id, .id]) krf krf krf
    ·refine sq_p ?_
     exact rq_p krf krf
  ·refine sim_bind (fun j2 => ⟨[(6, .ptr 6 0), (7, .ptr 7 0), (8, I j1_1)], [(6, .box 54 [.p (.val (.slice none 0 0)), I 0, I 0, I 0]), (7, .box 54 [.tsl 2 (List.map GLine.cs (OL.own ow_j1_3).toL) 38, I j2, I 0, I 0]), (38, .arr 107 2 (List.map GLine.cs (OL.own ow_j1_3).toL).length)]⟩ : Int → St) ?_ ?_
   ·refine sR tfm ⟨[6, 7, 8, 9, 63], [6, 7, 38], [], []⟩ ⟨[(6, .ptr 6 0), (7, .ptr 7 0), (8, I j1_1), (9, I j1_2), (63, B (leI 0 j1_2))], [(6, .box 54 [.p (.val (.slice none 0 0)), I 0, I 0, I 0]), (7, .box 54 [.tsl 2 (List.map GLine.cs (OL.own ow_j1_3).toL) 38, I j1_4, I 0, I 0]), (38, .arr 107 2 (List.map GLine.cs (OL.own ow_j1_3).toL).length)]⟩ krf ?_
    refine sC (leI 0 j1_2) krf ?_ ?_
    ·refine sL tfm krf ?_
     exact nq_n (minI j1_4 j1_2) ⟨[6, 7, 8], [6, 7, 38], [], []⟩ krf
    ·refine sK ?_
     exact nq_n j1_4 ⟨[6, 7, 8], [6, 7, 38], [], []⟩ krf
   ·rintro j2
    refine sS ?_
    refine sG ?_
    refine xR 3 krf ?_
    refine xC [] krf (g_money_Tax_ok n j2 j1_1) krf krf (fun _ => by kernel_rfl) (fun r3 => ?_)
    refine xR 2 krf ?_
    refine xs_exc [] krf (g_bill_must_ok n r3.1 r3.2) krf krf (fun _ => by kernel_rfl) (fun _ => by kernel_rfl) (fun r4 => ?_) (fun e5 => ?_)
    ·refine xR 2 krf ?_
     refine xE ?_
     refine sN ⟨[6, 7], [6, 7, 38], [], []⟩ ⟨[(6, .ptr 6 0), (7, .ptr 7 0)], [(6, .box 54 [.p (.val (.slice none 0 0)), I 0, I 0, I 0]), (7, .box 54 [.tsl 2 (List.map GLine.cs (OL.own ow_j1_3).toL) 38, I j2, I r4, I 0]), (38, .arr 107 2 (List.map GLine.cs (OL.own ow_j1_3).toL).length)]⟩ krf ?_
     refine sR tfm ⟨[6, 7], [6, 7, 38], [], []⟩ ⟨[(6, .ptr 6 0), (7, .ptr 7 0)], [(6, .box 54 [.p (.val (.slice none 0 0)), I 0, I 0, I 0]), (7, .box 54 [.tsl 2 (List.map GLine.cs (OL.own ow_j1_3).toL) 38, I j2, I r4, I (wi (j2 + r4))]), (38, .arr 107 2 (List.map GLine.cs (OL.own ow_j1_3).toL).length)]⟩ krf ?_
     refine sS ?_
     refine sR tfm ⟨[6, 7, 85], [6, 7, 38], [], []⟩ ⟨[(6, .ptr 6 0), (7, .ptr 7 0), (85, B (ltI 1000000000 (wi (j2 + r4))))], [(6, .box 54 [.p (.val (.slice none 0 0)), I 0, I 0, I 0]), (7, .box 54 [.tsl 2 (List.map GLine.cs (OL.own ow_j1_3).toL) 38, I j2, I r4, I (wi (j2 + r4))]), (38, .arr 107 2 (List.map GLine.cs (OL.own ow_j1_3).toL).length)]⟩ krf ?_
     refine sC (ltI 1000000000 (wi (j2 + r4))) krf ?_ ?_
     ·refine sG ?_
      refine xR 2 krf ?_
      refine xs_panic 99 (.agg [I 3]) krf rfl krf ?_
      refine sq_p ?_
      exact rq_p krf krf
     ·refine sK ?_
      refine sN ⟨[6, 7], [6, 7, 38], [], []⟩ ⟨[(6, .ptr 6 0), (7, .ptr 7 0)], [(6, .box 54 [.p (.val (.slice none 0 0)), I 0, I 0, I 0]), (7, .box 54 [.tsl 2 (List.map GLine.cs (OL.own ow_j1_3).toL) 38, I j2, I r4, I (wi (j2 + r4))]), (38, .arr 107 2 (List.map GLine.cs (OL.own ow_j1_3).toL).length)]⟩ krf ?_
      refine sR tfm ⟨[6], [6, 38], [], []⟩ ⟨[(6, .ptr 6 0)], [(6, .box 54 [.tsl 2 (List.map GLine.cs (OL.own ow_j1_3).toL) 38, I j2, I r4, I (wi (j2 + r4))]), (38, .arr 107 2 (List.map GLine.cs (OL.own ow_j1_3).toL).length)]⟩ krf ?_
      refine sT ?_
      exact qR (.agg [.sl 2, .id, .id, .id]) krf krf krf
    ·refine sq_p ?_
     exact rq_p krf krf
 ·refine sR tfm ⟨[4, 5, 6, 7, 8, 9, 15, 16, 17], [4, 5, 6, 7], [], []⟩ ⟨[(4, .ptr 4 0), (5, .ptr 5 0), (6, .ptr 6 0), (7, .ptr 7 0), (8, I 0), (9, I (-1)), (15, .p (.sl 7 (List.map GAr.cs a0t.Articles))), (16, I (lenI (List.map GAr.cs a0t.Articles))), (17, I 0)], [(4, .box 28 (bxc (GCl.cs a1c))), (5, .box 31 (bxc (GSs.cs a2s))), (6, .box 54 [.p (.val (.slice none 0 0)), I 0, I 0, I 0]), (7, .box 54 [.p (.val (.slice none 0 0)), I 0, I 0, I 0])]⟩ krf ?_
  refine sB ?_
  refine sim_loop (fun (l6_1, l6_2, l6_3, l6_4, l6_5) => ⟨[(4, .ptr 4 0), (5, .ptr 5 0), (6, .ptr 6 0), (7, .ptr 7 0), (8, I l6_1), (9, I l6_2), (15, .p (.sl 7 (List.map GAr.cs a0t.Articles))), (16, I (lenI (List.map GAr.cs a0t.Articles))), (17, I l6_3)], [(4, .box 28 (bxc (GCl.cs a1c))), (5, .box 31 (bxc (GSs.cs a2s))), (6, .box 54 [.p (.val (.slice none 0 0)), I 0, I 0, I 0]), (7, .box 54 [osl 2 GLine.cs l6_4 38, I l6_5, I 0, I 0])] ++ oarr 107 2 GLine.cs l6_4 38⟩ : (Int × Int × Int × (OL GLine) × Int) → St) (weak_shr (K := ⟨[4, 5, 6, 7, 8, 9, 15, 16, 17], [4, 5, 6, 7], [], []⟩) krf) ?_
  rintro recl6 ⟨l6_1, l6_2, l6_3, l6_4, l6_5⟩
  show SimE (g_bill_sum_l6 n a0t a1c a2s recl6 l6_1 l6_2 l6_3 l6_4 l6_5) _ _ _ _ _ _
  unfold g_bill_sum_l6
  rcases l6_4 with _ | ow_l6_4
  ·refine sR tfm ⟨[4, 5, 6, 7, 8, 9, 15, 16, 17, 18], [4, 5, 6, 7], [], []⟩ ⟨[(4, .ptr 4 0), (5, .ptr 5 0), (6, .ptr 6 0), (7, .ptr 7 0), (8, I l6_1), (9, I l6_2), (15, .p (.sl 7 (List.map GAr.cs a0t.Articles))), (16, I (lenI (List.map GAr.cs a0t.Articles))), (17, I l6_3), (18, B (ltI l6_3 (lenI (List.map GAr.cs a0t.Articles))))], [(4, .box 28 (bxc (GCl.cs a1c))), (5, .box 31 (bxc (GSs.cs a2s))), (6, .box 54 [.p (.val (.slice none 0 0)), I 0, I 0, I 0]), (7, .box 54 [.p (.val (.slice none 0 0)), I l6_5, I 0, I 0])]⟩ krf ?_
   refine sS ?_
   refine sC (ltI l6_3 (lenI (List.map GAr.cs a0t.Articles))) krf ?_ ?_
   ·refine sK ?_
    refine sN ⟨[4, 5, 6, 7, 8, 9, 15, 16, 17], [4, 5, 6, 7], [], []⟩ ⟨[(4, .ptr 4 0), (5, .ptr 5 0), (6, .ptr 6 0), (7, .ptr 7 0), (8, I l6_1), (9, I l6_2), (15, .p (.sl 7 (List.map GAr.cs a0t.Articles))), (16, I (lenI (List.map GAr.cs a0t.Articles))), (17, I l6_3)], [(4, .box 28 (bxc (GCl.cs a1c))), (5, .box 31 (bxc (GSs.cs a2s))), (6, .box 54 [.p (.val (.slice none 0 0)), I 0, I 0, I 0]), (7, .box 54 [.p (.val (.slice none 0 0)), I l6_5, I 0, I 0])]⟩ krf ?_
    refine sS ?_
    refine sB ?_
    refine sS ?_
    refine sG ?_
    refine xR 1 krf ?_
    refine xG krf krf (aop_idx (e := 44) (S := 7) (enc := GAr.cs) (l := a0t.Articles) (k := .i64) (n := l6_3) (sv := .p (.sl 7 (List.map GAr.cs a0t.Articles))) rfl krf krf krf krf krf) (fun x7 => ?_)
    refine xR 4 krf ?_
    refine xE ?_
    refine sN ⟨[4, 5, 6, 7, 8, 9, 10, 11, 15, 16, 17], [4, 5, 6, 7, 11], [], []⟩ ⟨[(4, .ptr 4 0), (5, .ptr 5 0), (6, .ptr 6 0), (7, .ptr 7 0), (8, I l6_1), (9, I l6_2), (10, I l6_3), (11, .ptr 11 0), (15, .p (.sl 7 (List.map GAr.cs a0t.Articles))), (16, I (lenI (List.map GAr.cs a0t.Articles))), (17, I l6_3)], [(4, .box 28 (bxc (GCl.cs a1c))), (5, .box 31 (bxc (GSs.cs a2s))), (6, .box 54 [.p (.val (.slice none 0 0)), I 0, I 0, I 0]), (7, .box 54 [.p (.val (.slice none 0 0)), I l6_5, I 0, I 0]), (11, .box 44 (bxc (GAr.cs x7)))]⟩ krf ?_
    refine sR tfm ⟨[4, 5, 6, 7, 8, 9, 10, 11, 15, 16, 17, 23], [4, 5, 6, 7, 11], [], []⟩ ⟨[(4, .ptr 4 0), (5, .ptr 5 0), (6, .ptr 6 0), (7, .ptr 7 0), (8, I l6_1), (9, I l6_2), (10, I l6_3), (11, .ptr 11 0), (15, .p (.sl 7 (List.map GAr.cs a0t.Articles))), (16, I (lenI (List.map GAr.cs a0t.Articles))), (17, I l6_3), (23, I x7.Kind)], [(4, .box 28 (bxc (GCl.cs a1c))), (5, .box 31 (bxc (GSs.cs a2s))), (6, .box 54 [.p (.val (.slice none 0 0)), I 0, I 0, I 0]), (7, .box 54 [.p (.val (.slice none 0 0)), I l6_5, I 0, I 0]), (11, .box 44 (bxc (GAr.cs x7)))]⟩ krf ?_
    refine sB ?_
    refine sR tfm ⟨[4, 5, 6, 7, 8, 9, 10, 11, 15, 16, 17, 23, 45], [4, 5, 6, 7, 11], [], []⟩ ⟨[(4, .ptr 4 0), (5, .ptr 5 0), (6, .ptr 6 0), (7, .ptr 7 0), (8, I l6_1), (9, I l6_2), (10, I l6_3), (11, .ptr 11 0), (15, .p (.sl 7 (List.map GAr.cs a0t.Articles))), (16, I (lenI (List.map GAr.cs a0t.Articles))), (17, I l6_3), (23, I x7.Kind), (45, B (eqI x7.Kind 5))], [(4, .box 28 (bxc (GCl.cs a1c))), (5, .box 31 (bxc (GSs.cs a2s))), (6, .box 54 [.p (.val (.slice none 0 0)), I 0, I 0, I 0]), (7, .box 54 [.p (.val (.slice none 0 0)), I l6_5, I 0, I 0]), (11, .box 44 (bxc (GAr.cs x7)))]⟩ krf ?_
    refine sC (eqI x7.Kind 5) krf ?_ ?_
    ·refine sim_bind (fun j8 => ⟨[(4, .ptr 4 0), (5, .ptr 5 0), (6, .ptr 6 0), (7, .ptr 7 0), (8, I l6_1), (9, I l6_2), (11, .ptr 11 0), (15, .p (.sl 7 (List.map GAr.cs a0t.Articles))), (16, I (lenI (List.map GAr.cs a0t.Articles))), (17, I l6_3), (54, B j8)], [(4, .box 28 (bxc (GCl.cs a1c))), (5, .box 31 (bxc (GSs.cs a2s))), (6, .box 54 [.p (.val (.slice none 0 0)), I 0, I 0, I 0]), (7, .box 54 [.p (.val (.slice none 0 0)), I l6_5, I 0, I 0]), (11, .box 44 (bxc (GAr.cs x7)))]⟩ : Bool → St) ?_ ?_
     ·refine sG ?_
      refine xR 3 krf ?_
      refine xS (ltI l6_2 0) (fun h9 => ?_) (fun h9 => ?_)
      ·refine xN (want_ft krf h9) krf ?_
       refine xR 4 krf ?_
       refine xE ?_
       exact nq_n true ⟨[4, 5, 6, 7, 8, 9, 11, 15, 16, 17, 54], [4, 5, 6, 7, 11], [], []⟩ krf
      ·refine xO (want_ff krf h9) krf ?_
       refine xR 4 krf ?_
       refine xE ?_
       exact nq_n (ltI x7.Price l6_2) ⟨[4, 5, 6, 7, 8, 9, 11, 15, 16, 17, 54], [4, 5, 6, 7, 11], [], []⟩ krf
     ·rintro j8
      refine sC j8 krf ?_ ?_
      ·refine sL tfm krf ?_
       refine bq_n ?_
       refine bq_n ?_
       refine sN ⟨[4, 5, 6, 7, 8, 9, 15, 16, 17], [4, 5, 6, 7], [], []⟩ ⟨[(4, .ptr 4 0), (5, .ptr 5 0), (6, .ptr 6 0), (7, .ptr 7 0), (8, I l6_1), (9, I x7.Price), (15, .p (.sl 7 (List.map GAr.cs a0t.Articles))), (16, I (lenI (List.map GAr.cs a0t.Articles))), (17, I l6_3)], [(4, .box 28 (bxc (GCl.cs a1c))), (5, .box 31 (bxc (GSs.cs a2s))), (6, .box 54 [.p (.val (.slice none 0 0)), I 0, I 0, I 0]), (7, .box 54 [.p (.val (.slice none 0 0)), I l6_5, I 0, I 0])]⟩ krf ?_
       refine sL tfm krf ?_
       exact kq_n (l6_1, x7.Price, wi (l6_3 + 1), OL.nil, l6_5) ⟨[4, 5, 6, 7, 8, 9, 15, 16, 17], [4, 5, 6, 7], [], []⟩ krf
      ·refine sK ?_
       refine bq_n ?_
       refine bq_n ?_
       refine sN ⟨[4, 5, 6, 7, 8, 9, 15, 16, 17], [4, 5, 6, 7], [], []⟩ ⟨[(4, .ptr 4 0), (5, .ptr 5 0), (6, .ptr 6 0), (7, .ptr 7 0), (8, I l6_1), (9, I l6_2), (15, .p (.sl 7 (List.map GAr.cs a0t.Articles))), (16, I (lenI (List.map GAr.cs a0t.Articles))), (17, I l6_3)], [(4, .box 28 (bxc (GCl.cs a1c))), (5, .box 31 (bxc (GSs.cs a2s))), (6, .box 54 [.p (.val (.slice none 0 0)), I 0, I 0, I 0]), (7, .box 54 [.p (.val (.slice none 0 0)), I l6_5, I 0, I 0])]⟩ krf ?_
       refine sL tfm krf ?_
       exact kq_n (l6_1, l6_2, wi (l6_3 + 1), OL.nil, l6_5) ⟨[4, 5, 6, 7, 8, 9, 15, 16, 17], [4, 5, 6, 7], [], []⟩ krf
    ·refine sR tfm ⟨[4, 5, 6, 7, 8, 9, 10, 11, 15, 16, 17, 57], [4, 5, 6, 7, 11], [], []⟩ ⟨[(4, .ptr 4 0), (5, .ptr 5 0), (6, .ptr 6 0), (7, .ptr 7 0), (8, I l6_1), (9, I l6_2), (10, I l6_3), (11, .ptr 11 0), (15, .p (.sl 7 (List.map GAr.cs a0t.Articles))), (16, I (lenI (List.map GAr.cs a0t.Articles))), (17, I l6_3), (57, B (eqI x7.Kind 6))], [(4, .box 28 (bxc (GCl.cs a1c))), (5, .box 31 (bxc (GSs.cs a2s))), (6, .box 54 [.p (.val (.slice none 0 0)), I 0, I 0, I 0]), (7, .box 54 [.p (.val (.slice none 0 0)), I l6_5, I 0, I 0]), (11, .box 44 (bxc (GAr.cs x7)))]⟩ krf ?_
     refine sC (eqI x7.Kind 6) krf ?_ ?_
     ·refine sL tfm krf ?_
      refine bq_n ?_
      refine bq_n ?_
      refine sN ⟨[4, 5, 6, 7, 8, 9, 15, 16, 17], [4, 5, 6, 7], [], []⟩ ⟨[(4, .ptr 4 0), (5, .ptr 5 0), (6, .ptr 6 0), (7, .ptr 7 0), (8, I x7.Price), (9, I l6_2), (15, .p (.sl 7 (List.map GAr.cs a0t.Articles))), (16, I (lenI (List.map GAr.cs a0t.Articles))), (17, I l6_3)], [(4, .box 28 (bxc (GCl.cs a1c))), (5, .box 31 (bxc (GSs.cs a2s))), (6, .box 54 [.p (.val (.slice none 0 0)), I 0, I 0, I 0]), (7, .box 54 [.p (.val (.slice none 0 0)), I l6_5, I 0, I 0])]⟩ krf ?_
      refine sL tfm krf ?_
      exact kq_n (x7.Price, l6_2, wi (l6_3 + 1), OL.nil, l6_5) ⟨[4, 5, 6, 7, 8, 9, 15, 16, 17], [4, 5, 6, 7], [], []⟩ krf
     ·refine sR tfm ⟨[4, 5, 6, 7, 8, 9, 10, 12, 15, 16, 17], [4, 5, 6, 7, 28], [], []⟩ ⟨[(4, .ptr 4 0), (5, .ptr 5 0), (6, .ptr 6 0), (7, .ptr 7 0), (8, I l6_1), (9, I l6_2), (10, I l6_3), (12, .ptr 28 0), (15, .p (.sl 7 (List.map GAr.cs a0t.Articles))), (16, I (lenI (List.map GAr.cs a0t.Articles))), (17, I l6_3)], [(4, .box 28 (bxc (GCl.cs a1c))), (5, .box 31 (bxc (GSs.cs a2s))), (6, .box 54 [.p (.val (.slice none 0 0)), I 0, I 0, I 0]), (7, .box 54 [.p (.val (.slice none 0 0)), I l6_5, I 0, I 0]), (28, .box 103 (bxc (GBB.cs ⟨x7, a1c, a2s⟩)))]⟩ krf ?_
      refine sim_cps (fun j10 => ⟨[(4, .ptr 4 0), (5, .ptr 5 0), (6, .ptr 6 0), (7, .ptr 7 0), (8, I l6_1), (9, I l6_2), (10, I l6_3), (13, I j10), (15, .p (.sl 7 (List.map GAr.cs a0t.Articles))), (16, I (lenI (List.map GAr.cs a0t.Articles))), (17, I l6_3)], [(4, .box 28 (bxc (GCl.cs a1c))), (5, .box 31 (bxc (GSs.cs a2s))), (6, .box 54 [.p (.val (.slice none 0 0)), I 0, I 0, I 0]), (7, .box 54 [.p (.val (.slice none 0 0)), I l6_5, I 0, I 0])]⟩ : Int → St) (fun j10 => g_bill_sum_j10 l6_1 l6_2 l6_3 OL.nil l6_5 recl6 j10) ?_ ?_
      ·rintro j10
       show SimE (g_bill_sum_j10 l6_1 l6_2 l6_3 OL.nil l6_5 recl6 j10) _ _ _ _ _ _
       unfold g_bill_sum_j10
       refine sS ?_
       refine sG ?_
       refine xR 6 krf ?_
       refine xF krf krf (aop_app0 (e := 107) (S := 2) (by_ := 16) (enc := GLine.cs) (d := 38) (l2 := [(⟨l6_3, j10⟩ : GLine)]) (xv := .tsl 2 (List.map GLine.cs [(⟨l6_3, j10⟩ : GLine)]) 37) rfl rfl krf krf rfl krf krf krf rfl krf) ?_
       refine xR 2 krf ?_
       refine xE ?_
       refine sN ⟨[4, 5, 6, 7, 8, 9, 13, 15, 16, 17], [4, 5, 6, 7, 38], [], []⟩ ⟨[(4, .ptr 4 0), (5, .ptr 5 0), (6, .ptr 6 0), (7, .ptr 7 0), (8, I l6_1), (9, I l6_2), (13, I j10), (15, .p (.sl 7 (List.map GAr.cs a0t.Articles))), (16, I (lenI (List.map GAr.cs a0t.Articles))), (17, I l6_3)], [(4, .box 28 (bxc (GCl.cs a1c))), (5, .box 31 (bxc (GSs.cs a2s))), (6, .box 54 [.p (.val (.slice none 0 0)), I 0, I 0, I 0]), (7, .box 54 [.tsl 2 (List.map GLine.cs (OL.nil.toL ++ [(⟨l6_3, j10⟩ : GLine)])) 38, I l6_5, I 0, I 0]), (38, .arr 107 2 (List.map GLine.cs (OL.nil.toL ++ [(⟨l6_3, j10⟩ : GLine)])).length)]⟩ krf ?_
       refine sL tfm krf ?_
       refine bq_n ?_
       refine bq_n ?_
       refine sN ⟨[4, 5, 6, 7, 8, 9, 15, 16, 17], [4, 5, 6, 7, 38], [], []⟩ ⟨[(4, .ptr 4 0), (5, .ptr 5 0), (6, .ptr 6 0), (7, .ptr 7 0), (8, I l6_1), (9, I l6_2), (15, .p (.sl 7 (List.map GAr.cs a0t.Articles))), (16, I (lenI (List.map GAr.cs a0t.Articles))), (17, I l6_3)], [(4, .box 28 (bxc (GCl.cs a1c))), (5, .box 31 (bxc (GSs.cs a2s))), (6, .box 54 [.p (.val (.slice none 0 0)), I 0, I 0, I 0]), (7, .box 54 [.tsl 2 (List.map GLine.cs (OL.nil.toL ++ [(⟨l6_3, j10⟩ : GLine)])) 38, I (wi (l6_5 + j10)), I 0, I 0]), (38, .arr 107 2 (List.map GLine.cs (OL.nil.toL ++ [(⟨l6_3, j10⟩ : GLine)])).length)]⟩ krf ?_
       refine sL tfm krf ?_
       exact kq_n (l6_1, l6_2, wi (l6_3 + 1), OL.own (OL.nil.toL ++ [(⟨l6_3, j10⟩ : GLine)]), wi (l6_5 + j10)) ⟨[4, 5, 6, 7, 8, 9, 15, 16, 17], [4, 5, 6, 7, 38], [], []⟩ krf
      ·refine sG ?_
       refine xR 1 krf ?_
       refine xs_inline [(1000, .box 103 (bxc (GBB.cs ⟨x7, a1c, a2s⟩)))] [.ptr 1000 0] [(1000, 28)] [] [] krf Try.func68 rfl Try.ntmps68 rfl krf krf krf ?_
       refine sR tfm ⟨[0], [1000], [], []⟩ ⟨[(0, .ptr 1000 0)], [(1000, .box 103 (bxc (GBB.cs ⟨x7, a1c, a2s⟩)))]⟩ krf ?_
       refine sS ?_
       refine sR tfm ⟨[0, 6, 7], [1000], [], []⟩ ⟨[(0, .ptr 1000 0), (6, .ptr 1000 0), (7, I x7.Kind)], [(1000, .box 103 (bxc (GBB.cs ⟨x7, a1c, a2s⟩)))]⟩ krf ?_
       refine sB ?_
       refine sR tfm ⟨[0, 6, 7, 8], [1000], [], []⟩ ⟨[(0, .ptr 1000 0), (6, .ptr 1000 0), (7, I x7.Kind), (8, B (eqI x7.Kind 1))], [(1000, .box 103 (bxc (GBB.cs ⟨x7, a1c, a2s⟩)))]⟩ krf ?_
       refine sC (eqI x7.Kind 1) krf ?_ ?_
       ·refine sR tfm ⟨[2], [1000], [], []⟩ ⟨[(2, .fn (.func 87) [.ptr 1000 0] [])], [(1000, .box 103 (bxc (GBB.cs ⟨x7, a1c, a2s⟩)))]⟩ krf ?_
        refine sT ?_
        refine bq_r ?_
        refine sq_r ?_
        refine iq_ret (.id) [1000] [] (.fn (.func 87) [.ptr 1000 0] []) krf krf ?_
        refine kr0 ?_
        refine xs_inline [(1000, .box 103 (bxc (GBB.cs ⟨x7, a1c, a2s⟩)))] [.ptr 1000 0] [(1000, 28)] [] [] krf Try.func87 rfl Try.ntmps87 rfl krf krf krf ?_
        refine sR tfm ⟨[0], [1000], [], []⟩ ⟨[(0, .ptr 1000 0)], [(1000, .box 103 (bxc (GBB.cs ⟨x7, a1c, a2s⟩)))]⟩ krf ?_
        refine sS ?_
        refine sS ?_
        refine sG ?_
        refine xR 6 krf ?_
        refine xs_ro [.ro [], .cv (.id)] krf (g_bb_applies_ok n (⟨x7, a1c, a2s⟩ : GBB) a2s.From) krf krf (fun _ => by kernel_rfl) (fun r11 => ?_)
        refine xE ?_
        refine sN ⟨[0, 6, 7, 9], [1000], [], []⟩ ⟨[(0, .ptr 1000 0), (6, .ptr 1000 10), (7, .ptr 1000 10), (9, B r11)], [(1000, .box 103 (bxc (GBB.cs ⟨x7, a1c, a2s⟩)))]⟩ krf ?_
        refine sC r11 krf ?_ ?_
        ·refine sR tfm ⟨[2], [1000], [], []⟩ ⟨[(2, I x7.Price)], [(1000, .box 103 (bxc (GBB.cs ⟨x7, a1c, a2s⟩)))]⟩ krf ?_
         refine sT ?_
         refine sq_r ?_
         refine iq_ret (.id) [1000] [] (I x7.Price) krf krf ?_
         refine kr0 ?_
         refine xR 1 krf ?_
         refine xE ?_
         exact kq_n (k := fun j10 => g_bill_sum_j10 l6_1 l6_2 l6_3 OL.nil l6_5 recl6 j10) x7.Price ⟨[4, 5, 6, 7, 8, 9, 10, 13, 15, 16, 17], [4, 5, 6, 7], [], []⟩ krf
        ·refine sK ?_
         refine sN ⟨[6, 7], [1000], [], []⟩ ⟨[(6, .ptr 1000 10), (7, .ptr 1000 10)], [(1000, .box 103 (bxc (GBB.cs ⟨x7, a1c, a2s⟩)))]⟩ krf ?_
         refine sR tfm ⟨[2], [1000], [], []⟩ ⟨[(2, I 0)], [(1000, .box 103 (bxc (GBB.cs ⟨x7, a1c, a2s⟩)))]⟩ krf ?_
         refine sT ?_
         refine iq_ret (.id) [1000] [] (I 0) krf krf ?_
         refine kr0 ?_
         refine xR 1 krf ?_
         refine xE ?_
         exact kq_n (k := fun j10 => g_bill_sum_j10 l6_1 l6_2 l6_3 OL.nil l6_5 recl6 j10) 0 ⟨[4, 5, 6, 7, 8, 9, 10, 13, 15, 16, 17], [4, 5, 6, 7], [], []⟩ krf
       ·refine sR tfm ⟨[0, 6, 7, 12], [1000], [], []⟩ ⟨[(0, .ptr 1000 0), (6, .ptr 1000 0), (7, I x7.Kind), (12, B (eqI x7.Kind 2))], [(1000, .box 103 (bxc (GBB.cs ⟨x7, a1c, a2s⟩)))]⟩ krf ?_
        refine sC (eqI x7.Kind 2) krf ?_ ?_
        ·refine sR tfm ⟨[2], [1000], [], []⟩ ⟨[(2, .fn (.func 88) [.ptr 1000 0] [])], [(1000, .box 103 (bxc (GBB.cs ⟨x7, a1c, a2s⟩)))]⟩ krf ?_
         refine sT ?_
         refine bq_r ?_
         refine sq_r ?_
         refine iq_ret (.id) [1000] [] (.fn (.func 88) [.ptr 1000 0] []) krf krf ?_
         refine kr0 ?_
         refine xs_inline [(1000, .box 103 (bxc (GBB.cs ⟨x7, a1c, a2s⟩)))] [.ptr 1000 0] [(1000, 28)] [] [] krf Try.func88 rfl Try.ntmps88 rfl krf krf krf ?_
         refine sR tfm ⟨[0], [1000], [], []⟩ ⟨[(0, .ptr 1000 0)], [(1000, .box 103 (bxc (GBB.cs ⟨x7, a1c, a2s⟩)))]⟩ krf ?_
         refine sR tfm ⟨[0, 3], [1000], [], []⟩ ⟨[(0, .ptr 1000 0), (3, I 0)], [(1000, .box 103 (bxc (GBB.cs ⟨x7, a1c, a2s⟩)))]⟩ krf ?_
         refine sim_bind (fun j12 => ⟨[(0, .ptr 1000 0), (3, I j12), (6, .ptr 1000 0), (7, .ptr 1000 0)], [(1000, .box 103 (bxc (GBB.cs ⟨x7, a1c, a2s⟩)))]⟩ : Int → St) ?_ ?_
         ·refine sR tfm ⟨[0, 3, 6, 7, 10, 11, 12], [1000], [], []⟩ ⟨[(0, .ptr 1000 0), (3, I 0), (6, .ptr 1000 0), (7, .ptr 1000 0), (10, .p (.sl 2 (List.map GSl.cs a2s.Slices))), (11, I (lenI (List.map GSl.cs a2s.Slices))), (12, I 0)], [(1000, .box 103 (bxc (GBB.cs ⟨x7, a1c, a2s⟩)))]⟩ krf ?_
          refine sB ?_
          refine sim_loop (fun (l13_1, l13_2) => ⟨[(0, .ptr 1000 0), (3, I l13_1), (6, .ptr 1000 0), (7, .ptr 1000 0), (10, .p (.sl 2 (List.map GSl.cs a2s.Slices))), (11, I (lenI (List.map GSl.cs a2s.Slices))), (12, I l13_2)], [(1000, .box 103 (bxc (GBB.cs ⟨x7, a1c, a2s⟩)))]⟩ : (Int × Int) → St) (weak_shr (K := ⟨[0, 3, 6, 7, 10, 11, 12], [1000], [], []⟩) krf) ?_
          rintro recl13 ⟨l13_1, l13_2⟩
          show SimE (g_bill_sum_l13 n a1c a2s x7 recl13 l13_1 l13_2) _ _ _ _ _ _
          unfold g_bill_sum_l13
          refine sR tfm ⟨[0, 3, 6, 7, 10, 11, 12, 13], [1000], [], []⟩ ⟨[(0, .ptr 1000 0), (3, I l13_1), (6, .ptr 1000 0), (7, .ptr 1000 0), (10, .p (.sl 2 (List.map GSl.cs a2s.Slices))), (11, I (lenI (List.map GSl.cs a2s.Slices))), (12, I l13_2), (13, B (ltI l13_2 (lenI (List.map GSl.cs a2s.Slices))))], [(1000, .box 103 (bxc (GBB.cs ⟨x7, a1c, a2s⟩)))]⟩ krf ?_
          refine sS ?_
          refine sC (ltI l13_2 (lenI (List.map GSl.cs a2s.Slices))) krf ?_ ?_
          ·refine sK ?_
           refine sN ⟨[0, 3, 6, 7, 10, 11, 12], [1000], [], []⟩ ⟨[(0, .ptr 1000 0), (3, I l13_1), (6, .ptr 1000 0), (7, .ptr 1000 0), (10, .p (.sl 2 (List.map GSl.cs a2s.Slices))), (11, I (lenI (List.map GSl.cs a2s.Slices))), (12, I l13_2)], [(1000, .box 103 (bxc (GBB.cs ⟨x7, a1c, a2s⟩)))]⟩ krf ?_
           refine sS ?_
           refine sB ?_
           refine sS ?_
           refine sG ?_
           refine xG krf krf (aop_idx (e := 49) (S := 2) (enc := GSl.cs) (l := a2s.Slices) (k := .i64) (n := l13_2) (sv := .p (.sl 2 (List.map GSl.cs a2s.Slices))) rfl krf krf krf krf krf) (fun x14 => ?_)
           refine xR 3 krf ?_
           refine xE ?_
           refine sN ⟨[0, 3, 5, 6, 7, 10, 11, 12], [5, 1000], [], []⟩ ⟨[(0, .ptr 1000 0), (3, I l13_1), (5, .ptr 5 0), (6, .ptr 1000 0), (7, .ptr 1000 0), (10, .p (.sl 2 (List.map GSl.cs a2s.Slices))), (11, I (lenI (List.map GSl.cs a2s.Slices))), (12, I l13_2)], [(5, .box 49 (bxc (GSl.cs x14))), (1000, .box 103 (bxc (GBB.cs ⟨x7, a1c, a2s⟩)))]⟩ krf ?_
           refine sS ?_
           refine sG ?_
           refine xR 3 krf ?_
           refine xs_ro [.ro [], .cv (.id)] krf (g_bb_applies_ok n (⟨x7, a1c, a2s⟩ : GBB) x14.Minute) krf krf (fun _ => by kernel_rfl) (fun r15 => ?_)
           refine xE ?_
           refine sN ⟨[0, 3, 5, 6, 7, 10, 11, 12, 19], [5, 1000], [], []⟩ ⟨[(0, .ptr 1000 0), (3, I l13_1), (5, .ptr 5 0), (6, .ptr 1000 0), (7, .ptr 1000 0), (10, .p (.sl 2 (List.map GSl.cs a2s.Slices))), (11, I (lenI (List.map GSl.cs a2s.Slices))), (12, I l13_2), (19, B r15)], [(5, .box 49 (bxc (GSl.cs x14))), (1000, .box 103 (bxc (GBB.cs ⟨x7, a1c, a2s⟩)))]⟩ krf ?_
           refine sC r15 krf ?_ ?_
           ·refine sL tfm krf ?_
            refine bq_n ?_
            refine sN ⟨[0, 3, 6, 7, 10, 11, 12], [1000], [], []⟩ ⟨[(0, .ptr 1000 0), (3, I (wi (l13_1 + x14.Energy))), (6, .ptr 1000 0), (7, .ptr 1000 0), (10, .p (.sl 2 (List.map GSl.cs a2s.Slices))), (11, I (lenI (List.map GSl.cs a2s.Slices))), (12, I l13_2)], [(1000, .box 103 (bxc (GBB.cs ⟨x7, a1c, a2s⟩)))]⟩ krf ?_
            refine sL tfm krf ?_
            exact kq_n (wi (l13_1 + x14.Energy), wi (l13_2 + 1)) ⟨[0, 3, 6, 7, 10, 11, 12], [1000], [], []⟩ krf
           ·refine sK ?_
            refine bq_n ?_
            refine sN ⟨[0, 3, 6, 7, 10, 11, 12], [1000], [], []⟩ ⟨[(0, .ptr 1000 0), (3, I l13_1), (6, .ptr 1000 0), (7, .ptr 1000 0), (10, .p (.sl 2 (List.map GSl.cs a2s.Slices))), (11, I (lenI (List.map GSl.cs a2s.Slices))), (12, I l13_2)], [(1000, .box 103 (bxc (GBB.cs ⟨x7, a1c, a2s⟩)))]⟩ krf ?_
            refine sL tfm krf ?_
            exact kq_n (l13_1, wi (l13_2 + 1)) ⟨[0, 3, 6, 7, 10, 11, 12], [1000], [], []⟩ krf
          ·refine sim_exit ?_
           refine sq_x ?_
           refine kq_x ?_
           refine bq_hit ?_
           exact nq_n l13_1 ⟨[0, 3, 6, 7], [1000], [], []⟩ krf
         ·rintro j12
          refine sS ?_
          refine sG ?_
          refine xR 6 krf ?_
          refine xC [] krf (g_money_Times_ok n x7.Price j12 1000) krf krf (fun _ => by kernel_rfl) (fun r16 => ?_)
          refine xR 2 krf ?_
          refine xs_exc [] krf (g_bill_must_ok n r16.1 r16.2) krf krf (fun _ => by kernel_rfl) (fun _ => by kernel_rfl) (fun r17 => ?_) (fun e18 => ?_)
          ·refine xR 1 krf ?_
           refine xE ?_
           refine sN ⟨[2], [1000], [], []⟩ ⟨[(2, I r17)], [(1000, .box 103 (bxc (GBB.cs ⟨x7, a1c, a2s⟩)))]⟩ krf ?_
           refine sT ?_
           refine iq_ret (.id) [1000] [] (I r17) krf krf ?_
           refine kr0 ?_
           refine xR 1 krf ?_
           refine xE ?_
           exact kq_n (k := fun j10 => g_bill_sum_j10 l6_1 l6_2 l6_3 OL.nil l6_5 recl6 j10) r17 ⟨[4, 5, 6, 7, 8, 9, 10, 13, 15, 16, 17], [4, 5, 6, 7], [], []⟩ krf
          ·refine sq_p ?_
           refine iq_p [1000] [] krf ?_
           refine kq_p ?_
           refine bq_p ?_
           refine bq_p ?_
           refine sq_p ?_
           refine kq_p ?_
           refine bq_p ?_
           refine kq_p ?_
           exact rq_p krf krf
        ·refine sR tfm ⟨[0, 6, 7, 16], [1000], [], []⟩ ⟨[(0, .ptr 1000 0), (6, .ptr 1000 0), (7, I x7.Kind), (16, B (eqI x7.Kind 3))], [(1000, .box 103 (bxc (GBB.cs ⟨x7, a1c, a2s⟩)))]⟩ krf ?_
         refine sC (eqI x7.Kind 3) krf ?_ ?_
         ·refine sR tfm ⟨[2], [1000], [], []⟩ ⟨[(2, .fn (.func 89) [.ptr 1000 0] [])], [(1000, .box 103 (bxc (GBB.cs ⟨x7, a1c, a2s⟩)))]⟩ krf ?_
          refine sT ?_
          refine bq_r ?_
          refine sq_r ?_
          refine iq_ret (.id) [1000] [] (.fn (.func 89) [.ptr 1000 0] []) krf krf ?_
          refine kr0 ?_
          refine xs_inline [(1000, .box 103 (bxc (GBB.cs ⟨x7, a1c, a2s⟩)))] [.ptr 1000 0] [(1000, 28)] [] [] krf Try.func89 rfl Try.ntmps89 rfl krf krf krf ?_
          refine sR tfm ⟨[0], [1000], [], []⟩ ⟨[(0, .ptr 1000 0)], [(1000, .box 103 (bxc (GBB.cs ⟨x7, a1c, a2s⟩)))]⟩ krf ?_
          refine sS ?_
          refine sim_drw tfm rfl ?_
          refine xR 11 krf ?_
          refine xs_seqL rfl krf krf ?_
          refine xs_roE [.ro [], .cv (.id), .cv (.id)] krf (g_bb_stretch_ok n (⟨x7, a1c, a2s⟩ : GBB) a2s.From a2s.To) krf krf (fun _ => by kernel_rfl) (fun _ => by kernel_rfl) (fun r19 => ?_) (fun e20 => ?_)
          ·refine xR 1 krf ?_
           refine xE ?_
           refine sN ⟨[2], [1000], [], []⟩ ⟨[(2, I r19)], [(1000, .box 103 (bxc (GBB.cs ⟨x7, a1c, a2s⟩)))]⟩ krf ?_
           refine sT ?_
           refine iq_ret (.id) [1000] [] (I r19) krf krf ?_
           refine kr0 ?_
           refine xR 1 krf ?_
           refine xE ?_
           exact kq_n (k := fun j10 => g_bill_sum_j10 l6_1 l6_2 l6_3 OL.nil l6_5 recl6 j10) r19 ⟨[4, 5, 6, 7, 8, 9, 10, 13, 15, 16, 17], [4, 5, 6, 7], [], []⟩ krf
          ·refine sq_p ?_
           refine iq_p [1000] [] krf ?_
           refine kq_p ?_
           refine bq_p ?_
           refine bq_p ?_
           refine sq_p ?_
           refine kq_p ?_
           refine bq_p ?_
           refine kq_p ?_
           exact rq_p krf krf
         ·refine sR tfm ⟨[0, 6, 7, 20], [1000], [], []⟩ ⟨[(0, .ptr 1000 0), (6, .ptr 1000 0), (7, I x7.Kind), (20, B (eqI x7.Kind 4))], [(1000, .box 103 (bxc (GBB.cs ⟨x7, a1c, a2s⟩)))]⟩ krf ?_
          refine sC (eqI x7.Kind 4) krf ?_ ?_
          ·refine sR tfm ⟨[2], [1000], [], []⟩ ⟨[(2, .fn (.func 90) [.ptr 1000 0] [])], [(1000, .box 103 (bxc (GBB.cs ⟨x7, a1c, a2s⟩)))]⟩ krf ?_
           refine sT ?_
           refine bq_r ?_
           refine sq_r ?_
           refine iq_ret (.id) [1000] [] (.fn (.func 90) [.ptr 1000 0] []) krf krf ?_
           refine kr0 ?_
           refine xs_inline [(1000, .box 103 (bxc (GBB.cs ⟨x7, a1c, a2s⟩)))] [.ptr 1000 0] [(1000, 28)] [] [] krf Try.func90 rfl Try.ntmps90 rfl krf krf krf ?_
           refine sR tfm ⟨[0], [1000], [], []⟩ ⟨[(0, .ptr 1000 0)], [(1000, .box 103 (bxc (GBB.cs ⟨x7, a1c, a2s⟩)))]⟩ krf ?_
           refine sS ?_
           refine sim_drw tfm rfl ?_
           refine xR 11 krf ?_
           refine xs_seqL rfl krf krf ?_
           refine xs_roE [.ro [], .cv (.id), .cv (.id)] krf (g_bb_stretch_ok n (⟨x7, a1c, a2s⟩ : GBB) a2s.End a2s.To) krf krf (fun _ => by kernel_rfl) (fun _ => by kernel_rfl) (fun r21 => ?_) (fun e22 => ?_)
           ·refine xR 1 krf ?_
            refine xE ?_
            refine sN ⟨[2], [1000], [], []⟩ ⟨[(2, I r21)], [(1000, .box 103 (bxc (GBB.cs ⟨x7, a1c, a2s⟩)))]⟩ krf ?_
            refine sT ?_
            refine iq_ret (.id) [1000] [] (I r21) krf krf ?_
            refine kr0 ?_
            refine xR 1 krf ?_
            refine xE ?_
            exact kq_n (k := fun j10 => g_bill_sum_j10 l6_1 l6_2 l6_3 OL.nil l6_5 recl6 j10) r21 ⟨[4, 5, 6, 7, 8, 9, 10, 13, 15, 16, 17], [4, 5, 6, 7], [], []⟩ krf
           ·refine sq_p ?_
            refine iq_p [1000] [] krf ?_
            refine kq_p ?_
            refine bq_p ?_
            refine bq_p ?_
            refine sq_p ?_
            refine kq_p ?_
            refine bq_p ?_
            refine kq_p ?_
            exact rq_p krf krf
          ·refine sK ?_
           refine bq_n ?_
           refine sN ⟨[0, 6, 7], [1000], [], []⟩ ⟨[(0, .ptr 1000 0), (6, .ptr 1000 0), (7, I x7.Kind)], [(1000, .box 103 (bxc (GBB.cs ⟨x7, a1c, a2s⟩)))]⟩ krf ?_
           refine sR tfm ⟨[2], [1000], [], []⟩ ⟨[(2, .fn (.func 91) [.ptr 1000 0] [])], [(1000, .box 103 (bxc (GBB.cs ⟨x7, a1c, a2s⟩)))]⟩ krf ?_
           refine sT ?_
           refine iq_ret (.id) [1000] [] (.fn (.func 91) [.ptr 1000 0] []) krf krf ?_
           refine kr0 ?_
           refine xs_inline [(1000, .box 103 (bxc (GBB.cs ⟨x7, a1c, a2s⟩)))] [.ptr 1000 0] [(1000, 28)] [] [] krf Try.func91 rfl Try.ntmps91 rfl krf krf krf ?_
           refine sR tfm ⟨[], [1000], [], []⟩ ⟨[], [(1000, .box 103 (bxc (GBB.cs ⟨x7, a1c, a2s⟩)))]⟩ krf ?_
           refine sR tfm ⟨[2], [1000], [], []⟩ ⟨[(2, I 0)], [(1000, .box 103 (bxc (GBB.cs ⟨x7, a1c, a2s⟩)))]⟩ krf ?_
           refine sT ?_
           refine iq_ret (.id) [1000] [] (I 0) krf krf ?_
           refine kr0 ?_
           refine xR 1 krf ?_
           refine xE ?_
           exact kq_n (k := fun j10 => g_bill_sum_j10 l6_1 l6_2 l6_3 OL.nil l6_5 recl6 j10) 0 ⟨[4, 5, 6, 7, 8, 9, 10, 13, 15, 16, 17], [4, 5, 6, 7], [], []⟩ krf
   ·refine sim_exit ?_
    refine sq_x ?_
    refine kq_x ?_
    refine bq_hit ?_
    exact kq_n (k := fun (j1_1, j1_2, j1_3, j1_4) => g_bill_sum_j1 n j1_1 j1_2 j1_3 j1_4) (l6_1, l6_2, OL.nil, l6_5) ⟨[6, 7, 8, 9], [6, 7], [], []⟩ krf
  ·refine sR tfm ⟨[4, 5, 6, 7, 8, 9, 15, 16, 17, 18], [4, 5, 6, 7, 38], [], []⟩ ⟨[(4, .ptr 4 0), (5, .ptr 5 0), (6, .ptr 6 0), (7, .ptr 7 0), (8, I l6_1), (9, I l6_2), (15, .p (.sl 7 (List.map GAr.cs a0t.Articles))), (16, I (lenI (List.map GAr.cs a0t.Articles))), (17, I l6_3), (18, B (ltI l6_3 (lenI (List.map GAr.cs a0t.Articles))))], [(4, .box 28 (bxc (GCl.cs a1c))), (5, .box 31 (bxc (GSs.cs a2s))), (6, .box 54 [.p (.val (.slice none 0 0)), I 0, I 0, I 0]), (7, .box 54 [.tsl 2 (List.map GLine.cs (OL.own ow_l6_4).toL) 38, I l6_5, I 0, I 0]), (38, .arr 107 2 (List.map GLine.cs (OL.own ow_l6_4).toL).length)]⟩ krf ?_
   refine sS ?_
   refine sC (ltI l6_3 (lenI (List.map GAr.cs a0t.Articles))) krf ?_ ?_
   ·refine sK ?_
    refine sN ⟨[4, 5, 6, 7, 8, 9, 15, 16, 17], [4, 5, 6, 7, 38], [], []⟩ ⟨[(4, .ptr 4 0), (5, .ptr 5 0), (6, .ptr 6 0), (7, .ptr 7 0), (8, I l6_1), (9, I l6_2), (15, .p (.sl 7 (List.map GAr.cs a0t.Articles))), (16, I (lenI (List.map GAr.cs a0t.Articles))), (17, I l6_3)], [(4, .box 28 (bxc (GCl.cs a1c))), (5, .box 31 (bxc (GSs.cs a2s))), (6, .box 54 [.p (.val (.slice none 0 0)), I 0, I 0, I 0]), (7, .box 54 [.tsl 2 (List.map GLine.cs (OL.own ow_l6_4).toL) 38, I l6_5, I 0, I 0]), (38, .arr 107 2 (List.map GLine.cs (OL.own ow_l6_4).toL).length)]⟩ krf ?_
    refine sS ?_
    refine sB ?_
    refine sS ?_
    refine sG ?_
    refine xR 1 krf ?_
    refine xG krf krf (aop_idx (e := 44) (S := 7) (enc := GAr.cs) (l := a0t.Articles) (k := .i64) (n := l6_3) (sv := .p (.sl 7 (List.map GAr.cs a0t.Articles))) rfl krf krf krf krf krf) (fun x7 => ?_)
    refine xR 4 krf ?_
    refine xE ?_
    refine sN ⟨[4, 5, 6, 7, 8, 9, 10, 11, 15, 16, 17], [4, 5, 6, 7, 11, 38], [], []⟩ ⟨[(4, .ptr 4 0), (5, .ptr 5 0), (6, .ptr 6 0), (7, .ptr 7 0), (8, I l6_1), (9, I l6_2), (10, I l6_3), (11, .ptr 11 0), (15, .p (.sl 7 (List.map GAr.cs a0t.Articles))), (16, I (lenI (List.map GAr.cs a0t.Articles))), (17, I l6_3)], [(4, .box 28 (bxc (GCl.cs a1c))), (5, .box 31 (bxc (GSs.cs a2s))), (6, .box 54 [.p (.val (.slice none 0 0)), I 0, I 0, I 0]), (7, .box 54 [.tsl 2 (List.map GLine.cs (OL.own ow_l6_4).toL) 38, I l6_5, I 0, I 0]), (11, .box 44 (bxc (GAr.cs x7))), (38, .arr 107 2 (List.map GLine.cs (OL.own ow_l6_4).toL).length)]⟩ krf ?_
    refine sR tfm ⟨[4, 5, 6, 7, 8, 9, 10, 11, 15, 16, 17, 23], [4, 5, 6, 7, 11, 38], [], []⟩ ⟨[(4, .ptr 4 0), (5, .ptr 5 0), (6, .ptr 6 0), (7, .ptr 7 0), (8, I l6_1), (9, I l6_2), (10, I l6_3), (11, .ptr 11 0), (15, .p (.sl 7 (List.map GAr.cs a0t.Articles))), (16, I (lenI (List.map GAr.cs a0t.Articles))), (17, I l6_3), (23, I x7.Kind)], [(4, .box 28 (bxc (GCl.cs a1c))), (5, .box 31 (bxc (GSs.cs a2s))), (6, .box 54 [.p (.val (.slice none 0 0)), I 0, I 0, I 0]), (7, .box 54 [.tsl 2 (List.map GLine.cs (OL.own ow_l6_4).toL) 38, I l6_5, I 0, I 0]), (11, .box 44 (bxc (GAr.cs x7))), (38, .arr 107 2 (List.map GLine.cs (OL.own ow_l6_4).toL).length)]⟩ krf ?_
    refine sB ?_
    refine sR tfm ⟨[4, 5, 6, 7, 8, 9, 10, 11, 15, 16, 17, 23, 45], [4, 5, 6, 7, 11, 38], [], []⟩ ⟨[(4, .ptr 4 0), (5, .ptr 5 0), (6, .ptr 6 0), (7, .ptr 7 0), (8, I l6_1), (9, I l6_2), (10, I l6_3), (11, .ptr 11 0), (15, .p (.sl 7 (List.map GAr.cs a0t.Articles))), (16, I (lenI (List.map GAr.cs a0t.Articles))), (17, I l6_3), (23, I x7.Kind), (45, B (eqI x7.Kind 5))], [(4, .box 28 (bxc (GCl.cs a1c))), (5, .box 31 (bxc (GSs.cs a2s))), (6, .box 54 [.p (.val (.slice none 0 0)), I 0, I 0, I 0]), (7, .box 54 [.tsl 2 (List.map GLine.cs (OL.own ow_l6_4).toL) 38, I l6_5, I 0, I 0]), (11, .box 44 (bxc (GAr.cs x7))), (38, .arr 107 2 (List.map GLine.cs (OL.own ow_l6_4).toL).length)]⟩ krf ?_
    refine sC (eqI x7.Kind 5) krf ?_ ?_
    ·refine sim_bind (fun j8 => ⟨[(4, .ptr 4 0), (5, .ptr 5 0), (6, .ptr 6 0), (7, .ptr 7 0), (8, I l6_1), (9, I l6_2), (11, .ptr 11 0), (15, .p (.sl 7 (List.map GAr.cs a0t.Articles))), (16, I (lenI (List.map GAr.cs a0t.Articles))), (17, I l6_3), (54, B j8)], [(4, .box 28 (bxc (GCl.cs a1c))), (5, .box 31 (bxc (GSs.cs a2s))), (6, .box 54 [.p (.val (.slice none 0 0)), I 0, I 0, I 0]), (7, .box 54 [.tsl 2 (List.map GLine.cs (OL.own ow_l6_4).toL) 38, I l6_5, I 0, I 0]), (11, .box 44 (bxc (GAr.cs x7))), (38, .arr 107 2 (List.map GLine.cs (OL.own ow_l6_4).toL).length)]⟩ : Bool → St) ?_ ?_
     ·refine sG ?_
      refine xR 3 krf ?_
      refine xS (ltI l6_2 0) (fun h9 => ?_) (fun h9 => ?_)
      ·refine xN (want_ft krf h9) krf ?_
       refine xR 4 krf ?_
       refine xE ?_
       exact nq_n true ⟨[4, 5, 6, 7, 8, 9, 11, 15, 16, 17, 54], [4, 5, 6, 7, 11, 38], [], []⟩ krf
      ·refine xO (want_ff krf h9) krf ?_
       refine xR 4 krf ?_
       refine xE ?_
       exact nq_n (ltI x7.Price l6_2) ⟨[4, 5, 6, 7, 8, 9, 11, 15, 16, 17, 54], [4, 5, 6, 7, 11, 38], [], []⟩ krf
     ·rintro j8
      refine sC j8 krf ?_ ?_
      ·refine sL tfm krf ?_
       refine bq_n ?_
       refine bq_n ?_
       refine sN ⟨[4, 5, 6, 7, 8, 9, 15, 16, 17], [4, 5, 6, 7, 38], [], []⟩ ⟨[(4, .ptr 4 0), (5, .ptr 5 0), (6, .ptr 6 0), (7, .ptr 7 0), (8, I l6_1), (9, I x7.Price), (15, .p (.sl 7 (List.map GAr.cs a0t.Articles))), (16, I (lenI (List.map GAr.cs a0t.Articles))), (17, I l6_3)], [(4, .box 28 (bxc (GCl.cs a1c))), (5, .box 31 (bxc (GSs.cs a2s))), (6, .box 54 [.p (.val (.slice none 0 0)), I 0, I 0, I 0]), (7, .box 54 [.tsl 2 (List.map GLine.cs (OL.own ow_l6_4).toL) 38, I l6_5, I 0, I 0]), (38, .arr 107 2 (List.map GLine.cs (OL.own ow_l6_4).toL).length)]⟩ krf ?_
       refine sL tfm krf ?_
       exact kq_n (l6_1, x7.Price, wi (l6_3 + 1), (OL.own ow_l6_4), l6_5) ⟨[4, 5, 6, 7, 8, 9, 15, 16, 17], [4, 5, 6, 7, 38], [], []⟩ krf
      ·refine sK ?_
       refine bq_n ?_
       refine bq_n ?_
       refine sN ⟨[4, 5, 6, 7, 8, 9, 15, 16, 17], [4, 5, 6, 7, 38], [], []⟩ ⟨[(4, .ptr 4 0), (5, .ptr 5 0), (6, .ptr 6 0), (7, .ptr 7 0), (8, I l6_1), (9, I l6_2), (15, .p (.sl 7 (List.map GAr.cs a0t.Articles))), (16, I (lenI (List.map GAr.cs a0t.Articles))), (17, I l6_3)], [(4, .box 28 (bxc (GCl.cs a1c))), (5, .box 31 (bxc (GSs.cs a2s))), (6, .box 54 [.p (.val (.slice none 0 0)), I 0, I 0, I 0]), (7, .box 54 [.tsl 2 (List.map GLine.cs (OL.own ow_l6_4).toL) 38, I l6_5, I 0, I 0]), (38, .arr 107 2 (List.map GLine.cs (OL.own ow_l6_4).toL).length)]⟩ krf ?_
       refine sL tfm krf ?_
       exact kq_n (l6_1, l6_2, wi (l6_3 + 1), (OL.own ow_l6_4), l6_5) ⟨[4, 5, 6, 7, 8, 9, 15, 16, 17], [4, 5, 6, 7, 38], [], []⟩ krf
    ·refine sR tfm ⟨[4, 5, 6, 7, 8, 9, 10, 11, 15, 16, 17, 57], [4, 5, 6, 7, 11, 38], [], []⟩ ⟨[(4, .ptr 4 0), (5, .ptr 5 0), (6, .ptr 6 0), (7, .ptr 7 0), (8, I l6_1), (9, I l6_2), (10, I l6_3), (11, .ptr 11 0), (15, .p (.sl 7 (List.map GAr.cs a0t.Articles))), (16, I (lenI (List.map GAr.cs a0t.Articles))), (17, I l6_3), (57, B (eqI x7.Kind 6))], [(4, .box 28 (bxc (GCl.cs a1c))), (5, .box 31 (bxc (GSs.cs a2s))), (6, .box 54 [.p (.val (.slice none 0 0)), I 0, I 0, I 0]), (7, .box 54 [.tsl 2 (List.map GLine.cs (OL.own ow_l6_4).toL) 38, I l6_5, I 0, I 0]), (11, .box 44 (bxc (GAr.cs x7))), (38, .arr 107 2 (List.map GLine.cs (OL.own ow_l6_4).toL).length)]⟩ krf ?_
     refine sC (eqI x7.Kind 6) krf ?_ ?_
     ·refine sL tfm krf ?_
      refine bq_n ?_
      refine bq_n ?_
      refine sN ⟨[4, 5, 6, 7, 8, 9, 15, 16, 17], [4, 5, 6, 7, 38], [], []⟩ ⟨[(4, .ptr 4 0), (5, .ptr 5 0), (6, .ptr 6 0), (7, .ptr 7 0), (8, I x7.Price), (9, I l6_2), (15, .p (.sl 7 (List.map GAr.cs a0t.Articles))), (16, I (lenI (List.map GAr.cs a0t.Articles))), (17, I l6_3)], [(4, .box 28 (bxc (GCl.cs a1c))), (5, .box 31 (bxc (GSs.cs a2s))), (6, .box 54 [.p (.val (.slice none 0 0)), I 0, I 0, I 0]), (7, .box 54 [.tsl 2 (List.map GLine.cs (OL.own ow_l6_4).toL) 38, I l6_5, I 0, I 0]), (38, .arr 107 2 (List.map GLine.cs (OL.own ow_l6_4).toL).length)]⟩ krf ?_
      refine sL tfm krf ?_
      exact kq_n (x7.Price, l6_2, wi (l6_3 + 1), (OL.own ow_l6_4), l6_5) ⟨[4, 5, 6, 7, 8, 9, 15, 16, 17], [4, 5, 6, 7, 38], [], []⟩ krf
     ·refine sR tfm ⟨[4, 5, 6, 7, 8, 9, 10, 12, 15, 16, 17], [4, 5, 6, 7, 28, 38], [], []⟩ ⟨[(4, .ptr 4 0), (5, .ptr 5 0), (6, .ptr 6 0), (7, .ptr 7 0), (8, I l6_1), (9, I l6_2), (10, I l6_3), (12, .ptr 28 0), (15, .p (.sl 7 (List.map GAr.cs a0t.Articles))), (16, I (lenI (List.map GAr.cs a0t.Articles))), (17, I l6_3)], [(4, .box 28 (bxc (GCl.cs a1c))), (5, .box 31 (bxc (GSs.cs a2s))), (6, .box 54 [.p (.val (.slice none 0 0)), I 0, I 0, I 0]), (7, .box 54 [.tsl 2 (List.map GLine.cs (OL.own ow_l6_4).toL) 38, I l6_5, I 0, I 0]), (28, .box 103 (bxc (GBB.cs ⟨x7, a1c, a2s⟩))), (38, .arr 107 2 (List.map GLine.cs (OL.own ow_l6_4).toL).length)]⟩ krf ?_
      refine sim_cps (fun j10 => ⟨[(4, .ptr 4 0), (5, .ptr 5 0), (6, .ptr 6 0), (7, .ptr 7 0), (8, I l6_1), (9, I l6_2), (10, I l6_3), (13, I j10), (15, .p (.sl 7 (List.map GAr.cs a0t.Articles))), (16, I (lenI (List.map GAr.cs a0t.Articles))), (17, I l6_3)], [(4, .box 28 (bxc (GCl.cs a1c))), (5, .box 31 (bxc (GSs.cs a2s))), (6, .box 54 [.p (.val (.slice none 0 0)), I 0, I 0, I 0]), (7, .box 54 [.tsl 2 (List.map GLine.cs (OL.own ow_l6_4).toL) 38, I l6_5, I 0, I 0]), (38, .arr 107 2 (List.map GLine.cs (OL.own ow_l6_4).toL).length)]⟩ : Int → St) (fun j10 => g_bill_sum_j10 l6_1 l6_2 l6_3 (OL.own ow_l6_4) l6_5 recl6 j10) ?_ ?_
      ·rintro j10
       show SimE (g_bill_sum_j10 l6_1 l6_2 l6_3 (OL.own ow_l6_4) l6_5 recl6 j10) _ _ _ _ _ _
       unfold g_bill_sum_j10
       refine sS ?_
       refine sG ?_
       refine xR 6 krf ?_
       refine xF krf krf (aop_app (e := 107) (S := 2) (by_ := 16) (enc := GLine.cs) (tk := 38) (l := (OL.own ow_l6_4).toL) (l2 := [(⟨l6_3, j10⟩ : GLine)]) (xv := .tsl 2 (List.map GLine.cs [(⟨l6_3, j10⟩ : GLine)]) 37) rfl krf krf rfl krf krf krf rfl krf) ?_
       refine xR 2 krf ?_
       refine xE ?_
       refine sN ⟨[4, 5, 6, 7, 8, 9, 13, 15, 16, 17], [4, 5, 6, 7, 38], [], []⟩ ⟨[(4, .ptr 4 0), (5, .ptr 5 0), (6, .ptr 6 0), (7, .ptr 7 0), (8, I l6_1), (9, I l6_2), (13, I j10), (15, .p (.sl 7 (List.map GAr.cs a0t.Articles))), (16, I (lenI (List.map GAr.cs a0t.Articles))), (17, I l6_3)], [(4, .box 28 (bxc (GCl.cs a1c))), (5, .box 31 (bxc (GSs.cs a2s))), (6, .box 54 [.p (.val (.slice none 0 0)), I 0, I 0, I 0]), (7, .box 54 [.tsl 2 (List.map GLine.cs ((OL.own ow_l6_4).toL ++ [(⟨l6_3, j10⟩ : GLine)])) 38, I l6_5, I 0, I 0]), (38, .arr 107 2 (List.map GLine.cs ((OL.own ow_l6_4).toL ++ [(⟨l6_3, j10⟩ : GLine)])).length)]⟩ krf ?_
       refine sL tfm krf ?_
       refine bq_n ?_
       refine bq_n ?_
       refine sN ⟨[4, 5, 6, 7, 8, 9, 15, 16, 17], [4, 5, 6, 7, 38], [], []⟩ ⟨[(4, .ptr 4 0), (5, .ptr 5 0), (6, .ptr 6 0), (7, .ptr 7 0), (8, I l6_1), (9, I l6_2), (15, .p (.sl 7 (List.map GAr.cs a0t.Articles))), (16, I (lenI (List.map GAr.cs a0t.Articles))), (17, I l6_3)], [(4, .box 28 (bxc (GCl.cs a1c))), (5, .box 31 (bxc (GSs.cs a2s))), (6, .box 54 [.p (.val (.slice none 0 0)), I 0, I 0, I 0]), (7, .box 54 [.tsl 2 (List.map GLine.cs ((OL.own ow_l6_4).toL ++ [(⟨l6_3, j10⟩ : GLine)])) 38, I (wi (l6_5 + j10)), I 0, I 0]), (38, .arr 107 2 (List.map GLine.cs ((OL.own ow_l6_4).toL ++ [(⟨l6_3, j10⟩ : GLine)])).length)]⟩ krf ?_
       refine sL tfm krf ?_
       exact kq_n (l6_1, l6_2, wi (l6_3 + 1), OL.own ((OL.own ow_l6_4).toL ++ [(⟨l6_3, j10⟩ : GLine)]), wi (l6_5 + j10)) ⟨[4, 5, 6, 7, 8, 9, 15, 16, 17], [4, 5, 6, 7, 38], [], []⟩ krf
      ·refine sG ?_
       refine xR 1 krf ?_
       refine xs_inline [(1000, .box 103 (bxc (GBB.cs ⟨x7, a1c, a2s⟩)))] [.ptr 1000 0] [(1000, 28)] [] [] krf Try.func68 rfl Try.ntmps68 rfl krf krf krf ?_
       refine sR tfm ⟨[0], [1000], [], []⟩ ⟨[(0, .ptr 1000 0)], [(1000, .box 103 (bxc (GBB.cs ⟨x7, a1c, a2s⟩)))]⟩ krf ?_
       refine sS ?_
       refine sR tfm ⟨[0, 6, 7], [1000], [], []⟩ ⟨[(0, .ptr 1000 0), (6, .ptr 1000 0), (7, I x7.Kind)], [(1000, .box 103 (bxc (GBB.cs ⟨x7, a1c, a2s⟩)))]⟩ krf ?_
       refine sB ?_
       refine sR tfm ⟨[0, 6, 7, 8], [1000], [], []⟩ ⟨[(0, .ptr 1000 0), (6, .ptr 1000 0), (7, I x7.Kind), (8, B (eqI x7.Kind 1))], [(1000, .box 103 (bxc (GBB.cs ⟨x7, a1c, a2s⟩)))]⟩ krf ?_
       refine sC (eqI x7.Kind 1) krf ?_ ?_
       ·refine sR tfm ⟨[2], [1000], [], []⟩ ⟨[(2, .fn (.func 87) [.ptr 1000 0] [])], [(1000, .box 103 (bxc (GBB.cs ⟨x7, a1c, a2s⟩)))]⟩ krf ?_
        refine sT ?_
        refine bq_r ?_
        refine sq_r ?_
        refine iq_ret (.id) [1000] [] (.fn (.func 87) [.ptr 1000 0] []) krf krf ?_
        refine kr0 ?_
        refine xs_inline [(1000, .box 103 (bxc (GBB.cs ⟨x7, a1c, a2s⟩)))] [.ptr 1000 0] [(1000, 28)] [] [] krf Try.func87 rfl Try.ntmps87 rfl krf krf krf ?_
        refine sR tfm ⟨[0], [1000], [], []⟩ ⟨[(0, .ptr 1000 0)], [(1000, .box 103 (bxc (GBB.cs ⟨x7, a1c, a2s⟩)))]⟩ krf ?_
        refine sS ?_
        refine sS ?_
        refine sG ?_
        refine xR 6 krf ?_
        refine xs_ro [.ro [], .cv (.id)] krf (g_bb_applies_ok n (⟨x7, a1c, a2s⟩ : GBB) a2s.From) krf krf (fun _ => by kernel_rfl) (fun r11 => ?_)
        refine xE ?_
        refine sN ⟨[0, 6, 7, 9], [1000], [], []⟩ ⟨[(0, .ptr 1000 0), (6, .ptr 1000 10), (7, .ptr 1000 10), (9, B r11)], [(1000, .box 103 (bxc (GBB.cs ⟨x7, a1c, a2s⟩)))]⟩ krf ?_
        refine sC r11 krf ?_ ?_
        ·refine sR tfm ⟨[2], [1000], [], []⟩ ⟨[(2, I x7.Price)], [(1000, .box 103 (bxc (GBB.cs ⟨x7, a1c, a2s⟩)))]⟩ krf ?_
         refine sT ?_
         refine sq_r ?_
         refine iq_ret (.id) [1000] [] (I x7.Price) krf krf ?_
         refine kr0 ?_
         refine xR 1 krf ?_
         refine xE ?_
         exact kq_n (k := fun j10 => g_bill_sum_j10 l6_1 l6_2 l6_3 (OL.own ow_l6_4) l6_5 recl6 j10) x7.Price ⟨[4, 5, 6, 7, 8, 9, 10, 13, 15, 16, 17], [4, 5, 6, 7, 38], [], []⟩ krf
        ·refine sK ?_
         refine sN ⟨[6, 7], [1000], [], []⟩ ⟨[(6, .ptr 1000 10), (7, .ptr 1000 10)], [(1000, .box 103 (bxc (GBB.cs ⟨x7, a1c, a2s⟩)))]⟩ krf ?_
         refine sR tfm ⟨[2], [1000], [], []⟩ ⟨[(2, I 0)], [(1000, .box 103 (bxc (GBB.cs ⟨x7, a1c, a2s⟩)))]⟩ krf ?_
         refine sT ?_
         refine iq_ret (.id) [1000] [] (I 0) krf krf ?_
         refine kr0 ?_
         refine xR 1 krf ?_
         refine xE ?_
         exact kq_n (k := fun j10 => g_bill_sum_j10 l6_1 l6_2 l6_3 (OL.own ow_l6_4) l6_5 recl6 j10) 0 ⟨[4, 5, 6, 7, 8, 9, 10, 13, 15, 16, 17], [4, 5, 6, 7, 38], [], []⟩ krf
       ·refine sR tfm ⟨[0, 6, 7, 12], [1000], [], []⟩ ⟨[(0, .ptr 1000 0), (6, .ptr 1000 0), (7, I x7.Kind), (12, B (eqI x7.Kind 2))], [(1000, .box 103 (bxc (GBB.cs ⟨x7, a1c, a2s⟩)))]⟩ krf ?_
        refine sC (eqI x7.Kind 2) krf ?_ ?_
        ·refine sR tfm ⟨[2], [1000], [], []⟩ ⟨[(2, .fn (.func 88) [.ptr 1000 0] [])], [(1000, .box 103 (bxc (GBB.cs ⟨x7, a1c, a2s⟩)))]⟩ krf ?_
         refine sT ?_
         refine bq_r ?_
         refine sq_r ?_
         refine iq_ret (.id) [1000] [] (.fn (.func 88) [.ptr 1000 0] []) krf krf ?_
         refine kr0 ?_
         refine xs_inline [(1000, .box 103 (bxc (GBB.cs ⟨x7, a1c, a2s⟩)))] [.ptr 1000 0] [(1000, 28)] [] [] krf Try.func88 rfl Try.ntmps88 rfl krf krf krf ?_
         refine sR tfm ⟨[0], [1000], [], []⟩ ⟨[(0, .ptr 1000 0)], [(1000, .box 103 (bxc (GBB.cs ⟨x7, a1c, a2s⟩)))]⟩ krf ?_
         refine sR tfm ⟨[0, 3], [1000], [], []⟩ ⟨[(0, .ptr 1000 0), (3, I 0)], [(1000, .box 103 (bxc (GBB.cs ⟨x7, a1c, a2s⟩)))]⟩ krf ?_
         refine sim_bind (fun j12 => ⟨[(0, .ptr 1000 0), (3, I j12), (6, .ptr 1000 0), (7, .ptr 1000 0)], [(1000, .box 103 (bxc (GBB.cs ⟨x7, a1c, a2s⟩)))]⟩ : Int → St) ?_ ?_
         ·refine sR tfm ⟨[0, 3, 6, 7, 10, 11, 12], [1000], [], []⟩ ⟨[(0, .ptr 1000 0), (3, I 0), (6, .ptr 1000 0), (7, .ptr 1000 0), (10, .p (.sl 2 (List.map GSl.cs a2s.Slices))), (11, I (lenI (List.map GSl.cs a2s.Slices))), (12, I 0)], [(1000, .box 103 (bxc (GBB.cs ⟨x7, a1c, a2s⟩)))]⟩ krf ?_
          refine sB ?_
          refine sim_loop (fun (l13_1, l13_2) => ⟨[(0, .ptr 1000 0), (3, I l13_1), (6, .ptr 1000 0), (7, .ptr 1000 0), (10, .p (.sl 2 (List.map GSl.cs a2s.Slices))), (11, I (lenI (List.map GSl.cs a2s.Slices))), (12, I l13_2)], [(1000, .box 103 (bxc (GBB.cs ⟨x7, a1c, a2s⟩)))]⟩ : (Int × Int) → St) (weak_shr (K := ⟨[0, 3, 6, 7, 10, 11, 12], [1000], [], []⟩) krf) ?_
          rintro recl13 ⟨l13_1, l13_2⟩
          show SimE (g_bill_sum_l13 n a1c a2s x7 recl13 l13_1 l13_2) _ _ _ _ _ _
          unfold g_bill_sum_l13
          refine sR tfm ⟨[0, 3, 6, 7, 10, 11, 12, 13], [1000], [], []⟩ ⟨[(0, .ptr 1000 0), (3, I l13_1), (6, .ptr 1000 0), (7, .ptr 1000 0), (10, .p (.sl 2 (List.map GSl.cs a2s.Slices))), (11, I (lenI (List.map GSl.cs a2s.Slices))), (12, I l13_2), (13, B (ltI l13_2 (lenI (List.map GSl.cs a2s.Slices))))], [(1000, .box 103 (bxc (GBB.cs ⟨x7, a1c, a2s⟩)))]⟩ krf ?_
          refine sS ?_
          refine sC (ltI l13_2 (lenI (List.map GSl.cs a2s.Slices))) krf ?_ ?_
          ·refine sK ?_
           refine sN ⟨[0, 3, 6, 7, 10, 11, 12], [1000], [], []⟩ ⟨[(0, .ptr 1000 0), (3, I l13_1), (6, .ptr 1000 0), (7, .ptr 1000 0), (10, .p (.sl 2 (List.map GSl.cs a2s.Slices))), (11, I (lenI (List.map GSl.cs a2s.Slices))), (12, I l13_2)], [(1000, .box 103 (bxc (GBB.cs ⟨x7, a1c, a2s⟩)))]⟩ krf ?_
           refine sS ?_
           refine sB ?_
           refine sS ?_
           refine sG ?_
           refine xG krf krf (aop_idx (e := 49) (S := 2) (enc := GSl.cs) (l := a2s.Slices) (k := .i64) (n := l13_2) (sv := .p (.sl 2 (List.map GSl.cs a2s.Slices))) rfl krf krf krf krf krf) (fun x14 => ?_)
           refine xR 3 krf ?_
           refine xE ?_
           refine sN ⟨[0, 3, 5, 6, 7, 10, 11, 12], [5, 1000], [], []⟩ ⟨[(0, .ptr 1000 0), (3, I l13_1), (5, .ptr 5 0), (6, .ptr 1000 0), (7, .ptr 1000 0), (10, .p (.sl 2 (List.map GSl.cs a2s.Slices))), (11, I (lenI (List.map GSl.cs a2s.Slices))), (12, I l13_2)], [(5, .box 49 (bxc (GSl.cs x14))), (1000, .box 103 (bxc (GBB.cs ⟨x7, a1c, a2s⟩)))]⟩ krf ?_
           refine sS ?_
           refine sG ?_
           refine xR 3 krf ?_
           refine xs_ro [.ro [], .cv (.id)] krf (g_bb_applies_ok n (⟨x7, a1c, a2s⟩ : GBB) x14.Minute) krf krf (fun _ => by kernel_rfl) (fun r15 => ?_)
           refine xE ?_
           refine sN ⟨[0, 3, 5, 6, 7, 10, 11, 12, 19], [5, 1000], [], []⟩ ⟨[(0, .ptr 1000 0), (3, I l13_1), (5, .ptr 5 0), (6, .ptr 1000 0), (7, .ptr 1000 0), (10, .p (.sl 2 (List.map GSl.cs a2s.Slices))), (11, I (lenI (List.map GSl.cs a2s.Slices))), (12, I l13_2), (19, B r15)], [(5, .box 49 (bxc (GSl.cs x14))), (1000, .box 103 (bxc (GBB.cs ⟨x7, a1c, a2s⟩)))]⟩ krf ?_
           refine sC r15 krf ?_ ?_
           ·refine sL tfm krf ?_
            refine bq_n ?_
            refine sN ⟨[0, 3, 6, 7, 10, 11, 12], [1000], [], []⟩ ⟨[(0, .ptr 1000 0), (3, I (wi (l13_1 + x14.Energy))), (6, .ptr 1000 0), (7, .ptr 1000 0), (10, .p (.sl 2 (List.map GSl.cs a2s.Slices))), (11, I (lenI (List.map GSl.cs a2s.Slices))), (12, I l13_2)], [(1000, .box 103 (bxc (GBB.cs ⟨x7, a1c, a2s⟩)))]⟩ krf ?_
            refine sL tfm krf ?_
            exact kq_n (wi (l13_1 + x14.Energy), wi (l13_2 + 1)) ⟨[0, 3, 6, 7, 10, 11, 12], [1000], [], []⟩ krf
           ·refine sK ?_
            refine bq_n ?_
            refine sN ⟨[0, 3, 6, 7, 10, 11, 12], [1000], [], []⟩ ⟨[(0, .ptr 1000 0), (3, I l13_1), (6, .ptr 1000 0), (7, .ptr 1000 0), (10, .p (.sl 2 (List.map GSl.cs a2s.Slices))), (11, I (lenI (List.map GSl.cs a2s.Slices))), (12, I l13_2)], [(1000, .box 103 (bxc (GBB.cs ⟨x7, a1c, a2s⟩)))]⟩ krf ?_
            refine sL tfm krf ?_
            exact kq_n (l13_1, wi (l13_2 + 1)) ⟨[0, 3, 6, 7, 10, 11, 12], [1000], [], []⟩ krf
          ·refine sim_exit ?_
           refine sq_x ?_
           refine kq_x ?_
           refine bq_hit ?_
           exact nq_n l13_1 ⟨[0, 3, 6, 7], [1000], [], []⟩ krf
         ·rintro j12
          refine sS ?_
          refine sG ?_
          refine xR 6 krf ?_
          refine xC [] krf (g_money_Times_ok n x7.Price j12 1000) krf krf (fun _ => by kernel_rfl) (fun r16 => ?_)
          refine xR 2 krf ?_
          refine xs_exc [] krf (g_bill_must_ok n r16.1 r16.2) krf krf (fun _ => by kernel_rfl) (fun _ => by kernel_rfl) (fun r17 => ?_) (fun e18 => ?_)
          ·refine xR 1 krf ?_
           refine xE ?_
           refine sN ⟨[2], [1000], [], []⟩ ⟨[(2, I r17)], [(1000, .box 103 (bxc (GBB.cs ⟨x7, a1c, a2s⟩)))]⟩ krf ?_
           refine sT ?_
           refine iq_ret (.id) [1000] [] (I r17) krf krf ?_
           refine kr0 ?_
           refine xR 1 krf ?_
           refine xE ?_
           exact kq_n (k := fun j10 => g_bill_sum_j10 l6_1 l6_2 l6_3 (OL.own ow_l6_4) l6_5 recl6 j10) r17 ⟨[4, 5, 6, 7, 8, 9, 10, 13, 15, 16, 17], [4, 5, 6, 7, 38], [], []⟩ krf
          ·refine sq_p ?_
           refine iq_p [1000] [] krf ?_
           refine kq_p ?_
           refine bq_p ?_
           refine bq_p ?_
           refine sq_p ?_
           refine kq_p ?_
           refine bq_p ?_
           refine kq_p ?_
           exact rq_p krf krf
        ·refine sR tfm ⟨[0, 6, 7, 16], [1000], [], []⟩ ⟨[(0, .ptr 1000 0), (6, .ptr 1000 0), (7, I x7.Kind), (16, B (eqI x7.Kind 3))], [(1000, .box 103 (bxc (GBB.cs ⟨x7, a1c, a2s⟩)))]⟩ krf ?_
         refine sC (eqI x7.Kind 3) krf ?_ ?_
         ·refine sR tfm ⟨[2], [1000], [], []⟩ ⟨[(2, .fn (.func 89) [.ptr 1000 0] [])], [(1000, .box 103 (bxc (GBB.cs ⟨x7, a1c, a2s⟩)))]⟩ krf ?_
          refine sT ?_
          refine bq_r ?_
          refine sq_r ?_
          refine iq_ret (.id) [1000] [] (.fn (.func 89) [.ptr 1000 0] []) krf krf ?_
          refine kr0 ?_
          refine xs_inline [(1000, .box 103 (bxc (GBB.cs ⟨x7, a1c, a2s⟩)))] [.ptr 1000 0] [(1000, 28)] [] [] krf Try.func89 rfl Try.ntmps89 rfl krf krf krf ?_
          refine sR tfm ⟨[0], [1000], [], []⟩ ⟨[(0, .ptr 1000 0)], [(1000, .box 103 (bxc (GBB.cs ⟨x7, a1c, a2s⟩)))]⟩ krf ?_
          refine sS ?_
          refine sim_drw tfm rfl ?_
          refine xR 11 krf ?_
          refine xs_seqL rfl krf krf ?_
          refine xs_roE [.ro [], .cv (.id), .cv (.id)] krf (g_bb_stretch_ok n (⟨x7, a1c, a2s⟩ : GBB) a2s.From a2s.To) krf krf (fun _ => by kernel_rfl) (fun _ => by kernel_rfl) (fun r19 => ?_) (fun e20 => ?_)
          ·refine xR 1 krf ?_
           refine xE ?_
           refine sN ⟨[2], [1000], [], []⟩ ⟨[(2, I r19)], [(1000, .box 103 (bxc (GBB.cs ⟨x7, a1c, a2s⟩)))]⟩ krf ?_
           refine sT ?_
           refine iq_ret (.id) [1000] [] (I r19) krf krf ?_
           refine kr0 ?_
           refine xR 1 krf ?_
           refine xE ?_
           exact kq_n (k := fun j10 => g_bill_sum_j10 l6_1 l6_2 l6_3 (OL.own ow_l6_4) l6_5 recl6 j10) r19 ⟨[4, 5, 6, 7, 8, 9, 10, 13, 15, 16, 17], [4, 5, 6, 7, 38], [], []⟩ krf
          ·refine sq_p ?_
           refine iq_p [1000] [] krf ?_
           refine kq_p ?_
           refine bq_p ?_
           refine bq_p ?_
           refine sq_p ?_
           refine kq_p ?_
           refine bq_p ?_
           refine kq_p ?_
           exact rq_p krf krf
         ·refine sR tfm ⟨[0, 6, 7, 20], [1000], [], []⟩ ⟨[(0, .ptr 1000 0), (6, .ptr 1000 0), (7, I x7.Kind), (20, B (eqI x7.Kind 4))], [(1000, .box 103 (bxc (GBB.cs ⟨x7, a1c, a2s⟩)))]⟩ krf ?_
          refine sC (eqI x7.Kind 4) krf ?_ ?_
          ·refine sR tfm ⟨[2], [1000], [], []⟩ ⟨[(2, .fn (.func 90) [.ptr 1000 0] [])], [(1000, .box 103 (bxc (GBB.cs ⟨x7, a1c, a2s⟩)))]⟩ krf ?_
           refine sT ?_
           refine bq_r ?_
           refine sq_r ?_
           refine iq_ret (.id) [1000] [] (.fn (.func 90) [.ptr 1000 0] []) krf krf ?_
           refine kr0 ?_
           refine xs_inline [(1000, .box 103 (bxc (GBB.cs ⟨x7, a1c, a2s⟩)))] [.ptr 1000 0] [(1000, 28)] [] [] krf Try.func90 rfl Try.ntmps90 rfl krf krf krf ?_
           refine sR tfm ⟨[0], [1000], [], []⟩ ⟨[(0, .ptr 1000 0)], [(1000, .box 103 (bxc (GBB.cs ⟨x7, a1c, a2s⟩)))]⟩ krf ?_
           refine sS ?_
           refine sim_drw tfm rfl ?_
           refine xR 11 krf ?_
           refine xs_seqL rfl krf krf ?_
           refine xs_roE [.ro [], .cv (.id), .cv (.id)] krf (g_bb_stretch_ok n (⟨x7, a1c, a2s⟩ : GBB) a2s.End a2s.To) krf krf (fun _ => by kernel_rfl) (fun _ => by kernel_rfl) (fun r21 => ?_) (fun e22 => ?_)
           ·refine xR 1 krf ?_
            refine xE ?_
            refine sN ⟨[2], [1000], [], []⟩ ⟨[(2, I r21)], [(1000, .box 103 (bxc (GBB.cs ⟨x7, a1c, a2s⟩)))]⟩ krf ?_
            refine sT ?_
            refine iq_ret (.id) [1000] [] (I r21) krf krf ?_
            refine kr0 ?_
            refine xR 1 krf ?_
            refine xE ?_
            exact kq_n (k := fun j10 => g_bill_sum_j10 l6_1 l6_2 l6_3 (OL.own ow_l6_4) l6_5 recl6 j10) r21 ⟨[4, 5, 6, 7, 8, 9, 10, 13, 15, 16, 17], [4, 5, 6, 7, 38], [], []⟩ krf
           ·refine sq_p ?_
            refine iq_p [1000] [] krf ?_
            refine kq_p ?_
            refine bq_p ?_
            refine bq_p ?_
            refine sq_p ?_
            refine kq_p ?_
            refine bq_p ?_
            refine kq_p ?_
            exact rq_p krf krf
          ·refine sK ?_
           refine bq_n ?_
           refine sN ⟨[0, 6, 7], [1000], [], []⟩ ⟨[(0, .ptr 1000 0), (6, .ptr 1000 0), (7, I x7.Kind)], [(1000, .box 103 (bxc (GBB.cs ⟨x7, a1c, a2s⟩)))]⟩ krf ?_
           refine sR tfm ⟨[2], [1000], [], []⟩ ⟨[(2, .fn (.func 91) [.ptr 1000 0] [])], [(1000, .box 103 (bxc (GBB.cs ⟨x7, a1c, a2s⟩)))]⟩ krf ?_
           refine sT ?_
           refine iq_ret (.id) [1000] [] (.fn (.func 91) [.ptr 1000 0] []) krf krf ?_
           refine kr0 ?_
           refine xs_inline [(1000, .box 103 (bxc (GBB.cs ⟨x7, a1c, a2s⟩)))] [.ptr 1000 0] [(1000, 28)] [] [] krf Try.func91 rfl Try.ntmps91 rfl krf krf krf ?_
           refine sR tfm ⟨[], [1000], [], []⟩ ⟨[], [(1000, .box 103 (bxc (GBB.cs ⟨x7, a1c, a2s⟩)))]⟩ krf ?_
           refine sR tfm ⟨[2], [1000], [], []⟩ ⟨[(2, I 0)], [(1000, .box 103 (bxc (GBB.cs ⟨x7, a1c, a2s⟩)))]⟩ krf ?_
           refine sT ?_
           refine iq_ret (.id) [1000] [] (I 0) krf krf ?_
           refine kr0 ?_
           refine xR 1 krf ?_
           refine xE ?_
           exact kq_n (k := fun j10 => g_bill_sum_j10 l6_1 l6_2 l6_3 (OL.own ow_l6_4) l6_5 recl6 j10) 0 ⟨[4, 5, 6, 7, 8, 9, 10, 13, 15, 16, 17], [4, 5, 6, 7, 38], [], []⟩ krf
   ·refine sim_exit ?_
    refine sq_x ?_
    refine kq_x ?_
    refine bq_hit ?_
    exact kq_n (k := fun (j1_1, j1_2, j1_3, j1_4) => g_bill_sum_j1 n j1_1 j1_2 j1_3 j1_4) (l6_1, l6_2, (OL.own ow_l6_4), l6_5) ⟨[6, 7, 8, 9], [6, 7, 38], [], []⟩ krf
def g_bill_caught_2 (n : Nat) (a0x_0 : Int) (a1err : Int) : Option Int :=
 some a0x_0
theorem g_bill_caught_2_ok (n : Nat) (a0x_0 : Int) (a1err : Int) : ∀ r, g_bill_caught_2 n a0x_0 a1err = some r → ACall Try.prog 37 [.ifc 99 (.agg [I a0x_0]), .ptr 1001 0] (Go.Abs.look [(1001, .box 34 [I a1err])]) (heapR (fun r : Int => ((.ret (.tup []), [(1001, .box 34 [I r])]) : AEnd × List (Nat × Blk))) r) := by
 refine acall_sim (X := fun r : Int => ((.ret (.tup []), [(1001, .box 34 [I r])]) : AEnd × List (Nat × Blk))) [(1001, .box 34 [I a1err])] Try.func37 rfl Try.ntmps37 rfl ?_
 unfold g_bill_caught_2
 refine sS ?_
 refine sR tfm ⟨[0, 1, 6, 7], [1001], [], []⟩ ⟨[(0, .ifc 99 (.agg [I a0x_0])), (1, .ptr 1001 0), (6, .ifc 99 (.agg [I a0x_0])), (7, B false)], [(1001, .box 34 [I a1err])]⟩ krf ?_
 refine sim_condF krf ?_
 refine sK ?_
 refine sN ⟨[0, 1, 6, 7], [1001], [], []⟩ ⟨[(0, .ifc 99 (.agg [I a0x_0])), (1, .ptr 1001 0), (6, .ifc 99 (.agg [I a0x_0])), (7, B false)], [(1001, .box 34 [I a1err])]⟩ krf ?_
 refine sR tfm ⟨[0, 1, 4, 5, 6, 7], [4, 1001], [], []⟩ ⟨[(0, .ifc 99 (.agg [I a0x_0])), (1, .ptr 1001 0), (4, .ptr 4 0), (5, B true), (6, .ifc 99 (.agg [I a0x_0])), (7, B false)], [(4, .box 99 [I a0x_0]), (1001, .box 34 [I a1err])]⟩ krf ?_
 refine sS ?_
 refine sR tfm ⟨[0, 1, 4, 6, 7, 14], [4, 1001], [], []⟩ ⟨[(0, .ifc 99 (.agg [I a0x_0])), (1, .ptr 1001 0), (4, .ptr 4 0), (6, .ifc 99 (.agg [I a0x_0])), (7, B false), (14, B false)], [(4, .box 99 [I a0x_0]), (1001, .box 34 [I a1err])]⟩ krf ?_
 refine sim_condF krf ?_
 refine sK ?_
 refine sN ⟨[1, 4, 6, 7], [4, 1001], [], []⟩ ⟨[(1, .ptr 1001 0), (4, .ptr 4 0), (6, .ifc 99 (.agg [I a0x_0])), (7, B false)], [(4, .box 99 [I a0x_0]), (1001, .box 34 [I a1err])]⟩ krf ?_
 refine sL tfm krf ?_
 exact hq_n (.id) [1001] [] krf krf krf krf
def g_bill_Bill (n : Nat) (a0t : GTf) (a1c : GCl) (a2s : GSs) : Option (GBill × Int) :=
 ((g_t_Valid n a0t).bind fun r2 =>
 cond (!r2)
  (some true)
  ((g_days_Valid n a1c).bind fun r4 =>
  cond (!r4)
   (some true)
   ((g_bill_Valid n a2s).bind fun r6 =>
   some (!r6)))).bind fun j1 =>
 cond j1
  ((g_bill_caught n 1).bind fun r7 =>
  some ((⟨[], 0, 0, 0⟩ : GBill), r7))
  ((g_bill_sum n a0t a1c a2s).bind (exc (fun r8 =>
   (g_bill_caught n 0).bind fun r10 =>
   some (r8, r10)) fun e9 => (g_bill_caught_2 n e9 0).bind fun r11 =>
  some ((⟨[], 0, 0, 0⟩ : GBill), r11)))
theorem g_bill_Bill_okH (n : Nat) (a0t : GTf) (a1c : GCl) (a2s : GSs) : ∀ r, g_bill_Bill n a0t a1c a2s = some r → ACall Try.prog 21 [ag (GTf.cs a0t), ag (GCl.cs a1c), ag (GSs.cs a2s)] (Go.Abs.look []) (heapR (fun r : GBill × Int => ((.ret (.tup [ag (GBill.cs r.1), I r.2]), []) : AEnd × List (Nat × Blk))) r) := by
 refine defer_sim (X := fun r : GBill × Int => ((.ret (.tup [ag (GBill.cs r.1), I r.2]), []) : AEnd × List (Nat × Blk))) [] (⟨Try.f36, _, _, _, 1, _, _, Try.func36, rfl, rfl, rfl, rfl, rfl, rfl, by decide, by decide, rfl, by kernel_rfl⟩ : Catcher Try.prog 36 37) (⟨_, _, _, _, _, 7, 8, _, rfl, rfl, rfl, rfl, rfl, rfl, rfl, by decide⟩ : Deferrer Try.f21 36) 7 Try.func21 Try.ntmps21 rfl krf rfl tfm rfl krf krf krf ?_
 unfold g_bill_Bill
 refine sP ⟨[3, 4, 5, 6, 7], [3, 4, 5, 6, 2000], [], []⟩ ⟨[(3, .ptr 3 0), (4, .ptr 4 0), (5, .ptr 5 0), (6, .ptr 6 0), (7, .ptr 2000 0)], [(3, .box 24 (bxc (GTf.cs a0t))), (4, .box 28 (bxc (GCl.cs a1c))), (5, .box 31 (bxc (GSs.cs a2s))), (6, .box 54 [.p (.val (.slice none 0 0)), I 0, I 0, I 0]), (2000, .box 34 [I 0])]⟩ krf ?_
 refine sS ?_
 refine sim_bind (fun j1 => ⟨[(3, .ptr 3 0), (4, .ptr 4 0), (5, .ptr 5 0), (6, .ptr 6 0), (7, .ptr 2000 0), (21, B j1)], [(3, .box 24 (bxc (GTf.cs a0t))), (4, .box 28 (bxc (GCl.cs a1c))), (5, .box 31 (bxc (GSs.cs a2s))), (6, .box 54 [.p (.val (.slice none 0 0)), I 0, I 0, I 0]), (2000, .box 34 [I 0])]⟩ : Bool → St) ?_ ?_
 ·refine sG ?_
  refine xR 1 krf ?_
  refine xC [] krf (g_t_Valid_ok n a0t) krf krf (fun _ => by kernel_rfl) (fun r2 => ?_)
  refine xR 2 krf ?_
  refine xS (!r2) (fun h3 => ?_) (fun h3 => ?_)
  ·refine xN (want_ft krf h3) krf ?_
   refine xR 8 krf ?_
   refine xE ?_
   exact nq_n true ⟨[3, 4, 5, 6, 7, 21], [3, 4, 5, 6, 2000], [], []⟩ krf
  ·refine xO (want_ff krf h3) krf ?_
   refine xC [] krf (g_days_Valid_ok n a1c) krf krf (fun _ => by kernel_rfl) (fun r4 => ?_)
   refine xR 3 krf ?_
   refine xS (!r4) (fun h5 => ?_) (fun h5 => ?_)
   ·refine xN (want_ft krf h5) krf ?_
    refine xR 3 krf ?_
    refine xE ?_
    exact nq_n true ⟨[3, 4, 5, 6, 7, 21], [3, 4, 5, 6, 2000], [], []⟩ krf
   ·refine xO (want_ff krf h5) krf ?_
    refine xC [] krf (g_bill_Valid_ok n a2s) krf krf (fun _ => by kernel_rfl) (fun r6 => ?_)
    refine xR 2 krf ?_
    refine xE ?_
    exact nq_n (!r6) ⟨[3, 4, 5, 6, 7, 21], [3, 4, 5, 6, 2000], [], []⟩ krf
 ·rintro j1
  refine sC j1 krf ?_ ?_
  ·refine sR tfm ⟨[6, 7], [6, 2000], [], []⟩ ⟨[(6, .ptr 6 0), (7, .ptr 2000 0)], [(6, .box 54 [.p (.val (.slice none 0 0)), I 0, I 0, I 0]), (2000, .box 34 [I 1])]⟩ krf ?_
   refine sT ?_
   refine sq_r ?_
   refine dq_ret ?_
   refine sc_heap [(1001, 2000)] [] [] (g_bill_caught_ok n 1) krf krf krf (fun _ => by kernel_rfl) (fun _ => by kernel_rfl) (fun r7 => ?_)
   exact ke_end (.agg [.agg [.sl 2, .id, .id, .id], .id]) [] [] krf krf krf krf
  ·refine sK ?_
   refine sN ⟨[3, 4, 5, 6, 7], [3, 4, 5, 6, 2000], [], []⟩ ⟨[(3, .ptr 3 0), (4, .ptr 4 0), (5, .ptr 5 0), (6, .ptr 6 0), (7, .ptr 2000 0)], [(3, .box 24 (bxc (GTf.cs a0t))), (4, .box 28 (bxc (GCl.cs a1c))), (5, .box 31 (bxc (GSs.cs a2s))), (6, .box 54 [.p (.val (.slice none 0 0)), I 0, I 0, I 0]), (2000, .box 34 [I 0])]⟩ krf ?_
   refine sS ?_
   refine sG ?_
   refine xR 3 krf ?_
   refine xs_exc [] krf (g_bill_sum_ok n a0t a1c a2s) krf krf (fun _ => by kernel_rfl) (fun _ => by kernel_rfl) (fun r8 => ?_) (fun e9 => ?_)
   ·refine xR 2 krf ?_
    refine xE ?_
    refine sN ⟨[6, 7], [6, 2000], [], []⟩ ⟨[(6, .ptr 6 0), (7, .ptr 2000 0)], [(6, .box 54 (bxc (GBill.cs r8))), (2000, .box 34 [I 0])]⟩ krf ?_
    refine sT ?_
    refine dq_ret ?_
    refine sc_heap [(1001, 2000)] [] [] (g_bill_caught_ok n 0) krf krf krf (fun _ => by kernel_rfl) (fun _ => by kernel_rfl) (fun r10 => ?_)
    exact ke_end (.id) [] [] krf krf krf krf
   ·refine sq_p ?_
    refine dq_p ?_
    refine sc_heap [(1001, 2000)] [] [] (g_bill_caught_2_ok n e9 0) krf krf krf (fun _ => by kernel_rfl) (fun _ => by kernel_rfl) (fun r11 => ?_)
    exact ke_end (.agg [.agg [.sl 2, .id, .id, .id], .id]) [] [] krf krf krf krf
theorem g_bill_Bill_ok (n : Nat) (a0t : GTf) (a1c : GCl) (a2s : GSs) : ∀ r, g_bill_Bill n a0t a1c a2s = some r → PCall Try.prog 21 [ag (GTf.cs a0t), ag (GCl.cs a1c), ag (GSs.cs a2s)] (.ret (.tup [ag (GBill.cs r.1), I r.2])) := fun r h => pcall_of (g_bill_Bill_okH n a0t a1c a2s r h) rfl
def g_law35_QuoteReached_l3 (a0t : GTf) (recl3 : ((OL GAr) × Int) → Option (OL GAr)) (l3_1 : OL GAr) (l3_2 : Int) : Option (OL GAr) :=
 cond (ltI l3_2 (lenI (List.map GAr.cs a0t.Articles)))
  ((getI a0t.Articles l3_2).bind fun x4 =>
  (cond (eqI x4.Kind 1)
   (some (7, 0, 1440))
   (some (x4.Days, x4.From, x4.To))).bind fun (j5_1, j5_2, j5_3) =>
  cond (!eqI x4.Kind 2)
   (cond (roomB (List.length (l3_1.toL ++ [(⟨x4.Kind, j5_1, j5_2, j5_3, x4.Price, x4.Unit, x4.Free⟩ : GAr)])) 56) (
    recl3 (OL.own (l3_1.toL ++ [(⟨x4.Kind, j5_1, j5_2, j5_3, x4.Price, x4.Unit, x4.Free⟩ : GAr)]), wi (l3_2 + 1))) none)
   (recl3 (l3_1, wi (l3_2 + 1))))
  (some l3_1)
def g_law35_QuoteReached (n : Nat) (a0t : GTf) (a1c : GCl) (a2from : Int) (a3to : Int) (a4energy : Int) : Option Bool :=
 (g_law35_head n).bind fun r1 =>
 (loopN (fun recl3 (l3_1, l3_2) => g_law35_QuoteReached_l3 a0t recl3 l3_1 l3_2) n (OL.nil, 0)).bind fun j2 =>
 (g_law35_usable n (⟨a0t.Name, j2.toL⟩ : GTf) a1c a2from a3to a4energy).bind fun r6 =>
 cond (!r6)
  (some r1)
  ((g_quote_Quote n (⟨a0t.Name, j2.toL⟩ : GTf) a1c a2from a3to 0).bind fun r7 =>
  (g_bill_Bill n (⟨a0t.Name, j2.toL⟩ : GTf) a1c (⟨a2from, a3to, a2from, []⟩ : GSs)).bind fun r8 =>
  cond r1
   (cond (!eqI r7.2 0)
    (some true)
    (cond (eqI r8.2 0)
     (some (eqI r8.1.Total r7.1))
     (some false)))
   (some false))
theorem g_law35_QuoteReached_ok (n : Nat) (a0t : GTf) (a1c : GCl) (a2from : Int) (a3to : Int) (a4energy : Int) : ∀ r, g_law35_QuoteReached n a0t a1c a2from a3to a4energy = some r → PCall Try.prog 9 [ag (GTf.cs a0t), ag (GCl.cs a1c), I a2from, I a3to, I a4energy] (.ret (B r)) := by
 refine pcall_sim (X := fun r : Bool => AEnd.ret (B r)) Try.func9 rfl Try.ntmps9 rfl ?_
 unfold g_law35_QuoteReached
 refine sR tfm ⟨[2, 3, 4, 5, 6], [5, 6], [], []⟩ ⟨[(2, I a2from), (3, I a3to), (4, I a4energy), (5, .ptr 5 0), (6, .ptr 6 0)], [(5, .box 24 (bxc (GTf.cs a0t))), (6, .box 28 (bxc (GCl.cs a1c)))]⟩ krf ?_
 refine sS ?_
 refine sG ?_
 refine xC [] krf (g_law35_head_ok n) krf krf (fun _ => by kernel_rfl) (fun r1 => ?_)
 refine xR 1 krf ?_
 refine xE ?_
 refine sN ⟨[2, 3, 4, 5, 6, 11], [5, 6], [], []⟩ ⟨[(2, I a2from), (3, I a3to), (4, I a4energy), (5, .ptr 5 0), (6, .ptr 6 0), (11, B r1)], [(5, .box 24 (bxc (GTf.cs a0t))), (6, .box 28 (bxc (GCl.cs a1c)))]⟩ krf ?_
 refine sR tfm ⟨[2, 3, 4, 5, 6, 11, 12], [5, 6], [], []⟩ ⟨[(2, I a2from), (3, I a3to), (4, I a4energy), (5, .ptr 5 0), (6, .ptr 6 0), (11, B r1), (12, .p (.val (.slice none 0 0)))], [(5, .box 24 (bxc (GTf.cs a0t))), (6, .box 28 (bxc (GCl.cs a1c)))]⟩ krf ?_
 refine sim_bind (fun j2 => ⟨[(2, I a2from), (3, I a3to), (4, I a4energy), (5, .ptr 5 0), (6, .ptr 6 0), (11, B r1), (12, osl 7 GAr.cs j2 39)], [(5, .box 24 (bxc (GTf.cs a0t))), (6, .box 28 (bxc (GCl.cs a1c)))] ++ oarr 44 7 GAr.cs j2 39⟩ : (OL GAr) → St) ?_ ?_
 ·refine sR tfm ⟨[2, 3, 4, 5, 6, 11, 12, 21, 22, 23], [5, 6], [], []⟩ ⟨[(2, I a2from), (3, I a3to), (4, I a4energy), (5, .ptr 5 0), (6, .ptr 6 0), (11, B r1), (12, .p (.val (.slice none 0 0))), (21, .p (.sl 7 (List.map GAr.cs a0t.Articles))), (22, I (lenI (List.map GAr.cs a0t.Articles))), (23, I 0)], [(5, .box 24 (bxc (GTf.cs a0t))), (6, .box 28 (bxc (GCl.cs a1c)))]⟩ krf ?_
  refine sB ?_
  refine sim_loop (fun (l3_1, l3_2) => ⟨[(2, I a2from), (3, I a3to), (4, I a4energy), (5, .ptr 5 0), (6, .ptr 6 0), (11, B r1), (12, osl 7 GAr.cs l3_1 39), (21, .p (.sl 7 (List.map GAr.cs a0t.Articles))), (22, I (lenI (List.map GAr.cs a0t.Articles))), (23, I l3_2)], [(5, .box 24 (bxc (GTf.cs a0t))), (6, .box 28 (bxc (GCl.cs a1c)))] ++ oarr 44 7 GAr.cs l3_1 39⟩ : ((OL GAr) × Int) → St) (weak_shr (K := ⟨[2, 3, 4, 5, 6, 11, 12, 21, 22, 23], [5, 6], [], []⟩) krf) ?_
  rintro recl3 ⟨l3_1, l3_2⟩
  show SimE (g_law35_QuoteReached_l3 a0t recl3 l3_1 l3_2) _ _ _ _ _ _
  unfold g_law35_QuoteReached_l3
  rcases l3_1 with _ | ow_l3_1
  ·refine sR tfm ⟨[2, 3, 4, 5, 6, 11, 12, 21, 22, 23, 24], [5, 6], [], []⟩ ⟨[(2, I a2from), (3, I a3to), (4, I a4energy), (5, .ptr 5 0), (6, .ptr 6 0), (11, B r1), (12, .p (.val (.slice none 0 0))), (21, .p (.sl 7 (List.map GAr.cs a0t.Articles))), (22, I (lenI (List.map GAr.cs a0t.Articles))), (23, I l3_2), (24, B (ltI l3_2 (lenI (List.map GAr.cs a0t.Articles))))], [(5, .box 24 (bxc (GTf.cs a0t))), (6, .box 28 (bxc (GCl.cs a1c)))]⟩ krf ?_
   refine sS ?_
   refine sC (ltI l3_2 (lenI (List.map GAr.cs a0t.Articles))) krf ?_ ?_
   ·refine sK ?_
    refine sN ⟨[2, 3, 4, 5, 6, 11, 12, 21, 22, 23], [5, 6], [], []⟩ ⟨[(2, I a2from), (3, I a3to), (4, I a4energy), (5, .ptr 5 0), (6, .ptr 6 0), (11, B r1), (12, .p (.val (.slice none 0 0))), (21, .p (.sl 7 (List.map GAr.cs a0t.Articles))), (22, I (lenI (List.map GAr.cs a0t.Articles))), (23, I l3_2)], [(5, .box 24 (bxc (GTf.cs a0t))), (6, .box 28 (bxc (GCl.cs a1c)))]⟩ krf ?_
    refine sS ?_
    refine sB ?_
    refine sS ?_
    refine sG ?_
    refine xG krf krf (aop_idx (e := 44) (S := 7) (enc := GAr.cs) (l := a0t.Articles) (k := .i64) (n := l3_2) (sv := .p (.sl 7 (List.map GAr.cs a0t.Articles))) rfl krf krf krf krf krf) (fun x4 => ?_)
    refine xR 3 krf ?_
    refine xE ?_
    refine sN ⟨[2, 3, 4, 5, 6, 11, 12, 14, 21, 22, 23], [5, 6, 14], [], []⟩ ⟨[(2, I a2from), (3, I a3to), (4, I a4energy), (5, .ptr 5 0), (6, .ptr 6 0), (11, B r1), (12, .p (.val (.slice none 0 0))), (14, .ptr 14 0), (21, .p (.sl 7 (List.map GAr.cs a0t.Articles))), (22, I (lenI (List.map GAr.cs a0t.Articles))), (23, I l3_2)], [(5, .box 24 (bxc (GTf.cs a0t))), (6, .box 28 (bxc (GCl.cs a1c))), (14, .box 44 (bxc (GAr.cs x4)))]⟩ krf ?_
    refine sim_bind (fun (j5_1, j5_2, j5_3) => ⟨[(2, I a2from), (3, I a3to), (4, I a4energy), (5, .ptr 5 0), (6, .ptr 6 0), (11, B r1), (12, .p (.val (.slice none 0 0))), (14, .ptr 14 0), (21, .p (.sl 7 (List.map GAr.cs a0t.Articles))), (22, I (lenI (List.map GAr.cs a0t.Articles))), (23, I l3_2)], [(5, .box 24 (bxc (GTf.cs a0t))), (6, .box 28 (bxc (GCl.cs a1c))), (14, .box 44 [I x4.Kind, I j5_1, I j5_2, I j5_3, I x4.Price, I x4.Unit, I x4.Free])]⟩ : (Int × Int × Int) → St) ?_ ?_
    ·refine sR tfm ⟨[2, 3, 4, 5, 6, 11, 12, 14, 21, 22, 23, 29], [5, 6, 14], [], []⟩ ⟨[(2, I a2from), (3, I a3to), (4, I a4energy), (5, .ptr 5 0), (6, .ptr 6 0), (11, B r1), (12, .p (.val (.slice none 0 0))), (14, .ptr 14 0), (21, .p (.sl 7 (List.map GAr.cs a0t.Articles))), (22, I (lenI (List.map GAr.cs a0t.Articles))), (23, I l3_2), (29, B (eqI x4.Kind 1))], [(5, .box 24 (bxc (GTf.cs a0t))), (6, .box 28 (bxc (GCl.cs a1c))), (14, .box 44 (bxc (GAr.cs x4)))]⟩ krf ?_
     refine sC (eqI x4.Kind 1) krf ?_ ?_
     ·refine sL tfm krf ?_
      exact nq_n (7, 0, 1440) ⟨[2, 3, 4, 5, 6, 11, 12, 14, 21, 22, 23], [5, 6, 14], [], []⟩ krf
     ·refine sK ?_
      exact nq_n (x4.Days, x4.From, x4.To) ⟨[2, 3, 4, 5, 6, 11, 12, 14, 21, 22, 23], [5, 6, 14], [], []⟩ krf
    ·rintro ⟨j5_1, j5_2, j5_3⟩
     refine sR tfm ⟨[2, 3, 4, 5, 6, 11, 12, 14, 21, 22, 23, 35], [5, 6, 14], [], []⟩ ⟨[(2, I a2from), (3, I a3to), (4, I a4energy), (5, .ptr 5 0), (6, .ptr 6 0), (11, B r1), (12, .p (.val (.slice none 0 0))), (14, .ptr 14 0), (21, .p (.sl 7 (List.map GAr.cs a0t.Articles))), (22, I (lenI (List.map GAr.cs a0t.Articles))), (23, I l3_2), (35, B (!eqI x4.Kind 2))], [(5, .box 24 (bxc (GTf.cs a0t))), (6, .box 28 (bxc (GCl.cs a1c))), (14, .box 44 [I x4.Kind, I j5_1, I j5_2, I j5_3, I x4.Price, I x4.Unit, I x4.Free])]⟩ krf ?_
     refine sC (!eqI x4.Kind 2) krf ?_ ?_
     ·refine sG ?_
      refine xR 3 krf ?_
      refine xF krf krf (aop_app0 (e := 44) (S := 7) (by_ := 56) (enc := GAr.cs) (d := 39) (l2 := [(⟨x4.Kind, j5_1, j5_2, j5_3, x4.Price, x4.Unit, x4.Free⟩ : GAr)]) (xv := .tsl 7 (List.map GAr.cs [(⟨x4.Kind, j5_1, j5_2, j5_3, x4.Price, x4.Unit, x4.Free⟩ : GAr)]) 38) rfl rfl krf krf rfl krf krf krf rfl krf) ?_
      refine xR 1 krf ?_
      refine xE ?_
      refine bq_n ?_
      refine sN ⟨[2, 3, 4, 5, 6, 11, 12, 21, 22, 23], [5, 6, 39], [], []⟩ ⟨[(2, I a2from), (3, I a3to), (4, I a4energy), (5, .ptr 5 0), (6, .ptr 6 0), (11, B r1), (12, .tsl 7 (List.map GAr.cs (OL.nil.toL ++ [(⟨x4.Kind, j5_1, j5_2, j5_3, x4.Price, x4.Unit, x4.Free⟩ : GAr)])) 39), (21, .p (.sl 7 (List.map GAr.cs a0t.Articles))), (22, I (lenI (List.map GAr.cs a0t.Articles))), (23, I l3_2)], [(5, .box 24 (bxc (GTf.cs a0t))), (6, .box 28 (bxc (GCl.cs a1c))), (39, .arr 44 7 (List.map GAr.cs (OL.nil.toL ++ [(⟨x4.Kind, j5_1, j5_2, j5_3, x4.Price, x4.Unit, x4.Free⟩ : GAr)])).length)]⟩ krf ?_
      refine sL tfm krf ?_
      exact kq_n (OL.own (OL.nil.toL ++ [(⟨x4.Kind, j5_1, j5_2, j5_3, x4.Price, x4.Unit, x4.Free⟩ : GAr)]), wi (l3_2 + 1)) ⟨[2, 3, 4, 5, 6, 11, 12, 21, 22, 23], [5, 6, 39], [], []⟩ krf
     ·refine sK ?_
      refine bq_n ?_
      refine sN ⟨[2, 3, 4, 5, 6, 11, 12, 21, 22, 23], [5, 6], [], []⟩ ⟨[(2, I a2from), (3, I a3to), (4, I a4energy), (5, .ptr 5 0), (6, .ptr 6 0), (11, B r1), (12, .p (.val (.slice none 0 0))), (21, .p (.sl 7 (List.map GAr.cs a0t.Articles))), (22, I (lenI (List.map GAr.cs a0t.Articles))), (23, I l3_2)], [(5, .box 24 (bxc (GTf.cs a0t))), (6, .box 28 (bxc (GCl.cs a1c)))]⟩ krf ?_
      refine sL tfm krf ?_
      exact kq_n (OL.nil, wi (l3_2 + 1)) ⟨[2, 3, 4, 5, 6, 11, 12, 21, 22, 23], [5, 6], [], []⟩ krf
   ·refine sim_exit ?_
    refine sq_x ?_
    refine kq_x ?_
    refine bq_hit ?_
    exact nq_n OL.nil ⟨[2, 3, 4, 5, 6, 11, 12], [5, 6], [], []⟩ krf
  ·refine sR tfm ⟨[2, 3, 4, 5, 6, 11, 12, 21, 22, 23, 24], [5, 6, 39], [], []⟩ ⟨[(2, I a2from), (3, I a3to), (4, I a4energy), (5, .ptr 5 0), (6, .ptr 6 0), (11, B r1), (12, .tsl 7 (List.map GAr.cs (OL.own ow_l3_1).toL) 39), (21, .p (.sl 7 (List.map GAr.cs a0t.Articles))), (22, I (lenI (List.map GAr.cs a0t.Articles))), (23, I l3_2), (24, B (ltI l3_2 (lenI (List.map GAr.cs a0t.Articles))))], [(5, .box 24 (bxc (GTf.cs a0t))), (6, .box 28 (bxc (GCl.cs a1c))), (39, .arr 44 7 (List.map GAr.cs (OL.own ow_l3_1).toL).length)]⟩ krf ?_
   refine sS ?_
   refine sC (ltI l3_2 (lenI (List.map GAr.cs a0t.Articles))) krf ?_ ?_
   ·refine sK ?_
    refine sN ⟨[2, 3, 4, 5, 6, 11, 12, 21, 22, 23], [5, 6, 39], [], []⟩ ⟨[(2, I a2from), (3, I a3to), (4, I a4energy), (5, .ptr 5 0), (6, .ptr 6 0), (11, B r1), (12, .tsl 7 (List.map GAr.cs (OL.own ow_l3_1).toL) 39), (21, .p (.sl 7 (List.map GAr.cs a0t.Articles))), (22, I (lenI (List.map GAr.cs a0t.Articles))), (23, I l3_2)], [(5, .box 24 (bxc (GTf.cs a0t))), (6, .box 28 (bxc (GCl.cs a1c))), (39, .arr 44 7 (List.map GAr.cs (OL.own ow_l3_1).toL).length)]⟩ krf ?_
    refine sS ?_
    refine sB ?_
    refine sS ?_
    refine sG ?_
    refine xG krf krf (aop_idx (e := 44) (S := 7) (enc := GAr.cs) (l := a0t.Articles) (k := .i64) (n := l3_2) (sv := .p (.sl 7 (List.map GAr.cs a0t.Articles))) rfl krf krf krf krf krf) (fun x4 => ?_)
    refine xR 3 krf ?_
    refine xE ?_
    refine sN ⟨[2, 3, 4, 5, 6, 11, 12, 14, 21, 22, 23], [5, 6, 14, 39], [], []⟩ ⟨[(2, I a2from), (3, I a3to), (4, I a4energy), (5, .ptr 5 0), (6, .ptr 6 0), (11, B r1), (12, .tsl 7 (List.map GAr.cs (OL.own ow_l3_1).toL) 39), (14, .ptr 14 0), (21, .p (.sl 7 (List.map GAr.cs a0t.Articles))), (22, I (lenI (List.map GAr.cs a0t.Articles))), (23, I l3_2)], [(5, .box 24 (bxc (GTf.cs a0t))), (6, .box 28 (bxc (GCl.cs a1c))), (14, .box 44 (bxc (GAr.cs x4))), (39, .arr 44 7 (List.map GAr.cs (OL.own ow_l3_1).toL).length)]⟩ krf ?_
    refine sim_bind (fun (j5_1, j5_2, j5_3) => ⟨[(2, I a2from), (3, I a3to), (4, I a4energy), (5, .ptr 5 0), (6, .ptr 6 0), (11, B r1), (12, .tsl 7 (List.map GAr.cs (OL.own ow_l3_1).toL) 39), (14, .ptr 14 0), (21, .p (.sl 7 (List.map GAr.cs a0t.Articles))), (22, I (lenI (List.map GAr.cs a0t.Articles))), (23, I l3_2)], [(5, .box 24 (bxc (GTf.cs a0t))), (6, .box 28 (bxc (GCl.cs a1c))), (14, .box 44 [I x4.Kind, I j5_1, I j5_2, I j5_3, I x4.Price, I x4.Unit, I x4.Free]), (39, .arr 44 7 (List.map GAr.cs (OL.own ow_l3_1).toL).length)]⟩ : (Int × Int × Int) → St) ?_ ?_
    ·refine sR tfm ⟨[2, 3, 4, 5, 6, 11, 12, 14, 21, 22, 23, 29], [5, 6, 14, 39], [], []⟩ ⟨[(2, I a2from), (3, I a3to), (4, I a4energy), (5, .ptr 5 0), (6, .ptr 6 0), (11, B r1), (12, .tsl 7 (List.map GAr.cs (OL.own ow_l3_1).toL) 39), (14, .ptr 14 0), (21, .p (.sl 7 (List.map GAr.cs a0t.Articles))), (22, I (lenI (List.map GAr.cs a0t.Articles))), (23, I l3_2), (29, B (eqI x4.Kind 1))], [(5, .box 24 (bxc (GTf.cs a0t))), (6, .box 28 (bxc (GCl.cs a1c))), (14, .box 44 (bxc (GAr.cs x4))), (39, .arr 44 7 (List.map GAr.cs (OL.own ow_l3_1).toL).length)]⟩ krf ?_
     refine sC (eqI x4.Kind 1) krf ?_ ?_
     ·refine sL tfm krf ?_
      exact nq_n (7, 0, 1440) ⟨[2, 3, 4, 5, 6, 11, 12, 14, 21, 22, 23], [5, 6, 14, 39], [], []⟩ krf
     ·refine sK ?_
      exact nq_n (x4.Days, x4.From, x4.To) ⟨[2, 3, 4, 5, 6, 11, 12, 14, 21, 22, 23], [5, 6, 14, 39], [], []⟩ krf
    ·rintro ⟨j5_1, j5_2, j5_3⟩
     refine sR tfm ⟨[2, 3, 4, 5, 6, 11, 12, 14, 21, 22, 23, 35], [5, 6, 14, 39], [], []⟩ ⟨[(2, I a2from), (3, I a3to), (4, I a4energy), (5, .ptr 5 0), (6, .ptr 6 0), (11, B r1), (12, .tsl 7 (List.map GAr.cs (OL.own ow_l3_1).toL) 39), (14, .ptr 14 0), (21, .p (.sl 7 (List.map GAr.cs a0t.Articles))), (22, I (lenI (List.map GAr.cs a0t.Articles))), (23, I l3_2), (35, B (!eqI x4.Kind 2))], [(5, .box 24 (bxc (GTf.cs a0t))), (6, .box 28 (bxc (GCl.cs a1c))), (14, .box 44 [I x4.Kind, I j5_1, I j5_2, I j5_3, I x4.Price, I x4.Unit, I x4.Free]), (39, .arr 44 7 (List.map GAr.cs (OL.own ow_l3_1).toL).length)]⟩ krf ?_
     refine sC (!eqI x4.Kind 2) krf ?_ ?_
     ·refine sG ?_
      refine xR 3 krf ?_
      refine xF krf krf (aop_app (e := 44) (S := 7) (by_ := 56) (enc := GAr.cs) (tk := 39) (l := (OL.own ow_l3_1).toL) (l2 := [(⟨x4.Kind, j5_1, j5_2, j5_3, x4.Price, x4.Unit, x4.Free⟩ : GAr)]) (xv := .tsl 7 (List.map GAr.cs [(⟨x4.Kind, j5_1, j5_2, j5_3, x4.Price, x4.Unit, x4.Free⟩ : GAr)]) 38) rfl krf krf rfl krf krf krf rfl krf) ?_
      refine xR 1 krf ?_
      refine xE ?_
      refine bq_n ?_
      refine sN ⟨[2, 3, 4, 5, 6, 11, 12, 21, 22, 23], [5, 6, 39], [], []⟩ ⟨[(2, I a2from), (3, I a3to), (4, I a4energy), (5, .ptr 5 0), (6, .ptr 6 0), (11, B r1), (12, .tsl 7 (List.map GAr.cs ((OL.own ow_l3_1).toL ++ [(⟨x4.Kind, j5_1, j5_2, j5_3, x4.Price, x4.Unit, x4.Free⟩ : GAr)])) 39), (21, .p (.sl 7 (List.map GAr.cs a0t.Articles))), (22, I (lenI (List.map GAr.cs a0t.Articles))), (23, I l3_2)], [(5, .box 24 (bxc (GTf.cs a0t))), (6, .box 28 (bxc (GCl.cs a1c))), (39, .arr 44 7 (List.map GAr.cs ((OL.own ow_l3_1).toL ++ [(⟨x4.Kind, j5_1, j5_2, j5_3, x4.Price, x4.Unit, x4.Free⟩ : GAr)])).length)]⟩ krf ?_
      refine sL tfm krf ?_
      exact kq_n (OL.own ((OL.own ow_l3_1).toL ++ [(⟨x4.Kind, j5_1, j5_2, j5_3, x4.Price, x4.Unit, x4.Free⟩ : GAr)]), wi (l3_2 + 1)) ⟨[2, 3, 4, 5, 6, 11, 12, 21, 22, 23], [5, 6, 39], [], []⟩ krf
     ·refine sK ?_
      refine bq_n ?_
      refine sN ⟨[2, 3, 4, 5, 6, 11, 12, 21, 22, 23], [5, 6, 39], [], []⟩ ⟨[(2, I a2from), (3, I a3to), (4, I a4energy), (5, .ptr 5 0), (6, .ptr 6 0), (11, B r1), (12, .tsl 7 (List.map GAr.cs (OL.own ow_l3_1).toL) 39), (21, .p (.sl 7 (List.map GAr.cs a0t.Articles))), (22, I (lenI (List.map GAr.cs a0t.Articles))), (23, I l3_2)], [(5, .box 24 (bxc (GTf.cs a0t))), (6, .box 28 (bxc (GCl.cs a1c))), (39, .arr 44 7 (List.map GAr.cs (OL.own ow_l3_1).toL).length)]⟩ krf ?_
      refine sL tfm krf ?_
      exact kq_n ((OL.own ow_l3_1), wi (l3_2 + 1)) ⟨[2, 3, 4, 5, 6, 11, 12, 21, 22, 23], [5, 6, 39], [], []⟩ krf
   ·refine sim_exit ?_
    refine sq_x ?_
    refine kq_x ?_
    refine bq_hit ?_
    exact nq_n (OL.own ow_l3_1) ⟨[2, 3, 4, 5, 6, 11, 12], [5, 6, 39], [], []⟩ krf
 ·rintro j2
  rcases j2 with _ | ow_j2
  ·refine sR tfm ⟨[2, 3, 4, 5, 6, 11], [5, 6], [], []⟩ ⟨[(2, I a2from), (3, I a3to), (4, I a4energy), (5, .ptr 5 0), (6, .ptr 6 0), (11, B r1)], [(5, .box 24 [S a0t.Name, .p (.val (.slice none 0 0))]), (6, .box 28 (bxc (GCl.cs a1c)))]⟩ krf ?_
   refine sS ?_
   refine sS ?_
   refine sG ?_
   refine xR 5 krf ?_
   refine xC [.agg [.id, .sl 7], .id, .id, .id, .id] krf (g_law35_usable_ok n (⟨a0t.Name, OL.nil.toL⟩ : GTf) a1c a2from a3to a4energy) krf krf (fun _ => by kernel_rfl) (fun r6 => ?_)
   refine xR 1 krf ?_
   refine xE ?_
   refine sN ⟨[2, 3, 5, 6, 11, 49], [5, 6], [], []⟩ ⟨[(2, I a2from), (3, I a3to), (5, .ptr 5 0), (6, .ptr 6 0), (11, B r1), (49, B (!r6))], [(5, .box 24 [S a0t.Name, .p (.val (.slice none 0 0))]), (6, .box 28 (bxc (GCl.cs a1c)))]⟩ krf ?_
   refine sC (!r6) krf ?_ ?_
   ·refine sR tfm ⟨[10], [], [], []⟩ ⟨[(10, B r1)], []⟩ krf ?_
    refine sT ?_
    refine sq_r ?_
    exact qR (.id) krf krf krf
   ·refine sK ?_
    refine sN ⟨[2, 3, 5, 6, 11], [5, 6], [], []⟩ ⟨[(2, I a2from), (3, I a3to), (5, .ptr 5 0), (6, .ptr 6 0), (11, B r1)], [(5, .box 24 [S a0t.Name, .p (.val (.slice none 0 0))]), (6, .box 28 (bxc (GCl.cs a1c)))]⟩ krf ?_
    refine sS ?_
    refine sG ?_
    refine xR 4 krf ?_
    refine xC [.agg [.id, .sl 7], .id, .id, .id, .id] krf (g_quote_Quote_ok n (⟨a0t.Name, OL.nil.toL⟩ : GTf) a1c a2from a3to 0) krf krf (fun _ => by kernel_rfl) (fun r7 => ?_)
    refine xR 5 krf ?_
    refine xE ?_
    refine sN ⟨[2, 3, 5, 6, 11, 15, 16], [5, 6], [], []⟩ ⟨[(2, I a2from), (3, I a3to), (5, .ptr 5 0), (6, .ptr 6 0), (11, B r1), (15, I r7.1), (16, I r7.2)], [(5, .box 24 [S a0t.Name, .p (.val (.slice none 0 0))]), (6, .box 28 (bxc (GCl.cs a1c)))]⟩ krf ?_
    refine sS ?_
    refine sG ?_
    refine xR 6 krf ?_
    refine xC [.agg [.id, .sl 7], .id, .agg [.id, .id, .id, .sl 2]] krf (g_bill_Bill_ok n (⟨a0t.Name, OL.nil.toL⟩ : GTf) a1c (⟨a2from, a3to, a2from, []⟩ : GSs)) krf krf (fun _ => by kernel_rfl) (fun r8 => ?_)
    refine xR 6 krf ?_
    refine xE ?_
    refine sN ⟨[11, 15, 16, 17, 18], [17], [], []⟩ ⟨[(11, B r1), (15, I r7.1), (16, I r7.2), (17, .ptr 17 0), (18, I r8.2)], [(17, .box 54 (bxc (GBill.cs r8.1)))]⟩ krf ?_
    refine sS ?_
    refine sG ?_
    refine xR 2 krf ?_
    refine xS r1 (fun h9 => ?_) (fun h9 => ?_)
    ·refine xO (want_tt krf h9) krf ?_
     refine xR 2 krf ?_
     refine xS (!eqI r7.2 0) (fun h10 => ?_) (fun h10 => ?_)
     ·refine xN (want_ft krf h10) krf ?_
      refine xR 10 krf ?_
      refine xE ?_
      refine sN ⟨[10], [], [], []⟩ ⟨[(10, B true)], []⟩ krf ?_
      refine sT ?_
      exact qR (.id) krf krf krf
     ·refine xO (want_ff krf h10) krf ?_
      refine xR 2 krf ?_
      refine xS (eqI r8.2 0) (fun h11 => ?_) (fun h11 => ?_)
      ·refine xO (want_tt krf h11) krf ?_
       refine xR 7 krf ?_
       refine xE ?_
       refine sN ⟨[10], [], [], []⟩ ⟨[(10, B (eqI r8.1.Total r7.1))], []⟩ krf ?_
       refine sT ?_
       exact qR (.id) krf krf krf
      ·refine xN (want_tf krf h11) krf ?_
       refine xR 7 krf ?_
       refine xE ?_
       refine sN ⟨[10], [], [], []⟩ ⟨[(10, B false)], []⟩ krf ?_
       refine sT ?_
       exact qR (.id) krf krf krf
    ·refine xN (want_tf krf h9) krf ?_
     refine xR 13 krf ?_
     refine xE ?_
     refine sN ⟨[10], [], [], []⟩ ⟨[(10, B false)], []⟩ krf ?_
     refine sT ?_
     exact qR (.id) krf krf krf
  ·refine sR tfm ⟨[2, 3, 4, 5, 6, 11], [5, 6, 39], [], []⟩ ⟨[(2, I a2from), (3, I a3to), (4, I a4energy), (5, .ptr 5 0), (6, .ptr 6 0), (11, B r1)], [(5, .box 24 [S a0t.Name, .tsl 7 (List.map GAr.cs (OL.own ow_j2).toL) 39]), (6, .box 28 (bxc (GCl.cs a1c))), (39, .arr 44 7 (List.map GAr.cs (OL.own ow_j2).toL).length)]⟩ krf ?_
   refine sS ?_
   refine sS ?_
   refine sG ?_
   refine xR 5 krf ?_
   refine xC [.agg [.id, .sl 7], .id, .id, .id, .id] krf (g_law35_usable_ok n (⟨a0t.Name, (OL.own ow_j2).toL⟩ : GTf) a1c a2from a3to a4energy) krf krf (fun _ => by kernel_rfl) (fun r6 => ?_)
   refine xR 1 krf ?_
   refine xE ?_
   refine sN ⟨[2, 3, 5, 6, 11, 49], [5, 6, 39], [], []⟩ ⟨[(2, I a2from), (3, I a3to), (5, .ptr 5 0), (6, .ptr 6 0), (11, B r1), (49, B (!r6))], [(5, .box 24 [S a0t.Name, .tsl 7 (List.map GAr.cs (OL.own ow_j2).toL) 39]), (6, .box 28 (bxc (GCl.cs a1c))), (39, .arr 44 7 (List.map GAr.cs (OL.own ow_j2).toL).length)]⟩ krf ?_
   refine sC (!r6) krf ?_ ?_
   ·refine sR tfm ⟨[10], [], [], []⟩ ⟨[(10, B r1)], []⟩ krf ?_
    refine sT ?_
    refine sq_r ?_
    exact qR (.id) krf krf krf
   ·refine sK ?_
    refine sN ⟨[2, 3, 5, 6, 11], [5, 6, 39], [], []⟩ ⟨[(2, I a2from), (3, I a3to), (5, .ptr 5 0), (6, .ptr 6 0), (11, B r1)], [(5, .box 24 [S a0t.Name, .tsl 7 (List.map GAr.cs (OL.own ow_j2).toL) 39]), (6, .box 28 (bxc (GCl.cs a1c))), (39, .arr 44 7 (List.map GAr.cs (OL.own ow_j2).toL).length)]⟩ krf ?_
    refine sS ?_
    refine sG ?_
    refine xR 4 krf ?_
    refine xC [.agg [.id, .sl 7], .id, .id, .id, .id] krf (g_quote_Quote_ok n (⟨a0t.Name, (OL.own ow_j2).toL⟩ : GTf) a1c a2from a3to 0) krf krf (fun _ => by kernel_rfl) (fun r7 => ?_)
    refine xR 5 krf ?_
    refine xE ?_
    refine sN ⟨[2, 3, 5, 6, 11, 15, 16], [5, 6, 39], [], []⟩ ⟨[(2, I a2from), (3, I a3to), (5, .ptr 5 0), (6, .ptr 6 0), (11, B r1), (15, I r7.1), (16, I r7.2)], [(5, .box 24 [S a0t.Name, .tsl 7 (List.map GAr.cs (OL.own ow_j2).toL) 39]), (6, .box 28 (bxc (GCl.cs a1c))), (39, .arr 44 7 (List.map GAr.cs (OL.own ow_j2).toL).length)]⟩ krf ?_
    refine sS ?_
    refine sG ?_
    refine xR 6 krf ?_
    refine xC [.agg [.id, .sl 7], .id, .agg [.id, .id, .id, .sl 2]] krf (g_bill_Bill_ok n (⟨a0t.Name, (OL.own ow_j2).toL⟩ : GTf) a1c (⟨a2from, a3to, a2from, []⟩ : GSs)) krf krf (fun _ => by kernel_rfl) (fun r8 => ?_)
    refine xR 6 krf ?_
    refine xE ?_
    refine sN ⟨[11, 15, 16, 17, 18], [17], [], []⟩ ⟨[(11, B r1), (15, I r7.1), (16, I r7.2), (17, .ptr 17 0), (18, I r8.2)], [(17, .box 54 (bxc (GBill.cs r8.1)))]⟩ krf ?_
    refine sS ?_
    refine sG ?_
    refine xR 2 krf ?_
    refine xS r1 (fun h9 => ?_) (fun h9 => ?_)
    ·refine xO (want_tt krf h9) krf ?_
     refine xR 2 krf ?_
     refine xS (!eqI r7.2 0) (fun h10 => ?_) (fun h10 => ?_)
     ·refine xN (want_ft krf h10) krf ?_
      refine xR 10 krf ?_
      refine xE ?_
      refine sN ⟨[10], [], [], []⟩ ⟨[(10, B true)], []⟩ krf ?_
      refine sT ?_
      exact qR (.id) krf krf krf
     ·refine xO (want_ff krf h10) krf ?_
      refine xR 2 krf ?_
      refine xS (eqI r8.2 0) (fun h11 => ?_) (fun h11 => ?_)
      ·refine xO (want_tt krf h11) krf ?_
       refine xR 7 krf ?_
       refine xE ?_
       refine sN ⟨[10], [], [], []⟩ ⟨[(10, B (eqI r8.1.Total r7.1))], []⟩ krf ?_
       refine sT ?_
       exact qR (.id) krf krf krf
      ·refine xN (want_tf krf h11) krf ?_
       refine xR 7 krf ?_
       refine xE ?_
       refine sN ⟨[10], [], [], []⟩ ⟨[(10, B false)], []⟩ krf ?_
       refine sT ?_
       exact qR (.id) krf krf krf
    ·refine xN (want_tf krf h9) krf ?_
     refine xR 13 krf ?_
     refine xE ?_
     refine sN ⟨[10], [], [], []⟩ ⟨[(10, B false)], []⟩ krf ?_
     refine sT ?_
     exact qR (.id) krf krf krf
end Go.Proofs
namespace Go.Proofs
open Go Go.Abs
set_option maxRecDepth 100000
set_option linter.unusedVariables false
structure GTk where
 Kind : Int
 Text : List UInt8
 N : Int
 At : Int
deriving DecidableEq
def GTk.cs (x : GTk) : List PV := [VI x.Kind, VS x.Text, VI x.N, VI x.At]
structure GDg where
 Err : Int
 At : Int
deriving DecidableEq
def GDg.cs (x : GDg) : List PV := [VI x.Err, VI x.At]
structure GPr where
 tokens : List GTk
 pos : Int
 length : Int
 diags : List GDg
deriving DecidableEq
def GPr.cs (x : GPr) : List PV := [.sl 4 (List.map GTk.cs x.tokens), VI x.pos, VI x.length, .sl 2 (List.map GDg.cs x.diags)]
structure GTr where
 article : GAr
 values : List (List PV)
 good : Bool
def GTr.cs (x : GTr) : List PV := [VI x.article.Kind, VI x.article.Days, VI x.article.From, VI x.article.To, VI x.article.Price, VI x.article.Unit, VI x.article.Free, .sl 5 (List.map idc x.values), VB x.good]
def g_ref26_Offset_l1 (a0c : GCl) (a1minute : Int) (recl1 : (Int × Int) → Option Int) (l1_1 : Int) (l1_2 : Int) : Option Int :=
 cond (ltI l1_2 (lenI (List.map GCh.cs a0c.Changes)))
  ((getI a0c.Changes l1_2).bind fun x2 =>
  cond (leI x2.At a1minute)
   ((getI a0c.Changes l1_2).bind fun x3 =>
   recl1 (x3.Offset, wi (l1_2 + 1)))
   (recl1 (l1_1, wi (l1_2 + 1))))
  (some l1_1)
def g_ref26_Offset (n : Nat) (a0c : GCl) (a1minute : Int) : Option Int :=
 loopN (fun recl1 (l1_1, l1_2) => g_ref26_Offset_l1 a0c a1minute recl1 l1_1 l1_2) n (a0c.Offset, 0)
def g_ref26_Local (n : Nat) (a0c : GCl) (a1minute : Int) : Option (Int × Int × Int) :=
 ((g_ref26_Valid n a0c).bind fun r2 =>
 cond (!r2)
  (some true)
  (cond (ltI a1minute 0)
   (some true)
   (some (ltI 52560000 a1minute)))).bind fun j1 =>
 cond j1
  (some (0, 0, 1))
  ((g_ref26_Offset n a0c a1minute).bind fun r5 =>
  cond (ltI (wi (a1minute + r5)) 0)
   (some ((-1), wi ((wi (a1minute + r5)) - (-1440)), 0))
   (some (wi (Int.tdiv (wi (a1minute + r5)) 1440), wi ((wi (a1minute + r5)) - (wi (1440 * (wi (Int.tdiv (wi (a1minute + r5)) 1440))))), 0)))
def g_ref26_Type_j5 (a1day : Int) : Option (Int × Int) :=
 cond (eqI (Int.tmod (wi (a1day + 7)) 7) 6)
  (some (2, 0))
  (cond (eqI (Int.tmod (wi (a1day + 7)) 7) 5)
   (some (1, 0))
   (some (0, 0)))
def g_ref26_Type_l6 (a0c : GCl) (a1day : Int) (recl6 : Int → Option (Int × Int)) (l6 : Int) : Option (Int × Int) :=
 cond (ltI l6 (lenI (List.map ci a0c.Holidays)))
  ((getI a0c.Holidays l6).bind fun x7 =>
  cond (eqI x7 a1day)
   (some (2, 0))
   (recl6 (wi (l6 + 1))))
  (g_ref26_Type_j5 a1day)
def g_ref26_Type (n : Nat) (a0c : GCl) (a1day : Int) : Option (Int × Int) :=
 ((g_ref26_Valid n a0c).bind fun r2 =>
 cond (!r2)
  (some true)
  (cond (ltI a1day (-1))
   (some true)
   (some (ltI 36501 a1day)))).bind fun j1 =>
 cond j1
  (some (0, 1))
  (loopN (fun recl6 l6 => g_ref26_Type_l6 a0c a1day recl6 l6) n 0)
def g_ref32_Applies (n : Nat) (a0a : GAr) (a1c : GCl) (a2minute : Int) : Option Bool :=
 (g_ref32_Article n a0a).bind fun r1 =>
 cond (!r1)
  (some false)
  ((g_ref26_Local n a1c a2minute).bind fun r2 =>
  cond (!eqI r2.2.2 0)
   (some false)
   ((g_ref26_Type n a1c r2.1).bind fun r3 =>
   (cond (eqI r3.1 1)
    (some (eqI (Int.tmod (wi (Int.tdiv a0a.Days 2)) 2) 1))
    (some (eqI (Int.tmod a0a.Days 2) 1))).bind fun j4 =>
   (cond (eqI r3.1 2)
    (some (eqI (Int.tmod (wi (Int.tdiv a0a.Days 4)) 2) 1))
    (some j4)).bind fun j5 =>
   cond j5
    (cond (leI a0a.From r2.2.1)
     (some (ltI r2.2.1 a0a.To))
     (some false))
    (some false)))
def g_ref31_amount (n : Nat) (a0n : Int) : Option Bool :=
 cond (leI 0 a0n)
  (some (leI a0n 1000000000))
  (some false)
def g_ref31_checked (n : Nat) (a0n : Int) : Option (Int × Int) :=
 (g_ref31_amount n a0n).bind fun r1 =>
 cond (!r1)
  (some (0, 3))
  (some (a0n, 0))
def g_ref31_Started (n : Nat) (a0price : Int) (a1quantity : Int) (a2unit : Int) : Option (Int × Int) :=
 ((g_ref31_amount n a0price).bind fun r2 =>
 cond (!r2)
  (some true)
  ((g_ref31_amount n a1quantity).bind fun r4 =>
  cond (!r4)
   (some true)
   (cond (ltI a2unit 1)
    (some true)
    (some (ltI 1000000000 a2unit))))).bind fun j1 =>
 cond j1
  (some (0, 1))
  (cond (!eqI a2unit 0) (
   (g_ref31_checked n (wi (a0price * (wi (Int.tdiv (wi ((wi (a1quantity + a2unit)) - 1)) a2unit))))).bind fun r7 =>
   some (r7.1, r7.2)) none)
def g_ref31_divided (n : Nat) (a0n : Int) (a1d : Int) : Option Int :=
 cond (!eqI (wi (2 * a1d)) 0) (
  some (wi (Int.tdiv (wi ((wi (2 * a0n)) + a1d)) (wi (2 * a1d))))) none
def g_ref31_Times (n : Nat) (a0price : Int) (a1quantity : Int) (a2per : Int) : Option (Int × Int) :=
 ((g_ref31_amount n a0price).bind fun r2 =>
 cond (!r2)
  (some true)
  ((g_ref31_amount n a1quantity).bind fun r4 =>
  cond (!r4)
   (some true)
   (cond (ltI a2per 1)
    (some true)
    (some (ltI 1000000000 a2per))))).bind fun j1 =>
 cond j1
  (some (0, 1))
  ((g_ref31_divided n (wi (a0price * a1quantity)) a2per).bind fun r7 =>
  (g_ref31_checked n r7).bind fun r8 =>
  some (r8.1, r8.2))
def g_ref31_Tax (n : Nat) (a0n : Int) (a1rate : Int) : Option (Int × Int) :=
 ((g_ref31_amount n a0n).bind fun r2 =>
 cond (!r2)
  (some true)
  (cond (ltI a1rate 0)
   (some true)
   (some (ltI 100000 a1rate)))).bind fun j1 =>
 cond j1
  (some (0, 1))
  ((g_ref31_divided n (wi (a0n * a1rate)) 10000).bind fun r5 =>
  (g_ref31_checked n r5).bind fun r6 =>
  some (r6.1, r6.2))
structure GReading where
 Serial : Int
 Number : Int
 Minute : Int
 Register : Int
 Link : Int
deriving DecidableEq
def GReading.cs (x : GReading) : List PV := [VI x.Serial, VI x.Number, VI x.Minute, VI x.Register, VU x.Link]
structure GClaim where
 Tariff : GTf
 Calendar : GCl
 Readings : List GReading
 Seed : Int
 Session : GSs
 Bill : GBill
deriving DecidableEq
def GClaim.cs (x : GClaim) : List PV := [VS x.Tariff.Name, .sl 7 (List.map GAr.cs x.Tariff.Articles), VI x.Calendar.Offset, .sl 2 (List.map GCh.cs x.Calendar.Changes), .sl 1 (List.map ci x.Calendar.Holidays), .sl 5 (List.map GReading.cs x.Readings), VU x.Seed, VI x.Session.From, VI x.Session.To, VI x.Session.End, .sl 2 (List.map GSl.cs x.Session.Slices), .sl 2 (List.map GLine.cs x.Bill.Lines), VI x.Bill.Net, VI x.Bill.Tax, VI x.Bill.Total]
structure GAE where
 Claim : GClaim
 follows : GSs
 bill : GBill
 rate : Int
deriving DecidableEq
def GAE.cs (x : GAE) : List PV := [VS x.Claim.Tariff.Name, .sl 7 (List.map GAr.cs x.Claim.Tariff.Articles), VI x.Claim.Calendar.Offset, .sl 2 (List.map GCh.cs x.Claim.Calendar.Changes), .sl 1 (List.map ci x.Claim.Calendar.Holidays), .sl 5 (List.map GReading.cs x.Claim.Readings), VU x.Claim.Seed, VI x.Claim.Session.From, VI x.Claim.Session.To, VI x.Claim.Session.End, .sl 2 (List.map GSl.cs x.Claim.Session.Slices), .sl 2 (List.map GLine.cs x.Claim.Bill.Lines), VI x.Claim.Bill.Net, VI x.Claim.Bill.Tax, VI x.Claim.Bill.Total, VI x.follows.From, VI x.follows.To, VI x.follows.End, .sl 2 (List.map GSl.cs x.follows.Slices), .sl 2 (List.map GLine.cs x.bill.Lines), VI x.bill.Net, VI x.bill.Tax, VI x.bill.Total, VI x.rate]
def g_a_inside (n : Nat) (a0n : Int) (a1least : Int) (a2greatest : Int) : Option Bool :=
 cond (leI a1least a0n)
  (some (leI a0n a2greatest))
  (some false)
def g_a_isKey (n : Nat) (a0w : List UInt8) : Option Bool :=
 (cond (eqS a0w [102, 101, 101, 100, 101, 114])
  (some (eqS a0w [102, 101, 101, 100, 101, 114]))
  (cond (eqS a0w [99, 97, 98, 108, 101])
   (some (eqS a0w [99, 97, 98, 108, 101]))
   (cond (eqS a0w [111, 119, 110, 101, 114])
    (some (eqS a0w [111, 119, 110, 101, 114]))
    (cond (eqS a0w [99, 111, 110, 116, 114, 97, 99, 116])
     (some (eqS a0w [99, 111, 110, 116, 114, 97, 99, 116]))
     (cond (eqS a0w [99, 104, 97, 114, 103, 101, 114])
      (some (eqS a0w [99, 104, 97, 114, 103, 101, 114]))
      (cond (eqS a0w [98, 97, 121])
       (some (eqS a0w [98, 97, 121]))
       (some (eqS a0w [116, 97, 114, 105, 102, 102])))))))).bind fun j1 =>
 cond j1
  (some true)
  ((cond (eqS a0w [108, 105, 109, 105, 116])
   (some (eqS a0w [108, 105, 109, 105, 116]))
   (cond (eqS a0w [110, 101, 117, 116, 114, 97, 108])
    (some (eqS a0w [110, 101, 117, 116, 114, 97, 108]))
    (cond (eqS a0w [102, 117, 115, 101])
     (some (eqS a0w [102, 117, 115, 101]))
     (cond (eqS a0w [116, 104, 101, 114, 109, 97, 108])
      (some (eqS a0w [116, 104, 101, 114, 109, 97, 108]))
      (cond (eqS a0w [102, 114, 111, 109])
       (some (eqS a0w [102, 114, 111, 109]))
       (cond (eqS a0w [97, 116])
        (some (eqS a0w [97, 116]))
        (cond (eqS a0w [112, 104, 97, 115, 101, 115])
         (some (eqS a0w [112, 104, 97, 115, 101, 115]))
         (cond (eqS a0w [97, 109, 112, 115])
          (some (eqS a0w [97, 109, 112, 115]))
          (cond (eqS a0w [102, 97, 108, 108, 98, 97, 99, 107])
           (some (eqS a0w [102, 97, 108, 108, 98, 97, 99, 107]))
           (cond (eqS a0w [99, 97, 114, 100])
            (some (eqS a0w [99, 97, 114, 100]))
            (some (eqS a0w [114, 97, 110, 107])))))))))))).bind fun j2 =>
  cond j2
   (some true)
   ((cond (eqS a0w [115, 116, 97, 114, 116])
    (some (eqS a0w [115, 116, 97, 114, 116]))
    (cond (eqS a0w [101, 110, 101, 114, 103, 121])
     (some (eqS a0w [101, 110, 101, 114, 103, 121]))
     (cond (eqS a0w [116, 105, 109, 101])
      (some (eqS a0w [116, 105, 109, 101]))
      (cond (eqS a0w [105, 100, 108, 101])
       (some (eqS a0w [105, 100, 108, 101]))
       (cond (eqS a0w [99, 97, 112])
        (some (eqS a0w [99, 97, 112]))
        (some (eqS a0w [116, 97, 120]))))))).bind fun j3 =>
   cond j3
    (some true)
    ((cond (eqS a0w [111, 110])
     (some (eqS a0w [111, 110]))
     (cond (eqS a0w [119, 111, 114, 107])
      (some (eqS a0w [119, 111, 114, 107]))
      (cond (eqS a0w [115, 97, 116, 117, 114, 100, 97, 121])
       (some (eqS a0w [115, 97, 116, 117, 114, 100, 97, 121]))
       (cond (eqS a0w [115, 117, 110, 100, 97, 121])
        (some (eqS a0w [115, 117, 110, 100, 97, 121]))
        (cond (eqS a0w [98, 101, 116, 119, 101, 101, 110])
         (some (eqS a0w [98, 101, 116, 119, 101, 101, 110]))
         (cond (eqS a0w [112, 101, 114])
          (some (eqS a0w [112, 101, 114]))
          (some (eqS a0w [102, 114, 101, 101])))))))).bind fun j4 =>
    cond j4
     (some true)
     (some false))))
def g_a_validArticle (n : Nat) (a0a : GAr) : Option Bool :=
 ((g_a_inside n a0a.Kind 1 6).bind fun r2 =>
 cond (!r2)
  (some true)
  ((g_a_inside n a0a.Days 1 7).bind fun r4 =>
  some (!r4))).bind fun j1 =>
 cond j1
  (some false)
  (((g_a_inside n a0a.From 0 1439).bind fun r6 =>
  cond (!r6)
   (some true)
   (cond (leI a0a.To a0a.From)
    (some true)
    (some (ltI 1440 a0a.To)))).bind fun j5 =>
  cond j5
   (some false)
   ((cond (eqI a0a.From 0)
    (cond (eqI a0a.To 1440)
     (some (eqI a0a.Days 7))
     (some false))
    (some false)).bind fun j9 =>
   (cond (eqI a0a.Unit 0)
    (some (eqI a0a.Free 0))
    (some false)).bind fun j12 =>
   (g_a_inside n a0a.Price 0 1000000).bind fun r14 =>
   (cond (eqI a0a.Kind 3)
    (some (eqI a0a.Kind 3))
    (some (eqI a0a.Kind 4))).bind fun j15 =>
   cond j15
    ((cond r14
     ((g_a_inside n a0a.Unit 1 1440).bind fun r18 =>
     cond r18
      ((g_a_inside n a0a.Free 0 1440).bind fun r20 =>
      some r20)
      (some false))
     (some false)).bind fun j16 =>
    some j16)
    (cond (eqI a0a.Kind 5)
     ((cond r14
      (cond j12
       (some j9)
       (some false))
      (some false)).bind fun j21 =>
     some j21)
     (cond (eqI a0a.Kind 6)
      (((g_a_inside n a0a.Price 0 10000).bind fun r25 =>
      cond r25
       (cond j12
        (some j9)
        (some false))
       (some false)).bind fun j24 =>
      some j24)
      (cond r14
       (some j12)
       (some false))))))
def g_ref33_Valid_l8 (a0s : GSs) (recl8 : Int → Option Bool) (l8 : Int) : Option Bool :=
 cond (ltI l8 (lenI (List.map GSl.cs a0s.Slices)))
  ((getI a0s.Slices l8).bind fun x9 =>
  (cond (ltI x9.Minute a0s.From)
   (some true)
   (cond (leI a0s.End x9.Minute)
    (some true)
    (cond (ltI x9.Energy 0)
     (some true)
     (cond (ltI 10000 x9.Energy)
      (some true)
      (cond (ltI 0 l8)
       ((getI a0s.Slices (wi (l8 - 1))).bind fun x16 =>
       some (leI x9.Minute x16.Minute))
       (some false)))))).bind fun j10 =>
  cond j10
   (some false)
   (recl8 (wi (l8 + 1))))
  (some true)
def g_ref33_Valid (n : Nat) (a0s : GSs) : Option Bool :=
 (cond (ltI a0s.From 0)
  (some true)
  (cond (leI a0s.To a0s.From)
   (some true)
   (cond (ltI 52560000 a0s.To)
    (some true)
    (cond (ltI 2880 (wi (a0s.To - a0s.From)))
     (some true)
     (cond (ltI a0s.End a0s.From)
      (some true)
      (cond (ltI a0s.To a0s.End)
       (some true)
       (some (ltI 48 (lenI (List.map GSl.cs a0s.Slices)))))))))).bind fun j1 =>
 cond j1
  (some false)
  (loopN (fun recl8 l8 => g_ref33_Valid_l8 a0s recl8 l8) n 0)
def g_ref33_Minutes_l1 (n : Nat) (a0a : GAr) (a1c : GCl) (a3to : Int) (recl1 : (Int × Int) → Option Int) (l1_1 : Int) (l1_2 : Int) : Option Int :=
 cond (ltI l1_2 a3to)
  ((g_ref32_Applies n a0a a1c l1_2).bind fun r2 =>
  cond r2
   (recl1 (wi (l1_1 + 1), wi (l1_2 + 1)))
   (recl1 (l1_1, wi (l1_2 + 1))))
  (some l1_1)
def g_ref33_Minutes (n : Nat) (a0a : GAr) (a1c : GCl) (a2from : Int) (a3to : Int) : Option Int :=
 loopN (fun recl1 (l1_1, l1_2) => g_ref33_Minutes_l1 n a0a a1c a3to recl1 l1_1 l1_2) n (0, a2from)
def g_ref33_Energy_l1 (n : Nat) (a0a : GAr) (a1c : GCl) (a2s : GSs) (recl1 : (Int × Int) → Option Int) (l1_1 : Int) (l1_2 : Int) : Option Int :=
 cond (ltI l1_2 (lenI (List.map GSl.cs a2s.Slices)))
  ((getI a2s.Slices l1_2).bind fun x2 =>
  (g_ref32_Applies n a0a a1c x2.Minute).bind fun r3 =>
  cond r3
   ((getI a2s.Slices l1_2).bind fun x4 =>
   recl1 (wi (l1_1 + x4.Energy), wi (l1_2 + 1)))
   (recl1 (l1_1, wi (l1_2 + 1))))
  (some l1_1)
def g_ref33_Energy (n : Nat) (a0a : GAr) (a1c : GCl) (a2s : GSs) : Option Int :=
 loopN (fun recl1 (l1_1, l1_2) => g_ref33_Energy_l1 n a0a a1c a2s recl1 l1_1 l1_2) n (0, 0)
def g_ref33_Line (n : Nat) (a0a : GAr) (a1c : GCl) (a2s : GSs) : Option (Int × Int) :=
 (g_ref32_Article n a0a).bind fun r1 =>
 (g_ref26_Valid n a1c).bind fun r2 =>
 (g_ref33_Valid n a2s).bind fun r3 =>
 (cond (!r1)
  (some true)
  (cond (!r2)
   (some true)
   (some (!r3)))).bind fun j4 =>
 cond j4
  (some (0, 1))
  (cond (eqI a0a.Kind 1)
   ((g_ref33_Minutes n a0a a1c a2s.From (wi (a2s.From + 1))).bind fun r7 =>
   some (wi (a0a.Price * r7), 0))
   (cond (eqI a0a.Kind 2)
    ((g_ref33_Energy n a0a a1c a2s).bind fun r8 =>
    (g_ref31_Times n a0a.Price r8 1000).bind fun r9 =>
    some (r9.1, r9.2))
    (cond (eqI a0a.Kind 3)
     ((g_ref33_Minutes n a0a a1c a2s.From a2s.To).bind fun r10 =>
     (g_ref31_Started n a0a.Price (maxI 0 (wi (r10 - a0a.Free))) a0a.Unit).bind fun r11 =>
     some (r11.1, r11.2))
     (cond (eqI a0a.Kind 4)
      ((g_ref33_Minutes n a0a a1c a2s.End a2s.To).bind fun r12 =>
      (g_ref31_Started n a0a.Price (maxI 0 (wi (r12 - a0a.Free))) a0a.Unit).bind fun r13 =>
      some (r13.1, r13.2))
      (some (0, 0))))))
structure GLs where
 from_ : Int
 to_ : Int
deriving DecidableEq
def GLs.cs (x : GLs) : List PV := [VI x.from_, VI x.to_]
end Go.Proofs
namespace Go.Proofs
open Go Go.Abs Go.ChangeShapes Go.WideShapes Go.ChangeAt Go.RowKit Go.Proofs.Ytehocmildcedeaa
set_option maxRecDepth 100000
set_option linter.unusedVariables false
structure GAr.wf (x : GAr) : Prop where
 Kind : i64b x.Kind
 Days : i64b x.Days
 From : i64b x.From
 To : i64b x.To
 Price : i64b x.Price
 Unit : i64b x.Unit
 Free : i64b x.Free
theorem sh_GAr {d : Nat} {cs : List PV} (h : Sh Try.prog (d + 2) 44 cs) : ∃ r : GAr, cs = GAr.cs r ∧ GAr.wf r := by
 have h := sh_struct Try.underlying44 h
 obtain ⟨_, _, rfl, h0, _, _, rfl, h1, _, _, rfl, h2, _, _, rfl, h3, _, _, rfl, h4, _, _, rfl, h5, _, _, rfl, h6, rfl⟩ := h
 obtain ⟨x0, rfl, w0⟩ := sh_i64 Try.underlying3 h0
 obtain ⟨x1, rfl, w1⟩ := sh_i64 Try.underlying3 h1
 obtain ⟨x2, rfl, w2⟩ := sh_i64 Try.underlying3 h2
 obtain ⟨x3, rfl, w3⟩ := sh_i64 Try.underlying3 h3
 obtain ⟨x4, rfl, w4⟩ := sh_i64 Try.underlying3 h4
 obtain ⟨x5, rfl, w5⟩ := sh_i64 Try.underlying3 h5
 obtain ⟨x6, rfl, w6⟩ := sh_i64 Try.underlying3 h6
 exact ⟨⟨x0, x1, x2, x3, x4, x5, x6⟩, rfl, ⟨w0, w1, w2, w3, w4, w5, w6⟩⟩
structure GTf.wf (x : GTf) : Prop where
 Name : strb x.Name
 Articles : (listb GAr.wf) x.Articles
theorem sh_GTf {d : Nat} {cs : List PV} (h : Sh Try.prog (d + 4) 24 cs) : ∃ r : GTf, cs = GTf.cs r ∧ GTf.wf r := by
 have h := sh_struct Try.underlying24 h
 obtain ⟨_, _, rfl, h0, _, _, rfl, h1, rfl⟩ := h
 obtain ⟨x0, rfl, w0⟩ := sh_str Try.underlying9 h0
 obtain ⟨x1, rfl, w1⟩ := sh_list (S := 7) (f := GAr.cs) (W := GAr.wf) Try.underlying22 krf (fun c h => sh_GAr h) h1
 exact ⟨⟨x0, x1⟩, rfl, ⟨w0, w1⟩⟩
structure GCh.wf (x : GCh) : Prop where
 At : i64b x.At
 Offset : i64b x.Offset
theorem sh_GCh {d : Nat} {cs : List PV} (h : Sh Try.prog (d + 2) 78 cs) : ∃ r : GCh, cs = GCh.cs r ∧ GCh.wf r := by
 have h := sh_struct Try.underlying78 h
 obtain ⟨_, _, rfl, h0, _, _, rfl, h1, rfl⟩ := h
 obtain ⟨x0, rfl, w0⟩ := sh_i64 Try.underlying3 h0
 obtain ⟨x1, rfl, w1⟩ := sh_i64 Try.underlying3 h1
 exact ⟨⟨x0, x1⟩, rfl, ⟨w0, w1⟩⟩
structure GCl.wf (x : GCl) : Prop where
 Offset : i64b x.Offset
 Changes : (listb GCh.wf) x.Changes
 Holidays : (listb i64b) x.Holidays
theorem sh_GCl {d : Nat} {cs : List PV} (h : Sh Try.prog (d + 4) 28 cs) : ∃ r : GCl, cs = GCl.cs r ∧ GCl.wf r := by
 have h := sh_struct Try.underlying28 h
 obtain ⟨_, _, rfl, h0, _, _, rfl, h1, _, _, rfl, h2, rfl⟩ := h
 obtain ⟨x0, rfl, w0⟩ := sh_i64 Try.underlying3 h0
 obtain ⟨x1, rfl, w1⟩ := sh_list (S := 2) (f := GCh.cs) (W := GCh.wf) Try.underlying25 krf (fun c h => sh_GCh h) h1
 obtain ⟨x2, rfl, w2⟩ := sh_list (S := 1) (f := ci) (W := i64b) Try.underlying26 krf (fun c h => sh_i64 Try.underlying3 h) h2
 exact ⟨⟨x0, x1, x2⟩, rfl, ⟨w0, w1, w2⟩⟩
theorem sized_of_change {H : Type} {enc : TypeId × Value → H} {a : Assume} {C : Checked} {os : Os} {f : FuncId} {fn : Func} {s : ChangeSpec} {conds : List PathCond} {apart fresh handsOn again : Bool}
  (own : ownKnob C.prog.godebug = none) (started : os.Started) (noInit : C.prog.inits.idxOf? f = none) (hfn : C.prog.funcs[f]? = some fn)
  (witness : ∃ (w : World) (tape : Tape) (i : Input), w.os = os ∧ (w.forCall tape i).Shaped C.prog ∧ i.vars = [] ∧ Input.okWide C.prog (w.forCall tape i) .any w.heap.size f i ∧
   s.pre6 enc C.prog fn conds apart (w.forCall tape i).memory i.args ∧ a.holds C.prog (lone (Frame.enter C.prog f i.args .normal) [] (w.forCall tape i)))
  (contract : ∀ (W : World) (base : Nat) (args : Array Value) (ds gs : List (DataW H)) (before : List MemPlace),
   (∀ (j : Nat) t v, fn.params[j]? = some t → args[j]? = some v → Value.okWide C.prog W .any base t v) →
   DataW.Whole enc C.prog fn.params.toList s.vars apart W args.toList ds gs before →
   (DataW.weightsEach C.prog (fn.params.toList ++ s.plain.varTypes C.prog) (ds ++ gs)).all (· ≤ reachBytes) = true →
   Calls C.prog f args W fun e W' => ∃ v, e = .returned v ∧ s.post enc C.prog fn apart fresh handsOn again W args v W') :
  ReturnsInHanded a C os f .any (s.pre6 enc C.prog fn conds apart) (s.post enc C.prog fn apart fresh handsOn again) := by
 have h := returnsInHanded_of_change_and (a := a) (C := C) (os := os) (f := f) (fn := fn) (s := s) (conds := conds) (apart := apart) (fresh := fresh) (handsOn := handsOn) (again := again) (enc := enc) (X := fun _ _ => True) (fun _ _ _ _ _ => trivial) own started noInit hfn
  (by obtain ⟨w, t, i, h1, h2, h3, h4, h5, h6⟩ := witness; exact ⟨w, t, i, h1, h2, h3, h4, ⟨⟨h5.1, trivial⟩, h5.2⟩, h6⟩)
  (fun W base args ds gs before h1 h2 _ h3 _ _ => contract W base args ds gs before h1 h2 h3)
 have e : (fun w args => (s.pre enc C.prog fn conds apart w args ∧ True) ∧ sizedMet enc C.prog fn (OpenSpec.ofChange s) apart w args) = s.pre6 enc C.prog fn conds apart := by
  funext w args
  simp [ChangeSpec.pre6]
 rw [e] at h
 exact h
theorem weights_mem {H : Type} {P : Program} : ∀ (ts : List TypeId) (ds : List (DataW H)) (i : Nat) (t : TypeId) (d : DataW H), ts[i]? = some t → ds[i]? = some d → ∀ x ∈ d.weights P t, x ∈ DataW.weightsEach P ts ds
 | [], _, _, _, _, h, _ => by simp at h
 | _ :: _, [], _, _, _, _, h => by simp at h
 | t0 :: ts, d0 :: ds, 0, t, d, h, h' => by
  simp only [List.getElem?_cons_zero, sie] at h h'
  subst h; subst h'
  intro x hx
  simp only [DataW.weightsEach, List.mem_append]
  exact .inl hx
 | t0 :: ts, d0 :: ds, i + 1, t, d, h, h' => by
  intro x hx
  simp only [DataW.weightsEach, List.mem_append]
  exact .inr (weights_mem ts ds i t d (by simpa using h) (by simpa using h') x hx)
theorem slice_weight {H : Type} {enc : TypeId × Value → H} {P : Program} {w w' : World} {M : Mset} {sp : Nat → Bool} {base fuel S : Nat} {held : Bool} {t e : TypeId} {v : Value} {es : List (List PV)} {x : DataW H × List MemPlace} (ht : P.underlying t = some (.slice e)) (h : DataW.trod enc P w base sp held fuel t [v] = some x)
  (hr : RepP w' M (.sl S es) v) : es = [] ∨ ∃ n ∈ x.1.weights P t, es.length * P.bytesOf e ≤ n := by
 simp only [RepP] at hr
 rcases DataW.trod_slice ht h with ⟨h1, rfl⟩ | ⟨a, len, cap, elems, rest, n, _, h1, rfl, _, _, _, hel, _⟩
 ·simp only [List.cons.injEq, and_true] at h1
  subst h1
  rcases hr with ⟨r, o, c, h2, _⟩ | ⟨rfl, _⟩
  ·cases h2
  ·exact .inl rfl
 ·simp only [List.cons.injEq, and_true] at h1
  subst h1
  rcases hr with ⟨r, o, c, h2, _⟩ | ⟨rfl, _⟩
  ·simp only [Value.slice.injEq] at h2
   refine .inr ⟨_, by simp only [DataW.weights, ht]; exact List.mem_cons_self, ?_⟩
   refine Nat.mul_le_mul_right _ ?_
   simp only [List.length_map]
   omega
  ·exact .inl rfl
def QuoteReachedPlainF : Prop := ∀ (a0 : GTf) (a1 : GCl) (a2 : Int) (a3 : Int) (a4 : Int), a0.Articles.length * 56 ≤ 140737488351232 → GTf.wf a0 → GCl.wf a1 → i64b a2 → i64b a3 → i64b a4 → ∃ n, g_law35_QuoteReached n a0 a1 a2 a3 a4 = some true
theorem quoteReached_callU (h : QuoteReachedPlainF) : ∀ xs, ArgsSh Try.prog 9 Try.f9.params.toList xs → (∀ (cs : List PV) (r : List AV) (S : Nat) (es : List (List PV)), xs = ag cs :: r → cs[1]? = some (.sl S es) → es.length * 56 ≤ 140737488351232) → PCall Try.prog 9 xs (.ret (.p (.val (.bool true)))) := by
 intro xs ha hb
 rw [Try.params9] at ha
 obtain ⟨_, _, rfl, h0, _, _, rfl, h1, _, _, rfl, h2, _, _, rfl, h3, _, _, rfl, h4, rfl⟩ := ha
 obtain ⟨a0, rfl, w0⟩ := sh_GTf h0
 obtain ⟨a1, rfl, w1⟩ := sh_GCl h1
 obtain ⟨a2, rfl, w2⟩ := sh_i64 Try.underlying3 h2
 obtain ⟨a3, rfl, w3⟩ := sh_i64 Try.underlying3 h3
 obtain ⟨a4, rfl, w4⟩ := sh_i64 Try.underlying3 h4
 rw [avOf_struct Try.underlying24] at hb
 have hlen := hb _ _ _ _ rfl rfl
 rw [List.length_map] at hlen
 obtain ⟨n, hn⟩ := h a0 a1 a2 a3 a4 hlen w0 w1 w2 w3 w4
 simp only [avOf_struct Try.underlying24, avOf_struct Try.underlying28, avOf_int Try.underlying3]
 exact g_law35_QuoteReached_ok n a0 a1 a2 a3 a4 true hn
set_option maxRecDepth 100000 in
theorem quoteReached_liftedF (h : QuoteReachedPlainF) (os : Os) (started : os.Started) (H : Type) (enc : TypeId × Value → H) :
  ReturnsInHanded {} Try.checked os 9 .any (Rows.quoteReachedSpec.pre6 enc Try.prog Try.f9 Rows.quoteReachedRow.domain false) (Rows.quoteReachedSpec.post enc Try.prog Try.f9 false true false false) := by
 refine sized_of_change (C := Try.checked) krf started krf Try.func9
  (ChangeSpec.witness6 (enc := enc) (C := Try.checked) false ⟨#[], #[.agg #[.string ⟨#[]⟩, .slice none 0 0], .agg #[.int .i64 0, .slice none 0 0, .slice none 0 0], .int .i64 0, .int .i64 0, .int .i64 0], []⟩ 8 krf krf krf krf) ?_
 intro W base args ds gs before hval hW hkk
 refine law_contractW (P := Try.prog) (f := 9) (fn := Try.f9) (s := Rows.quoteReachedSpec) (tb := 4) (d := 9) krf krf krf krf Try.underlying4 rfl
  (fun ds hd => by
   have hd : ds.length = 5 := by rw [hd, show Try.f9.params.size = 5 from by kernel_rfl]
   match ds, hd with
   | [d0, d1, d2, d3, d4], _ => rfl)
  hval hW (fun aas ha hrep => quoteReached_callU h aas ha (fun cs r S es e hcs => ?_))
 subst e
 obtain ⟨p, q, hA, _⟩ := hW
 rw [Try.params9] at hA
 obtain ⟨v, vs', d', ds', p', q', e1, e2, _, ⟨fuel, h1⟩, _⟩ := trodAll_cons hA
 have hsm : ∀ x ∈ DataW.weightsEach Try.prog (Try.f9.params.toList ++ Rows.quoteReachedSpec.plain.varTypes Try.prog) (ds ++ gs), x ≤ 140737488351232 := fun x hx => by
  exact of_decide_eq_true (List.all_eq_true.1 hkk x hx)
 have hts : Try.f9.params.toList ++ Rows.quoteReachedSpec.plain.varTypes Try.prog = [24, 28, 3, 3, 3] := by kernel_rfl
 rw [hts] at hsm
 have hd0 := fun x hx => hsm x (weights_mem _ _ 0 24 d' rfl (by rw [e2]; rfl) x hx)
 simp only [RepAs] at hrep
 obtain ⟨y, ys, e3, hy, _⟩ := hrep
 rw [e1] at e3
 simp only [List.cons.injEq] at e3
 obtain ⟨rfl, rfl⟩ := e3
 simp only [ag, RepA] at hy
 obtain ⟨l, rfl, hl⟩ := hy
 obtain ⟨xs, n, _, e4, _, hxs, hall⟩ := DataW.trod_struct Try.underlying24 h1
 obtain ⟨c1, hc1, hrp⟩ := repAs_getP hl 1 _ hcs
 have hf := hall 1 _ rfl
 have hcells : ((Value.agg l.toArray).cells.toList.drop 1).take 1 = [c1] := by
  have : (Value.agg l.toArray).cells.toList = l := by simp [Value.cells]
  rw [this]
  match l, hc1 with
  | _ :: y :: _, hc1 => simp at hc1; subst hc1; rfl
 have hlt : 1 < xs.length := by rw [hxs]; decide
 have hf2 : DataW.trod enc Try.prog W 0 (fun _ => true) true n 22 [c1] = some xs[1] := by
  rw [← hcells, ← List.getElem?_eq_getElem hlt]
  exact hf
 rcases slice_weight Try.underlying22 hf2 hrp with rfl | ⟨n2, hn2, hle⟩
 ·simp
 have hb : Try.prog.bytesOf 44 = 56 := by kernel_rfl
 rw [hb] at hle
 refine Nat.le_trans hle (hd0 n2 ?_)
 have hd' : d' = .agg (xs.map (·.1)) := congrArg Prod.fst e4
 rw [hd']
 simp only [DataW.weights, Try.underlying24]
 exact weights_mem _ _ 1 22 xs[1].1 rfl (by simp [hlt]) n2 hn2
theorem quoteReached_said (h : QuoteReachedPlainF) : Rows.QuoteReachedSaid :=
 OpenClaim.holds_of_wide 9 Try.f9 rfl rfl rfl rfl rfl rfl rfl ⟨rfl, rfl, rfl, rfl, rfl⟩ rfl rfl rfl rfl rfl krf Try.func9 krf
  (of_decide_eq_true krf) (by unfold Func.isWrapper; first | (rw [if_pos (by decide +kernel)]; kernel_rfl) | (rw [if_neg (by decide +kernel)]; exact ⟨rfl, rfl⟩))
  (fun os started H enc _ => quoteReached_liftedF h os started H enc)
end Go.Proofs
namespace Go.Proofs
open Go Go.Abs
set_option maxRecDepth 100000
set_option linter.unusedVariables false
def Does {α : Type} (m : Option α) (Q : α → Prop) : Prop := ∃ r, m = some r ∧ Q r
section
variable {α β V R E : Type}
theorem does_some {x : α} {Q : α → Prop} (h : Q x) : Does (some x) Q := ⟨x, rfl, h⟩
theorem does_mono {m : Option α} {Q Q' : α → Prop} (h : Does m Q) (hq : ∀ x, Q x → Q' x) : Does m Q' := by obtain ⟨x, e, h⟩ := h; exact ⟨x, e, hq x h⟩
theorem does_cond {b : Bool} {x y : Option α} {Q : α → Prop} (h1 : b = true → Does x Q) (h2 : b = false → Does y Q) : Does (cond b x y) Q := by
 cases b
 ·exact h2 rfl
 ·exact h1 rfl
theorem does_loop {B : (V → Option R) → V → Option R} {Q : V → R → Prop} (μ : V → Nat) (Inv : V → Prop)
  (hB : ∀ rec v, Inv v → (∀ v', Inv v' → μ v' < μ v → Does (rec v') (Q v')) → Does (B rec v) (Q v)) : ∀ {n : Nat} {v : V}, Inv v → μ v < n → Does (loopN B n v) (Q v)
 | 0, _, _, h => absurd h (Nat.not_lt_zero _)
 | n + 1, v, hv, h => hB _ v hv (fun v' h1 h2 => does_loop μ Inv hB h1 (by omega))
end
theorem getI_nat {α : Type} {l : List α} {i : Nat} : getI l (i : Int) = l[i]? := by
 unfold getI; rw [if_neg (by omega)]; simp
theorem wi_id {x : Int} (h1 : -9223372036854775808 ≤ x) (h2 : x ≤ 9223372036854775807) : wi x = x := by
 simp [wi, IntKind.wrap, IntKind.signed, IntKind.bits]; omega
theorem a_inside (n : Nat) (x a b : Int) : g_a_inside n x a b = some (decide (a ≤ x ∧ x ≤ b)) := by
 unfold g_a_inside leI
 by_cases h : a ≤ x <;> simp [h]
def needE (b : Bool) (p : Int) : Except Int Unit := if b then .ok () else .error p
def folB (a r : GReading) : Bool := if r.Serial = a.Serial then decide (a.Minute ≤ r.Minute ∧ a.Register ≤ r.Register) else decide (r.Minute = a.Minute)
def mixB (s x k : Int) : Int := wu ((bXor .u64 s (bAnd .u64 (shrI .u64 (wu x) k) 255)) * 1099511628211)
def mixW (s x : Int) : Int := [56, 48, 40, 32, 24, 16, 8, 0].foldl (fun s k => mixB s x k) s
def linkF (s : Int) (r : GReading) : Int := [r.Serial, r.Number, r.Minute, r.Register].foldl mixW s
theorem exc_need {R : Type} {k : Unit → Option R} {e : Int → Option R} {b : Bool} {p : Int} : exc k e (needE b p) = cond b (k ()) (e p) := by cases b <;> rfl
def prevLink (seed : Int) (l : List GReading) (i : Nat) : Int := if i = 0 then seed else ((l[i - 1]?).map (·.Link)).getD 0
def chainAt (seed : Int) (l : List GReading) (i : Nat) : Prop := ∀ r ∈ l[i]?, (1 ≤ r.Serial ∧ r.Serial ≤ 1000000) ∧ r.Number = i + 1 ∧ (0 ≤ r.Minute ∧ r.Minute ≤ 52560000) ∧ (0 ≤ r.Register ∧ r.Register ≤ 1000000000) ∧
 (i ≠ 0 → ∀ a ∈ l[i - 1]?, folB a r = true) ∧ r.Link = linkF (prevLink seed l i) r
def chainOk (seed : Int) (l : List GReading) : Prop := (1 ≤ l.length ∧ l.length ≤ 64) ∧ ∀ i, i < l.length → chainAt seed l i
end Go.Proofs
namespace Go.Proofs
open Go Go.Abs
set_option maxRecDepth 100000
set_option linter.unusedVariables false
theorem eqI_d (x y : Int) : eqI x y = decide (x = y) := by unfold eqI; by_cases h : x = y <;> simp [h]
theorem cond_some {α : Type} {b : Bool} {x y : α} : cond b (some x) (some y) = some (cond b x y) := by cases b <;> rfl
def keyB (w : List UInt8) : Bool := (g_a_isKey 0 w).getD false
def artB (a : GAr) : Bool := (g_a_validArticle 0 a).getD false
def chrB (x : UInt8) : Bool := decide ((97 ≤ b2i x ∧ b2i x ≤ 122) ∨ (48 ≤ b2i x ∧ b2i x ≤ 57) ∨ b2i x = 95)
def nameB (s : List UInt8) : Bool := decide (1 ≤ s.length ∧ s.length ≤ 12) && decide (∀ x ∈ s.head?, 97 ≤ b2i x ∧ b2i x ≤ 122) && !keyB s && s.all chrB
theorem loop_list {α R : Type} {l : List α} {B : (Int → Option R) → Int → Option R} {F : List α → R} (hlen : l.length ≤ 4611686018427387904)
  (hend : ∀ rec, B rec (l.length : Int) = some (F []))
  (hstep : ∀ (rec : Int → Option R) (i : Nat) (x : α) (r : List α), l.drop i = x :: r → l[i]? = some x → i < l.length → wi ((i : Int) + 1) = ((i + 1 : Nat) : Int) → (rec ((i + 1 : Nat) : Int) = some (F r)) → B rec (i : Int) = some (F (x :: r))) :
  ∀ {n : Nat} (i : Nat), i ≤ l.length → l.length - i < n → loopN B n (i : Int) = some (F (l.drop i))
 | 0, _, _, h => absurd h (Nat.not_lt_zero _)
 | n + 1, i, hi, h => by
  unfold loopN
  by_cases he : i = l.length
  ·subst he; rw [hend]; simp
  ·have hlt : i < l.length := by omega
   have hd : l.drop i = l[i] :: l.drop (i + 1) := by rw [List.drop_eq_getElem_cons hlt]
   rw [hd]
   exact hstep _ i _ _ hd (by simp [hlt]) hlt (by rw [wi_id] <;> omega) (loop_list hlen hend hstep (i + 1) (by omega) (by omega))
theorem chr_lem (c : Int) : (bif decide (97 ≤ c) then bif decide (c ≤ 122) then false else bif decide (48 ≤ c) then bif decide (c ≤ 57) then false else !(c == 95) else !(c == 95)
  else bif decide (48 ≤ c) then bif decide (c ≤ 57) then false else !(c == 95) else !(c == 95)) = !decide ((97 ≤ c ∧ c ≤ 122) ∨ (48 ≤ c ∧ c ≤ 57) ∨ c = 95) := by
 by_cases h1 : 97 ≤ c <;> by_cases h2 : c ≤ 122 <;> by_cases h3 : 48 ≤ c <;> by_cases h4 : c ≤ 57 <;> by_cases h5 : c = 95 <;> simp [h1, h2, h3, h4, h5] <;> omega
theorem loop_acc {α R A : Type} {l : List α} {B : (A × Int → Option R) → A × Int → Option R} {F : A → List α → R} (hlen : l.length ≤ 4611686018427387904)
  (hend : ∀ rec a, B rec (a, (l.length : Int)) = some (F a []))
  (hstep : ∀ (rec : A × Int → Option R) (a : A) (i : Nat) (x : α) (r : List α), l.drop i = x :: r → l[i]? = some x → i < l.length → wi ((i : Int) + 1) = ((i + 1 : Nat) : Int) → (∀ a, rec (a, ((i + 1 : Nat) : Int)) = some (F a r)) → B rec (a, (i : Int)) = some (F a (x :: r))) :
  ∀ {n : Nat} (i : Nat) (a : A), i ≤ l.length → l.length - i < n → loopN B n (a, (i : Int)) = some (F a (l.drop i))
 | 0, _, _, _, h => absurd h (Nat.not_lt_zero _)
 | n + 1, i, a, hi, h => by
  unfold loopN
  by_cases he : i = l.length
  ·subst he; rw [hend]; simp
  ·have hlt : i < l.length := by omega
   have hd : l.drop i = l[i] :: l.drop (i + 1) := by rw [List.drop_eq_getElem_cons hlt]
   rw [hd]
   exact hstep _ a i _ _ hd (by simp [hlt]) hlt (by rw [wi_id] <;> omega) (fun a => loop_acc hlen hend hstep (i + 1) a (by omega) (by omega))
def holB : Int → List Int → Bool
 | _, [] => true
 | a, x :: r => decide (a < x ∧ x ≤ 36500) && holB x r
def chgB : Int → List GCh → Bool
 | _, [] => true
 | a, x :: r => decide (a < x.At ∧ x.At ≤ 52560000 ∧ -1440 ≤ x.Offset ∧ x.Offset ≤ 1440) && chgB x.At r
def calB (c : GCl) : Bool := decide (-1440 ≤ c.Offset ∧ c.Offset ≤ 1440) && decide (c.Changes.length ≤ 16) && decide (c.Holidays.length ≤ 32) && chgB (-1) c.Changes && holB (-1) c.Holidays
theorem loop_gen {α R A V : Type} {l : List α} (S : A → Int → V) {B : (V → Option R) → V → Option R} {F : A → List α → R} (Inv : Nat → A → Prop) (hlen : l.length ≤ 4611686018427387904)
  (hend : ∀ rec a, Inv l.length a → B rec (S a (l.length : Int)) = some (F a []))
  (hstep : ∀ (rec : V → Option R) (a : A) (i : Nat) (x : α) (r : List α), Inv i a → l.drop i = x :: r → l[i]? = some x → i < l.length → wi ((i : Int) + 1) = ((i + 1 : Nat) : Int) → (∀ a, Inv (i + 1) a → rec (S a ((i + 1 : Nat) : Int)) = some (F a r)) → B rec (S a (i : Int)) = some (F a (x :: r))) :
  ∀ {n : Nat} (i : Nat) (a : A), Inv i a → i ≤ l.length → l.length - i < n → loopN B n (S a (i : Int)) = some (F a (l.drop i))
 | 0, _, _, _, _, h => absurd h (Nat.not_lt_zero _)
 | n + 1, i, a, ha, hi, h => by
  unfold loopN
  by_cases he : i = l.length
  ·subst he; rw [hend _ _ ha]; simp
  ·have hlt : i < l.length := by omega
   have hd : l.drop i = l[i] :: l.drop (i + 1) := by rw [List.drop_eq_getElem_cons hlt]
   rw [hd]
   exact hstep _ a i _ _ ha hd (by simp [hlt]) hlt (by rw [wi_id] <;> omega) (fun a ha => loop_gen S Inv hlen hend hstep (i + 1) a ha (by omega) (by omega))
def tarB : Int → List GAr → Bool
 | k, [] => decide (k ≤ 1)
 | k, a :: r => artB a && tarB (if a.Kind = 6 then k + 1 else k) r
def rateF : Int → List GAr → Int
 | z, [] => z
 | z, a :: r => rateF (if a.Kind = 6 then a.Price else z) r
def tariffB (t : GTf) : Bool := nameB t.Name && decide (t.Articles.length ≤ 12) && tarB 0 t.Articles
end Go.Proofs
namespace Go.Proofs
open Go Go.Abs
set_option maxRecDepth 100000
set_option linter.unusedVariables false
def offF (m : Int) : Int → List GCh → Int
 | o, [] => o
 | o, x :: r => offF m (if x.At ≤ m then x.Offset else o) r
def wkF (d : Int) : Int := if Int.tmod (wi (d + 7)) 7 = 5 then 1 else if Int.tmod (wi (d + 7)) 7 = 6 then 2 else 0
def typF (d : Int) : List Int → Int
 | [] => wkF d
 | x :: r => if x = d then 2 else typF d r
theorem typF_range (d : Int) : ∀ l, 0 ≤ typF d l ∧ typF d l ≤ 2
 | [] => by
  unfold typF wkF
  split
  ·omega
  ·split <;> omega
 | x :: r => by
  have := typF_range d r
  unfold typF; split <;> omega
def appB (c : GCl) (a : GAr) (m : Int) : Bool :=
 let w := wi (wi (m + offF m c.Offset c.Changes) + 1440)
 decide (a.From ≤ Int.tmod w 1440) && decide (Int.tmod w 1440 < a.To) && !decide (bAnd .i64 a.Days (shlI .i64 1 (typF (wi (wi (Int.tdiv w 1440) - 1)) c.Holidays)) = 0)
def cntF (c : GCl) (a : GAr) : Nat → Int → Int → Int
 | 0, _, z => z
 | k + 1, m, z => cntF c a k (m + 1) (if appB c a m then wi (z + 1) else z)
def staF (c : GCl) (a : GAr) (f t : Int) : Int :=
 wi (a.Price * wi (Int.tdiv (wi (wi (maxI 0 (cntF c a (t - f).toNat f (wi (0 - a.Free))) + a.Unit) - 1)) a.Unit))
def eneF (c : GCl) (a : GAr) : Int → List GSl → Int
 | z, [] => z
 | z, x :: r => eneF c a (if appB c a x.Minute then wi (z + x.Energy) else z) r
def cosF (c : GCl) (s : GSs) (a : GAr) : Int :=
 if a.Kind = 1 then (if appB c a s.From then a.Price else 0)
 else if a.Kind = 2 then wi (Int.tdiv (wi (wi (wi (2 * a.Price) * eneF c a 0 s.Slices) + 1000)) 2000)
 else if a.Kind = 3 then staF c a s.From s.To
 else if a.Kind = 4 then staF c a s.End s.To
 else 0
end Go.Proofs
namespace Go.Proofs
open Go Go.Abs
set_option maxRecDepth 100000
set_option linter.unusedVariables false
end Go.Proofs
