/-
  A part of the proof of a statement of the seat YtkgamjjfjekgnaaGreat.
-/
import Derived.Test.YtkgamjjfjekgnaaGreatMat04
namespace Go.Proofs
open Go Go.Abs
set_option maxRecDepth 100000
set_option linter.unusedVariables false
theorem g_dv_int_ok (n:Nat) (a0list:List Int) (a1most:Int):∀ r,g_dv_int n a0list a1most=some r→PCall Tryz.prog 75 [.p (.sl 1 (List.map ci a0list)),I a1most, .p (.val (.func (.func 77) #[] #[]))] (.ret (B r)):=by
 refine pcall_sim (X:=fun r:Bool=>AEnd.ret (B r)) Tryz.func75 rfl Tryz.ntmps75 rfl ?_
 unfold g_dv_int
 refine sR tfm ⟨[0,1,2],[],[],[]⟩ ⟨[(0, .p (.sl 1 (List.map ci a0list))),(1,I a1most),(2, .p (.val (.func (.func 77) #[] #[])))],[]⟩ krf (sR tfm ⟨[0,1,2,7],[],[],[]⟩ ⟨[(0, .p (.sl 1 (List.map ci a0list))),(1,I a1most),(2, .p (.val (.func (.func 77) #[] #[]))),(7,I (-1))],[]⟩ krf (sS (sR tfm ⟨[1,2,7,11,12,13],[],[],[]⟩ ⟨[(1,I a1most),(2, .p (.val (.func (.func 77) #[] #[]))),(7,I (-1)),(11, .p (.sl 1 (List.map ci a0list))),(12,I (lenI (List.map ci a0list))),(13,I 0)],[]⟩ krf (sB (sim_loop (fun (l1_1,l1_2)=>⟨[(1,I a1most),(2, .p (.val (.func (.func 77) #[] #[]))),(7,I l1_1),(11, .p (.sl 1 (List.map ci a0list))),(12,I (lenI (List.map ci a0list))),(13,I l1_2)],[]⟩:(Int × Int)→St) (weak_shr (K:=⟨[1,2,7,11,12,13],[],[],[]⟩) krf) ?_)))))
 rintro recl1 ⟨l1_1,l1_2⟩
 show SimE (g_dv_int_l1 n a0list a1most recl1 l1_1 l1_2) _ _ _ _ _ _
 unfold g_dv_int_l1
 refine sR tfm ⟨[1,2,7,11,12,13,14],[],[],[]⟩ ⟨[(1,I a1most),(2, .p (.val (.func (.func 77) #[] #[]))),(7,I l1_1),(11, .p (.sl 1 (List.map ci a0list))),(12,I (lenI (List.map ci a0list))),(13,I l1_2),(14,B (ltI l1_2 (lenI (List.map ci a0list))))],[]⟩ krf (sS (sC (ltI l1_2 (lenI (List.map ci a0list))) krf ?_ ?_))
 ·refine sK (sN ⟨[1,2,7,11,12,13],[],[],[]⟩ ⟨[(1,I a1most),(2, .p (.val (.func (.func 77) #[] #[]))),(7,I l1_1),(11, .p (.sl 1 (List.map ci a0list))),(12,I (lenI (List.map ci a0list))),(13,I l1_2)],[]⟩ krf (sS (sB (sS (sG ?_)))))
  refine xG krf krf (aop_idx (e:=3) (S:=1) (enc:=ci) (l:=a0list) (k:=.i64) (n:=l1_2) (sv:=.p (.sl 1 (List.map ci a0list))) rfl krf krf krf krf krf) (fun x2=>?_)
  refine xR 2 krf (xE (sN ⟨[1,2,7,9,11,12,13],[],[],[]⟩ ⟨[(1,I a1most),(2, .p (.val (.func (.func 77) #[] #[]))),(7,I l1_1),(9,I x2),(11, .p (.sl 1 (List.map ci a0list))),(12,I (lenI (List.map ci a0list))),(13,I l1_2)],[]⟩ krf (sS (sS (sG (xR 2 krf ?_))))))
  refine xC [] krf (g_days_keys_2_ok n x2) krf krf (fun _=>by kernel_rfl) (fun r3=>?_)
  refine xR 1 krf (xE (sN ⟨[1,2,7,9,10,11,12,13],[],[],[]⟩ ⟨[(1,I a1most),(2, .p (.val (.func (.func 77) #[] #[]))),(7,I l1_1),(9,I x2),(10,I r3),(11, .p (.sl 1 (List.map ci a0list))),(12,I (lenI (List.map ci a0list))),(13,I l1_2)],[]⟩ krf (sim_bind (fun j4=>⟨[(1,I a1most),(2, .p (.val (.func (.func 77) #[] #[]))),(9,I x2),(11, .p (.sl 1 (List.map ci a0list))),(12,I (lenI (List.map ci a0list))),(13,I l1_2),(27,B j4)],[]⟩:Bool→St) ?_ ?_)))
  ·refine sG (xR 4 krf ?_)
   refine xS (leI r3 l1_1) (fun h5=>?_) (fun h5=>?_)
   ·refine xN (want_ft krf h5) krf (xR 3 krf (xE ?_))
    exact nq_n true ⟨[1,2,9,11,12,13,27],[],[],[]⟩ krf
   ·refine xO (want_ff krf h5) krf (xR 3 krf (xE ?_))
    exact nq_n (ltI a1most r3) ⟨[1,2,9,11,12,13,27],[],[],[]⟩ krf
  ·rintro j4
   refine sC j4 krf ?_ ?_
   ·refine sR tfm ⟨[6],[],[],[]⟩ ⟨[(6,B false)],[]⟩ krf (sT (sq_r (bq_r (sq_r (kq_r (bq_r (sq_r ?_)))))))
    exact qR (.id) krf krf krf
   ·refine sK (sN ⟨[1,2,9,11,12,13],[],[],[]⟩ ⟨[(1,I a1most),(2, .p (.val (.func (.func 77) #[] #[]))),(9,I x2),(11, .p (.sl 1 (List.map ci a0list))),(12,I (lenI (List.map ci a0list))),(13,I l1_2)],[]⟩ krf (sG (xR 2 krf ?_)))
    refine xC [] krf (g_days_keys_2_ok n x2) krf krf (fun _=>by kernel_rfl) (fun r6=>?_)
    refine xR 1 krf (xE (bq_n (sN ⟨[1,2,7,11,12,13],[],[],[]⟩ ⟨[(1,I a1most),(2, .p (.val (.func (.func 77) #[] #[]))),(7,I r6),(11, .p (.sl 1 (List.map ci a0list))),(12,I (lenI (List.map ci a0list))),(13,I l1_2)],[]⟩ krf (sL tfm krf ?_))))
    exact kq_n (r6,wi (l1_2+1)) ⟨[1,2,7,11,12,13],[],[],[]⟩ krf
 ·refine sim_exit (sq_x (kq_x (bq_hit (sN ⟨[],[],[],[]⟩ ⟨[],[]⟩ krf (sR tfm ⟨[6],[],[],[]⟩ ⟨[(6,B true)],[]⟩ krf (sT ?_))))))
  exact qR (.id) krf krf krf
def g_days_Valid_j5 (n:Nat) (a0c:GCl):Option Bool :=
 (g_dv_api_Change n a0c.Changes 52560000).bind fun r6 =>
 cond r6
  ((g_dv_int n a0c.Holidays 36500).bind fun r8 =>
  some r8)
  (some false)
def g_days_Valid_l9 (n:Nat) (a0c:GCl) (recl9:Int→Option Bool) (l9:Int):Option Bool :=
 cond (ltI l9 (lenI (List.map GCh.cs a0c.Changes)))
  ((getI a0c.Changes l9).bind fun x10 =>
  (g_days_inside n x10.Offset (-1440) 1440).bind fun r11 =>
  cond (!r11)
   (some false)
   (recl9 (wi (l9+1))))
  (g_days_Valid_j5 n a0c)
def g_days_Valid (n:Nat) (a0c:GCl):Option Bool :=
 (cond (ltI 16 (lenI (List.map GCh.cs a0c.Changes)))
  (some true)
  (cond (ltI 32 (lenI (List.map ci a0c.Holidays)))
   (some true)
   ((g_days_inside n a0c.Offset (-1440) 1440).bind fun r4 =>
   some (!r4)))).bind fun j1 =>
 cond j1
  (some false)
  (loopN (fun recl9 l9=>g_days_Valid_l9 n a0c recl9 l9) n 0)
theorem g_days_Valid_ok (n:Nat) (a0c:GCl):∀ r,g_days_Valid n a0c=some r→PCall Tryz.prog 53 [ag (GCl.cs a0c)] (.ret (B r)):=by
 refine pcall_sim (X:=fun r:Bool=>AEnd.ret (B r)) Tryz.func53 rfl Tryz.ntmps53 rfl ?_
 unfold g_days_Valid
 refine sR tfm ⟨[1],[1],[],[]⟩ ⟨[(1, .ptr 1 0)],[(1, .box 33 (bxc (GCl.cs a0c)))]⟩ krf (sS (sim_bind (fun j1=>⟨[(1, .ptr 1 0),(22,B j1)],[(1, .box 33 (bxc (GCl.cs a0c)))]⟩:Bool→St) ?_ ?_))
 ·refine sG (xR 5 krf ?_)
  refine xS (ltI 16 (lenI (mCh a0c.Changes))) (fun h2=>?_) (fun h2=>?_)
  ·refine xN (want_ft krf h2) krf (xR 10 krf (xE ?_))
   exact nq_n true ⟨[1,22],[1],[],[]⟩ krf
  ·refine xO (want_ff krf h2) krf (xR 5 krf ?_)
   refine xS (ltI 32 (lenI (List.map ci a0c.Holidays))) (fun h3=>?_) (fun h3=>?_)
   ·refine xN (want_ft krf h3) krf (xR 4 krf (xE ?_))
    exact nq_n true ⟨[1,22],[1],[],[]⟩ krf
   ·refine xO (want_ff krf h3) krf (xR 1 krf ?_)
    refine xC [] krf (g_days_inside_ok n a0c.Offset (-1440) 1440) krf krf (fun _=>by kernel_rfl) (fun r4=>?_)
    refine xR 2 krf (xE ?_)
    exact nq_n (!r4) ⟨[1,22],[1],[],[]⟩ krf
 ·rintro j1
  refine sC j1 krf ?_ ?_
  ·refine sR tfm ⟨[2],[],[],[]⟩ ⟨[(2,B false)],[]⟩ krf (sT (sq_r ?_))
   exact qR (.id) krf krf krf
  ·refine sK (sN ⟨[1],[1],[],[]⟩ ⟨[(1, .ptr 1 0)],[(1, .box 33 (bxc (GCl.cs a0c)))]⟩ krf (sim_cps (fun _=>⟨[(1, .ptr 1 0)],[(1, .box 33 (bxc (GCl.cs a0c)))]⟩:Unit→St) (fun _=>g_days_Valid_j5 n a0c) ?_ ?_))
   ·rintro _
    show SimE (g_days_Valid_j5 n a0c) _ _ _ _ _ _
    unfold g_days_Valid_j5
    refine sS (sG (xs_inline [] [] [] [] [] krf Tryz.func55 rfl Tryz.ntmps55 rfl krf krf krf (sR tfm ⟨[],[],[],[]⟩ ⟨[],[]⟩ krf (sR tfm ⟨[0,1],[],[],[]⟩ ⟨[(0, .p (.val (.func (.func 76) #[] #[]))),(1, .p (.val (.func (.func 77) #[] #[])))],[]⟩ krf (sT (iq_ret (.id) [] [] (.tup [.p (.val (.func (.func 76) #[] #[])), .p (.val (.func (.func 77) #[] #[]))]) krf krf (kr0 ?_)))))))
    refine xR 5 krf (xE (sN ⟨[1,5,6],[1],[],[]⟩ ⟨[(1, .ptr 1 0),(5, .p (.val (.func (.func 76) #[] #[]))),(6, .p (.val (.func (.func 77) #[] #[])))],[(1, .box 33 (bxc (GCl.cs a0c)))]⟩ krf (sS (sG (xR 3 krf ?_)))))
    refine xC [] krf (g_dv_api_Change_ok n a0c.Changes 52560000) krf krf (fun _=>by kernel_rfl) (fun r6=>?_)
    refine xR 1 krf ?_
    refine xS r6 (fun h7=>?_) (fun h7=>?_)
    ·refine xO (want_tt krf h7) krf (xR 2 krf ?_)
     refine xC [] krf (g_dv_int_ok n a0c.Holidays 36500) krf krf (fun _=>by kernel_rfl) (fun r8=>?_)
     refine xR 2 krf (xE (sN ⟨[2],[],[],[]⟩ ⟨[(2,B r8)],[]⟩ krf (sT ?_)))
     exact qR (.id) krf krf krf
    ·refine xN (want_tf krf h7) krf (xR 5 krf (xE (sN ⟨[2],[],[],[]⟩ ⟨[(2,B false)],[]⟩ krf (sT ?_))))
     exact qR (.id) krf krf krf
   ·refine sR tfm ⟨[1,24,25,26],[1],[],[]⟩ ⟨[(1, .ptr 1 0),(24, .p (.sl 2 (mCh a0c.Changes))),(25,I (lenI (mCh a0c.Changes))),(26,I 0)],[(1, .box 33 (bxc (GCl.cs a0c)))]⟩ krf (sB (sim_loop (fun l9=>⟨[(1, .ptr 1 0),(24, .p (.sl 2 (mCh a0c.Changes))),(25,I (lenI (mCh a0c.Changes))),(26,I l9)],[(1, .box 33 (bxc (GCl.cs a0c)))]⟩:Int→St) (weak_shr (K:=⟨[1,24,25,26],[1],[],[]⟩) krf) ?_))
    rintro recl9 l9
    show SimE (g_days_Valid_l9 n a0c recl9 l9) _ _ _ _ _ _
    unfold g_days_Valid_l9
    refine sR tfm ⟨[1,24,25,26,27],[1],[],[]⟩ ⟨[(1, .ptr 1 0),(24, .p (.sl 2 (mCh a0c.Changes))),(25,I (lenI (mCh a0c.Changes))),(26,I l9),(27,B (ltI l9 (lenI (mCh a0c.Changes))))],[(1, .box 33 (bxc (GCl.cs a0c)))]⟩ krf (sS (sC (ltI l9 (lenI (mCh a0c.Changes))) krf ?_ ?_))
    ·refine sK (sN ⟨[1,24,25,26],[1],[],[]⟩ ⟨[(1, .ptr 1 0),(24, .p (.sl 2 (mCh a0c.Changes))),(25,I (lenI (mCh a0c.Changes))),(26,I l9)],[(1, .box 33 (bxc (GCl.cs a0c)))]⟩ krf (sS (sB (sS (sG ?_)))))
     refine xG krf krf (aop_idx (e:=89) (S:=2) (enc:=GCh.cs) (l:=a0c.Changes) (k:=.i64) (n:=l9) (sv:=.p (.sl 2 (mCh a0c.Changes))) rfl krf krf krf krf krf) (fun x10=>?_)
     refine xR 3 krf (xE (sN ⟨[1,4,24,25,26],[1,4],[],[]⟩ ⟨[(1, .ptr 1 0),(4, .ptr 4 0),(24, .p (.sl 2 (mCh a0c.Changes))),(25,I (lenI (mCh a0c.Changes))),(26,I l9)],[(1, .box 33 (bxc (GCl.cs a0c))),(4, .box 89 (bxc (GCh.cs x10)))]⟩ krf (sS (sG (xR 2 krf ?_)))))
     refine xC [] krf (g_days_inside_ok n x10.Offset (-1440) 1440) krf krf (fun _=>by kernel_rfl) (fun r11=>?_)
     refine xR 1 krf (xE (sN ⟨[1,24,25,26,33],[1],[],[]⟩ ⟨[(1, .ptr 1 0),(24, .p (.sl 2 (mCh a0c.Changes))),(25,I (lenI (mCh a0c.Changes))),(26,I l9),(33,B (!r11))],[(1, .box 33 (bxc (GCl.cs a0c)))]⟩ krf (sC (!r11) krf ?_ ?_)))
     ·refine sR tfm ⟨[2],[],[],[]⟩ ⟨[(2,B false)],[]⟩ krf (sT (bq_r (sq_r (kq_r (bq_r (kq_r ?_))))))
      exact qR (.id) krf krf krf
     ·refine sK (bq_n (sN ⟨[1,24,25,26],[1],[],[]⟩ ⟨[(1, .ptr 1 0),(24, .p (.sl 2 (mCh a0c.Changes))),(25,I (lenI (mCh a0c.Changes))),(26,I l9)],[(1, .box 33 (bxc (GCl.cs a0c)))]⟩ krf (sL tfm krf ?_)))
      exact kq_n (wi (l9+1)) ⟨[1,24,25,26],[1],[],[]⟩ krf
    ·refine sim_exit (sq_x (kq_x (bq_hit ?_)))
     exact kq_n (k:=fun _=>g_days_Valid_j5 n a0c) () ⟨[1],[1],[],[]⟩ krf
def g_days_last_api_Change_l1 (n:Nat) (a0list:List GCh) (a1number:Int) (recl1:(Int × Int)→Option Int) (l1_1:Int) (l1_2:Int):Option Int :=
 cond (ltI l1_1 l1_2)
  ((getI a0list (wi (l1_1+(wi (Int.tdiv (wi ((wi (l1_2 - l1_1))+1)) 2))))).bind fun x2 =>
  (g_days_keys_1 n x2).bind fun r3 =>
  cond (leI r3 a1number)
   (recl1 (wi (l1_1+(wi (Int.tdiv (wi ((wi (l1_2 - l1_1))+1)) 2))),l1_2))
   (recl1 (l1_1,wi ((wi (l1_1+(wi (Int.tdiv (wi ((wi (l1_2 - l1_1))+1)) 2)))) - 1))))
  (some l1_1)
def g_days_last_api_Change (n:Nat) (a0list:List GCh) (a1number:Int):Option Int :=
 loopN (fun recl1 (l1_1,l1_2)=>g_days_last_api_Change_l1 n a0list a1number recl1 l1_1 l1_2) n ((-1),wi ((lenI (List.map GCh.cs a0list)) - 1))
theorem g_days_last_api_Change_ok (n:Nat) (a0list:List GCh) (a1number:Int):∀ r,g_days_last_api_Change n a0list a1number=some r→PCall Tryz.prog 56 [.p (.sl 2 (mCh a0list)),I a1number, .p (.val (.func (.func 76) #[] #[]))] (.ret (I r)):=by
 refine pcall_sim (X:=fun r:Int=>AEnd.ret (I r)) Tryz.func56 rfl Tryz.ntmps56 rfl ?_
 unfold g_days_last_api_Change
 refine sR tfm ⟨[0,1,2],[],[],[]⟩ ⟨[(0, .p (.sl 2 (mCh a0list))),(1,I a1number),(2, .p (.val (.func (.func 76) #[] #[])))],[]⟩ krf (sR tfm ⟨[0,1,2,7,8],[],[],[]⟩ ⟨[(0, .p (.sl 2 (mCh a0list))),(1,I a1number),(2, .p (.val (.func (.func 76) #[] #[]))),(7,I (-1)),(8,I (wi ((lenI (mCh a0list)) - 1)))],[]⟩ krf (sS (sB (sim_loop (fun (l1_1,l1_2)=>⟨[(0, .p (.sl 2 (mCh a0list))),(1,I a1number),(2, .p (.val (.func (.func 76) #[] #[]))),(7,I l1_1),(8,I l1_2)],[]⟩:(Int × Int)→St) (weak_shr (K:=⟨[0,1,2,7,8],[],[],[]⟩) krf) ?_))))
 rintro recl1 ⟨l1_1,l1_2⟩
 show SimE (g_days_last_api_Change_l1 n a0list a1number recl1 l1_1 l1_2) _ _ _ _ _ _
 unfold g_days_last_api_Change_l1
 refine sS (sR tfm ⟨[0,1,2,7,8,15],[],[],[]⟩ ⟨[(0, .p (.sl 2 (mCh a0list))),(1,I a1number),(2, .p (.val (.func (.func 76) #[] #[]))),(7,I l1_1),(8,I l1_2),(15,B (ltI l1_1 l1_2))],[]⟩ krf (sC (ltI l1_1 l1_2) krf ?_ ?_))
 ·refine sK (sN ⟨[0,1,2,7,8],[],[],[]⟩ ⟨[(0, .p (.sl 2 (mCh a0list))),(1,I a1number),(2, .p (.val (.func (.func 76) #[] #[]))),(7,I l1_1),(8,I l1_2)],[]⟩ krf (sB (sR tfm ⟨[0,1,2,7,8,9],[],[],[]⟩ ⟨[(0, .p (.sl 2 (mCh a0list))),(1,I a1number),(2, .p (.val (.func (.func 76) #[] #[]))),(7,I l1_1),(8,I l1_2),(9,I (wi (l1_1+(wi (Int.tdiv (wi ((wi (l1_2 - l1_1))+1)) 2)))))],[]⟩ krf (sS (sG (xR 3 krf ?_))))))
  refine xG krf krf (aop_idx (e:=89) (S:=2) (enc:=GCh.cs) (l:=a0list) (k:=.i64) (n:=wi (l1_1+(wi (Int.tdiv (wi ((wi (l1_2 - l1_1))+1)) 2)))) (sv:=.p (.sl 2 (mCh a0list))) rfl krf krf krf krf krf) (fun x2=>?_)
  refine xR 1 krf ?_
  refine xC [] krf (g_days_keys_1_ok n x2) krf krf (fun _=>by kernel_rfl) (fun r3=>?_)
  refine xR 2 krf (xE (sN ⟨[0,1,2,7,8,9,30],[],[],[]⟩ ⟨[(0, .p (.sl 2 (mCh a0list))),(1,I a1number),(2, .p (.val (.func (.func 76) #[] #[]))),(7,I l1_1),(8,I l1_2),(9,I (wi (l1_1+(wi (Int.tdiv (wi ((wi (l1_2 - l1_1))+1)) 2))))),(30,B (leI r3 a1number))],[]⟩ krf (sC (leI r3 a1number) krf ?_ ?_)))
  ·refine sL tfm krf (bq_n ?_)
   exact kq_n (wi (l1_1+(wi (Int.tdiv (wi ((wi (l1_2 - l1_1))+1)) 2))),l1_2) ⟨[0,1,2,7,8],[],[],[]⟩ krf
  ·refine sL tfm krf (bq_n ?_)
   exact kq_n (l1_1,wi ((wi (l1_1+(wi (Int.tdiv (wi ((wi (l1_2 - l1_1))+1)) 2)))) - 1)) ⟨[0,1,2,7,8],[],[],[]⟩ krf
 ·refine sim_exit (sq_x (kq_x (bq_hit (sN ⟨[7],[],[],[]⟩ ⟨[(7,I l1_1)],[]⟩ krf (sR tfm ⟨[6],[],[],[]⟩ ⟨[(6,I l1_1)],[]⟩ krf (sT ?_))))))
  exact qR (.id) krf krf krf
def g_days_split (n:Nat) (a0n:Int) (a1by:Int):Option (Int × Int) :=
 cond (!eqI a1by 0) (
  cond (!eqI a1by 0) (
   cond (ltI (Int.tmod a0n a1by) 0)
    (some (wi ((wi (Int.tdiv a0n a1by)) - 1),wi ((Int.tmod a0n a1by)+a1by)))
    (some (wi (Int.tdiv a0n a1by),Int.tmod a0n a1by))) none) none
theorem g_days_split_ok (n:Nat) (a0n:Int) (a1by:Int):∀ r,g_days_split n a0n a1by=some r→PCall Tryz.prog 57 [I a0n,I a1by] (.ret (.tup [I r.1,I r.2])):=by
 refine pcall_sim (X:=fun r:Int × Int=>AEnd.ret (.tup [I r.1,I r.2])) Tryz.func57 rfl Tryz.ntmps57 rfl ?_
 unfold g_days_split
 refine sR tfm ⟨[0,1],[],[],[]⟩ ⟨[(0,I a0n),(1,I a1by)],[]⟩ krf (sS (sim_drw tfm rfl (xR 2 krf (xF krf krf (aop_quo (k:=.i64) (a:=a0n) (b:=a1by) rfl krf krf) (xR 2 krf (xF krf krf (aop_rem (k:=.i64) (a:=a0n) (b:=a1by) rfl krf krf) (xR 2 krf ?_)))))))
 refine xs_endD krf (sN ⟨[1,6,7],[],[],[]⟩ ⟨[(1,I a1by),(6,I (wi (Int.tdiv a0n a1by))),(7,I (Int.tmod a0n a1by))],[]⟩ krf (sS (sR tfm ⟨[1,6,7,15],[],[],[]⟩ ⟨[(1,I a1by),(6,I (wi (Int.tdiv a0n a1by))),(7,I (Int.tmod a0n a1by)),(15,B (ltI (Int.tmod a0n a1by) 0))],[]⟩ krf (sC (ltI (Int.tmod a0n a1by) 0) krf ?_ ?_))))
 ·refine sL tfm krf (sN ⟨[6,7],[],[],[]⟩ ⟨[(6,I (wi ((wi (Int.tdiv a0n a1by)) - 1))),(7,I (wi ((Int.tmod a0n a1by)+a1by)))],[]⟩ krf (sR tfm ⟨[4,5],[],[],[]⟩ ⟨[(4,I (wi ((wi (Int.tdiv a0n a1by)) - 1))),(5,I (wi ((Int.tmod a0n a1by)+a1by)))],[]⟩ krf (sT ?_)))
  exact qR (.id) krf krf krf
 ·refine sK (sN ⟨[6,7],[],[],[]⟩ ⟨[(6,I (wi (Int.tdiv a0n a1by))),(7,I (Int.tmod a0n a1by))],[]⟩ krf (sR tfm ⟨[4,5],[],[],[]⟩ ⟨[(4,I (wi (Int.tdiv a0n a1by))),(5,I (Int.tmod a0n a1by))],[]⟩ krf (sT ?_)))
  exact qR (.id) krf krf krf
def g_days_Local (n:Nat) (a0c:GCl) (a1minute:Int):Option (Int × Int × Int) :=
 ((g_days_Valid n a0c).bind fun r2 =>
 cond (!r2)
  (some true)
  ((g_days_inside n a1minute 0 52560000).bind fun r4 =>
  some (!r4))).bind fun j1 =>
 cond j1
  (some (0,0,1))
  (((g_days_last_api_Change n a0c.Changes a1minute).bind fun r6 =>
  cond (leI 0 r6)
   ((getI a0c.Changes r6).bind fun x7 =>
   some x7.Offset)
   (some a0c.Offset)).bind fun j5 =>
  (g_days_split n (wi (a1minute+j5)) 1440).bind fun r8 =>
  some (r8.1,r8.2,0))
theorem g_days_Local_ok (n:Nat) (a0c:GCl) (a1minute:Int):∀ r,g_days_Local n a0c a1minute=some r→PCall Tryz.prog 36 [ag (GCl.cs a0c),I a1minute] (.ret (.tup [I r.1,I r.2.1,I r.2.2])):=by
 refine pcall_sim (X:=fun r:Int × Int × Int=>AEnd.ret (.tup [I r.1,I r.2.1,I r.2.2])) Tryz.func36 rfl Tryz.ntmps36 rfl ?_
 unfold g_days_Local
 refine sR tfm ⟨[1,2],[2],[],[]⟩ ⟨[(1,I a1minute),(2, .ptr 2 0)],[(2, .box 33 (bxc (GCl.cs a0c)))]⟩ krf (sS (sim_bind (fun j1=>⟨[(1,I a1minute),(2, .ptr 2 0),(20,B j1)],[(2, .box 33 (bxc (GCl.cs a0c)))]⟩:Bool→St) ?_ ?_))
 ·refine sG (xR 1 krf ?_)
  refine xC [] krf (g_days_Valid_ok n a0c) krf krf (fun _=>by kernel_rfl) (fun r2=>?_)
  refine xR 2 krf ?_
  refine xS (!r2) (fun h3=>?_) (fun h3=>?_)
  ·refine xN (want_ft krf h3) krf (xR 3 krf (xE ?_))
   exact nq_n true ⟨[1,2,20],[2],[],[]⟩ krf
  ·refine xO (want_ff krf h3) krf ?_
   refine xC [] krf (g_days_inside_ok n a1minute 0 52560000) krf krf (fun _=>by kernel_rfl) (fun r4=>?_)
   refine xR 2 krf (xE ?_)
   exact nq_n (!r4) ⟨[1,2,20],[2],[],[]⟩ krf
 ·rintro j1
  refine sC j1 krf ?_ ?_
  ·refine sR tfm ⟨[4,5,6],[],[],[]⟩ ⟨[(4,I 0),(5,I 0),(6,I 1)],[]⟩ krf (sT (sq_r ?_))
   exact qR (.id) krf krf krf
  ·refine sK (sN ⟨[1,2],[2],[],[]⟩ ⟨[(1,I a1minute),(2, .ptr 2 0)],[(2, .box 33 (bxc (GCl.cs a0c)))]⟩ krf (sR tfm ⟨[1,2,7],[2],[],[]⟩ ⟨[(1,I a1minute),(2, .ptr 2 0),(7,I a0c.Offset)],[(2, .box 33 (bxc (GCl.cs a0c)))]⟩ krf (sS (sG (xs_inline [] [] [] [] [] krf Tryz.func55 rfl Tryz.ntmps55 rfl krf krf krf (sR tfm ⟨[],[],[],[]⟩ ⟨[],[]⟩ krf (sR tfm ⟨[0,1],[],[],[]⟩ ⟨[(0, .p (.val (.func (.func 76) #[] #[]))),(1, .p (.val (.func (.func 77) #[] #[])))],[]⟩ krf ?_)))))))
   refine sT (iq_ret (.id) [] [] (.tup [.p (.val (.func (.func 76) #[] #[])), .p (.val (.func (.func 77) #[] #[]))]) krf krf (kr0 (xR 5 krf (xE (sN ⟨[1,2,7,8],[2],[],[]⟩ ⟨[(1,I a1minute),(2, .ptr 2 0),(7,I a0c.Offset),(8, .p (.val (.func (.func 76) #[] #[])))],[(2, .box 33 (bxc (GCl.cs a0c)))]⟩ krf (sim_bind (fun j5=>⟨[(1,I a1minute),(7,I j5)],[]⟩:Int→St) ?_ ?_))))))
   ·refine sS (sG (xR 4 krf ?_))
    refine xC [] krf (g_days_last_api_Change_ok n a0c.Changes a1minute) krf krf (fun _=>by kernel_rfl) (fun r6=>?_)
    refine xR 1 krf (xE (sN ⟨[1,2,7,10],[2],[],[]⟩ ⟨[(1,I a1minute),(2, .ptr 2 0),(7,I a0c.Offset),(10,I r6)],[(2, .box 33 (bxc (GCl.cs a0c)))]⟩ krf (sR tfm ⟨[1,2,7,10,33],[2],[],[]⟩ ⟨[(1,I a1minute),(2, .ptr 2 0),(7,I a0c.Offset),(10,I r6),(33,B (leI 0 r6))],[(2, .box 33 (bxc (GCl.cs a0c)))]⟩ krf (sC (leI 0 r6) krf ?_ ?_))))
    ·refine sG (xR 3 krf ?_)
     refine xG krf krf (aop_idx (e:=89) (S:=2) (enc:=GCh.cs) (l:=a0c.Changes) (k:=.i64) (n:=r6) (sv:=.p (.sl 2 (mCh a0c.Changes))) rfl krf krf krf krf krf) (fun x7=>?_)
     refine xR 3 krf (xE ?_)
     exact nq_n x7.Offset ⟨[1,7],[],[],[]⟩ krf
    ·refine sK ?_
     exact nq_n a0c.Offset ⟨[1,7],[],[],[]⟩ krf
   ·rintro j5
    refine sS (sG (xR 3 krf ?_))
    refine xC [] krf (g_days_split_ok n (wi (a1minute+j5)) 1440) krf krf (fun _=>by kernel_rfl) (fun r8=>?_)
    refine xR 5 krf (xE (sN ⟨[11,12],[],[],[]⟩ ⟨[(11,I r8.1),(12,I r8.2)],[]⟩ krf (sR tfm ⟨[4,5,6],[],[],[]⟩ ⟨[(4,I r8.1),(5,I r8.2),(6,I 0)],[]⟩ krf (sT ?_))))
    exact qR (.id) krf krf krf
def g_days_last_int_l1 (n:Nat) (a0list:List Int) (a1number:Int) (recl1:(Int × Int)→Option Int) (l1_1:Int) (l1_2:Int):Option Int :=
 cond (ltI l1_1 l1_2)
  ((getI a0list (wi (l1_1+(wi (Int.tdiv (wi ((wi (l1_2 - l1_1))+1)) 2))))).bind fun x2 =>
  (g_days_keys_2 n x2).bind fun r3 =>
  cond (leI r3 a1number)
   (recl1 (wi (l1_1+(wi (Int.tdiv (wi ((wi (l1_2 - l1_1))+1)) 2))),l1_2))
   (recl1 (l1_1,wi ((wi (l1_1+(wi (Int.tdiv (wi ((wi (l1_2 - l1_1))+1)) 2)))) - 1))))
  (some l1_1)
def g_days_last_int (n:Nat) (a0list:List Int) (a1number:Int):Option Int :=
 loopN (fun recl1 (l1_1,l1_2)=>g_days_last_int_l1 n a0list a1number recl1 l1_1 l1_2) n ((-1),wi ((lenI (List.map ci a0list)) - 1))
theorem g_days_last_int_ok (n:Nat) (a0list:List Int) (a1number:Int):∀ r,g_days_last_int n a0list a1number=some r→PCall Tryz.prog 58 [.p (.sl 1 (List.map ci a0list)),I a1number, .p (.val (.func (.func 77) #[] #[]))] (.ret (I r)):=by
 refine pcall_sim (X:=fun r:Int=>AEnd.ret (I r)) Tryz.func58 rfl Tryz.ntmps58 rfl ?_
 unfold g_days_last_int
 refine sR tfm ⟨[0,1,2],[],[],[]⟩ ⟨[(0, .p (.sl 1 (List.map ci a0list))),(1,I a1number),(2, .p (.val (.func (.func 77) #[] #[])))],[]⟩ krf (sR tfm ⟨[0,1,2,7,8],[],[],[]⟩ ⟨[(0, .p (.sl 1 (List.map ci a0list))),(1,I a1number),(2, .p (.val (.func (.func 77) #[] #[]))),(7,I (-1)),(8,I (wi ((lenI (List.map ci a0list)) - 1)))],[]⟩ krf (sS (sB (sim_loop (fun (l1_1,l1_2)=>⟨[(0, .p (.sl 1 (List.map ci a0list))),(1,I a1number),(2, .p (.val (.func (.func 77) #[] #[]))),(7,I l1_1),(8,I l1_2)],[]⟩:(Int × Int)→St) (weak_shr (K:=⟨[0,1,2,7,8],[],[],[]⟩) krf) ?_))))
 rintro recl1 ⟨l1_1,l1_2⟩
 show SimE (g_days_last_int_l1 n a0list a1number recl1 l1_1 l1_2) _ _ _ _ _ _
 unfold g_days_last_int_l1
 refine sS (sR tfm ⟨[0,1,2,7,8,15],[],[],[]⟩ ⟨[(0, .p (.sl 1 (List.map ci a0list))),(1,I a1number),(2, .p (.val (.func (.func 77) #[] #[]))),(7,I l1_1),(8,I l1_2),(15,B (ltI l1_1 l1_2))],[]⟩ krf (sC (ltI l1_1 l1_2) krf ?_ ?_))
 ·refine sK (sN ⟨[0,1,2,7,8],[],[],[]⟩ ⟨[(0, .p (.sl 1 (List.map ci a0list))),(1,I a1number),(2, .p (.val (.func (.func 77) #[] #[]))),(7,I l1_1),(8,I l1_2)],[]⟩ krf (sB (sR tfm ⟨[0,1,2,7,8,9],[],[],[]⟩ ⟨[(0, .p (.sl 1 (List.map ci a0list))),(1,I a1number),(2, .p (.val (.func (.func 77) #[] #[]))),(7,I l1_1),(8,I l1_2),(9,I (wi (l1_1+(wi (Int.tdiv (wi ((wi (l1_2 - l1_1))+1)) 2)))))],[]⟩ krf (sS (sG (xR 3 krf ?_))))))
  refine xG krf krf (aop_idx (e:=3) (S:=1) (enc:=ci) (l:=a0list) (k:=.i64) (n:=wi (l1_1+(wi (Int.tdiv (wi ((wi (l1_2 - l1_1))+1)) 2)))) (sv:=.p (.sl 1 (List.map ci a0list))) rfl krf krf krf krf krf) (fun x2=>?_)
  refine xR 1 krf ?_
  refine xC [] krf (g_days_keys_2_ok n x2) krf krf (fun _=>by kernel_rfl) (fun r3=>?_)
  refine xR 2 krf (xE (sN ⟨[0,1,2,7,8,9,30],[],[],[]⟩ ⟨[(0, .p (.sl 1 (List.map ci a0list))),(1,I a1number),(2, .p (.val (.func (.func 77) #[] #[]))),(7,I l1_1),(8,I l1_2),(9,I (wi (l1_1+(wi (Int.tdiv (wi ((wi (l1_2 - l1_1))+1)) 2))))),(30,B (leI r3 a1number))],[]⟩ krf (sC (leI r3 a1number) krf ?_ ?_)))
  ·refine sL tfm krf (bq_n ?_)
   exact kq_n (wi (l1_1+(wi (Int.tdiv (wi ((wi (l1_2 - l1_1))+1)) 2))),l1_2) ⟨[0,1,2,7,8],[],[],[]⟩ krf
  ·refine sL tfm krf (bq_n ?_)
   exact kq_n (l1_1,wi ((wi (l1_1+(wi (Int.tdiv (wi ((wi (l1_2 - l1_1))+1)) 2)))) - 1)) ⟨[0,1,2,7,8],[],[],[]⟩ krf
 ·refine sim_exit (sq_x (kq_x (bq_hit (sN ⟨[7],[],[],[]⟩ ⟨[(7,I l1_1)],[]⟩ krf (sR tfm ⟨[6],[],[],[]⟩ ⟨[(6,I l1_1)],[]⟩ krf (sT ?_))))))
  exact qR (.id) krf krf krf
def g_days_week (n:Nat):Option (Int × Int × Int × Int × Int × Int × Int) :=
 some (0,0,0,0,0,1,2)
theorem g_days_week_ok (n:Nat):∀ r,g_days_week n=some r→PCall Tryz.prog 59 [] (.ret (.agg [I r.1,I r.2.1,I r.2.2.1,I r.2.2.2.1,I r.2.2.2.2.1,I r.2.2.2.2.2.1,I r.2.2.2.2.2.2])):=by
 refine pcall_sim (X:=fun r:Int × Int × Int × Int × Int × Int × Int=>AEnd.ret (.agg [I r.1,I r.2.1,I r.2.2.1,I r.2.2.2.1,I r.2.2.2.2.1,I r.2.2.2.2.2.1,I r.2.2.2.2.2.2])) Tryz.func59 rfl Tryz.ntmps59 rfl ?_
 unfold g_days_week
 refine sR tfm ⟨[0],[0],[],[]⟩ ⟨[(0, .ptr 0 0)],[(0, .box 93 [I 0,I 0,I 0,I 0,I 0,I 0,I 0])]⟩ krf (sR tfm ⟨[0],[0],[],[]⟩ ⟨[(0, .ptr 0 0)],[(0, .box 93 [I 0,I 0,I 0,I 0,I 0,I 1,I 2])]⟩ krf (sT ?_))
 exact qR (.id) krf krf krf
def g_days_Type (n:Nat) (a0c:GCl) (a1day:Int):Option (Int × Int) :=
 ((g_days_Valid n a0c).bind fun r2 =>
 cond (!r2)
  (some true)
  ((g_days_inside n a1day (-1) 36501).bind fun r4 =>
  some (!r4))).bind fun j1 =>
 cond j1
  (some (0,1))
  ((g_days_last_int n a0c.Holidays a1day).bind fun r5 =>
  (cond (leI 0 r5)
   ((getI a0c.Holidays r5).bind fun x8 =>
   some (eqI x8 a1day))
   (some false)).bind fun j6 =>
  cond j6
   (some (2,0))
   ((g_days_week n).bind fun r9 =>
   (g_days_split n a1day 7).bind fun r10 =>
   (getI [r9.1,r9.2.1,r9.2.2.1,r9.2.2.2.1,r9.2.2.2.2.1,r9.2.2.2.2.2.1,r9.2.2.2.2.2.2] r10.2).bind fun x11 =>
   some (x11,0)))
theorem g_days_Type_ok (n:Nat) (a0c:GCl) (a1day:Int):∀ r,g_days_Type n a0c a1day=some r→PCall Tryz.prog 37 [ag (GCl.cs a0c),I a1day] (.ret (.tup [I r.1,I r.2])):=by
 refine pcall_sim (X:=fun r:Int × Int=>AEnd.ret (.tup [I r.1,I r.2])) Tryz.func37 rfl Tryz.ntmps37 rfl ?_
 unfold g_days_Type
 refine sR tfm ⟨[1,2],[2],[],[]⟩ ⟨[(1,I a1day),(2, .ptr 2 0)],[(2, .box 33 (bxc (GCl.cs a0c)))]⟩ krf (sS (sim_bind (fun j1=>⟨[(1,I a1day),(2, .ptr 2 0),(19,B j1)],[(2, .box 33 (bxc (GCl.cs a0c)))]⟩:Bool→St) ?_ ?_))
 ·refine sG (xR 1 krf ?_)
  refine xC [] krf (g_days_Valid_ok n a0c) krf krf (fun _=>by kernel_rfl) (fun r2=>?_)
  refine xR 2 krf ?_
  refine xS (!r2) (fun h3=>?_) (fun h3=>?_)
  ·refine xN (want_ft krf h3) krf (xR 3 krf (xE ?_))
   exact nq_n true ⟨[1,2,19],[2],[],[]⟩ krf
  ·refine xO (want_ff krf h3) krf ?_
   refine xC [] krf (g_days_inside_ok n a1day (-1) 36501) krf krf (fun _=>by kernel_rfl) (fun r4=>?_)
   refine xR 2 krf (xE ?_)
   exact nq_n (!r4) ⟨[1,2,19],[2],[],[]⟩ krf
 ·rintro j1
  refine sC j1 krf ?_ ?_
  ·refine sR tfm ⟨[4,5],[],[],[]⟩ ⟨[(4,I 0),(5,I 1)],[]⟩ krf (sT (sq_r ?_))
   exact qR (.id) krf krf krf
  ·refine sK (sN ⟨[1,2],[2],[],[]⟩ ⟨[(1,I a1day),(2, .ptr 2 0)],[(2, .box 33 (bxc (GCl.cs a0c)))]⟩ krf (sS (sG (xs_inline [] [] [] [] [] krf Tryz.func55 rfl Tryz.ntmps55 rfl krf krf krf (sR tfm ⟨[],[],[],[]⟩ ⟨[],[]⟩ krf (sR tfm ⟨[0,1],[],[],[]⟩ ⟨[(0, .p (.val (.func (.func 76) #[] #[]))),(1, .p (.val (.func (.func 77) #[] #[])))],[]⟩ krf (sT ?_)))))))
   refine iq_ret (.id) [] [] (.tup [.p (.val (.func (.func 76) #[] #[])), .p (.val (.func (.func 77) #[] #[]))]) krf krf (kr0 (xR 5 krf (xE (sN ⟨[1,2,7],[2],[],[]⟩ ⟨[(1,I a1day),(2, .ptr 2 0),(7, .p (.val (.func (.func 77) #[] #[])))],[(2, .box 33 (bxc (GCl.cs a0c)))]⟩ krf (sS (sS (sG ?_)))))))
   refine xR 4 krf ?_
   refine xC [] krf (g_days_last_int_ok n a0c.Holidays a1day) krf krf (fun _=>by kernel_rfl) (fun r5=>?_)
   refine xR 1 krf (xE (sN ⟨[1,2,8],[2],[],[]⟩ ⟨[(1,I a1day),(2, .ptr 2 0),(8,I r5)],[(2, .box 33 (bxc (GCl.cs a0c)))]⟩ krf (sim_bind (fun j6=>⟨[(1,I a1day),(39,B j6)],[]⟩:Bool→St) ?_ ?_)))
   ·refine sG (xR 3 krf ?_)
    refine xS (leI 0 r5) (fun h7=>?_) (fun h7=>?_)
    ·refine xO (want_tt krf h7) krf (xR 2 krf ?_)
     refine xG krf krf (aop_idx (e:=3) (S:=1) (enc:=ci) (l:=a0c.Holidays) (k:=.i64) (n:=r5) (sv:=.p (.sl 1 (List.map ci a0c.Holidays))) rfl krf krf krf krf krf) (fun x8=>?_)
     refine xR 4 krf (xE ?_)
     exact nq_n (eqI x8 a1day) ⟨[1,39],[],[],[]⟩ krf
    ·refine xN (want_tf krf h7) krf (xR 7 krf (xE ?_))
     exact nq_n false ⟨[1,39],[],[],[]⟩ krf
   ·rintro j6
    refine sC j6 krf ?_ ?_
    ·refine sR tfm ⟨[4,5],[],[],[]⟩ ⟨[(4,I 2),(5,I 0)],[]⟩ krf (sT (sq_r ?_))
     exact qR (.id) krf krf krf
    ·refine sK (sN ⟨[1],[],[],[]⟩ ⟨[(1,I a1day)],[]⟩ krf (sS (sG ?_)))
     refine xC [] krf (g_days_week_ok n) krf krf (fun _=>by kernel_rfl) (fun r9=>?_)
     refine xR 2 krf (xE (sN ⟨[1,9],[9],[],[]⟩ ⟨[(1,I a1day),(9, .ptr 9 0)],[(9, .box 93 [I r9.1,I r9.2.1,I r9.2.2.1,I r9.2.2.2.1,I r9.2.2.2.2.1,I r9.2.2.2.2.2.1,I r9.2.2.2.2.2.2])]⟩ krf (sS (sG (xR 1 krf ?_)))))
     refine xC [] krf (g_days_split_ok n a1day 7) krf krf (fun _=>by kernel_rfl) (fun r10=>?_)
     refine xR 5 krf (xE (sN ⟨[9,11],[9],[],[]⟩ ⟨[(9, .ptr 9 0),(11,I r10.2)],[(9, .box 93 [I r9.1,I r9.2.1,I r9.2.2.1,I r9.2.2.2.1,I r9.2.2.2.2.1,I r9.2.2.2.2.2.1,I r9.2.2.2.2.2.2])]⟩ krf (sS (sG (xR 1 krf ?_)))))
     refine xs_getH krf krf (aop_arrL (b:=9) (k:=.i64) (n:=r10.2) (len:=7) (e:=3) (l:=[r9.1,r9.2.1,r9.2.2.1,r9.2.2.2.1,r9.2.2.2.2.1,r9.2.2.2.2.2.1,r9.2.2.2.2.2.2]) rfl krf krf krf krf rfl) (fun x11 hx11=>?_)
     refine xs_u krf krf (aop_ldL (g:=I) (l:=[r9.1,r9.2.1,r9.2.2.1,r9.2.2.2.1,r9.2.2.2.2.1,r9.2.2.2.2.2.1,r9.2.2.2.2.2.2]) (tb:=93) (b:=9) (n:=r10.2) (v:=x11) rfl krf krf krf (getI_at hx11)) (xR 2 krf (xE (sN ⟨[4,5],[],[],[]⟩ ⟨[(4,I x11),(5,I 0)],[]⟩ krf (sT ?_))))
     exact qR (.id) krf krf krf
def g_t_Applies (n:Nat) (a0a:GAr) (a1c:GCl) (a2minute:Int):Option Bool :=
 (g_t_validArticle n a0a).bind fun r1 =>
 cond (!r1)
  (some false)
  ((g_days_Local n a1c a2minute).bind fun r2 =>
  (cond (!eqI r2.2.2 0)
   (some true)
   (cond (ltI r2.2.1 a0a.From)
    (some true)
    (some (leI a0a.To r2.2.1)))).bind fun j3 =>
  cond j3
   (some false)
   ((g_days_Type n a1c r2.1).bind fun r6 =>
   cond (eqI r6.2 0)
    (cond (!ltI r6.1 0) (
     some (!eqI (bAnd .i64 a0a.Days (shlI .i64 1 r6.1)) 0)) none)
    (some false)))
theorem g_t_Applies_ok (n:Nat) (a0a:GAr) (a1c:GCl) (a2minute:Int):∀ r,g_t_Applies n a0a a1c a2minute=some r→PCall Tryz.prog 17 [ag (GAr.cs a0a),ag (GCl.cs a1c),I a2minute] (.ret (B r)):=by
 refine pcall_sim (X:=fun r:Bool=>AEnd.ret (B r)) Tryz.func17 rfl Tryz.ntmps17 rfl ?_
 unfold g_t_Applies
 refine sR tfm ⟨[2,3,4],[3,4],[],[]⟩ ⟨[(2,I a2minute),(3, .ptr 3 0),(4, .ptr 4 0)],[(3, .box 29 (bxc (GAr.cs a0a))),(4, .box 33 (bxc (GCl.cs a1c)))]⟩ krf (sS (sS (sG (xR 1 krf ?_))))
 refine xC [] krf (g_t_validArticle_ok n a0a) krf krf (fun _=>by kernel_rfl) (fun r1=>?_)
 refine xR 1 krf (xE (sN ⟨[2,3,4,13],[3,4],[],[]⟩ ⟨[(2,I a2minute),(3, .ptr 3 0),(4, .ptr 4 0),(13,B (!r1))],[(3, .box 29 (bxc (GAr.cs a0a))),(4, .box 33 (bxc (GCl.cs a1c)))]⟩ krf (sC (!r1) krf ?_ ?_)))
 ·refine sR tfm ⟨[6],[],[],[]⟩ ⟨[(6,B false)],[]⟩ krf (sT (sq_r ?_))
  exact qR (.id) krf krf krf
 ·refine sK (sN ⟨[2,3,4],[3,4],[],[]⟩ ⟨[(2,I a2minute),(3, .ptr 3 0),(4, .ptr 4 0)],[(3, .box 29 (bxc (GAr.cs a0a))),(4, .box 33 (bxc (GCl.cs a1c)))]⟩ krf (sS (sG (xR 2 krf ?_))))
  refine xC [] krf (g_days_Local_ok n a1c a2minute) krf krf (fun _=>by kernel_rfl) (fun r2=>?_)
  refine xR 7 krf (xE (sN ⟨[3,4,7,8,9],[3,4],[],[]⟩ ⟨[(3, .ptr 3 0),(4, .ptr 4 0),(7,I r2.1),(8,I r2.2.1),(9,I r2.2.2)],[(3, .box 29 (bxc (GAr.cs a0a))),(4, .box 33 (bxc (GCl.cs a1c)))]⟩ krf (sS (sim_bind (fun j3=>⟨[(3, .ptr 3 0),(4, .ptr 4 0),(7,I r2.1),(34,B j3)],[(3, .box 29 (bxc (GAr.cs a0a))),(4, .box 33 (bxc (GCl.cs a1c)))]⟩:Bool→St) ?_ ?_))))
  ·refine sG (xR 3 krf ?_)
   refine xS (!eqI r2.2.2 0) (fun h4=>?_) (fun h4=>?_)
   ·refine xN (want_ft krf h4) krf (xR 10 krf (xE ?_))
    exact nq_n true ⟨[3,4,7,34],[3,4],[],[]⟩ krf
   ·refine xO (want_ff krf h4) krf (xR 5 krf ?_)
    refine xS (ltI r2.2.1 a0a.From) (fun h5=>?_) (fun h5=>?_)
    ·refine xN (want_ft krf h5) krf (xR 4 krf (xE ?_))
     exact nq_n true ⟨[3,4,7,34],[3,4],[],[]⟩ krf
    ·refine xO (want_ff krf h5) krf (xR 4 krf (xE ?_))
     exact nq_n (leI a0a.To r2.2.1) ⟨[3,4,7,34],[3,4],[],[]⟩ krf
  ·rintro j3
   refine sC j3 krf ?_ ?_
   ·refine sR tfm ⟨[6],[],[],[]⟩ ⟨[(6,B false)],[]⟩ krf (sT (sq_r ?_))
    exact qR (.id) krf krf krf
   ·refine sK (sN ⟨[3,4,7],[3,4],[],[]⟩ ⟨[(3, .ptr 3 0),(4, .ptr 4 0),(7,I r2.1)],[(3, .box 29 (bxc (GAr.cs a0a))),(4, .box 33 (bxc (GCl.cs a1c)))]⟩ krf (sS (sG (xR 2 krf ?_))))
    refine xC [] krf (g_days_Type_ok n a1c r2.1) krf krf (fun _=>by kernel_rfl) (fun r6=>?_)
    refine xR 5 krf (xE (sN ⟨[3,9,10],[3],[],[]⟩ ⟨[(3, .ptr 3 0),(9,I r6.2),(10,I r6.1)],[(3, .box 29 (bxc (GAr.cs a0a)))]⟩ krf (sS (sim_drw tfm rfl (xR 3 krf ?_)))))
    refine xS (eqI r6.2 0) (fun h7=>?_) (fun h7=>?_)
    ·refine xO (want_tt krf h7) krf (xR 2 krf (xF krf krf (aop_shl (k:=.i64) (k':=.i64) (a:=1) (b:=r6.1) rfl krf krf) (xR 4 krf (xs_endD krf (sN ⟨[6],[],[],[]⟩ ⟨[(6,B (!eqI (bAnd .i64 a0a.Days (shlI .i64 1 r6.1)) 0))],[]⟩ krf (sT ?_))))))
     exact qR (.id) krf krf krf
    ·refine xN (want_tf krf h7) krf (xR 7 krf (xs_endD krf (sN ⟨[6],[],[],[]⟩ ⟨[(6,B false)],[]⟩ krf (sT ?_))))
     exact qR (.id) krf krf krf
def g_t_Valid_l4 (n:Nat) (a0t:GTf) (recl4:(Int × Int)→Option Bool) (l4_1:Int) (l4_2:Int):Option Bool :=
 cond (ltI l4_2 (lenI (List.map GAr.cs a0t.Articles)))
  ((getI a0t.Articles l4_2).bind fun x5 =>
  (g_t_validArticle n x5).bind fun r6 =>
  cond (!r6)
   (some false)
   (cond (eqI x5.Kind 6)
    (recl4 (wi (l4_1+1),wi (l4_2+1)))
    (recl4 (l4_1,wi (l4_2+1)))))
  (some (leI l4_1 1))
def g_t_Valid (n:Nat) (a0t:GTf):Option Bool :=
 ((g_p_Valid n (⟨1,[],0,0,[GNode.cs (⟨2,a0t.Name,3,0,[]⟩:GNode)]⟩:GNode)).bind fun r2 =>
 cond (!r2)
  (some true)
  (some (ltI 12 (lenI (List.map GAr.cs a0t.Articles))))).bind fun j1 =>
 cond j1
  (some false)
  (loopN (fun recl4 (l4_1,l4_2)=>g_t_Valid_l4 n a0t recl4 l4_1 l4_2) n (0,0))
theorem g_t_Valid_ok (n:Nat) (a0t:GTf):∀ r,g_t_Valid n a0t=some r→PCall Tryz.prog 15 [ag (GTf.cs a0t)] (.ret (B r)):=by
 refine pcall_sim (X:=fun r:Bool=>AEnd.ret (B r)) Tryz.func15 rfl Tryz.ntmps15 rfl ?_
 unfold g_t_Valid
 refine sR tfm ⟨[1],[1],[],[]⟩ ⟨[(1, .ptr 1 0)],[(1, .box 27 (bxc (GTf.cs a0t)))]⟩ krf (sR tfm ⟨[1,3],[1,3],[],[(3,[.id, .id, .id, .id, .sl 5])]⟩ ⟨[(1, .ptr 1 0),(3, .ptr 3 0)],[(1, .box 27 (bxc (GTf.cs a0t))),(3, .box 24 (bxc (GNode.cs ⟨2,a0t.Name,3,0,[]⟩)))]⟩ krf (sS (sim_bind (fun j1=>⟨[(1, .ptr 1 0),(20,B j1)],[(1, .box 27 (bxc (GTf.cs a0t)))]⟩:Bool→St) ?_ ?_)))
 ·refine sG (xR 3 krf ?_)
  refine xC [.agg [.id, .id, .id, .id, .sl 5]] krf (g_p_Valid_ok n (⟨1,[],0,0,[GNode.cs (⟨2,a0t.Name,3,0,[]⟩:GNode)]⟩:GNode)) krf krf (fun _=>by kernel_rfl) (fun r2=>?_)
  refine xR 2 krf ?_
  refine xS (!r2) (fun h3=>?_) (fun h3=>?_)
  ·refine xN (want_ft krf h3) krf (xR 4 krf (xE ?_))
   exact nq_n true ⟨[1,20],[1],[],[]⟩ krf
  ·refine xO (want_ff krf h3) krf (xR 4 krf (xE ?_))
   exact nq_n (ltI 12 (lenI (mAr a0t.Articles))) ⟨[1,20],[1],[],[]⟩ krf
 ·rintro j1
  refine sC j1 krf ?_ ?_
  ·refine sR tfm ⟨[2],[],[],[]⟩ ⟨[(2,B false)],[]⟩ krf (sT (sq_r ?_))
   exact qR (.id) krf krf krf
  ·refine sK (sN ⟨[1],[1],[],[]⟩ ⟨[(1, .ptr 1 0)],[(1, .box 27 (bxc (GTf.cs a0t)))]⟩ krf (sR tfm ⟨[1,4],[1],[],[]⟩ ⟨[(1, .ptr 1 0),(4,I 0)],[(1, .box 27 (bxc (GTf.cs a0t)))]⟩ krf (sS (sR tfm ⟨[4,22,23,24],[],[],[]⟩ ⟨[(4,I 0),(22, .p (.sl 7 (mAr a0t.Articles))),(23,I (lenI (mAr a0t.Articles))),(24,I 0)],[]⟩ krf (sB (sim_loop (fun (l4_1,l4_2)=>⟨[(4,I l4_1),(22, .p (.sl 7 (mAr a0t.Articles))),(23,I (lenI (mAr a0t.Articles))),(24,I l4_2)],[]⟩:(Int × Int)→St) (weak_shr (K:=⟨[4,22,23,24],[],[],[]⟩) krf) ?_))))))
   rintro recl4 ⟨l4_1,l4_2⟩
   show SimE (g_t_Valid_l4 n a0t recl4 l4_1 l4_2) _ _ _ _ _ _
   unfold g_t_Valid_l4
   refine sR tfm ⟨[4,22,23,24,25],[],[],[]⟩ ⟨[(4,I l4_1),(22, .p (.sl 7 (mAr a0t.Articles))),(23,I (lenI (mAr a0t.Articles))),(24,I l4_2),(25,B (ltI l4_2 (lenI (mAr a0t.Articles))))],[]⟩ krf (sS (sC (ltI l4_2 (lenI (mAr a0t.Articles))) krf ?_ ?_))
   ·refine sK (sN ⟨[4,22,23,24],[],[],[]⟩ ⟨[(4,I l4_1),(22, .p (.sl 7 (mAr a0t.Articles))),(23,I (lenI (mAr a0t.Articles))),(24,I l4_2)],[]⟩ krf (sS (sB (sS (sG ?_)))))
    refine xG krf krf (aop_idx (e:=29) (S:=7) (enc:=GAr.cs) (l:=a0t.Articles) (k:=.i64) (n:=l4_2) (sv:=.p (.sl 7 (mAr a0t.Articles))) rfl krf krf krf krf krf) (fun x5=>?_)
    refine xR 3 krf (xE (sN ⟨[4,6,22,23,24],[6],[],[]⟩ ⟨[(4,I l4_1),(6, .ptr 6 0),(22, .p (.sl 7 (mAr a0t.Articles))),(23,I (lenI (mAr a0t.Articles))),(24,I l4_2)],[(6, .box 29 (bxc (GAr.cs x5)))]⟩ krf (sS (sS (sG (xR 1 krf ?_))))))
    refine xC [] krf (g_t_validArticle_ok n x5) krf krf (fun _=>by kernel_rfl) (fun r6=>?_)
    refine xR 1 krf (xE (sN ⟨[4,6,22,23,24,30],[6],[],[]⟩ ⟨[(4,I l4_1),(6, .ptr 6 0),(22, .p (.sl 7 (mAr a0t.Articles))),(23,I (lenI (mAr a0t.Articles))),(24,I l4_2),(30,B (!r6))],[(6, .box 29 (bxc (GAr.cs x5)))]⟩ krf (sC (!r6) krf ?_ ?_)))
    ·refine sR tfm ⟨[2],[],[],[]⟩ ⟨[(2,B false)],[]⟩ krf (sT (sq_r (bq_r (sq_r (kq_r (bq_r (sq_r ?_)))))))
     exact qR (.id) krf krf krf
    ·refine sK (sN ⟨[4,6,22,23,24],[6],[],[]⟩ ⟨[(4,I l4_1),(6, .ptr 6 0),(22, .p (.sl 7 (mAr a0t.Articles))),(23,I (lenI (mAr a0t.Articles))),(24,I l4_2)],[(6, .box 29 (bxc (GAr.cs x5)))]⟩ krf (sR tfm ⟨[4,22,23,24,33],[],[],[]⟩ ⟨[(4,I l4_1),(22, .p (.sl 7 (mAr a0t.Articles))),(23,I (lenI (mAr a0t.Articles))),(24,I l4_2),(33,B (eqI x5.Kind 6))],[]⟩ krf (sC (eqI x5.Kind 6) krf ?_ ?_)))
     ·refine sL tfm krf (bq_n (sN ⟨[4,22,23,24],[],[],[]⟩ ⟨[(4,I (wi (l4_1+1))),(22, .p (.sl 7 (mAr a0t.Articles))),(23,I (lenI (mAr a0t.Articles))),(24,I l4_2)],[]⟩ krf (sL tfm krf ?_)))
      exact kq_n (wi (l4_1+1),wi (l4_2+1)) ⟨[4,22,23,24],[],[],[]⟩ krf
     ·refine sK (bq_n (sN ⟨[4,22,23,24],[],[],[]⟩ ⟨[(4,I l4_1),(22, .p (.sl 7 (mAr a0t.Articles))),(23,I (lenI (mAr a0t.Articles))),(24,I l4_2)],[]⟩ krf (sL tfm krf ?_)))
      exact kq_n (l4_1,wi (l4_2+1)) ⟨[4,22,23,24],[],[],[]⟩ krf
   ·refine sim_exit (sq_x (kq_x (bq_hit (sN ⟨[4],[],[],[]⟩ ⟨[(4,I l4_1)],[]⟩ krf (sR tfm ⟨[2],[],[],[]⟩ ⟨[(2,B (leI l4_1 1))],[]⟩ krf (sT ?_))))))
    exact qR (.id) krf krf krf
def g_law32_head (n:Nat):Option Bool :=
 ((g_law32_is n [116,97,114,105,102,102,32,116,32,123,32,101,110,101,114,103,121,32,51,48,32,111,110,32,119,111,114,107,32,98,101,116,119,101,101,110,32,52,56,48,32,49,50,48,48,59,32,125] (⟨2,1,480,1200,30,0,0⟩:GAr)).bind fun r2 =>
 cond r2
  ((g_law32_is n [116,97,114,105,102,102,32,116,32,123,32,116,105,109,101,32,53,32,102,114,101,101,32,49,48,32,112,101,114,32,49,53,59,32,125] (⟨3,7,0,1440,5,15,10⟩:GAr)).bind fun r4 =>
  some r4)
  (some false)).bind fun j1 =>
 (cond j1
  ((g_law32_fails n [116,97,114,105,102,102,32,116,32,123,32,116,105,109,101,32,53,59,32,125] 9 11).bind fun r7 =>
  cond r7
   ((g_law32_fails n [116,97,114,105,102,102,32,116,32,123,32,101,110,101,114,103,121,32,53,32,98,101,116,119,101,101,110,32,57,32,57,59,32,125] 3 11).bind fun r9 =>
   some r9)
   (some false))
  (some false)).bind fun j5 =>
 (cond j5
  ((g_t_Applies n (⟨2,1,480,1200,30,0,0⟩:GAr) (⟨0,[],[]⟩:GCl) 480).bind fun r12 =>
  cond r12
   ((g_t_Applies n (⟨2,1,480,1200,30,0,0⟩:GAr) (⟨0,[],[]⟩:GCl) 1199).bind fun r14 =>
   cond r14
    ((g_t_Applies n (⟨2,1,480,1200,30,0,0⟩:GAr) (⟨0,[],[]⟩:GCl) 479).bind fun r16 =>
    cond (!r16)
     ((g_t_Applies n (⟨2,1,480,1200,30,0,0⟩:GAr) (⟨0,[],[]⟩:GCl) 1200).bind fun r18 =>
     cond (!r18)
      ((g_t_Applies n (⟨2,1,480,1200,30,0,0⟩:GAr) (⟨0,[],[]⟩:GCl) 7700).bind fun r20 =>
      cond (!r20)
       ((g_t_Applies n (⟨2,1,480,1200,30,0,0⟩:GAr) (⟨0,[],[]⟩:GCl) 10580).bind fun r22 =>
       some r22)
       (some false))
      (some false))
     (some false))
    (some false))
   (some false))
  (some false)).bind fun j10 =>
 cond j10
  ((g_t_Valid n (⟨[116],[(⟨2,1,480,1200,30,0,0⟩:GAr)]⟩:GTf)).bind fun r24 =>
  cond r24
   ((g_t_Valid n (⟨[111,110],[]⟩:GTf)).bind fun r26 =>
   some (!r26))
   (some false))
  (some false)
theorem g_law32_head_ok (n:Nat):∀ r,g_law32_head n=some r→PCall Tryz.prog 7 [] (.ret (B r)):=by
 refine pcall_sim (X:=fun r:Bool=>AEnd.ret (B r)) Tryz.func7 rfl Tryz.ntmps7 rfl ?_
 unfold g_law32_head
 refine sR tfm ⟨[],[],[],[]⟩ ⟨[],[]⟩ krf (sR tfm ⟨[1],[1],[],[]⟩ ⟨[(1, .ptr 1 0)],[(1, .box 29 [I 2,I 1,I 480,I 1200,I 30,I 0,I 0])]⟩ krf (sim_bind (fun j1=>⟨[(1, .ptr 1 0),(2,B j1)],[(1, .box 29 [I 2,I 1,I 480,I 1200,I 30,I 0,I 0])]⟩:Bool→St) ?_ ?_))
 ·refine sG (xR 1 krf ?_)
  refine xC [] krf (g_law32_is_ok n [116,97,114,105,102,102,32,116,32,123,32,101,110,101,114,103,121,32,51,48,32,111,110,32,119,111,114,107,32,98,101,116,119,101,101,110,32,52,56,48,32,49,50,48,48,59,32,125] (⟨2,1,480,1200,30,0,0⟩:GAr)) krf krf (fun _=>by kernel_rfl) (fun r2=>?_)
  refine xR 1 krf ?_
  refine xS r2 (fun h3=>?_) (fun h3=>?_)
  ·refine xO (want_tt krf h3) krf ?_
   refine xC [] krf (g_law32_is_ok n [116,97,114,105,102,102,32,116,32,123,32,116,105,109,101,32,53,32,102,114,101,101,32,49,48,32,112,101,114,32,49,53,59,32,125] (⟨3,7,0,1440,5,15,10⟩:GAr)) krf krf (fun _=>by kernel_rfl) (fun r4=>?_)
   refine xR 2 krf (xE ?_)
   exact nq_n r4 ⟨[1,2],[1],[],[]⟩ krf
  ·refine xN (want_tf krf h3) krf (xR 3 krf (xE ?_))
   exact nq_n false ⟨[1,2],[1],[],[]⟩ krf
 ·rintro j1
  refine sim_bind (fun j5=>⟨[(1, .ptr 1 0),(2,B j5)],[(1, .box 29 [I 2,I 1,I 480,I 1200,I 30,I 0,I 0])]⟩:Bool→St) ?_ ?_
  ·refine sG (xR 2 krf ?_)
   refine xS j1 (fun h6=>?_) (fun h6=>?_)
   ·refine xC [] (want_tt krf h6) (g_law32_fails_ok n [116,97,114,105,102,102,32,116,32,123,32,116,105,109,101,32,53,59,32,125] 9 11) krf krf (fun _=>by kernel_rfl) (fun r7=>?_)
    refine xR 2 krf ?_
    refine xS r7 (fun h8=>?_) (fun h8=>?_)
    ·refine xC [] (want_tt krf h8) (g_law32_fails_ok n [116,97,114,105,102,102,32,116,32,123,32,101,110,101,114,103,121,32,53,32,98,101,116,119,101,101,110,32,57,32,57,59,32,125] 3 11) krf krf (fun _=>by kernel_rfl) (fun r9=>?_)
     refine xR 2 krf (xE ?_)
     exact nq_n r9 ⟨[1,2],[1],[],[]⟩ krf
    ·refine xN (want_tf krf h8) krf (xR 2 krf (xE ?_))
     exact nq_n false ⟨[1,2],[1],[],[]⟩ krf
   ·refine xN (want_tf krf h6) krf (xR 5 krf (xE ?_))
    exact nq_n false ⟨[1,2],[1],[],[]⟩ krf
  ·rintro j5
   refine sR tfm ⟨[1,2,3],[1,3],[],[]⟩ ⟨[(1, .ptr 1 0),(2,B j5),(3, .ptr 3 0)],[(1, .box 29 [I 2,I 1,I 480,I 1200,I 30,I 0,I 0]),(3, .box 33 [I 0,zS,zS])]⟩ krf (sim_bind (fun j10=>⟨[(1, .ptr 1 0),(2,B j10)],[(1, .box 29 [I 2,I 1,I 480,I 1200,I 30,I 0,I 0])]⟩:Bool→St) ?_ ?_)
   ·refine sG (xR 2 krf ?_)
    refine xS j5 (fun h11=>?_) (fun h11=>?_)
    ·refine xO (want_tt krf h11) krf (xR 1 krf ?_)
     refine xC [.id, .agg [.id, .sl 2, .sl 1], .id] krf (g_t_Applies_ok n (⟨2,1,480,1200,30,0,0⟩:GAr) (⟨0,[],[]⟩:GCl) 480) krf krf (fun _=>by kernel_rfl) (fun r12=>?_)
     refine xR 2 krf ?_
     refine xS r12 (fun h13=>?_) (fun h13=>?_)
     ·refine xO (want_tt krf h13) krf (xR 1 krf ?_)
      refine xC [.id, .agg [.id, .sl 2, .sl 1], .id] krf (g_t_Applies_ok n (⟨2,1,480,1200,30,0,0⟩:GAr) (⟨0,[],[]⟩:GCl) 1199) krf krf (fun _=>by kernel_rfl) (fun r14=>?_)
      refine xR 2 krf ?_
      refine xS r14 (fun h15=>?_) (fun h15=>?_)
      ·refine xO (want_tt krf h15) krf (xR 1 krf ?_)
       refine xC [.id, .agg [.id, .sl 2, .sl 1], .id] krf (g_t_Applies_ok n (⟨2,1,480,1200,30,0,0⟩:GAr) (⟨0,[],[]⟩:GCl) 479) krf krf (fun _=>by kernel_rfl) (fun r16=>?_)
       refine xR 3 krf ?_
       refine xS (!r16) (fun h17=>?_) (fun h17=>?_)
       ·refine xO (want_tt krf h17) krf (xR 1 krf ?_)
        refine xC [.id, .agg [.id, .sl 2, .sl 1], .id] krf (g_t_Applies_ok n (⟨2,1,480,1200,30,0,0⟩:GAr) (⟨0,[],[]⟩:GCl) 1200) krf krf (fun _=>by kernel_rfl) (fun r18=>?_)
        refine xR 3 krf ?_
        refine xS (!r18) (fun h19=>?_) (fun h19=>?_)
        ·refine xO (want_tt krf h19) krf (xR 1 krf ?_)
         refine xC [.id, .agg [.id, .sl 2, .sl 1], .id] krf (g_t_Applies_ok n (⟨2,1,480,1200,30,0,0⟩:GAr) (⟨0,[],[]⟩:GCl) 7700) krf krf (fun _=>by kernel_rfl) (fun r20=>?_)
         refine xR 3 krf ?_
         refine xS (!r20) (fun h21=>?_) (fun h21=>?_)
         ·refine xO (want_tt krf h21) krf (xR 1 krf ?_)
          refine xC [.id, .agg [.id, .sl 2, .sl 1], .id] krf (g_t_Applies_ok n (⟨2,1,480,1200,30,0,0⟩:GAr) (⟨0,[],[]⟩:GCl) 10580) krf krf (fun _=>by kernel_rfl) (fun r22=>?_)
          refine xR 2 krf (xE ?_)
          exact nq_n r22 ⟨[1,2],[1],[],[]⟩ krf
         ·refine xN (want_tf krf h21) krf (xR 4 krf (xE ?_))
          exact nq_n false ⟨[1,2],[1],[],[]⟩ krf
        ·refine xN (want_tf krf h19) krf (xR 10 krf (xE ?_))
         exact nq_n false ⟨[1,2],[1],[],[]⟩ krf
       ·refine xN (want_tf krf h17) krf (xR 16 krf (xE ?_))
        exact nq_n false ⟨[1,2],[1],[],[]⟩ krf
      ·refine xN (want_tf krf h15) krf (xR 22 krf (xE ?_))
       exact nq_n false ⟨[1,2],[1],[],[]⟩ krf
     ·refine xN (want_tf krf h13) krf (xR 27 krf (xE ?_))
      exact nq_n false ⟨[1,2],[1],[],[]⟩ krf
    ·refine xN (want_tf krf h11) krf (xR 32 krf (xE ?_))
     exact nq_n false ⟨[1,2],[1],[],[]⟩ krf
   ·rintro j10
    refine sS (sG (xR 2 krf ?_))
    refine xS j10 (fun h23=>?_) (fun h23=>?_)
    ·refine xO (want_tt krf h23) krf (xR 2 krf ?_)
     refine xC [.agg [.id, .sl 7]] krf (g_t_Valid_ok n (⟨[116],[(⟨2,1,480,1200,30,0,0⟩:GAr)]⟩:GTf)) krf krf (fun _=>by kernel_rfl) (fun r24=>?_)
     refine xR 2 krf ?_
     refine xS r24 (fun h25=>?_) (fun h25=>?_)
     ·refine xO (want_tt krf h25) krf ?_
      refine xC [.agg [.id, .sl 7]] krf (g_t_Valid_ok n (⟨[111,110],[]⟩:GTf)) krf krf (fun _=>by kernel_rfl) (fun r26=>?_)
      refine xR 3 krf (xE (sN ⟨[0],[],[],[]⟩ ⟨[(0,B (!r26))],[]⟩ krf (sT ?_)))
      exact qR (.id) krf krf krf
     ·refine xN (want_tf krf h25) krf (xR 4 krf (xE (sN ⟨[0],[],[],[]⟩ ⟨[(0,B false)],[]⟩ krf (sT ?_))))
      exact qR (.id) krf krf krf
    ·refine xN (want_tf krf h23) krf (xR 10 krf (xE (sN ⟨[0],[],[],[]⟩ ⟨[(0,B false)],[]⟩ krf (sT ?_))))
     exact qR (.id) krf krf krf
def g_ref02_Count_l1 (a0n:GNode) (a1most:Int) (rf_ref02_Count:GNode→Int→Option Int) (recl1:(Int × Int)→Option Int) (l1_1:Int) (l1_2:Int):Option Int :=
 (cond (ltI l1_2 (lenI (List.map idc a0n.Kids)))
  (some (leI l1_1 a1most))
  (some false)).bind fun j2 =>
 cond j2
  ((Option.bind (getI a0n.Kids l1_2) GNode.of).bind fun x4 =>
  (rf_ref02_Count x4 (wi (a1most - l1_1))).bind fun r5 =>
  recl1 (wi (l1_1+r5),wi (l1_2+1)))
  (some l1_1)
def g_ref02_Count_body (n:Nat) (rf_ref02_Count:GNode→Int→Option Int) (a0n:GNode) (a1most:Int):Option Int :=
 loopN (fun recl1 (l1_1,l1_2)=>g_ref02_Count_l1 a0n a1most rf_ref02_Count recl1 l1_1 l1_2) n (1,0)
def g_ref02_Count:Nat→GNode→Int→Option Int
 | 0,_,_=>none
 | n+1,a0n,a1most=>g_ref02_Count_body n (g_ref02_Count n) a0n a1most
theorem g_ref02_Count_ok (n:Nat) (a0n:GNode) (a1most:Int):∀ r,g_ref02_Count n a0n a1most=some r→PCall Tryz.prog 26 [ag (GNode.cs a0n),I a1most] (.ret (I r)):=by
 induction n generalizing a0n a1most with
 | zero=>intro r hr; cases (show (none:Option Int)=some r from hr)
 | succ n ih =>
 show ∀ r,g_ref02_Count_body n (g_ref02_Count n) a0n a1most=some r→_
 generalize g_ref02_Count n=rf_ref02_Count at ih ⊢
 refine pcall_sim (X:=fun r:Int=>AEnd.ret (I r)) Tryz.func26 rfl Tryz.ntmps26 rfl ?_
 unfold g_ref02_Count_body
 refine sR tfm ⟨[1,2],[2],[],[]⟩ ⟨[(1,I a1most),(2, .ptr 2 0)],[(2, .box 24 (bxc (GNode.cs a0n)))]⟩ krf (sR tfm ⟨[1,2,5],[2],[],[]⟩ ⟨[(1,I a1most),(2, .ptr 2 0),(5,I 1)],[(2, .box 24 (bxc (GNode.cs a0n)))]⟩ krf (sS (sR tfm ⟨[1,2,5,6],[2],[],[]⟩ ⟨[(1,I a1most),(2, .ptr 2 0),(5,I 1),(6,I 0)],[(2, .box 24 (bxc (GNode.cs a0n)))]⟩ krf (sB (sim_loop (fun (l1_1,l1_2)=>⟨[(1,I a1most),(2, .ptr 2 0),(5,I l1_1),(6,I l1_2)],[(2, .box 24 (bxc (GNode.cs a0n)))]⟩:(Int × Int)→St) (weak_shr (K:=⟨[1,2,5,6],[2],[],[]⟩) krf) ?_)))))
 rintro recl1 ⟨l1_1,l1_2⟩
 show SimE (g_ref02_Count_l1 a0n a1most rf_ref02_Count recl1 l1_1 l1_2) _ _ _ _ _ _
 unfold g_ref02_Count_l1
 refine sS (sim_bind (fun j2=>⟨[(1,I a1most),(2, .ptr 2 0),(5,I l1_1),(6,I l1_2),(16,B j2)],[(2, .box 24 (bxc (GNode.cs a0n)))]⟩:Bool→St) ?_ ?_)
 ·refine sG (xR 6 krf ?_)
  refine xS (ltI l1_2 (lenI (mI a0n.Kids))) (fun h3=>?_) (fun h3=>?_)
  ·refine xO (want_tt krf h3) krf (xR 3 krf (xE ?_))
   exact nq_n (leI l1_1 a1most) ⟨[1,2,5,6,16],[2],[],[]⟩ krf
  ·refine xN (want_tf krf h3) krf (xR 3 krf (xE ?_))
   exact nq_n false ⟨[1,2,5,6,16],[2],[],[]⟩ krf
 ·rintro j2
  refine sC j2 krf ?_ ?_
  ·refine sK (sN ⟨[1,2,5,6],[2],[],[]⟩ ⟨[(1,I a1most),(2, .ptr 2 0),(5,I l1_1),(6,I l1_2)],[(2, .box 24 (bxc (GNode.cs a0n)))]⟩ krf (sS (sB (sG (xR 4 krf ?_)))))
   refine xG krf krf (aop_idxR (e:=24) (S:=5) (enc:=GNode.cs) (dec:=GNode.of) (l:=a0n.Kids) (k:=.i64) (n:=l1_2) (sv:=.p (.sl 5 (mI a0n.Kids))) GNode.of_cs rfl krf krf krf krf krf) (fun x4=>?_)
   refine xR 4 krf ?_
   refine xC [] krf (ih x4 (wi (a1most - l1_1))) krf krf (fun _=>by kernel_rfl) (fun r5=>?_)
   refine xR 2 krf (xE (bq_n (sN ⟨[1,2,5,6],[2],[],[]⟩ ⟨[(1,I a1most),(2, .ptr 2 0),(5,I (wi (l1_1+r5))),(6,I l1_2)],[(2, .box 24 (bxc (GNode.cs a0n)))]⟩ krf (sL tfm krf ?_))))
   exact kq_n (wi (l1_1+r5),wi (l1_2+1)) ⟨[1,2,5,6],[2],[],[]⟩ krf
  ·refine sim_exit (sq_x (kq_x (bq_hit (sN ⟨[5],[],[],[]⟩ ⟨[(5,I l1_1)],[]⟩ krf (sR tfm ⟨[4],[],[],[]⟩ ⟨[(4,I l1_1)],[]⟩ krf (sT ?_))))))
   exact qR (.id) krf krf krf
def g_ref02_names_l3 (a0n:GNode) (a1depth:Int) (rf_ref02_names:GNode→Int→Option Bool) (recl3:Int→Option Bool) (l3:Int):Option Bool :=
 cond (ltI l3 (lenI (List.map idc a0n.Kids)))
  ((Option.bind (getI a0n.Kids l3) GNode.of).bind fun x4 =>
  (rf_ref02_names x4 (wi (a1depth - 1))).bind fun r5 =>
  cond (!r5)
   (some false)
   (recl3 (wi (l3+1))))
  (some true)
def g_ref02_names_body (n:Nat) (rf_ref02_names:GNode→Int→Option Bool) (a0n:GNode) (a1depth:Int):Option Bool :=
 (cond (eqI a1depth 0)
  (some true)
  (some (ltI 40 (lenI a0n.Name)))).bind fun j1 =>
 cond j1
  (some false)
  (loopN (fun recl3 l3=>g_ref02_names_l3 a0n a1depth rf_ref02_names recl3 l3) n 0)
def g_ref02_names:Nat→GNode→Int→Option Bool
 | 0,_,_=>none
 | n+1,a0n,a1depth=>g_ref02_names_body n (g_ref02_names n) a0n a1depth
theorem g_ref02_names_ok (n:Nat) (a0n:GNode) (a1depth:Int):∀ r,g_ref02_names n a0n a1depth=some r→PCall Tryz.prog 27 [ag (GNode.cs a0n),I a1depth] (.ret (B r)):=by
 induction n generalizing a0n a1depth with
 | zero=>intro r hr; cases (show (none:Option Bool)=some r from hr)
 | succ n ih =>
 show ∀ r,g_ref02_names_body n (g_ref02_names n) a0n a1depth=some r→_
 generalize g_ref02_names n=rf_ref02_names at ih ⊢
 refine pcall_sim (X:=fun r:Bool=>AEnd.ret (B r)) Tryz.func27 rfl Tryz.ntmps27 rfl ?_
 unfold g_ref02_names_body
 refine sR tfm ⟨[1,2],[2],[],[]⟩ ⟨[(1,I a1depth),(2, .ptr 2 0)],[(2, .box 24 (bxc (GNode.cs a0n)))]⟩ krf (sS (sim_bind (fun j1=>⟨[(1,I a1depth),(2, .ptr 2 0),(13,B j1)],[(2, .box 24 (bxc (GNode.cs a0n)))]⟩:Bool→St) ?_ ?_))
 ·refine sG (xR 3 krf ?_)
  refine xS (eqI a1depth 0) (fun h2=>?_) (fun h2=>?_)
  ·refine xN (want_ft krf h2) krf (xR 4 krf (xE ?_))
   exact nq_n true ⟨[1,2,13],[2],[],[]⟩ krf
  ·refine xO (want_ff krf h2) krf (xR 4 krf (xE ?_))
   exact nq_n (ltI 40 (lenI a0n.Name)) ⟨[1,2,13],[2],[],[]⟩ krf
 ·rintro j1
  refine sC j1 krf ?_ ?_
  ·refine sR tfm ⟨[4],[],[],[]⟩ ⟨[(4,B false)],[]⟩ krf (sT (sq_r ?_))
   exact qR (.id) krf krf krf
  ·refine sK (sN ⟨[1,2],[2],[],[]⟩ ⟨[(1,I a1depth),(2, .ptr 2 0)],[(2, .box 24 (bxc (GNode.cs a0n)))]⟩ krf (sS (sR tfm ⟨[1,2,5],[2],[],[]⟩ ⟨[(1,I a1depth),(2, .ptr 2 0),(5,I 0)],[(2, .box 24 (bxc (GNode.cs a0n)))]⟩ krf (sB (sim_loop (fun l3=>⟨[(1,I a1depth),(2, .ptr 2 0),(5,I l3)],[(2, .box 24 (bxc (GNode.cs a0n)))]⟩:Int→St) (weak_shr (K:=⟨[1,2,5],[2],[],[]⟩) krf) ?_)))))
   rintro recl3 l3
   show SimE (g_ref02_names_l3 a0n a1depth rf_ref02_names recl3 l3) _ _ _ _ _ _
   unfold g_ref02_names_l3
   refine sS (sR tfm ⟨[1,2,5,18],[2],[],[]⟩ ⟨[(1,I a1depth),(2, .ptr 2 0),(5,I l3),(18,B (ltI l3 (lenI (mI a0n.Kids))))],[(2, .box 24 (bxc (GNode.cs a0n)))]⟩ krf (sC (ltI l3 (lenI (mI a0n.Kids))) krf ?_ ?_))
   ·refine sK (sN ⟨[1,2,5],[2],[],[]⟩ ⟨[(1,I a1depth),(2, .ptr 2 0),(5,I l3)],[(2, .box 24 (bxc (GNode.cs a0n)))]⟩ krf (sS (sB (sS (sG (xR 3 krf ?_))))))
    refine xG krf krf (aop_idxR (e:=24) (S:=5) (enc:=GNode.cs) (dec:=GNode.of) (l:=a0n.Kids) (k:=.i64) (n:=l3) (sv:=.p (.sl 5 (mI a0n.Kids))) GNode.of_cs rfl krf krf krf krf krf) (fun x4=>?_)
    refine xR 3 krf ?_
    refine xC [] krf (ih x4 (wi (a1depth - 1))) krf krf (fun _=>by kernel_rfl) (fun r5=>?_)
    refine xR 1 krf (xE (sN ⟨[1,2,5,29],[2],[],[]⟩ ⟨[(1,I a1depth),(2, .ptr 2 0),(5,I l3),(29,B (!r5))],[(2, .box 24 (bxc (GNode.cs a0n)))]⟩ krf (sC (!r5) krf ?_ ?_)))
    ·refine sR tfm ⟨[4],[],[],[]⟩ ⟨[(4,B false)],[]⟩ krf (sT (bq_r (sq_r (kq_r (bq_r (sq_r ?_))))))
     exact qR (.id) krf krf krf
    ·refine sK (bq_n (sN ⟨[1,2,5],[2],[],[]⟩ ⟨[(1,I a1depth),(2, .ptr 2 0),(5,I l3)],[(2, .box 24 (bxc (GNode.cs a0n)))]⟩ krf (sL tfm krf ?_)))
     exact kq_n (wi (l3+1)) ⟨[1,2,5],[2],[],[]⟩ krf
   ·refine sim_exit (sq_x (kq_x (bq_hit (sN ⟨[],[],[],[]⟩ ⟨[],[]⟩ krf (sR tfm ⟨[4],[],[],[]⟩ ⟨[(4,B true)],[]⟩ krf (sT ?_))))))
    exact qR (.id) krf krf krf
def g_ref02_Few (n:Nat) (a0n:GNode) (a1most:Int):Option Bool :=
 (g_ref02_Count n a0n a1most).bind fun r1 =>
 cond (leI r1 a1most)
  ((g_ref02_names n a0n 50).bind fun r3 =>
  some r3)
  (some false)
theorem g_ref02_Few_ok (n:Nat) (a0n:GNode) (a1most:Int):∀ r,g_ref02_Few n a0n a1most=some r→PCall Tryz.prog 8 [ag (GNode.cs a0n),I a1most] (.ret (B r)):=by
 refine pcall_sim (X:=fun r:Bool=>AEnd.ret (B r)) Tryz.func8 rfl Tryz.ntmps8 rfl ?_
 unfold g_ref02_Few
 refine sR tfm ⟨[1,2],[2],[],[]⟩ ⟨[(1,I a1most),(2, .ptr 2 0)],[(2, .box 24 (bxc (GNode.cs a0n)))]⟩ krf (sS (sG (xR 2 krf ?_)))
 refine xC [] krf (g_ref02_Count_ok n a0n a1most) krf krf (fun _=>by kernel_rfl) (fun r1=>?_)
 refine xR 3 krf ?_
 refine xS (leI r1 a1most) (fun h2=>?_) (fun h2=>?_)
 ·refine xO (want_tt krf h2) krf ?_
  refine xC [] krf (g_ref02_names_ok n a0n 50) krf krf (fun _=>by kernel_rfl) (fun r3=>?_)
  refine xR 2 krf (xE (sN ⟨[4],[],[],[]⟩ ⟨[(4,B r3)],[]⟩ krf (sT ?_)))
  exact qR (.id) krf krf krf
 ·refine xN (want_tf krf h2) krf (xR 3 krf (xE (sN ⟨[4],[],[],[]⟩ ⟨[(4,B false)],[]⟩ krf (sT ?_))))
  exact qR (.id) krf krf krf
def g_ref32_Few (n:Nat) (a0t:GTf):Option Bool :=
 cond (leI (lenI (List.map GAr.cs a0t.Articles)) 20)
  (some (leI (lenI a0t.Name) 40))
  (some false)
theorem g_ref32_Few_ok (n:Nat) (a0t:GTf):∀ r,g_ref32_Few n a0t=some r→PCall Tryz.prog 9 [ag (GTf.cs a0t)] (.ret (B r)):=by
 refine pcall_sim (X:=fun r:Bool=>AEnd.ret (B r)) Tryz.func9 rfl Tryz.ntmps9 rfl ?_
 unfold g_ref32_Few
 refine sR tfm ⟨[1],[1],[],[]⟩ ⟨[(1, .ptr 1 0)],[(1, .box 27 (bxc (GTf.cs a0t)))]⟩ krf (sS (sG (xR 5 krf ?_)))
 refine xS (leI (lenI (mAr a0t.Articles)) 20) (fun h1=>?_) (fun h1=>?_)
 ·refine xO (want_tt krf h1) krf (xR 5 krf (xE (sN ⟨[2],[],[],[]⟩ ⟨[(2,B (leI (lenI a0t.Name) 40))],[]⟩ krf (sT ?_))))
  exact qR (.id) krf krf krf
 ·refine xN (want_tf krf h1) krf (xR 5 krf (xE (sN ⟨[2],[],[],[]⟩ ⟨[(2,B false)],[]⟩ krf (sT ?_))))
  exact qR (.id) krf krf krf
def g_ref26_Few (n:Nat) (a0c:GCl):Option Bool :=
 cond (leI (lenI (List.map GCh.cs a0c.Changes)) 30)
  (some (leI (lenI (List.map ci a0c.Holidays)) 60))
  (some false)
theorem g_ref26_Few_ok (n:Nat) (a0c:GCl):∀ r,g_ref26_Few n a0c=some r→PCall Tryz.prog 10 [ag (GCl.cs a0c)] (.ret (B r)):=by
 refine pcall_sim (X:=fun r:Bool=>AEnd.ret (B r)) Tryz.func10 rfl Tryz.ntmps10 rfl ?_
 unfold g_ref26_Few
 refine sR tfm ⟨[1],[1],[],[]⟩ ⟨[(1, .ptr 1 0)],[(1, .box 33 (bxc (GCl.cs a0c)))]⟩ krf (sS (sG (xR 5 krf ?_)))
 refine xS (leI (lenI (mCh a0c.Changes)) 30) (fun h1=>?_) (fun h1=>?_)
 ·refine xO (want_tt krf h1) krf (xR 5 krf (xE (sN ⟨[2],[],[],[]⟩ ⟨[(2,B (leI (lenI (List.map ci a0c.Holidays)) 60))],[]⟩ krf (sT ?_))))
  exact qR (.id) krf krf krf
 ·refine xN (want_tf krf h1) krf (xR 5 krf (xE (sN ⟨[2],[],[],[]⟩ ⟨[(2,B false)],[]⟩ krf (sT ?_))))
  exact qR (.id) krf krf krf
def g_ref02_Kinds (n:Nat):Option (List (List UInt8)) :=
 some [[102,101,101,100,101,114],[99,97,98,108,101],[111,119,110,101,114],[99,111,110,116,114,97,99,116],[99,104,97,114,103,101,114],[98,97,121],[116,97,114,105,102,102]]
theorem g_ref02_Kinds_ok (n:Nat):∀ r,g_ref02_Kinds n=some r→PCall Tryz.prog 49 [] (.ret (.p (.sl 1 (List.map cstr r)))):=by
 refine pcall_sim (X:=fun r:List (List UInt8)=>AEnd.ret (.p (.sl 1 (List.map cstr r)))) Tryz.func49 rfl Tryz.ntmps49 rfl ?_
 unfold g_ref02_Kinds
 refine sR tfm ⟨[],[],[],[]⟩ ⟨[],[]⟩ krf (sR tfm ⟨[0],[1],[],[]⟩ ⟨[(0, .tsl 1 (List.map cstr [[102,101,101,100,101,114],[99,97,98,108,101],[111,119,110,101,114],[99,111,110,116,114,97,99,116],[99,104,97,114,103,101,114],[98,97,121],[116,97,114,105,102,102]]) 1)],[(1, .arr 9 1 (List.map cstr [[102,101,101,100,101,114],[99,97,98,108,101],[111,119,110,101,114],[99,111,110,116,114,97,99,116],[99,104,97,114,103,101,114],[98,97,121],[116,97,114,105,102,102]]).length)]⟩ krf (sT ?_))
 exact qR (.sl 1) krf krf krf
def g_ref02_In_l1 (a0l:List (List UInt8)) (a1s:List UInt8) (recl1:Int→Option Int) (l1:Int):Option Int :=
 cond (ltI l1 (lenI (List.map cstr a0l)))
  ((getI a0l l1).bind fun x2 =>
  cond (eqS x2 a1s)
   (some l1)
   (recl1 (wi (l1+1))))
  (some (-1))
def g_ref02_In (n:Nat) (a0l:List (List UInt8)) (a1s:List UInt8):Option Int :=
 loopN (fun recl1 l1=>g_ref02_In_l1 a0l a1s recl1 l1) n 0
theorem g_ref02_In_ok (n:Nat) (a0l:List (List UInt8)) (a1s:List UInt8):∀ r,g_ref02_In n a0l a1s=some r→PCall Tryz.prog 32 [.p (.sl 1 (List.map cstr a0l)),S a1s] (.ret (I r)):=by
 refine pcall_sim (X:=fun r:Int=>AEnd.ret (I r)) Tryz.func32 rfl Tryz.ntmps32 rfl ?_
 unfold g_ref02_In
 refine sR tfm ⟨[0,1],[],[],[]⟩ ⟨[(0, .p (.sl 1 (List.map cstr a0l))),(1,S a1s)],[]⟩ krf (sS (sR tfm ⟨[0,1,5],[],[],[]⟩ ⟨[(0, .p (.sl 1 (List.map cstr a0l))),(1,S a1s),(5,I 0)],[]⟩ krf (sB (sim_loop (fun l1=>⟨[(0, .p (.sl 1 (List.map cstr a0l))),(1,S a1s),(5,I l1)],[]⟩:Int→St) (weak_shr (K:=⟨[0,1,5],[],[],[]⟩) krf) ?_))))
 rintro recl1 l1
 show SimE (g_ref02_In_l1 a0l a1s recl1 l1) _ _ _ _ _ _
 unfold g_ref02_In_l1
 refine sS (sR tfm ⟨[0,1,5,9],[],[],[]⟩ ⟨[(0, .p (.sl 1 (List.map cstr a0l))),(1,S a1s),(5,I l1),(9,B (ltI l1 (lenI (List.map cstr a0l))))],[]⟩ krf (sC (ltI l1 (lenI (List.map cstr a0l))) krf ?_ ?_))
 ·refine sK (sN ⟨[0,1,5],[],[],[]⟩ ⟨[(0, .p (.sl 1 (List.map cstr a0l))),(1,S a1s),(5,I l1)],[]⟩ krf (sS (sB (sS (sG (xR 2 krf ?_))))))
  refine xG krf krf (aop_idx (e:=9) (S:=1) (enc:=cstr) (l:=a0l) (k:=.i64) (n:=l1) (sv:=.p (.sl 1 (List.map cstr a0l))) rfl krf krf krf krf krf) (fun x2=>?_)
  refine xR 3 krf (xE (sN ⟨[0,1,5,17],[],[],[]⟩ ⟨[(0, .p (.sl 1 (List.map cstr a0l))),(1,S a1s),(5,I l1),(17,B (eqS x2 a1s))],[]⟩ krf (sC (eqS x2 a1s) krf ?_ ?_)))
  ·refine sR tfm ⟨[4],[],[],[]⟩ ⟨[(4,I l1)],[]⟩ krf (sT (bq_r (sq_r (kq_r (bq_r (sq_r ?_))))))
   exact qR (.id) krf krf krf
  ·refine sK (bq_n (sN ⟨[0,1,5],[],[],[]⟩ ⟨[(0, .p (.sl 1 (List.map cstr a0l))),(1,S a1s),(5,I l1)],[]⟩ krf (sL tfm krf ?_)))
   exact kq_n (wi (l1+1)) ⟨[0,1,5],[],[],[]⟩ krf
 ·refine sim_exit (sq_x (kq_x (bq_hit (sN ⟨[],[],[],[]⟩ ⟨[],[]⟩ krf (sR tfm ⟨[4],[],[],[]⟩ ⟨[(4,I (-1))],[]⟩ krf (sT ?_))))))
  exact qR (.id) krf krf krf
def g_ref02_Attrs (n:Nat):Option (List (List UInt8)) :=
 some [[108,105,109,105,116],[110,101,117,116,114,97,108],[102,117,115,101],[116,104,101,114,109,97,108],[102,114,111,109],[97,116],[112,104,97,115,101,115],[97,109,112,115],[102,97,108,108,98,97,99,107],[111,119,110,101,114],[99,97,114,100],[114,97,110,107],[99,104,97,114,103,101,114]]
theorem g_ref02_Attrs_ok (n:Nat):∀ r,g_ref02_Attrs n=some r→PCall Tryz.prog 50 [] (.ret (.p (.sl 1 (List.map cstr r)))):=by
 refine pcall_sim (X:=fun r:List (List UInt8)=>AEnd.ret (.p (.sl 1 (List.map cstr r)))) Tryz.func50 rfl Tryz.ntmps50 rfl ?_
 unfold g_ref02_Attrs
 refine sR tfm ⟨[],[],[],[]⟩ ⟨[],[]⟩ krf (sR tfm ⟨[0],[1],[],[]⟩ ⟨[(0, .tsl 1 (List.map cstr [[108,105,109,105,116],[110,101,117,116,114,97,108],[102,117,115,101],[116,104,101,114,109,97,108],[102,114,111,109],[97,116],[112,104,97,115,101,115],[97,109,112,115],[102,97,108,108,98,97,99,107],[111,119,110,101,114],[99,97,114,100],[114,97,110,107],[99,104,97,114,103,101,114]]) 1)],[(1, .arr 9 1 (List.map cstr [[108,105,109,105,116],[110,101,117,116,114,97,108],[102,117,115,101],[116,104,101,114,109,97,108],[102,114,111,109],[97,116],[112,104,97,115,101,115],[97,109,112,115],[102,97,108,108,98,97,99,107],[111,119,110,101,114],[99,97,114,100],[114,97,110,107],[99,104,97,114,103,101,114]]).length)]⟩ krf (sT ?_))
 exact qR (.sl 1) krf krf krf
def g_ref02_Articles (n:Nat):Option (List (List UInt8)) :=
 some [[115,116,97,114,116],[101,110,101,114,103,121],[116,105,109,101],[105,100,108,101],[99,97,112],[116,97,120]]
theorem g_ref02_Articles_ok (n:Nat):∀ r,g_ref02_Articles n=some r→PCall Tryz.prog 51 [] (.ret (.p (.sl 1 (List.map cstr r)))):=by
 refine pcall_sim (X:=fun r:List (List UInt8)=>AEnd.ret (.p (.sl 1 (List.map cstr r)))) Tryz.func51 rfl Tryz.ntmps51 rfl ?_
 unfold g_ref02_Articles
 refine sR tfm ⟨[],[],[],[]⟩ ⟨[],[]⟩ krf (sR tfm ⟨[0],[1],[],[]⟩ ⟨[(0, .tsl 1 (List.map cstr [[115,116,97,114,116],[101,110,101,114,103,121],[116,105,109,101],[105,100,108,101],[99,97,112],[116,97,120]]) 1)],[(1, .arr 9 1 (List.map cstr [[115,116,97,114,116],[101,110,101,114,103,121],[116,105,109,101],[105,100,108,101],[99,97,112],[116,97,120]]).length)]⟩ krf (sT ?_))
 exact qR (.sl 1) krf krf krf
def g_ref02_Words (n:Nat):Option (List (List UInt8)) :=
 some [[111,110],[119,111,114,107],[115,97,116,117,114,100,97,121],[115,117,110,100,97,121],[98,101,116,119,101,101,110],[112,101,114],[102,114,101,101]]
theorem g_ref02_Words_ok (n:Nat):∀ r,g_ref02_Words n=some r→PCall Tryz.prog 52 [] (.ret (.p (.sl 1 (List.map cstr r)))):=by
 refine pcall_sim (X:=fun r:List (List UInt8)=>AEnd.ret (.p (.sl 1 (List.map cstr r)))) Tryz.func52 rfl Tryz.ntmps52 rfl ?_
 unfold g_ref02_Words
 refine sR tfm ⟨[],[],[],[]⟩ ⟨[],[]⟩ krf (sR tfm ⟨[0],[1],[],[]⟩ ⟨[(0, .tsl 1 (List.map cstr [[111,110],[119,111,114,107],[115,97,116,117,114,100,97,121],[115,117,110,100,97,121],[98,101,116,119,101,101,110],[112,101,114],[102,114,101,101]]) 1)],[(1, .arr 9 1 (List.map cstr [[111,110],[119,111,114,107],[115,97,116,117,114,100,97,121],[115,117,110,100,97,121],[98,101,116,119,101,101,110],[112,101,114],[102,114,101,101]]).length)]⟩ krf (sT ?_))
 exact qR (.sl 1) krf krf krf
def g_ref02_Name_j1 (n:Nat) (a0s:List UInt8):Option Bool :=
 ((g_ref02_Kinds n).bind fun r3 =>
 (g_ref02_In n r3 a0s).bind fun r4 =>
 cond (leI 0 r4)
  (some true)
  ((g_ref02_Attrs n).bind fun r6 =>
  (g_ref02_In n r6 a0s).bind fun r7 =>
  cond (leI 0 r7)
   (some true)
   ((g_ref02_Articles n).bind fun r9 =>
   (g_ref02_In n r9 a0s).bind fun r10 =>
   cond (leI 0 r10)
    (some true)
    ((g_ref02_Words n).bind fun r12 =>
    (g_ref02_In n r12 a0s).bind fun r13 =>
    some (leI 0 r13))))).bind fun j2 =>
 cond (leI 1 (lenI a0s))
  (cond (leI (lenI a0s) 12)
   (some (!j2))
   (some false))
  (some false)
def g_ref02_Name_l16 (n:Nat) (a0s:List UInt8) (recl16:Int→Option Bool) (l16:Int):Option Bool :=
 cond (ltI l16 (lenI a0s))
  ((getI a0s l16).bind fun x17 =>
  (cond (ltI (b2i x17) 97)
   (cond (eqI l16 0)
    (some true)
    (cond (ltI (b2i x17) 48)
     (some (!eqI (b2i x17) 95))
     (cond (ltI 57 (b2i x17))
      (some (!eqI (b2i x17) 95))
      (some false))))
   (cond (ltI 122 (b2i x17))
    (cond (eqI l16 0)
     (some true)
     (cond (ltI (b2i x17) 48)
      (some (!eqI (b2i x17) 95))
      (cond (ltI 57 (b2i x17))
       (some (!eqI (b2i x17) 95))
       (some false))))
    (some false))).bind fun j18 =>
  cond j18
   (some false)
   (recl16 (wi (l16+1))))
  (g_ref02_Name_j1 n a0s)
def g_ref02_Name (n:Nat) (a0s:List UInt8):Option Bool :=
 loopN (fun recl16 l16=>g_ref02_Name_l16 n a0s recl16 l16) n 0
theorem g_ref02_Name_ok (n:Nat) (a0s:List UInt8):∀ r,g_ref02_Name n a0s=some r→PCall Tryz.prog 34 [S a0s] (.ret (B r)):=by
 refine pcall_sim (X:=fun r:Bool=>AEnd.ret (B r)) Tryz.func34 rfl Tryz.ntmps34 rfl ?_
 unfold g_ref02_Name
 refine sR tfm ⟨[0],[],[],[]⟩ ⟨[(0,S a0s)],[]⟩ krf (sim_cps (fun _=>⟨[(0,S a0s)],[]⟩:Unit→St) (fun _=>g_ref02_Name_j1 n a0s) ?_ ?_)
 ·rintro _
  show SimE (g_ref02_Name_j1 n a0s) _ _ _ _ _ _
  unfold g_ref02_Name_j1
  refine sim_bind (fun j2=>⟨[(0,S a0s),(5,B j2)],[]⟩:Bool→St) ?_ ?_
  ·refine sG ?_
   refine xC [] krf (g_ref02_Kinds_ok n) krf krf (fun _=>by kernel_rfl) (fun r3=>?_)
   refine xR 1 krf ?_
   refine xC [] krf (g_ref02_In_ok n r3 a0s) krf krf (fun _=>by kernel_rfl) (fun r4=>?_)
   refine xR 2 krf ?_
   refine xS (leI 0 r4) (fun h5=>?_) (fun h5=>?_)
   ·refine xN (want_ft krf h5) krf (xR 17 krf (xE ?_))
    exact nq_n true ⟨[0,5],[],[],[]⟩ krf
   ·refine xC [] (want_ff krf h5) (g_ref02_Attrs_ok n) krf krf (fun _=>by kernel_rfl) (fun r6=>?_)
    refine xR 1 krf ?_
    refine xC [] krf (g_ref02_In_ok n r6 a0s) krf krf (fun _=>by kernel_rfl) (fun r7=>?_)
    refine xR 3 krf ?_
    refine xS (leI 0 r7) (fun h8=>?_) (fun h8=>?_)
    ·refine xN (want_ft krf h8) krf (xR 11 krf (xE ?_))
     exact nq_n true ⟨[0,5],[],[],[]⟩ krf
    ·refine xC [] (want_ff krf h8) (g_ref02_Articles_ok n) krf krf (fun _=>by kernel_rfl) (fun r9=>?_)
     refine xR 1 krf ?_
     refine xC [] krf (g_ref02_In_ok n r9 a0s) krf krf (fun _=>by kernel_rfl) (fun r10=>?_)
     refine xR 3 krf ?_
     refine xS (leI 0 r10) (fun h11=>?_) (fun h11=>?_)
     ·refine xN (want_ft krf h11) krf (xR 5 krf (xE ?_))
      exact nq_n true ⟨[0,5],[],[],[]⟩ krf
     ·refine xC [] (want_ff krf h11) (g_ref02_Words_ok n) krf krf (fun _=>by kernel_rfl) (fun r12=>?_)
      refine xR 1 krf ?_
      refine xC [] krf (g_ref02_In_ok n r12 a0s) krf krf (fun _=>by kernel_rfl) (fun r13=>?_)
      refine xR 3 krf (xE ?_)
      exact nq_n (leI 0 r13) ⟨[0,5],[],[],[]⟩ krf
  ·rintro j2
   refine sS (sG (xR 4 krf ?_))
   refine xS (leI 1 (lenI a0s)) (fun h14=>?_) (fun h14=>?_)
   ·refine xO (want_tt krf h14) krf (xR 4 krf ?_)
    refine xS (leI (lenI a0s) 12) (fun h15=>?_) (fun h15=>?_)
    ·refine xO (want_tt krf h15) krf (xR 3 krf (xE (sN ⟨[2],[],[],[]⟩ ⟨[(2,B (!j2))],[]⟩ krf (sT ?_))))
     exact qR (.id) krf krf krf
    ·refine xN (want_tf krf h15) krf (xR 3 krf (xE (sN ⟨[2],[],[],[]⟩ ⟨[(2,B false)],[]⟩ krf (sT ?_))))
     exact qR (.id) krf krf krf
   ·refine xN (want_tf krf h14) krf (xR 8 krf (xE (sN ⟨[2],[],[],[]⟩ ⟨[(2,B false)],[]⟩ krf (sT ?_))))
    exact qR (.id) krf krf krf
 ·refine sR tfm ⟨[0,3],[],[],[]⟩ ⟨[(0,S a0s),(3,I 0)],[]⟩ krf (sB (sim_loop (fun l16=>⟨[(0,S a0s),(3,I l16)],[]⟩:Int→St) (weak_shr (K:=⟨[0,3],[],[],[]⟩) krf) ?_))
  rintro recl16 l16
  show SimE (g_ref02_Name_l16 n a0s recl16 l16) _ _ _ _ _ _
  unfold g_ref02_Name_l16
  refine sS (sR tfm ⟨[0,3,9],[],[],[]⟩ ⟨[(0,S a0s),(3,I l16),(9,B (ltI l16 (lenI a0s)))],[]⟩ krf (sC (ltI l16 (lenI a0s)) krf ?_ ?_))
  ·refine sK (sN ⟨[0,3],[],[],[]⟩ ⟨[(0,S a0s),(3,I l16)],[]⟩ krf (sS (sB (sS (sG (xR 2 krf ?_))))))
   refine xG krf krf (aop_sidx (l:=a0s) (k:=.i64) (n:=l16) rfl krf krf krf) (fun x17=>?_)
   refine xR 1 krf (xE (sN ⟨[0,3,4],[],[],[]⟩ ⟨[(0,S a0s),(3,I l16),(4,B8 (b2i x17))],[]⟩ krf (sim_bind (fun j18=>⟨[(0,S a0s),(3,I l16),(36,B j18)],[]⟩:Bool→St) ?_ ?_)))
   ·refine sG (xR 3 krf ?_)
    refine xS (ltI (b2i x17) 97) (fun h19=>?_) (fun h19=>?_)
    ·refine xN (want_ft krf h19) krf (xR 6 krf ?_)
     refine xS (eqI l16 0) (fun h20=>?_) (fun h20=>?_)
     ·refine xN (want_ft krf h20) krf (xR 11 krf (xE ?_))
      exact nq_n true ⟨[0,3,36],[],[],[]⟩ krf
     ·refine xO (want_ff krf h20) krf (xR 2 krf ?_)
      refine xS (ltI (b2i x17) 48) (fun h21=>?_) (fun h21=>?_)
      ·refine xN (want_ft krf h21) krf (xR 8 krf (xE ?_))
       exact nq_n (!eqI (b2i x17) 95) ⟨[0,3,36],[],[],[]⟩ krf
      ·refine xO (want_ff krf h21) krf (xR 3 krf ?_)
       refine xS (ltI 57 (b2i x17)) (fun h22=>?_) (fun h22=>?_)
       ·refine xO (want_tt krf h22) krf (xR 4 krf (xE ?_))
        exact nq_n (!eqI (b2i x17) 95) ⟨[0,3,36],[],[],[]⟩ krf
       ·refine xN (want_tf krf h22) krf (xR 4 krf (xE ?_))
        exact nq_n false ⟨[0,3,36],[],[],[]⟩ krf
    ·refine xO (want_ff krf h19) krf (xR 3 krf ?_)
     refine xS (ltI 122 (b2i x17)) (fun h23=>?_) (fun h23=>?_)
     ·refine xO (want_tt krf h23) krf (xR 2 krf ?_)
      refine xS (eqI l16 0) (fun h24=>?_) (fun h24=>?_)
      ·refine xN (want_ft krf h24) krf (xR 11 krf (xE ?_))
       exact nq_n true ⟨[0,3,36],[],[],[]⟩ krf
      ·refine xO (want_ff krf h24) krf (xR 2 krf ?_)
       refine xS (ltI (b2i x17) 48) (fun h25=>?_) (fun h25=>?_)
       ·refine xN (want_ft krf h25) krf (xR 8 krf (xE ?_))
        exact nq_n (!eqI (b2i x17) 95) ⟨[0,3,36],[],[],[]⟩ krf
       ·refine xO (want_ff krf h25) krf (xR 3 krf ?_)
        refine xS (ltI 57 (b2i x17)) (fun h26=>?_) (fun h26=>?_)
        ·refine xO (want_tt krf h26) krf (xR 4 krf (xE ?_))
         exact nq_n (!eqI (b2i x17) 95) ⟨[0,3,36],[],[],[]⟩ krf
        ·refine xN (want_tf krf h26) krf (xR 4 krf (xE ?_))
         exact nq_n false ⟨[0,3,36],[],[],[]⟩ krf
     ·refine xN (want_tf krf h23) krf (xR 14 krf (xE ?_))
      exact nq_n false ⟨[0,3,36],[],[],[]⟩ krf
   ·rintro j18
    refine sC j18 krf ?_ ?_
    ·refine sR tfm ⟨[2],[],[],[]⟩ ⟨[(2,B false)],[]⟩ krf (sT (bq_r (sq_r (kq_r (bq_r (kq_r ?_))))))
     exact qR (.id) krf krf krf
    ·refine sK (bq_n (sN ⟨[0,3],[],[],[]⟩ ⟨[(0,S a0s),(3,I l16)],[]⟩ krf (sL tfm krf ?_)))
     exact kq_n (wi (l16+1)) ⟨[0,3],[],[],[]⟩ krf
  ·refine sim_exit (sq_x (kq_x (bq_hit ?_)))
   exact kq_n (k:=fun _=>g_ref02_Name_j1 n a0s) () ⟨[0],[],[],[]⟩ krf
def g_ref02_value (n:Nat) (a0n:GNode) (a1words:Bool):Option Bool :=
 cond (ltI 0 (lenI (List.map idc a0n.Kids)))
  (some false)
  (cond (eqI a0n.Kind 6)
   ((cond (eqS a0n.Name [])
    (cond (leI 0 a0n.N)
     (some (leI a0n.N 1000000))
     (some false))
    (some false)).bind fun j1 =>
   some j1)
   ((cond (eqI a0n.Kind 5)
    (cond (eqI a0n.N 0)
     ((g_ref02_Name n a0n.Name).bind fun r7 =>
     cond r7
      (some true)
      (cond a1words
       ((g_ref02_Words n).bind fun r10 =>
       (g_ref02_In n r10 a0n.Name).bind fun r11 =>
       some (leI 0 r11))
       (some false)))
     (some false))
    (some false)).bind fun j4 =>
   some j4))
theorem g_ref02_value_ok (n:Nat) (a0n:GNode) (a1words:Bool):∀ r,g_ref02_value n a0n a1words=some r→PCall Tryz.prog 93 [ag (GNode.cs a0n),B a1words] (.ret (B r)):=by
 refine pcall_sim (X:=fun r:Bool=>AEnd.ret (B r)) Tryz.func93 rfl Tryz.ntmps93 rfl ?_
 unfold g_ref02_value
 refine sR tfm ⟨[1,2],[2],[],[]⟩ ⟨[(1,B a1words),(2, .ptr 2 0)],[(2, .box 24 (bxc (GNode.cs a0n)))]⟩ krf (sS (sR tfm ⟨[1,2,8],[2],[],[]⟩ ⟨[(1,B a1words),(2, .ptr 2 0),(8,B (ltI 0 (lenI (mI a0n.Kids))))],[(2, .box 24 (bxc (GNode.cs a0n)))]⟩ krf (sC (ltI 0 (lenI (mI a0n.Kids))) krf ?_ ?_)))
 ·refine sR tfm ⟨[4],[],[],[]⟩ ⟨[(4,B false)],[]⟩ krf (sT (sq_r ?_))
  exact qR (.id) krf krf krf
 ·refine sK (sN ⟨[1,2],[2],[],[]⟩ ⟨[(1,B a1words),(2, .ptr 2 0)],[(2, .box 24 (bxc (GNode.cs a0n)))]⟩ krf (sS (sR tfm ⟨[1,2,11],[2],[],[]⟩ ⟨[(1,B a1words),(2, .ptr 2 0),(11,B (eqI a0n.Kind 6))],[(2, .box 24 (bxc (GNode.cs a0n)))]⟩ krf (sC (eqI a0n.Kind 6) krf ?_ ?_))))
  ·refine sim_bind (fun j1=>⟨[(4,B j1)],[]⟩:Bool→St) ?_ ?_
   ·refine sG (xR 4 krf ?_)
    refine xS (eqS a0n.Name []) (fun h2=>?_) (fun h2=>?_)
    ·refine xO (want_tt krf h2) krf (xR 4 krf ?_)
     refine xS (leI 0 a0n.N) (fun h3=>?_) (fun h3=>?_)
     ·refine xO (want_tt krf h3) krf (xR 4 krf (xE ?_))
      exact nq_n (leI a0n.N 1000000) ⟨[4],[],[],[]⟩ krf
     ·refine xN (want_tf krf h3) krf (xR 4 krf (xE ?_))
      exact nq_n false ⟨[4],[],[],[]⟩ krf
    ·refine xN (want_tf krf h2) krf (xR 9 krf (xE ?_))
     exact nq_n false ⟨[4],[],[],[]⟩ krf
   ·rintro j1
    refine sT (sq_r ?_)
    exact qR (.id) krf krf krf
  ·refine sK (sN ⟨[1,2],[2],[],[]⟩ ⟨[(1,B a1words),(2, .ptr 2 0)],[(2, .box 24 (bxc (GNode.cs a0n)))]⟩ krf (sim_bind (fun j4=>⟨[(4,B j4)],[]⟩:Bool→St) ?_ ?_))
   ·refine sim_drw tfm rfl (xR 4 krf ?_)
    refine xS (eqI a0n.Kind 5) (fun h5=>?_) (fun h5=>?_)
    ·refine xO (want_tt krf h5) krf (xR 4 krf ?_)
     refine xS (eqI a0n.N 0) (fun h6=>?_) (fun h6=>?_)
     ·refine xO (want_tt krf h6) krf (xR 1 krf ?_)
      refine xC [] krf (g_ref02_Name_ok n a0n.Name) krf krf (fun _=>by kernel_rfl) (fun r7=>?_)
      refine xR 1 krf ?_
      refine xS r7 (fun h8=>?_) (fun h8=>?_)
      ·refine xN (want_ft krf h8) krf (xR 10 krf (xs_endD krf ?_))
       exact nq_n true ⟨[4],[],[],[]⟩ krf
      ·refine xO (want_ff krf h8) krf (xR 1 krf ?_)
       refine xS a1words (fun h9=>?_) (fun h9=>?_)
       ·refine xC [] (want_tt krf h9) (g_ref02_Words_ok n) krf krf (fun _=>by kernel_rfl) (fun r10=>?_)
        refine xR 2 krf ?_
        refine xC [] krf (g_ref02_In_ok n r10 a0n.Name) krf krf (fun _=>by kernel_rfl) (fun r11=>?_)
        refine xR 5 krf (xs_endD krf ?_)
        exact nq_n (leI 0 r11) ⟨[4],[],[],[]⟩ krf
       ·refine xN (want_tf krf h9) krf (xR 8 krf (xs_endD krf ?_))
        exact nq_n false ⟨[4],[],[],[]⟩ krf
     ·refine xN (want_tf krf h6) krf (xR 14 krf (xs_endD krf ?_))
      exact nq_n false ⟨[4],[],[],[]⟩ krf
    ·refine xN (want_tf krf h5) krf (xR 19 krf (xs_endD krf ?_))
     exact nq_n false ⟨[4],[],[],[]⟩ krf
   ·rintro j4
    refine sT ?_
    exact qR (.id) krf krf krf
def g_ref02_part_l13 (n:Nat) (a0n:GNode) (recl13:Int→Option Bool) (l13:Int):Option Bool :=
 cond (ltI l13 (lenI (List.map idc a0n.Kids)))
  ((Option.bind (getI a0n.Kids l13) GNode.of).bind fun x14 =>
  (g_ref02_value n x14 (eqI a0n.Kind 4)).bind fun r15 =>
  cond (!r15)
   (some false)
   (recl13 (wi (l13+1))))
  (some true)
def g_ref02_part (n:Nat) (a0n:GNode):Option Bool :=
 (cond (!eqI a0n.N 0)
  (some true)
  (cond (eqI a0n.Kind 3)
   ((g_ref02_Attrs n).bind fun r4 =>
   (g_ref02_In n r4 a0n.Name).bind fun r5 =>
   cond (leI 0 r5)
    (some false)
    (cond (eqI a0n.Kind 4)
     ((g_ref02_Articles n).bind fun r8 =>
     (g_ref02_In n r8 a0n.Name).bind fun r9 =>
     some (!(leI 0 r9)))
     (some true)))
   (cond (eqI a0n.Kind 4)
    ((g_ref02_Articles n).bind fun r11 =>
    (g_ref02_In n r11 a0n.Name).bind fun r12 =>
    some (!(leI 0 r12)))
    (some true)))).bind fun j1 =>
 cond j1
  (some false)
  (loopN (fun recl13 l13=>g_ref02_part_l13 n a0n recl13 l13) n 0)
theorem g_ref02_part_ok (n:Nat) (a0n:GNode):∀ r,g_ref02_part n a0n=some r→PCall Tryz.prog 70 [ag (GNode.cs a0n)] (.ret (B r)):=by
 refine pcall_sim (X:=fun r:Bool=>AEnd.ret (B r)) Tryz.func70 rfl Tryz.ntmps70 rfl ?_
 unfold g_ref02_part
 refine sR tfm ⟨[1],[1],[],[]⟩ ⟨[(1, .ptr 1 0)],[(1, .box 24 (bxc (GNode.cs a0n)))]⟩ krf (sS (sim_bind (fun j1=>⟨[(1, .ptr 1 0),(31,B j1)],[(1, .box 24 (bxc (GNode.cs a0n)))]⟩:Bool→St) ?_ ?_))
 ·refine sim_drw tfm rfl (xR 4 krf ?_)
  refine xS (!eqI a0n.N 0) (fun h2=>?_) (fun h2=>?_)
  ·refine xN (want_ft krf h2) krf (xR 23 krf (xs_endD krf ?_))
   exact nq_n true ⟨[1,31],[1],[],[]⟩ krf
  ·refine xO (want_ff krf h2) krf (xR 3 krf ?_)
   refine xS (eqI a0n.Kind 3) (fun h3=>?_) (fun h3=>?_)
   ·refine xC [] (want_tt krf h3) (g_ref02_Attrs_ok n) krf krf (fun _=>by kernel_rfl) (fun r4=>?_)
    refine xR 2 krf ?_
    refine xC [] krf (g_ref02_In_ok n r4 a0n.Name) krf krf (fun _=>by kernel_rfl) (fun r5=>?_)
    refine xR 3 krf ?_
    refine xS (leI 0 r5) (fun h6=>?_) (fun h6=>?_)
    ·refine xN (want_ft krf h6) krf (xR 12 krf (xs_endD krf ?_))
     exact nq_n false ⟨[1,31],[1],[],[]⟩ krf
    ·refine xO (want_ff krf h6) krf (xR 3 krf ?_)
     refine xS (eqI a0n.Kind 4) (fun h7=>?_) (fun h7=>?_)
     ·refine xC [] (want_tt krf h7) (g_ref02_Articles_ok n) krf krf (fun _=>by kernel_rfl) (fun r8=>?_)
      refine xR 2 krf ?_
      refine xC [] krf (g_ref02_In_ok n r8 a0n.Name) krf krf (fun _=>by kernel_rfl) (fun r9=>?_)
      refine xR 5 krf (xs_endD krf ?_)
      exact nq_n (!(leI 0 r9)) ⟨[1,31],[1],[],[]⟩ krf
     ·refine xN (want_tf krf h7) krf (xR 8 krf (xs_endD krf ?_))
      exact nq_n true ⟨[1,31],[1],[],[]⟩ krf
   ·refine xN (want_tf krf h3) krf (xR 10 krf ?_)
    refine xS (eqI a0n.Kind 4) (fun h10=>?_) (fun h10=>?_)
    ·refine xC [] (want_tt krf h10) (g_ref02_Articles_ok n) krf krf (fun _=>by kernel_rfl) (fun r11=>?_)
     refine xR 2 krf ?_
     refine xC [] krf (g_ref02_In_ok n r11 a0n.Name) krf krf (fun _=>by kernel_rfl) (fun r12=>?_)
     refine xR 5 krf (xs_endD krf ?_)
     exact nq_n (!(leI 0 r12)) ⟨[1,31],[1],[],[]⟩ krf
    ·refine xN (want_tf krf h10) krf (xR 8 krf (xs_endD krf ?_))
     exact nq_n true ⟨[1,31],[1],[],[]⟩ krf
 ·rintro j1
  refine sC j1 krf ?_ ?_
  ·refine sR tfm ⟨[2],[],[],[]⟩ ⟨[(2,B false)],[]⟩ krf (sT (sq_r ?_))
   exact qR (.id) krf krf krf
  ·refine sK (sN ⟨[1],[1],[],[]⟩ ⟨[(1, .ptr 1 0)],[(1, .box 24 (bxc (GNode.cs a0n)))]⟩ krf (sS (sR tfm ⟨[1,3],[1],[],[]⟩ ⟨[(1, .ptr 1 0),(3,I 0)],[(1, .box 24 (bxc (GNode.cs a0n)))]⟩ krf (sB (sim_loop (fun l13=>⟨[(1, .ptr 1 0),(3,I l13)],[(1, .box 24 (bxc (GNode.cs a0n)))]⟩:Int→St) (weak_shr (K:=⟨[1,3],[1],[],[]⟩) krf) ?_)))))
   rintro recl13 l13
   show SimE (g_ref02_part_l13 n a0n recl13 l13) _ _ _ _ _ _
   unfold g_ref02_part_l13
   refine sS (sR tfm ⟨[1,3,36],[1],[],[]⟩ ⟨[(1, .ptr 1 0),(3,I l13),(36,B (ltI l13 (lenI (mI a0n.Kids))))],[(1, .box 24 (bxc (GNode.cs a0n)))]⟩ krf (sC (ltI l13 (lenI (mI a0n.Kids))) krf ?_ ?_))
   ·refine sK (sN ⟨[1,3],[1],[],[]⟩ ⟨[(1, .ptr 1 0),(3,I l13)],[(1, .box 24 (bxc (GNode.cs a0n)))]⟩ krf (sS (sB (sS (sim_drw tfm rfl (xR 3 krf ?_))))))
    refine xG krf krf (aop_idxR (e:=24) (S:=5) (enc:=GNode.cs) (dec:=GNode.of) (l:=a0n.Kids) (k:=.i64) (n:=l13) (sv:=.p (.sl 5 (mI a0n.Kids))) GNode.of_cs rfl krf krf krf krf krf) (fun x14=>?_)
    refine xR 4 krf ?_
    refine xC [] krf (g_ref02_value_ok n x14 (eqI a0n.Kind 4)) krf krf (fun _=>by kernel_rfl) (fun r15=>?_)
    refine xR 1 krf (xs_endD krf (sN ⟨[1,3,48],[1],[],[]⟩ ⟨[(1, .ptr 1 0),(3,I l13),(48,B (!r15))],[(1, .box 24 (bxc (GNode.cs a0n)))]⟩ krf (sC (!r15) krf ?_ ?_)))
    ·refine sR tfm ⟨[2],[],[],[]⟩ ⟨[(2,B false)],[]⟩ krf (sT (bq_r (sq_r (kq_r (bq_r (sq_r ?_))))))
     exact qR (.id) krf krf krf
    ·refine sK (bq_n (sN ⟨[1,3],[1],[],[]⟩ ⟨[(1, .ptr 1 0),(3,I l13)],[(1, .box 24 (bxc (GNode.cs a0n)))]⟩ krf (sL tfm krf ?_)))
     exact kq_n (wi (l13+1)) ⟨[1,3],[1],[],[]⟩ krf
   ·refine sim_exit (sq_x (kq_x (bq_hit (sN ⟨[],[],[],[]⟩ ⟨[],[]⟩ krf (sR tfm ⟨[2],[],[],[]⟩ ⟨[(2,B true)],[]⟩ krf (sT ?_))))))
    exact qR (.id) krf krf krf
def g_ref02_item_l6 (n:Nat) (a0n:GNode) (recl6:Int→Option Bool) (l6:Int):Option Bool :=
 cond (ltI l6 (lenI (List.map idc a0n.Kids)))
  ((Option.bind (getI a0n.Kids l6) GNode.of).bind fun x7 =>
  ((g_ref02_part n x7).bind fun r9 =>
  cond (!r9)
   (some true)
   (cond (eqI x7.Kind 4)
    (cond (!eqI a0n.N 7)
     (some true)
     (cond (eqI x7.Kind 3)
      (cond (ltI 0 l6)
       ((Option.bind (getI a0n.Kids (wi (l6 - 1))) GNode.of).bind fun x15 =>
       some (eqI x15.Kind 4))
       (some false))
      (some false)))
    (cond (eqI x7.Kind 3)
     (cond (ltI 0 l6)
      ((Option.bind (getI a0n.Kids (wi (l6 - 1))) GNode.of).bind fun x18 =>
      some (eqI x18.Kind 4))
      (some false))
     (some false)))).bind fun j8 =>
  cond j8
   (some false)
   (recl6 (wi (l6+1))))
  (some true)
def g_ref02_item (n:Nat) (a0n:GNode):Option Bool :=
 (cond (!eqI a0n.Kind 2)
  (some true)
  (cond (ltI a0n.N 1)
   (some true)
   (cond (ltI 7 a0n.N)
    (some true)
    ((g_ref02_Name n a0n.Name).bind fun r5 =>
    some (!r5))))).bind fun j1 =>
 cond j1
  (some false)
  (loopN (fun recl6 l6=>g_ref02_item_l6 n a0n recl6 l6) n 0)
theorem g_ref02_item_ok (n:Nat) (a0n:GNode):∀ r,g_ref02_item n a0n=some r→PCall Tryz.prog 44 [ag (GNode.cs a0n)] (.ret (B r)):=by
 refine pcall_sim (X:=fun r:Bool=>AEnd.ret (B r)) Tryz.func44 rfl Tryz.ntmps44 rfl ?_
 unfold g_ref02_item
 refine sR tfm ⟨[1],[1],[],[]⟩ ⟨[(1, .ptr 1 0)],[(1, .box 24 (bxc (GNode.cs a0n)))]⟩ krf (sS (sim_bind (fun j1=>⟨[(1, .ptr 1 0),(23,B j1)],[(1, .box 24 (bxc (GNode.cs a0n)))]⟩:Bool→St) ?_ ?_))
 ·refine sG (xR 4 krf ?_)
  refine xS (!eqI a0n.Kind 2) (fun h2=>?_) (fun h2=>?_)
  ·refine xN (want_ft krf h2) krf (xR 14 krf (xE ?_))
   exact nq_n true ⟨[1,23],[1],[],[]⟩ krf
  ·refine xO (want_ff krf h2) krf (xR 4 krf ?_)
   refine xS (ltI a0n.N 1) (fun h3=>?_) (fun h3=>?_)
   ·refine xN (want_ft krf h3) krf (xR 9 krf (xE ?_))
    exact nq_n true ⟨[1,23],[1],[],[]⟩ krf
   ·refine xO (want_ff krf h3) krf (xR 4 krf ?_)
    refine xS (ltI 7 a0n.N) (fun h4=>?_) (fun h4=>?_)
    ·refine xN (want_ft krf h4) krf (xR 4 krf (xE ?_))
     exact nq_n true ⟨[1,23],[1],[],[]⟩ krf
    ·refine xO (want_ff krf h4) krf (xR 1 krf ?_)
     refine xC [] krf (g_ref02_Name_ok n a0n.Name) krf krf (fun _=>by kernel_rfl) (fun r5=>?_)
     refine xR 2 krf (xE ?_)
     exact nq_n (!r5) ⟨[1,23],[1],[],[]⟩ krf
 ·rintro j1
  refine sC j1 krf ?_ ?_
  ·refine sR tfm ⟨[2],[],[],[]⟩ ⟨[(2,B false)],[]⟩ krf (sT (sq_r ?_))
   exact qR (.id) krf krf krf
  ·refine sK (sN ⟨[1],[1],[],[]⟩ ⟨[(1, .ptr 1 0)],[(1, .box 24 (bxc (GNode.cs a0n)))]⟩ krf (sS (sR tfm ⟨[1,3],[1],[],[]⟩ ⟨[(1, .ptr 1 0),(3,I 0)],[(1, .box 24 (bxc (GNode.cs a0n)))]⟩ krf (sB (sim_loop (fun l6=>⟨[(1, .ptr 1 0),(3,I l6)],[(1, .box 24 (bxc (GNode.cs a0n)))]⟩:Int→St) (weak_shr (K:=⟨[1,3],[1],[],[]⟩) krf) ?_)))))
   rintro recl6 l6
   show SimE (g_ref02_item_l6 n a0n recl6 l6) _ _ _ _ _ _
   unfold g_ref02_item_l6
   refine sS (sR tfm ⟨[1,3,28],[1],[],[]⟩ ⟨[(1, .ptr 1 0),(3,I l6),(28,B (ltI l6 (lenI (mI a0n.Kids))))],[(1, .box 24 (bxc (GNode.cs a0n)))]⟩ krf (sC (ltI l6 (lenI (mI a0n.Kids))) krf ?_ ?_))
   ·refine sK (sN ⟨[1,3],[1],[],[]⟩ ⟨[(1, .ptr 1 0),(3,I l6)],[(1, .box 24 (bxc (GNode.cs a0n)))]⟩ krf (sS (sB (sS (sG (xR 3 krf ?_))))))
    refine xG krf krf (aop_idxR (e:=24) (S:=5) (enc:=GNode.cs) (dec:=GNode.of) (l:=a0n.Kids) (k:=.i64) (n:=l6) (sv:=.p (.sl 5 (mI a0n.Kids))) GNode.of_cs rfl krf krf krf krf krf) (fun x7=>?_)
    refine xR 3 krf (xE (sN ⟨[1,3,4],[1,4],[],[]⟩ ⟨[(1, .ptr 1 0),(3,I l6),(4, .ptr 4 0)],[(1, .box 24 (bxc (GNode.cs a0n))),(4, .box 24 (bxc (GNode.cs x7)))]⟩ krf (sim_bind (fun j8=>⟨[(1, .ptr 1 0),(3,I l6),(67,B j8)],[(1, .box 24 (bxc (GNode.cs a0n)))]⟩:Bool→St) ?_ ?_)))
    ·refine sG (xR 1 krf ?_)
     refine xC [] krf (g_ref02_part_ok n x7) krf krf (fun _=>by kernel_rfl) (fun r9=>?_)
     refine xR 2 krf ?_
     refine xS (!r9) (fun h10=>?_) (fun h10=>?_)
     ·refine xN (want_ft krf h10) krf (xR 27 krf (xE ?_))
      exact nq_n true ⟨[1,3,67],[1],[],[]⟩ krf
     ·refine xO (want_ff krf h10) krf (xR 3 krf ?_)
      refine xS (eqI x7.Kind 4) (fun h11=>?_) (fun h11=>?_)
      ·refine xO (want_tt krf h11) krf (xR 5 krf ?_)
       refine xS (!eqI a0n.N 7) (fun h12=>?_) (fun h12=>?_)
       ·refine xN (want_ft krf h12) krf (xR 17 krf (xE ?_))
        exact nq_n true ⟨[1,3,67],[1],[],[]⟩ krf
       ·refine xO (want_ff krf h12) krf (xR 3 krf ?_)
        refine xS (eqI x7.Kind 3) (fun h13=>?_) (fun h13=>?_)
        ·refine xO (want_tt krf h13) krf (xR 3 krf ?_)
         refine xS (ltI 0 l6) (fun h14=>?_) (fun h14=>?_)
         ·refine xO (want_tt krf h14) krf (xR 3 krf ?_)
          refine xG krf krf (aop_idxR (e:=24) (S:=5) (enc:=GNode.cs) (dec:=GNode.of) (l:=a0n.Kids) (k:=.i64) (n:=wi (l6 - 1)) (sv:=.p (.sl 5 (mI a0n.Kids))) GNode.of_cs rfl krf krf krf krf krf) (fun x15=>?_)
          refine xR 5 krf (xE ?_)
          exact nq_n (eqI x15.Kind 4) ⟨[1,3,67],[1],[],[]⟩ krf
         ·refine xN (want_tf krf h14) krf (xR 9 krf (xE ?_))
          exact nq_n false ⟨[1,3,67],[1],[],[]⟩ krf
        ·refine xN (want_tf krf h13) krf (xR 13 krf (xE ?_))
         exact nq_n false ⟨[1,3,67],[1],[],[]⟩ krf
      ·refine xN (want_tf krf h11) krf (xR 9 krf ?_)
       refine xS (eqI x7.Kind 3) (fun h16=>?_) (fun h16=>?_)
       ·refine xO (want_tt krf h16) krf (xR 3 krf ?_)
        refine xS (ltI 0 l6) (fun h17=>?_) (fun h17=>?_)
        ·refine xO (want_tt krf h17) krf (xR 3 krf ?_)
         refine xG krf krf (aop_idxR (e:=24) (S:=5) (enc:=GNode.cs) (dec:=GNode.of) (l:=a0n.Kids) (k:=.i64) (n:=wi (l6 - 1)) (sv:=.p (.sl 5 (mI a0n.Kids))) GNode.of_cs rfl krf krf krf krf krf) (fun x18=>?_)
         refine xR 5 krf (xE ?_)
         exact nq_n (eqI x18.Kind 4) ⟨[1,3,67],[1],[],[]⟩ krf
        ·refine xN (want_tf krf h17) krf (xR 9 krf (xE ?_))
         exact nq_n false ⟨[1,3,67],[1],[],[]⟩ krf
       ·refine xN (want_tf krf h16) krf (xR 13 krf (xE ?_))
        exact nq_n false ⟨[1,3,67],[1],[],[]⟩ krf
    ·rintro j8
     refine sC j8 krf ?_ ?_
     ·refine sR tfm ⟨[2],[],[],[]⟩ ⟨[(2,B false)],[]⟩ krf (sT (bq_r (sq_r (kq_r (bq_r (sq_r ?_))))))
      exact qR (.id) krf krf krf
     ·refine sK (bq_n (sN ⟨[1,3],[1],[],[]⟩ ⟨[(1, .ptr 1 0),(3,I l6)],[(1, .box 24 (bxc (GNode.cs a0n)))]⟩ krf (sL tfm krf ?_)))
      exact kq_n (wi (l6+1)) ⟨[1,3],[1],[],[]⟩ krf
   ·refine sim_exit (sq_x (kq_x (bq_hit (sN ⟨[],[],[],[]⟩ ⟨[],[]⟩ krf (sR tfm ⟨[2],[],[],[]⟩ ⟨[(2,B true)],[]⟩ krf (sT ?_))))))
    exact qR (.id) krf krf krf
def g_ref02_Valid_l6 (n:Nat) (a0n:GNode) (recl6:Int→Option Bool) (l6:Int):Option Bool :=
 cond (ltI l6 (lenI (List.map idc a0n.Kids)))
  ((Option.bind (getI a0n.Kids l6) GNode.of).bind fun x7 =>
  (g_ref02_item n x7).bind fun r8 =>
  cond (!r8)
   (some false)
   (recl6 (wi (l6+1))))
  (some true)
def g_ref02_Valid (n:Nat) (a0n:GNode):Option Bool :=
 (cond (!eqI a0n.Kind 1)
  (some true)
  (cond (!eqS a0n.Name [])
   (some true)
   (cond (!eqI a0n.N 0)
    (some true)
    ((g_ref02_Count n a0n 1500).bind fun r5 =>
    some (ltI 1500 r5))))).bind fun j1 =>
 cond j1
  (some false)
  (loopN (fun recl6 l6=>g_ref02_Valid_l6 n a0n recl6 l6) n 0)
theorem g_ref02_Valid_ok (n:Nat) (a0n:GNode):∀ r,g_ref02_Valid n a0n=some r→PCall Tryz.prog 30 [ag (GNode.cs a0n)] (.ret (B r)):=by
 refine pcall_sim (X:=fun r:Bool=>AEnd.ret (B r)) Tryz.func30 rfl Tryz.ntmps30 rfl ?_
 unfold g_ref02_Valid
 refine sR tfm ⟨[1],[1],[],[]⟩ ⟨[(1, .ptr 1 0)],[(1, .box 24 (bxc (GNode.cs a0n)))]⟩ krf (sS (sim_bind (fun j1=>⟨[(1, .ptr 1 0),(21,B j1)],[(1, .box 24 (bxc (GNode.cs a0n)))]⟩:Bool→St) ?_ ?_))
 ·refine sG (xR 4 krf ?_)
  refine xS (!eqI a0n.Kind 1) (fun h2=>?_) (fun h2=>?_)
  ·refine xN (want_ft krf h2) krf (xR 13 krf (xE ?_))
   exact nq_n true ⟨[1,21],[1],[],[]⟩ krf
  ·refine xO (want_ff krf h2) krf (xR 4 krf ?_)
   refine xS (!eqS a0n.Name []) (fun h3=>?_) (fun h3=>?_)
   ·refine xN (want_ft krf h3) krf (xR 8 krf (xE ?_))
    exact nq_n true ⟨[1,21],[1],[],[]⟩ krf
   ·refine xO (want_ff krf h3) krf (xR 4 krf ?_)
    refine xS (!eqI a0n.N 0) (fun h4=>?_) (fun h4=>?_)
    ·refine xN (want_ft krf h4) krf (xR 3 krf (xE ?_))
     exact nq_n true ⟨[1,21],[1],[],[]⟩ krf
    ·refine xO (want_ff krf h4) krf ?_
     refine xC [] krf (g_ref02_Count_ok n a0n 1500) krf krf (fun _=>by kernel_rfl) (fun r5=>?_)
     refine xR 2 krf (xE ?_)
     exact nq_n (ltI 1500 r5) ⟨[1,21],[1],[],[]⟩ krf
 ·rintro j1
  refine sC j1 krf ?_ ?_
  ·refine sR tfm ⟨[2],[],[],[]⟩ ⟨[(2,B false)],[]⟩ krf (sT (sq_r ?_))
   exact qR (.id) krf krf krf
  ·refine sK (sN ⟨[1],[1],[],[]⟩ ⟨[(1, .ptr 1 0)],[(1, .box 24 (bxc (GNode.cs a0n)))]⟩ krf (sS (sR tfm ⟨[1,3],[1],[],[]⟩ ⟨[(1, .ptr 1 0),(3,I 0)],[(1, .box 24 (bxc (GNode.cs a0n)))]⟩ krf (sB (sim_loop (fun l6=>⟨[(1, .ptr 1 0),(3,I l6)],[(1, .box 24 (bxc (GNode.cs a0n)))]⟩:Int→St) (weak_shr (K:=⟨[1,3],[1],[],[]⟩) krf) ?_)))))
   rintro recl6 l6
   show SimE (g_ref02_Valid_l6 n a0n recl6 l6) _ _ _ _ _ _
   unfold g_ref02_Valid_l6
   refine sS (sR tfm ⟨[1,3,26],[1],[],[]⟩ ⟨[(1, .ptr 1 0),(3,I l6),(26,B (ltI l6 (lenI (mI a0n.Kids))))],[(1, .box 24 (bxc (GNode.cs a0n)))]⟩ krf (sC (ltI l6 (lenI (mI a0n.Kids))) krf ?_ ?_))
   ·refine sK (sN ⟨[1,3],[1],[],[]⟩ ⟨[(1, .ptr 1 0),(3,I l6)],[(1, .box 24 (bxc (GNode.cs a0n)))]⟩ krf (sS (sB (sS (sG (xR 3 krf ?_))))))
    refine xG krf krf (aop_idxR (e:=24) (S:=5) (enc:=GNode.cs) (dec:=GNode.of) (l:=a0n.Kids) (k:=.i64) (n:=l6) (sv:=.p (.sl 5 (mI a0n.Kids))) GNode.of_cs rfl krf krf krf krf krf) (fun x7=>?_)
    refine xR 1 krf ?_
    refine xC [] krf (g_ref02_item_ok n x7) krf krf (fun _=>by kernel_rfl) (fun r8=>?_)
    refine xR 1 krf (xE (sN ⟨[1,3,35],[1],[],[]⟩ ⟨[(1, .ptr 1 0),(3,I l6),(35,B (!r8))],[(1, .box 24 (bxc (GNode.cs a0n)))]⟩ krf (sC (!r8) krf ?_ ?_)))
    ·refine sR tfm ⟨[2],[],[],[]⟩ ⟨[(2,B false)],[]⟩ krf (sT (bq_r (sq_r (kq_r (bq_r (sq_r ?_))))))
     exact qR (.id) krf krf krf
    ·refine sK (bq_n (sN ⟨[1,3],[1],[],[]⟩ ⟨[(1, .ptr 1 0),(3,I l6)],[(1, .box 24 (bxc (GNode.cs a0n)))]⟩ krf (sL tfm krf ?_)))
     exact kq_n (wi (l6+1)) ⟨[1,3],[1],[],[]⟩ krf
   ·refine sim_exit (sq_x (kq_x (bq_hit (sN ⟨[],[],[],[]⟩ ⟨[],[]⟩ krf (sR tfm ⟨[2],[],[],[]⟩ ⟨[(2,B true)],[]⟩ krf (sT ?_))))))
    exact qR (.id) krf krf krf
def g_ref32_number (n:Nat) (a0l:List (List PV)) (a1at:Int):Option (Int × Bool) :=
 (cond (leI (lenI (List.map idc a0l)) a1at)
  (some true)
  ((Option.bind (getI a0l a1at) GNode.of).bind fun x3 =>
  some (!eqI x3.Kind 6))).bind fun j1 =>
 cond j1
  (some (0,false))
  ((Option.bind (getI a0l a1at) GNode.of).bind fun x4 =>
  some (x4.N,true))
theorem g_ref32_number_ok (n:Nat) (a0l:List (List PV)) (a1at:Int):∀ r,g_ref32_number n a0l a1at=some r→PCall Tryz.prog 71 [.p (.sl 5 (mI a0l)),I a1at] (.ret (.tup [I r.1,B r.2])):=by
 refine pcall_sim (X:=fun r:Int × Bool=>AEnd.ret (.tup [I r.1,B r.2])) Tryz.func71 rfl Tryz.ntmps71 rfl ?_
 unfold g_ref32_number
 refine sR tfm ⟨[0,1],[],[],[]⟩ ⟨[(0, .p (.sl 5 (mI a0l))),(1,I a1at)],[]⟩ krf (sS (sim_bind (fun j1=>⟨[(0, .p (.sl 5 (mI a0l))),(1,I a1at),(17,B j1)],[]⟩:Bool→St) ?_ ?_))
 ·refine sG (xR 5 krf ?_)
  refine xS (leI (lenI (mI a0l)) a1at) (fun h2=>?_) (fun h2=>?_)
  ·refine xN (want_ft krf h2) krf (xR 6 krf (xE ?_))
   exact nq_n true ⟨[0,1,17],[],[],[]⟩ krf
  ·refine xO (want_ff krf h2) krf (xR 1 krf ?_)
   refine xG krf krf (aop_idxR (e:=24) (S:=5) (enc:=GNode.cs) (dec:=GNode.of) (l:=a0l) (k:=.i64) (n:=a1at) (sv:=.p (.sl 5 (mI a0l))) GNode.of_cs rfl krf krf krf krf krf) (fun x3=>?_)
   refine xR 4 krf (xE ?_)
   exact nq_n (!eqI x3.Kind 6) ⟨[0,1,17],[],[],[]⟩ krf
 ·rintro j1
  refine sC j1 krf ?_ ?_
  ·refine sR tfm ⟨[4,5],[],[],[]⟩ ⟨[(4,I 0),(5,B false)],[]⟩ krf (sT (sq_r ?_))
   exact qR (.id) krf krf krf
  ·refine sK (sN ⟨[0,1],[],[],[]⟩ ⟨[(0, .p (.sl 5 (mI a0l))),(1,I a1at)],[]⟩ krf (sS (sG (xR 2 krf ?_))))
   refine xG krf krf (aop_idxR (e:=24) (S:=5) (enc:=GNode.cs) (dec:=GNode.of) (l:=a0l) (k:=.i64) (n:=a1at) (sv:=.p (.sl 5 (mI a0l))) GNode.of_cs rfl krf krf krf krf krf) (fun x4=>?_)
   refine xR 4 krf (xE (sN ⟨[4,5],[],[],[]⟩ ⟨[(4,I x4.N),(5,B true)],[]⟩ krf (sT ?_)))
   exact qR (.id) krf krf krf
def g_ref32_word (n:Nat) (a0l:List (List PV)) (a1at:Int):Option (List UInt8) :=
 (cond (leI (lenI (List.map idc a0l)) a1at)
  (some true)
  ((Option.bind (getI a0l a1at) GNode.of).bind fun x3 =>
  some (!eqI x3.Kind 5))).bind fun j1 =>
 cond j1
  (some [])
  ((Option.bind (getI a0l a1at) GNode.of).bind fun x4 =>
  some x4.Name)
theorem g_ref32_word_ok (n:Nat) (a0l:List (List PV)) (a1at:Int):∀ r,g_ref32_word n a0l a1at=some r→PCall Tryz.prog 72 [.p (.sl 5 (mI a0l)),I a1at] (.ret (S r)):=by
 refine pcall_sim (X:=fun r:List UInt8=>AEnd.ret (S r)) Tryz.func72 rfl Tryz.ntmps72 rfl ?_
 unfold g_ref32_word
 refine sR tfm ⟨[0,1],[],[],[]⟩ ⟨[(0, .p (.sl 5 (mI a0l))),(1,I a1at)],[]⟩ krf (sS (sim_bind (fun j1=>⟨[(0, .p (.sl 5 (mI a0l))),(1,I a1at),(16,B j1)],[]⟩:Bool→St) ?_ ?_))
 ·refine sG (xR 5 krf ?_)
  refine xS (leI (lenI (mI a0l)) a1at) (fun h2=>?_) (fun h2=>?_)
  ·refine xN (want_ft krf h2) krf (xR 6 krf (xE ?_))
   exact nq_n true ⟨[0,1,16],[],[],[]⟩ krf
  ·refine xO (want_ff krf h2) krf (xR 1 krf ?_)
   refine xG krf krf (aop_idxR (e:=24) (S:=5) (enc:=GNode.cs) (dec:=GNode.of) (l:=a0l) (k:=.i64) (n:=a1at) (sv:=.p (.sl 5 (mI a0l))) GNode.of_cs rfl krf krf krf krf krf) (fun x3=>?_)
   refine xR 4 krf (xE ?_)
   exact nq_n (!eqI x3.Kind 5) ⟨[0,1,16],[],[],[]⟩ krf
 ·rintro j1
  refine sC j1 krf ?_ ?_
  ·refine sR tfm ⟨[4],[],[],[]⟩ ⟨[(4,S [])],[]⟩ krf (sT (sq_r ?_))
   exact qR (.id) krf krf krf
  ·refine sK (sN ⟨[0,1],[],[],[]⟩ ⟨[(0, .p (.sl 5 (mI a0l))),(1,I a1at)],[]⟩ krf (sS (sG (xR 2 krf ?_))))
   refine xG krf krf (aop_idxR (e:=24) (S:=5) (enc:=GNode.cs) (dec:=GNode.of) (l:=a0l) (k:=.i64) (n:=a1at) (sv:=.p (.sl 5 (mI a0l))) GNode.of_cs rfl krf krf krf krf krf) (fun x4=>?_)
   refine xR 3 krf (xE (sN ⟨[4],[],[],[]⟩ ⟨[(4,S x4.Name)],[]⟩ krf (sT ?_)))
   exact qR (.id) krf krf krf
def g_ref32_types_l1 (n:Nat) (a0l:List (List PV)) (recl1:(Int × Int)→Option (Int × Int)) (l1_1:Int) (l1_2:Int):Option (Int × Int) :=
 ((g_ref32_word n a0l l1_1).bind fun r3 =>
 cond (eqS r3 [119,111,114,107])
  (some 1)
  (cond (eqS r3 [115,97,116,117,114,100,97,121])
   (some 2)
   (cond (eqS r3 [115,117,110,100,97,121])
    (some 4)
    (some 0)))).bind fun j2 =>
 cond (eqI j2 0)
  (some (l1_2,l1_1))
  (cond (!eqI j2 0) (
   cond (eqI (Int.tmod (wi (Int.tdiv l1_2 j2)) 2) 1)
    (some (0,l1_1))
    (recl1 (wi (l1_1+1),wi (l1_2+j2)))) none)
def g_ref32_types (n:Nat) (a0l:List (List PV)) (a1at:Int):Option (Int × Int) :=
 loopN (fun recl1 (l1_1,l1_2)=>g_ref32_types_l1 n a0l recl1 l1_1 l1_2) n (a1at,0)
theorem g_ref32_types_ok (n:Nat) (a0l:List (List PV)) (a1at:Int):∀ r,g_ref32_types n a0l a1at=some r→PCall Tryz.prog 73 [.p (.sl 5 (mI a0l)),I a1at] (.ret (.tup [I r.1,I r.2])):=by
 refine pcall_sim (X:=fun r:Int × Int=>AEnd.ret (.tup [I r.1,I r.2])) Tryz.func73 rfl Tryz.ntmps73 rfl ?_
 unfold g_ref32_types
 refine sR tfm ⟨[0,1],[],[],[]⟩ ⟨[(0, .p (.sl 5 (mI a0l))),(1,I a1at)],[]⟩ krf (sR tfm ⟨[0,1,6],[],[],[]⟩ ⟨[(0, .p (.sl 5 (mI a0l))),(1,I a1at),(6,I 0)],[]⟩ krf (sB (sim_loop (fun (l1_1,l1_2)=>⟨[(0, .p (.sl 5 (mI a0l))),(1,I l1_1),(6,I l1_2)],[]⟩:(Int × Int)→St) (weak_shr (K:=⟨[0,1,6],[],[],[]⟩) krf) ?_)))
 rintro recl1 ⟨l1_1,l1_2⟩
 show SimE (g_ref32_types_l1 n a0l recl1 l1_1 l1_2) _ _ _ _ _ _
 unfold g_ref32_types_l1
 refine sB (sR tfm ⟨[0,1,6,7],[],[],[]⟩ ⟨[(0, .p (.sl 5 (mI a0l))),(1,I l1_1),(6,I l1_2),(7,I 0)],[]⟩ krf (sim_bind (fun j2=>⟨[(0, .p (.sl 5 (mI a0l))),(1,I l1_1),(6,I l1_2),(7,I j2)],[]⟩:Int→St) ?_ ?_))
 ·refine sS (sG (xR 2 krf ?_))
  refine xC [] krf (g_ref32_word_ok n a0l l1_1) krf krf (fun _=>by kernel_rfl) (fun r3=>?_)
  refine xE (sN ⟨[0,1,6,7,10],[],[],[]⟩ ⟨[(0, .p (.sl 5 (mI a0l))),(1,I l1_1),(6,I l1_2),(7,I 0),(10,S r3)],[]⟩ krf (sB (sR tfm ⟨[0,1,6,7,10,11],[],[],[]⟩ ⟨[(0, .p (.sl 5 (mI a0l))),(1,I l1_1),(6,I l1_2),(7,I 0),(10,S r3),(11,B (eqS r3 [119,111,114,107]))],[]⟩ krf (sC (eqS r3 [119,111,114,107]) krf ?_ ?_))))
  ·refine sL tfm krf (bq_n ?_)
   exact nq_n 1 ⟨[0,1,6,7],[],[],[]⟩ krf
  ·refine sR tfm ⟨[0,1,6,7,10,13],[],[],[]⟩ ⟨[(0, .p (.sl 5 (mI a0l))),(1,I l1_1),(6,I l1_2),(7,I 0),(10,S r3),(13,B (eqS r3 [115,97,116,117,114,100,97,121]))],[]⟩ krf (sC (eqS r3 [115,97,116,117,114,100,97,121]) krf ?_ ?_)
   ·refine sL tfm krf (bq_n ?_)
    exact nq_n 2 ⟨[0,1,6,7],[],[],[]⟩ krf
   ·refine sR tfm ⟨[0,1,6,7,15],[],[],[]⟩ ⟨[(0, .p (.sl 5 (mI a0l))),(1,I l1_1),(6,I l1_2),(7,I 0),(15,B (eqS r3 [115,117,110,100,97,121]))],[]⟩ krf (sC (eqS r3 [115,117,110,100,97,121]) krf ?_ ?_)
    ·refine sL tfm krf (bq_n ?_)
     exact nq_n 4 ⟨[0,1,6,7],[],[],[]⟩ krf
    ·refine sK (bq_n ?_)
     exact nq_n 0 ⟨[0,1,6,7],[],[],[]⟩ krf
 ·rintro j2
  refine sS (sR tfm ⟨[0,1,6,7,18],[],[],[]⟩ ⟨[(0, .p (.sl 5 (mI a0l))),(1,I l1_1),(6,I l1_2),(7,I j2),(18,B (eqI j2 0))],[]⟩ krf (sC (eqI j2 0) krf ?_ ?_))
  ·refine sR tfm ⟨[4,5],[],[],[]⟩ ⟨[(4,I l1_2),(5,I l1_1)],[]⟩ krf (sT (sq_r (bq_r (kq_r (bq_r ?_)))))
   exact qR (.id) krf krf krf
  ·refine sK (sN ⟨[0,1,6,7],[],[],[]⟩ ⟨[(0, .p (.sl 5 (mI a0l))),(1,I l1_1),(6,I l1_2),(7,I j2)],[]⟩ krf (sS (sS (sG (xR 2 krf (xF krf krf (aop_quo (k:=.i64) (a:=l1_2) (b:=j2) rfl krf krf) (xR 2 krf ?_)))))))
   refine xE (sN ⟨[0,1,6,7,25],[],[],[]⟩ ⟨[(0, .p (.sl 5 (mI a0l))),(1,I l1_1),(6,I l1_2),(7,I j2),(25,B (eqI (Int.tmod (wi (Int.tdiv l1_2 j2)) 2) 1))],[]⟩ krf (sC (eqI (Int.tmod (wi (Int.tdiv l1_2 j2)) 2) 1) krf ?_ ?_))
   ·refine sR tfm ⟨[4,5],[],[],[]⟩ ⟨[(4,I 0),(5,I l1_1)],[]⟩ krf (sT (sq_r (bq_r (kq_r (bq_r ?_)))))
    exact qR (.id) krf krf krf
   ·refine sK (sN ⟨[0,1,6,7],[],[],[]⟩ ⟨[(0, .p (.sl 5 (mI a0l))),(1,I l1_1),(6,I l1_2),(7,I j2)],[]⟩ krf (sR tfm ⟨[0,1,6],[],[],[]⟩ ⟨[(0, .p (.sl 5 (mI a0l))),(1,I l1_1),(6,I (wi (l1_2+j2)))],[]⟩ krf (sL tfm krf (bq_n ?_))))
    exact kq_n (wi (l1_1+1),wi (l1_2+j2)) ⟨[0,1,6],[],[],[]⟩ krf
def g_ref32_read_j8 (r2:Int) (r3:Int × Bool) (j4:Bool) (j8_1:Bool) (j8_2:Int) (j8_3:Int) (j8_4:Int) (j8_5:Int) (j8_6:Int):Option (GAr × Bool) :=
 cond (!j4)
  (some ((⟨wi (r2+1),j8_2,j8_3,j8_4,r3.1,j8_5,j8_6⟩:GAr),true))
  (some ((⟨wi (r2+1),j8_2,j8_3,j8_4,r3.1,j8_5,j8_6⟩:GAr),j8_1))
def g_ref32_read_l10 (n:Nat) (a0n:GNode) (r2:Int) (r3:Int × Bool) (j4:Bool) (j6:Bool) (recl10:(Bool × Bool × Bool × Bool × Int × Int × Int × Int × Int × Int)→Option (GAr × Bool)) (l10_1:Bool) (l10_2:Bool) (l10_3:Bool) (l10_4:Bool) (l10_5:Int) (l10_6:Int) (l10_7:Int) (l10_8:Int) (l10_9:Int) (l10_10:Int):Option (GAr × Bool) :=
 cond (ltI l10_5 (lenI (List.map idc a0n.Kids)))
  ((g_ref32_number n a0n.Kids (wi (l10_5+1))).bind fun r11 =>
  (g_ref32_word n a0n.Kids l10_5).bind fun r12 =>
  (cond (eqS r12 [112,101,114])
   (cond j4
    (cond (!l10_1)
     (some r11.2)
     (some false))
    (some false))
   (some false)).bind fun j13 =>
  cond j13
   (recl10 (true,l10_2,l10_3,l10_4,wi (l10_5+2),l10_6,l10_7,l10_8,r11.1,l10_10))
   ((cond (eqS r12 [102,114,101,101])
    (cond j4
     (cond (!l10_2)
      (some r11.2)
      (some false))
     (some false))
    (some false)).bind fun j17 =>
   cond j17
    (recl10 (l10_1,true,l10_3,l10_4,wi (l10_5+2),l10_6,l10_7,l10_8,l10_9,r11.1))
    ((cond (eqS r12 [111,110])
     (cond (!j6)
      (some (!l10_3))
      (some false))
     (some false)).bind fun j21 =>
    cond j21
     ((g_ref32_types n a0n.Kids (wi (l10_5+1))).bind fun r24 =>
     cond (eqI r24.1 0)
      (some ((⟨wi (r2+1),r24.1,l10_7,l10_8,r3.1,l10_9,l10_10⟩:GAr),false))
      (recl10 (l10_1,l10_2,true,l10_4,r24.2,r24.1,l10_7,l10_8,l10_9,l10_10)))
     ((cond (eqS r12 [98,101,116,119,101,101,110])
      (cond (!j6)
       (cond (!l10_4)
        (some r11.2)
        (some false))
       (some false))
      (some false)).bind fun j25 =>
     cond j25
      ((g_ref32_number n a0n.Kids (wi (l10_5+2))).bind fun r29 =>
      cond (!r29.2)
       (some ((⟨wi (r2+1),l10_6,l10_7,l10_8,r3.1,l10_9,l10_10⟩:GAr),false))
       (recl10 (l10_1,l10_2,l10_3,true,wi (l10_5+3),l10_6,r11.1,r29.1,l10_9,l10_10)))
      (some ((⟨wi (r2+1),l10_6,l10_7,l10_8,r3.1,l10_9,l10_10⟩:GAr),false))))))
  (g_ref32_read_j8 r2 r3 j4 l10_1 l10_6 l10_7 l10_8 l10_9 l10_10)
def g_ref32_read (n:Nat) (a0n:GNode):Option (GAr × Bool) :=
 (g_ref02_Articles n).bind fun r1 =>
 (g_ref02_In n r1 a0n.Name).bind fun r2 =>
 (g_ref32_number n a0n.Kids 0).bind fun r3 =>
 cond (!r3.2)
  (some ((⟨wi (r2+1),7,0,1440,0,0,0⟩:GAr),false))
  ((cond (eqI (wi (r2+1)) 3)
   (some true)
   (some (eqI (wi (r2+1)) 4))).bind fun j4 =>
  (cond (eqI (wi (r2+1)) 5)
   (some true)
   (some (eqI (wi (r2+1)) 6))).bind fun j6 =>
  loopN (fun recl10 (l10_1,l10_2,l10_3,l10_4,l10_5,l10_6,l10_7,l10_8,l10_9,l10_10)=>g_ref32_read_l10 n a0n r2 r3 j4 j6 recl10 l10_1 l10_2 l10_3 l10_4 l10_5 l10_6 l10_7 l10_8 l10_9 l10_10) n (false,false,false,false,1,7,0,1440,0,0))
theorem g_ref32_read_ok (n:Nat) (a0n:GNode):∀ r,g_ref32_read n a0n=some r→PCall Tryz.prog 45 [ag (GNode.cs a0n)] (.ret (.tup [ag (GAr.cs r.1),B r.2])):=by
 refine pcall_sim (X:=fun r:GAr × Bool=>AEnd.ret (.tup [ag (GAr.cs r.1),B r.2])) Tryz.func45 rfl Tryz.ntmps45 rfl ?_
 unfold g_ref32_read
 refine sR tfm ⟨[1,2],[1,2],[],[]⟩ ⟨[(1, .ptr 1 0),(2, .ptr 2 0)],[(1, .box 24 (bxc (GNode.cs a0n))),(2, .box 29 [I 0,I 0,I 0,I 0,I 0,I 0,I 0])]⟩ krf (sS (sim_drw tfm rfl ?_))
 refine xC [] krf (g_ref02_Articles_ok n) krf krf (fun _=>by kernel_rfl) (fun r1=>?_)
 refine xR 2 krf ?_
 refine xC [] krf (g_ref02_In_ok n r1 a0n.Name) krf krf (fun _=>by kernel_rfl) (fun r2=>?_)
 refine xR 4 krf (xs_endD krf (sN ⟨[1,2,4],[1,2,4],[],[]⟩ ⟨[(1, .ptr 1 0),(2, .ptr 2 0),(4, .ptr 4 0)],[(1, .box 24 (bxc (GNode.cs a0n))),(2, .box 29 [I 0,I 0,I 0,I 0,I 0,I 0,I 0]),(4, .box 29 [I (wi (r2+1)),I 7,I 0,I 1440,I 0,I 0,I 0])]⟩ krf (sS (sG (xR 2 krf ?_)))))
 refine xC [] krf (g_ref32_number_ok n a0n.Kids 0) krf krf (fun _=>by kernel_rfl) (fun r3=>?_)
 refine xR 5 krf (xE (sN ⟨[1,2,4,5,6],[1,2,4],[],[]⟩ ⟨[(1, .ptr 1 0),(2, .ptr 2 0),(4, .ptr 4 0),(5,I r3.1),(6,B r3.2)],[(1, .box 24 (bxc (GNode.cs a0n))),(2, .box 29 [I 0,I 0,I 0,I 0,I 0,I 0,I 0]),(4, .box 29 [I (wi (r2+1)),I 7,I 0,I 1440,I 0,I 0,I 0])]⟩ krf (sS (sR tfm ⟨[1,2,4,5,32],[1,2,4],[],[]⟩ ⟨[(1, .ptr 1 0),(2, .ptr 2 0),(4, .ptr 4 0),(5,I r3.1),(32,B (!r3.2))],[(1, .box 24 (bxc (GNode.cs a0n))),(2, .box 29 [I 0,I 0,I 0,I 0,I 0,I 0,I 0]),(4, .box 29 [I (wi (r2+1)),I 7,I 0,I 1440,I 0,I 0,I 0])]⟩ krf (sC (!r3.2) krf ?_ ?_)))))
 ·refine sR tfm ⟨[2,3],[2],[],[]⟩ ⟨[(2, .ptr 2 0),(3,B false)],[(2, .box 29 [I (wi (r2+1)),I 7,I 0,I 1440,I 0,I 0,I 0])]⟩ krf (sT (sq_r ?_))
  exact qR (.id) krf krf krf
 ·refine sK (sN ⟨[1,2,4,5],[1,2,4],[],[]⟩ ⟨[(1, .ptr 1 0),(2, .ptr 2 0),(4, .ptr 4 0),(5,I r3.1)],[(1, .box 24 (bxc (GNode.cs a0n))),(2, .box 29 [I 0,I 0,I 0,I 0,I 0,I 0,I 0]),(4, .box 29 [I (wi (r2+1)),I 7,I 0,I 1440,I 0,I 0,I 0])]⟩ krf (sR tfm ⟨[1,2,4],[1,2,4],[],[]⟩ ⟨[(1, .ptr 1 0),(2, .ptr 2 0),(4, .ptr 4 0)],[(1, .box 24 (bxc (GNode.cs a0n))),(2, .box 29 [I 0,I 0,I 0,I 0,I 0,I 0,I 0]),(4, .box 29 [I (wi (r2+1)),I 7,I 0,I 1440,I r3.1,I 0,I 0])]⟩ krf (sim_bind (fun j4=>⟨[(1, .ptr 1 0),(2, .ptr 2 0),(4, .ptr 4 0),(7,B j4)],[(1, .box 24 (bxc (GNode.cs a0n))),(2, .box 29 [I 0,I 0,I 0,I 0,I 0,I 0,I 0]),(4, .box 29 [I (wi (r2+1)),I 7,I 0,I 1440,I r3.1,I 0,I 0])]⟩:Bool→St) ?_ ?_)))
  ·refine sG (xR 4 krf ?_)
   refine xS (eqI (wi (r2+1)) 3) (fun h5=>?_) (fun h5=>?_)
   ·refine xN (want_ft krf h5) krf (xR 4 krf (xE ?_))
    exact nq_n true ⟨[1,2,4,7],[1,2,4],[],[]⟩ krf
   ·refine xO (want_ff krf h5) krf (xR 4 krf (xE ?_))
    exact nq_n (eqI (wi (r2+1)) 4) ⟨[1,2,4,7],[1,2,4],[],[]⟩ krf
  ·rintro j4
   refine sim_bind (fun j6=>⟨[(1, .ptr 1 0),(2, .ptr 2 0),(4, .ptr 4 0),(7,B j4),(8,B j6)],[(1, .box 24 (bxc (GNode.cs a0n))),(2, .box 29 [I 0,I 0,I 0,I 0,I 0,I 0,I 0]),(4, .box 29 [I (wi (r2+1)),I 7,I 0,I 1440,I r3.1,I 0,I 0])]⟩:Bool→St) ?_ ?_
   ·refine sG (xR 4 krf ?_)
    refine xS (eqI (wi (r2+1)) 5) (fun h7=>?_) (fun h7=>?_)
    ·refine xN (want_ft krf h7) krf (xR 4 krf (xE ?_))
     exact nq_n true ⟨[1,2,4,7,8],[1,2,4],[],[]⟩ krf
    ·refine xO (want_ff krf h7) krf (xR 4 krf (xE ?_))
     exact nq_n (eqI (wi (r2+1)) 6) ⟨[1,2,4,7,8],[1,2,4],[],[]⟩ krf
   ·rintro j6
    refine sR tfm ⟨[1,2,4,7,8,9],[1,2,4],[],[]⟩ ⟨[(1, .ptr 1 0),(2, .ptr 2 0),(4, .ptr 4 0),(7,B j4),(8,B j6),(9,B false)],[(1, .box 24 (bxc (GNode.cs a0n))),(2, .box 29 [I 0,I 0,I 0,I 0,I 0,I 0,I 0]),(4, .box 29 [I (wi (r2+1)),I 7,I 0,I 1440,I r3.1,I 0,I 0])]⟩ krf (sR tfm ⟨[1,2,4,7,8,9,10],[1,2,4],[],[]⟩ ⟨[(1, .ptr 1 0),(2, .ptr 2 0),(4, .ptr 4 0),(7,B j4),(8,B j6),(9,B false),(10,B false)],[(1, .box 24 (bxc (GNode.cs a0n))),(2, .box 29 [I 0,I 0,I 0,I 0,I 0,I 0,I 0]),(4, .box 29 [I (wi (r2+1)),I 7,I 0,I 1440,I r3.1,I 0,I 0])]⟩ krf (sR tfm ⟨[1,2,4,7,8,9,10,11],[1,2,4],[],[]⟩ ⟨[(1, .ptr 1 0),(2, .ptr 2 0),(4, .ptr 4 0),(7,B j4),(8,B j6),(9,B false),(10,B false),(11,B false)],[(1, .box 24 (bxc (GNode.cs a0n))),(2, .box 29 [I 0,I 0,I 0,I 0,I 0,I 0,I 0]),(4, .box 29 [I (wi (r2+1)),I 7,I 0,I 1440,I r3.1,I 0,I 0])]⟩ krf (sR tfm ⟨[1,2,4,7,8,9,10,11,12],[1,2,4],[],[]⟩ ⟨[(1, .ptr 1 0),(2, .ptr 2 0),(4, .ptr 4 0),(7,B j4),(8,B j6),(9,B false),(10,B false),(11,B false),(12,B false)],[(1, .box 24 (bxc (GNode.cs a0n))),(2, .box 29 [I 0,I 0,I 0,I 0,I 0,I 0,I 0]),(4, .box 29 [I (wi (r2+1)),I 7,I 0,I 1440,I r3.1,I 0,I 0])]⟩ krf (sR tfm ⟨[1,2,4,7,8,9,10,11,12,13],[1,2,4],[],[]⟩ ⟨[(1, .ptr 1 0),(2, .ptr 2 0),(4, .ptr 4 0),(7,B j4),(8,B j6),(9,B false),(10,B false),(11,B false),(12,B false),(13,I 1)],[(1, .box 24 (bxc (GNode.cs a0n))),(2, .box 29 [I 0,I 0,I 0,I 0,I 0,I 0,I 0]),(4, .box 29 [I (wi (r2+1)),I 7,I 0,I 1440,I r3.1,I 0,I 0])]⟩ krf (sim_cps (fun (j8_1,j8_2,j8_3,j8_4,j8_5,j8_6)=>⟨[(2, .ptr 2 0),(4, .ptr 4 0),(7,B j4),(9,B j8_1)],[(2, .box 29 [I 0,I 0,I 0,I 0,I 0,I 0,I 0]),(4, .box 29 [I (wi (r2+1)),I j8_2,I j8_3,I j8_4,I r3.1,I j8_5,I j8_6])]⟩:(Bool × Int × Int × Int × Int × Int)→St) (fun (j8_1,j8_2,j8_3,j8_4,j8_5,j8_6)=>g_ref32_read_j8 r2 r3 j4 j8_1 j8_2 j8_3 j8_4 j8_5 j8_6) ?_ ?_)))))
    ·rintro ⟨j8_1,j8_2,j8_3,j8_4,j8_5,j8_6⟩
     show SimE (g_ref32_read_j8 r2 r3 j4 j8_1 j8_2 j8_3 j8_4 j8_5 j8_6) _ _ _ _ _ _
     unfold g_ref32_read_j8
     refine sS (sG (xR 4 krf ?_))
     refine xS (!j4) (fun h9=>?_) (fun h9=>?_)
     ·refine xN (want_ft krf h9) krf (xR 3 krf (xE (sN ⟨[2,3],[2],[],[]⟩ ⟨[(2, .ptr 2 0),(3,B true)],[(2, .box 29 [I (wi (r2+1)),I j8_2,I j8_3,I j8_4,I r3.1,I j8_5,I j8_6])]⟩ krf (sT ?_))))
      exact qR (.id) krf krf krf
     ·refine xO (want_ff krf h9) krf (xR 3 krf (xE (sN ⟨[2,3],[2],[],[]⟩ ⟨[(2, .ptr 2 0),(3,B j8_1)],[(2, .box 29 [I (wi (r2+1)),I j8_2,I j8_3,I j8_4,I r3.1,I j8_5,I j8_6])]⟩ krf (sT ?_))))
      exact qR (.id) krf krf krf
    ·refine sB (sim_loop (fun (l10_1,l10_2,l10_3,l10_4,l10_5,l10_6,l10_7,l10_8,l10_9,l10_10)=>⟨[(1, .ptr 1 0),(2, .ptr 2 0),(4, .ptr 4 0),(7,B j4),(8,B j6),(9,B l10_1),(10,B l10_2),(11,B l10_3),(12,B l10_4),(13,I l10_5)],[(1, .box 24 (bxc (GNode.cs a0n))),(2, .box 29 [I 0,I 0,I 0,I 0,I 0,I 0,I 0]),(4, .box 29 [I (wi (r2+1)),I l10_6,I l10_7,I l10_8,I r3.1,I l10_9,I l10_10])]⟩:(Bool × Bool × Bool × Bool × Int × Int × Int × Int × Int × Int)→St) (weak_shr (K:=⟨[1,2,4,7,8,9,10,11,12,13],[1,2,4],[],[]⟩) krf) ?_)
     rintro recl10 ⟨l10_1,l10_2,l10_3,l10_4,l10_5,l10_6,l10_7,l10_8,l10_9,l10_10⟩
     show SimE (g_ref32_read_l10 n a0n r2 r3 j4 j6 recl10 l10_1 l10_2 l10_3 l10_4 l10_5 l10_6 l10_7 l10_8 l10_9 l10_10) _ _ _ _ _ _
     unfold g_ref32_read_l10
     refine sS (sR tfm ⟨[1,2,4,7,8,9,10,11,12,13,56],[1,2,4],[],[]⟩ ⟨[(1, .ptr 1 0),(2, .ptr 2 0),(4, .ptr 4 0),(7,B j4),(8,B j6),(9,B l10_1),(10,B l10_2),(11,B l10_3),(12,B l10_4),(13,I l10_5),(56,B (ltI l10_5 (lenI (mI a0n.Kids))))],[(1, .box 24 (bxc (GNode.cs a0n))),(2, .box 29 [I 0,I 0,I 0,I 0,I 0,I 0,I 0]),(4, .box 29 [I (wi (r2+1)),I l10_6,I l10_7,I l10_8,I r3.1,I l10_9,I l10_10])]⟩ krf (sC (ltI l10_5 (lenI (mI a0n.Kids))) krf ?_ ?_))
     ·refine sK (sN ⟨[1,2,4,7,8,9,10,11,12,13],[1,2,4],[],[]⟩ ⟨[(1, .ptr 1 0),(2, .ptr 2 0),(4, .ptr 4 0),(7,B j4),(8,B j6),(9,B l10_1),(10,B l10_2),(11,B l10_3),(12,B l10_4),(13,I l10_5)],[(1, .box 24 (bxc (GNode.cs a0n))),(2, .box 29 [I 0,I 0,I 0,I 0,I 0,I 0,I 0]),(4, .box 29 [I (wi (r2+1)),I l10_6,I l10_7,I l10_8,I r3.1,I l10_9,I l10_10])]⟩ krf (sB (sS (sG (xR 4 krf ?_)))))
      refine xC [] krf (g_ref32_number_ok n a0n.Kids (wi (l10_5+1))) krf krf (fun _=>by kernel_rfl) (fun r11=>?_)
      refine xR 5 krf (xE (sN ⟨[1,2,4,7,8,9,10,11,12,13,14,15],[1,2,4],[],[]⟩ ⟨[(1, .ptr 1 0),(2, .ptr 2 0),(4, .ptr 4 0),(7,B j4),(8,B j6),(9,B l10_1),(10,B l10_2),(11,B l10_3),(12,B l10_4),(13,I l10_5),(14,I r11.1),(15,B r11.2)],[(1, .box 24 (bxc (GNode.cs a0n))),(2, .box 29 [I 0,I 0,I 0,I 0,I 0,I 0,I 0]),(4, .box 29 [I (wi (r2+1)),I l10_6,I l10_7,I l10_8,I r3.1,I l10_9,I l10_10])]⟩ krf (sS (sG (xR 3 krf ?_)))))
      refine xC [] krf (g_ref32_word_ok n a0n.Kids l10_5) krf krf (fun _=>by kernel_rfl) (fun r12=>?_)
      refine xR 1 krf (xE (sN ⟨[1,2,4,7,8,9,10,11,12,13,14,15,16],[1,2,4],[],[]⟩ ⟨[(1, .ptr 1 0),(2, .ptr 2 0),(4, .ptr 4 0),(7,B j4),(8,B j6),(9,B l10_1),(10,B l10_2),(11,B l10_3),(12,B l10_4),(13,I l10_5),(14,I r11.1),(15,B r11.2),(16,S r12)],[(1, .box 24 (bxc (GNode.cs a0n))),(2, .box 29 [I 0,I 0,I 0,I 0,I 0,I 0,I 0]),(4, .box 29 [I (wi (r2+1)),I l10_6,I l10_7,I l10_8,I r3.1,I l10_9,I l10_10])]⟩ krf (sim_bind (fun j13=>⟨[(1, .ptr 1 0),(2, .ptr 2 0),(4, .ptr 4 0),(7,B j4),(8,B j6),(9,B l10_1),(10,B l10_2),(11,B l10_3),(12,B l10_4),(13,I l10_5),(14,I r11.1),(15,B r11.2),(16,S r12),(80,B j13)],[(1, .box 24 (bxc (GNode.cs a0n))),(2, .box 29 [I 0,I 0,I 0,I 0,I 0,I 0,I 0]),(4, .box 29 [I (wi (r2+1)),I l10_6,I l10_7,I l10_8,I r3.1,I l10_9,I l10_10])]⟩:Bool→St) ?_ ?_)))
      ·refine sG (xR 3 krf ?_)
       refine xS (eqS r12 [112,101,114]) (fun h14=>?_) (fun h14=>?_)
       ·refine xO (want_tt krf h14) krf (xR 2 krf ?_)
        refine xS j4 (fun h15=>?_) (fun h15=>?_)
        ·refine xO (want_tt krf h15) krf (xR 3 krf ?_)
         refine xS (!l10_1) (fun h16=>?_) (fun h16=>?_)
         ·refine xO (want_tt krf h16) krf (xR 1 krf (xE ?_))
          exact nq_n r11.2 ⟨[1,2,4,7,8,9,10,11,12,13,14,15,16,80],[1,2,4],[],[]⟩ krf
         ·refine xN (want_tf krf h16) krf (xR 1 krf (xE ?_))
          exact nq_n false ⟨[1,2,4,7,8,9,10,11,12,13,14,15,16,80],[1,2,4],[],[]⟩ krf
        ·refine xN (want_tf krf h15) krf (xR 5 krf (xE ?_))
         exact nq_n false ⟨[1,2,4,7,8,9,10,11,12,13,14,15,16,80],[1,2,4],[],[]⟩ krf
       ·refine xN (want_tf krf h14) krf (xR 8 krf (xE ?_))
        exact nq_n false ⟨[1,2,4,7,8,9,10,11,12,13,14,15,16,80],[1,2,4],[],[]⟩ krf
      ·rintro j13
       refine sC j13 krf ?_ ?_
       ·refine sR tfm ⟨[1,2,4,7,8,10,11,12,13],[1,2,4],[],[]⟩ ⟨[(1, .ptr 1 0),(2, .ptr 2 0),(4, .ptr 4 0),(7,B j4),(8,B j6),(10,B l10_2),(11,B l10_3),(12,B l10_4),(13,I l10_5)],[(1, .box 24 (bxc (GNode.cs a0n))),(2, .box 29 [I 0,I 0,I 0,I 0,I 0,I 0,I 0]),(4, .box 29 [I (wi (r2+1)),I l10_6,I l10_7,I l10_8,I r3.1,I r11.1,I l10_10])]⟩ krf (sR tfm ⟨[1,2,4,7,8,9,10,11,12,13],[1,2,4],[],[]⟩ ⟨[(1, .ptr 1 0),(2, .ptr 2 0),(4, .ptr 4 0),(7,B j4),(8,B j6),(9,B true),(10,B l10_2),(11,B l10_3),(12,B l10_4),(13,I l10_5)],[(1, .box 24 (bxc (GNode.cs a0n))),(2, .box 29 [I 0,I 0,I 0,I 0,I 0,I 0,I 0]),(4, .box 29 [I (wi (r2+1)),I l10_6,I l10_7,I l10_8,I r3.1,I r11.1,I l10_10])]⟩ krf (sL tfm krf (bq_n ?_)))
        exact kq_n (true,l10_2,l10_3,l10_4,wi (l10_5+2),l10_6,l10_7,l10_8,r11.1,l10_10) ⟨[1,2,4,7,8,9,10,11,12,13],[1,2,4],[],[]⟩ krf
       ·refine sim_bind (fun j17=>⟨[(1, .ptr 1 0),(2, .ptr 2 0),(4, .ptr 4 0),(7,B j4),(8,B j6),(9,B l10_1),(10,B l10_2),(11,B l10_3),(12,B l10_4),(13,I l10_5),(14,I r11.1),(15,B r11.2),(16,S r12),(96,B j17)],[(1, .box 24 (bxc (GNode.cs a0n))),(2, .box 29 [I 0,I 0,I 0,I 0,I 0,I 0,I 0]),(4, .box 29 [I (wi (r2+1)),I l10_6,I l10_7,I l10_8,I r3.1,I l10_9,I l10_10])]⟩:Bool→St) ?_ ?_
        ·refine sG (xR 3 krf ?_)
         refine xS (eqS r12 [102,114,101,101]) (fun h18=>?_) (fun h18=>?_)
         ·refine xO (want_tt krf h18) krf (xR 2 krf ?_)
          refine xS j4 (fun h19=>?_) (fun h19=>?_)
          ·refine xO (want_tt krf h19) krf (xR 3 krf ?_)
           refine xS (!l10_2) (fun h20=>?_) (fun h20=>?_)
           ·refine xO (want_tt krf h20) krf (xR 1 krf (xE ?_))
            exact nq_n r11.2 ⟨[1,2,4,7,8,9,10,11,12,13,14,15,16,96],[1,2,4],[],[]⟩ krf
           ·refine xN (want_tf krf h20) krf (xR 1 krf (xE ?_))
            exact nq_n false ⟨[1,2,4,7,8,9,10,11,12,13,14,15,16,96],[1,2,4],[],[]⟩ krf
          ·refine xN (want_tf krf h19) krf (xR 5 krf (xE ?_))
           exact nq_n false ⟨[1,2,4,7,8,9,10,11,12,13,14,15,16,96],[1,2,4],[],[]⟩ krf
         ·refine xN (want_tf krf h18) krf (xR 8 krf (xE ?_))
          exact nq_n false ⟨[1,2,4,7,8,9,10,11,12,13,14,15,16,96],[1,2,4],[],[]⟩ krf
        ·rintro j17
         refine sC j17 krf ?_ ?_
         ·refine sR tfm ⟨[1,2,4,7,8,9,11,12,13],[1,2,4],[],[]⟩ ⟨[(1, .ptr 1 0),(2, .ptr 2 0),(4, .ptr 4 0),(7,B j4),(8,B j6),(9,B l10_1),(11,B l10_3),(12,B l10_4),(13,I l10_5)],[(1, .box 24 (bxc (GNode.cs a0n))),(2, .box 29 [I 0,I 0,I 0,I 0,I 0,I 0,I 0]),(4, .box 29 [I (wi (r2+1)),I l10_6,I l10_7,I l10_8,I r3.1,I l10_9,I r11.1])]⟩ krf (sR tfm ⟨[1,2,4,7,8,9,10,11,12,13],[1,2,4],[],[]⟩ ⟨[(1, .ptr 1 0),(2, .ptr 2 0),(4, .ptr 4 0),(7,B j4),(8,B j6),(9,B l10_1),(10,B true),(11,B l10_3),(12,B l10_4),(13,I l10_5)],[(1, .box 24 (bxc (GNode.cs a0n))),(2, .box 29 [I 0,I 0,I 0,I 0,I 0,I 0,I 0]),(4, .box 29 [I (wi (r2+1)),I l10_6,I l10_7,I l10_8,I r3.1,I l10_9,I r11.1])]⟩ krf (sL tfm krf (bq_n ?_)))
          exact kq_n (l10_1,true,l10_3,l10_4,wi (l10_5+2),l10_6,l10_7,l10_8,l10_9,r11.1) ⟨[1,2,4,7,8,9,10,11,12,13],[1,2,4],[],[]⟩ krf
         ·refine sim_bind (fun j21=>⟨[(1, .ptr 1 0),(2, .ptr 2 0),(4, .ptr 4 0),(7,B j4),(8,B j6),(9,B l10_1),(10,B l10_2),(11,B l10_3),(12,B l10_4),(13,I l10_5),(14,I r11.1),(15,B r11.2),(16,S r12),(110,B j21)],[(1, .box 24 (bxc (GNode.cs a0n))),(2, .box 29 [I 0,I 0,I 0,I 0,I 0,I 0,I 0]),(4, .box 29 [I (wi (r2+1)),I l10_6,I l10_7,I l10_8,I r3.1,I l10_9,I l10_10])]⟩:Bool→St) ?_ ?_
          ·refine sG (xR 3 krf ?_)
           refine xS (eqS r12 [111,110]) (fun h22=>?_) (fun h22=>?_)
           ·refine xO (want_tt krf h22) krf (xR 3 krf ?_)
            refine xS (!j6) (fun h23=>?_) (fun h23=>?_)
            ·refine xO (want_tt krf h23) krf (xR 2 krf (xE ?_))
             exact nq_n (!l10_3) ⟨[1,2,4,7,8,9,10,11,12,13,14,15,16,110],[1,2,4],[],[]⟩ krf
            ·refine xN (want_tf krf h23) krf (xR 2 krf (xE ?_))
             exact nq_n false ⟨[1,2,4,7,8,9,10,11,12,13,14,15,16,110],[1,2,4],[],[]⟩ krf
           ·refine xN (want_tf krf h22) krf (xR 6 krf (xE ?_))
            exact nq_n false ⟨[1,2,4,7,8,9,10,11,12,13,14,15,16,110],[1,2,4],[],[]⟩ krf
          ·rintro j21
           refine sC j21 krf ?_ ?_
           ·refine sS (sG (xR 4 krf ?_))
            refine xC [] krf (g_ref32_types_ok n a0n.Kids (wi (l10_5+1))) krf krf (fun _=>by kernel_rfl) (fun r24=>?_)
            refine xR 6 krf (xE (sN ⟨[1,2,4,7,8,9,10,12,13],[1,2,4],[],[]⟩ ⟨[(1, .ptr 1 0),(2, .ptr 2 0),(4, .ptr 4 0),(7,B j4),(8,B j6),(9,B l10_1),(10,B l10_2),(12,B l10_4),(13,I r24.2)],[(1, .box 24 (bxc (GNode.cs a0n))),(2, .box 29 [I 0,I 0,I 0,I 0,I 0,I 0,I 0]),(4, .box 29 [I (wi (r2+1)),I r24.1,I l10_7,I l10_8,I r3.1,I l10_9,I l10_10])]⟩ krf (sR tfm ⟨[1,2,4,7,8,9,10,11,12,13],[1,2,4],[],[]⟩ ⟨[(1, .ptr 1 0),(2, .ptr 2 0),(4, .ptr 4 0),(7,B j4),(8,B j6),(9,B l10_1),(10,B l10_2),(11,B true),(12,B l10_4),(13,I r24.2)],[(1, .box 24 (bxc (GNode.cs a0n))),(2, .box 29 [I 0,I 0,I 0,I 0,I 0,I 0,I 0]),(4, .box 29 [I (wi (r2+1)),I r24.1,I l10_7,I l10_8,I r3.1,I l10_9,I l10_10])]⟩ krf (sR tfm ⟨[1,2,4,7,8,9,10,11,12,13,122],[1,2,4],[],[]⟩ ⟨[(1, .ptr 1 0),(2, .ptr 2 0),(4, .ptr 4 0),(7,B j4),(8,B j6),(9,B l10_1),(10,B l10_2),(11,B true),(12,B l10_4),(13,I r24.2),(122,B (eqI r24.1 0))],[(1, .box 24 (bxc (GNode.cs a0n))),(2, .box 29 [I 0,I 0,I 0,I 0,I 0,I 0,I 0]),(4, .box 29 [I (wi (r2+1)),I r24.1,I l10_7,I l10_8,I r3.1,I l10_9,I l10_10])]⟩ krf (sC (eqI r24.1 0) krf ?_ ?_)))))
            ·refine sR tfm ⟨[2,3],[2],[],[]⟩ ⟨[(2, .ptr 2 0),(3,B false)],[(2, .box 29 [I (wi (r2+1)),I r24.1,I l10_7,I l10_8,I r3.1,I l10_9,I l10_10])]⟩ krf (sT (bq_r (kq_r (bq_r (kq_r ?_)))))
             exact qR (.id) krf krf krf
            ·refine sK (bq_n ?_)
             exact kq_n (l10_1,l10_2,true,l10_4,r24.2,r24.1,l10_7,l10_8,l10_9,l10_10) ⟨[1,2,4,7,8,9,10,11,12,13],[1,2,4],[],[]⟩ krf
           ·refine sim_bind (fun j25=>⟨[(1, .ptr 1 0),(2, .ptr 2 0),(4, .ptr 4 0),(7,B j4),(8,B j6),(9,B l10_1),(10,B l10_2),(11,B l10_3),(13,I l10_5),(14,I r11.1),(136,B j25)],[(1, .box 24 (bxc (GNode.cs a0n))),(2, .box 29 [I 0,I 0,I 0,I 0,I 0,I 0,I 0]),(4, .box 29 [I (wi (r2+1)),I l10_6,I l10_7,I l10_8,I r3.1,I l10_9,I l10_10])]⟩:Bool→St) ?_ ?_
            ·refine sG (xR 3 krf ?_)
             refine xS (eqS r12 [98,101,116,119,101,101,110]) (fun h26=>?_) (fun h26=>?_)
             ·refine xO (want_tt krf h26) krf (xR 3 krf ?_)
              refine xS (!j6) (fun h27=>?_) (fun h27=>?_)
              ·refine xO (want_tt krf h27) krf (xR 3 krf ?_)
               refine xS (!l10_4) (fun h28=>?_) (fun h28=>?_)
               ·refine xO (want_tt krf h28) krf (xR 1 krf (xE ?_))
                exact nq_n r11.2 ⟨[1,2,4,7,8,9,10,11,13,14,136],[1,2,4],[],[]⟩ krf
               ·refine xN (want_tf krf h28) krf (xR 1 krf (xE ?_))
                exact nq_n false ⟨[1,2,4,7,8,9,10,11,13,14,136],[1,2,4],[],[]⟩ krf
              ·refine xN (want_tf krf h27) krf (xR 5 krf (xE ?_))
               exact nq_n false ⟨[1,2,4,7,8,9,10,11,13,14,136],[1,2,4],[],[]⟩ krf
             ·refine xN (want_tf krf h26) krf (xR 9 krf (xE ?_))
              exact nq_n false ⟨[1,2,4,7,8,9,10,11,13,14,136],[1,2,4],[],[]⟩ krf
            ·rintro j25
             refine sC j25 krf ?_ ?_
             ·refine sS (sG (xR 4 krf ?_))
              refine xC [] krf (g_ref32_number_ok n a0n.Kids (wi (l10_5+2))) krf krf (fun _=>by kernel_rfl) (fun r29=>?_)
              refine xR 5 krf (xE (sN ⟨[1,2,4,7,8,9,10,11,13,14,17,18],[1,2,4],[],[]⟩ ⟨[(1, .ptr 1 0),(2, .ptr 2 0),(4, .ptr 4 0),(7,B j4),(8,B j6),(9,B l10_1),(10,B l10_2),(11,B l10_3),(13,I l10_5),(14,I r11.1),(17,I r29.1),(18,B r29.2)],[(1, .box 24 (bxc (GNode.cs a0n))),(2, .box 29 [I 0,I 0,I 0,I 0,I 0,I 0,I 0]),(4, .box 29 [I (wi (r2+1)),I l10_6,I l10_7,I l10_8,I r3.1,I l10_9,I l10_10])]⟩ krf (sS (sR tfm ⟨[1,2,4,7,8,9,10,11,13,14,17,146],[1,2,4],[],[]⟩ ⟨[(1, .ptr 1 0),(2, .ptr 2 0),(4, .ptr 4 0),(7,B j4),(8,B j6),(9,B l10_1),(10,B l10_2),(11,B l10_3),(13,I l10_5),(14,I r11.1),(17,I r29.1),(146,B (!r29.2))],[(1, .box 24 (bxc (GNode.cs a0n))),(2, .box 29 [I 0,I 0,I 0,I 0,I 0,I 0,I 0]),(4, .box 29 [I (wi (r2+1)),I l10_6,I l10_7,I l10_8,I r3.1,I l10_9,I l10_10])]⟩ krf (sC (!r29.2) krf ?_ ?_)))))
              ·refine sR tfm ⟨[2,3],[2],[],[]⟩ ⟨[(2, .ptr 2 0),(3,B false)],[(2, .box 29 [I (wi (r2+1)),I l10_6,I l10_7,I l10_8,I r3.1,I l10_9,I l10_10])]⟩ krf (sT (sq_r (bq_r (kq_r (bq_r (kq_r ?_))))))
               exact qR (.id) krf krf krf
              ·refine sK (sN ⟨[1,2,4,7,8,9,10,11,13,14,17],[1,2,4],[],[]⟩ ⟨[(1, .ptr 1 0),(2, .ptr 2 0),(4, .ptr 4 0),(7,B j4),(8,B j6),(9,B l10_1),(10,B l10_2),(11,B l10_3),(13,I l10_5),(14,I r11.1),(17,I r29.1)],[(1, .box 24 (bxc (GNode.cs a0n))),(2, .box 29 [I 0,I 0,I 0,I 0,I 0,I 0,I 0]),(4, .box 29 [I (wi (r2+1)),I l10_6,I l10_7,I l10_8,I r3.1,I l10_9,I l10_10])]⟩ krf (sR tfm ⟨[1,2,4,7,8,9,10,11,13,17],[1,2,4],[],[]⟩ ⟨[(1, .ptr 1 0),(2, .ptr 2 0),(4, .ptr 4 0),(7,B j4),(8,B j6),(9,B l10_1),(10,B l10_2),(11,B l10_3),(13,I l10_5),(17,I r29.1)],[(1, .box 24 (bxc (GNode.cs a0n))),(2, .box 29 [I 0,I 0,I 0,I 0,I 0,I 0,I 0]),(4, .box 29 [I (wi (r2+1)),I l10_6,I r11.1,I l10_8,I r3.1,I l10_9,I l10_10])]⟩ krf (sR tfm ⟨[1,2,4,7,8,9,10,11,13],[1,2,4],[],[]⟩ ⟨[(1, .ptr 1 0),(2, .ptr 2 0),(4, .ptr 4 0),(7,B j4),(8,B j6),(9,B l10_1),(10,B l10_2),(11,B l10_3),(13,I l10_5)],[(1, .box 24 (bxc (GNode.cs a0n))),(2, .box 29 [I 0,I 0,I 0,I 0,I 0,I 0,I 0]),(4, .box 29 [I (wi (r2+1)),I l10_6,I r11.1,I r29.1,I r3.1,I l10_9,I l10_10])]⟩ krf (sR tfm ⟨[1,2,4,7,8,9,10,11,12,13],[1,2,4],[],[]⟩ ⟨[(1, .ptr 1 0),(2, .ptr 2 0),(4, .ptr 4 0),(7,B j4),(8,B j6),(9,B l10_1),(10,B l10_2),(11,B l10_3),(12,B true),(13,I l10_5)],[(1, .box 24 (bxc (GNode.cs a0n))),(2, .box 29 [I 0,I 0,I 0,I 0,I 0,I 0,I 0]),(4, .box 29 [I (wi (r2+1)),I l10_6,I r11.1,I r29.1,I r3.1,I l10_9,I l10_10])]⟩ krf (sL tfm krf (bq_n ?_))))))
               exact kq_n (l10_1,l10_2,l10_3,true,wi (l10_5+3),l10_6,r11.1,r29.1,l10_9,l10_10) ⟨[1,2,4,7,8,9,10,11,12,13],[1,2,4],[],[]⟩ krf
             ·refine sR tfm ⟨[2,3],[2],[],[]⟩ ⟨[(2, .ptr 2 0),(3,B false)],[(2, .box 29 [I (wi (r2+1)),I l10_6,I l10_7,I l10_8,I r3.1,I l10_9,I l10_10])]⟩ krf (sT (bq_r (kq_r (bq_r (kq_r ?_)))))
              exact qR (.id) krf krf krf
     ·refine sim_exit (sq_x (kq_x (bq_hit ?_)))
      exact kq_n (k:=fun (j8_1,j8_2,j8_3,j8_4,j8_5,j8_6)=>g_ref32_read_j8 r2 r3 j4 j8_1 j8_2 j8_3 j8_4 j8_5 j8_6) (l10_1,l10_6,l10_7,l10_8,l10_9,l10_10) ⟨[2,4,7,9],[2,4],[],[]⟩ krf
def g_ref32_Article (n:Nat) (a0a:GAr):Option Bool :=
 (cond (ltI a0a.Price 0)
  (some true)
  (cond (ltI 1000000 a0a.Price)
   (some true)
   (cond (ltI a0a.From 0)
    (some true)
    (cond (ltI 1439 a0a.From)
     (some true)
     (cond (leI a0a.To a0a.From)
      (some true)
      (cond (ltI 1440 a0a.To)
       (some true)
       (cond (ltI a0a.Days 1)
        (some true)
        (some (ltI 7 a0a.Days))))))))).bind fun j1 =>
 cond j1
  (some false)
  ((cond (eqI a0a.Kind 3)
   (some true)
   (some (eqI a0a.Kind 4))).bind fun j9 =>
  cond j9
   ((cond (leI 1 a0a.Unit)
    (cond (leI a0a.Unit 1440)
     (cond (leI 0 a0a.Free)
      (some (leI a0a.Free 1440))
      (some false))
     (some false))
    (some false)).bind fun j11 =>
   some j11)
   ((cond (!eqI a0a.Unit 0)
    (some true)
    (some (!eqI a0a.Free 0))).bind fun j15 =>
   cond j15
    (some false)
    ((cond (eqI a0a.From 0)
     (cond (eqI a0a.To 1440)
      (some (eqI a0a.Days 7))
      (some false))
     (some false)).bind fun j17 =>
    cond (eqI a0a.Kind 6)
     ((cond j17
      (some (leI a0a.Price 10000))
      (some false)).bind fun j20 =>
     some j20)
     (cond (eqI a0a.Kind 5)
      (some j17)
      (cond (eqI a0a.Kind 1)
       (some true)
       (some (eqI a0a.Kind 2)))))))
theorem g_ref32_Article_ok (n:Nat) (a0a:GAr):∀ r,g_ref32_Article n a0a=some r→PCall Tryz.prog 35 [ag (GAr.cs a0a)] (.ret (B r)):=by
 refine pcall_sim (X:=fun r:Bool=>AEnd.ret (B r)) Tryz.func35 rfl Tryz.ntmps35 rfl ?_
 unfold g_ref32_Article
 refine sR tfm ⟨[1],[1],[],[]⟩ ⟨[(1, .ptr 1 0)],[(1, .box 29 (bxc (GAr.cs a0a)))]⟩ krf (sS (sim_bind (fun j1=>⟨[(1, .ptr 1 0),(43,B j1)],[(1, .box 29 (bxc (GAr.cs a0a)))]⟩:Bool→St) ?_ ?_))
 ·refine sG (xR 4 krf ?_)
  refine xS (ltI a0a.Price 0) (fun h2=>?_) (fun h2=>?_)
  ·refine xN (want_ft krf h2) krf (xR 35 krf (xE ?_))
   exact nq_n true ⟨[1,43],[1],[],[]⟩ krf
  ·refine xO (want_ff krf h2) krf (xR 4 krf ?_)
   refine xS (ltI 1000000 a0a.Price) (fun h3=>?_) (fun h3=>?_)
   ·refine xN (want_ft krf h3) krf (xR 30 krf (xE ?_))
    exact nq_n true ⟨[1,43],[1],[],[]⟩ krf
   ·refine xO (want_ff krf h3) krf (xR 4 krf ?_)
    refine xS (ltI a0a.From 0) (fun h4=>?_) (fun h4=>?_)
    ·refine xN (want_ft krf h4) krf (xR 25 krf (xE ?_))
     exact nq_n true ⟨[1,43],[1],[],[]⟩ krf
    ·refine xO (want_ff krf h4) krf (xR 4 krf ?_)
     refine xS (ltI 1439 a0a.From) (fun h5=>?_) (fun h5=>?_)
     ·refine xN (want_ft krf h5) krf (xR 20 krf (xE ?_))
      exact nq_n true ⟨[1,43],[1],[],[]⟩ krf
     ·refine xO (want_ff krf h5) krf (xR 6 krf ?_)
      refine xS (leI a0a.To a0a.From) (fun h6=>?_) (fun h6=>?_)
      ·refine xN (want_ft krf h6) krf (xR 13 krf (xE ?_))
       exact nq_n true ⟨[1,43],[1],[],[]⟩ krf
      ·refine xO (want_ff krf h6) krf (xR 4 krf ?_)
       refine xS (ltI 1440 a0a.To) (fun h7=>?_) (fun h7=>?_)
       ·refine xN (want_ft krf h7) krf (xR 8 krf (xE ?_))
        exact nq_n true ⟨[1,43],[1],[],[]⟩ krf
       ·refine xO (want_ff krf h7) krf (xR 4 krf ?_)
        refine xS (ltI a0a.Days 1) (fun h8=>?_) (fun h8=>?_)
        ·refine xN (want_ft krf h8) krf (xR 3 krf (xE ?_))
         exact nq_n true ⟨[1,43],[1],[],[]⟩ krf
        ·refine xO (want_ff krf h8) krf (xR 3 krf (xE ?_))
         exact nq_n (ltI 7 a0a.Days) ⟨[1,43],[1],[],[]⟩ krf
 ·rintro j1
  refine sC j1 krf ?_ ?_
  ·refine sR tfm ⟨[2],[],[],[]⟩ ⟨[(2,B false)],[]⟩ krf (sT (sq_r ?_))
   exact qR (.id) krf krf krf
  ·refine sK (sN ⟨[1],[1],[],[]⟩ ⟨[(1, .ptr 1 0)],[(1, .box 29 (bxc (GAr.cs a0a)))]⟩ krf (sS (sim_bind (fun j9=>⟨[(1, .ptr 1 0),(51,B j9)],[(1, .box 29 (bxc (GAr.cs a0a)))]⟩:Bool→St) ?_ ?_)))
   ·refine sG (xR 4 krf ?_)
    refine xS (eqI a0a.Kind 3) (fun h10=>?_) (fun h10=>?_)
    ·refine xN (want_ft krf h10) krf (xR 3 krf (xE ?_))
     exact nq_n true ⟨[1,51],[1],[],[]⟩ krf
    ·refine xO (want_ff krf h10) krf (xR 3 krf (xE ?_))
     exact nq_n (eqI a0a.Kind 4) ⟨[1,51],[1],[],[]⟩ krf
   ·rintro j9
    refine sC j9 krf ?_ ?_
    ·refine sim_bind (fun j11=>⟨[(2,B j11)],[]⟩:Bool→St) ?_ ?_
     ·refine sG (xR 4 krf ?_)
      refine xS (leI 1 a0a.Unit) (fun h12=>?_) (fun h12=>?_)
      ·refine xO (want_tt krf h12) krf (xR 4 krf ?_)
       refine xS (leI a0a.Unit 1440) (fun h13=>?_) (fun h13=>?_)
       ·refine xO (want_tt krf h13) krf (xR 4 krf ?_)
        refine xS (leI 0 a0a.Free) (fun h14=>?_) (fun h14=>?_)
        ·refine xO (want_tt krf h14) krf (xR 4 krf (xE ?_))
         exact nq_n (leI a0a.Free 1440) ⟨[2],[],[],[]⟩ krf
        ·refine xN (want_tf krf h14) krf (xR 4 krf (xE ?_))
         exact nq_n false ⟨[2],[],[],[]⟩ krf
       ·refine xN (want_tf krf h13) krf (xR 9 krf (xE ?_))
        exact nq_n false ⟨[2],[],[],[]⟩ krf
      ·refine xN (want_tf krf h12) krf (xR 14 krf (xE ?_))
       exact nq_n false ⟨[2],[],[],[]⟩ krf
     ·rintro j11
      refine sT (sq_r ?_)
      exact qR (.id) krf krf krf
    ·refine sK (sN ⟨[1],[1],[],[]⟩ ⟨[(1, .ptr 1 0)],[(1, .box 29 (bxc (GAr.cs a0a)))]⟩ krf (sS (sim_bind (fun j15=>⟨[(1, .ptr 1 0),(77,B j15)],[(1, .box 29 (bxc (GAr.cs a0a)))]⟩:Bool→St) ?_ ?_)))
     ·refine sG (xR 4 krf ?_)
      refine xS (!eqI a0a.Unit 0) (fun h16=>?_) (fun h16=>?_)
      ·refine xN (want_ft krf h16) krf (xR 3 krf (xE ?_))
       exact nq_n true ⟨[1,77],[1],[],[]⟩ krf
      ·refine xO (want_ff krf h16) krf (xR 3 krf (xE ?_))
       exact nq_n (!eqI a0a.Free 0) ⟨[1,77],[1],[],[]⟩ krf
     ·rintro j15
      refine sC j15 krf ?_ ?_
      ·refine sR tfm ⟨[2],[],[],[]⟩ ⟨[(2,B false)],[]⟩ krf (sT (sq_r ?_))
       exact qR (.id) krf krf krf
      ·refine sK (sN ⟨[1],[1],[],[]⟩ ⟨[(1, .ptr 1 0)],[(1, .box 29 (bxc (GAr.cs a0a)))]⟩ krf (sim_bind (fun j17=>⟨[(1, .ptr 1 0),(3,B j17)],[(1, .box 29 (bxc (GAr.cs a0a)))]⟩:Bool→St) ?_ ?_))
       ·refine sG (xR 4 krf ?_)
        refine xS (eqI a0a.From 0) (fun h18=>?_) (fun h18=>?_)
        ·refine xO (want_tt krf h18) krf (xR 4 krf ?_)
         refine xS (eqI a0a.To 1440) (fun h19=>?_) (fun h19=>?_)
         ·refine xO (want_tt krf h19) krf (xR 4 krf (xE ?_))
          exact nq_n (eqI a0a.Days 7) ⟨[1,3],[1],[],[]⟩ krf
         ·refine xN (want_tf krf h19) krf (xR 4 krf (xE ?_))
          exact nq_n false ⟨[1,3],[1],[],[]⟩ krf
        ·refine xN (want_tf krf h18) krf (xR 9 krf (xE ?_))
         exact nq_n false ⟨[1,3],[1],[],[]⟩ krf
       ·rintro j17
        refine sS (sR tfm ⟨[1,3,93],[1],[],[]⟩ ⟨[(1, .ptr 1 0),(3,B j17),(93,B (eqI a0a.Kind 6))],[(1, .box 29 (bxc (GAr.cs a0a)))]⟩ krf (sC (eqI a0a.Kind 6) krf ?_ ?_))
        ·refine sim_bind (fun j20=>⟨[(2,B j20)],[]⟩:Bool→St) ?_ ?_
         ·refine sG (xR 2 krf ?_)
          refine xS j17 (fun h21=>?_) (fun h21=>?_)
          ·refine xO (want_tt krf h21) krf (xR 4 krf (xE ?_))
           exact nq_n (leI a0a.Price 10000) ⟨[2],[],[],[]⟩ krf
          ·refine xN (want_tf krf h21) krf (xR 4 krf (xE ?_))
           exact nq_n false ⟨[2],[],[],[]⟩ krf
         ·rintro j20
          refine sT (sq_r ?_)
          exact qR (.id) krf krf krf
        ·refine sK (sN ⟨[1,3],[1],[],[]⟩ ⟨[(1, .ptr 1 0),(3,B j17)],[(1, .box 29 (bxc (GAr.cs a0a)))]⟩ krf (sS (sR tfm ⟨[1,3,102],[1],[],[]⟩ ⟨[(1, .ptr 1 0),(3,B j17),(102,B (eqI a0a.Kind 5))],[(1, .box 29 (bxc (GAr.cs a0a)))]⟩ krf (sC (eqI a0a.Kind 5) krf ?_ ?_))))
         ·refine sR tfm ⟨[2],[],[],[]⟩ ⟨[(2,B j17)],[]⟩ krf (sT (sq_r ?_))
          exact qR (.id) krf krf krf
         ·refine sK (sN ⟨[1],[1],[],[]⟩ ⟨[(1, .ptr 1 0)],[(1, .box 29 (bxc (GAr.cs a0a)))]⟩ krf (sS (sG (xR 4 krf ?_))))
          refine xS (eqI a0a.Kind 1) (fun h22=>?_) (fun h22=>?_)
          ·refine xN (want_ft krf h22) krf (xR 4 krf (xE (sN ⟨[2],[],[],[]⟩ ⟨[(2,B true)],[]⟩ krf (sT ?_))))
           exact qR (.id) krf krf krf
          ·refine xO (want_ff krf h22) krf (xR 4 krf (xE (sN ⟨[2],[],[],[]⟩ ⟨[(2,B (eqI a0a.Kind 2))],[]⟩ krf (sT ?_))))
           exact qR (.id) krf krf krf
def g_ref32_build_l1 (n:Nat) (a0n:GNode) (recl1:(Bool × Int × (List GAr))→Option (GTf × GDg)) (l1_1:Bool) (l1_2:Int) (l1_3:List GAr):Option (GTf × GDg) :=
 cond (ltI l1_2 (lenI (List.map idc a0n.Kids)))
  ((Option.bind (getI a0n.Kids l1_2) GNode.of).bind fun x2 =>
  cond (eqI x2.Kind 3)
   (some ((⟨a0n.Name,l1_3⟩:GTf),(⟨9,x2.At⟩:GDg)))
   (cond (eqI (lenI (List.map GAr.cs l1_3)) 12)
    (some ((⟨a0n.Name,l1_3⟩:GTf),(⟨2,x2.At⟩:GDg)))
    ((g_ref32_read n x2).bind fun r3 =>
    cond (!r3.2)
     (some ((⟨a0n.Name,l1_3⟩:GTf),(⟨9,x2.At⟩:GDg)))
     ((g_ref32_Article n r3.1).bind fun r4 =>
     cond (!r4)
      (some ((⟨a0n.Name,l1_3⟩:GTf),(⟨3,x2.At⟩:GDg)))
      ((cond (eqI r3.1.Kind 6)
       (some l1_1)
       (some false)).bind fun j5 =>
      cond j5
       (some ((⟨a0n.Name,l1_3⟩:GTf),(⟨5,x2.At⟩:GDg)))
       (cond l1_1
        (cond (roomB (List.length (l1_3++[r3.1])) 56) (
         recl1 (true,wi (l1_2+1),l1_3++[r3.1])) none)
        (cond (roomB (List.length (l1_3++[r3.1])) 56) (
         recl1 (eqI r3.1.Kind 6,wi (l1_2+1),l1_3++[r3.1])) none)))))))
  (some ((⟨a0n.Name,l1_3⟩:GTf),(⟨0,0⟩:GDg)))
def g_ref32_build (n:Nat) (a0n:GNode):Option (GTf × GDg) :=
 loopN (fun recl1 (l1_1,l1_2,l1_3)=>g_ref32_build_l1 n a0n recl1 l1_1 l1_2 l1_3) n (false,0,[])
theorem g_ref32_build_ok (n:Nat) (a0n:GNode):∀ r,g_ref32_build n a0n=some r→PCall Tryz.prog 31 [ag (GNode.cs a0n)] (.ret (.tup [ag (GTf.cs r.1),ag (GDg.cs r.2)])):=by
 refine pcall_sim (X:=fun r:GTf × GDg=>AEnd.ret (.tup [ag (GTf.cs r.1),ag (GDg.cs r.2)])) Tryz.func31 rfl Tryz.ntmps31 rfl ?_
 unfold g_ref32_build
 refine sR tfm ⟨[1,2,3],[1,2,3],[],[]⟩ ⟨[(1, .ptr 1 0),(2, .ptr 2 0),(3, .ptr 3 0)],[(1, .box 24 (bxc (GNode.cs a0n))),(2, .box 27 [S [],zS]),(3, .box 56 [I 0,I 0])]⟩ krf (sR tfm ⟨[1,2,3,4],[1,2,3,4],[],[]⟩ ⟨[(1, .ptr 1 0),(2, .ptr 2 0),(3, .ptr 3 0),(4, .ptr 4 0)],[(1, .box 24 (bxc (GNode.cs a0n))),(2, .box 27 [S [],zS]),(3, .box 56 [I 0,I 0]),(4, .box 27 [S a0n.Name,zS])]⟩ krf (sR tfm ⟨[1,2,3,4,5],[1,2,3,4],[],[]⟩ ⟨[(1, .ptr 1 0),(2, .ptr 2 0),(3, .ptr 3 0),(4, .ptr 4 0),(5,B false)],[(1, .box 24 (bxc (GNode.cs a0n))),(2, .box 27 [S [],zS]),(3, .box 56 [I 0,I 0]),(4, .box 27 [S a0n.Name,zS])]⟩ krf (sS (sR tfm ⟨[1,2,3,4,5,6],[1,2,3,4],[],[]⟩ ⟨[(1, .ptr 1 0),(2, .ptr 2 0),(3, .ptr 3 0),(4, .ptr 4 0),(5,B false),(6,I 0)],[(1, .box 24 (bxc (GNode.cs a0n))),(2, .box 27 [S [],zS]),(3, .box 56 [I 0,I 0]),(4, .box 27 [S a0n.Name,zS])]⟩ krf (sB (sP ⟨[1,2,3,4,5,6],[1,2,3,4],[],[]⟩ ⟨[(1, .ptr 1 0),(2, .ptr 2 0),(3, .ptr 3 0),(4, .ptr 4 0),(5,B false),(6,I 0)],[(1, .box 24 (bxc (GNode.cs a0n))),(2, .box 27 [S [],zS]),(3, .box 56 [I 0,I 0]),(4, .box 27 [S a0n.Name,zS])]⟩ krf (sim_weak (weak_pn 29 7 78 [] [(4,1)] krf) ?_)))))))
 refine sim_loop (fun (l1_1,l1_2,l1_3)=>⟨[(1, .ptr 1 0),(2, .ptr 2 0),(3, .ptr 3 0),(4, .ptr 4 0),(5,B l1_1),(6,I l1_2)],[(1, .box 24 (bxc (GNode.cs a0n))),(2, .box 27 [S [],zS]),(3, .box 56 [I 0,I 0]),(4, .box 27 [S a0n.Name, .tsl 7 (mAr l1_3) 78]),(78, .arr 29 7 (mAr l1_3).length)]⟩:(Bool × Int × (List GAr))→St) (weak_shr (K:=⟨[1,2,3,4,5,6],[1,2,3,4,78],[],[]⟩) krf) ?_
 rintro recl1 ⟨l1_1,l1_2,l1_3⟩
 show SimE (g_ref32_build_l1 n a0n recl1 l1_1 l1_2 l1_3) _ _ _ _ _ _
 unfold g_ref32_build_l1
 refine sS (sR tfm ⟨[1,2,3,4,5,6,17],[1,2,3,4,78],[],[]⟩ ⟨[(1, .ptr 1 0),(2, .ptr 2 0),(3, .ptr 3 0),(4, .ptr 4 0),(5,B l1_1),(6,I l1_2),(17,B (ltI l1_2 (lenI (mI a0n.Kids))))],[(1, .box 24 (bxc (GNode.cs a0n))),(2, .box 27 [S [],zS]),(3, .box 56 [I 0,I 0]),(4, .box 27 [S a0n.Name, .tsl 7 (mAr l1_3) 78]),(78, .arr 29 7 (mAr l1_3).length)]⟩ krf (sC (ltI l1_2 (lenI (mI a0n.Kids))) krf ?_ ?_))
 ·refine sK (sN ⟨[1,2,3,4,5,6],[1,2,3,4,78],[],[]⟩ ⟨[(1, .ptr 1 0),(2, .ptr 2 0),(3, .ptr 3 0),(4, .ptr 4 0),(5,B l1_1),(6,I l1_2)],[(1, .box 24 (bxc (GNode.cs a0n))),(2, .box 27 [S [],zS]),(3, .box 56 [I 0,I 0]),(4, .box 27 [S a0n.Name, .tsl 7 (mAr l1_3) 78]),(78, .arr 29 7 (mAr l1_3).length)]⟩ krf (sS (sB (sS (sG (xR 3 krf ?_))))))
  refine xG krf krf (aop_idxR (e:=24) (S:=5) (enc:=GNode.cs) (dec:=GNode.of) (l:=a0n.Kids) (k:=.i64) (n:=l1_2) (sv:=.p (.sl 5 (mI a0n.Kids))) GNode.of_cs rfl krf krf krf krf krf) (fun x2=>?_)
  refine xR 3 krf (xE (sN ⟨[1,2,3,4,5,6,7],[1,2,3,4,7,78],[],[]⟩ ⟨[(1, .ptr 1 0),(2, .ptr 2 0),(3, .ptr 3 0),(4, .ptr 4 0),(5,B l1_1),(6,I l1_2),(7, .ptr 7 0)],[(1, .box 24 (bxc (GNode.cs a0n))),(2, .box 27 [S [],zS]),(3, .box 56 [I 0,I 0]),(4, .box 27 [S a0n.Name, .tsl 7 (mAr l1_3) 78]),(7, .box 24 (bxc (GNode.cs x2))),(78, .arr 29 7 (mAr l1_3).length)]⟩ krf (sS (sR tfm ⟨[1,2,3,4,5,6,7,27],[1,2,3,4,7,78],[],[]⟩ ⟨[(1, .ptr 1 0),(2, .ptr 2 0),(3, .ptr 3 0),(4, .ptr 4 0),(5,B l1_1),(6,I l1_2),(7, .ptr 7 0),(27,B (eqI x2.Kind 3))],[(1, .box 24 (bxc (GNode.cs a0n))),(2, .box 27 [S [],zS]),(3, .box 56 [I 0,I 0]),(4, .box 27 [S a0n.Name, .tsl 7 (mAr l1_3) 78]),(7, .box 24 (bxc (GNode.cs x2))),(78, .arr 29 7 (mAr l1_3).length)]⟩ krf (sC (eqI x2.Kind 3) krf ?_ ?_)))))
  ·refine sR tfm ⟨[2,3],[2,3,78],[],[]⟩ ⟨[(2, .ptr 2 0),(3, .ptr 3 0)],[(2, .box 27 [S a0n.Name, .tsl 7 (mAr l1_3) 78]),(3, .box 56 [I 9,I x2.At]),(78, .arr 29 7 (mAr l1_3).length)]⟩ krf (sT (sq_r (bq_r (sq_r (kq_r (bq_r (sq_r ?_)))))))
   exact qR (.agg [.agg [.id, .sl 7], .id]) krf krf krf
  ·refine sK (sN ⟨[1,2,3,4,5,6,7],[1,2,3,4,7,78],[],[]⟩ ⟨[(1, .ptr 1 0),(2, .ptr 2 0),(3, .ptr 3 0),(4, .ptr 4 0),(5,B l1_1),(6,I l1_2),(7, .ptr 7 0)],[(1, .box 24 (bxc (GNode.cs a0n))),(2, .box 27 [S [],zS]),(3, .box 56 [I 0,I 0]),(4, .box 27 [S a0n.Name, .tsl 7 (mAr l1_3) 78]),(7, .box 24 (bxc (GNode.cs x2))),(78, .arr 29 7 (mAr l1_3).length)]⟩ krf (sS (sR tfm ⟨[1,2,3,4,5,6,7,35],[1,2,3,4,7,78],[],[]⟩ ⟨[(1, .ptr 1 0),(2, .ptr 2 0),(3, .ptr 3 0),(4, .ptr 4 0),(5,B l1_1),(6,I l1_2),(7, .ptr 7 0),(35,B (eqI (lenI (mAr l1_3)) 12))],[(1, .box 24 (bxc (GNode.cs a0n))),(2, .box 27 [S [],zS]),(3, .box 56 [I 0,I 0]),(4, .box 27 [S a0n.Name, .tsl 7 (mAr l1_3) 78]),(7, .box 24 (bxc (GNode.cs x2))),(78, .arr 29 7 (mAr l1_3).length)]⟩ krf (sC (eqI (lenI (mAr l1_3)) 12) krf ?_ ?_))))
   ·refine sR tfm ⟨[2,3],[2,3,78],[],[]⟩ ⟨[(2, .ptr 2 0),(3, .ptr 3 0)],[(2, .box 27 [S a0n.Name, .tsl 7 (mAr l1_3) 78]),(3, .box 56 [I 2,I x2.At]),(78, .arr 29 7 (mAr l1_3).length)]⟩ krf (sT (sq_r (bq_r (sq_r (kq_r (bq_r (sq_r ?_)))))))
    exact qR (.agg [.agg [.id, .sl 7], .id]) krf krf krf
   ·refine sK (sN ⟨[1,2,3,4,5,6,7],[1,2,3,4,7,78],[],[]⟩ ⟨[(1, .ptr 1 0),(2, .ptr 2 0),(3, .ptr 3 0),(4, .ptr 4 0),(5,B l1_1),(6,I l1_2),(7, .ptr 7 0)],[(1, .box 24 (bxc (GNode.cs a0n))),(2, .box 27 [S [],zS]),(3, .box 56 [I 0,I 0]),(4, .box 27 [S a0n.Name, .tsl 7 (mAr l1_3) 78]),(7, .box 24 (bxc (GNode.cs x2))),(78, .arr 29 7 (mAr l1_3).length)]⟩ krf (sS (sG (xR 1 krf ?_))))
    refine xC [] krf (g_ref32_read_ok n x2) krf krf (fun _=>by kernel_rfl) (fun r3=>?_)
    refine xR 6 krf (xE (sN ⟨[1,2,3,4,5,6,7,8,9],[1,2,3,4,7,8,78],[],[]⟩ ⟨[(1, .ptr 1 0),(2, .ptr 2 0),(3, .ptr 3 0),(4, .ptr 4 0),(5,B l1_1),(6,I l1_2),(7, .ptr 7 0),(8, .ptr 8 0),(9,B r3.2)],[(1, .box 24 (bxc (GNode.cs a0n))),(2, .box 27 [S [],zS]),(3, .box 56 [I 0,I 0]),(4, .box 27 [S a0n.Name, .tsl 7 (mAr l1_3) 78]),(7, .box 24 (bxc (GNode.cs x2))),(8, .box 29 (bxc (GAr.cs r3.1))),(78, .arr 29 7 (mAr l1_3).length)]⟩ krf (sS (sR tfm ⟨[1,2,3,4,5,6,7,8,46],[1,2,3,4,7,8,78],[],[]⟩ ⟨[(1, .ptr 1 0),(2, .ptr 2 0),(3, .ptr 3 0),(4, .ptr 4 0),(5,B l1_1),(6,I l1_2),(7, .ptr 7 0),(8, .ptr 8 0),(46,B (!r3.2))],[(1, .box 24 (bxc (GNode.cs a0n))),(2, .box 27 [S [],zS]),(3, .box 56 [I 0,I 0]),(4, .box 27 [S a0n.Name, .tsl 7 (mAr l1_3) 78]),(7, .box 24 (bxc (GNode.cs x2))),(8, .box 29 (bxc (GAr.cs r3.1))),(78, .arr 29 7 (mAr l1_3).length)]⟩ krf (sC (!r3.2) krf ?_ ?_)))))
    ·refine sR tfm ⟨[2,3],[2,3,78],[],[]⟩ ⟨[(2, .ptr 2 0),(3, .ptr 3 0)],[(2, .box 27 [S a0n.Name, .tsl 7 (mAr l1_3) 78]),(3, .box 56 [I 9,I x2.At]),(78, .arr 29 7 (mAr l1_3).length)]⟩ krf (sT (sq_r (bq_r (sq_r (kq_r (bq_r (sq_r ?_)))))))
     exact qR (.agg [.agg [.id, .sl 7], .id]) krf krf krf
    ·refine sK (sN ⟨[1,2,3,4,5,6,7,8],[1,2,3,4,7,8,78],[],[]⟩ ⟨[(1, .ptr 1 0),(2, .ptr 2 0),(3, .ptr 3 0),(4, .ptr 4 0),(5,B l1_1),(6,I l1_2),(7, .ptr 7 0),(8, .ptr 8 0)],[(1, .box 24 (bxc (GNode.cs a0n))),(2, .box 27 [S [],zS]),(3, .box 56 [I 0,I 0]),(4, .box 27 [S a0n.Name, .tsl 7 (mAr l1_3) 78]),(7, .box 24 (bxc (GNode.cs x2))),(8, .box 29 (bxc (GAr.cs r3.1))),(78, .arr 29 7 (mAr l1_3).length)]⟩ krf (sS (sS (sG (xR 1 krf ?_)))))
     refine xC [] krf (g_ref32_Article_ok n r3.1) krf krf (fun _=>by kernel_rfl) (fun r4=>?_)
     refine xR 1 krf (xE (sN ⟨[1,2,3,4,5,6,7,8,53],[1,2,3,4,7,8,78],[],[]⟩ ⟨[(1, .ptr 1 0),(2, .ptr 2 0),(3, .ptr 3 0),(4, .ptr 4 0),(5,B l1_1),(6,I l1_2),(7, .ptr 7 0),(8, .ptr 8 0),(53,B (!r4))],[(1, .box 24 (bxc (GNode.cs a0n))),(2, .box 27 [S [],zS]),(3, .box 56 [I 0,I 0]),(4, .box 27 [S a0n.Name, .tsl 7 (mAr l1_3) 78]),(7, .box 24 (bxc (GNode.cs x2))),(8, .box 29 (bxc (GAr.cs r3.1))),(78, .arr 29 7 (mAr l1_3).length)]⟩ krf (sC (!r4) krf ?_ ?_)))
     ·refine sR tfm ⟨[2,3],[2,3,78],[],[]⟩ ⟨[(2, .ptr 2 0),(3, .ptr 3 0)],[(2, .box 27 [S a0n.Name, .tsl 7 (mAr l1_3) 78]),(3, .box 56 [I 3,I x2.At]),(78, .arr 29 7 (mAr l1_3).length)]⟩ krf (sT (sq_r (bq_r (sq_r (kq_r (bq_r (sq_r ?_)))))))
      exact qR (.agg [.agg [.id, .sl 7], .id]) krf krf krf
     ·refine sK (sN ⟨[1,2,3,4,5,6,7,8],[1,2,3,4,7,8,78],[],[]⟩ ⟨[(1, .ptr 1 0),(2, .ptr 2 0),(3, .ptr 3 0),(4, .ptr 4 0),(5,B l1_1),(6,I l1_2),(7, .ptr 7 0),(8, .ptr 8 0)],[(1, .box 24 (bxc (GNode.cs a0n))),(2, .box 27 [S [],zS]),(3, .box 56 [I 0,I 0]),(4, .box 27 [S a0n.Name, .tsl 7 (mAr l1_3) 78]),(7, .box 24 (bxc (GNode.cs x2))),(8, .box 29 (bxc (GAr.cs r3.1))),(78, .arr 29 7 (mAr l1_3).length)]⟩ krf (sS (sim_bind (fun j5=>⟨[(1, .ptr 1 0),(2, .ptr 2 0),(3, .ptr 3 0),(4, .ptr 4 0),(5,B l1_1),(6,I l1_2),(7, .ptr 7 0),(8, .ptr 8 0),(63,B j5)],[(1, .box 24 (bxc (GNode.cs a0n))),(2, .box 27 [S [],zS]),(3, .box 56 [I 0,I 0]),(4, .box 27 [S a0n.Name, .tsl 7 (mAr l1_3) 78]),(7, .box 24 (bxc (GNode.cs x2))),(8, .box 29 (bxc (GAr.cs r3.1))),(78, .arr 29 7 (mAr l1_3).length)]⟩:Bool→St) ?_ ?_)))
      ·refine sG (xR 4 krf ?_)
       refine xS (eqI r3.1.Kind 6) (fun h6=>?_) (fun h6=>?_)
       ·refine xO (want_tt krf h6) krf (xR 1 krf (xE ?_))
        exact nq_n l1_1 ⟨[1,2,3,4,5,6,7,8,63],[1,2,3,4,7,8,78],[],[]⟩ krf
       ·refine xN (want_tf krf h6) krf (xR 1 krf (xE ?_))
        exact nq_n false ⟨[1,2,3,4,5,6,7,8,63],[1,2,3,4,7,8,78],[],[]⟩ krf
      ·rintro j5
       refine sC j5 krf ?_ ?_
       ·refine sR tfm ⟨[2,3],[2,3,78],[],[]⟩ ⟨[(2, .ptr 2 0),(3, .ptr 3 0)],[(2, .box 27 [S a0n.Name, .tsl 7 (mAr l1_3) 78]),(3, .box 56 [I 5,I x2.At]),(78, .arr 29 7 (mAr l1_3).length)]⟩ krf (sT (sq_r (bq_r (sq_r (kq_r (bq_r (sq_r ?_)))))))
        exact qR (.agg [.agg [.id, .sl 7], .id]) krf krf krf
       ·refine sK (sN ⟨[1,2,3,4,5,6,8],[1,2,3,4,8,78],[],[]⟩ ⟨[(1, .ptr 1 0),(2, .ptr 2 0),(3, .ptr 3 0),(4, .ptr 4 0),(5,B l1_1),(6,I l1_2),(8, .ptr 8 0)],[(1, .box 24 (bxc (GNode.cs a0n))),(2, .box 27 [S [],zS]),(3, .box 56 [I 0,I 0]),(4, .box 27 [S a0n.Name, .tsl 7 (mAr l1_3) 78]),(8, .box 29 (bxc (GAr.cs r3.1))),(78, .arr 29 7 (mAr l1_3).length)]⟩ krf (sS (sG (xR 2 krf ?_))))
        refine xS l1_1 (fun h7=>?_) (fun h7=>?_)
        ·refine xN (want_ft krf h7) krf (xR 4 krf (xE (sN ⟨[1,2,3,4,5,6,8],[1,2,3,4,8,78],[],[]⟩ ⟨[(1, .ptr 1 0),(2, .ptr 2 0),(3, .ptr 3 0),(4, .ptr 4 0),(5,B true),(6,I l1_2),(8, .ptr 8 0)],[(1, .box 24 (bxc (GNode.cs a0n))),(2, .box 27 [S [],zS]),(3, .box 56 [I 0,I 0]),(4, .box 27 [S a0n.Name, .tsl 7 (mAr l1_3) 78]),(8, .box 29 (bxc (GAr.cs r3.1))),(78, .arr 29 7 (mAr l1_3).length)]⟩ krf (sG (xR 4 krf (xF krf krf (aop_app (e:=29) (S:=7) (by_:=56) (enc:=GAr.cs) (tk:=78) (l:=l1_3) (l2:=[r3.1]) (xv:=.tsl 7 (mAr [r3.1]) 77) rfl krf krf rfl krf krf krf rfl krf) (xR 2 krf ?_)))))))
         refine xE (bq_n (sN ⟨[1,2,3,4,5,6],[1,2,3,4,78],[],[]⟩ ⟨[(1, .ptr 1 0),(2, .ptr 2 0),(3, .ptr 3 0),(4, .ptr 4 0),(5,B true),(6,I l1_2)],[(1, .box 24 (bxc (GNode.cs a0n))),(2, .box 27 [S [],zS]),(3, .box 56 [I 0,I 0]),(4, .box 27 [S a0n.Name, .tsl 7 (mAr (l1_3++[r3.1])) 78]),(78, .arr 29 7 (mAr (l1_3++[r3.1])).length)]⟩ krf (sL tfm krf ?_)))
         exact kq_n (true,wi (l1_2+1),l1_3++[r3.1]) ⟨[1,2,3,4,5,6],[1,2,3,4,78],[],[]⟩ krf
        ·refine xO (want_ff krf h7) krf (xR 4 krf (xE (sN ⟨[1,2,3,4,5,6,8,70,71,72],[1,2,3,4,8,78],[],[]⟩ ⟨[(1, .ptr 1 0),(2, .ptr 2 0),(3, .ptr 3 0),(4, .ptr 4 0),(5,B (eqI r3.1.Kind 6)),(6,I l1_2),(8, .ptr 8 0),(70, .ptr 8 0),(71,I r3.1.Kind),(72,B (eqI r3.1.Kind 6))],[(1, .box 24 (bxc (GNode.cs a0n))),(2, .box 27 [S [],zS]),(3, .box 56 [I 0,I 0]),(4, .box 27 [S a0n.Name, .tsl 7 (mAr l1_3) 78]),(8, .box 29 (bxc (GAr.cs r3.1))),(78, .arr 29 7 (mAr l1_3).length)]⟩ krf (sG (xR 4 krf (xF krf krf (aop_app (e:=29) (S:=7) (by_:=56) (enc:=GAr.cs) (tk:=78) (l:=l1_3) (l2:=[r3.1]) (xv:=.tsl 7 (mAr [r3.1]) 77) rfl krf krf rfl krf krf krf rfl krf) (xR 2 krf ?_)))))))
         refine xE (bq_n (sN ⟨[1,2,3,4,5,6,70,71,72],[1,2,3,4,8,78],[],[]⟩ ⟨[(1, .ptr 1 0),(2, .ptr 2 0),(3, .ptr 3 0),(4, .ptr 4 0),(5,B (eqI r3.1.Kind 6)),(6,I l1_2),(70, .ptr 8 0),(71,I r3.1.Kind),(72,B (eqI r3.1.Kind 6))],[(1, .box 24 (bxc (GNode.cs a0n))),(2, .box 27 [S [],zS]),(3, .box 56 [I 0,I 0]),(4, .box 27 [S a0n.Name, .tsl 7 (mAr (l1_3++[r3.1])) 78]),(8, .box 29 (bxc (GAr.cs r3.1))),(78, .arr 29 7 (mAr (l1_3++[r3.1])).length)]⟩ krf (sL tfm krf ?_)))
         exact kq_n (eqI r3.1.Kind 6,wi (l1_2+1),l1_3++[r3.1]) ⟨[1,2,3,4,5,6],[1,2,3,4,78],[],[]⟩ krf
 ·refine sim_exit (sq_x (kq_x (bq_hit (sN ⟨[2,3,4],[2,3,4,78],[],[]⟩ ⟨[(2, .ptr 2 0),(3, .ptr 3 0),(4, .ptr 4 0)],[(2, .box 27 [S [],zS]),(3, .box 56 [I 0,I 0]),(4, .box 27 [S a0n.Name, .tsl 7 (mAr l1_3) 78]),(78, .arr 29 7 (mAr l1_3).length)]⟩ krf (sR tfm ⟨[2,3],[2,3,78],[],[]⟩ ⟨[(2, .ptr 2 0),(3, .ptr 3 0)],[(2, .box 27 [S a0n.Name, .tsl 7 (mAr l1_3) 78]),(3, .box 56 [I 0,I 0]),(78, .arr 29 7 (mAr l1_3).length)]⟩ krf (sT ?_))))))
  exact qR (.agg [.agg [.id, .sl 7], .id]) krf krf krf
def g_ref32_Build_l3 (n:Nat) (a0n:GNode) (recl3:((List GTf) × (List GDg) × (List (List UInt8)) × Int)→Option ((List GTf) × (List GDg))) (l3_1:List GTf) (l3_2:List GDg) (l3_3:List (List UInt8)) (l3_4:Int):Option ((List GTf) × (List GDg)) :=
 cond (ltI l3_4 (lenI (List.map idc a0n.Kids)))
  ((Option.bind (getI a0n.Kids l3_4) GNode.of).bind fun x4 =>
  cond (!eqI x4.N 7)
   (recl3 (l3_1,l3_2,l3_3,wi (l3_4+1)))
   ((g_ref32_build n x4).bind fun r5 =>
   ((g_ref02_In n l3_3 x4.Name).bind fun r7 =>
   cond (leI 0 r7)
    (some (5,x4.At))
    (cond (leI 8 (lenI (List.map cstr l3_3)))
     (some (2,x4.At))
     (some (r5.2.Err,r5.2.At)))).bind fun (j6_1,j6_2) =>
   cond (roomB (List.length (l3_3++[x4.Name])) 16) (
    cond (eqI j6_1 0)
     (cond (roomB (List.length (l3_1++[r5.1])) 40) (
      recl3 (l3_1++[r5.1],l3_2,l3_3++[x4.Name],wi (l3_4+1))) none)
     (cond (ltI (lenI (List.map GDg.cs l3_2)) 20)
      (cond (roomB (List.length (l3_2++[(⟨j6_1,j6_2⟩:GDg)])) 16) (
       recl3 (l3_1,l3_2++[(⟨j6_1,j6_2⟩:GDg)],l3_3++[x4.Name],wi (l3_4+1))) none)
      (recl3 (l3_1,l3_2,l3_3++[x4.Name],wi (l3_4+1))))) none))
  (some (l3_1,l3_2))
def g_ref32_Build (n:Nat) (a0n:GNode):Option ((List GTf) × (List GDg)) :=
 (g_ref02_Valid n a0n).bind fun r1 =>
 cond (!r1)
  (some ([],[(⟨1,0⟩:GDg)]))
  ((loopN (fun recl3 (l3_1,l3_2,l3_3,l3_4)=>g_ref32_Build_l3 n a0n recl3 l3_1 l3_2 l3_3 l3_4) n ([],[],[],0)).bind fun (j2_1,j2_2) =>
  cond (ltI 0 (lenI (List.map GDg.cs j2_2)))
   (some ([],j2_2))
   (some (j2_1,[])))
theorem g_ref32_Build_ok (n:Nat) (a0n:GNode):∀ r,g_ref32_Build n a0n=some r→PCall Tryz.prog 12 [ag (GNode.cs a0n)] (.ret (.tup [.p (.sl 2 (mTf r.1)), .p (.sl 2 (mDg r.2))])):=by
 refine pcall_sim (X:=fun r:(List GTf) × (List GDg)=>AEnd.ret (.tup [.p (.sl 2 (mTf r.1)), .p (.sl 2 (mDg r.2))])) Tryz.func12 rfl Tryz.ntmps12 rfl ?_
 unfold g_ref32_Build
 refine sR tfm ⟨[1],[1],[],[]⟩ ⟨[(1, .ptr 1 0)],[(1, .box 24 (bxc (GNode.cs a0n)))]⟩ krf (sS (sS (sG (xR 1 krf ?_))))
 refine xC [] krf (g_ref02_Valid_ok n a0n) krf krf (fun _=>by kernel_rfl) (fun r1=>?_)
 refine xR 1 krf (xE (sN ⟨[1,13],[1],[],[]⟩ ⟨[(1, .ptr 1 0),(13,B (!r1))],[(1, .box 24 (bxc (GNode.cs a0n)))]⟩ krf (sC (!r1) krf ?_ ?_)))
 ·refine sR tfm ⟨[2,3],[15],[],[]⟩ ⟨[(2,zS),(3, .tsl 2 (mDg [(⟨1,0⟩:GDg)]) 15)],[(15, .arr 56 2 (mDg [(⟨1,0⟩:GDg)]).length)]⟩ krf (sT (sq_r ?_))
  exact qR (.agg [.sl 2, .sl 2]) krf krf krf
 ·refine sK (sN ⟨[1],[1],[],[]⟩ ⟨[(1, .ptr 1 0)],[(1, .box 24 (bxc (GNode.cs a0n)))]⟩ krf (sR tfm ⟨[1,4],[1],[],[]⟩ ⟨[(1, .ptr 1 0),(4,zS)],[(1, .box 24 (bxc (GNode.cs a0n)))]⟩ krf (sR tfm ⟨[1,4,5],[1],[],[]⟩ ⟨[(1, .ptr 1 0),(4,zS),(5,zS)],[(1, .box 24 (bxc (GNode.cs a0n)))]⟩ krf (sR tfm ⟨[1,4,5,6],[1],[],[]⟩ ⟨[(1, .ptr 1 0),(4,zS),(5,zS),(6,zS)],[(1, .box 24 (bxc (GNode.cs a0n)))]⟩ krf (sim_bind (fun (j2_1,j2_2)=>⟨[(4, .tsl 2 (mTf j2_1) 61),(5, .tsl 2 (mDg j2_2) 68)],[(61, .arr 27 2 (mTf j2_1).length),(68, .arr 56 2 (mDg j2_2).length)]⟩:((List GTf) × (List GDg))→St) ?_ ?_)))))
  ·refine sR tfm ⟨[1,4,5,6,7],[1],[],[]⟩ ⟨[(1, .ptr 1 0),(4,zS),(5,zS),(6,zS),(7,I 0)],[(1, .box 24 (bxc (GNode.cs a0n)))]⟩ krf (sB (sP ⟨[1,4,5,6,7],[1],[],[]⟩ ⟨[(1, .ptr 1 0),(4,zS),(5,zS),(6,zS),(7,I 0)],[(1, .box 24 (bxc (GNode.cs a0n)))]⟩ krf (sim_weak (Weak.trans (weak_pn 9 1 54 [6] [] krf) (Weak.trans (weak_pn 27 2 61 [4] [] krf) (weak_pn 56 2 68 [5] [] krf))) (sim_loop (fun (l3_1,l3_2,l3_3,l3_4)=>⟨[(1, .ptr 1 0),(4, .tsl 2 (mTf l3_1) 61),(5, .tsl 2 (mDg l3_2) 68),(6, .tsl 1 (List.map cstr l3_3) 54),(7,I l3_4)],[(1, .box 24 (bxc (GNode.cs a0n))),(54, .arr 9 1 (List.map cstr l3_3).length),(61, .arr 27 2 (mTf l3_1).length),(68, .arr 56 2 (mDg l3_2).length)]⟩:((List GTf) × (List GDg) × (List (List UInt8)) × Int)→St) (weak_shr (K:=⟨[1,4,5,6,7],[1,54,61,68],[],[]⟩) krf) ?_))))
   rintro recl3 ⟨l3_1,l3_2,l3_3,l3_4⟩
   show SimE (g_ref32_Build_l3 n a0n recl3 l3_1 l3_2 l3_3 l3_4) _ _ _ _ _ _
   unfold g_ref32_Build_l3
   refine sS (sR tfm ⟨[1,4,5,6,7,20],[1,54,61,68],[],[]⟩ ⟨[(1, .ptr 1 0),(4, .tsl 2 (mTf l3_1) 61),(5, .tsl 2 (mDg l3_2) 68),(6, .tsl 1 (List.map cstr l3_3) 54),(7,I l3_4),(20,B (ltI l3_4 (lenI (mI a0n.Kids))))],[(1, .box 24 (bxc (GNode.cs a0n))),(54, .arr 9 1 (List.map cstr l3_3).length),(61, .arr 27 2 (mTf l3_1).length),(68, .arr 56 2 (mDg l3_2).length)]⟩ krf (sC (ltI l3_4 (lenI (mI a0n.Kids))) krf ?_ ?_))
   ·refine sK (sN ⟨[1,4,5,6,7],[1,54,61,68],[],[]⟩ ⟨[(1, .ptr 1 0),(4, .tsl 2 (mTf l3_1) 61),(5, .tsl 2 (mDg l3_2) 68),(6, .tsl 1 (List.map cstr l3_3) 54),(7,I l3_4)],[(1, .box 24 (bxc (GNode.cs a0n))),(54, .arr 9 1 (List.map cstr l3_3).length),(61, .arr 27 2 (mTf l3_1).length),(68, .arr 56 2 (mDg l3_2).length)]⟩ krf (sS (sB (sS (sG (xR 3 krf ?_))))))
    refine xG krf krf (aop_idxR (e:=24) (S:=5) (enc:=GNode.cs) (dec:=GNode.of) (l:=a0n.Kids) (k:=.i64) (n:=l3_4) (sv:=.p (.sl 5 (mI a0n.Kids))) GNode.of_cs rfl krf krf krf krf krf) (fun x4=>?_)
    refine xR 3 krf (xE (sN ⟨[1,4,5,6,7,8],[1,8,54,61,68],[],[]⟩ ⟨[(1, .ptr 1 0),(4, .tsl 2 (mTf l3_1) 61),(5, .tsl 2 (mDg l3_2) 68),(6, .tsl 1 (List.map cstr l3_3) 54),(7,I l3_4),(8, .ptr 8 0)],[(1, .box 24 (bxc (GNode.cs a0n))),(8, .box 24 (bxc (GNode.cs x4))),(54, .arr 9 1 (List.map cstr l3_3).length),(61, .arr 27 2 (mTf l3_1).length),(68, .arr 56 2 (mDg l3_2).length)]⟩ krf (sS (sR tfm ⟨[1,4,5,6,7,8,30],[1,8,54,61,68],[],[]⟩ ⟨[(1, .ptr 1 0),(4, .tsl 2 (mTf l3_1) 61),(5, .tsl 2 (mDg l3_2) 68),(6, .tsl 1 (List.map cstr l3_3) 54),(7,I l3_4),(8, .ptr 8 0),(30,B (!eqI x4.N 7))],[(1, .box 24 (bxc (GNode.cs a0n))),(8, .box 24 (bxc (GNode.cs x4))),(54, .arr 9 1 (List.map cstr l3_3).length),(61, .arr 27 2 (mTf l3_1).length),(68, .arr 56 2 (mDg l3_2).length)]⟩ krf (sC (!eqI x4.N 7) krf ?_ ?_)))))
    ·refine sim_exit (sq_x (bq_hit (sN ⟨[1,4,5,6,7],[1,54,61,68],[],[]⟩ ⟨[(1, .ptr 1 0),(4, .tsl 2 (mTf l3_1) 61),(5, .tsl 2 (mDg l3_2) 68),(6, .tsl 1 (List.map cstr l3_3) 54),(7,I l3_4)],[(1, .box 24 (bxc (GNode.cs a0n))),(54, .arr 9 1 (List.map cstr l3_3).length),(61, .arr 27 2 (mTf l3_1).length),(68, .arr 56 2 (mDg l3_2).length)]⟩ krf (sL tfm krf ?_))))
     exact kq_n (l3_1,l3_2,l3_3,wi (l3_4+1)) ⟨[1,4,5,6,7],[1,54,61,68],[],[]⟩ krf
    ·refine sK (sN ⟨[1,4,5,6,7,8],[1,8,54,61,68],[],[]⟩ ⟨[(1, .ptr 1 0),(4, .tsl 2 (mTf l3_1) 61),(5, .tsl 2 (mDg l3_2) 68),(6, .tsl 1 (List.map cstr l3_3) 54),(7,I l3_4),(8, .ptr 8 0)],[(1, .box 24 (bxc (GNode.cs a0n))),(8, .box 24 (bxc (GNode.cs x4))),(54, .arr 9 1 (List.map cstr l3_3).length),(61, .arr 27 2 (mTf l3_1).length),(68, .arr 56 2 (mDg l3_2).length)]⟩ krf (sS (sG (xR 1 krf ?_))))
     refine xC [] krf (g_ref32_build_ok n x4) krf krf (fun _=>by kernel_rfl) (fun r5=>?_)
     refine xR 7 krf (xE (sN ⟨[1,4,5,6,7,8,9,10],[1,8,9,10,54,61,68],[],[]⟩ ⟨[(1, .ptr 1 0),(4, .tsl 2 (mTf l3_1) 61),(5, .tsl 2 (mDg l3_2) 68),(6, .tsl 1 (List.map cstr l3_3) 54),(7,I l3_4),(8, .ptr 8 0),(9, .ptr 9 0),(10, .ptr 10 0)],[(1, .box 24 (bxc (GNode.cs a0n))),(8, .box 24 (bxc (GNode.cs x4))),(9, .box 27 (bxc (GTf.cs r5.1))),(10, .box 56 (bxc (GDg.cs r5.2))),(54, .arr 9 1 (List.map cstr l3_3).length),(61, .arr 27 2 (mTf l3_1).length),(68, .arr 56 2 (mDg l3_2).length)]⟩ krf (sim_bind (fun (j6_1,j6_2)=>⟨[(1, .ptr 1 0),(4, .tsl 2 (mTf l3_1) 61),(5, .tsl 2 (mDg l3_2) 68),(6, .tsl 1 (List.map cstr l3_3) 54),(7,I l3_4),(8, .ptr 8 0),(9, .ptr 9 0),(10, .ptr 10 0)],[(1, .box 24 (bxc (GNode.cs a0n))),(8, .box 24 (bxc (GNode.cs x4))),(9, .box 27 (bxc (GTf.cs r5.1))),(10, .box 56 [I j6_1,I j6_2]),(54, .arr 9 1 (List.map cstr l3_3).length),(61, .arr 27 2 (mTf l3_1).length),(68, .arr 56 2 (mDg l3_2).length)]⟩:(Int × Int)→St) ?_ ?_)))
     ·refine sS (sG (xR 3 krf ?_))
      refine xC [.sl 1, .id] krf (g_ref02_In_ok n l3_3 x4.Name) krf krf (fun _=>by kernel_rfl) (fun r7=>?_)
      refine xR 1 krf (xE (sN ⟨[1,4,5,6,7,8,9,10,40],[1,8,9,10,54,61,68],[],[]⟩ ⟨[(1, .ptr 1 0),(4, .tsl 2 (mTf l3_1) 61),(5, .tsl 2 (mDg l3_2) 68),(6, .tsl 1 (List.map cstr l3_3) 54),(7,I l3_4),(8, .ptr 8 0),(9, .ptr 9 0),(10, .ptr 10 0),(40,B (leI 0 r7))],[(1, .box 24 (bxc (GNode.cs a0n))),(8, .box 24 (bxc (GNode.cs x4))),(9, .box 27 (bxc (GTf.cs r5.1))),(10, .box 56 (bxc (GDg.cs r5.2))),(54, .arr 9 1 (List.map cstr l3_3).length),(61, .arr 27 2 (mTf l3_1).length),(68, .arr 56 2 (mDg l3_2).length)]⟩ krf (sC (leI 0 r7) krf ?_ ?_)))
      ·refine sL tfm krf ?_
       exact nq_n (5,x4.At) ⟨[1,4,5,6,7,8,9,10],[1,8,9,10,54,61,68],[],[]⟩ krf
      ·refine sR tfm ⟨[1,4,5,6,7,8,9,10,46],[1,8,9,10,54,61,68],[],[]⟩ ⟨[(1, .ptr 1 0),(4, .tsl 2 (mTf l3_1) 61),(5, .tsl 2 (mDg l3_2) 68),(6, .tsl 1 (List.map cstr l3_3) 54),(7,I l3_4),(8, .ptr 8 0),(9, .ptr 9 0),(10, .ptr 10 0),(46,B (leI 8 (lenI (List.map cstr l3_3))))],[(1, .box 24 (bxc (GNode.cs a0n))),(8, .box 24 (bxc (GNode.cs x4))),(9, .box 27 (bxc (GTf.cs r5.1))),(10, .box 56 (bxc (GDg.cs r5.2))),(54, .arr 9 1 (List.map cstr l3_3).length),(61, .arr 27 2 (mTf l3_1).length),(68, .arr 56 2 (mDg l3_2).length)]⟩ krf (sC (leI 8 (lenI (List.map cstr l3_3))) krf ?_ ?_)
       ·refine sL tfm krf ?_
        exact nq_n (2,x4.At) ⟨[1,4,5,6,7,8,9,10],[1,8,9,10,54,61,68],[],[]⟩ krf
       ·refine sK ?_
        exact nq_n (r5.2.Err,r5.2.At) ⟨[1,4,5,6,7,8,9,10],[1,8,9,10,54,61,68],[],[]⟩ krf
     ·rintro ⟨j6_1,j6_2⟩
      refine sS (sG (xR 4 krf (xF krf krf (aop_app (e:=9) (S:=1) (by_:=16) (enc:=cstr) (tk:=54) (l:=l3_3) (l2:=[x4.Name]) (xv:=.tsl 1 (List.map cstr [x4.Name]) 53) rfl krf krf rfl krf krf krf rfl krf) (xR 1 krf (xE (sN ⟨[1,4,5,6,7,9,10],[1,9,10,54,61,68],[],[]⟩ ⟨[(1, .ptr 1 0),(4, .tsl 2 (mTf l3_1) 61),(5, .tsl 2 (mDg l3_2) 68),(6, .tsl 1 (List.map cstr (l3_3++[x4.Name])) 54),(7,I l3_4),(9, .ptr 9 0),(10, .ptr 10 0)],[(1, .box 24 (bxc (GNode.cs a0n))),(9, .box 27 (bxc (GTf.cs r5.1))),(10, .box 56 [I j6_1,I j6_2]),(54, .arr 9 1 (List.map cstr (l3_3++[x4.Name])).length),(61, .arr 27 2 (mTf l3_1).length),(68, .arr 56 2 (mDg l3_2).length)]⟩ krf (sR tfm ⟨[1,4,5,6,7,9,10,57],[1,9,10,54,61,68],[],[]⟩ ⟨[(1, .ptr 1 0),(4, .tsl 2 (mTf l3_1) 61),(5, .tsl 2 (mDg l3_2) 68),(6, .tsl 1 (List.map cstr (l3_3++[x4.Name])) 54),(7,I l3_4),(9, .ptr 9 0),(10, .ptr 10 0),(57,B (eqI j6_1 0))],[(1, .box 24 (bxc (GNode.cs a0n))),(9, .box 27 (bxc (GTf.cs r5.1))),(10, .box 56 [I j6_1,I j6_2]),(54, .arr 9 1 (List.map cstr (l3_3++[x4.Name])).length),(61, .arr 27 2 (mTf l3_1).length),(68, .arr 56 2 (mDg l3_2).length)]⟩ krf ?_)))))))
      refine sC (eqI j6_1 0) krf ?_ ?_
      ·refine sG (xR 3 krf (xF krf krf (aop_app (e:=27) (S:=2) (by_:=40) (enc:=GTf.cs) (tk:=61) (l:=l3_1) (l2:=[r5.1]) (xv:=.tsl 2 (mTf [r5.1]) 60) rfl krf krf rfl krf krf krf rfl krf) (xR 1 krf (xE (bq_n (sN ⟨[1,4,5,6,7],[1,54,61,68],[],[]⟩ ⟨[(1, .ptr 1 0),(4, .tsl 2 (mTf (l3_1++[r5.1])) 61),(5, .tsl 2 (mDg l3_2) 68),(6, .tsl 1 (List.map cstr (l3_3++[x4.Name])) 54),(7,I l3_4)],[(1, .box 24 (bxc (GNode.cs a0n))),(54, .arr 9 1 (List.map cstr (l3_3++[x4.Name])).length),(61, .arr 27 2 (mTf (l3_1++[r5.1])).length),(68, .arr 56 2 (mDg l3_2).length)]⟩ krf (sL tfm krf ?_)))))))
       exact kq_n (l3_1++[r5.1],l3_2,l3_3++[x4.Name],wi (l3_4+1)) ⟨[1,4,5,6,7],[1,54,61,68],[],[]⟩ krf
      ·refine sR tfm ⟨[1,4,5,6,7,10,64],[1,10,54,61,68],[],[]⟩ ⟨[(1, .ptr 1 0),(4, .tsl 2 (mTf l3_1) 61),(5, .tsl 2 (mDg l3_2) 68),(6, .tsl 1 (List.map cstr (l3_3++[x4.Name])) 54),(7,I l3_4),(10, .ptr 10 0),(64,B (ltI (lenI (mDg l3_2)) 20))],[(1, .box 24 (bxc (GNode.cs a0n))),(10, .box 56 [I j6_1,I j6_2]),(54, .arr 9 1 (List.map cstr (l3_3++[x4.Name])).length),(61, .arr 27 2 (mTf l3_1).length),(68, .arr 56 2 (mDg l3_2).length)]⟩ krf (sC (ltI (lenI (mDg l3_2)) 20) krf ?_ ?_)
       ·refine sG (xR 3 krf (xF krf krf (aop_app (e:=56) (S:=2) (by_:=16) (enc:=GDg.cs) (tk:=68) (l:=l3_2) (l2:=[(⟨j6_1,j6_2⟩:GDg)]) (xv:=.tsl 2 (mDg [(⟨j6_1,j6_2⟩:GDg)]) 67) rfl krf krf rfl krf krf krf rfl krf) (xR 1 krf (xE (bq_n (sN ⟨[1,4,5,6,7],[1,54,61,68],[],[]⟩ ⟨[(1, .ptr 1 0),(4, .tsl 2 (mTf l3_1) 61),(5, .tsl 2 (mDg (l3_2++[(⟨j6_1,j6_2⟩:GDg)])) 68),(6, .tsl 1 (List.map cstr (l3_3++[x4.Name])) 54),(7,I l3_4)],[(1, .box 24 (bxc (GNode.cs a0n))),(54, .arr 9 1 (List.map cstr (l3_3++[x4.Name])).length),(61, .arr 27 2 (mTf l3_1).length),(68, .arr 56 2 (mDg (l3_2++[(⟨j6_1,j6_2⟩:GDg)])).length)]⟩ krf (sL tfm krf ?_)))))))
        exact kq_n (l3_1,l3_2++[(⟨j6_1,j6_2⟩:GDg)],l3_3++[x4.Name],wi (l3_4+1)) ⟨[1,4,5,6,7],[1,54,61,68],[],[]⟩ krf
       ·refine sK (bq_n (sN ⟨[1,4,5,6,7],[1,54,61,68],[],[]⟩ ⟨[(1, .ptr 1 0),(4, .tsl 2 (mTf l3_1) 61),(5, .tsl 2 (mDg l3_2) 68),(6, .tsl 1 (List.map cstr (l3_3++[x4.Name])) 54),(7,I l3_4)],[(1, .box 24 (bxc (GNode.cs a0n))),(54, .arr 9 1 (List.map cstr (l3_3++[x4.Name])).length),(61, .arr 27 2 (mTf l3_1).length),(68, .arr 56 2 (mDg l3_2).length)]⟩ krf (sL tfm krf ?_)))
        exact kq_n (l3_1,l3_2,l3_3++[x4.Name],wi (l3_4+1)) ⟨[1,4,5,6,7],[1,54,61,68],[],[]⟩ krf
   ·refine sim_exit (sq_x (kq_x (bq_hit ?_)))
    exact nq_n (l3_1,l3_2) ⟨[4,5],[61,68],[],[]⟩ krf
  ·rintro ⟨j2_1,j2_2⟩
   refine sS (sR tfm ⟨[4,5,71],[61,68],[],[]⟩ ⟨[(4, .tsl 2 (mTf j2_1) 61),(5, .tsl 2 (mDg j2_2) 68),(71,B (ltI 0 (lenI (mDg j2_2))))],[(61, .arr 27 2 (mTf j2_1).length),(68, .arr 56 2 (mDg j2_2).length)]⟩ krf (sC (ltI 0 (lenI (mDg j2_2))) krf ?_ ?_))
   ·refine sR tfm ⟨[2,3],[68],[],[]⟩ ⟨[(2,zS),(3, .tsl 2 (mDg j2_2) 68)],[(68, .arr 56 2 (mDg j2_2).length)]⟩ krf (sT (sq_r ?_))
    exact qR (.agg [.sl 2, .sl 2]) krf krf krf
   ·refine sK (sN ⟨[4],[61],[],[]⟩ ⟨[(4, .tsl 2 (mTf j2_1) 61)],[(61, .arr 27 2 (mTf j2_1).length)]⟩ krf (sR tfm ⟨[2,3],[61],[],[]⟩ ⟨[(2, .tsl 2 (mTf j2_1) 61),(3,zS)],[(61, .arr 27 2 (mTf j2_1).length)]⟩ krf (sT ?_)))
    exact qR (.agg [.sl 2, .sl 2]) krf krf krf
def g_ref32_SameList_l1 (n:Nat) (a0a:List GTf) (a1b:List GTf) (recl1:Int→Option Bool) (l1:Int):Option Bool :=
 cond (ltI l1 (lenI (List.map GTf.cs a0a)))
  ((getI a0a l1).bind fun x2 =>
  (getI a1b l1).bind fun x3 =>
  (g_ref32_Same n x2 x3).bind fun r4 =>
  cond (!r4)
   (some false)
   (recl1 (wi (l1+1))))
  (some true)
def g_ref32_SameList (n:Nat) (a0a:List GTf) (a1b:List GTf):Option Bool :=
 cond (!eqI (lenI (List.map GTf.cs a0a)) (lenI (List.map GTf.cs a1b)))
  (some false)
  (loopN (fun recl1 l1=>g_ref32_SameList_l1 n a0a a1b recl1 l1) n 0)
theorem g_ref32_SameList_ok (n:Nat) (a0a:List GTf) (a1b:List GTf):∀ r,g_ref32_SameList n a0a a1b=some r→PCall Tryz.prog 13 [.p (.sl 2 (mTf a0a)), .p (.sl 2 (mTf a1b))] (.ret (B r)):=by
 refine pcall_sim (X:=fun r:Bool=>AEnd.ret (B r)) Tryz.func13 rfl Tryz.ntmps13 rfl ?_
 unfold g_ref32_SameList
 refine sR tfm ⟨[0,1],[],[],[]⟩ ⟨[(0, .p (.sl 2 (mTf a0a))),(1, .p (.sl 2 (mTf a1b)))],[]⟩ krf (sS (sR tfm ⟨[0,1,10],[],[],[]⟩ ⟨[(0, .p (.sl 2 (mTf a0a))),(1, .p (.sl 2 (mTf a1b))),(10,B (!eqI (lenI (mTf a0a)) (lenI (mTf a1b))))],[]⟩ krf (sC (!eqI (lenI (mTf a0a)) (lenI (mTf a1b))) krf ?_ ?_)))
 ·refine sR tfm ⟨[4],[],[],[]⟩ ⟨[(4,B false)],[]⟩ krf (sT (sq_r ?_))
  exact qR (.id) krf krf krf
 ·refine sK (sN ⟨[0,1],[],[],[]⟩ ⟨[(0, .p (.sl 2 (mTf a0a))),(1, .p (.sl 2 (mTf a1b)))],[]⟩ krf (sS (sR tfm ⟨[0,1,5],[],[],[]⟩ ⟨[(0, .p (.sl 2 (mTf a0a))),(1, .p (.sl 2 (mTf a1b))),(5,I 0)],[]⟩ krf (sB (sim_loop (fun l1=>⟨[(0, .p (.sl 2 (mTf a0a))),(1, .p (.sl 2 (mTf a1b))),(5,I l1)],[]⟩:Int→St) (weak_shr (K:=⟨[0,1,5],[],[],[]⟩) krf) ?_)))))
  rintro recl1 l1
  show SimE (g_ref32_SameList_l1 n a0a a1b recl1 l1) _ _ _ _ _ _
  unfold g_ref32_SameList_l1
  refine sS (sR tfm ⟨[0,1,5,14],[],[],[]⟩ ⟨[(0, .p (.sl 2 (mTf a0a))),(1, .p (.sl 2 (mTf a1b))),(5,I l1),(14,B (ltI l1 (lenI (mTf a0a))))],[]⟩ krf (sC (ltI l1 (lenI (mTf a0a))) krf ?_ ?_))
  ·refine sK (sN ⟨[0,1,5],[],[],[]⟩ ⟨[(0, .p (.sl 2 (mTf a0a))),(1, .p (.sl 2 (mTf a1b))),(5,I l1)],[]⟩ krf (sS (sB (sS (sim_drw tfm rfl (xR 2 krf ?_))))))
   refine xG krf krf (aop_idx (e:=27) (S:=2) (enc:=GTf.cs) (l:=a0a) (k:=.i64) (n:=l1) (sv:=.p (.sl 2 (mTf a0a))) rfl krf krf krf krf krf) (fun x2=>?_)
   refine xR 3 krf ?_
   refine xG krf krf (aop_idx (e:=27) (S:=2) (enc:=GTf.cs) (l:=a1b) (k:=.i64) (n:=l1) (sv:=.p (.sl 2 (mTf a1b))) rfl krf krf krf krf krf) (fun x3=>?_)
   refine xR 1 krf ?_
   refine xC [] krf (g_ref32_Same_ok n x2 x3) krf krf (fun _=>by kernel_rfl) (fun r4=>?_)
   refine xR 1 krf (xs_endD krf (sN ⟨[0,1,5,26],[],[],[]⟩ ⟨[(0, .p (.sl 2 (mTf a0a))),(1, .p (.sl 2 (mTf a1b))),(5,I l1),(26,B (!r4))],[]⟩ krf (sC (!r4) krf ?_ ?_)))
   ·refine sR tfm ⟨[4],[],[],[]⟩ ⟨[(4,B false)],[]⟩ krf (sT (bq_r (sq_r (kq_r (bq_r (sq_r ?_))))))
    exact qR (.id) krf krf krf
   ·refine sK (bq_n (sN ⟨[0,1,5],[],[],[]⟩ ⟨[(0, .p (.sl 2 (mTf a0a))),(1, .p (.sl 2 (mTf a1b))),(5,I l1)],[]⟩ krf (sL tfm krf ?_)))
    exact kq_n (wi (l1+1)) ⟨[0,1,5],[],[],[]⟩ krf
  ·refine sim_exit (sq_x (kq_x (bq_hit (sN ⟨[],[],[],[]⟩ ⟨[],[]⟩ krf (sR tfm ⟨[4],[],[],[]⟩ ⟨[(4,B true)],[]⟩ krf (sT ?_))))))
   exact qR (.id) krf krf krf
def g_ref32_Valid_l4 (n:Nat) (a0t:GTf) (recl4:(Int × Int)→Option Bool) (l4_1:Int) (l4_2:Int):Option Bool :=
 cond (ltI l4_2 (lenI (List.map GAr.cs a0t.Articles)))
  ((getI a0t.Articles l4_2).bind fun x5 =>
  (g_ref32_Article n x5).bind fun r6 =>
  cond (!r6)
   (some false)
   ((getI a0t.Articles l4_2).bind fun x7 =>
   cond (eqI x7.Kind 6)
    (recl4 (wi (l4_1+1),wi (l4_2+1)))
    (recl4 (l4_1,wi (l4_2+1)))))
  (some (leI l4_1 1))
def g_ref32_Valid (n:Nat) (a0t:GTf):Option Bool :=
 ((g_ref02_Name n a0t.Name).bind fun r2 =>
 cond (!r2)
  (some true)
  (some (ltI 12 (lenI (List.map GAr.cs a0t.Articles))))).bind fun j1 =>
 cond j1
  (some false)
  (loopN (fun recl4 (l4_1,l4_2)=>g_ref32_Valid_l4 n a0t recl4 l4_1 l4_2) n (0,0))
theorem g_ref32_Valid_ok (n:Nat) (a0t:GTf):∀ r,g_ref32_Valid n a0t=some r→PCall Tryz.prog 16 [ag (GTf.cs a0t)] (.ret (B r)):=by
 refine pcall_sim (X:=fun r:Bool=>AEnd.ret (B r)) Tryz.func16 rfl Tryz.ntmps16 rfl ?_
 unfold g_ref32_Valid
 refine sR tfm ⟨[1],[1],[],[]⟩ ⟨[(1, .ptr 1 0)],[(1, .box 27 (bxc (GTf.cs a0t)))]⟩ krf (sS (sim_bind (fun j1=>⟨[(1, .ptr 1 0),(14,B j1)],[(1, .box 27 (bxc (GTf.cs a0t)))]⟩:Bool→St) ?_ ?_))
 ·refine sG (xR 2 krf ?_)
  refine xC [] krf (g_ref02_Name_ok n a0t.Name) krf krf (fun _=>by kernel_rfl) (fun r2=>?_)
  refine xR 2 krf ?_
  refine xS (!r2) (fun h3=>?_) (fun h3=>?_)
  ·refine xN (want_ft krf h3) krf (xR 4 krf (xE ?_))
   exact nq_n true ⟨[1,14],[1],[],[]⟩ krf
  ·refine xO (want_ff krf h3) krf (xR 4 krf (xE ?_))
   exact nq_n (ltI 12 (lenI (mAr a0t.Articles))) ⟨[1,14],[1],[],[]⟩ krf
 ·rintro j1
  refine sC j1 krf ?_ ?_
  ·refine sR tfm ⟨[2],[],[],[]⟩ ⟨[(2,B false)],[]⟩ krf (sT (sq_r ?_))
   exact qR (.id) krf krf krf
  ·refine sK (sN ⟨[1],[1],[],[]⟩ ⟨[(1, .ptr 1 0)],[(1, .box 27 (bxc (GTf.cs a0t)))]⟩ krf (sR tfm ⟨[1,3],[1],[],[]⟩ ⟨[(1, .ptr 1 0),(3,I 0)],[(1, .box 27 (bxc (GTf.cs a0t)))]⟩ krf (sS (sR tfm ⟨[1,3,4],[1],[],[]⟩ ⟨[(1, .ptr 1 0),(3,I 0),(4,I 0)],[(1, .box 27 (bxc (GTf.cs a0t)))]⟩ krf (sB (sim_loop (fun (l4_1,l4_2)=>⟨[(1, .ptr 1 0),(3,I l4_1),(4,I l4_2)],[(1, .box 27 (bxc (GTf.cs a0t)))]⟩:(Int × Int)→St) (weak_shr (K:=⟨[1,3,4],[1],[],[]⟩) krf) ?_))))))
   rintro recl4 ⟨l4_1,l4_2⟩
   show SimE (g_ref32_Valid_l4 n a0t recl4 l4_1 l4_2) _ _ _ _ _ _
   unfold g_ref32_Valid_l4
   refine sS (sR tfm ⟨[1,3,4,19],[1],[],[]⟩ ⟨[(1, .ptr 1 0),(3,I l4_1),(4,I l4_2),(19,B (ltI l4_2 (lenI (mAr a0t.Articles))))],[(1, .box 27 (bxc (GTf.cs a0t)))]⟩ krf (sC (ltI l4_2 (lenI (mAr a0t.Articles))) krf ?_ ?_))
   ·refine sK (sN ⟨[1,3,4],[1],[],[]⟩ ⟨[(1, .ptr 1 0),(3,I l4_1),(4,I l4_2)],[(1, .box 27 (bxc (GTf.cs a0t)))]⟩ krf (sS (sB (sS (sS (sG (xR 3 krf ?_)))))))
    refine xG krf krf (aop_idx (e:=29) (S:=7) (enc:=GAr.cs) (l:=a0t.Articles) (k:=.i64) (n:=l4_2) (sv:=.p (.sl 7 (mAr a0t.Articles))) rfl krf krf krf krf krf) (fun x5=>?_)
    refine xR 1 krf ?_
    refine xC [] krf (g_ref32_Article_ok n x5) krf krf (fun _=>by kernel_rfl) (fun r6=>?_)
    refine xR 1 krf (xE (sN ⟨[1,3,4,28],[1],[],[]⟩ ⟨[(1, .ptr 1 0),(3,I l4_1),(4,I l4_2),(28,B (!r6))],[(1, .box 27 (bxc (GTf.cs a0t)))]⟩ krf (sC (!r6) krf ?_ ?_)))
    ·refine sR tfm ⟨[2],[],[],[]⟩ ⟨[(2,B false)],[]⟩ krf (sT (sq_r (bq_r (sq_r (kq_r (bq_r (sq_r ?_)))))))
     exact qR (.id) krf krf krf
    ·refine sK (sN ⟨[1,3,4],[1],[],[]⟩ ⟨[(1, .ptr 1 0),(3,I l4_1),(4,I l4_2)],[(1, .box 27 (bxc (GTf.cs a0t)))]⟩ krf (sS (sG (xR 3 krf ?_))))
     refine xG krf krf (aop_idx (e:=29) (S:=7) (enc:=GAr.cs) (l:=a0t.Articles) (k:=.i64) (n:=l4_2) (sv:=.p (.sl 7 (mAr a0t.Articles))) rfl krf krf krf krf krf) (fun x7=>?_)
     refine xR 3 krf (xE (sN ⟨[1,3,4,35],[1],[],[]⟩ ⟨[(1, .ptr 1 0),(3,I l4_1),(4,I l4_2),(35,B (eqI x7.Kind 6))],[(1, .box 27 (bxc (GTf.cs a0t)))]⟩ krf (sC (eqI x7.Kind 6) krf ?_ ?_)))
     ·refine sL tfm krf (bq_n (sN ⟨[1,3,4],[1],[],[]⟩ ⟨[(1, .ptr 1 0),(3,I (wi (l4_1+1))),(4,I l4_2)],[(1, .box 27 (bxc (GTf.cs a0t)))]⟩ krf (sL tfm krf ?_)))
      exact kq_n (wi (l4_1+1),wi (l4_2+1)) ⟨[1,3,4],[1],[],[]⟩ krf
     ·refine sK (bq_n (sN ⟨[1,3,4],[1],[],[]⟩ ⟨[(1, .ptr 1 0),(3,I l4_1),(4,I l4_2)],[(1, .box 27 (bxc (GTf.cs a0t)))]⟩ krf (sL tfm krf ?_)))
      exact kq_n (l4_1,wi (l4_2+1)) ⟨[1,3,4],[1],[],[]⟩ krf
   ·refine sim_exit (sq_x (kq_x (bq_hit (sN ⟨[3],[],[],[]⟩ ⟨[(3,I l4_1)],[]⟩ krf (sR tfm ⟨[2],[],[],[]⟩ ⟨[(2,B (leI l4_1 1))],[]⟩ krf (sT ?_))))))
    exact qR (.id) krf krf krf
def g_ref26_offset (n:Nat) (a0n:Int):Option Bool :=
 cond (leI (-1440) a0n)
  (some (leI a0n 1440))
  (some false)
theorem g_ref26_offset_ok (n:Nat) (a0n:Int):∀ r,g_ref26_offset n a0n=some r→PCall Tryz.prog 78 [I a0n] (.ret (B r)):=by
 refine pcall_sim (X:=fun r:Bool=>AEnd.ret (B r)) Tryz.func78 rfl Tryz.ntmps78 rfl ?_
 unfold g_ref26_offset
 refine sR tfm ⟨[0],[],[],[]⟩ ⟨[(0,I a0n)],[]⟩ krf (sS (sG (xR 3 krf ?_)))
 refine xS (leI (-1440) a0n) (fun h1=>?_) (fun h1=>?_)
 ·refine xO (want_tt krf h1) krf (xR 3 krf (xE (sN ⟨[2],[],[],[]⟩ ⟨[(2,B (leI a0n 1440))],[]⟩ krf (sT ?_))))
  exact qR (.id) krf krf krf
 ·refine xN (want_tf krf h1) krf (xR 3 krf (xE (sN ⟨[2],[],[],[]⟩ ⟨[(2,B false)],[]⟩ krf (sT ?_))))
  exact qR (.id) krf krf krf
def g_ref26_Valid_l6 (a0c:GCl) (recl6:Int→Option Bool) (l6:Int):Option Bool :=
 cond (ltI l6 (lenI (List.map ci a0c.Holidays)))
  ((getI a0c.Holidays l6).bind fun x7 =>
  (cond (ltI x7 0)
   (some true)
   (cond (ltI 36500 x7)
    (some true)
    (cond (ltI 0 l6)
     ((getI a0c.Holidays (wi (l6 - 1))).bind fun x12 =>
     some (leI x7 x12))
     (some false)))).bind fun j8 =>
  cond j8
   (some false)
   (recl6 (wi (l6+1))))
  (some true)
def g_ref26_Valid_j5 (n:Nat) (a0c:GCl):Option Bool :=
 loopN (fun recl6 l6=>g_ref26_Valid_l6 a0c recl6 l6) n 0
def g_ref26_Valid_l13 (n:Nat) (a0c:GCl) (recl13:Int→Option Bool) (l13:Int):Option Bool :=
 cond (ltI l13 (lenI (List.map GCh.cs a0c.Changes)))
  ((getI a0c.Changes l13).bind fun x14 =>
  ((g_ref26_offset n x14.Offset).bind fun r16 =>
  cond (!r16)
   (some true)
   (cond (ltI x14.At 0)
    (some true)
    (cond (ltI 52560000 x14.At)
     (some true)
     (cond (ltI 0 l13)
      ((getI a0c.Changes (wi (l13 - 1))).bind fun x21 =>
      some (leI x14.At x21.At))
      (some false))))).bind fun j15 =>
  cond j15
   (some false)
   (recl13 (wi (l13+1))))
  (g_ref26_Valid_j5 n a0c)
def g_ref26_Valid (n:Nat) (a0c:GCl):Option Bool :=
 ((g_ref26_offset n a0c.Offset).bind fun r2 =>
 cond (!r2)
  (some true)
  (cond (ltI 16 (lenI (List.map GCh.cs a0c.Changes)))
   (some true)
   (some (ltI 32 (lenI (List.map ci a0c.Holidays)))))).bind fun j1 =>
 cond j1
  (some false)
  (loopN (fun recl13 l13=>g_ref26_Valid_l13 n a0c recl13 l13) n 0)
theorem g_ref26_Valid_ok (n:Nat) (a0c:GCl):∀ r,g_ref26_Valid n a0c=some r→PCall Tryz.prog 60 [ag (GCl.cs a0c)] (.ret (B r)):=by
 refine pcall_sim (X:=fun r:Bool=>AEnd.ret (B r)) Tryz.func60 rfl Tryz.ntmps60 rfl ?_
 unfold g_ref26_Valid
 refine sR tfm ⟨[1],[1],[],[]⟩ ⟨[(1, .ptr 1 0)],[(1, .box 33 (bxc (GCl.cs a0c)))]⟩ krf (sS (sim_bind (fun j1=>⟨[(1, .ptr 1 0),(22,B j1)],[(1, .box 33 (bxc (GCl.cs a0c)))]⟩:Bool→St) ?_ ?_))
 ·refine sG (xR 2 krf ?_)
  refine xC [] krf (g_ref26_offset_ok n a0c.Offset) krf krf (fun _=>by kernel_rfl) (fun r2=>?_)
  refine xR 2 krf ?_
  refine xS (!r2) (fun h3=>?_) (fun h3=>?_)
  ·refine xN (want_ft krf h3) krf (xR 10 krf (xE ?_))
   exact nq_n true ⟨[1,22],[1],[],[]⟩ krf
  ·refine xO (want_ff krf h3) krf (xR 5 krf ?_)
   refine xS (ltI 16 (lenI (mCh a0c.Changes))) (fun h4=>?_) (fun h4=>?_)
   ·refine xN (want_ft krf h4) krf (xR 4 krf (xE ?_))
    exact nq_n true ⟨[1,22],[1],[],[]⟩ krf
   ·refine xO (want_ff krf h4) krf (xR 4 krf (xE ?_))
    exact nq_n (ltI 32 (lenI (List.map ci a0c.Holidays))) ⟨[1,22],[1],[],[]⟩ krf
 ·rintro j1
  refine sC j1 krf ?_ ?_
  ·refine sR tfm ⟨[2],[],[],[]⟩ ⟨[(2,B false)],[]⟩ krf (sT (sq_r ?_))
   exact qR (.id) krf krf krf
  ·refine sK (sN ⟨[1],[1],[],[]⟩ ⟨[(1, .ptr 1 0)],[(1, .box 33 (bxc (GCl.cs a0c)))]⟩ krf (sim_cps (fun _=>⟨[(1, .ptr 1 0)],[(1, .box 33 (bxc (GCl.cs a0c)))]⟩:Unit→St) (fun _=>g_ref26_Valid_j5 n a0c) ?_ ?_))
   ·rintro _
    show SimE (g_ref26_Valid_j5 n a0c) _ _ _ _ _ _
    unfold g_ref26_Valid_j5
    refine sS (sR tfm ⟨[1,5],[1],[],[]⟩ ⟨[(1, .ptr 1 0),(5,I 0)],[(1, .box 33 (bxc (GCl.cs a0c)))]⟩ krf (sB (sim_loop (fun l6=>⟨[(1, .ptr 1 0),(5,I l6)],[(1, .box 33 (bxc (GCl.cs a0c)))]⟩:Int→St) (weak_shr (K:=⟨[1,5],[1],[],[]⟩) krf) ?_)))
    rintro recl6 l6
    show SimE (g_ref26_Valid_l6 a0c recl6 l6) _ _ _ _ _ _
    unfold g_ref26_Valid_l6
    refine sS (sR tfm ⟨[1,5,69],[1],[],[]⟩ ⟨[(1, .ptr 1 0),(5,I l6),(69,B (ltI l6 (lenI (List.map ci a0c.Holidays))))],[(1, .box 33 (bxc (GCl.cs a0c)))]⟩ krf (sC (ltI l6 (lenI (List.map ci a0c.Holidays))) krf ?_ ?_))
    ·refine sK (sN ⟨[1,5],[1],[],[]⟩ ⟨[(1, .ptr 1 0),(5,I l6)],[(1, .box 33 (bxc (GCl.cs a0c)))]⟩ krf (sS (sB (sS (sG (xR 3 krf ?_))))))
     refine xG krf krf (aop_idx (e:=3) (S:=1) (enc:=ci) (l:=a0c.Holidays) (k:=.i64) (n:=l6) (sv:=.p (.sl 1 (List.map ci a0c.Holidays))) rfl krf krf krf krf krf) (fun x7=>?_)
     refine xR 2 krf (xE (sN ⟨[1,5,6],[1],[],[]⟩ ⟨[(1, .ptr 1 0),(5,I l6),(6,I x7)],[(1, .box 33 (bxc (GCl.cs a0c)))]⟩ krf (sim_bind (fun j8=>⟨[(1, .ptr 1 0),(5,I l6),(96,B j8)],[(1, .box 33 (bxc (GCl.cs a0c)))]⟩:Bool→St) ?_ ?_)))
     ·refine sG (xR 3 krf ?_)
      refine xS (ltI x7 0) (fun h9=>?_) (fun h9=>?_)
      ·refine xN (want_ft krf h9) krf (xR 16 krf (xE ?_))
       exact nq_n true ⟨[1,5,96],[1],[],[]⟩ krf
      ·refine xO (want_ff krf h9) krf (xR 3 krf ?_)
       refine xS (ltI 36500 x7) (fun h10=>?_) (fun h10=>?_)
       ·refine xN (want_ft krf h10) krf (xR 12 krf (xE ?_))
        exact nq_n true ⟨[1,5,96],[1],[],[]⟩ krf
       ·refine xO (want_ff krf h10) krf (xR 2 krf ?_)
        refine xS (ltI 0 l6) (fun h11=>?_) (fun h11=>?_)
        ·refine xO (want_tt krf h11) krf (xR 4 krf ?_)
         refine xG krf krf (aop_idx (e:=3) (S:=1) (enc:=ci) (l:=a0c.Holidays) (k:=.i64) (n:=wi (l6 - 1)) (sv:=.p (.sl 1 (List.map ci a0c.Holidays))) rfl krf krf krf krf krf) (fun x12=>?_)
         refine xR 4 krf (xE ?_)
         exact nq_n (leI x7 x12) ⟨[1,5,96],[1],[],[]⟩ krf
        ·refine xN (want_tf krf h11) krf (xR 9 krf (xE ?_))
         exact nq_n false ⟨[1,5,96],[1],[],[]⟩ krf
     ·rintro j8
      refine sC j8 krf ?_ ?_
      ·refine sR tfm ⟨[2],[],[],[]⟩ ⟨[(2,B false)],[]⟩ krf (sT (bq_r (sq_r (kq_r (bq_r (sq_r ?_))))))
       exact qR (.id) krf krf krf
      ·refine sK (bq_n (sN ⟨[1,5],[1],[],[]⟩ ⟨[(1, .ptr 1 0),(5,I l6)],[(1, .box 33 (bxc (GCl.cs a0c)))]⟩ krf (sL tfm krf ?_)))
       exact kq_n (wi (l6+1)) ⟨[1,5],[1],[],[]⟩ krf
    ·refine sim_exit (sq_x (kq_x (bq_hit (sN ⟨[],[],[],[]⟩ ⟨[],[]⟩ krf (sR tfm ⟨[2],[],[],[]⟩ ⟨[(2,B true)],[]⟩ krf (sT ?_))))))
     exact qR (.id) krf krf krf
   ·refine sR tfm ⟨[1,3],[1],[],[]⟩ ⟨[(1, .ptr 1 0),(3,I 0)],[(1, .box 33 (bxc (GCl.cs a0c)))]⟩ krf (sB (sim_loop (fun l13=>⟨[(1, .ptr 1 0),(3,I l13)],[(1, .box 33 (bxc (GCl.cs a0c)))]⟩:Int→St) (weak_shr (K:=⟨[1,3],[1],[],[]⟩) krf) ?_))
    rintro recl13 l13
    show SimE (g_ref26_Valid_l13 n a0c recl13 l13) _ _ _ _ _ _
    unfold g_ref26_Valid_l13
    refine sS (sR tfm ⟨[1,3,27],[1],[],[]⟩ ⟨[(1, .ptr 1 0),(3,I l13),(27,B (ltI l13 (lenI (mCh a0c.Changes))))],[(1, .box 33 (bxc (GCl.cs a0c)))]⟩ krf (sC (ltI l13 (lenI (mCh a0c.Changes))) krf ?_ ?_))
    ·refine sK (sN ⟨[1,3],[1],[],[]⟩ ⟨[(1, .ptr 1 0),(3,I l13)],[(1, .box 33 (bxc (GCl.cs a0c)))]⟩ krf (sS (sB (sS (sG (xR 3 krf ?_))))))
     refine xG krf krf (aop_idx (e:=89) (S:=2) (enc:=GCh.cs) (l:=a0c.Changes) (k:=.i64) (n:=l13) (sv:=.p (.sl 2 (mCh a0c.Changes))) rfl krf krf krf krf krf) (fun x14=>?_)
     refine xR 3 krf (xE (sN ⟨[1,3,4],[1,4],[],[]⟩ ⟨[(1, .ptr 1 0),(3,I l13),(4, .ptr 4 0)],[(1, .box 33 (bxc (GCl.cs a0c))),(4, .box 89 (bxc (GCh.cs x14)))]⟩ krf (sim_bind (fun j15=>⟨[(1, .ptr 1 0),(3,I l13),(64,B j15)],[(1, .box 33 (bxc (GCl.cs a0c)))]⟩:Bool→St) ?_ ?_)))
     ·refine sim_drw tfm rfl (xR 2 krf ?_)
      refine xC [] krf (g_ref26_offset_ok n x14.Offset) krf krf (fun _=>by kernel_rfl) (fun r16=>?_)
      refine xR 2 krf ?_
      refine xS (!r16) (fun h17=>?_) (fun h17=>?_)
      ·refine xN (want_ft krf h17) krf (xR 24 krf (xs_endD krf ?_))
       exact nq_n true ⟨[1,3,64],[1],[],[]⟩ krf
      ·refine xO (want_ff krf h17) krf (xR 4 krf ?_)
       refine xS (ltI x14.At 0) (fun h18=>?_) (fun h18=>?_)
       ·refine xN (want_ft krf h18) krf (xR 19 krf (xs_endD krf ?_))
        exact nq_n true ⟨[1,3,64],[1],[],[]⟩ krf
       ·refine xO (want_ff krf h18) krf (xR 4 krf ?_)
        refine xS (ltI 52560000 x14.At) (fun h19=>?_) (fun h19=>?_)
        ·refine xN (want_ft krf h19) krf (xR 14 krf (xs_endD krf ?_))
         exact nq_n true ⟨[1,3,64],[1],[],[]⟩ krf
        ·refine xO (want_ff krf h19) krf (xR 2 krf ?_)
         refine xS (ltI 0 l13) (fun h20=>?_) (fun h20=>?_)
         ·refine xO (want_tt krf h20) krf (xR 5 krf ?_)
          refine xG krf krf (aop_idx (e:=89) (S:=2) (enc:=GCh.cs) (l:=a0c.Changes) (k:=.i64) (n:=wi (l13 - 1)) (sv:=.p (.sl 2 (mCh a0c.Changes))) rfl krf krf krf krf krf) (fun x21=>?_)
          refine xR 5 krf (xs_endD krf ?_)
          exact nq_n (leI x14.At x21.At) ⟨[1,3,64],[1],[],[]⟩ krf
         ·refine xN (want_tf krf h20) krf (xR 11 krf (xs_endD krf ?_))
          exact nq_n false ⟨[1,3,64],[1],[],[]⟩ krf
     ·rintro j15
      refine sC j15 krf ?_ ?_
      ·refine sR tfm ⟨[2],[],[],[]⟩ ⟨[(2,B false)],[]⟩ krf (sT (bq_r (sq_r (kq_r (bq_r (kq_r ?_))))))
       exact qR (.id) krf krf krf
      ·refine sK (bq_n (sN ⟨[1,3],[1],[],[]⟩ ⟨[(1, .ptr 1 0),(3,I l13)],[(1, .box 33 (bxc (GCl.cs a0c)))]⟩ krf (sL tfm krf ?_)))
       exact kq_n (wi (l13+1)) ⟨[1,3],[1],[],[]⟩ krf
    ·refine sim_exit (sq_x (kq_x (bq_hit ?_)))
     exact kq_n (k:=fun _=>g_ref26_Valid_j5 n a0c) () ⟨[1],[1],[],[]⟩ krf
def g_ref26_Offset_l1 (a0c:GCl) (a1minute:Int) (recl1:(Int × Int)→Option Int) (l1_1:Int) (l1_2:Int):Option Int :=
 cond (ltI l1_2 (lenI (List.map GCh.cs a0c.Changes)))
  ((getI a0c.Changes l1_2).bind fun x2 =>
  cond (leI x2.At a1minute)
   ((getI a0c.Changes l1_2).bind fun x3 =>
   recl1 (x3.Offset,wi (l1_2+1)))
   (recl1 (l1_1,wi (l1_2+1))))
  (some l1_1)
def g_ref26_Offset (n:Nat) (a0c:GCl) (a1minute:Int):Option Int :=
 loopN (fun recl1 (l1_1,l1_2)=>g_ref26_Offset_l1 a0c a1minute recl1 l1_1 l1_2) n (a0c.Offset,0)
theorem g_ref26_Offset_ok (n:Nat) (a0c:GCl) (a1minute:Int):∀ r,g_ref26_Offset n a0c a1minute=some r→PCall Tryz.prog 61 [ag (GCl.cs a0c),I a1minute] (.ret (I r)):=by
 refine pcall_sim (X:=fun r:Int=>AEnd.ret (I r)) Tryz.func61 rfl Tryz.ntmps61 rfl ?_
 unfold g_ref26_Offset
 refine sR tfm ⟨[1,2],[2],[],[]⟩ ⟨[(1,I a1minute),(2, .ptr 2 0)],[(2, .box 33 (bxc (GCl.cs a0c)))]⟩ krf (sR tfm ⟨[1,2,5],[2],[],[]⟩ ⟨[(1,I a1minute),(2, .ptr 2 0),(5,I a0c.Offset)],[(2, .box 33 (bxc (GCl.cs a0c)))]⟩ krf (sS (sR tfm ⟨[1,2,5,6],[2],[],[]⟩ ⟨[(1,I a1minute),(2, .ptr 2 0),(5,I a0c.Offset),(6,I 0)],[(2, .box 33 (bxc (GCl.cs a0c)))]⟩ krf (sB (sim_loop (fun (l1_1,l1_2)=>⟨[(1,I a1minute),(2, .ptr 2 0),(5,I l1_1),(6,I l1_2)],[(2, .box 33 (bxc (GCl.cs a0c)))]⟩:(Int × Int)→St) (weak_shr (K:=⟨[1,2,5,6],[2],[],[]⟩) krf) ?_)))))
 rintro recl1 ⟨l1_1,l1_2⟩
 show SimE (g_ref26_Offset_l1 a0c a1minute recl1 l1_1 l1_2) _ _ _ _ _ _
 unfold g_ref26_Offset_l1
 refine sS (sR tfm ⟨[1,2,5,6,13],[2],[],[]⟩ ⟨[(1,I a1minute),(2, .ptr 2 0),(5,I l1_1),(6,I l1_2),(13,B (ltI l1_2 (lenI (mCh a0c.Changes))))],[(2, .box 33 (bxc (GCl.cs a0c)))]⟩ krf (sC (ltI l1_2 (lenI (mCh a0c.Changes))) krf ?_ ?_))
 ·refine sK (sN ⟨[1,2,5,6],[2],[],[]⟩ ⟨[(1,I a1minute),(2, .ptr 2 0),(5,I l1_1),(6,I l1_2)],[(2, .box 33 (bxc (GCl.cs a0c)))]⟩ krf (sS (sB (sS (sG (xR 3 krf ?_))))))
  refine xG krf krf (aop_idx (e:=89) (S:=2) (enc:=GCh.cs) (l:=a0c.Changes) (k:=.i64) (n:=l1_2) (sv:=.p (.sl 2 (mCh a0c.Changes))) rfl krf krf krf krf krf) (fun x2=>?_)
  refine xR 4 krf (xE (sN ⟨[1,2,5,6,23],[2],[],[]⟩ ⟨[(1,I a1minute),(2, .ptr 2 0),(5,I l1_1),(6,I l1_2),(23,B (leI x2.At a1minute))],[(2, .box 33 (bxc (GCl.cs a0c)))]⟩ krf (sC (leI x2.At a1minute) krf ?_ ?_)))
  ·refine sG (xR 3 krf ?_)
   refine xG krf krf (aop_idx (e:=89) (S:=2) (enc:=GCh.cs) (l:=a0c.Changes) (k:=.i64) (n:=l1_2) (sv:=.p (.sl 2 (mCh a0c.Changes))) rfl krf krf krf krf krf) (fun x3=>?_)
   refine xR 3 krf (xE (bq_n (sN ⟨[1,2,5,6],[2],[],[]⟩ ⟨[(1,I a1minute),(2, .ptr 2 0),(5,I x3.Offset),(6,I l1_2)],[(2, .box 33 (bxc (GCl.cs a0c)))]⟩ krf (sL tfm krf ?_))))
   exact kq_n (x3.Offset,wi (l1_2+1)) ⟨[1,2,5,6],[2],[],[]⟩ krf
  ·refine sK (bq_n (sN ⟨[1,2,5,6],[2],[],[]⟩ ⟨[(1,I a1minute),(2, .ptr 2 0),(5,I l1_1),(6,I l1_2)],[(2, .box 33 (bxc (GCl.cs a0c)))]⟩ krf (sL tfm krf ?_)))
   exact kq_n (l1_1,wi (l1_2+1)) ⟨[1,2,5,6],[2],[],[]⟩ krf
 ·refine sim_exit (sq_x (kq_x (bq_hit (sN ⟨[5],[],[],[]⟩ ⟨[(5,I l1_1)],[]⟩ krf (sR tfm ⟨[4],[],[],[]⟩ ⟨[(4,I l1_1)],[]⟩ krf (sT ?_))))))
  exact qR (.id) krf krf krf
def g_ref26_Local (n:Nat) (a0c:GCl) (a1minute:Int):Option (Int × Int × Int) :=
 ((g_ref26_Valid n a0c).bind fun r2 =>
 cond (!r2)
  (some true)
  (cond (ltI a1minute 0)
   (some true)
   (some (ltI 52560000 a1minute)))).bind fun j1 =>
 cond j1
  (some (0,0,1))
  ((g_ref26_Offset n a0c a1minute).bind fun r5 =>
  cond (ltI (wi (a1minute+r5)) 0)
   (some ((-1),wi ((wi (a1minute+r5)) - (-1440)),0))
   (some (wi (Int.tdiv (wi (a1minute+r5)) 1440),wi ((wi (a1minute+r5)) - (wi (1440 * (wi (Int.tdiv (wi (a1minute+r5)) 1440))))),0)))
theorem g_ref26_Local_ok (n:Nat) (a0c:GCl) (a1minute:Int):∀ r,g_ref26_Local n a0c a1minute=some r→PCall Tryz.prog 38 [ag (GCl.cs a0c),I a1minute] (.ret (.tup [I r.1,I r.2.1,I r.2.2])):=by
 refine pcall_sim (X:=fun r:Int × Int × Int=>AEnd.ret (.tup [I r.1,I r.2.1,I r.2.2])) Tryz.func38 rfl Tryz.ntmps38 rfl ?_
 unfold g_ref26_Local
 refine sR tfm ⟨[1,2],[2],[],[]⟩ ⟨[(1,I a1minute),(2, .ptr 2 0)],[(2, .box 33 (bxc (GCl.cs a0c)))]⟩ krf (sS (sim_bind (fun j1=>⟨[(1,I a1minute),(2, .ptr 2 0),(19,B j1)],[(2, .box 33 (bxc (GCl.cs a0c)))]⟩:Bool→St) ?_ ?_))
 ·refine sG (xR 1 krf ?_)
  refine xC [] krf (g_ref26_Valid_ok n a0c) krf krf (fun _=>by kernel_rfl) (fun r2=>?_)
  refine xR 2 krf ?_
  refine xS (!r2) (fun h3=>?_) (fun h3=>?_)
  ·refine xN (want_ft krf h3) krf (xR 6 krf (xE ?_))
   exact nq_n true ⟨[1,2,19],[2],[],[]⟩ krf
  ·refine xO (want_ff krf h3) krf (xR 3 krf ?_)
   refine xS (ltI a1minute 0) (fun h4=>?_) (fun h4=>?_)
   ·refine xN (want_ft krf h4) krf (xR 2 krf (xE ?_))
    exact nq_n true ⟨[1,2,19],[2],[],[]⟩ krf
   ·refine xO (want_ff krf h4) krf (xR 2 krf (xE ?_))
    exact nq_n (ltI 52560000 a1minute) ⟨[1,2,19],[2],[],[]⟩ krf
 ·rintro j1
  refine sC j1 krf ?_ ?_
  ·refine sR tfm ⟨[4,5,6],[],[],[]⟩ ⟨[(4,I 0),(5,I 0),(6,I 1)],[]⟩ krf (sT (sq_r ?_))
   exact qR (.id) krf krf krf
  ·refine sK (sN ⟨[1,2],[2],[],[]⟩ ⟨[(1,I a1minute),(2, .ptr 2 0)],[(2, .box 33 (bxc (GCl.cs a0c)))]⟩ krf (sS (sG (xR 3 krf ?_))))
   refine xC [] krf (g_ref26_Offset_ok n a0c a1minute) krf krf (fun _=>by kernel_rfl) (fun r5=>?_)
   refine xR 2 krf (xE (sN ⟨[7],[],[],[]⟩ ⟨[(7,I (wi (a1minute+r5)))],[]⟩ krf (sR tfm ⟨[7],[],[],[]⟩ ⟨[(7,I (wi (a1minute+r5)))],[]⟩ krf (sS (sR tfm ⟨[7,26],[],[],[]⟩ ⟨[(7,I (wi (a1minute+r5))),(26,B (ltI (wi (a1minute+r5)) 0))],[]⟩ krf (sC (ltI (wi (a1minute+r5)) 0) krf ?_ ?_))))))
   ·refine sL tfm krf (sN ⟨[7,8],[],[],[]⟩ ⟨[(7,I (wi (a1minute+r5))),(8,I (-1))],[]⟩ krf (sR tfm ⟨[4,5,6],[],[],[]⟩ ⟨[(4,I (-1)),(5,I (wi ((wi (a1minute+r5)) - (-1440)))),(6,I 0)],[]⟩ krf (sT ?_)))
    exact qR (.id) krf krf krf
   ·refine sL tfm krf (sN ⟨[7,8],[],[],[]⟩ ⟨[(7,I (wi (a1minute+r5))),(8,I (wi (Int.tdiv (wi (a1minute+r5)) 1440)))],[]⟩ krf (sR tfm ⟨[4,5,6],[],[],[]⟩ ⟨[(4,I (wi (Int.tdiv (wi (a1minute+r5)) 1440))),(5,I (wi ((wi (a1minute+r5)) - (wi (1440 * (wi (Int.tdiv (wi (a1minute+r5)) 1440))))))),(6,I 0)],[]⟩ krf (sT ?_)))
    exact qR (.id) krf krf krf
def g_ref26_Type_j5 (a1day:Int):Option (Int × Int) :=
 cond (eqI (Int.tmod (wi (a1day+7)) 7) 6)
  (some (2,0))
  (cond (eqI (Int.tmod (wi (a1day+7)) 7) 5)
   (some (1,0))
   (some (0,0)))
def g_ref26_Type_l6 (a0c:GCl) (a1day:Int) (recl6:Int→Option (Int × Int)) (l6:Int):Option (Int × Int) :=
 cond (ltI l6 (lenI (List.map ci a0c.Holidays)))
  ((getI a0c.Holidays l6).bind fun x7 =>
  cond (eqI x7 a1day)
   (some (2,0))
   (recl6 (wi (l6+1))))
  (g_ref26_Type_j5 a1day)
def g_ref26_Type (n:Nat) (a0c:GCl) (a1day:Int):Option (Int × Int) :=
 ((g_ref26_Valid n a0c).bind fun r2 =>
 cond (!r2)
  (some true)
  (cond (ltI a1day (-1))
   (some true)
   (some (ltI 36501 a1day)))).bind fun j1 =>
 cond j1
  (some (0,1))
  (loopN (fun recl6 l6=>g_ref26_Type_l6 a0c a1day recl6 l6) n 0)
theorem g_ref26_Type_ok (n:Nat) (a0c:GCl) (a1day:Int):∀ r,g_ref26_Type n a0c a1day=some r→PCall Tryz.prog 39 [ag (GCl.cs a0c),I a1day] (.ret (.tup [I r.1,I r.2])):=by
 refine pcall_sim (X:=fun r:Int × Int=>AEnd.ret (.tup [I r.1,I r.2])) Tryz.func39 rfl Tryz.ntmps39 rfl ?_
 unfold g_ref26_Type
 refine sR tfm ⟨[1,2],[2],[],[]⟩ ⟨[(1,I a1day),(2, .ptr 2 0)],[(2, .box 33 (bxc (GCl.cs a0c)))]⟩ krf (sS (sim_bind (fun j1=>⟨[(1,I a1day),(2, .ptr 2 0),(18,B j1)],[(2, .box 33 (bxc (GCl.cs a0c)))]⟩:Bool→St) ?_ ?_))
 ·refine sG (xR 1 krf ?_)
  refine xC [] krf (g_ref26_Valid_ok n a0c) krf krf (fun _=>by kernel_rfl) (fun r2=>?_)
  refine xR 2 krf ?_
  refine xS (!r2) (fun h3=>?_) (fun h3=>?_)
  ·refine xN (want_ft krf h3) krf (xR 6 krf (xE ?_))
   exact nq_n true ⟨[1,2,18],[2],[],[]⟩ krf
  ·refine xO (want_ff krf h3) krf (xR 3 krf ?_)
   refine xS (ltI a1day (-1)) (fun h4=>?_) (fun h4=>?_)
   ·refine xN (want_ft krf h4) krf (xR 2 krf (xE ?_))
    exact nq_n true ⟨[1,2,18],[2],[],[]⟩ krf
   ·refine xO (want_ff krf h4) krf (xR 2 krf (xE ?_))
    exact nq_n (ltI 36501 a1day) ⟨[1,2,18],[2],[],[]⟩ krf
 ·rintro j1
  refine sC j1 krf ?_ ?_
  ·refine sR tfm ⟨[4,5],[],[],[]⟩ ⟨[(4,I 0),(5,I 1)],[]⟩ krf (sT (sq_r ?_))
   exact qR (.id) krf krf krf
  ·refine sK (sN ⟨[1,2],[2],[],[]⟩ ⟨[(1,I a1day),(2, .ptr 2 0)],[(2, .box 33 (bxc (GCl.cs a0c)))]⟩ krf (sim_cps (fun _=>⟨[(1,I a1day)],[]⟩:Unit→St) (fun _=>g_ref26_Type_j5 a1day) ?_ ?_))
   ·rintro _
    show SimE (g_ref26_Type_j5 a1day) _ _ _ _ _ _
    unfold g_ref26_Type_j5
    refine sR tfm ⟨[7],[],[],[]⟩ ⟨[(7,I (Int.tmod (wi (a1day+7)) 7))],[]⟩ krf (sS (sR tfm ⟨[7,37],[],[],[]⟩ ⟨[(7,I (Int.tmod (wi (a1day+7)) 7)),(37,B (eqI (Int.tmod (wi (a1day+7)) 7) 6))],[]⟩ krf (sC (eqI (Int.tmod (wi (a1day+7)) 7) 6) krf ?_ ?_)))
    ·refine sR tfm ⟨[4,5],[],[],[]⟩ ⟨[(4,I 2),(5,I 0)],[]⟩ krf (sT (sq_r ?_))
     exact qR (.id) krf krf krf
    ·refine sK (sN ⟨[7],[],[],[]⟩ ⟨[(7,I (Int.tmod (wi (a1day+7)) 7))],[]⟩ krf (sS (sR tfm ⟨[39],[],[],[]⟩ ⟨[(39,B (eqI (Int.tmod (wi (a1day+7)) 7) 5))],[]⟩ krf (sC (eqI (Int.tmod (wi (a1day+7)) 7) 5) krf ?_ ?_))))
     ·refine sR tfm ⟨[4,5],[],[],[]⟩ ⟨[(4,I 1),(5,I 0)],[]⟩ krf (sT (sq_r ?_))
      exact qR (.id) krf krf krf
     ·refine sK (sN ⟨[],[],[],[]⟩ ⟨[],[]⟩ krf (sR tfm ⟨[4,5],[],[],[]⟩ ⟨[(4,I 0),(5,I 0)],[]⟩ krf (sT ?_)))
      exact qR (.id) krf krf krf
   ·refine sR tfm ⟨[1,2,6],[2],[],[]⟩ ⟨[(1,I a1day),(2, .ptr 2 0),(6,I 0)],[(2, .box 33 (bxc (GCl.cs a0c)))]⟩ krf (sB (sim_loop (fun l6=>⟨[(1,I a1day),(2, .ptr 2 0),(6,I l6)],[(2, .box 33 (bxc (GCl.cs a0c)))]⟩:Int→St) (weak_shr (K:=⟨[1,2,6],[2],[],[]⟩) krf) ?_))
    rintro recl6 l6
    show SimE (g_ref26_Type_l6 a0c a1day recl6 l6) _ _ _ _ _ _
    unfold g_ref26_Type_l6
    refine sS (sR tfm ⟨[1,2,6,23],[2],[],[]⟩ ⟨[(1,I a1day),(2, .ptr 2 0),(6,I l6),(23,B (ltI l6 (lenI (List.map ci a0c.Holidays))))],[(2, .box 33 (bxc (GCl.cs a0c)))]⟩ krf (sC (ltI l6 (lenI (List.map ci a0c.Holidays))) krf ?_ ?_))
    ·refine sK (sN ⟨[1,2,6],[2],[],[]⟩ ⟨[(1,I a1day),(2, .ptr 2 0),(6,I l6)],[(2, .box 33 (bxc (GCl.cs a0c)))]⟩ krf (sS (sB (sS (sG (xR 3 krf ?_))))))
     refine xG krf krf (aop_idx (e:=3) (S:=1) (enc:=ci) (l:=a0c.Holidays) (k:=.i64) (n:=l6) (sv:=.p (.sl 1 (List.map ci a0c.Holidays))) rfl krf krf krf krf krf) (fun x7=>?_)
     refine xR 3 krf (xE (sN ⟨[1,2,6,32],[2],[],[]⟩ ⟨[(1,I a1day),(2, .ptr 2 0),(6,I l6),(32,B (eqI x7 a1day))],[(2, .box 33 (bxc (GCl.cs a0c)))]⟩ krf (sC (eqI x7 a1day) krf ?_ ?_)))
     ·refine sR tfm ⟨[4,5],[],[],[]⟩ ⟨[(4,I 2),(5,I 0)],[]⟩ krf (sT (bq_r (sq_r (kq_r (bq_r (kq_r ?_))))))
      exact qR (.id) krf krf krf
     ·refine sK (bq_n (sN ⟨[1,2,6],[2],[],[]⟩ ⟨[(1,I a1day),(2, .ptr 2 0),(6,I l6)],[(2, .box 33 (bxc (GCl.cs a0c)))]⟩ krf (sL tfm krf ?_)))
      exact kq_n (wi (l6+1)) ⟨[1,2,6],[2],[],[]⟩ krf
    ·refine sim_exit (sq_x (kq_x (bq_hit ?_)))
     exact kq_n (k:=fun _=>g_ref26_Type_j5 a1day) () ⟨[1],[],[],[]⟩ krf
def g_ref32_Applies (n:Nat) (a0a:GAr) (a1c:GCl) (a2minute:Int):Option Bool :=
 (g_ref32_Article n a0a).bind fun r1 =>
 cond (!r1)
  (some false)
  ((g_ref26_Local n a1c a2minute).bind fun r2 =>
  cond (!eqI r2.2.2 0)
   (some false)
   ((g_ref26_Type n a1c r2.1).bind fun r3 =>
   (cond (eqI r3.1 1)
    (some (eqI (Int.tmod (wi (Int.tdiv a0a.Days 2)) 2) 1))
    (some (eqI (Int.tmod a0a.Days 2) 1))).bind fun j4 =>
   (cond (eqI r3.1 2)
    (some (eqI (Int.tmod (wi (Int.tdiv a0a.Days 4)) 2) 1))
    (some j4)).bind fun j5 =>
   cond j5
    (cond (leI a0a.From r2.2.1)
     (some (ltI r2.2.1 a0a.To))
     (some false))
    (some false)))
theorem g_ref32_Applies_ok (n:Nat) (a0a:GAr) (a1c:GCl) (a2minute:Int):∀ r,g_ref32_Applies n a0a a1c a2minute=some r→PCall Tryz.prog 18 [ag (GAr.cs a0a),ag (GCl.cs a1c),I a2minute] (.ret (B r)):=by
 refine pcall_sim (X:=fun r:Bool=>AEnd.ret (B r)) Tryz.func18 rfl Tryz.ntmps18 rfl ?_
 unfold g_ref32_Applies
 refine sR tfm ⟨[2,3,4],[3,4],[],[]⟩ ⟨[(2,I a2minute),(3, .ptr 3 0),(4, .ptr 4 0)],[(3, .box 29 (bxc (GAr.cs a0a))),(4, .box 33 (bxc (GCl.cs a1c)))]⟩ krf (sS (sS (sG (xR 1 krf ?_))))
 refine xC [] krf (g_ref32_Article_ok n a0a) krf krf (fun _=>by kernel_rfl) (fun r1=>?_)
 refine xR 1 krf (xE (sN ⟨[2,3,4,15],[3,4],[],[]⟩ ⟨[(2,I a2minute),(3, .ptr 3 0),(4, .ptr 4 0),(15,B (!r1))],[(3, .box 29 (bxc (GAr.cs a0a))),(4, .box 33 (bxc (GCl.cs a1c)))]⟩ krf (sC (!r1) krf ?_ ?_)))
 ·refine sR tfm ⟨[6],[],[],[]⟩ ⟨[(6,B false)],[]⟩ krf (sT (sq_r ?_))
  exact qR (.id) krf krf krf
 ·refine sK (sN ⟨[2,3,4],[3,4],[],[]⟩ ⟨[(2,I a2minute),(3, .ptr 3 0),(4, .ptr 4 0)],[(3, .box 29 (bxc (GAr.cs a0a))),(4, .box 33 (bxc (GCl.cs a1c)))]⟩ krf (sS (sG (xR 2 krf ?_))))
  refine xC [] krf (g_ref26_Local_ok n a1c a2minute) krf krf (fun _=>by kernel_rfl) (fun r2=>?_)
  refine xR 7 krf (xE (sN ⟨[3,4,7,8,9],[3,4],[],[]⟩ ⟨[(3, .ptr 3 0),(4, .ptr 4 0),(7,I r2.1),(8,I r2.2.1),(9,I r2.2.2)],[(3, .box 29 (bxc (GAr.cs a0a))),(4, .box 33 (bxc (GCl.cs a1c)))]⟩ krf (sS (sR tfm ⟨[3,4,7,8,24],[3,4],[],[]⟩ ⟨[(3, .ptr 3 0),(4, .ptr 4 0),(7,I r2.1),(8,I r2.2.1),(24,B (!eqI r2.2.2 0))],[(3, .box 29 (bxc (GAr.cs a0a))),(4, .box 33 (bxc (GCl.cs a1c)))]⟩ krf (sC (!eqI r2.2.2 0) krf ?_ ?_)))))
  ·refine sR tfm ⟨[6],[],[],[]⟩ ⟨[(6,B false)],[]⟩ krf (sT (sq_r ?_))
   exact qR (.id) krf krf krf
  ·refine sK (sN ⟨[3,4,7,8],[3,4],[],[]⟩ ⟨[(3, .ptr 3 0),(4, .ptr 4 0),(7,I r2.1),(8,I r2.2.1)],[(3, .box 29 (bxc (GAr.cs a0a))),(4, .box 33 (bxc (GCl.cs a1c)))]⟩ krf (sS (sG (xR 2 krf ?_))))
   refine xC [] krf (g_ref26_Type_ok n a1c r2.1) krf krf (fun _=>by kernel_rfl) (fun r3=>?_)
   refine xR 5 krf (xE (sN ⟨[3,8,10],[3],[],[]⟩ ⟨[(3, .ptr 3 0),(8,I r2.2.1),(10,I r3.1)],[(3, .box 29 (bxc (GAr.cs a0a)))]⟩ krf (sR tfm ⟨[3,8,10,12],[3],[],[]⟩ ⟨[(3, .ptr 3 0),(8,I r2.2.1),(10,I r3.1),(12,B (eqI (Int.tmod a0a.Days 2) 1))],[(3, .box 29 (bxc (GAr.cs a0a)))]⟩ krf (sim_bind (fun j4=>⟨[(3, .ptr 3 0),(8,I r2.2.1),(10,I r3.1),(12,B j4)],[(3, .box 29 (bxc (GAr.cs a0a)))]⟩:Bool→St) ?_ ?_))))
   ·refine sR tfm ⟨[3,8,10,12,36],[3],[],[]⟩ ⟨[(3, .ptr 3 0),(8,I r2.2.1),(10,I r3.1),(12,B (eqI (Int.tmod a0a.Days 2) 1)),(36,B (eqI r3.1 1))],[(3, .box 29 (bxc (GAr.cs a0a)))]⟩ krf (sC (eqI r3.1 1) krf ?_ ?_)
    ·refine sL tfm krf ?_
     exact nq_n (eqI (Int.tmod (wi (Int.tdiv a0a.Days 2)) 2) 1) ⟨[3,8,10,12],[3],[],[]⟩ krf
    ·refine sK ?_
     exact nq_n (eqI (Int.tmod a0a.Days 2) 1) ⟨[3,8,10,12],[3],[],[]⟩ krf
   ·rintro j4
    refine sim_bind (fun j5=>⟨[(3, .ptr 3 0),(8,I r2.2.1),(12,B j5)],[(3, .box 29 (bxc (GAr.cs a0a)))]⟩:Bool→St) ?_ ?_
    ·refine sR tfm ⟨[3,8,12,43],[3],[],[]⟩ ⟨[(3, .ptr 3 0),(8,I r2.2.1),(12,B j4),(43,B (eqI r3.1 2))],[(3, .box 29 (bxc (GAr.cs a0a)))]⟩ krf (sC (eqI r3.1 2) krf ?_ ?_)
     ·refine sL tfm krf ?_
      exact nq_n (eqI (Int.tmod (wi (Int.tdiv a0a.Days 4)) 2) 1) ⟨[3,8,12],[3],[],[]⟩ krf
     ·refine sK ?_
      exact nq_n j4 ⟨[3,8,12],[3],[],[]⟩ krf
    ·rintro j5
     refine sS (sG (xR 2 krf ?_))
     refine xS j5 (fun h6=>?_) (fun h6=>?_)
     ·refine xO (want_tt krf h6) krf (xR 5 krf ?_)
      refine xS (leI a0a.From r2.2.1) (fun h7=>?_) (fun h7=>?_)
      ·refine xO (want_tt krf h7) krf (xR 5 krf (xE (sN ⟨[6],[],[],[]⟩ ⟨[(6,B (ltI r2.2.1 a0a.To))],[]⟩ krf (sT ?_))))
       exact qR (.id) krf krf krf
      ·refine xN (want_tf krf h7) krf (xR 5 krf (xE (sN ⟨[6],[],[],[]⟩ ⟨[(6,B false)],[]⟩ krf (sT ?_))))
       exact qR (.id) krf krf krf
     ·refine xN (want_tf krf h6) krf (xR 11 krf (xE (sN ⟨[6],[],[],[]⟩ ⟨[(6,B false)],[]⟩ krf (sT ?_))))
      exact qR (.id) krf krf krf
def g_law32_TariffMatchesReference (n:Nat) (a0n:GNode) (a1t:GTf) (a2a:GAr) (a3c:GCl) (a4minute:Int):Option Bool :=
 (g_law32_head n).bind fun r1 =>
 ((g_ref02_Few n a0n 1500).bind fun r3 =>
 cond (!r3)
  (some true)
  ((g_ref32_Few n a1t).bind fun r5 =>
  cond (!r5)
   (some true)
   ((g_ref26_Few n a3c).bind fun r7 =>
   some (!r7)))).bind fun j2 =>
 cond j2
  (some r1)
  ((g_t_Build n a0n).bind fun r8 =>
  (g_ref32_Build n a0n).bind fun r9 =>
  (cond r1
   ((g_ref32_SameList n r8.1 r9.1).bind fun r12 =>
   cond r12
    ((g_ref02_SameDiags n r8.2 r9.2).bind fun r14 =>
    cond r14
     ((g_t_Valid n a1t).bind fun r16 =>
     (g_ref32_Valid n a1t).bind fun r17 =>
     cond (opq (r16 == r17))
      ((g_t_Applies n a2a a3c a4minute).bind fun r19 =>
      (g_ref32_Applies n a2a a3c a4minute).bind fun r20 =>
      some (opq (r19 == r20)))
      (some false))
     (some false))
    (some false))
   (some false)).bind fun j10 =>
  some j10)
theorem g_law32_TariffMatchesReference_ok (n:Nat) (a0n:GNode) (a1t:GTf) (a2a:GAr) (a3c:GCl) (a4minute:Int):∀ r,g_law32_TariffMatchesReference n a0n a1t a2a a3c a4minute=some r→PCall Tryz.prog 3 [ag (GNode.cs a0n),ag (GTf.cs a1t),ag (GAr.cs a2a),ag (GCl.cs a3c),I a4minute] (.ret (B r)):=by
 refine pcall_sim (X:=fun r:Bool=>AEnd.ret (B r)) Tryz.func3 rfl Tryz.ntmps3 rfl ?_
 unfold g_law32_TariffMatchesReference
 refine sR tfm ⟨[4,5,6,7,8],[5,6,7,8],[],[]⟩ ⟨[(4,I a4minute),(5, .ptr 5 0),(6, .ptr 6 0),(7, .ptr 7 0),(8, .ptr 8 0)],[(5, .box 24 (bxc (GNode.cs a0n))),(6, .box 27 (bxc (GTf.cs a1t))),(7, .box 29 (bxc (GAr.cs a2a))),(8, .box 33 (bxc (GCl.cs a3c)))]⟩ krf (sS (sG ?_))
 refine xC [] krf (g_law32_head_ok n) krf krf (fun _=>by kernel_rfl) (fun r1=>?_)
 refine xR 1 krf (xE (sN ⟨[4,5,6,7,8,11],[5,6,7,8],[],[]⟩ ⟨[(4,I a4minute),(5, .ptr 5 0),(6, .ptr 6 0),(7, .ptr 7 0),(8, .ptr 8 0),(11,B r1)],[(5, .box 24 (bxc (GNode.cs a0n))),(6, .box 27 (bxc (GTf.cs a1t))),(7, .box 29 (bxc (GAr.cs a2a))),(8, .box 33 (bxc (GCl.cs a3c)))]⟩ krf (sS (sim_bind (fun j2=>⟨[(4,I a4minute),(5, .ptr 5 0),(6, .ptr 6 0),(7, .ptr 7 0),(8, .ptr 8 0),(11,B r1),(29,B j2)],[(5, .box 24 (bxc (GNode.cs a0n))),(6, .box 27 (bxc (GTf.cs a1t))),(7, .box 29 (bxc (GAr.cs a2a))),(8, .box 33 (bxc (GCl.cs a3c)))]⟩:Bool→St) ?_ ?_))))
 ·refine sG (xR 1 krf ?_)
  refine xC [] krf (g_ref02_Few_ok n a0n 1500) krf krf (fun _=>by kernel_rfl) (fun r3=>?_)
  refine xR 2 krf ?_
  refine xS (!r3) (fun h4=>?_) (fun h4=>?_)
  ·refine xN (want_ft krf h4) krf (xR 8 krf (xE ?_))
   exact nq_n true ⟨[4,5,6,7,8,11,29],[5,6,7,8],[],[]⟩ krf
  ·refine xO (want_ff krf h4) krf ?_
   refine xC [] krf (g_ref32_Few_ok n a1t) krf krf (fun _=>by kernel_rfl) (fun r5=>?_)
   refine xR 3 krf ?_
   refine xS (!r5) (fun h6=>?_) (fun h6=>?_)
   ·refine xN (want_ft krf h6) krf (xR 3 krf (xE ?_))
    exact nq_n true ⟨[4,5,6,7,8,11,29],[5,6,7,8],[],[]⟩ krf
   ·refine xO (want_ff krf h6) krf ?_
    refine xC [] krf (g_ref26_Few_ok n a3c) krf krf (fun _=>by kernel_rfl) (fun r7=>?_)
    refine xR 2 krf (xE ?_)
    exact nq_n (!r7) ⟨[4,5,6,7,8,11,29],[5,6,7,8],[],[]⟩ krf
 ·rintro j2
  refine sC j2 krf ?_ ?_
  ·refine sR tfm ⟨[10],[],[],[]⟩ ⟨[(10,B r1)],[]⟩ krf (sT (sq_r ?_))
   exact qR (.id) krf krf krf
  ·refine sK (sN ⟨[4,5,6,7,8,11],[5,6,7,8],[],[]⟩ ⟨[(4,I a4minute),(5, .ptr 5 0),(6, .ptr 6 0),(7, .ptr 7 0),(8, .ptr 8 0),(11,B r1)],[(5, .box 24 (bxc (GNode.cs a0n))),(6, .box 27 (bxc (GTf.cs a1t))),(7, .box 29 (bxc (GAr.cs a2a))),(8, .box 33 (bxc (GCl.cs a3c)))]⟩ krf (sS (sG (xR 1 krf ?_))))
   refine xC [] krf (g_t_Build_ok n a0n) krf krf (fun _=>by kernel_rfl) (fun r8=>?_)
   refine xR 5 krf (xE (sN ⟨[4,5,6,7,8,11,12,13],[5,6,7,8],[],[]⟩ ⟨[(4,I a4minute),(5, .ptr 5 0),(6, .ptr 6 0),(7, .ptr 7 0),(8, .ptr 8 0),(11,B r1),(12, .p (.sl 2 (mTf r8.1))),(13, .p (.sl 2 (mDg r8.2)))],[(5, .box 24 (bxc (GNode.cs a0n))),(6, .box 27 (bxc (GTf.cs a1t))),(7, .box 29 (bxc (GAr.cs a2a))),(8, .box 33 (bxc (GCl.cs a3c)))]⟩ krf (sS (sG (xR 1 krf ?_)))))
   refine xC [] krf (g_ref32_Build_ok n a0n) krf krf (fun _=>by kernel_rfl) (fun r9=>?_)
   refine xR 5 krf (xE (sN ⟨[4,6,7,8,11,12,13,14,15],[6,7,8],[],[]⟩ ⟨[(4,I a4minute),(6, .ptr 6 0),(7, .ptr 7 0),(8, .ptr 8 0),(11,B r1),(12, .p (.sl 2 (mTf r8.1))),(13, .p (.sl 2 (mDg r8.2))),(14, .p (.sl 2 (mTf r9.1))),(15, .p (.sl 2 (mDg r9.2)))],[(6, .box 27 (bxc (GTf.cs a1t))),(7, .box 29 (bxc (GAr.cs a2a))),(8, .box 33 (bxc (GCl.cs a3c)))]⟩ krf (sim_bind (fun j10=>⟨[(10,B j10)],[]⟩:Bool→St) ?_ ?_)))
   ·refine sim_drw tfm rfl (xR 2 krf ?_)
    refine xS r1 (fun h11=>?_) (fun h11=>?_)
    ·refine xO (want_tt krf h11) krf (xR 1 krf ?_)
     refine xC [] krf (g_ref32_SameList_ok n r8.1 r9.1) krf krf (fun _=>by kernel_rfl) (fun r12=>?_)
     refine xR 2 krf ?_
     refine xS r12 (fun h13=>?_) (fun h13=>?_)
     ·refine xO (want_tt krf h13) krf (xR 1 krf ?_)
      refine xC [] krf (g_ref02_SameDiags_ok n r8.2 r9.2) krf krf (fun _=>by kernel_rfl) (fun r14=>?_)
      refine xR 2 krf ?_
      refine xS r14 (fun h15=>?_) (fun h15=>?_)
      ·refine xO (want_tt krf h15) krf ?_
       refine xC [] krf (g_t_Valid_ok n a1t) krf krf (fun _=>by kernel_rfl) (fun r16=>?_)
       refine xR 1 krf ?_
       refine xC [] krf (g_ref32_Valid_ok n a1t) krf krf (fun _=>by kernel_rfl) (fun r17=>?_)
       refine xR 3 krf ?_
       refine xS (opq (r16 == r17)) (fun h18=>?_) (fun h18=>?_)
       ·refine xO (want_tt krf h18) krf (xR 2 krf ?_)
        refine xC [] krf (g_t_Applies_ok n a2a a3c a4minute) krf krf (fun _=>by kernel_rfl) (fun r19=>?_)
        refine xR 3 krf ?_
        refine xC [] krf (g_ref32_Applies_ok n a2a a3c a4minute) krf krf (fun _=>by kernel_rfl) (fun r20=>?_)
        refine xR 3 krf (xs_endD krf ?_)
        exact nq_n (opq (r19 == r20)) ⟨[10],[],[],[]⟩ krf
       ·refine xN (want_tf krf h18) krf (xR 10 krf (xs_endD krf ?_))
        exact nq_n false ⟨[10],[],[],[]⟩ krf
      ·refine xN (want_tf krf h15) krf (xR 17 krf (xs_endD krf ?_))
       exact nq_n false ⟨[10],[],[],[]⟩ krf
     ·refine xN (want_tf krf h13) krf (xR 22 krf (xs_endD krf ?_))
      exact nq_n false ⟨[10],[],[],[]⟩ krf
    ·refine xN (want_tf krf h11) krf (xR 27 krf (xs_endD krf ?_))
     exact nq_n false ⟨[10],[],[],[]⟩ krf
   ·rintro j10
    refine sT ?_
    exact qR (.id) krf krf krf
end Go.Proofs
namespace Go.Proofs
open Go Go.Abs
set_option maxRecDepth 100000
set_option linter.unusedVariables false
structure GQuoteQuoted where
 Tariff:GTf
 calendar:GCl
 from_:Int
 to_:Int
deriving DecidableEq
def GQuoteQuoted.cs (x:GQuoteQuoted):List PV:=[VS x.Tariff.Name, .sl 7 (List.map GAr.cs x.Tariff.Articles),VI x.calendar.Offset, .sl 2 (List.map GCh.cs x.calendar.Changes), .sl 1 (List.map ci x.calendar.Holidays),VI x.from_,VI x.to_]
structure GSl where
 Minute:Int
 Energy:Int
deriving DecidableEq
def GSl.cs (x:GSl):List PV:=[VI x.Minute,VI x.Energy]
structure GSs where
 From:Int
 To:Int
 End:Int
 Slices:List GSl
deriving DecidableEq
def GSs.cs (x:GSs):List PV:=[VI x.From,VI x.To,VI x.End, .sl 2 (List.map GSl.cs x.Slices)]
structure GLine where
 Article:Int
 Amount:Int
deriving DecidableEq
def GLine.cs (x:GLine):List PV:=[VI x.Article,VI x.Amount]
structure GBill where
 Lines:List GLine
 Net:Int
 Tax:Int
 Total:Int
deriving DecidableEq
def GBill.cs (x:GBill):List PV:=[.sl 2 (List.map GLine.cs x.Lines),VI x.Net,VI x.Tax,VI x.Total]
structure GBB where
 article:GAr
 calendar:GCl
 session:GSs
deriving DecidableEq
def GBB.cs (x:GBB):List PV:=[VI x.article.Kind,VI x.article.Days,VI x.article.From,VI x.article.To,VI x.article.Price,VI x.article.Unit,VI x.article.Free,VI x.calendar.Offset, .sl 2 (List.map GCh.cs x.calendar.Changes), .sl 1 (List.map ci x.calendar.Holidays),VI x.session.From,VI x.session.To,VI x.session.End, .sl 2 (List.map GSl.cs x.session.Slices)]
structure GReading where
 Serial:Int
 Number:Int
 Minute:Int
 Register:Int
 Link:Int
deriving DecidableEq
def GReading.cs (x:GReading):List PV:=[VI x.Serial,VI x.Number,VI x.Minute,VI x.Register,VU x.Link]
structure GClaim where
 Tariff:GTf
 Calendar:GCl
 Readings:List GReading
 Seed:Int
 Session:GSs
 Bill:GBill
deriving DecidableEq
def GClaim.cs (x:GClaim):List PV:=[VS x.Tariff.Name, .sl 7 (List.map GAr.cs x.Tariff.Articles),VI x.Calendar.Offset, .sl 2 (List.map GCh.cs x.Calendar.Changes), .sl 1 (List.map ci x.Calendar.Holidays), .sl 5 (List.map GReading.cs x.Readings),VU x.Seed,VI x.Session.From,VI x.Session.To,VI x.Session.End, .sl 2 (List.map GSl.cs x.Session.Slices), .sl 2 (List.map GLine.cs x.Bill.Lines),VI x.Bill.Net,VI x.Bill.Tax,VI x.Bill.Total]
structure GAE where
 Claim:GClaim
 follows:GSs
 bill:GBill
 rate:Int
deriving DecidableEq
def GAE.cs (x:GAE):List PV:=[VS x.Claim.Tariff.Name, .sl 7 (List.map GAr.cs x.Claim.Tariff.Articles),VI x.Claim.Calendar.Offset, .sl 2 (List.map GCh.cs x.Claim.Calendar.Changes), .sl 1 (List.map ci x.Claim.Calendar.Holidays), .sl 5 (List.map GReading.cs x.Claim.Readings),VU x.Claim.Seed,VI x.Claim.Session.From,VI x.Claim.Session.To,VI x.Claim.Session.End, .sl 2 (List.map GSl.cs x.Claim.Session.Slices), .sl 2 (List.map GLine.cs x.Claim.Bill.Lines),VI x.Claim.Bill.Net,VI x.Claim.Bill.Tax,VI x.Claim.Bill.Total,VI x.follows.From,VI x.follows.To,VI x.follows.End, .sl 2 (List.map GSl.cs x.follows.Slices), .sl 2 (List.map GLine.cs x.bill.Lines),VI x.bill.Net,VI x.bill.Tax,VI x.bill.Total,VI x.rate]
def g_a_inside (n:Nat) (a0n:Int) (a1least:Int) (a2greatest:Int):Option Bool :=
 cond (leI a1least a0n)
  (some (leI a0n a2greatest))
  (some false)
def g_a_isKey (n:Nat) (a0w:List UInt8):Option Bool :=
 (cond (eqS a0w [102,101,101,100,101,114])
  (some (eqS a0w [102,101,101,100,101,114]))
  (cond (eqS a0w [99,97,98,108,101])
   (some (eqS a0w [99,97,98,108,101]))
   (cond (eqS a0w [111,119,110,101,114])
    (some (eqS a0w [111,119,110,101,114]))
    (cond (eqS a0w [99,111,110,116,114,97,99,116])
     (some (eqS a0w [99,111,110,116,114,97,99,116]))
     (cond (eqS a0w [99,104,97,114,103,101,114])
      (some (eqS a0w [99,104,97,114,103,101,114]))
      (cond (eqS a0w [98,97,121])
       (some (eqS a0w [98,97,121]))
       (some (eqS a0w [116,97,114,105,102,102])))))))).bind fun j1 =>
 cond j1
  (some true)
  ((cond (eqS a0w [108,105,109,105,116])
   (some (eqS a0w [108,105,109,105,116]))
   (cond (eqS a0w [110,101,117,116,114,97,108])
    (some (eqS a0w [110,101,117,116,114,97,108]))
    (cond (eqS a0w [102,117,115,101])
     (some (eqS a0w [102,117,115,101]))
     (cond (eqS a0w [116,104,101,114,109,97,108])
      (some (eqS a0w [116,104,101,114,109,97,108]))
      (cond (eqS a0w [102,114,111,109])
       (some (eqS a0w [102,114,111,109]))
       (cond (eqS a0w [97,116])
        (some (eqS a0w [97,116]))
        (cond (eqS a0w [112,104,97,115,101,115])
         (some (eqS a0w [112,104,97,115,101,115]))
         (cond (eqS a0w [97,109,112,115])
          (some (eqS a0w [97,109,112,115]))
          (cond (eqS a0w [102,97,108,108,98,97,99,107])
           (some (eqS a0w [102,97,108,108,98,97,99,107]))
           (cond (eqS a0w [99,97,114,100])
            (some (eqS a0w [99,97,114,100]))
            (some (eqS a0w [114,97,110,107])))))))))))).bind fun j2 =>
  cond j2
   (some true)
   ((cond (eqS a0w [115,116,97,114,116])
    (some (eqS a0w [115,116,97,114,116]))
    (cond (eqS a0w [101,110,101,114,103,121])
     (some (eqS a0w [101,110,101,114,103,121]))
     (cond (eqS a0w [116,105,109,101])
      (some (eqS a0w [116,105,109,101]))
      (cond (eqS a0w [105,100,108,101])
       (some (eqS a0w [105,100,108,101]))
       (cond (eqS a0w [99,97,112])
        (some (eqS a0w [99,97,112]))
        (some (eqS a0w [116,97,120]))))))).bind fun j3 =>
   cond j3
    (some true)
    ((cond (eqS a0w [111,110])
     (some (eqS a0w [111,110]))
     (cond (eqS a0w [119,111,114,107])
      (some (eqS a0w [119,111,114,107]))
      (cond (eqS a0w [115,97,116,117,114,100,97,121])
       (some (eqS a0w [115,97,116,117,114,100,97,121]))
       (cond (eqS a0w [115,117,110,100,97,121])
        (some (eqS a0w [115,117,110,100,97,121]))
        (cond (eqS a0w [98,101,116,119,101,101,110])
         (some (eqS a0w [98,101,116,119,101,101,110]))
         (cond (eqS a0w [112,101,114])
          (some (eqS a0w [112,101,114]))
          (some (eqS a0w [102,114,101,101])))))))).bind fun j4 =>
    cond j4
     (some true)
     (some false))))
def g_a_validArticle (n:Nat) (a0a:GAr):Option Bool :=
 ((g_a_inside n a0a.Kind 1 6).bind fun r2 =>
 cond (!r2)
  (some true)
  ((g_a_inside n a0a.Days 1 7).bind fun r4 =>
  some (!r4))).bind fun j1 =>
 cond j1
  (some false)
  (((g_a_inside n a0a.From 0 1439).bind fun r6 =>
  cond (!r6)
   (some true)
   (cond (leI a0a.To a0a.From)
    (some true)
    (some (ltI 1440 a0a.To)))).bind fun j5 =>
  cond j5
   (some false)
   ((cond (eqI a0a.From 0)
    (cond (eqI a0a.To 1440)
     (some (eqI a0a.Days 7))
     (some false))
    (some false)).bind fun j9 =>
   (cond (eqI a0a.Unit 0)
    (some (eqI a0a.Free 0))
    (some false)).bind fun j12 =>
   (g_a_inside n a0a.Price 0 1000000).bind fun r14 =>
   (cond (eqI a0a.Kind 3)
    (some (eqI a0a.Kind 3))
    (some (eqI a0a.Kind 4))).bind fun j15 =>
   cond j15
    ((cond r14
     ((g_a_inside n a0a.Unit 1 1440).bind fun r18 =>
     cond r18
      ((g_a_inside n a0a.Free 0 1440).bind fun r20 =>
      some r20)
      (some false))
     (some false)).bind fun j16 =>
    some j16)
    (cond (eqI a0a.Kind 5)
     ((cond r14
      (cond j12
       (some j9)
       (some false))
      (some false)).bind fun j21 =>
     some j21)
     (cond (eqI a0a.Kind 6)
      (((g_a_inside n a0a.Price 0 10000).bind fun r25 =>
      cond r25
       (cond j12
        (some j9)
        (some false))
       (some false)).bind fun j24 =>
      some j24)
      (cond r14
       (some j12)
       (some false))))))
structure GLs where
 from_:Int
 to_:Int
deriving DecidableEq
def GLs.cs (x:GLs):List PV:=[VI x.from_,VI x.to_]
end Go.Proofs
namespace Go.Proofs
open Go Go.Abs Go.ChangeShapes Go.WideShapes Go.ChangeAt Go.RowKit Go.Proofs.YtkgamjjfjekgnaaGreat
set_option maxRecDepth 100000
set_option linter.unusedVariables false
def GNode.wfd:Nat→GNode→Prop
 | 0,_=>False
 | d+1,x=>i64b x.Kind∧strb x.Name∧i64b x.N∧i64b x.At∧(List.length x.Kids≤maxLen∧∀ k ∈ x.Kids,∃ y:GNode,k=GNode.cs y∧GNode.wfd d y)
theorem GNode.wfd_succ:∀ (d:Nat) (x:GNode),GNode.wfd d x→GNode.wfd (d+1) x
 | 0,_,h=>h.elim
 | d+1,x,h=>by
  obtain ⟨h0,h1,h2,h3,h4⟩:=h
  exact ⟨h0,h1,h2,h3,⟨h4.1,fun k hk=>by obtain ⟨y,e,g⟩:=h4.2 k hk; exact ⟨y,e,GNode.wfd_succ d y g⟩⟩⟩
theorem sh_GNode:∀ (d:Nat) (cs:List PV),Sh Tryz.prog d 24 cs→∃ r:GNode,cs=GNode.cs r∧GNode.wfd d r
 | 0,_,h=>h.elim
 | 1,cs,h=>by
  have h:=sh_struct Tryz.underlying24 h
  obtain ⟨_,_,rfl,h0,_,_,rfl,h1,_,_,rfl,h2,_,_,rfl,h3,_,_,rfl,h4,rfl⟩:=h
  exact h0.elim
 | d+2,cs,h=>by
  have h:=sh_struct Tryz.underlying24 h
  obtain ⟨_,_,rfl,h0,_,_,rfl,h1,_,_,rfl,h2,_,_,rfl,h3,_,_,rfl,h4,rfl⟩:=h
  obtain ⟨x0,rfl,w0⟩:=sh_i64 Tryz.underlying3 h0
  obtain ⟨x1,rfl,w1⟩:=sh_str Tryz.underlying9 h1
  obtain ⟨x2,rfl,w2⟩:=sh_i64 Tryz.underlying3 h2
  obtain ⟨x3,rfl,w3⟩:=sh_i64 Tryz.underlying3 h3
  simp only [Sh,Tryz.underlying22] at h4
  obtain ⟨x4,rfl,w4,g4⟩:=h4
  refine ⟨⟨x0,x1,x2,x3,x4⟩,?_,w0,w1,w2,w3,w4,fun k hk=>?_⟩
  ·simp only [GNode.cs,map_idc,show Tryz.prog.cellsOf 24=5 from by kernel_rfl,List.cons_append,List.nil_append,List.append_nil]
  ·obtain ⟨y,e,g⟩:=sh_GNode d k (g4 k hk)
   exact ⟨y,e,GNode.wfd_succ d y g⟩
theorem sh_GNode_ex {d:Nat} {cs:List PV} (h:Sh Tryz.prog d 24 cs):∃ r:GNode,cs=GNode.cs r∧∃ d,GNode.wfd d r:=by
 obtain ⟨r,e,g⟩:=sh_GNode d cs h
 exact ⟨r,e,d,g⟩
structure GAr.wf (x:GAr):Prop where
 Kind:i64b x.Kind
 Days:i64b x.Days
 From:i64b x.From
 To:i64b x.To
 Price:i64b x.Price
 Unit:i64b x.Unit
 Free:i64b x.Free
theorem sh_GAr {d:Nat} {cs:List PV} (h:Sh Tryz.prog (d+2) 29 cs):∃ r:GAr,cs=GAr.cs r∧GAr.wf r:=by
 have h:=sh_struct Tryz.underlying29 h
 obtain ⟨_,_,rfl,h0,_,_,rfl,h1,_,_,rfl,h2,_,_,rfl,h3,_,_,rfl,h4,_,_,rfl,h5,_,_,rfl,h6,rfl⟩:=h
 obtain ⟨x0,rfl,w0⟩:=sh_i64 Tryz.underlying3 h0
 obtain ⟨x1,rfl,w1⟩:=sh_i64 Tryz.underlying3 h1
 obtain ⟨x2,rfl,w2⟩:=sh_i64 Tryz.underlying3 h2
 obtain ⟨x3,rfl,w3⟩:=sh_i64 Tryz.underlying3 h3
 obtain ⟨x4,rfl,w4⟩:=sh_i64 Tryz.underlying3 h4
 obtain ⟨x5,rfl,w5⟩:=sh_i64 Tryz.underlying3 h5
 obtain ⟨x6,rfl,w6⟩:=sh_i64 Tryz.underlying3 h6
 exact ⟨⟨x0,x1,x2,x3,x4,x5,x6⟩,rfl,⟨w0,w1,w2,w3,w4,w5,w6⟩⟩
structure GTf.wf (x:GTf):Prop where
 Name:strb x.Name
 Articles:(listb GAr.wf) x.Articles
theorem sh_GTf {d:Nat} {cs:List PV} (h:Sh Tryz.prog (d+4) 27 cs):∃ r:GTf,cs=GTf.cs r∧GTf.wf r:=by
 have h:=sh_struct Tryz.underlying27 h
 obtain ⟨_,_,rfl,h0,_,_,rfl,h1,rfl⟩:=h
 obtain ⟨x0,rfl,w0⟩:=sh_str Tryz.underlying9 h0
 obtain ⟨x1,rfl,w1⟩:=sh_list (S:=7) (f:=GAr.cs) (W:=GAr.wf) Tryz.underlying25 krf (fun c h=>sh_GAr h) h1
 exact ⟨⟨x0,x1⟩,rfl,⟨w0,w1⟩⟩
structure GCh.wf (x:GCh):Prop where
 At:i64b x.At
 Offset:i64b x.Offset
theorem sh_GCh {d:Nat} {cs:List PV} (h:Sh Tryz.prog (d+2) 89 cs):∃ r:GCh,cs=GCh.cs r∧GCh.wf r:=by
 have h:=sh_struct Tryz.underlying89 h
 obtain ⟨_,_,rfl,h0,_,_,rfl,h1,rfl⟩:=h
 obtain ⟨x0,rfl,w0⟩:=sh_i64 Tryz.underlying3 h0
 obtain ⟨x1,rfl,w1⟩:=sh_i64 Tryz.underlying3 h1
 exact ⟨⟨x0,x1⟩,rfl,⟨w0,w1⟩⟩
structure GCl.wf (x:GCl):Prop where
 Offset:i64b x.Offset
 Changes:(listb GCh.wf) x.Changes
 Holidays:(listb i64b) x.Holidays
theorem sh_GCl {d:Nat} {cs:List PV} (h:Sh Tryz.prog (d+4) 33 cs):∃ r:GCl,cs=GCl.cs r∧GCl.wf r:=by
 have h:=sh_struct Tryz.underlying33 h
 obtain ⟨_,_,rfl,h0,_,_,rfl,h1,_,_,rfl,h2,rfl⟩:=h
 obtain ⟨x0,rfl,w0⟩:=sh_i64 Tryz.underlying3 h0
 obtain ⟨x1,rfl,w1⟩:=sh_list (S:=2) (f:=GCh.cs) (W:=GCh.wf) Tryz.underlying30 krf (fun c h=>sh_GCh h) h1
 obtain ⟨x2,rfl,w2⟩:=sh_list (S:=1) (f:=ci) (W:=i64b) Tryz.underlying31 krf (fun c h=>sh_i64 Tryz.underlying3 h) h2
 exact ⟨⟨x0,x1,x2⟩,rfl,⟨w0,w1,w2⟩⟩
def TariffMatchesReferencePlain:Prop:=∀ (a0:GNode) (a1:GTf) (a2:GAr) (a3:GCl) (a4:Int),(fun x=>∃ d,GNode.wfd d x) a0→GTf.wf a1→GAr.wf a2→GCl.wf a3→i64b a4→∃ n,g_law32_TariffMatchesReference n a0 a1 a2 a3 a4=some true
theorem tariffMatchesReference_call (h:TariffMatchesReferencePlain):∀ (D:Nat) xs,ArgsSh Tryz.prog (D+9) Tryz.f3.params.toList xs→PCall Tryz.prog 3 xs (.ret (.p (.val (.bool true)))):=by
 intro D xs ha
 rw [Tryz.params3] at ha
 obtain ⟨_,_,rfl,h0,_,_,rfl,h1,_,_,rfl,h2,_,_,rfl,h3,_,_,rfl,h4,rfl⟩:=ha
 obtain ⟨a0,rfl,w0⟩:=sh_GNode_ex h0
 obtain ⟨a1,rfl,w1⟩:=sh_GTf h1
 obtain ⟨a2,rfl,w2⟩:=sh_GAr h2
 obtain ⟨a3,rfl,w3⟩:=sh_GCl h3
 obtain ⟨a4,rfl,w4⟩:=sh_i64 Tryz.underlying3 h4
 obtain ⟨n,hn⟩:=h a0 a1 a2 a3 a4 w0 w1 w2 w3 w4
 simp only [avOf_struct Tryz.underlying24,avOf_struct Tryz.underlying27,avOf_struct Tryz.underlying29,avOf_struct Tryz.underlying33,avOf_int Tryz.underlying3]
 exact g_law32_TariffMatchesReference_ok n a0 a1 a2 a3 a4 true hn
set_option maxRecDepth 100000 in
theorem tariffMatchesReference_lifted (h:TariffMatchesReferencePlain) (os:Os) (started:os.Started) (H:Type) (enc:TypeId × Value→H) :
  ReturnsInHanded {} Tryz.checked os 3 .any (Rows.tariffMatchesReferenceSpec.pre6 enc Tryz.prog Tryz.f3 Rows.tariffMatchesReferenceRow.domain false) (Rows.tariffMatchesReferenceSpec.post enc Tryz.prog Tryz.f3 false true false false):=by
 refine returnsInHanded_of_change (C:=Tryz.checked) krf started krf Tryz.func3
  (ChangeSpec.witness6 (enc:=enc) (C:=Tryz.checked) false ⟨#[],#[.agg #[.int .i64 0, .string ⟨#[]⟩, .int .i64 0, .int .i64 0, .slice none 0 0], .agg #[.string ⟨#[]⟩, .slice none 0 0], .agg #[.int .i64 0, .int .i64 0, .int .i64 0, .int .i64 0, .int .i64 0, .int .i64 0, .int .i64 0], .agg #[.int .i64 0, .slice none 0 0, .slice none 0 0], .int .i64 0],[]⟩ 8 krf krf krf krf) ?_
 intro W base args ds gs before hval hW _ _
 exact law_contractR (P:=Tryz.prog) (f:=3) (fn:=Tryz.f3) (s:=Rows.tariffMatchesReferenceSpec) (tb:=4) (TS:=[3,9,22,24,25,27,29,30,31,33,89]) krf krf krf krf krf Tryz.underlying4 rfl
  (fun ds hd=>by
   have hd:ds.length=5:=by rw [hd,show Tryz.f3.params.size=5 from by kernel_rfl]
   match ds,hd with
   | [d0,d1,d2,d3,d4],_=>rfl)
  (tariffMatchesReference_call h) hval hW
theorem tariffMatchesReference_said (h:TariffMatchesReferencePlain):Rows.TariffMatchesReferenceSaid :=
 OpenClaim.holds_of_wide 3 Tryz.f3 rfl rfl rfl rfl rfl rfl rfl ⟨rfl,rfl,rfl,rfl,rfl⟩ rfl rfl rfl rfl rfl krf Tryz.func3 krf
  (of_decide_eq_true krf) (by unfold Func.isWrapper; first | (rw [if_pos (by decide +kernel)]; kernel_rfl) | (rw [if_neg (by decide +kernel)]; exact ⟨rfl,rfl⟩))
  (fun os started H enc _=>tariffMatchesReference_lifted h os started H enc)
end Go.Proofs
namespace Go.Proofs
open Go Go.Abs
set_option maxRecDepth 100000
set_option linter.unusedVariables false
def Does {α:Type} (m:Option α) (Q:α→Prop):Prop:=∃ r,m=some r∧Q r
section
variable {α β V R E:Type}
theorem does_some {x:α} {Q:α→Prop} (h:Q x):Does (some x) Q:=⟨x,rfl,h⟩
theorem does_mono {m:Option α} {Q Q':α→Prop} (h:Does m Q) (hq:∀ x,Q x→Q' x):Does m Q':=by obtain ⟨x,e,h⟩:=h; exact ⟨x,e,hq x h⟩
theorem does_bind {m:Option α} {k:α→Option β} {Q:α→Prop} {Q':β→Prop} (h:Does m Q) (hk:∀ x,Q x→Does (k x) Q'):Does (m.bind k) Q':=by
 obtain ⟨x,rfl,h⟩:=h
 exact hk x h
theorem does_cond {b:Bool} {x y:Option α} {Q:α→Prop} (h1:b=true→Does x Q) (h2:b=false→Does y Q):Does (cond b x y) Q:=by
 cases b
 ·exact h2 rfl
 ·exact h1 rfl
theorem does_loop {B:(V→Option R)→V→Option R} {Q:V→R→Prop} (μ:V→Nat) (Inv:V→Prop)
  (hB:∀ rec v,Inv v→(∀ v',Inv v'→μ v' < μ v→Does (rec v') (Q v'))→Does (B rec v) (Q v)):∀ {n:Nat} {v:V},Inv v→μ v < n→Does (loopN B n v) (Q v)
 | 0,_,_,h=>absurd h (Nat.not_lt_zero _)
 | n+1,v,hv,h=>hB _ v hv (fun v' h1 h2=>does_loop μ Inv hB h1 (by omega))
end
theorem getI_nat {α:Type} {l:List α} {i:Nat}:getI l (i:Int)=l[i]?:=by
 unfold getI; rw [if_neg (by omega)]; simp
theorem wi_id {x:Int} (h1:-9223372036854775808≤x) (h2:x≤9223372036854775807):wi x=x:=by
 simp [wi,IntKind.wrap,IntKind.signed,IntKind.bits]; omega
theorem a_inside (n:Nat) (x a b:Int):g_a_inside n x a b=some (decide (a≤x∧x≤b)):=by
 unfold g_a_inside leI
 by_cases h:a≤x <;> simp [h]
def folB (a r:GReading):Bool:=if r.Serial=a.Serial then decide (a.Minute≤r.Minute∧a.Register≤r.Register) else decide (r.Minute=a.Minute)
def mixB (s x k:Int):Int:=wu ((bXor .u64 s (bAnd .u64 (shrI .u64 (wu x) k) 255)) * 1099511628211)
def mixW (s x:Int):Int:=[56,48,40,32,24,16,8,0].foldl (fun s k=>mixB s x k) s
def linkF (s:Int) (r:GReading):Int:=[r.Serial,r.Number,r.Minute,r.Register].foldl mixW s
def prevLink (seed:Int) (l:List GReading) (i:Nat):Int:=if i=0 then seed else ((l[i - 1]?).map (·.Link)).getD 0
def chainAt (seed:Int) (l:List GReading) (i:Nat):Prop:=∀ r ∈ l[i]?,(1≤r.Serial∧r.Serial≤1000000)∧r.Number=i+1∧(0≤r.Minute∧r.Minute≤52560000)∧(0≤r.Register∧r.Register≤1000000000) ∧
 (i ≠ 0→∀ a ∈ l[i - 1]?,folB a r=true)∧r.Link=linkF (prevLink seed l i) r
def chainOk (seed:Int) (l:List GReading):Prop:=(1≤l.length∧l.length≤64)∧∀ i,i < l.length→chainAt seed l i
end Go.Proofs
namespace Go.Proofs
open Go Go.Abs
set_option maxRecDepth 100000
set_option linter.unusedVariables false
theorem eqI_d (x y:Int):eqI x y=decide (x=y):=by unfold eqI; by_cases h:x=y <;> simp [h]
theorem cond_some {α:Type} {b:Bool} {x y:α}:cond b (some x) (some y)=some (cond b x y):=by cases b <;> rfl
def keyB (w:List UInt8):Bool:=(g_a_isKey 0 w).getD false
def artB (a:GAr):Bool:=(g_a_validArticle 0 a).getD false
def chrB (x:UInt8):Bool:=decide ((97≤b2i x∧b2i x≤122)∨(48≤b2i x∧b2i x≤57)∨b2i x=95)
def nameB (s:List UInt8):Bool:=decide (1≤s.length∧s.length≤12)&&decide (∀ x ∈ s.head?,97≤b2i x∧b2i x≤122)&&!keyB s&&s.all chrB
theorem loop_list {α R:Type} {l:List α} {B:(Int→Option R)→Int→Option R} {F:List α→R} (hlen:l.length≤4611686018427387904)
  (hend:∀ rec,B rec (l.length:Int)=some (F []))
  (hstep:∀ (rec:Int→Option R) (i:Nat) (x:α) (r:List α),l.drop i=x :: r→l[i]?=some x→i < l.length→wi ((i:Int)+1)=((i+1:Nat):Int)→(rec ((i+1:Nat):Int)=some (F r))→B rec (i:Int)=some (F (x :: r))) :
  ∀ {n:Nat} (i:Nat),i≤l.length→l.length - i < n→loopN B n (i:Int)=some (F (l.drop i))
 | 0,_,_,h=>absurd h (Nat.not_lt_zero _)
 | n+1,i,hi,h=>by
  unfold loopN
  by_cases he:i=l.length
  ·subst he; rw [hend]; simp
  ·have hlt:i < l.length:=by omega
   have hd:l.drop i=l[i] :: l.drop (i+1):=by rw [List.drop_eq_getElem_cons hlt]
   rw [hd]
   exact hstep _ i _ _ hd (by simp [hlt]) hlt (by rw [wi_id] <;> omega) (loop_list hlen hend hstep (i+1) (by omega) (by omega))
theorem chr_lem (c:Int):(bif decide (97≤c) then bif decide (c≤122) then false else bif decide (48≤c) then bif decide (c≤57) then false else !(c == 95) else !(c == 95)
  else bif decide (48≤c) then bif decide (c≤57) then false else !(c == 95) else !(c == 95))=!decide ((97≤c∧c≤122)∨(48≤c∧c≤57)∨c=95):=by
 by_cases h1:97≤c <;> by_cases h2:c≤122 <;> by_cases h3:48≤c <;> by_cases h4:c≤57 <;> by_cases h5:c=95 <;> simp [h1,h2,h3,h4,h5] <;> omega
theorem loop_acc {α R A:Type} {l:List α} {B:(A × Int→Option R)→A × Int→Option R} {F:A→List α→R} (hlen:l.length≤4611686018427387904)
  (hend:∀ rec a,B rec (a,(l.length:Int))=some (F a []))
  (hstep:∀ (rec:A × Int→Option R) (a:A) (i:Nat) (x:α) (r:List α),l.drop i=x :: r→l[i]?=some x→i < l.length→wi ((i:Int)+1)=((i+1:Nat):Int)→(∀ a,rec (a,((i+1:Nat):Int))=some (F a r))→B rec (a,(i:Int))=some (F a (x :: r))) :
  ∀ {n:Nat} (i:Nat) (a:A),i≤l.length→l.length - i < n→loopN B n (a,(i:Int))=some (F a (l.drop i))
 | 0,_,_,_,h=>absurd h (Nat.not_lt_zero _)
 | n+1,i,a,hi,h=>by
  unfold loopN
  by_cases he:i=l.length
  ·subst he; rw [hend]; simp
  ·have hlt:i < l.length:=by omega
   have hd:l.drop i=l[i] :: l.drop (i+1):=by rw [List.drop_eq_getElem_cons hlt]
   rw [hd]
   exact hstep _ a i _ _ hd (by simp [hlt]) hlt (by rw [wi_id] <;> omega) (fun a=>loop_acc hlen hend hstep (i+1) a (by omega) (by omega))
def holB:Int→List Int→Bool
 | _,[]=>true
 | a,x :: r=>decide (a < x∧x≤36500)&&holB x r
def chgB:Int→List GCh→Bool
 | _,[]=>true
 | a,x :: r=>decide (a < x.At∧x.At≤52560000∧-1440≤x.Offset∧x.Offset≤1440)&&chgB x.At r
def calB (c:GCl):Bool:=decide (-1440≤c.Offset∧c.Offset≤1440)&&decide (c.Changes.length≤16)&&decide (c.Holidays.length≤32)&&chgB (-1) c.Changes&&holB (-1) c.Holidays
theorem loop_gen {α R A V:Type} {l:List α} (S:A→Int→V) {B:(V→Option R)→V→Option R} {F:A→List α→R} (Inv:Nat→A→Prop) (hlen:l.length≤4611686018427387904)
  (hend:∀ rec a,Inv l.length a→B rec (S a (l.length:Int))=some (F a []))
  (hstep:∀ (rec:V→Option R) (a:A) (i:Nat) (x:α) (r:List α),Inv i a→l.drop i=x :: r→l[i]?=some x→i < l.length→wi ((i:Int)+1)=((i+1:Nat):Int)→(∀ a,Inv (i+1) a→rec (S a ((i+1:Nat):Int))=some (F a r))→B rec (S a (i:Int))=some (F a (x :: r))) :
  ∀ {n:Nat} (i:Nat) (a:A),Inv i a→i≤l.length→l.length - i < n→loopN B n (S a (i:Int))=some (F a (l.drop i))
 | 0,_,_,_,_,h=>absurd h (Nat.not_lt_zero _)
 | n+1,i,a,ha,hi,h=>by
  unfold loopN
  by_cases he:i=l.length
  ·subst he; rw [hend _ _ ha]; simp
  ·have hlt:i < l.length:=by omega
   have hd:l.drop i=l[i] :: l.drop (i+1):=by rw [List.drop_eq_getElem_cons hlt]
   rw [hd]
   exact hstep _ a i _ _ ha hd (by simp [hlt]) hlt (by rw [wi_id] <;> omega) (fun a ha=>loop_gen S Inv hlen hend hstep (i+1) a ha (by omega) (by omega))
def tarB:Int→List GAr→Bool
 | k,[]=>decide (k≤1)
 | k,a :: r=>artB a&&tarB (if a.Kind=6 then k+1 else k) r
def tariffB (t:GTf):Bool:=nameB t.Name&&decide (t.Articles.length≤12)&&tarB 0 t.Articles
end Go.Proofs
namespace Go.Proofs
open Go Go.Abs
set_option maxRecDepth 100000
set_option linter.unusedVariables false
def offF (m:Int):Int→List GCh→Int
 | o,[]=>o
 | o,x :: r=>offF m (if x.At≤m then x.Offset else o) r
def wkF (d:Int):Int:=if Int.tmod (wi (d+7)) 7=5 then 1 else if Int.tmod (wi (d+7)) 7=6 then 2 else 0
def typF (d:Int):List Int→Int
 | []=>wkF d
 | x :: r=>if x=d then 2 else typF d r
theorem typF_range (d:Int):∀ l,0≤typF d l∧typF d l≤2
 | []=>by
  unfold typF wkF
  split
  ·omega
  ·split <;> omega
 | x :: r=>by
  have:=typF_range d r
  unfold typF; split <;> omega
def appB (c:GCl) (a:GAr) (m:Int):Bool :=
 let w:=wi (wi (m+offF m c.Offset c.Changes)+1440)
 decide (a.From≤Int.tmod w 1440)&&decide (Int.tmod w 1440 < a.To)&&!decide (bAnd .i64 a.Days (shlI .i64 1 (typF (wi (wi (Int.tdiv w 1440) - 1)) c.Holidays))=0)
end Go.Proofs
namespace Go.Proofs
open Go Go.Abs
set_option maxRecDepth 100000
set_option linter.unusedVariables false
theorem loop_does {α R A V:Type} {l:List α} (S:A→Int→V) {B:(V→Option R)→V→Option R} {Q:A→List α→R→Prop} (Inv:Nat→A→Prop) (hlen:l.length≤4611686018427387904)
  (hend:∀ rec a,Inv l.length a→Does (B rec (S a (l.length:Int))) (Q a []))
  (hstep:∀ (rec:V→Option R) (a:A) (i:Nat) (x:α) (r:List α),Inv i a→l.drop i=x :: r→l[i]?=some x→i < l.length→wi ((i:Int)+1)=((i+1:Nat):Int)→(∀ a,Inv (i+1) a→Does (rec (S a ((i+1:Nat):Int))) (Q a r))→Does (B rec (S a (i:Int))) (Q a (x :: r))) :
  ∀ {n:Nat} (i:Nat) (a:A),Inv i a→i≤l.length→l.length - i < n→Does (loopN B n (S a (i:Int))) (Q a (l.drop i))
 | 0,_,_,_,_,h=>absurd h (Nat.not_lt_zero _)
 | n+1,i,a,ha,hi,h=>by
  unfold loopN
  by_cases he:i=l.length
  ·subst he; simpa using hend _ _ ha
  ·have hlt:i < l.length:=by omega
   have hd:l.drop i=l[i] :: l.drop (i+1):=by rw [List.drop_eq_getElem_cons hlt]
   rw [hd]
   exact hstep _ a i _ _ ha hd (by simp [hlt]) hlt (by rw [wi_id] <;> omega) (fun a ha=>loop_does S Inv hlen hend hstep (i+1) a ha (by omega) (by omega))
end Go.Proofs
namespace Go.Proofs
open Go Go.Abs
set_option maxRecDepth 100000
set_option linter.unusedVariables false
theorem r_in (n:Nat) (l:List (List UInt8)) (s:List UInt8) (hn:1000≤n) (hl:l.length≤900):Does (g_ref02_In n l s) (fun r=>leI 0 r=l.contains s):=by
 unfold g_ref02_In
 have:=loop_does (l:=l) (fun (_:Unit) i=>i) (B:=fun recl1 l1=>g_ref02_In_l1 l s recl1 l1) (Q:=fun _ r x=>leI 0 x=r.contains s) (fun _ _=>True) (by omega) ?_ ?_ (n:=n) 0 () trivial (by omega) (by omega)
 ·exact this
 ·intro rec a _
  simp only [g_ref02_In_l1,lenI,List.length_map,ltI]
  rw [dzF (by omega),cond_false]
  exact does_some rfl
 ·intro rec a i x r _ hd hx hi hw hr
  simp only [g_ref02_In_l1,lenI,List.length_map,ltI,getI_nat,hx,obs,eqS]
  rw [dzT (by omega),cond_true]
  by_cases h:x=s
  ·subst h
   rw [beq_self_eq_true,cond_true]
   refine does_some ?_
   simp [leI]
  ·rw [show (x == s)=false from by simpa using h,cond_false,hw]
   refine does_mono (hr () trivial) (fun y hy=>?_)
   rw [hy,List.contains_cons,show (s == x)=false from by simpa using fun e=>h e.symm,Bool.false_or]
def keyL:List (List UInt8):=((g_ref02_Kinds 0).getD [])++(((g_ref02_Attrs 0).getD [])++(((g_ref02_Articles 0).getD [])++((g_ref02_Words 0).getD [])))
theorem cse (b c:Bool):(bif b then b else c)=(b||c):=by cases b <;> rfl
theorem cst (b c:Bool):(bif b then true else c)=(b||c):=by cases b <;> rfl
def keyA:List (List UInt8):=[[102,101,101,100,101,114],[99,97,98,108,101],[111,119,110,101,114],[99,111,110,116,114,97,99,116],[99,104,97,114,103,101,114],[98,97,121],[116,97,114,105,102,102],[108,105,109,105,116],[110,101,117,116,114,97,108],[102,117,115,101],[116,104,101,114,109,97,108],[102,114,111,109],[97,116],[112,104,97,115,101,115],[97,109,112,115],[102,97,108,108,98,97,99,107],[99,97,114,100],[114,97,110,107],[115,116,97,114,116],[101,110,101,114,103,121],[116,105,109,101],[105,100,108,101],[99,97,112],[116,97,120],[111,110],[119,111,114,107],[115,97,116,117,114,100,97,121],[115,117,110,100,97,121],[98,101,116,119,101,101,110],[112,101,114],[102,114,101,101]]
theorem keyB_any (s:List UInt8):keyB s=keyA.contains s:=by
 unfold keyB g_a_isKey keyA
 simp only [cond_some,obs,Option.getD_some,cse,cst,eqS,List.contains_cons,List.contains_nil,Bool.or_assoc,Bool.or_false]
theorem keyB_mem (s:List UInt8):keyB s=keyL.contains s:=by
 rw [keyB_any,Bool.eq_iff_iff,List.contains_iff_mem,List.contains_iff_mem]
 have h1:∀ x ∈ keyA,x ∈ keyL:=by decide
 have h2:∀ x ∈ keyL,x ∈ keyA:=by decide
 exact ⟨h1 s,h2 s⟩
theorem r_namej (n:Nat) (s:List UInt8) (hn:1000≤n):g_ref02_Name_j1 n s=some (decide (1≤s.length∧s.length≤12)&&!keyB s):=by
 unfold g_ref02_Name_j1 g_ref02_Kinds g_ref02_Attrs g_ref02_Articles g_ref02_Words
 simp only [obs]
 rw [keyB_mem]
 unfold keyL g_ref02_Kinds g_ref02_Attrs g_ref02_Articles g_ref02_Words
 simp only [Option.getD_some]
 have e:=fun (l:List (List UInt8)) (hl:l.length≤900)=>r_in n l s hn hl
 obtain ⟨r1,e1,h1⟩:=e [[102,101,101,100,101,114],[99,97,98,108,101],[111,119,110,101,114],[99,111,110,116,114,97,99,116],[99,104,97,114,103,101,114],[98,97,121],[116,97,114,105,102,102]] (by decide)
 obtain ⟨r2,e2,h2⟩:=e [[108,105,109,105,116],[110,101,117,116,114,97,108],[102,117,115,101],[116,104,101,114,109,97,108],[102,114,111,109],[97,116],[112,104,97,115,101,115],[97,109,112,115],[102,97,108,108,98,97,99,107],[111,119,110,101,114],[99,97,114,100],[114,97,110,107],[99,104,97,114,103,101,114]] (by decide)
 obtain ⟨r3,e3,h3⟩:=e [[115,116,97,114,116],[101,110,101,114,103,121],[116,105,109,101],[105,100,108,101],[99,97,112],[116,97,120]] (by decide)
 obtain ⟨r4,e4,h4⟩:=e [[111,110],[119,111,114,107],[115,97,116,117,114,100,97,121],[115,117,110,100,97,121],[98,101,116,119,101,101,110],[112,101,114],[102,114,101,101]] (by decide)
 rw [e1,obs,e2,obs,e3,obs,e4,obs,h1,h2,h3,h4]
 have ha:∀ (a b:List (List UInt8)),(a++b).contains s=(a.contains s||b.contains s):=by intro a b; simp
 rw [ha,ha,ha]
 simp only [cond_some,obs,leI,lenI,cst]
 generalize ((_:Bool)||_)=k
 by_cases c1:1≤s.length
 ·by_cases c2:s.length≤12
  ·rw [dzT (show (1:Int)≤s.length by omega),dzT (show (s.length:Int)≤12 by omega),dzT (show 1≤s.length∧s.length≤12 from ⟨c1,c2⟩)]; rfl
  ·rw [dzT (show (1:Int)≤s.length by omega),dzF (show ¬ (s.length:Int)≤12 by omega),dzF (show ¬ (1≤s.length∧s.length≤12) from fun h=>c2 h.2)]; rfl
 ·rw [dzF (show ¬ (1:Int)≤s.length by omega),dzF (show ¬ (1≤s.length∧s.length≤12) from fun h=>c1 h.1)]; rfl
theorem chr_ref (c:Int) (z:Bool):(bif decide (c < 97) then bif z then true else bif decide (c < 48) then !decide (c=95) else bif decide (57 < c) then !decide (c=95) else false
  else bif decide (122 < c) then bif z then true else bif decide (c < 48) then !decide (c=95) else bif decide (57 < c) then !decide (c=95) else false else false)=!(bif z then decide (97≤c∧c≤122) else decide ((97≤c∧c≤122)∨(48≤c∧c≤57)∨c=95)):=by
 cases z <;> by_cases h1:c < 97 <;> by_cases h2:122 < c <;> by_cases h3:c < 48 <;> by_cases h4:57 < c <;> by_cases h5:c=95 <;> simp [h1,h2,h3,h4,h5] <;> omega
theorem r_name (n:Nat) (s:List UInt8) (hn:1000≤n) (hl:s.length≤900):g_ref02_Name n s=some (nameB s):=by
 unfold g_ref02_Name
 have h1:∀ (rec:Int→Option Bool) (a:Unit),(1≤s.length∨s.length=0)→g_ref02_Name_l16 n s rec (s.length:Int)=some (([]:List UInt8).all chrB&&(decide (1≤s.length∧s.length≤12)&&!keyB s)):=by
  intro rec a ha
  simp only [g_ref02_Name_l16,lenI,ltI]
  rw [dzF (by omega),cond_false,r_namej n s hn]
  rfl
 have h2:∀ (rec:Int→Option Bool) (a:Unit) (i:Nat) (x:UInt8) (r:List UInt8),(1≤i∨s.length=0)→s.drop i=x :: r→s[i]?=some x→i < s.length→wi ((i:Int)+1)=((i+1:Nat):Int) →
   (∀ a:Unit,(1≤i+1∨s.length=0)→rec ((i+1:Nat):Int)=some (r.all chrB&&(decide (1≤s.length∧s.length≤12)&&!keyB s)))→g_ref02_Name_l16 n s rec (i:Int)=some ((x :: r).all chrB&&(decide (1≤s.length∧s.length≤12)&&!keyB s)):=by
  intro rec a i x r ha hd hx hi hw hr
  simp only [g_ref02_Name_l16,lenI,ltI,getI_nat,hx,obs,hw,cond_some,eqI_d,chr_ref]
  rw [dzT (by omega),cond_true,dzF (show ¬ (i:Int)=0 by omega),cond_false,hr () (Or.inl (by omega)),List.all_cons]
  show (bif !chrB x then some false else _)=_
  cases chrB x <;> rfl
 cases s with
 | nil =>
  have:=loop_gen (l:=[]) (fun (_:Unit) i=>i) (F:=fun _ r=>r.all chrB&&(decide (1≤([]:List UInt8).length∧([]:List UInt8).length≤12)&&!keyB [])) (fun i _=>1≤i∨([]:List UInt8).length=0) (by simp) h1 h2 (n:=n) 0 () (Or.inr rfl) (by simp) (by simp; omega)
  rw [show ((0:Nat):Int)=0 from rfl] at this
  rw [this]; rfl
 | cons x r =>
  obtain ⟨m,rfl⟩:∃ m,n=m+1:=⟨n - 1,by omega⟩
  have hs:=loop_gen (l:=x :: r) (fun (_:Unit) i=>i) (F:=fun _ q=>q.all chrB&&(decide (1≤(x :: r).length∧(x :: r).length≤12)&&!keyB (x :: r))) (fun i _=>1≤i∨(x :: r).length=0) (by omega) h1 h2 (n:=m) 1 () (Or.inl (Nat.le_refl _)) (by simp) (by simp at hl ⊢; omega)
  rw [show ((1:Nat):Int)=1 from rfl] at hs
  unfold loopN
  show g_ref02_Name_l16 (m+1) (x :: r) (loopN (g_ref02_Name_l16 (m+1) (x :: r)) m) 0=_
  generalize loopN (g_ref02_Name_l16 (m+1) (x :: r)) m=L at hs ⊢
  unfold g_ref02_Name_l16
  rw [show getI (x :: r) 0=some x from rfl]
  simp only [lenI,ltI,obs,cond_some,eqI_d,chr_ref,show wi (0+1)=1 from rfl]
  rw [hs,dzT (show (0:Int) < ((x :: r).length:Nat) by simp),cond_true,decide_true,cond_true]
  unfold nameB
  simp only [List.head?_cons,Option.mem_def,sie,forall_eq',List.drop_succ_cons,List.drop_zero,List.all_cons]
  by_cases hx:97≤b2i x∧b2i x≤122
  ·rw [dzT hx]
   have:chrB x=true:=by unfold chrB; rw [dzT]; exact Or.inl hx
   rw [this]
   cases decide (1≤(x :: r).length∧(x :: r).length≤12) <;> cases keyB (x :: r) <;> cases r.all chrB <;> rfl
  ·rw [dzF hx]
   cases decide (1≤(x :: r).length∧(x :: r).length≤12) <;> rfl
theorem r_article (n:Nat) (a:GAr):g_ref32_Article n a=some (artB a):=by
 unfold g_ref32_Article artB g_a_validArticle
 simp only [a_inside,cond_some,obs,Option.getD_some,eqI_d,ltI,leI]
 rw [sie,Bool.eq_iff_iff]
 obtain ⟨k,d,f,t,p,u,v⟩:=a
 simp only [Bool.cond_eq_ite]
 by_cases k1:k=1
 ·subst k1; simp; omega
 by_cases k2:k=2
 ·subst k2; simp; omega
 by_cases k3:k=3
 ·subst k3; simp; omega
 by_cases k4:k=4
 ·subst k4; simp; omega
 by_cases k5:k=5
 ·subst k5; simp; omega
 by_cases k6:k=6
 ·subst k6; simp; omega
 simp [k1,k2,k3,k4,k5,k6]
 omega
theorem r_tariff (n:Nat) (t:GTf) (hn:1000≤n) (h1:t.Name.length≤900):g_ref32_Valid n t=some (tariffB t):=by
 unfold g_ref32_Valid tariffB
 simp only [r_name n _ hn h1,obs,cond_some,lenI,List.length_map,ltI]
 cases hname:nameB t.Name
 ·rfl
 by_cases h2:t.Articles.length≤12
 rotate_left
 ·rw [dzT (show (12:Int) < t.Articles.length by omega),dzF h2]; rfl
 rw [dzF (show ¬ (12:Int) < t.Articles.length by omega),dzT h2]
 simp only [Bool.not_true,cond_false,Bool.true_and]
 have:=loop_gen (l:=t.Articles) (fun (a:Int) i=>(a,i)) (B:=fun recl4 (v:Int × Int)=>g_ref32_Valid_l4 n t recl4 v.1 v.2) (F:=tarB) (fun i a=>0≤a∧a≤i) (by omega) ?_ ?_ (n:=n) 0 0 (by omega) (by omega) (by omega)
 ·exact this
 ·intro rec a ha
  simp only [g_ref32_Valid_l4,lenI,List.length_map,ltI,leI]
  rw [dzF (by omega),cond_false]
  rfl
 ·intro rec a i x r ha hd hx hi hw hr
  simp only [g_ref32_Valid_l4,lenI,List.length_map,ltI,getI_nat,hx,obs,r_article,hw,eqI_d]
  rw [dzT (by omega),cond_true,tarB]
  cases hb:artB x
  ·rfl
  ·have hw2:wi (a+1)=a+1:=wi_id (by omega) (by omega)
   simp only [Bool.not_true,cond_false,Bool.true_and]
   by_cases h6:x.Kind=6
   ·rw [dzT h6,cond_true,if_pos h6,hw2,hr _ (by omega)]
   ·rw [dzF h6,cond_false,if_neg h6,hr _ (by omega)]
theorem r_off (n:Nat) (x:Int):g_ref26_offset n x=some (decide (-1440≤x∧x≤1440)):=by
 unfold g_ref26_offset
 by_cases h:-1440≤x <;> simp [leI,h]
theorem r_cal5 (n:Nat) (c:GCl) (hn:1000≤n) (hl:c.Holidays.length≤900):g_ref26_Valid_j5 n c=some (holB (-1) c.Holidays):=by
 unfold g_ref26_Valid_j5
 have:=loop_gen (l:=c.Holidays) (fun (_:Int) i=>i) (B:=fun recl6 l6=>g_ref26_Valid_l6 c recl6 l6) (F:=holB) (fun i a=>-1≤a∧(i=0→a=-1)∧(i ≠ 0→c.Holidays[i - 1]?=some a)) (by omega) ?_ ?_ (n:=n) 0 (-1) (by simp) (by omega) (by omega)
 ·exact this
 ·intro rec a ha
  simp only [g_ref26_Valid_l6,lenI,List.length_map,ltI]
  rw [dzF (by omega),cond_false]
  rfl
 ·intro rec a i x r ha hd hx hi hw hr
  simp only [g_ref26_Valid_l6,lenI,List.length_map,ltI,leI,getI_nat,hx,obs,hw]
  rw [dzT (by omega),cond_true,holB]
  by_cases c1:x < 0
  ·rw [dzT c1]
   simp only [cond_true,obs]
   rw [dzF (show ¬ (a < x∧x≤36500) by omega)]; rfl
  rw [dzF c1,cond_false]
  by_cases c2:36500 < x
  ·rw [dzT c2]
   simp only [cond_true,obs]
   rw [dzF (show ¬ (a < x∧x≤36500) by omega)]; rfl
  rw [dzF c2,cond_false]
  have hrr:=hr x ⟨by omega,by omega,fun _=>by simpa using hx⟩
  by_cases c3:i=0
  ·rw [dzF (show ¬ (0:Int) < i by omega)]
   simp only [cond_false,obs]
   rw [hrr,dzT (show a < x∧x≤36500 by have:=ha.2.1 c3; omega)]; rfl
  ·rw [dzT (show (0:Int) < i by omega),cond_true,show wi ((i:Int) - 1)=((i - 1:Nat):Int) from by rw [wi_id] <;> omega,getI_nat,ha.2.2 c3]
   simp only [obs]
   by_cases c4:x≤a
   ·rw [dzT c4,cond_true,dzF (show ¬ (a < x∧x≤36500) by omega)]; rfl
   ·rw [dzF c4,cond_false,hrr,dzT (show a < x∧x≤36500 by omega)]; rfl
theorem r_cal (n:Nat) (c:GCl) (hn:1000≤n) (h1:c.Changes.length≤900) (h2:c.Holidays.length≤900):g_ref26_Valid n c=some (calB c):=by
 have key:loopN (fun recl13 l13=>g_ref26_Valid_l13 n c recl13 l13) n 0=some (chgB (-1) c.Changes&&holB (-1) c.Holidays):=by
  have:=loop_gen (l:=c.Changes) (fun (_:Int) i=>i) (B:=fun recl13 l13=>g_ref26_Valid_l13 n c recl13 l13) (F:=fun a r=>chgB a r&&holB (-1) c.Holidays) (fun i a=>-1≤a∧(i=0→a=-1)∧(i ≠ 0→∃ x,c.Changes[i - 1]?=some x∧x.At=a)) (by omega) ?_ ?_ (n:=n) 0 (-1) (by simp) (by omega) (by omega)
  ·exact this
  ·intro rec a ha
   simp only [g_ref26_Valid_l13,lenI,List.length_map,ltI]
   rw [dzF (by omega),cond_false,r_cal5 n c hn h2]
   rfl
  ·intro rec a i x r ha hd hx hi hw hr
   simp only [g_ref26_Valid_l13,lenI,List.length_map,ltI,leI,getI_nat,hx,obs,hw,r_off]
   rw [dzT (by omega),cond_true,chgB]
   by_cases c0:-1440≤x.Offset∧x.Offset≤1440
   rotate_left
   ·rw [dzF c0]
    simp only [Bool.not_false,cond_true,obs]
    rw [dzF (show ¬ (a < x.At∧x.At≤52560000∧-1440≤x.Offset∧x.Offset≤1440) by omega)]; rfl
   rw [dzT c0,Bool.not_true,cond_false]
   by_cases c1:x.At < 0
   ·rw [dzT c1]
    simp only [cond_true,obs]
    rw [dzF (show ¬ (a < x.At∧x.At≤52560000∧-1440≤x.Offset∧x.Offset≤1440) by omega)]; rfl
   rw [dzF c1,cond_false]
   by_cases c2:52560000 < x.At
   ·rw [dzT c2]
    simp only [cond_true,obs]
    rw [dzF (show ¬ (a < x.At∧x.At≤52560000∧-1440≤x.Offset∧x.Offset≤1440) by omega)]; rfl
   rw [dzF c2,cond_false]
   have hrr:=hr x.At ⟨by omega,by omega,fun _=>⟨x,by simpa using hx,rfl⟩⟩
   by_cases c3:i=0
   ·rw [dzF (show ¬ (0:Int) < i by omega)]
    simp only [cond_false,obs]
    rw [hrr,dzT (show a < x.At∧x.At≤52560000∧-1440≤x.Offset∧x.Offset≤1440 by have:=ha.2.1 c3; omega)]; rfl
   ·obtain ⟨y,hy,hya⟩:=ha.2.2 c3
    rw [dzT (show (0:Int) < i by omega),cond_true,show wi ((i:Int) - 1)=((i - 1:Nat):Int) from by rw [wi_id] <;> omega,getI_nat,hy]
    simp only [obs,hya]
    by_cases c4:x.At≤a
    ·rw [dzT c4,cond_true,dzF (show ¬ (a < x.At∧x.At≤52560000∧-1440≤x.Offset∧x.Offset≤1440) by omega)]; rfl
    ·rw [dzF c4,cond_false,hrr,dzT (show a < x.At∧x.At≤52560000∧-1440≤x.Offset∧x.Offset≤1440 by omega)]; rfl
 unfold g_ref26_Valid calB
 rw [key]
 simp only [r_off,obs,cond_some,lenI,List.length_map,ltI]
 by_cases c0:-1440≤c.Offset∧c.Offset≤1440
 rotate_left
 ·rw [dzF c0]; rfl
 rw [dzT c0]
 by_cases c1:c.Changes.length≤16
 rotate_left
 ·rw [dzT (show (16:Int) < c.Changes.length by omega),dzF c1]; rfl
 rw [dzF (show ¬ (16:Int) < c.Changes.length by omega),dzT c1]
 by_cases c2:c.Holidays.length≤32
 rotate_left
 ·rw [dzT (show (32:Int) < c.Holidays.length by omega),dzF c2]; rfl
 rw [dzF (show ¬ (32:Int) < c.Holidays.length by omega),dzT c2]
 rfl
end Go.Proofs
namespace Go.Proofs
open Go Go.Abs
set_option maxRecDepth 100000
set_option linter.unusedVariables false
structure Art (a:GAr):Prop where
 days:1≤a.Days∧a.Days≤7
 from_:0≤a.From∧a.From≤1439
 to_:a.From < a.To∧a.To≤1440
 price:0≤a.Price∧a.Price≤1000000
 kind:1≤a.Kind∧a.Kind≤6
 unit:a.Kind=3∨a.Kind=4→1≤a.Unit∧a.Unit≤1440∧0≤a.Free∧a.Free≤1440
 rate:a.Kind=6→a.Price≤10000
theorem artB_art {a:GAr} (h:artB a=true):Art a:=by
 unfold artB g_a_validArticle at h
 simp only [a_inside,cond_some,obs,Option.getD_some,eqI_d,ltI,leI] at h
 obtain ⟨k,d,f,t,p,u,v⟩:=a
 simp only [Bool.cond_eq_ite] at h
 by_cases k1:k=1
 ·subst k1; simp at h; constructor <;> simp <;> omega
 by_cases k2:k=2
 ·subst k2; simp at h; constructor <;> simp <;> omega
 by_cases k3:k=3
 ·subst k3; simp at h; constructor <;> simp <;> omega
 by_cases k4:k=4
 ·subst k4; simp at h; constructor <;> simp <;> omega
 by_cases k5:k=5
 ·subst k5; simp at h; constructor <;> simp <;> omega
 by_cases k6:k=6
 ·subst k6; simp at h; constructor <;> simp <;> omega
 exfalso
 simp [k3,k4,k5,k6] at h
 omega
theorem offF_range (m:Int):∀ (l:List GCh) (p o:Int),chgB p l=true→(-1440≤o∧o≤1440)→-1440≤offF m o l∧offF m o l≤1440
 | [],_,o,_,h=>h
 | x :: r,p,o,hc,h=>by
  simp only [chgB,bae,decide_eq_true_eq] at hc
  unfold offF
  refine offF_range m r x.At _ hc.2 ?_
  split
  ·exact ⟨hc.1.2.2.1,hc.1.2.2.2⟩
  ·exact h
theorem cal_off {c:GCl} (m:Int) (h:calB c=true):-1440≤offF m c.Offset c.Changes∧offF m c.Offset c.Changes≤1440:=by
 simp only [calB,bae,decide_eq_true_eq] at h
 exact offF_range m _ _ _ h.1.2 h.1.1.1.1
theorem r_offset (n:Nat) (c:GCl) (m:Int) (hn:1000≤n) (hl:c.Changes.length≤900):g_ref26_Offset n c m=some (offF m c.Offset c.Changes):=by
 unfold g_ref26_Offset
 have:=loop_acc (l:=c.Changes) (B:=fun recl1 (v:Int × Int)=>g_ref26_Offset_l1 c m recl1 v.1 v.2) (F:=offF m) (by omega) ?_ ?_ (n:=n) 0 c.Offset (by omega) (by omega)
 ·exact this
 ·intro rec a; simp [g_ref26_Offset_l1,ltI,lenI,offF]
 ·intro rec a i x r hd hx hi hw hr
  simp only [g_ref26_Offset_l1,lenI,List.length_map,getI_nat,hx,obs,hw,hr,ltI,leI,offF]
  rw [dzT (by omega),cond_true]
  by_cases h:x.At≤m <;> simp [h]
theorem r_type (n:Nat) (c:GCl) (d:Int) (hn:1000≤n) (h1:c.Changes.length≤900) (h2:c.Holidays.length≤900) (hc:calB c=true) (hd:-1≤d∧d≤36501):g_ref26_Type n c d=some (typF d c.Holidays,0):=by
 unfold g_ref26_Type
 rw [r_cal n c hn h1 h2,hc]
 simp only [obs,Bool.not_true,cond_false,ltI]
 rw [dzF (show ¬ d < -1 by omega),cond_false,obs,dzF (show ¬ 36501 < d by omega),cond_false]
 have:=loop_list (l:=c.Holidays) (B:=fun recl6 l6=>g_ref26_Type_l6 c d recl6 l6) (F:=fun r=>(typF d r,(0:Int))) (by omega) ?_ ?_ (n:=n) 0 (by omega) (by omega)
 ·exact this
 ·intro rec
  simp only [g_ref26_Type_l6,g_ref26_Type_j5,lenI,List.length_map,ltI,eqI_d,typF,wkF]
  rw [dzF (by omega),cond_false]
  by_cases k1:Int.tmod (wi (d+7)) 7=5
  ·simp [k1]
  ·by_cases k2:Int.tmod (wi (d+7)) 7=6 <;> simp [k1,k2]
 ·intro rec i x r hd hx hi hw hr
  simp only [g_ref26_Type_l6,lenI,List.length_map,getI_nat,hx,obs,hw,hr,ltI,eqI_d,typF]
  rw [dzT (by omega),cond_true]
  by_cases h:x=d <;> simp [h]
theorem days_lem (d t:Int) (hd:1≤d∧d≤7) (ht:0≤t∧t≤2) :
  (bif decide (t=2) then decide (Int.tmod (wi (Int.tdiv d 4)) 2=1) else bif decide (t=1) then decide (Int.tmod (wi (Int.tdiv d 2)) 2=1) else decide (Int.tmod d 2=1))=!decide (bAnd .i64 d (shlI .i64 1 t)=0):=by
 have hd':d=1∨d=2∨d=3∨d=4∨d=5∨d=6∨d=7:=by omega
 have ht':t=0∨t=1∨t=2:=by omega
 rcases hd' with rfl | rfl | rfl | rfl | rfl | rfl | rfl <;> rcases ht' with rfl | rfl | rfl <;> decide
theorem r_applies (n:Nat) (c:GCl) (a:GAr) (m:Int) (hn:1000≤n) (h1:c.Changes.length≤900) (h2:c.Holidays.length≤900) (hc:calB c=true) (ha:artB a=true) (hm:0≤m∧m≤52560000) :
  g_ref32_Applies n a c m=some (appB c a m):=by
 have ho:=cal_off m hc
 have hA:=artB_art ha
 have hloc:g_ref26_Local n c m=some ((m+offF m c.Offset c.Changes+1440) / 1440 - 1,(m+offF m c.Offset c.Changes+1440) % 1440,0):=by
  unfold g_ref26_Local
  rw [r_cal n c hn h1 h2,hc]
  simp only [obs,Bool.not_true,cond_false,ltI]
  rw [dzF (show ¬ m < 0 by omega),cond_false,obs,dzF (show ¬ 52560000 < m by omega),cond_false,r_offset n c m hn h1,obs]
  generalize offF m c.Offset c.Changes=o at ho
  rw [wi_id (x:=m+o) (by omega) (by omega)]
  by_cases hneg:m+o < 0
  ·rw [dzT hneg,cond_true,wi_id (x:=m+o - -1440) (by omega) (by omega)]
   congr 2
   ·omega
   ·congr 1
    omega
  ·rw [dzF hneg,cond_false,Int.tdiv_eq_ediv_of_nonneg (by omega)]
   rw [wi_id (x:=(m+o) / 1440) (by omega) (by omega),wi_id (x:=1440 * ((m+o) / 1440)) (by omega) (by omega),wi_id (by omega) (by omega)]
   congr 2
   ·omega
   ·congr 1
    omega
 unfold g_ref32_Applies appB
 rw [r_article,ha,hloc]
 simp only [obs,Bool.not_true,cond_false,eqI_d,decide_true]
 generalize offF m c.Offset c.Changes=o at ho
 rw [wi_id (x:=m+o) (by omega) (by omega),wi_id (x:=m+o+1440) (by omega) (by omega)]
 rw [Int.tdiv_eq_ediv_of_nonneg (a:=m+o+1440) (by omega),Int.tmod_eq_emod_of_nonneg (a:=m+o+1440) (by omega)]
 rw [wi_id (x:=(m+o+1440) / 1440) (by omega) (by omega),wi_id (x:=(m+o+1440) / 1440 - 1) (by omega) (by omega)]
 rw [r_type n c _ hn h1 h2 hc (by omega)]
 simp only [obs,cond_some,leI,ltI]
 rw [days_lem _ _ hA.days (typF_range _ _)]
 generalize decide (bAnd .i64 a.Days (shlI .i64 1 (typF ((m+o+1440) / 1440 - 1) c.Holidays))=0)=b
 generalize decide (a.From≤(m+o+1440) % 1440)=b1
 generalize decide ((m+o+1440) % 1440 < a.To)=b2
 cases b <;> cases b1 <;> cases b2 <;> rfl
end Go.Proofs
namespace Go.Proofs
open Go Go.Abs
set_option maxRecDepth 100000
set_option linter.unusedVariables false
theorem b_goodWord (n:Nat) (s:List UInt8) (hn:1000≤n):g_p_goodWord n s=some (decide (1≤s.length∧s.length≤12)&&decide (∀ x ∈ s.head?,97≤b2i x∧b2i x≤122)&&s.all chrB):=by
 unfold g_p_goodWord
 simp only [lenI,ltI]
 cases s with
 | nil=>simp
 | cons x r =>
  rw [dzF (show ¬ (((x :: r).length:Nat):Int) < 1 by simp only [List.length_cons]; omega),cond_false]
  by_cases hl:(x :: r).length≤12
  rotate_left
  ·rw [dzT (show (12:Int) < (((x :: r).length:Nat):Int) by omega),dzF (show ¬ (1≤(x :: r).length∧(x :: r).length≤12) by omega)]; rfl
  rw [dzF (show ¬ (12:Int) < (((x :: r).length:Nat):Int) by omega),cond_false,dzT (show 1≤(x :: r).length∧(x :: r).length≤12 by simp only [List.length_cons] at hl ⊢; omega)]
  rw [show getI (x :: r) 0=some x from rfl]
  have hloop:loopN (fun recl7 l7=>g_p_goodWord_l7 (x :: r) recl7 l7) n 1=some (r.all chrB):=by
   have:=loop_list (l:=x :: r) (B:=fun recl7 l7=>g_p_goodWord_l7 (x :: r) recl7 l7) (F:=fun r=>r.all chrB) (by omega) ?_ ?_ (n:=n) 1 (by simp) (by omega)
   ·simpa using this
   ·intro rec; simp [g_p_goodWord_l7,ltI,lenI]
   ·intro rec i y q hd hx hi hw hr
    unfold g_p_goodWord_l7
    simp only [lenI,getI_nat,hx,obs,hw,hr,ltI,leI,eqI,cond_some]
    rw [dzT (by omega),cond_true,List.all_cons]
    rw [chr_lem,chrB]
    cases decide ((97≤b2i y∧b2i y≤122)∨(48≤b2i y∧b2i y≤57)∨b2i y=95) <;> simp
  rw [hloop]
  simp only [obs,cond_some,List.head?_cons,Option.mem_def,sie,forall_eq',Bool.true_and,List.all_cons]
  by_cases h1:b2i x < 97
  ·rw [dzT h1,dzF (show ¬ (97≤b2i x∧b2i x≤122) by omega)]; rfl
  ·rw [dzF h1,cond_false]
   by_cases h2:122 < b2i x
   ·rw [dzT h2,dzF (show ¬ (97≤b2i x∧b2i x≤122) by omega)]; rfl
   ·have h3:97≤b2i x∧b2i x≤122:=by omega
    have h4:chrB x=true:=by unfold chrB; rw [dzT]; exact Or.inl h3
    rw [dzF h2,dzT h3,h4]; rfl
theorem cnz (b:Bool) (k r:Int) (hk:k ≠ 0):(!eqI (bif b then k else r) 0)=(b||!eqI r 0):=by
 cases b
 ·rfl
 ·simp [eqI,hk]
theorem b_isKey (n:Nat) (s:List UInt8):g_p_isKey n s=some (keyB s):=by
 unfold g_p_isKey g_p_kindOf g_p_isAttr g_p_isArticle g_p_isWord
 rw [keyB_mem]
 simp only [cond_some,obs,cse,cst,keyL,g_ref02_Kinds,g_ref02_Attrs,g_ref02_Articles,g_ref02_Words,Option.getD_some,List.cons_append,List.nil_append,List.contains_cons,List.contains_nil,Bool.or_false,eqS]
 rw [cnz _ 1 _ (by decide),cnz _ 2 _ (by decide),cnz _ 3 _ (by decide),cnz _ 4 _ (by decide),cnz _ 5 _ (by decide),cnz _ 6 _ (by decide),cnz _ 7 _ (by decide),show (!eqI 0 0)=false from rfl]
 simp only [Bool.or_assoc,Bool.or_false]
theorem b_goodName (n:Nat) (s:List UInt8) (hn:1000≤n):g_p_goodName n s=some (nameB s):=by
 unfold g_p_goodName nameB
 rw [b_goodWord n s hn,obs,b_isKey,obs,cond_some]
 generalize decide (1≤s.length∧s.length≤12)=a
 generalize decide (∀ x ∈ s.head?,97≤b2i x∧b2i x≤122)=b
 generalize s.all chrB=c
 generalize keyB s=d
 cases a <;> cases b <;> cases c <;> cases d <;> rfl
theorem of_cs' (k:Int) (s:List UInt8) (m t:Int) (l:List (List PV)):GNode.of (GNode.cs ⟨k,s,m,t,l⟩)=some ⟨k,s,m,t,l⟩:=by
 unfold GNode.cs GNode.of
 simp only [map_idc,byt_mkS,if_true]
theorem b_parser (n:Nat) (s:List UInt8) (hn:1000≤n):g_p_Valid n (⟨1,[],0,0,[GNode.cs (⟨2,s,3,0,[]⟩:GNode)]⟩:GNode)=some (nameB s):=by
 obtain ⟨m,rfl⟩:∃ m,n=m+2:=⟨n - 2,by omega⟩
 have hitem:g_p_validItem (m+2) (⟨2,s,3,0,[]⟩:GNode) 1498=some (nameB s,1498):=by
  unfold g_p_validItem
  rw [b_goodName (m+2) s hn]
  simp only [show (!eqI 2 2)=false from rfl,show ltI 3 1=false from rfl,show ltI 7 3=false from rfl,cond_false,obs]
  cases nameB s
  ·rfl
  ·unfold loopN; rfl
 unfold g_p_Valid
 have e1:((bif !eqI 1 1 then some true else bif !eqS [] [] then some true else bif !eqI 0 0 then some true else some (ltI (wi (1499 - lenI (List.map idc [GNode.cs (⟨2,s,3,0,[]⟩:GNode)]))) 0)))=some false:=rfl
 have e2:wi (1499 - lenI (List.map idc [GNode.cs (⟨2,s,3,0,[]⟩:GNode)]))=1498:=rfl
 simp only
 rw [e1,obs,cond_false,e2]
 unfold loopN
 simp only [g_p_Valid_l5]
 rw [show ltI 0 (lenI (List.map idc [GNode.cs (⟨2,s,3,0,[]⟩:GNode)]))=true from rfl,cond_true,show getI [GNode.cs (⟨2,s,3,0,[]⟩:GNode)] 0=some (GNode.cs (⟨2,s,3,0,[]⟩:GNode)) from rfl,obs,of_cs',obs,hitem,obs]
 cases nameB s
 ·rfl
 ·unfold loopN; rfl
theorem b_inside (n:Nat) (x a b:Int):g_t_inside n x a b=some (decide (a≤x∧x≤b)):=by
 unfold g_t_inside leI
 by_cases h:a≤x <;> simp [h]
theorem b_article (n:Nat) (a:GAr):g_t_validArticle n a=some (artB a):=by
 have bad:¬ Art a→some false=some (artB a):=by
  intro h
  cases hb:artB a
  ·rfl
  ·exact absurd (artB_art hb) h
 unfold g_t_validArticle g_t_isWhole g_t_isTime
 simp only [b_inside,obs]
 by_cases c2:1≤a.Kind∧a.Kind≤6
 rotate_left
 ·rw [dzF c2]; exact bad (fun h=>c2 h.kind)
 rw [dzT c2]
 by_cases c4:0≤a.From∧a.From≤1439
 rotate_left
 ·rw [dzF c4]; exact bad (fun h=>c4 h.from_)
 rw [dzT c4,wi_id (x:=a.From+1) (by omega) (by omega)]
 by_cases c6:a.From+1≤a.To∧a.To≤1440
 rotate_left
 ·rw [dzF c6]; exact bad (fun h=>by have:=h.to_; omega)
 rw [dzT c6]
 by_cases c8:1≤a.Days∧a.Days≤7
 rotate_left
 ·rw [dzF c8]; exact bad (fun h=>c8 h.days)
 rw [dzT c8]
 unfold artB g_a_validArticle
 simp only [a_inside,cond_some,obs,Option.getD_some,eqI_d,Bool.not_true,cond_false]
 rw [sie,Bool.eq_iff_iff]
 obtain ⟨k,d,f,t,p,u,v⟩:=a
 simp only at c2 c4 c6 c8
 simp only [Bool.cond_eq_ite]
 have hk:k=1∨k=2∨k=3∨k=4∨k=5∨k=6:=by omega
 rcases hk with rfl | rfl | rfl | rfl | rfl | rfl <;> simp [leI,ltI] <;> omega
theorem b_tariff (n:Nat) (t:GTf) (hn:1000≤n):g_t_Valid n t=some (tariffB t):=by
 unfold g_t_Valid tariffB
 rw [b_parser n t.Name hn]
 simp only [obs,cond_some,lenI,List.length_map,ltI]
 cases hname:nameB t.Name
 ·rfl
 by_cases h2:t.Articles.length≤12
 rotate_left
 ·rw [dzT (show (12:Int) < t.Articles.length by omega),dzF h2]; rfl
 rw [dzF (show ¬ (12:Int) < t.Articles.length by omega),dzT h2]
 simp only [Bool.not_true,cond_false,Bool.true_and]
 have:=loop_gen (l:=t.Articles) (fun (a:Int) i=>(a,i)) (B:=fun recl4 (v:Int × Int)=>g_t_Valid_l4 n t recl4 v.1 v.2) (F:=tarB) (fun i a=>0≤a∧a≤i) (by omega) ?_ ?_ (n:=n) 0 0 (by omega) (by omega) (by omega)
 ·exact this
 ·intro rec a ha
  simp only [g_t_Valid_l4,lenI,List.length_map,ltI,leI]
  rw [dzF (by omega),cond_false]
  rfl
 ·intro rec a i x r ha hd hx hi hw hr
  simp only [g_t_Valid_l4,lenI,List.length_map,ltI,getI_nat,hx,obs,b_article,hw,eqI_d]
  rw [dzT (by omega),cond_true,tarB]
  cases hb:artB x
  ·rfl
  ·have hw2:wi (a+1)=a+1:=wi_id (by omega) (by omega)
   simp only [Bool.not_true,cond_false,Bool.true_and]
   by_cases h6:x.Kind=6
   ·rw [dzT h6,cond_true,if_pos h6,hw2,hr _ (by omega)]
   ·rw [dzF h6,cond_false,if_neg h6,hr _ (by omega)]
def chK:Int→List GCh→Bool
 | _,[]=>true
 | a,x :: r=>decide (a < x.At∧x.At≤52560000)&&chK x.At r
def chO (l:List GCh):Bool:=l.all (fun x=>decide (-1440≤x.Offset∧x.Offset≤1440))
theorem chgB_KO:∀ (l:List GCh) (a:Int),chgB a l=(chO l&&chK a l)
 | [],_=>rfl
 | x :: r,a=>by
  unfold chgB chK
  rw [chgB_KO r x.At,show chO (x :: r)=(decide (-1440≤x.Offset∧x.Offset≤1440)&&chO r) from List.all_cons]
  by_cases c1:a < x.At∧x.At≤52560000
  ·by_cases c2:-1440≤x.Offset∧x.Offset≤1440
   ·rw [dzT (show a < x.At∧x.At≤52560000∧-1440≤x.Offset∧x.Offset≤1440 by omega),dzT c1,dzT c2]; rfl
   ·rw [dzF (show ¬ (a < x.At∧x.At≤52560000∧-1440≤x.Offset∧x.Offset≤1440) by omega),dzF c2]; rfl
  ·rw [dzF (show ¬ (a < x.At∧x.At≤52560000∧-1440≤x.Offset∧x.Offset≤1440) by omega),dzF c1]
   simp
theorem b_dinside (n:Nat) (x a b:Int):g_days_inside n x a b=some (decide (a≤x∧x≤b)):=by
 unfold g_days_inside leI
 by_cases h:a≤x <;> simp [h]
theorem b_listC (n:Nat) (l:List GCh) (hn:1000≤n) (hl:l.length≤900):g_dv_api_Change n l 52560000=some (chK (-1) l):=by
 unfold g_dv_api_Change
 have:=loop_acc (l:=l) (B:=fun recl1 (v:Int × Int)=>g_dv_api_Change_l1 n l 52560000 recl1 v.1 v.2) (F:=chK) (by omega) ?_ ?_ (n:=n) 0 (-1) (by omega) (by omega)
 ·exact this
 ·intro rec a; simp [g_dv_api_Change_l1,ltI,lenI,chK]
 ·intro rec a i x r hd hx hi hw hr
  simp only [g_dv_api_Change_l1,g_days_keys_1,lenI,List.length_map,getI_nat,hx,obs,hw,hr,ltI,leI,chK,cond_some]
  rw [dzT (by omega),cond_true]
  by_cases h1:x.At≤a
  ·rw [dzT h1,dzF (show ¬ (a < x.At∧x.At≤52560000) by omega)]; rfl
  ·rw [dzF h1]
   by_cases h2:52560000 < x.At
   ·rw [dzT h2,dzF (show ¬ (a < x.At∧x.At≤52560000) by omega)]; rfl
   ·rw [dzF h2,dzT (show a < x.At∧x.At≤52560000 by omega)]; rfl
theorem b_listI (n:Nat) (l:List Int) (hn:1000≤n) (hl:l.length≤900):g_dv_int n l 36500=some (holB (-1) l):=by
 unfold g_dv_int
 have:=loop_acc (l:=l) (B:=fun recl1 (v:Int × Int)=>g_dv_int_l1 n l 36500 recl1 v.1 v.2) (F:=holB) (by omega) ?_ ?_ (n:=n) 0 (-1) (by omega) (by omega)
 ·exact this
 ·intro rec a; simp [g_dv_int_l1,ltI,lenI,holB]
 ·intro rec a i x r hd hx hi hw hr
  simp only [g_dv_int_l1,g_days_keys_2,lenI,List.length_map,getI_nat,hx,obs,hw,hr,ltI,leI,holB,cond_some]
  rw [dzT (by omega),cond_true]
  by_cases h1:x≤a
  ·rw [dzT h1,dzF (show ¬ (a < x∧x≤36500) by omega)]; rfl
  ·rw [dzF h1]
   by_cases h2:36500 < x
   ·rw [dzT h2,dzF (show ¬ (a < x∧x≤36500) by omega)]; rfl
   ·rw [dzF h2,dzT (show a < x∧x≤36500 by omega)]; rfl
theorem b_cal (n:Nat) (c:GCl) (hn:1000≤n) (h1:c.Changes.length≤900) (h2:c.Holidays.length≤900):g_days_Valid n c=some (calB c):=by
 have key:loopN (fun recl9 l9=>g_days_Valid_l9 n c recl9 l9) n 0=some (chO c.Changes&&(chK (-1) c.Changes&&holB (-1) c.Holidays)):=by
  have:=loop_list (l:=c.Changes) (B:=fun recl9 l9=>g_days_Valid_l9 n c recl9 l9) (F:=fun r=>chO r&&(chK (-1) c.Changes&&holB (-1) c.Holidays)) (by omega) ?_ ?_ (n:=n) 0 (by omega) (by omega)
  ·exact this
  ·intro rec
   simp only [g_days_Valid_l9,g_days_Valid_j5,lenI,List.length_map,ltI,b_listC n _ hn h1,b_listI n _ hn h2,obs,cond_some]
   rw [dzF (by omega),cond_false]
   cases chK (-1) c.Changes <;> rfl
  ·intro rec i x r hd hx hi hw hr
   simp only [g_days_Valid_l9,lenI,List.length_map,getI_nat,hx,obs,hw,hr,ltI,b_dinside]
   rw [dzT (by omega),cond_true,show chO (x :: r)=(decide (-1440≤x.Offset∧x.Offset≤1440)&&chO r) from List.all_cons]
   cases decide (-1440≤x.Offset∧x.Offset≤1440) <;> rfl
 unfold g_days_Valid calB
 rw [key,chgB_KO]
 simp only [b_dinside,obs,cond_some,lenI,List.length_map,ltI]
 by_cases c1:c.Changes.length≤16
 rotate_left
 ·rw [dzT (show (16:Int) < c.Changes.length by omega),dzF c1]; simp
 rw [dzF (show ¬ (16:Int) < c.Changes.length by omega),dzT c1]
 by_cases c2:c.Holidays.length≤32
 rotate_left
 ·rw [dzT (show (32:Int) < c.Holidays.length by omega),dzF c2]; simp
 rw [dzF (show ¬ (32:Int) < c.Holidays.length by omega),dzT c2]
 generalize decide (-1440≤c.Offset∧c.Offset≤1440)=b0
 generalize chO c.Changes=b1
 generalize chK (-1) c.Changes=b2
 generalize holB (-1) c.Holidays=b3
 cases b0 <;> cases b1 <;> cases b2 <;> cases b3 <;> rfl
end Go.Proofs
namespace Go.Proofs
open Go Go.Abs
set_option maxRecDepth 100000
set_option linter.unusedVariables false
theorem chK_lt:∀ (l:List GCh) (a:Int),chK a l=true→(∀ x ∈ l,a < x.At)∧l.Pairwise (fun x y=>x.At < y.At)
 | [],_,_=>⟨(fun x h=>by cases h),List.Pairwise.nil⟩
 | x :: r,a,h=>by
  simp only [chK,bae,decide_eq_true_eq] at h
  obtain ⟨h1,h2⟩:=chK_lt r x.At h.2
  refine ⟨fun y hy=>?_,List.pairwise_cons.2 ⟨h1,h2⟩⟩
  rcases List.mem_cons.1 hy with rfl | hy
  ·exact h.1.1
  ·have:=h1 y hy; omega
theorem holB_lt:∀ (l:List Int) (a:Int),holB a l=true→(∀ x ∈ l,a < x)∧l.Pairwise (fun x y=>x < y)
 | [],_,_=>⟨(fun x h=>by cases h),List.Pairwise.nil⟩
 | x :: r,a,h=>by
  simp only [holB,bae,decide_eq_true_eq] at h
  obtain ⟨h1,h2⟩:=holB_lt r x h.2
  refine ⟨fun y hy=>?_,List.pairwise_cons.2 ⟨h1,h2⟩⟩
  rcases List.mem_cons.1 hy with rfl | hy
  ·exact h.1.1
  ·have:=h1 y hy; omega
structure LastOf {α:Type} (key:α→Int) (l:List α) (m r:Int):Prop where
 lo:-1≤r
 hi:r < l.length
 le:∀ (i:Nat) (x:α),(i:Int)≤r→l[i]?=some x→key x≤m
 gt:∀ (i:Nat) (x:α),r < (i:Int)→l[i]?=some x→m < key x
theorem last_gen {α:Type} {key:α→Int} {l:List α} {m:Int} {B:(Int × Int→Option Int)→Int × Int→Option Int} (hl:l.length≤900) (hs:l.Pairwise (fun x y=>key x < key y))
  (hB:∀ rec lo hi,B rec (lo,hi)=cond (ltI lo hi) ((getI l (wi (lo+wi (Int.tdiv (wi (wi (hi - lo)+1)) 2)))).bind fun x=>cond (leI (key x) m) (rec (wi (lo+wi (Int.tdiv (wi (wi (hi - lo)+1)) 2)),hi)) (rec (lo,wi (wi (lo+wi (Int.tdiv (wi (wi (hi - lo)+1)) 2)) - 1)))) (some lo))
  {n:Nat} (hn:1000≤n):Does (loopN B n (-1,(l.length:Int) - 1)) (LastOf key l m):=by
 have:=does_loop (B:=B) (Q:=fun _ r=>LastOf key l m r) (fun v=>(v.2 - v.1).toNat) (fun v=>-1≤v.1∧v.1≤v.2∧v.2 < l.length∧(∀ (i:Nat) (x:α),(i:Int)≤v.1→l[i]?=some x→key x≤m)∧(∀ (i:Nat) (x:α),v.2 < (i:Int)→l[i]?=some x→m < key x)) ?_ (n:=n) (v:=(-1,(l.length:Int) - 1)) ⟨by simp,by simp; omega,by simp; omega,fun i x h=>by simp only at h; omega,fun i x h hx=>by
  have:=(List.getElem?_eq_some_iff.1 hx).1
  simp only at h
  omega⟩ (by simp only; omega)
 ·exact this
 ·rintro rec ⟨lo,hi⟩ ⟨h1,h2,h3,h4,h5⟩ ih
  simp only at h1 h2 h3 h4 h5 ih
  rw [hB]
  by_cases hlt:lo < hi
  rotate_left
  ·rw [show ltI lo hi=false from by simp only [ltI]; rw [dzF hlt],cond_false]
   exact does_some ⟨h1,by omega,h4,fun i x hi' hx=>h5 i x (by omega) hx⟩
  rw [show ltI lo hi=true from by simp only [ltI]; rw [dzT hlt],cond_true]
  rw [wi_id (x:=hi - lo) (by omega) (by omega),wi_id (x:=hi - lo+1) (by omega) (by omega),Int.tdiv_eq_ediv_of_nonneg (by omega),wi_id (x:=(hi - lo+1) / 2) (by omega) (by omega),wi_id (x:=lo+(hi - lo+1) / 2) (by omega) (by omega),wi_id (x:=lo+(hi - lo+1) / 2 - 1) (by omega) (by omega)]
  generalize hmid:lo+(hi - lo+1) / 2=mid
  have hm:lo < mid∧mid≤hi:=by omega
  obtain ⟨j,rfl⟩:∃ j:Nat,mid=(j:Int):=⟨mid.toNat,by omega⟩
  have hx:l[j]?=some (l[j]'(by omega)):=by rw [List.getElem?_eq_getElem]
  generalize l[j]'(by omega)=x at hx
  rw [getI_nat,hx,obs]
  refine does_cond (fun hc=>?_) (fun hc=>?_)
  ·simp only [leI,decide_eq_true_eq] at hc
   refine ih (j,hi) ⟨by simp only; omega,by simp only; omega,h3,fun i y hi' hy=>?_,h5⟩ (by simp only; omega)
   simp only at hi'
   by_cases e:i=j
   ·subst e
    rw [hx] at hy; cases hy
    exact hc
   ·have hij:i < j:=by omega
    have hy':=List.getElem?_eq_some_iff.1 hy
    have hx':=List.getElem?_eq_some_iff.1 hx
    have:=List.pairwise_iff_getElem.1 hs i j hy'.1 hx'.1 hij
    rw [hy'.2,hx'.2] at this
    omega
  ·simp only [leI,decide_eq_false_iff_not] at hc
   refine ih (lo,(j:Int) - 1) ⟨h1,by simp only; omega,by simp only; omega,h4,fun i y hi' hy=>?_⟩ (by simp only; omega)
   simp only at hi'
   by_cases e:i=j
   ·subst e
    rw [hx] at hy; cases hy
    omega
   ·have hij:j < i:=by omega
    have hy':=List.getElem?_eq_some_iff.1 hy
    have hx':=List.getElem?_eq_some_iff.1 hx
    have:=List.pairwise_iff_getElem.1 hs j i hx'.1 hy'.1 hij
    rw [hy'.2,hx'.2] at this
    omega
theorem b_lastC (n:Nat) (l:List GCh) (m:Int) (hn:1000≤n) (hl:l.length≤900) (hs:chK (-1) l=true):Does (g_days_last_api_Change n l m) (LastOf GCh.At l m):=by
 unfold g_days_last_api_Change
 simp only [lenI,List.length_map]
 rw [wi_id (x:=(l.length:Int) - 1) (by omega) (by omega)]
 exact last_gen (B:=fun recl1 (v:Int × Int)=>g_days_last_api_Change_l1 n l m recl1 v.1 v.2) hl (chK_lt l _ hs).2 (fun rec lo hi=>rfl) hn
theorem b_lastI (n:Nat) (l:List Int) (m:Int) (hn:1000≤n) (hl:l.length≤900) (hs:holB (-1) l=true):Does (g_days_last_int n l m) (LastOf (fun x=>x) l m):=by
 unfold g_days_last_int
 simp only [lenI,List.length_map]
 rw [wi_id (x:=(l.length:Int) - 1) (by omega) (by omega)]
 exact last_gen (key:=fun x=>x) (B:=fun recl1 (v:Int × Int)=>g_days_last_int_l1 n l m recl1 v.1 v.2) hl (holB_lt l _ hs).2 (fun rec lo hi=>rfl) hn
theorem offF_gt (m:Int):∀ (l:List GCh) (o:Int),(∀ x ∈ l,m < x.At)→offF m o l=o
 | [],_,_=>rfl
 | x :: r,o,h=>by
  have:=h x List.mem_cons_self
  unfold offF
  rw [if_neg (by omega)]
  exact offF_gt m r o (fun y hy=>h y (List.mem_cons_of_mem _ hy))
theorem offF_at (m:Int):∀ (l:List GCh) (o:Int) (k:Nat) (x:GCh),l[k]?=some x→(∀ (i:Nat) (y:GCh),i≤k→l[i]?=some y→y.At≤m)→(∀ (i:Nat) (y:GCh),k < i→l[i]?=some y→m < y.At)→offF m o l=x.Offset
 | [],_,_,_,h,_,_=>by simp at h
 | z :: r,o,0,x,h,h1,h2=>by
  simp at h
  subst h
  unfold offF
  rw [if_pos (h1 0 z (Nat.le_refl _) rfl)]
  exact offF_gt m r _ (fun y hy=>by
   obtain ⟨i,hi⟩:=List.mem_iff_getElem?.1 hy
   exact h2 (i+1) y (by omega) (by simpa using hi))
 | z :: r,o,k+1,x,h,h1,h2=>by
  unfold offF
  exact offF_at m r _ k x (by simpa using h) (fun i y hi hy=>h1 (i+1) y (by omega) (by simpa using hy)) (fun i y hi hy=>h2 (i+1) y (by omega) (by simpa using hy))
theorem typF_mem (d:Int):∀ (l:List Int),typF d l=if d ∈ l then 2 else wkF d
 | []=>by simp [typF]
 | x :: r=>by
  unfold typF
  rw [typF_mem d r]
  by_cases h:x=d
  ·simp [h]
  ·simp [h,Ne.symm h]
theorem tdiv_neg' (x:Int) (b:Int) (h:x≤0):Int.tdiv x b=-((-x) / b)∧Int.tmod x b=-((-x) % b):=by
 obtain ⟨y,rfl⟩:∃ y:Int,x=-y:=⟨-x,by omega⟩
 rw [Int.neg_tdiv,Int.neg_tmod,Int.neg_neg,Int.tdiv_eq_ediv_of_nonneg (by omega),Int.tmod_eq_emod_of_nonneg (by omega)]
 exact ⟨rfl,rfl⟩
theorem b_split1440 (n:Nat) (x:Int) (h:-1440≤x∧x≤100000000):g_days_split n x 1440=some ((x+1440) / 1440 - 1,(x+1440) % 1440):=by
 unfold g_days_split
 rw [show (!eqI 1440 0)=true from rfl,cond_true,cond_true]
 simp only [ltI]
 by_cases hx:0≤x
 ·rw [Int.tdiv_eq_ediv_of_nonneg hx,Int.tmod_eq_emod_of_nonneg hx,dzF (by omega),cond_false,wi_id (x:=x / 1440) (by omega) (by omega)]
  congr 2
  ·omega
  ·omega
 ·obtain ⟨e1,e2⟩:=tdiv_neg' x 1440 (by omega)
  rw [e1,e2]
  by_cases hm:-((-x) % 1440) < 0
  ·rw [dzT hm,cond_true,wi_id (x:=-((-x) / 1440)) (by omega) (by omega),wi_id (by omega) (by omega),wi_id (by omega) (by omega)]
   congr 2
   ·omega
   ·omega
  ·rw [dzF hm,cond_false,wi_id (x:=-((-x) / 1440)) (by omega) (by omega)]
   congr 2
   ·omega
   ·omega
theorem b_local (n:Nat) (c:GCl) (m:Int) (hn:1000≤n) (h1:c.Changes.length≤900) (h2:c.Holidays.length≤900) (hc:calB c=true) (hm:0≤m∧m≤52560000) :
  g_days_Local n c m=some ((m+offF m c.Offset c.Changes+1440) / 1440 - 1,(m+offF m c.Offset c.Changes+1440) % 1440,0):=by
 have ho:=cal_off m hc
 have hc':=hc
 simp only [calB,bae] at hc'
 have hK:chK (-1) c.Changes=true:=by
  have:=hc'.1.2
  rw [chgB_KO,bae] at this
  exact this.2
 unfold g_days_Local
 rw [b_cal n c hn h1 h2,hc,b_dinside,dzT hm]
 simp only [obs,Bool.not_true,cond_false]
 obtain ⟨r,e,L⟩:=b_lastC n c.Changes m hn h1 hK
 rw [e]
 simp only [obs]
 have hoff:(bif leI 0 r then (getI c.Changes r).bind fun x7=>some x7.Offset else some c.Offset)=some (offF m c.Offset c.Changes):=by
  by_cases h0:0≤r
  ·obtain ⟨k,rfl⟩:∃ k:Nat,r=(k:Int):=⟨r.toNat,by omega⟩
   have hk:=L.hi
   have hx:c.Changes[k]?=some (c.Changes[k]'(by omega)):=by rw [List.getElem?_eq_getElem]
   rw [show leI 0 (k:Int)=true from by simp only [leI]; rw [dzT h0],cond_true,getI_nat,hx,obs]
   rw [offF_at m c.Changes c.Offset k _ hx (fun i y hi hy=>L.le i y (by omega) hy) (fun i y hi hy=>L.gt i y (by omega) hy)]
  ·rw [show leI 0 r=false from by simp only [leI]; rw [dzF h0],cond_false]
   rw [offF_gt m c.Changes c.Offset (fun x hx=>by
    obtain ⟨i,hi⟩:=List.mem_iff_getElem?.1 hx
    exact L.gt i x (by omega) hi)]
 rw [hoff,obs]
 generalize offF m c.Offset c.Changes=o at ho
 rw [wi_id (x:=m+o) (by omega) (by omega),b_split1440 n (m+o) (by omega),obs]
theorem b_split7 (n:Nat) (d:Int) (h:-1≤d∧d≤36501):g_days_split n d 7=some ((d+7) / 7 - 1,(d+7) % 7):=by
 unfold g_days_split
 rw [show (!eqI 7 0)=true from rfl,cond_true,cond_true]
 simp only [ltI]
 by_cases hx:0≤d
 ·rw [Int.tdiv_eq_ediv_of_nonneg hx,Int.tmod_eq_emod_of_nonneg hx,dzF (by omega),cond_false,wi_id (x:=d / 7) (by omega) (by omega)]
  congr 2
  ·omega
  ·omega
 ·have:d=-1:=by omega
  subst this
  rfl
theorem b_type (n:Nat) (c:GCl) (d:Int) (hn:1000≤n) (h1:c.Changes.length≤900) (h2:c.Holidays.length≤900) (hc:calB c=true) (hd:-1≤d∧d≤36501):g_days_Type n c d=some (typF d c.Holidays,0):=by
 have hc':=hc
 simp only [calB,bae] at hc'
 unfold g_days_Type
 rw [b_cal n c hn h1 h2,hc,b_dinside,dzT hd]
 simp only [obs,Bool.not_true,cond_false]
 obtain ⟨r,e,L⟩:=b_lastI n c.Holidays d hn h2 hc'.2
 have hpw:=(holB_lt _ _ hc'.2).2
 rw [e]
 simp only [obs]
 have hj:(bif leI 0 r then (getI c.Holidays r).bind fun x8=>some (eqI x8 d) else some false)=some (decide (d ∈ c.Holidays)):=by
  by_cases h0:0≤r
  ·obtain ⟨k,rfl⟩:∃ k:Nat,r=(k:Int):=⟨r.toNat,by omega⟩
   have hk:=L.hi
   have hx:c.Holidays[k]?=some (c.Holidays[k]'(by omega)):=by rw [List.getElem?_eq_getElem]
   rw [show leI 0 (k:Int)=true from by simp only [leI]; rw [dzT h0],cond_true,getI_nat,hx,obs,eqI_d]
   generalize c.Holidays[k]'(by omega)=x at hx
   by_cases hxd:x=d
   ·rw [dzT hxd,dzT]
    rw [← hxd]
    exact List.mem_of_getElem? hx
   ·rw [dzF hxd,dzF]
    intro hmem
    obtain ⟨i,hi⟩:=List.mem_iff_getElem?.1 hmem
    have hik:(i:Int)≤k:=by
     apply Classical.byContradiction
     intro h
     have:=L.gt i d (by omega) hi
     omega
    by_cases e:i=k
    ·subst e
     rw [hx] at hi; cases hi
     exact hxd rfl
    ·have hi':=List.getElem?_eq_some_iff.1 hi
     have hx':=List.getElem?_eq_some_iff.1 hx
     have:=List.pairwise_iff_getElem.1 hpw i k hi'.1 hx'.1 (by omega)
     rw [hi'.2,hx'.2] at this
     have:=L.le k x (Int.le_refl _) hx
     omega
  ·rw [show leI 0 r=false from by simp only [leI]; rw [dzF h0],cond_false,dzF]
   intro hmem
   obtain ⟨i,hi⟩:=List.mem_iff_getElem?.1 hmem
   have:=L.gt i d (by omega) hi
   omega
 rw [hj,obs,typF_mem]
 by_cases hmem:d ∈ c.Holidays
 ·rw [dzT hmem,if_pos hmem]; rfl
 ·rw [dzF hmem,if_neg hmem,cond_false,b_split7 n d hd]
  unfold g_days_week wkF
  simp only [obs]
  rw [wi_id (x:=d+7) (by omega) (by omega),Int.tmod_eq_emod_of_nonneg (a:=d+7) (by omega)]
  have hr:0≤(d+7) % 7∧(d+7) % 7 < 7:=by omega
  generalize (d+7) % 7=w at hr
  have hw:w=0∨w=1∨w=2∨w=3∨w=4∨w=5∨w=6:=by omega
  rcases hw with rfl | rfl | rfl | rfl | rfl | rfl | rfl <;> rfl
theorem b_applies (n:Nat) (c:GCl) (a:GAr) (m:Int) (hn:1000≤n) (h1:c.Changes.length≤900) (h2:c.Holidays.length≤900) (hc:calB c=true) (ha:artB a=true) (hm:0≤m∧m≤52560000) :
  g_t_Applies n a c m=some (appB c a m):=by
 have ho:=cal_off m hc
 unfold g_t_Applies appB
 rw [b_article,ha,b_local n c m hn h1 h2 hc hm]
 simp only [obs,Bool.not_true,cond_false,eqI_d,decide_true]
 generalize offF m c.Offset c.Changes=o at ho
 rw [wi_id (x:=m+o) (by omega) (by omega),wi_id (x:=m+o+1440) (by omega) (by omega)]
 rw [Int.tdiv_eq_ediv_of_nonneg (a:=m+o+1440) (by omega),Int.tmod_eq_emod_of_nonneg (a:=m+o+1440) (by omega)]
 rw [wi_id (x:=(m+o+1440) / 1440) (by omega) (by omega),wi_id (x:=(m+o+1440) / 1440 - 1) (by omega) (by omega)]
 rw [b_type n c _ hn h1 h2 hc (by omega)]
 have ht:=typF_range ((m+o+1440) / 1440 - 1) c.Holidays
 simp only [obs,cond_some,leI,ltI,decide_true,cond_true]
 rw [dzF (show ¬ typF ((m+o+1440) / 1440 - 1) c.Holidays < 0 by omega)]
 generalize decide (bAnd .i64 a.Days (shlI .i64 1 (typF ((m+o+1440) / 1440 - 1) c.Holidays))=0)=b
 generalize (m+o+1440) % 1440=w
 by_cases c1:a.From≤w
 ·by_cases c2:w < a.To
  ·rw [dzF (show ¬ w < a.From by omega),dzF (show ¬ a.To≤w by omega),dzT c1,dzT c2]
   cases b <;> rfl
  ·rw [dzF (show ¬ w < a.From by omega),dzT (show a.To≤w by omega),dzF c2]
   cases b <;> simp
 ·rw [dzT (show w < a.From by omega),dzF c1]; rfl
end Go.Proofs
namespace Go.Proofs
open Go Go.Abs
theorem head32_big:g_law32_head 36893488147419103232=some true:=by kernel_rfl
end Go.Proofs
namespace Go.Proofs
open Go Go.Abs
set_option maxRecDepth 100000
set_option linter.unusedVariables false
theorem opq_d (b:Bool):opq b=b:=rfl
theorem loopN_s {V R:Type} (B:(V→Option R)→V→Option R) (n:Nat) (v:V):loopN B (n+1) v=B (loopN B n) v:=rfl
end Go.Proofs
namespace Go.Proofs
open Go Go.Abs
set_option maxRecDepth 100000
set_option linter.unusedVariables false
def perW:List UInt8:=[112,101,114]
def freeW:List UInt8:=[102,114,101,101]
def onW:List UInt8:=[111,110]
def betW:List UInt8:=[98,101,116,119,101,101,110]
def N0:Nat:=36893488147419103232
end Go.Proofs
namespace Go.Proofs
open Go Go.Abs
set_option maxRecDepth 100000
set_option linter.unusedVariables false
theorem same_loop (a:GTf) (hl:a.Articles.length≤900):∀ (m i n:Nat),i+m=a.Articles.length→m < n→loopN (fun recl3 (l3:Int)=>g_ref32_Same_l3 a a recl3 l3) n (i:Int)=some true
 | 0,i,n,h1,h2=>by
  obtain ⟨n,rfl⟩:∃ q,n=q+1:=⟨n - 1,by omega⟩
  rw [loopN_s]
  unfold g_ref32_Same_l3
  rw [show ltI (i:Int) (lenI (List.map GAr.cs a.Articles))=false from ltI_f (by simp only [lenI,List.length_map]; omega),cond_false]
 | m+1,i,n,h1,h2=>by
  obtain ⟨n,rfl⟩:∃ q,n=q+1:=⟨n - 1,by omega⟩
  have hrec:=same_loop a hl m (i+1) n (by omega) (by omega)
  rw [loopN_s]
  generalize loopN (fun recl3 (l3:Int)=>g_ref32_Same_l3 a a recl3 l3) n=rec at hrec ⊢
  unfold g_ref32_Same_l3
  have hx:a.Articles[i]?=some (a.Articles[i]'(by omega)):=List.getElem?_eq_getElem (by omega)
  rw [show ltI (i:Int) (lenI (List.map GAr.cs a.Articles))=true from ltI_t (by simp only [lenI,List.length_map]; omega),cond_true,getI_nat,hx]
  simp only [obs,eqI_d,decide_true,Bool.and_self,opq_d,Bool.not_true,cond_false]
  rw [wi_id (x:=(i:Int)+1) (by omega) (by omega)]
  exact hrec
theorem same32 (n:Nat) (a:GTf) (hn:1000≤n) (hl:a.Articles.length≤900):g_ref32_Same n a a=some true:=by
 have:=same_loop a hl a.Articles.length 0 n (by omega) (by omega)
 unfold g_ref32_Same
 rw [show eqS a.Name a.Name=true from by simp [eqS],eqI_d,dzT rfl]
 simp only [Bool.not_true,cond_false,obs]
 exact this
theorem few32 (n:Nat) (t:GTf):∃ b,g_ref32_Few n t=some b∧(b=true→t.Name.length≤900):=by
 unfold g_ref32_Few
 simp only [cond_some,lenI,List.length_map,leI]
 refine ⟨_,rfl,fun h=>?_⟩
 simp [Bool.cond_eq_ite] at h
 omega
end Go.Proofs
namespace Go.Proofs
open Go Go.Abs
set_option maxRecDepth 100000
set_option linter.unusedVariables false
def treeD:Nat→GNode→Prop
 | 0,_=>False
 | d+1,x=>(-9223372036854775808≤x.Kind∧x.Kind≤9223372036854775807)∧(-9223372036854775808≤x.N∧x.N≤9223372036854775807)∧(-9223372036854775808≤x.At∧x.At≤9223372036854775807)∧x.Name.length≤maxLen∧x.Kids.length≤maxLen∧∀ k ∈ x.Kids,∃ y,GNode.of k=some y∧treeD d y
def kidsD (d:Nat) (l:List (List PV)):Prop:=∀ k ∈ l,∃ y,GNode.of k=some y∧treeD d y
theorem tree_kids {d:Nat} {x:GNode} (h:treeD d x):∃ e,d=e+1∧x.Kids.length≤9223372036854775807∧x.Name.length≤9223372036854775807∧kidsD e x.Kids:=by
 cases d with
 | zero=>exact h.elim
 | succ e=>exact ⟨e,rfl,by have:=h.2.2.2.2.1; simpa [maxLen] using this,by have:=h.2.2.2.1; simpa [maxLen] using this,h.2.2.2.2.2⟩
theorem kid_at {d:Nat} {l:List (List PV)} (h:kidsD d l) {i:Nat} (hi:i < l.length):∃ y,Option.bind (getI l (i:Int)) GNode.of=some y∧treeD d y∧(l.drop i=l[i]'hi :: l.drop (i+1)∧GNode.of (l[i]'hi)=some y):=by
 obtain ⟨y,e,t⟩:=h (l[i]'hi) (List.getElem_mem hi)
 refine ⟨y,?_,t,List.drop_eq_getElem_cons hi,e⟩
 rw [getI_nat,List.getElem?_eq_getElem hi]
 exact e
def Tot {α:Type} (m:Option α):Prop:=Does m fun _=>True
theorem tot_some {α:Type} (x:α):Tot (some x):=⟨x,rfl,trivial⟩
theorem tot_cond {α:Type} {b:Bool} {x y:Option α} (h1:b=true→Tot x) (h2:b=false→Tot y):Tot (cond b x y):=does_cond h1 h2
theorem tot_bind {α β:Type} {m:Option α} {k:α→Option β} (h:Tot m) (hk:∀ x,Tot (k x)):Tot (m.bind k):=does_bind h fun x _=>hk x
theorem tot_idx {R:Type} {B:(Int→Option R)→Int→Option R} {L:Nat} (hL:L≤9223372036854775807)
  (hB:∀ (rec:Int→Option R) (i:Nat),i≤L→(i < L→wi ((i:Int)+1)=((i+1:Nat):Int)∧Tot (rec ((i+1:Nat):Int)))→Tot (B rec (i:Int))) :
  ∀ {n:Nat} (i:Nat),i≤L→L - i < n→Tot (loopN B n (i:Int))
 | 0,_,_,h=>absurd h (Nat.not_lt_zero _)
 | n+1,i,hi,h=>hB _ i hi fun h1=>⟨by rw [wi_id (by omega) (by omega)]; omega,tot_idx hL hB (i+1) (by omega) (by omega)⟩
theorem count_tot:∀ (m n d:Nat) (x:GNode) (most:Int),treeD d x→0≤most→most≤m→m≤1000000→m+3≤n→Does (g_ref02_Count n x most) (fun r=>1≤r∧r≤most+1):=by
 intro m
 induction m with
 | zero =>
  intro n d x most ht h0 h1 h2 h3
  obtain ⟨n,rfl⟩:∃ q,n=q+1+1:=⟨n - 2,by omega⟩
  obtain rfl:most=0:=by omega
  refine ⟨1,?_,by omega,by omega⟩
  unfold g_ref02_Count g_ref02_Count_body
  rw [loopN_s]
  unfold g_ref02_Count_l1
  simp only [show leI 1 0=false from rfl,cond_some,obs]
  cases ltI 0 (lenI (List.map idc x.Kids)) <;> rfl
 | succ m ih =>
  intro n d x most ht h0 h1 h2 h3
  obtain ⟨n,rfl⟩:∃ q,n=q+1:=⟨n - 1,by omega⟩
  obtain ⟨e,rfl,hl,_,hk⟩:=tree_kids ht
  unfold g_ref02_Count g_ref02_Count_body
  refine does_loop (Q:=fun _ r=>1≤r∧r≤most+1) (fun v=>(most+1 - v.1).toNat) (fun v=>1≤v.1∧v.1≤most+1∧∃ i:Nat,v.2=(i:Int)∧i≤x.Kids.length) ?_ ⟨by omega,by omega,0,rfl,by omega⟩ (by simp only; omega)
  rintro rec ⟨many,idx⟩ ⟨g1,g2,i,hi,hil⟩ hrec
  simp only at g1 g2 hi hrec ⊢
  subst hi
  unfold g_ref02_Count_l1
  simp only [lenI,List.length_map,ltI,leI]
  by_cases c1:i < x.Kids.length
  rotate_left
  ·rw [dzF (by omega)]
   exact does_some ⟨g1,g2⟩
  rw [dzT (by omega)]
  by_cases c2:many≤most
  rotate_left
  ·rw [dzF c2]
   exact does_some ⟨g1,g2⟩
  rw [dzT c2]
  obtain ⟨y,hy,hty,_⟩:=kid_at hk c1
  simp only [cond_true,obs]
  rw [hy,obs,wi_id (x:=most - many) (by omega) (by omega)]
  refine does_bind (ih n e y (most - many) hty (by omega) (by omega) (by omega) (by omega)) ?_
  rintro r ⟨r1,r2⟩
  rw [wi_id (x:=many+r) (by omega) (by omega),wi_id (x:=(i:Int)+1) (by omega) (by omega)]
  exact hrec (many+r,(i:Int)+1) ⟨by simp only; omega,by simp only; omega,i+1,by simp,c1⟩ (by simp only; omega)
theorem names_tot:∀ (m n d:Nat) (x:GNode) (depth:Int),treeD d x→0≤depth→depth≤m→m≤1000→m+9223372036854775810≤n→Tot (g_ref02_names n x depth):=by
 intro m
 induction m with
 | zero =>
  intro n d x depth ht h0 h1 h2 h3
  obtain ⟨n,rfl⟩:∃ q,n=q+1:=⟨n - 1,by omega⟩
  obtain rfl:depth=0:=by omega
  exact ⟨false,rfl,trivial⟩
 | succ m ih =>
  intro n d x depth ht h0 h1 h2 h3
  obtain ⟨n,rfl⟩:∃ q,n=q+1:=⟨n - 1,by omega⟩
  by_cases c0:depth=0
  ·subst c0
   exact ⟨false,rfl,trivial⟩
  obtain ⟨e,rfl,hl,_,hk⟩:=tree_kids ht
  unfold g_ref02_names g_ref02_names_body
  refine tot_bind (tot_cond (fun _=>tot_some _) (fun _=>tot_some _)) fun j1=>tot_cond (fun _=>tot_some _) fun _=>?_
  refine tot_idx (L:=x.Kids.length) hl (fun rec i hi hr=>?_) 0 (by omega) (by omega)
  unfold g_ref02_names_l3
  simp only [lenI,List.length_map,ltI]
  by_cases c1:i < x.Kids.length
  rotate_left
  ·rw [dzF (by omega)]; exact tot_some _
  rw [dzT (by omega),cond_true]
  obtain ⟨y,hy,hty,_⟩:=kid_at hk c1
  obtain ⟨w1,w2⟩:=hr c1
  rw [hy,obs,wi_id (x:=depth - 1) (by omega) (by omega),w1]
  exact tot_bind (ih n e y (depth - 1) hty (by omega) (by omega) (by omega) (by omega)) fun r=>tot_cond (fun _=>tot_some _) fun _=>w2
end Go.Proofs
namespace Go.Proofs
open Go Go.Abs
set_option maxRecDepth 100000
set_option linter.unusedVariables false
theorem drop1 (l:List (List PV)):List.drop (Int.toNat 1) (List.take (Int.toNat (lenI (List.map idc l))) l)=l.drop 1:=by
 simp only [lenI,List.length_map,show Int.toNat 1=1 from rfl,Int.toNat_natCast,List.take_length]
theorem slice1 {l:List (List PV)} (h:l ≠ []):sliceB3 1 (lenI (List.map idc l)) (lenI (List.map idc l)) (List.length l)=true:=by
 have:0 < l.length:=List.length_pos_iff.2 h
 unfold sliceB3 lenI
 rw [List.length_map]
 exact dzT (by omega)
theorem kidsD_drop {e:Nat} {l:List (List PV)} (h:kidsD e l):kidsD e (l.drop 1):=fun k hk=>h k (List.mem_of_mem_drop hk)
theorem len0 (l:List (List PV)):eqI (lenI (List.map idc l)) 0=decide (l=[]):=by
 rw [eqI_d,lenI,List.length_map]
 cases l
 ·rfl
 ·rw [dzF (by simp only [List.length_cons]; omega),dzF (by intro h; cases h)]
end Go.Proofs
namespace Go.Proofs
open Go Go.Abs
set_option maxRecDepth 100000
set_option linter.unusedVariables false
theorem does_idx {R:Type} {B:(Int→Option R)→Int→Option R} {L:Nat} (Q:Nat→R→Prop) (hL:L≤9223372036854775807)
  (hB:∀ (rec:Int→Option R) (i:Nat),i≤L→(i < L→wi ((i:Int)+1)=((i+1:Nat):Int)∧Does (rec ((i+1:Nat):Int)) (Q (i+1)))→Does (B rec (i:Int)) (Q i)) :
  ∀ {n:Nat} (i:Nat),i≤L→L - i < n→Does (loopN B n (i:Int)) (Q i)
 | 0,_,_,h=>absurd h (Nat.not_lt_zero _)
 | n+1,i,hi,h=>hB _ i hi fun h1=>⟨by rw [wi_id (by omega) (by omega)]; omega,does_idx Q hL hB (i+1) (by omega) (by omega)⟩
def kidsL (l:List (List PV)):List GNode:=l.filterMap GNode.of
theorem kidL_at {d:Nat} {l:List (List PV)} (h:kidsD d l) {i:Nat} (hi:i < l.length):∃ y,Option.bind (getI l (i:Int)) GNode.of=some y∧treeD d y∧kidsL (l.drop i)=y :: kidsL (l.drop (i+1)):=by
 obtain ⟨y,hy,ht,hd,hof⟩:=kid_at h hi
 refine ⟨y,hy,ht,?_⟩
 rw [hd]
 unfold kidsL
 rw [List.filterMap_cons,hof]
theorem kidL_end (l:List (List PV)) {i:Nat} (hi:l.length≤i):kidsL (l.drop i)=[]:=by
 rw [List.drop_eq_nil_of_le hi]; rfl
def attrB (s:List UInt8):Bool:=((g_ref02_Attrs 0).getD []).contains s
def artNB (s:List UInt8):Bool:=((g_ref02_Articles 0).getD []).contains s
def wordB (s:List UInt8):Bool:=((g_ref02_Words 0).getD []).contains s
theorem p_isAttr (n:Nat) (s:List UInt8):g_p_isAttr n s=some (attrB s):=by
 unfold g_p_isAttr attrB g_ref02_Attrs
 simp only [cond_some,obs,cse,cst,Option.getD_some,List.contains_cons,List.contains_nil,Bool.or_false,eqS]
theorem p_isArt (n:Nat) (s:List UInt8):g_p_isArticle n s=some (artNB s):=by
 unfold g_p_isArticle artNB g_ref02_Articles
 simp only [cond_some,obs,cse,cst,Option.getD_some,List.contains_cons,List.contains_nil,Bool.or_false,eqS]
theorem p_isWord (n:Nat) (s:List UInt8):g_p_isWord n s=some (wordB s):=by
 unfold g_p_isWord wordB g_ref02_Words
 simp only [cond_some,obs,cse,cst,Option.getD_some,List.contains_cons,List.contains_nil,Bool.or_false,eqS]
theorem r_isAttr {n:Nat} {s:List UInt8} (hn:1000≤n):Does (g_ref02_In n ((g_ref02_Attrs 0).getD []) s) (fun r=>leI 0 r=attrB s):=r_in n _ s hn (by decide)
theorem r_isArt {n:Nat} {s:List UInt8} (hn:1000≤n):Does (g_ref02_In n ((g_ref02_Articles 0).getD []) s) (fun r=>leI 0 r=artNB s):=r_in n _ s hn (by decide)
theorem r_isWord {n:Nat} {s:List UInt8} (hn:1000≤n):Does (g_ref02_In n ((g_ref02_Words 0).getD []) s) (fun r=>leI 0 r=wordB s):=r_in n _ s hn (by decide)
theorem r_nameL {n:Nat} {s:List UInt8} (hn:9223372036854776000≤n) (hl:s.length≤9223372036854775807):g_ref02_Name n s=some (nameB s):=by
 by_cases h:s.length≤900
 ·exact r_name n s (by omega) h
 have hb:nameB s=false:=by
  unfold nameB
  rw [show decide (1≤s.length∧s.length≤12)=false from dzF (by omega)]
  rfl
 rw [hb]
 have:Does (g_ref02_Name n s) (fun r=>r=false):=by
  unfold g_ref02_Name
  refine does_idx (L:=s.length) (fun _ r=>r=false) hl (fun rec i hi hr=>?_) 0 (by omega) (by omega)
  unfold g_ref02_Name_l16
  simp only [lenI,ltI]
  by_cases c1:i < s.length
  rotate_left
  ·rw [dzF (by omega),cond_false,r_namej n s (by omega),dzF (by omega)]; exact does_some rfl
  obtain ⟨w1,w2⟩:=hr c1
  rw [dzT (by omega),cond_true,getI_nat,List.getElem?_eq_getElem c1,obs,w1]
  simp only [cond_some,obs]
  exact does_cond (fun _=>does_some rfl) fun _=>w2
 obtain ⟨r,e,rfl⟩:=this
 exact e
def nvalB (words:Bool) (x:GNode):Bool :=
 decide (x.Kids=[])&&(bif decide (x.Kind=6) then decide (x.Name=[])&&(decide (0≤x.N)&&decide (x.N≤1000000)) else decide (x.Kind=5)&&(decide (x.N=0)&&(nameB x.Name||(words&&wordB x.Name))))
theorem eqSn (s:List UInt8):eqS s []=decide (s=[]):=by
 cases s <;> rfl
theorem p_value {n:Nat} {x:GNode} {b:Bool} (hn:1000≤n):g_p_validValue n x b=some (nvalB b x):=by
 unfold g_p_validValue nvalB
 rw [b_goodName n x.Name hn,p_isWord,len0,eqSn]
 simp only [obs,cond_some,eqI_d,leI]
 by_cases k5:x.Kind=5
 ·rw [k5]
  simp only [decide_true,cond_true,show decide ((5:Int)=6)=false from rfl,cond_false]
  cases decide (x.Kids=[]) <;> cases decide (x.N=0) <;> cases nameB x.Name <;> cases b <;> cases wordB x.Name <;> rfl
 ·rw [dzF k5]
  cases decide (x.Kids=[]) <;> cases decide (x.Kind=6) <;> cases decide (x.Name=[]) <;> cases decide (0≤x.N) <;> cases decide (x.N≤1000000) <;> rfl
theorem lt0 (l:List (List PV)):ltI 0 (lenI (List.map idc l))=!decide (l=[]):=by
 cases l with
 | nil=>rfl
 | cons a r =>
  rw [dzF (by intro h; cases h)]
  exact dzT (by simp only [lenI,List.length_map,List.length_cons]; omega)
theorem r_value {n:Nat} {x:GNode} {b:Bool} (hn:9223372036854776000≤n) (hl:x.Name.length≤9223372036854775807):g_ref02_value n x b=some (nvalB b x):=by
 unfold g_ref02_value nvalB
 obtain ⟨r,e,h⟩:=r_isWord (n:=n) (s:=x.Name) (by omega)
 rw [r_nameL hn hl,lt0,eqSn,show g_ref02_Words n=some ((g_ref02_Words 0).getD []) from rfl,obs,obs,e,obs,h]
 simp only [obs,cond_some,eqI_d,leI]
 cases decide (x.Kids=[]) <;> cases decide (x.Kind=5) <;> cases decide (x.Kind=6) <;> cases decide (x.Name=[]) <;> cases decide (0≤x.N) <;> cases decide (x.N≤1000000) <;> cases decide (x.N=0) <;> cases nameB x.Name <;> cases b <;> cases wordB x.Name <;> rfl
def npartB (x:GNode):Bool:=decide (x.N=0)&&((decide (x.Kind=3)&&attrB x.Name||decide (x.Kind=4)&&artNB x.Name)&&(kidsL x.Kids).all (nvalB (decide (x.Kind=4))))
theorem r_part {n d:Nat} {x:GNode} (ht:treeD d x) (hn:9223372036854776000≤n):g_ref02_part n x=some (npartB x):=by
 obtain ⟨e,rfl,hl,_,hk⟩:=tree_kids ht
 have hloop:loopN (fun recl13 l13=>g_ref02_part_l13 n x recl13 l13) n 0=some ((kidsL x.Kids).all (nvalB (decide (x.Kind=4)))):=by
  have:=does_idx (B:=fun recl13 l13=>g_ref02_part_l13 n x recl13 l13) (n:=n) (L:=x.Kids.length) (fun i r=>r=(kidsL (x.Kids.drop i)).all (nvalB (decide (x.Kind=4)))) hl (fun rec i hi hr=>?_) 0 (by omega) (by omega)
  ·obtain ⟨r,e,h⟩:=this
   rw [show ((0:Nat):Int)=0 from rfl] at e
   rw [e,h]; rfl
  unfold g_ref02_part_l13
  simp only [lenI,List.length_map,ltI]
  by_cases c1:i < x.Kids.length
  rotate_left
  ·rw [dzF (by omega),kidL_end _ (by omega)]; exact does_some rfl
  obtain ⟨y,hy,hty,hc⟩:=kidL_at hk c1
  obtain ⟨w1,w2⟩:=hr c1
  obtain ⟨_,_,_,hs,_⟩:=tree_kids hty
  rw [dzT (by omega),cond_true,hy,obs,w1,r_value hn hs,obs,hc,List.all_cons,eqI_d]
  cases nvalB (decide (x.Kind=4)) y
  ·exact does_some rfl
  ·simpa using w2
 unfold g_ref02_part npartB
 obtain ⟨r1,e1,h1⟩:=r_isAttr (n:=n) (s:=x.Name) (by omega)
 obtain ⟨r2,e2,h2⟩:=r_isArt (n:=n) (s:=x.Name) (by omega)
 rw [hloop,show g_ref02_Attrs n=some ((g_ref02_Attrs 0).getD []) from rfl,show g_ref02_Articles n=some ((g_ref02_Articles 0).getD []) from rfl]
 simp only [obs,e1,e2,h1,h2,cond_some,eqI_d]
 cases decide (x.N=0) <;> cases decide (x.Kind=3) <;> cases decide (x.Kind=4) <;> cases attrB x.Name <;> cases artNB x.Name <;> rfl
theorem p_part {n d:Nat} {x:GNode} {left:Int} (ht:treeD d x) (hn:9223372036854776000≤n) (hle:(x.Kids.length:Int)≤left∧left≤1500):Does (g_p_validPart n x left) (fun r=>r.1=npartB x∧(npartB x=true→r.2=left - x.Kids.length)):=by
 obtain ⟨e,rfl,hl,_,hk⟩:=tree_kids ht
 have hw:wi (left - lenI (List.map idc x.Kids))=left - x.Kids.length:=by
  simp only [lenI,List.length_map]; exact wi_id (by omega) (by omega)
 have hloop:loopN (fun recl9 l9=>g_p_validPart_l9 n x left recl9 l9) n 0=some ((kidsL x.Kids).all (nvalB (decide (x.Kind=4))),left - x.Kids.length):=by
  have:=does_idx (B:=fun recl9 l9=>g_p_validPart_l9 n x left recl9 l9) (n:=n) (L:=x.Kids.length) (fun i r=>r=((kidsL (x.Kids.drop i)).all (nvalB (decide (x.Kind=4))),left - (x.Kids.length:Int))) hl (fun rec i hi hr=>?_) 0 (by omega) (by omega)
  ·obtain ⟨r,e,h⟩:=this
   rw [show ((0:Nat):Int)=0 from rfl] at e
   rw [e,h]; rfl
  unfold g_p_validPart_l9
  rw [hw]
  simp only [lenI,List.length_map,ltI]
  by_cases c1:i < x.Kids.length
  rotate_left
  ·rw [dzF (by omega),kidL_end _ (by omega)]; exact does_some rfl
  obtain ⟨y,hy,hty,hc⟩:=kidL_at hk c1
  obtain ⟨w1,w2⟩:=hr c1
  rw [dzT (by omega),cond_true,hy,obs,w1,p_value (by omega),obs,hc,List.all_cons,eqI_d]
  cases nvalB (decide (x.Kind=4)) y
  ·exact does_some rfl
  ·simpa using w2
 unfold g_p_validPart
 rw [hloop,p_isAttr,p_isArt,hw,show ltI (left - (x.Kids.length:Int)) 0=false from ltI_f (by omega)]
 simp only [obs,cond_some,eqI_d]
 have hp:npartB x=(decide (x.N=0)&&((decide (x.Kind=3)&&attrB x.Name||decide (x.Kind=4)&&artNB x.Name)&&(kidsL x.Kids).all (nvalB (decide (x.Kind=4))))):=rfl
 rw [hp]
 generalize (kidsL x.Kids).all (nvalB (decide (x.Kind=4)))=z
 by_cases k3:x.Kind=3
 ·rw [k3]
  cases decide (x.N=0) <;> cases attrB x.Name <;> cases z <;> exact does_some ⟨rfl,fun h=>by first | rfl | cases h⟩
 ·rw [dzF k3]
  cases decide (x.N=0) <;> cases decide (x.Kind=4) <;> cases artNB x.Name <;> cases z <;> exact does_some ⟨rfl,fun h=>by first | rfl | cases h⟩
end Go.Proofs
namespace Go.Proofs
open Go Go.Abs
set_option maxRecDepth 100000
set_option linter.unusedVariables false
def itemK (n7:Bool):Bool→List GNode→Bool
 | _,[]=>true
 | p,k :: r=>(npartB k&&!(decide (k.Kind=4)&&!n7)&&!(decide (k.Kind=3)&&p))&&itemK n7 (decide (k.Kind=4)) r
def parsK (n7:Bool):Bool→List GNode→Bool
 | fl,[]=>!fl||n7
 | fl,k :: r=>bif decide (k.Kind=4) then npartB k&&parsK n7 true r else bif fl then false else npartB k&&parsK n7 fl r
theorem part_kind {k:GNode} (h:npartB k=true) (h4:decide (k.Kind=4)=false):decide (k.Kind=3)=true:=by
 unfold npartB at h
 rw [h4] at h
 cases h3:decide (k.Kind=3)
 ·rw [h3] at h
  simp at h
 ·rfl
theorem pars_item (n7:Bool):∀ (l:List GNode) (fl:Bool),parsK n7 fl l=((!fl||n7)&&itemK n7 fl l)
 | [],fl=>by simp [parsK,itemK]
 | k :: r,fl=>by
  unfold parsK itemK
  rw [pars_item n7 r true,pars_item n7 r fl]
  cases hp:npartB k
  ·cases decide (k.Kind=4) <;> cases fl <;> simp
  cases h4:decide (k.Kind=4)
  ·rw [part_kind hp h4]
   cases fl <;> cases n7 <;> simp
  ·have h3:decide (k.Kind=3)=false:=by
    have:=of_decide_eq_true h4
    rw [this]; rfl
   rw [h3]
   cases fl <;> cases n7 <;> simp
def pwL (l:List GNode):Int:=(l.map fun k=>(k.Kids.length:Int)).sum
def itemB (x:GNode):Bool:=decide (x.Kind=2)&&(decide (1≤x.N)&&(decide (x.N≤7)&&(nameB x.Name&&itemK (decide (x.N=7)) false (kidsL x.Kids))))
theorem r_item {n d:Nat} {x:GNode} (ht:treeD d x) (hn:9223372036854776000≤n):g_ref02_item n x=some (itemB x):=by
 obtain ⟨e,rfl,hl,hs,hk⟩:=tree_kids ht
 have hloop:loopN (fun recl6 l6=>g_ref02_item_l6 n x recl6 l6) n 0=some (itemK (decide (x.N=7)) false (kidsL x.Kids)):=by
  have:=does_idx (B:=fun recl6 l6=>g_ref02_item_l6 n x recl6 l6) (n:=n) (L:=x.Kids.length) (fun i r=>r=itemK (decide (x.N=7)) (decide (0 < i)&&((Option.bind (getI x.Kids ((i:Int) - 1)) GNode.of).map fun z=>decide (z.Kind=4)).getD false) (kidsL (x.Kids.drop i))) hl (fun rec i hi hr=>?_) 0 (by omega) (by omega)
  ·obtain ⟨r,e,h⟩:=this
   rw [show ((0:Nat):Int)=0 from rfl] at e
   rw [e,h]; rfl
  unfold g_ref02_item_l6
  simp only [lenI,List.length_map,ltI]
  by_cases c1:i < x.Kids.length
  rotate_left
  ·rw [dzF (by omega),kidL_end _ (by omega)]; exact does_some rfl
  obtain ⟨y,hy,hty,hc⟩:=kidL_at hk c1
  obtain ⟨w1,w2⟩:=hr c1
  have hprev:cond (decide (0 < (i:Int))) ((Option.bind (getI x.Kids (wi ((i:Int) - 1))) GNode.of).bind fun x15=>some (eqI x15.Kind 4)) (some false)=some (decide (0 < i)&&((Option.bind (getI x.Kids ((i:Int) - 1)) GNode.of).map fun z=>decide (z.Kind=4)).getD false):=by
   by_cases h0:0 < i
   ·obtain ⟨z,hz,_⟩:=kid_at hk (show i - 1 < x.Kids.length by omega)
    rw [wi_id (x:=(i:Int) - 1) (by omega) (by omega),show (i:Int) - 1=((i - 1:Nat):Int) by omega,hz,dzT (by omega),dzT h0]
    simp only [cond_true,obs,eqI_d,Bool.true_and,Option.map_some,Option.getD_some]
   ·rw [dzF (by omega),dzF h0]; rfl
  rw [dzT (by omega),cond_true,hy,obs,w1,r_part hty hn,obs,hprev,hc,eqI_d,eqI_d,eqI_d]
  generalize (decide (0 < i)&&((Option.bind (getI x.Kids ((i:Int) - 1)) GNode.of).map fun z=>decide (z.Kind=4)).getD false)=p
  have hp1:(decide (0 < i+1)&&((Option.bind (getI x.Kids (((i+1:Nat):Int) - 1)) GNode.of).map fun z=>decide (z.Kind=4)).getD false)=decide (y.Kind=4):=by
   rw [dzT (by omega),show (((i+1:Nat):Int) - 1)=(i:Int) by omega,hy]
   rfl
  rw [hp1] at w2
  rw [show itemK (decide (x.N=7)) p (y :: kidsL (List.drop (i+1) x.Kids))=((npartB y&&!(decide (y.Kind=4)&&!decide (x.N=7))&&!(decide (y.Kind=3)&&p))&&itemK (decide (x.N=7)) (decide (y.Kind=4)) (kidsL (List.drop (i+1) x.Kids))) from rfl]
  generalize itemK (decide (x.N=7)) (decide (y.Kind=4)) (kidsL (List.drop (i+1) x.Kids))=z at w2 ⊢
  generalize rec ((i+1:Nat):Int)=q at w2 ⊢
  obtain ⟨r,rfl,rfl⟩:=w2
  cases npartB y <;> cases decide (y.Kind=4) <;> cases decide (x.N=7) <;> cases decide (y.Kind=3) <;> cases p <;> exact does_some rfl
 unfold g_ref02_item itemB
 rw [hloop,r_nameL hn hs]
 simp only [obs,cond_some,eqI_d,ltI]
 by_cases c1:x.N < 1
 ·rw [dzT c1,dzF (show ¬ 1≤x.N by omega)]
  cases decide (x.Kind=2) <;> rfl
 rw [dzF c1,dzT (show 1≤x.N by omega)]
 by_cases c2:7 < x.N
 ·rw [dzT c2,dzF (show ¬ x.N≤7 by omega)]
  cases decide (x.Kind=2) <;> rfl
 rw [dzF c2,dzT (show x.N≤7 by omega)]
 cases decide (x.Kind=2) <;> cases nameB x.Name <;> rfl
end Go.Proofs
