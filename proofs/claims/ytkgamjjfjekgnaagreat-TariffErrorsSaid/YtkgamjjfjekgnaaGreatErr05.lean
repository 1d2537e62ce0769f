/-
  A part of the proof of a statement of the seat YtkgamjjfjekgnaaGreat.
-/
import Derived.Test.YtkgamjjfjekgnaaGreatErr04
namespace Go.Proofs
open Go Go.Abs
set_option maxRecDepth 100000
set_option linter.unusedVariables false
theorem g_dv_int_ok (n:Nat) (a0list:List Int) (a1most:Int):∀ r,g_dv_int n a0list a1most=some r→PCall Tryz.prog 75 [.p (.sl 1 (List.map ci a0list)),I a1most, .p (.val (.func (.func 77) #[] #[]))] (.ret (B r)):=by
 refine pcall_sim (X:=fun r:Bool=>AEnd.ret (B r)) Tryz.func75 rfl Tryz.ntmps75 rfl ?_
 unfold g_dv_int
 refine sR tfm ⟨[0,1,2],[],[],[]⟩ ⟨[(0, .p (.sl 1 (List.map ci a0list))),(1,I a1most),(2, .p (.val (.func (.func 77) #[] #[])))],[]⟩ krf (sR tfm ⟨[0,1,2,7],[],[],[]⟩ ⟨[(0, .p (.sl 1 (List.map ci a0list))),(1,I a1most),(2, .p (.val (.func (.func 77) #[] #[]))),(7,I (-1))],[]⟩ krf (sS (sR tfm ⟨[1,2,7,11,12,13],[],[],[]⟩ ⟨[(1,I a1most),(2, .p (.val (.func (.func 77) #[] #[]))),(7,I (-1)),(11, .p (.sl 1 (List.map ci a0list))),(12,I (lenI (List.map ci a0list))),(13,I 0)],[]⟩ krf (sB (sim_loop (fun (l1_1,l1_2)=>⟨[(1,I a1most),(2, .p (.val (.func (.func 77) #[] #[]))),(7,I l1_1),(11, .p (.sl 1 (List.map ci a0list))),(12,I (lenI (List.map ci a0list))),(13,I l1_2)],[]⟩:(Int × Int)→St) (weak_shr (K:=⟨[1,2,7,11,12,13],[],[],[]⟩) krf) ?_)))))
 rintro recl1 ⟨l1_1,l1_2⟩
 show SimE (g_dv_int_l1 n a0list a1most recl1 l1_1 l1_2) _ _ _ _ _ _
 unfold g_dv_int_l1
 refine sR tfm ⟨[1,2,7,11,12,13,14],[],[],[]⟩ ⟨[(1,I a1most),(2, .p (.val (.func (.func 77) #[] #[]))),(7,I l1_1),(11, .p (.sl 1 (List.map ci a0list))),(12,I (lenI (List.map ci a0list))),(13,I l1_2),(14,B (ltI l1_2 (lenI (List.map ci a0list))))],[]⟩ krf (sS (sC (ltI l1_2 (lenI (List.map ci a0list))) krf ?_ ?_))
 ·refine sK (sN ⟨[1,2,7,11,12,13],[],[],[]⟩ ⟨[(1,I a1most),(2, .p (.val (.func (.func 77) #[] #[]))),(7,I l1_1),(11, .p (.sl 1 (List.map ci a0list))),(12,I (lenI (List.map ci a0list))),(13,I l1_2)],[]⟩ krf (sS (sB (sS (sG ?_)))))
  refine xG krf krf (aop_idx (e:=3) (S:=1) (enc:=ci) (l:=a0list) (k:=.i64) (n:=l1_2) (sv:=.p (.sl 1 (List.map ci a0list))) rfl krf krf krf krf krf) (fun x2=>?_)
  refine xR 2 krf (xE (sN ⟨[1,2,7,9,11,12,13],[],[],[]⟩ ⟨[(1,I a1most),(2, .p (.val (.func (.func 77) #[] #[]))),(7,I l1_1),(9,I x2),(11, .p (.sl 1 (List.map ci a0list))),(12,I (lenI (List.map ci a0list))),(13,I l1_2)],[]⟩ krf (sS (sS (sG (xR 2 krf ?_))))))
  refine xC [] krf (g_days_keys_2_ok n x2) krf krf (fun _=>by kernel_rfl) (fun r3=>?_)
  refine xR 1 krf (xE (sN ⟨[1,2,7,9,10,11,12,13],[],[],[]⟩ ⟨[(1,I a1most),(2, .p (.val (.func (.func 77) #[] #[]))),(7,I l1_1),(9,I x2),(10,I r3),(11, .p (.sl 1 (List.map ci a0list))),(12,I (lenI (List.map ci a0list))),(13,I l1_2)],[]⟩ krf (sim_bind (fun j4=>⟨[(1,I a1most),(2, .p (.val (.func (.func 77) #[] #[]))),(9,I x2),(11, .p (.sl 1 (List.map ci a0list))),(12,I (lenI (List.map ci a0list))),(13,I l1_2),(27,B j4)],[]⟩:Bool→St) ?_ ?_)))
  ·refine sG (xR 4 krf ?_)
   refine xS (leI r3 l1_1) (fun h5=>?_) (fun h5=>?_)
   ·refine xN (want_ft krf h5) krf (xR 3 krf (xE ?_))
    exact nq_n true ⟨[1,2,9,11,12,13,27],[],[],[]⟩ krf
   ·refine xO (want_ff krf h5) krf (xR 3 krf (xE ?_))
    exact nq_n (ltI a1most r3) ⟨[1,2,9,11,12,13,27],[],[],[]⟩ krf
  ·rintro j4
   refine sC j4 krf ?_ ?_
   ·refine sR tfm ⟨[6],[],[],[]⟩ ⟨[(6,B false)],[]⟩ krf (sT (sq_r (bq_r (sq_r (kq_r (bq_r (sq_r ?_)))))))
    exact qR (.id) krf krf krf
   ·refine sK (sN ⟨[1,2,9,11,12,13],[],[],[]⟩ ⟨[(1,I a1most),(2, .p (.val (.func (.func 77) #[] #[]))),(9,I x2),(11, .p (.sl 1 (List.map ci a0list))),(12,I (lenI (List.map ci a0list))),(13,I l1_2)],[]⟩ krf (sG (xR 2 krf ?_)))
    refine xC [] krf (g_days_keys_2_ok n x2) krf krf (fun _=>by kernel_rfl) (fun r6=>?_)
    refine xR 1 krf (xE (bq_n (sN ⟨[1,2,7,11,12,13],[],[],[]⟩ ⟨[(1,I a1most),(2, .p (.val (.func (.func 77) #[] #[]))),(7,I r6),(11, .p (.sl 1 (List.map ci a0list))),(12,I (lenI (List.map ci a0list))),(13,I l1_2)],[]⟩ krf (sL tfm krf ?_))))
    exact kq_n (r6,wi (l1_2+1)) ⟨[1,2,7,11,12,13],[],[],[]⟩ krf
 ·refine sim_exit (sq_x (kq_x (bq_hit (sN ⟨[],[],[],[]⟩ ⟨[],[]⟩ krf (sR tfm ⟨[6],[],[],[]⟩ ⟨[(6,B true)],[]⟩ krf (sT ?_))))))
  exact qR (.id) krf krf krf
def g_days_Valid_j5 (n:Nat) (a0c:GCl):Option Bool :=
 (g_dv_api_Change n a0c.Changes 52560000).bind fun r6 =>
 cond r6
  ((g_dv_int n a0c.Holidays 36500).bind fun r8 =>
  some r8)
  (some false)
def g_days_Valid_l9 (n:Nat) (a0c:GCl) (recl9:Int→Option Bool) (l9:Int):Option Bool :=
 cond (ltI l9 (lenI (List.map GCh.cs a0c.Changes)))
  ((getI a0c.Changes l9).bind fun x10 =>
  (g_days_inside n x10.Offset (-1440) 1440).bind fun r11 =>
  cond (!r11)
   (some false)
   (recl9 (wi (l9+1))))
  (g_days_Valid_j5 n a0c)
def g_days_Valid (n:Nat) (a0c:GCl):Option Bool :=
 (cond (ltI 16 (lenI (List.map GCh.cs a0c.Changes)))
  (some true)
  (cond (ltI 32 (lenI (List.map ci a0c.Holidays)))
   (some true)
   ((g_days_inside n a0c.Offset (-1440) 1440).bind fun r4 =>
   some (!r4)))).bind fun j1 =>
 cond j1
  (some false)
  (loopN (fun recl9 l9=>g_days_Valid_l9 n a0c recl9 l9) n 0)
theorem g_days_Valid_ok (n:Nat) (a0c:GCl):∀ r,g_days_Valid n a0c=some r→PCall Tryz.prog 53 [ag (GCl.cs a0c)] (.ret (B r)):=by
 refine pcall_sim (X:=fun r:Bool=>AEnd.ret (B r)) Tryz.func53 rfl Tryz.ntmps53 rfl ?_
 unfold g_days_Valid
 refine sR tfm ⟨[1],[1],[],[]⟩ ⟨[(1, .ptr 1 0)],[(1, .box 33 (bxc (GCl.cs a0c)))]⟩ krf (sS (sim_bind (fun j1=>⟨[(1, .ptr 1 0),(22,B j1)],[(1, .box 33 (bxc (GCl.cs a0c)))]⟩:Bool→St) ?_ ?_))
 ·refine sG (xR 5 krf ?_)
  refine xS (ltI 16 (lenI (mCh a0c.Changes))) (fun h2=>?_) (fun h2=>?_)
  ·refine xN (want_ft krf h2) krf (xR 10 krf (xE ?_))
   exact nq_n true ⟨[1,22],[1],[],[]⟩ krf
  ·refine xO (want_ff krf h2) krf (xR 5 krf ?_)
   refine xS (ltI 32 (lenI (List.map ci a0c.Holidays))) (fun h3=>?_) (fun h3=>?_)
   ·refine xN (want_ft krf h3) krf (xR 4 krf (xE ?_))
    exact nq_n true ⟨[1,22],[1],[],[]⟩ krf
   ·refine xO (want_ff krf h3) krf (xR 1 krf ?_)
    refine xC [] krf (g_days_inside_ok n a0c.Offset (-1440) 1440) krf krf (fun _=>by kernel_rfl) (fun r4=>?_)
    refine xR 2 krf (xE ?_)
    exact nq_n (!r4) ⟨[1,22],[1],[],[]⟩ krf
 ·rintro j1
  refine sC j1 krf ?_ ?_
  ·refine sR tfm ⟨[2],[],[],[]⟩ ⟨[(2,B false)],[]⟩ krf (sT (sq_r ?_))
   exact qR (.id) krf krf krf
  ·refine sK (sN ⟨[1],[1],[],[]⟩ ⟨[(1, .ptr 1 0)],[(1, .box 33 (bxc (GCl.cs a0c)))]⟩ krf (sim_cps (fun _=>⟨[(1, .ptr 1 0)],[(1, .box 33 (bxc (GCl.cs a0c)))]⟩:Unit→St) (fun _=>g_days_Valid_j5 n a0c) ?_ ?_))
   ·rintro _
    show SimE (g_days_Valid_j5 n a0c) _ _ _ _ _ _
    unfold g_days_Valid_j5
    refine sS (sG (xs_inline [] [] [] [] [] krf Tryz.func55 rfl Tryz.ntmps55 rfl krf krf krf (sR tfm ⟨[],[],[],[]⟩ ⟨[],[]⟩ krf (sR tfm ⟨[0,1],[],[],[]⟩ ⟨[(0, .p (.val (.func (.func 76) #[] #[]))),(1, .p (.val (.func (.func 77) #[] #[])))],[]⟩ krf (sT (iq_ret (.id) [] [] (.tup [.p (.val (.func (.func 76) #[] #[])), .p (.val (.func (.func 77) #[] #[]))]) krf krf (kr0 ?_)))))))
    refine xR 5 krf (xE (sN ⟨[1,5,6],[1],[],[]⟩ ⟨[(1, .ptr 1 0),(5, .p (.val (.func (.func 76) #[] #[]))),(6, .p (.val (.func (.func 77) #[] #[])))],[(1, .box 33 (bxc (GCl.cs a0c)))]⟩ krf (sS (sG (xR 3 krf ?_)))))
    refine xC [] krf (g_dv_api_Change_ok n a0c.Changes 52560000) krf krf (fun _=>by kernel_rfl) (fun r6=>?_)
    refine xR 1 krf ?_
    refine xS r6 (fun h7=>?_) (fun h7=>?_)
    ·refine xO (want_tt krf h7) krf (xR 2 krf ?_)
     refine xC [] krf (g_dv_int_ok n a0c.Holidays 36500) krf krf (fun _=>by kernel_rfl) (fun r8=>?_)
     refine xR 2 krf (xE (sN ⟨[2],[],[],[]⟩ ⟨[(2,B r8)],[]⟩ krf (sT ?_)))
     exact qR (.id) krf krf krf
    ·refine xN (want_tf krf h7) krf (xR 5 krf (xE (sN ⟨[2],[],[],[]⟩ ⟨[(2,B false)],[]⟩ krf (sT ?_))))
     exact qR (.id) krf krf krf
   ·refine sR tfm ⟨[1,24,25,26],[1],[],[]⟩ ⟨[(1, .ptr 1 0),(24, .p (.sl 2 (mCh a0c.Changes))),(25,I (lenI (mCh a0c.Changes))),(26,I 0)],[(1, .box 33 (bxc (GCl.cs a0c)))]⟩ krf (sB (sim_loop (fun l9=>⟨[(1, .ptr 1 0),(24, .p (.sl 2 (mCh a0c.Changes))),(25,I (lenI (mCh a0c.Changes))),(26,I l9)],[(1, .box 33 (bxc (GCl.cs a0c)))]⟩:Int→St) (weak_shr (K:=⟨[1,24,25,26],[1],[],[]⟩) krf) ?_))
    rintro recl9 l9
    show SimE (g_days_Valid_l9 n a0c recl9 l9) _ _ _ _ _ _
    unfold g_days_Valid_l9
    refine sR tfm ⟨[1,24,25,26,27],[1],[],[]⟩ ⟨[(1, .ptr 1 0),(24, .p (.sl 2 (mCh a0c.Changes))),(25,I (lenI (mCh a0c.Changes))),(26,I l9),(27,B (ltI l9 (lenI (mCh a0c.Changes))))],[(1, .box 33 (bxc (GCl.cs a0c)))]⟩ krf (sS (sC (ltI l9 (lenI (mCh a0c.Changes))) krf ?_ ?_))
    ·refine sK (sN ⟨[1,24,25,26],[1],[],[]⟩ ⟨[(1, .ptr 1 0),(24, .p (.sl 2 (mCh a0c.Changes))),(25,I (lenI (mCh a0c.Changes))),(26,I l9)],[(1, .box 33 (bxc (GCl.cs a0c)))]⟩ krf (sS (sB (sS (sG ?_)))))
     refine xG krf krf (aop_idx (e:=89) (S:=2) (enc:=GCh.cs) (l:=a0c.Changes) (k:=.i64) (n:=l9) (sv:=.p (.sl 2 (mCh a0c.Changes))) rfl krf krf krf krf krf) (fun x10=>?_)
     refine xR 3 krf (xE (sN ⟨[1,4,24,25,26],[1,4],[],[]⟩ ⟨[(1, .ptr 1 0),(4, .ptr 4 0),(24, .p (.sl 2 (mCh a0c.Changes))),(25,I (lenI (mCh a0c.Changes))),(26,I l9)],[(1, .box 33 (bxc (GCl.cs a0c))),(4, .box 89 (bxc (GCh.cs x10)))]⟩ krf (sS (sG (xR 2 krf ?_)))))
     refine xC [] krf (g_days_inside_ok n x10.Offset (-1440) 1440) krf krf (fun _=>by kernel_rfl) (fun r11=>?_)
     refine xR 1 krf (xE (sN ⟨[1,24,25,26,33],[1],[],[]⟩ ⟨[(1, .ptr 1 0),(24, .p (.sl 2 (mCh a0c.Changes))),(25,I (lenI (mCh a0c.Changes))),(26,I l9),(33,B (!r11))],[(1, .box 33 (bxc (GCl.cs a0c)))]⟩ krf (sC (!r11) krf ?_ ?_)))
     ·refine sR tfm ⟨[2],[],[],[]⟩ ⟨[(2,B false)],[]⟩ krf (sT (bq_r (sq_r (kq_r (bq_r (kq_r ?_))))))
      exact qR (.id) krf krf krf
     ·refine sK (bq_n (sN ⟨[1,24,25,26],[1],[],[]⟩ ⟨[(1, .ptr 1 0),(24, .p (.sl 2 (mCh a0c.Changes))),(25,I (lenI (mCh a0c.Changes))),(26,I l9)],[(1, .box 33 (bxc (GCl.cs a0c)))]⟩ krf (sL tfm krf ?_)))
      exact kq_n (wi (l9+1)) ⟨[1,24,25,26],[1],[],[]⟩ krf
    ·refine sim_exit (sq_x (kq_x (bq_hit ?_)))
     exact kq_n (k:=fun _=>g_days_Valid_j5 n a0c) () ⟨[1],[1],[],[]⟩ krf
def g_days_last_api_Change_l1 (n:Nat) (a0list:List GCh) (a1number:Int) (recl1:(Int × Int)→Option Int) (l1_1:Int) (l1_2:Int):Option Int :=
 cond (ltI l1_1 l1_2)
  ((getI a0list (wi (l1_1+(wi (Int.tdiv (wi ((wi (l1_2 - l1_1))+1)) 2))))).bind fun x2 =>
  (g_days_keys_1 n x2).bind fun r3 =>
  cond (leI r3 a1number)
   (recl1 (wi (l1_1+(wi (Int.tdiv (wi ((wi (l1_2 - l1_1))+1)) 2))),l1_2))
   (recl1 (l1_1,wi ((wi (l1_1+(wi (Int.tdiv (wi ((wi (l1_2 - l1_1))+1)) 2)))) - 1))))
  (some l1_1)
def g_days_last_api_Change (n:Nat) (a0list:List GCh) (a1number:Int):Option Int :=
 loopN (fun recl1 (l1_1,l1_2)=>g_days_last_api_Change_l1 n a0list a1number recl1 l1_1 l1_2) n ((-1),wi ((lenI (List.map GCh.cs a0list)) - 1))
theorem g_days_last_api_Change_ok (n:Nat) (a0list:List GCh) (a1number:Int):∀ r,g_days_last_api_Change n a0list a1number=some r→PCall Tryz.prog 56 [.p (.sl 2 (mCh a0list)),I a1number, .p (.val (.func (.func 76) #[] #[]))] (.ret (I r)):=by
 refine pcall_sim (X:=fun r:Int=>AEnd.ret (I r)) Tryz.func56 rfl Tryz.ntmps56 rfl ?_
 unfold g_days_last_api_Change
 refine sR tfm ⟨[0,1,2],[],[],[]⟩ ⟨[(0, .p (.sl 2 (mCh a0list))),(1,I a1number),(2, .p (.val (.func (.func 76) #[] #[])))],[]⟩ krf (sR tfm ⟨[0,1,2,7,8],[],[],[]⟩ ⟨[(0, .p (.sl 2 (mCh a0list))),(1,I a1number),(2, .p (.val (.func (.func 76) #[] #[]))),(7,I (-1)),(8,I (wi ((lenI (mCh a0list)) - 1)))],[]⟩ krf (sS (sB (sim_loop (fun (l1_1,l1_2)=>⟨[(0, .p (.sl 2 (mCh a0list))),(1,I a1number),(2, .p (.val (.func (.func 76) #[] #[]))),(7,I l1_1),(8,I l1_2)],[]⟩:(Int × Int)→St) (weak_shr (K:=⟨[0,1,2,7,8],[],[],[]⟩) krf) ?_))))
 rintro recl1 ⟨l1_1,l1_2⟩
 show SimE (g_days_last_api_Change_l1 n a0list a1number recl1 l1_1 l1_2) _ _ _ _ _ _
 unfold g_days_last_api_Change_l1
 refine sS (sR tfm ⟨[0,1,2,7,8,15],[],[],[]⟩ ⟨[(0, .p (.sl 2 (mCh a0list))),(1,I a1number),(2, .p (.val (.func (.func 76) #[] #[]))),(7,I l1_1),(8,I l1_2),(15,B (ltI l1_1 l1_2))],[]⟩ krf (sC (ltI l1_1 l1_2) krf ?_ ?_))
 ·refine sK (sN ⟨[0,1,2,7,8],[],[],[]⟩ ⟨[(0, .p (.sl 2 (mCh a0list))),(1,I a1number),(2, .p (.val (.func (.func 76) #[] #[]))),(7,I l1_1),(8,I l1_2)],[]⟩ krf (sB (sR tfm ⟨[0,1,2,7,8,9],[],[],[]⟩ ⟨[(0, .p (.sl 2 (mCh a0list))),(1,I a1number),(2, .p (.val (.func (.func 76) #[] #[]))),(7,I l1_1),(8,I l1_2),(9,I (wi (l1_1+(wi (Int.tdiv (wi ((wi (l1_2 - l1_1))+1)) 2)))))],[]⟩ krf (sS (sG (xR 3 krf ?_))))))
  refine xG krf krf (aop_idx (e:=89) (S:=2) (enc:=GCh.cs) (l:=a0list) (k:=.i64) (n:=wi (l1_1+(wi (Int.tdiv (wi ((wi (l1_2 - l1_1))+1)) 2)))) (sv:=.p (.sl 2 (mCh a0list))) rfl krf krf krf krf krf) (fun x2=>?_)
  refine xR 1 krf ?_
  refine xC [] krf (g_days_keys_1_ok n x2) krf krf (fun _=>by kernel_rfl) (fun r3=>?_)
  refine xR 2 krf (xE (sN ⟨[0,1,2,7,8,9,30],[],[],[]⟩ ⟨[(0, .p (.sl 2 (mCh a0list))),(1,I a1number),(2, .p (.val (.func (.func 76) #[] #[]))),(7,I l1_1),(8,I l1_2),(9,I (wi (l1_1+(wi (Int.tdiv (wi ((wi (l1_2 - l1_1))+1)) 2))))),(30,B (leI r3 a1number))],[]⟩ krf (sC (leI r3 a1number) krf ?_ ?_)))
  ·refine sL tfm krf (bq_n ?_)
   exact kq_n (wi (l1_1+(wi (Int.tdiv (wi ((wi (l1_2 - l1_1))+1)) 2))),l1_2) ⟨[0,1,2,7,8],[],[],[]⟩ krf
  ·refine sL tfm krf (bq_n ?_)
   exact kq_n (l1_1,wi ((wi (l1_1+(wi (Int.tdiv (wi ((wi (l1_2 - l1_1))+1)) 2)))) - 1)) ⟨[0,1,2,7,8],[],[],[]⟩ krf
 ·refine sim_exit (sq_x (kq_x (bq_hit (sN ⟨[7],[],[],[]⟩ ⟨[(7,I l1_1)],[]⟩ krf (sR tfm ⟨[6],[],[],[]⟩ ⟨[(6,I l1_1)],[]⟩ krf (sT ?_))))))
  exact qR (.id) krf krf krf
def g_days_split (n:Nat) (a0n:Int) (a1by:Int):Option (Int × Int) :=
 cond (!eqI a1by 0) (
  cond (!eqI a1by 0) (
   cond (ltI (Int.tmod a0n a1by) 0)
    (some (wi ((wi (Int.tdiv a0n a1by)) - 1),wi ((Int.tmod a0n a1by)+a1by)))
    (some (wi (Int.tdiv a0n a1by),Int.tmod a0n a1by))) none) none
theorem g_days_split_ok (n:Nat) (a0n:Int) (a1by:Int):∀ r,g_days_split n a0n a1by=some r→PCall Tryz.prog 57 [I a0n,I a1by] (.ret (.tup [I r.1,I r.2])):=by
 refine pcall_sim (X:=fun r:Int × Int=>AEnd.ret (.tup [I r.1,I r.2])) Tryz.func57 rfl Tryz.ntmps57 rfl ?_
 unfold g_days_split
 refine sR tfm ⟨[0,1],[],[],[]⟩ ⟨[(0,I a0n),(1,I a1by)],[]⟩ krf (sS (sim_drw tfm rfl (xR 2 krf (xF krf krf (aop_quo (k:=.i64) (a:=a0n) (b:=a1by) rfl krf krf) (xR 2 krf (xF krf krf (aop_rem (k:=.i64) (a:=a0n) (b:=a1by) rfl krf krf) (xR 2 krf ?_)))))))
 refine xs_endD krf (sN ⟨[1,6,7],[],[],[]⟩ ⟨[(1,I a1by),(6,I (wi (Int.tdiv a0n a1by))),(7,I (Int.tmod a0n a1by))],[]⟩ krf (sS (sR tfm ⟨[1,6,7,15],[],[],[]⟩ ⟨[(1,I a1by),(6,I (wi (Int.tdiv a0n a1by))),(7,I (Int.tmod a0n a1by)),(15,B (ltI (Int.tmod a0n a1by) 0))],[]⟩ krf (sC (ltI (Int.tmod a0n a1by) 0) krf ?_ ?_))))
 ·refine sL tfm krf (sN ⟨[6,7],[],[],[]⟩ ⟨[(6,I (wi ((wi (Int.tdiv a0n a1by)) - 1))),(7,I (wi ((Int.tmod a0n a1by)+a1by)))],[]⟩ krf (sR tfm ⟨[4,5],[],[],[]⟩ ⟨[(4,I (wi ((wi (Int.tdiv a0n a1by)) - 1))),(5,I (wi ((Int.tmod a0n a1by)+a1by)))],[]⟩ krf (sT ?_)))
  exact qR (.id) krf krf krf
 ·refine sK (sN ⟨[6,7],[],[],[]⟩ ⟨[(6,I (wi (Int.tdiv a0n a1by))),(7,I (Int.tmod a0n a1by))],[]⟩ krf (sR tfm ⟨[4,5],[],[],[]⟩ ⟨[(4,I (wi (Int.tdiv a0n a1by))),(5,I (Int.tmod a0n a1by))],[]⟩ krf (sT ?_)))
  exact qR (.id) krf krf krf
def g_days_Local (n:Nat) (a0c:GCl) (a1minute:Int):Option (Int × Int × Int) :=
 ((g_days_Valid n a0c).bind fun r2 =>
 cond (!r2)
  (some true)
  ((g_days_inside n a1minute 0 52560000).bind fun r4 =>
  some (!r4))).bind fun j1 =>
 cond j1
  (some (0,0,1))
  (((g_days_last_api_Change n a0c.Changes a1minute).bind fun r6 =>
  cond (leI 0 r6)
   ((getI a0c.Changes r6).bind fun x7 =>
   some x7.Offset)
   (some a0c.Offset)).bind fun j5 =>
  (g_days_split n (wi (a1minute+j5)) 1440).bind fun r8 =>
  some (r8.1,r8.2,0))
theorem g_days_Local_ok (n:Nat) (a0c:GCl) (a1minute:Int):∀ r,g_days_Local n a0c a1minute=some r→PCall Tryz.prog 36 [ag (GCl.cs a0c),I a1minute] (.ret (.tup [I r.1,I r.2.1,I r.2.2])):=by
 refine pcall_sim (X:=fun r:Int × Int × Int=>AEnd.ret (.tup [I r.1,I r.2.1,I r.2.2])) Tryz.func36 rfl Tryz.ntmps36 rfl ?_
 unfold g_days_Local
 refine sR tfm ⟨[1,2],[2],[],[]⟩ ⟨[(1,I a1minute),(2, .ptr 2 0)],[(2, .box 33 (bxc (GCl.cs a0c)))]⟩ krf (sS (sim_bind (fun j1=>⟨[(1,I a1minute),(2, .ptr 2 0),(20,B j1)],[(2, .box 33 (bxc (GCl.cs a0c)))]⟩:Bool→St) ?_ ?_))
 ·refine sG (xR 1 krf ?_)
  refine xC [] krf (g_days_Valid_ok n a0c) krf krf (fun _=>by kernel_rfl) (fun r2=>?_)
  refine xR 2 krf ?_
  refine xS (!r2) (fun h3=>?_) (fun h3=>?_)
  ·refine xN (want_ft krf h3) krf (xR 3 krf (xE ?_))
   exact nq_n true ⟨[1,2,20],[2],[],[]⟩ krf
  ·refine xO (want_ff krf h3) krf ?_
   refine xC [] krf (g_days_inside_ok n a1minute 0 52560000) krf krf (fun _=>by kernel_rfl) (fun r4=>?_)
   refine xR 2 krf (xE ?_)
   exact nq_n (!r4) ⟨[1,2,20],[2],[],[]⟩ krf
 ·rintro j1
  refine sC j1 krf ?_ ?_
  ·refine sR tfm ⟨[4,5,6],[],[],[]⟩ ⟨[(4,I 0),(5,I 0),(6,I 1)],[]⟩ krf (sT (sq_r ?_))
   exact qR (.id) krf krf krf
  ·refine sK (sN ⟨[1,2],[2],[],[]⟩ ⟨[(1,I a1minute),(2, .ptr 2 0)],[(2, .box 33 (bxc (GCl.cs a0c)))]⟩ krf (sR tfm ⟨[1,2,7],[2],[],[]⟩ ⟨[(1,I a1minute),(2, .ptr 2 0),(7,I a0c.Offset)],[(2, .box 33 (bxc (GCl.cs a0c)))]⟩ krf (sS (sG (xs_inline [] [] [] [] [] krf Tryz.func55 rfl Tryz.ntmps55 rfl krf krf krf (sR tfm ⟨[],[],[],[]⟩ ⟨[],[]⟩ krf (sR tfm ⟨[0,1],[],[],[]⟩ ⟨[(0, .p (.val (.func (.func 76) #[] #[]))),(1, .p (.val (.func (.func 77) #[] #[])))],[]⟩ krf ?_)))))))
   refine sT (iq_ret (.id) [] [] (.tup [.p (.val (.func (.func 76) #[] #[])), .p (.val (.func (.func 77) #[] #[]))]) krf krf (kr0 (xR 5 krf (xE (sN ⟨[1,2,7,8],[2],[],[]⟩ ⟨[(1,I a1minute),(2, .ptr 2 0),(7,I a0c.Offset),(8, .p (.val (.func (.func 76) #[] #[])))],[(2, .box 33 (bxc (GCl.cs a0c)))]⟩ krf (sim_bind (fun j5=>⟨[(1,I a1minute),(7,I j5)],[]⟩:Int→St) ?_ ?_))))))
   ·refine sS (sG (xR 4 krf ?_))
    refine xC [] krf (g_days_last_api_Change_ok n a0c.Changes a1minute) krf krf (fun _=>by kernel_rfl) (fun r6=>?_)
    refine xR 1 krf (xE (sN ⟨[1,2,7,10],[2],[],[]⟩ ⟨[(1,I a1minute),(2, .ptr 2 0),(7,I a0c.Offset),(10,I r6)],[(2, .box 33 (bxc (GCl.cs a0c)))]⟩ krf (sR tfm ⟨[1,2,7,10,33],[2],[],[]⟩ ⟨[(1,I a1minute),(2, .ptr 2 0),(7,I a0c.Offset),(10,I r6),(33,B (leI 0 r6))],[(2, .box 33 (bxc (GCl.cs a0c)))]⟩ krf (sC (leI 0 r6) krf ?_ ?_))))
    ·refine sG (xR 3 krf ?_)
     refine xG krf krf (aop_idx (e:=89) (S:=2) (enc:=GCh.cs) (l:=a0c.Changes) (k:=.i64) (n:=r6) (sv:=.p (.sl 2 (mCh a0c.Changes))) rfl krf krf krf krf krf) (fun x7=>?_)
     refine xR 3 krf (xE ?_)
     exact nq_n x7.Offset ⟨[1,7],[],[],[]⟩ krf
    ·refine sK ?_
     exact nq_n a0c.Offset ⟨[1,7],[],[],[]⟩ krf
   ·rintro j5
    refine sS (sG (xR 3 krf ?_))
    refine xC [] krf (g_days_split_ok n (wi (a1minute+j5)) 1440) krf krf (fun _=>by kernel_rfl) (fun r8=>?_)
    refine xR 5 krf (xE (sN ⟨[11,12],[],[],[]⟩ ⟨[(11,I r8.1),(12,I r8.2)],[]⟩ krf (sR tfm ⟨[4,5,6],[],[],[]⟩ ⟨[(4,I r8.1),(5,I r8.2),(6,I 0)],[]⟩ krf (sT ?_))))
    exact qR (.id) krf krf krf
def g_days_last_int_l1 (n:Nat) (a0list:List Int) (a1number:Int) (recl1:(Int × Int)→Option Int) (l1_1:Int) (l1_2:Int):Option Int :=
 cond (ltI l1_1 l1_2)
  ((getI a0list (wi (l1_1+(wi (Int.tdiv (wi ((wi (l1_2 - l1_1))+1)) 2))))).bind fun x2 =>
  (g_days_keys_2 n x2).bind fun r3 =>
  cond (leI r3 a1number)
   (recl1 (wi (l1_1+(wi (Int.tdiv (wi ((wi (l1_2 - l1_1))+1)) 2))),l1_2))
   (recl1 (l1_1,wi ((wi (l1_1+(wi (Int.tdiv (wi ((wi (l1_2 - l1_1))+1)) 2)))) - 1))))
  (some l1_1)
def g_days_last_int (n:Nat) (a0list:List Int) (a1number:Int):Option Int :=
 loopN (fun recl1 (l1_1,l1_2)=>g_days_last_int_l1 n a0list a1number recl1 l1_1 l1_2) n ((-1),wi ((lenI (List.map ci a0list)) - 1))
theorem g_days_last_int_ok (n:Nat) (a0list:List Int) (a1number:Int):∀ r,g_days_last_int n a0list a1number=some r→PCall Tryz.prog 58 [.p (.sl 1 (List.map ci a0list)),I a1number, .p (.val (.func (.func 77) #[] #[]))] (.ret (I r)):=by
 refine pcall_sim (X:=fun r:Int=>AEnd.ret (I r)) Tryz.func58 rfl Tryz.ntmps58 rfl ?_
 unfold g_days_last_int
 refine sR tfm ⟨[0,1,2],[],[],[]⟩ ⟨[(0, .p (.sl 1 (List.map ci a0list))),(1,I a1number),(2, .p (.val (.func (.func 77) #[] #[])))],[]⟩ krf (sR tfm ⟨[0,1,2,7,8],[],[],[]⟩ ⟨[(0, .p (.sl 1 (List.map ci a0list))),(1,I a1number),(2, .p (.val (.func (.func 77) #[] #[]))),(7,I (-1)),(8,I (wi ((lenI (List.map ci a0list)) - 1)))],[]⟩ krf (sS (sB (sim_loop (fun (l1_1,l1_2)=>⟨[(0, .p (.sl 1 (List.map ci a0list))),(1,I a1number),(2, .p (.val (.func (.func 77) #[] #[]))),(7,I l1_1),(8,I l1_2)],[]⟩:(Int × Int)→St) (weak_shr (K:=⟨[0,1,2,7,8],[],[],[]⟩) krf) ?_))))
 rintro recl1 ⟨l1_1,l1_2⟩
 show SimE (g_days_last_int_l1 n a0list a1number recl1 l1_1 l1_2) _ _ _ _ _ _
 unfold g_days_last_int_l1
 refine sS (sR tfm ⟨[0,1,2,7,8,15],[],[],[]⟩ ⟨[(0, .p (.sl 1 (List.map ci a0list))),(1,I a1number),(2, .p (.val (.func (.func 77) #[] #[]))),(7,I l1_1),(8,I l1_2),(15,B (ltI l1_1 l1_2))],[]⟩ krf (sC (ltI l1_1 l1_2) krf ?_ ?_))
 ·refine sK (sN ⟨[0,1,2,7,8],[],[],[]⟩ ⟨[(0, .p (.sl 1 (List.map ci a0list))),(1,I a1number),(2, .p (.val (.func (.func 77) #[] #[]))),(7,I l1_1),(8,I l1_2)],[]⟩ krf (sB (sR tfm ⟨[0,1,2,7,8,9],[],[],[]⟩ ⟨[(0, .p (.sl 1 (List.map ci a0list))),(1,I a1number),(2, .p (.val (.func (.func 77) #[] #[]))),(7,I l1_1),(8,I l1_2),(9,I (wi (l1_1+(wi (Int.tdiv (wi ((wi (l1_2 - l1_1))+1)) 2)))))],[]⟩ krf (sS (sG (xR 3 krf ?_))))))
  refine xG krf krf (aop_idx (e:=3) (S:=1) (enc:=ci) (l:=a0list) (k:=.i64) (n:=wi (l1_1+(wi (Int.tdiv (wi ((wi (l1_2 - l1_1))+1)) 2)))) (sv:=.p (.sl 1 (List.map ci a0list))) rfl krf krf krf krf krf) (fun x2=>?_)
  refine xR 1 krf ?_
  refine xC [] krf (g_days_keys_2_ok n x2) krf krf (fun _=>by kernel_rfl) (fun r3=>?_)
  refine xR 2 krf (xE (sN ⟨[0,1,2,7,8,9,30],[],[],[]⟩ ⟨[(0, .p (.sl 1 (List.map ci a0list))),(1,I a1number),(2, .p (.val (.func (.func 77) #[] #[]))),(7,I l1_1),(8,I l1_2),(9,I (wi (l1_1+(wi (Int.tdiv (wi ((wi (l1_2 - l1_1))+1)) 2))))),(30,B (leI r3 a1number))],[]⟩ krf (sC (leI r3 a1number) krf ?_ ?_)))
  ·refine sL tfm krf (bq_n ?_)
   exact kq_n (wi (l1_1+(wi (Int.tdiv (wi ((wi (l1_2 - l1_1))+1)) 2))),l1_2) ⟨[0,1,2,7,8],[],[],[]⟩ krf
  ·refine sL tfm krf (bq_n ?_)
   exact kq_n (l1_1,wi ((wi (l1_1+(wi (Int.tdiv (wi ((wi (l1_2 - l1_1))+1)) 2)))) - 1)) ⟨[0,1,2,7,8],[],[],[]⟩ krf
 ·refine sim_exit (sq_x (kq_x (bq_hit (sN ⟨[7],[],[],[]⟩ ⟨[(7,I l1_1)],[]⟩ krf (sR tfm ⟨[6],[],[],[]⟩ ⟨[(6,I l1_1)],[]⟩ krf (sT ?_))))))
  exact qR (.id) krf krf krf
def g_days_week (n:Nat):Option (Int × Int × Int × Int × Int × Int × Int) :=
 some (0,0,0,0,0,1,2)
theorem g_days_week_ok (n:Nat):∀ r,g_days_week n=some r→PCall Tryz.prog 59 [] (.ret (.agg [I r.1,I r.2.1,I r.2.2.1,I r.2.2.2.1,I r.2.2.2.2.1,I r.2.2.2.2.2.1,I r.2.2.2.2.2.2])):=by
 refine pcall_sim (X:=fun r:Int × Int × Int × Int × Int × Int × Int=>AEnd.ret (.agg [I r.1,I r.2.1,I r.2.2.1,I r.2.2.2.1,I r.2.2.2.2.1,I r.2.2.2.2.2.1,I r.2.2.2.2.2.2])) Tryz.func59 rfl Tryz.ntmps59 rfl ?_
 unfold g_days_week
 refine sR tfm ⟨[0],[0],[],[]⟩ ⟨[(0, .ptr 0 0)],[(0, .box 93 [I 0,I 0,I 0,I 0,I 0,I 0,I 0])]⟩ krf (sR tfm ⟨[0],[0],[],[]⟩ ⟨[(0, .ptr 0 0)],[(0, .box 93 [I 0,I 0,I 0,I 0,I 0,I 1,I 2])]⟩ krf (sT ?_))
 exact qR (.id) krf krf krf
def g_days_Type (n:Nat) (a0c:GCl) (a1day:Int):Option (Int × Int) :=
 ((g_days_Valid n a0c).bind fun r2 =>
 cond (!r2)
  (some true)
  ((g_days_inside n a1day (-1) 36501).bind fun r4 =>
  some (!r4))).bind fun j1 =>
 cond j1
  (some (0,1))
  ((g_days_last_int n a0c.Holidays a1day).bind fun r5 =>
  (cond (leI 0 r5)
   ((getI a0c.Holidays r5).bind fun x8 =>
   some (eqI x8 a1day))
   (some false)).bind fun j6 =>
  cond j6
   (some (2,0))
   ((g_days_week n).bind fun r9 =>
   (g_days_split n a1day 7).bind fun r10 =>
   (getI [r9.1,r9.2.1,r9.2.2.1,r9.2.2.2.1,r9.2.2.2.2.1,r9.2.2.2.2.2.1,r9.2.2.2.2.2.2] r10.2).bind fun x11 =>
   some (x11,0)))
theorem g_days_Type_ok (n:Nat) (a0c:GCl) (a1day:Int):∀ r,g_days_Type n a0c a1day=some r→PCall Tryz.prog 37 [ag (GCl.cs a0c),I a1day] (.ret (.tup [I r.1,I r.2])):=by
 refine pcall_sim (X:=fun r:Int × Int=>AEnd.ret (.tup [I r.1,I r.2])) Tryz.func37 rfl Tryz.ntmps37 rfl ?_
 unfold g_days_Type
 refine sR tfm ⟨[1,2],[2],[],[]⟩ ⟨[(1,I a1day),(2, .ptr 2 0)],[(2, .box 33 (bxc (GCl.cs a0c)))]⟩ krf (sS (sim_bind (fun j1=>⟨[(1,I a1day),(2, .ptr 2 0),(19,B j1)],[(2, .box 33 (bxc (GCl.cs a0c)))]⟩:Bool→St) ?_ ?_))
 ·refine sG (xR 1 krf ?_)
  refine xC [] krf (g_days_Valid_ok n a0c) krf krf (fun _=>by kernel_rfl) (fun r2=>?_)
  refine xR 2 krf ?_
  refine xS (!r2) (fun h3=>?_) (fun h3=>?_)
  ·refine xN (want_ft krf h3) krf (xR 3 krf (xE ?_))
   exact nq_n true ⟨[1,2,19],[2],[],[]⟩ krf
  ·refine xO (want_ff krf h3) krf ?_
   refine xC [] krf (g_days_inside_ok n a1day (-1) 36501) krf krf (fun _=>by kernel_rfl) (fun r4=>?_)
   refine xR 2 krf (xE ?_)
   exact nq_n (!r4) ⟨[1,2,19],[2],[],[]⟩ krf
 ·rintro j1
  refine sC j1 krf ?_ ?_
  ·refine sR tfm ⟨[4,5],[],[],[]⟩ ⟨[(4,I 0),(5,I 1)],[]⟩ krf (sT (sq_r ?_))
   exact qR (.id) krf krf krf
  ·refine sK (sN ⟨[1,2],[2],[],[]⟩ ⟨[(1,I a1day),(2, .ptr 2 0)],[(2, .box 33 (bxc (GCl.cs a0c)))]⟩ krf (sS (sG (xs_inline [] [] [] [] [] krf Tryz.func55 rfl Tryz.ntmps55 rfl krf krf krf (sR tfm ⟨[],[],[],[]⟩ ⟨[],[]⟩ krf (sR tfm ⟨[0,1],[],[],[]⟩ ⟨[(0, .p (.val (.func (.func 76) #[] #[]))),(1, .p (.val (.func (.func 77) #[] #[])))],[]⟩ krf (sT ?_)))))))
   refine iq_ret (.id) [] [] (.tup [.p (.val (.func (.func 76) #[] #[])), .p (.val (.func (.func 77) #[] #[]))]) krf krf (kr0 (xR 5 krf (xE (sN ⟨[1,2,7],[2],[],[]⟩ ⟨[(1,I a1day),(2, .ptr 2 0),(7, .p (.val (.func (.func 77) #[] #[])))],[(2, .box 33 (bxc (GCl.cs a0c)))]⟩ krf (sS (sS (sG ?_)))))))
   refine xR 4 krf ?_
   refine xC [] krf (g_days_last_int_ok n a0c.Holidays a1day) krf krf (fun _=>by kernel_rfl) (fun r5=>?_)
   refine xR 1 krf (xE (sN ⟨[1,2,8],[2],[],[]⟩ ⟨[(1,I a1day),(2, .ptr 2 0),(8,I r5)],[(2, .box 33 (bxc (GCl.cs a0c)))]⟩ krf (sim_bind (fun j6=>⟨[(1,I a1day),(39,B j6)],[]⟩:Bool→St) ?_ ?_)))
   ·refine sG (xR 3 krf ?_)
    refine xS (leI 0 r5) (fun h7=>?_) (fun h7=>?_)
    ·refine xO (want_tt krf h7) krf (xR 2 krf ?_)
     refine xG krf krf (aop_idx (e:=3) (S:=1) (enc:=ci) (l:=a0c.Holidays) (k:=.i64) (n:=r5) (sv:=.p (.sl 1 (List.map ci a0c.Holidays))) rfl krf krf krf krf krf) (fun x8=>?_)
     refine xR 4 krf (xE ?_)
     exact nq_n (eqI x8 a1day) ⟨[1,39],[],[],[]⟩ krf
    ·refine xN (want_tf krf h7) krf (xR 7 krf (xE ?_))
     exact nq_n false ⟨[1,39],[],[],[]⟩ krf
   ·rintro j6
    refine sC j6 krf ?_ ?_
    ·refine sR tfm ⟨[4,5],[],[],[]⟩ ⟨[(4,I 2),(5,I 0)],[]⟩ krf (sT (sq_r ?_))
     exact qR (.id) krf krf krf
    ·refine sK (sN ⟨[1],[],[],[]⟩ ⟨[(1,I a1day)],[]⟩ krf (sS (sG ?_)))
     refine xC [] krf (g_days_week_ok n) krf krf (fun _=>by kernel_rfl) (fun r9=>?_)
     refine xR 2 krf (xE (sN ⟨[1,9],[9],[],[]⟩ ⟨[(1,I a1day),(9, .ptr 9 0)],[(9, .box 93 [I r9.1,I r9.2.1,I r9.2.2.1,I r9.2.2.2.1,I r9.2.2.2.2.1,I r9.2.2.2.2.2.1,I r9.2.2.2.2.2.2])]⟩ krf (sS (sG (xR 1 krf ?_)))))
     refine xC [] krf (g_days_split_ok n a1day 7) krf krf (fun _=>by kernel_rfl) (fun r10=>?_)
     refine xR 5 krf (xE (sN ⟨[9,11],[9],[],[]⟩ ⟨[(9, .ptr 9 0),(11,I r10.2)],[(9, .box 93 [I r9.1,I r9.2.1,I r9.2.2.1,I r9.2.2.2.1,I r9.2.2.2.2.1,I r9.2.2.2.2.2.1,I r9.2.2.2.2.2.2])]⟩ krf (sS (sG (xR 1 krf ?_)))))
     refine xs_getH krf krf (aop_arrL (b:=9) (k:=.i64) (n:=r10.2) (len:=7) (e:=3) (l:=[r9.1,r9.2.1,r9.2.2.1,r9.2.2.2.1,r9.2.2.2.2.1,r9.2.2.2.2.2.1,r9.2.2.2.2.2.2]) rfl krf krf krf krf rfl) (fun x11 hx11=>?_)
     refine xs_u krf krf (aop_ldL (g:=I) (l:=[r9.1,r9.2.1,r9.2.2.1,r9.2.2.2.1,r9.2.2.2.2.1,r9.2.2.2.2.2.1,r9.2.2.2.2.2.2]) (tb:=93) (b:=9) (n:=r10.2) (v:=x11) rfl krf krf krf (getI_at hx11)) (xR 2 krf (xE (sN ⟨[4,5],[],[],[]⟩ ⟨[(4,I x11),(5,I 0)],[]⟩ krf (sT ?_))))
     exact qR (.id) krf krf krf
def g_t_Applies (n:Nat) (a0a:GAr) (a1c:GCl) (a2minute:Int):Option Bool :=
 (g_t_validArticle n a0a).bind fun r1 =>
 cond (!r1)
  (some false)
  ((g_days_Local n a1c a2minute).bind fun r2 =>
  (cond (!eqI r2.2.2 0)
   (some true)
   (cond (ltI r2.2.1 a0a.From)
    (some true)
    (some (leI a0a.To r2.2.1)))).bind fun j3 =>
  cond j3
   (some false)
   ((g_days_Type n a1c r2.1).bind fun r6 =>
   cond (eqI r6.2 0)
    (cond (!ltI r6.1 0) (
     some (!eqI (bAnd .i64 a0a.Days (shlI .i64 1 r6.1)) 0)) none)
    (some false)))
theorem g_t_Applies_ok (n:Nat) (a0a:GAr) (a1c:GCl) (a2minute:Int):∀ r,g_t_Applies n a0a a1c a2minute=some r→PCall Tryz.prog 17 [ag (GAr.cs a0a),ag (GCl.cs a1c),I a2minute] (.ret (B r)):=by
 refine pcall_sim (X:=fun r:Bool=>AEnd.ret (B r)) Tryz.func17 rfl Tryz.ntmps17 rfl ?_
 unfold g_t_Applies
 refine sR tfm ⟨[2,3,4],[3,4],[],[]⟩ ⟨[(2,I a2minute),(3, .ptr 3 0),(4, .ptr 4 0)],[(3, .box 29 (bxc (GAr.cs a0a))),(4, .box 33 (bxc (GCl.cs a1c)))]⟩ krf (sS (sS (sG (xR 1 krf ?_))))
 refine xC [] krf (g_t_validArticle_ok n a0a) krf krf (fun _=>by kernel_rfl) (fun r1=>?_)
 refine xR 1 krf (xE (sN ⟨[2,3,4,13],[3,4],[],[]⟩ ⟨[(2,I a2minute),(3, .ptr 3 0),(4, .ptr 4 0),(13,B (!r1))],[(3, .box 29 (bxc (GAr.cs a0a))),(4, .box 33 (bxc (GCl.cs a1c)))]⟩ krf (sC (!r1) krf ?_ ?_)))
 ·refine sR tfm ⟨[6],[],[],[]⟩ ⟨[(6,B false)],[]⟩ krf (sT (sq_r ?_))
  exact qR (.id) krf krf krf
 ·refine sK (sN ⟨[2,3,4],[3,4],[],[]⟩ ⟨[(2,I a2minute),(3, .ptr 3 0),(4, .ptr 4 0)],[(3, .box 29 (bxc (GAr.cs a0a))),(4, .box 33 (bxc (GCl.cs a1c)))]⟩ krf (sS (sG (xR 2 krf ?_))))
  refine xC [] krf (g_days_Local_ok n a1c a2minute) krf krf (fun _=>by kernel_rfl) (fun r2=>?_)
  refine xR 7 krf (xE (sN ⟨[3,4,7,8,9],[3,4],[],[]⟩ ⟨[(3, .ptr 3 0),(4, .ptr 4 0),(7,I r2.1),(8,I r2.2.1),(9,I r2.2.2)],[(3, .box 29 (bxc (GAr.cs a0a))),(4, .box 33 (bxc (GCl.cs a1c)))]⟩ krf (sS (sim_bind (fun j3=>⟨[(3, .ptr 3 0),(4, .ptr 4 0),(7,I r2.1),(34,B j3)],[(3, .box 29 (bxc (GAr.cs a0a))),(4, .box 33 (bxc (GCl.cs a1c)))]⟩:Bool→St) ?_ ?_))))
  ·refine sG (xR 3 krf ?_)
   refine xS (!eqI r2.2.2 0) (fun h4=>?_) (fun h4=>?_)
   ·refine xN (want_ft krf h4) krf (xR 10 krf (xE ?_))
    exact nq_n true ⟨[3,4,7,34],[3,4],[],[]⟩ krf
   ·refine xO (want_ff krf h4) krf (xR 5 krf ?_)
    refine xS (ltI r2.2.1 a0a.From) (fun h5=>?_) (fun h5=>?_)
    ·refine xN (want_ft krf h5) krf (xR 4 krf (xE ?_))
     exact nq_n true ⟨[3,4,7,34],[3,4],[],[]⟩ krf
    ·refine xO (want_ff krf h5) krf (xR 4 krf (xE ?_))
     exact nq_n (leI a0a.To r2.2.1) ⟨[3,4,7,34],[3,4],[],[]⟩ krf
  ·rintro j3
   refine sC j3 krf ?_ ?_
   ·refine sR tfm ⟨[6],[],[],[]⟩ ⟨[(6,B false)],[]⟩ krf (sT (sq_r ?_))
    exact qR (.id) krf krf krf
   ·refine sK (sN ⟨[3,4,7],[3,4],[],[]⟩ ⟨[(3, .ptr 3 0),(4, .ptr 4 0),(7,I r2.1)],[(3, .box 29 (bxc (GAr.cs a0a))),(4, .box 33 (bxc (GCl.cs a1c)))]⟩ krf (sS (sG (xR 2 krf ?_))))
    refine xC [] krf (g_days_Type_ok n a1c r2.1) krf krf (fun _=>by kernel_rfl) (fun r6=>?_)
    refine xR 5 krf (xE (sN ⟨[3,9,10],[3],[],[]⟩ ⟨[(3, .ptr 3 0),(9,I r6.2),(10,I r6.1)],[(3, .box 29 (bxc (GAr.cs a0a)))]⟩ krf (sS (sim_drw tfm rfl (xR 3 krf ?_)))))
    refine xS (eqI r6.2 0) (fun h7=>?_) (fun h7=>?_)
    ·refine xO (want_tt krf h7) krf (xR 2 krf (xF krf krf (aop_shl (k:=.i64) (k':=.i64) (a:=1) (b:=r6.1) rfl krf krf) (xR 4 krf (xs_endD krf (sN ⟨[6],[],[],[]⟩ ⟨[(6,B (!eqI (bAnd .i64 a0a.Days (shlI .i64 1 r6.1)) 0))],[]⟩ krf (sT ?_))))))
     exact qR (.id) krf krf krf
    ·refine xN (want_tf krf h7) krf (xR 7 krf (xs_endD krf (sN ⟨[6],[],[],[]⟩ ⟨[(6,B false)],[]⟩ krf (sT ?_))))
     exact qR (.id) krf krf krf
def g_t_Valid_l4 (n:Nat) (a0t:GTf) (recl4:(Int × Int)→Option Bool) (l4_1:Int) (l4_2:Int):Option Bool :=
 cond (ltI l4_2 (lenI (List.map GAr.cs a0t.Articles)))
  ((getI a0t.Articles l4_2).bind fun x5 =>
  (g_t_validArticle n x5).bind fun r6 =>
  cond (!r6)
   (some false)
   (cond (eqI x5.Kind 6)
    (recl4 (wi (l4_1+1),wi (l4_2+1)))
    (recl4 (l4_1,wi (l4_2+1)))))
  (some (leI l4_1 1))
def g_t_Valid (n:Nat) (a0t:GTf):Option Bool :=
 ((g_p_Valid n (⟨1,[],0,0,[GNode.cs (⟨2,a0t.Name,3,0,[]⟩:GNode)]⟩:GNode)).bind fun r2 =>
 cond (!r2)
  (some true)
  (some (ltI 12 (lenI (List.map GAr.cs a0t.Articles))))).bind fun j1 =>
 cond j1
  (some false)
  (loopN (fun recl4 (l4_1,l4_2)=>g_t_Valid_l4 n a0t recl4 l4_1 l4_2) n (0,0))
theorem g_t_Valid_ok (n:Nat) (a0t:GTf):∀ r,g_t_Valid n a0t=some r→PCall Tryz.prog 15 [ag (GTf.cs a0t)] (.ret (B r)):=by
 refine pcall_sim (X:=fun r:Bool=>AEnd.ret (B r)) Tryz.func15 rfl Tryz.ntmps15 rfl ?_
 unfold g_t_Valid
 refine sR tfm ⟨[1],[1],[],[]⟩ ⟨[(1, .ptr 1 0)],[(1, .box 27 (bxc (GTf.cs a0t)))]⟩ krf (sR tfm ⟨[1,3],[1,3],[],[(3,[.id, .id, .id, .id, .sl 5])]⟩ ⟨[(1, .ptr 1 0),(3, .ptr 3 0)],[(1, .box 27 (bxc (GTf.cs a0t))),(3, .box 24 (bxc (GNode.cs ⟨2,a0t.Name,3,0,[]⟩)))]⟩ krf (sS (sim_bind (fun j1=>⟨[(1, .ptr 1 0),(20,B j1)],[(1, .box 27 (bxc (GTf.cs a0t)))]⟩:Bool→St) ?_ ?_)))
 ·refine sG (xR 3 krf ?_)
  refine xC [.agg [.id, .id, .id, .id, .sl 5]] krf (g_p_Valid_ok n (⟨1,[],0,0,[GNode.cs (⟨2,a0t.Name,3,0,[]⟩:GNode)]⟩:GNode)) krf krf (fun _=>by kernel_rfl) (fun r2=>?_)
  refine xR 2 krf ?_
  refine xS (!r2) (fun h3=>?_) (fun h3=>?_)
  ·refine xN (want_ft krf h3) krf (xR 4 krf (xE ?_))
   exact nq_n true ⟨[1,20],[1],[],[]⟩ krf
  ·refine xO (want_ff krf h3) krf (xR 4 krf (xE ?_))
   exact nq_n (ltI 12 (lenI (mAr a0t.Articles))) ⟨[1,20],[1],[],[]⟩ krf
 ·rintro j1
  refine sC j1 krf ?_ ?_
  ·refine sR tfm ⟨[2],[],[],[]⟩ ⟨[(2,B false)],[]⟩ krf (sT (sq_r ?_))
   exact qR (.id) krf krf krf
  ·refine sK (sN ⟨[1],[1],[],[]⟩ ⟨[(1, .ptr 1 0)],[(1, .box 27 (bxc (GTf.cs a0t)))]⟩ krf (sR tfm ⟨[1,4],[1],[],[]⟩ ⟨[(1, .ptr 1 0),(4,I 0)],[(1, .box 27 (bxc (GTf.cs a0t)))]⟩ krf (sS (sR tfm ⟨[4,22,23,24],[],[],[]⟩ ⟨[(4,I 0),(22, .p (.sl 7 (mAr a0t.Articles))),(23,I (lenI (mAr a0t.Articles))),(24,I 0)],[]⟩ krf (sB (sim_loop (fun (l4_1,l4_2)=>⟨[(4,I l4_1),(22, .p (.sl 7 (mAr a0t.Articles))),(23,I (lenI (mAr a0t.Articles))),(24,I l4_2)],[]⟩:(Int × Int)→St) (weak_shr (K:=⟨[4,22,23,24],[],[],[]⟩) krf) ?_))))))
   rintro recl4 ⟨l4_1,l4_2⟩
   show SimE (g_t_Valid_l4 n a0t recl4 l4_1 l4_2) _ _ _ _ _ _
   unfold g_t_Valid_l4
   refine sR tfm ⟨[4,22,23,24,25],[],[],[]⟩ ⟨[(4,I l4_1),(22, .p (.sl 7 (mAr a0t.Articles))),(23,I (lenI (mAr a0t.Articles))),(24,I l4_2),(25,B (ltI l4_2 (lenI (mAr a0t.Articles))))],[]⟩ krf (sS (sC (ltI l4_2 (lenI (mAr a0t.Articles))) krf ?_ ?_))
   ·refine sK (sN ⟨[4,22,23,24],[],[],[]⟩ ⟨[(4,I l4_1),(22, .p (.sl 7 (mAr a0t.Articles))),(23,I (lenI (mAr a0t.Articles))),(24,I l4_2)],[]⟩ krf (sS (sB (sS (sG ?_)))))
    refine xG krf krf (aop_idx (e:=29) (S:=7) (enc:=GAr.cs) (l:=a0t.Articles) (k:=.i64) (n:=l4_2) (sv:=.p (.sl 7 (mAr a0t.Articles))) rfl krf krf krf krf krf) (fun x5=>?_)
    refine xR 3 krf (xE (sN ⟨[4,6,22,23,24],[6],[],[]⟩ ⟨[(4,I l4_1),(6, .ptr 6 0),(22, .p (.sl 7 (mAr a0t.Articles))),(23,I (lenI (mAr a0t.Articles))),(24,I l4_2)],[(6, .box 29 (bxc (GAr.cs x5)))]⟩ krf (sS (sS (sG (xR 1 krf ?_))))))
    refine xC [] krf (g_t_validArticle_ok n x5) krf krf (fun _=>by kernel_rfl) (fun r6=>?_)
    refine xR 1 krf (xE (sN ⟨[4,6,22,23,24,30],[6],[],[]⟩ ⟨[(4,I l4_1),(6, .ptr 6 0),(22, .p (.sl 7 (mAr a0t.Articles))),(23,I (lenI (mAr a0t.Articles))),(24,I l4_2),(30,B (!r6))],[(6, .box 29 (bxc (GAr.cs x5)))]⟩ krf (sC (!r6) krf ?_ ?_)))
    ·refine sR tfm ⟨[2],[],[],[]⟩ ⟨[(2,B false)],[]⟩ krf (sT (sq_r (bq_r (sq_r (kq_r (bq_r (sq_r ?_)))))))
     exact qR (.id) krf krf krf
    ·refine sK (sN ⟨[4,6,22,23,24],[6],[],[]⟩ ⟨[(4,I l4_1),(6, .ptr 6 0),(22, .p (.sl 7 (mAr a0t.Articles))),(23,I (lenI (mAr a0t.Articles))),(24,I l4_2)],[(6, .box 29 (bxc (GAr.cs x5)))]⟩ krf (sR tfm ⟨[4,22,23,24,33],[],[],[]⟩ ⟨[(4,I l4_1),(22, .p (.sl 7 (mAr a0t.Articles))),(23,I (lenI (mAr a0t.Articles))),(24,I l4_2),(33,B (eqI x5.Kind 6))],[]⟩ krf (sC (eqI x5.Kind 6) krf ?_ ?_)))
     ·refine sL tfm krf (bq_n (sN ⟨[4,22,23,24],[],[],[]⟩ ⟨[(4,I (wi (l4_1+1))),(22, .p (.sl 7 (mAr a0t.Articles))),(23,I (lenI (mAr a0t.Articles))),(24,I l4_2)],[]⟩ krf (sL tfm krf ?_)))
      exact kq_n (wi (l4_1+1),wi (l4_2+1)) ⟨[4,22,23,24],[],[],[]⟩ krf
     ·refine sK (bq_n (sN ⟨[4,22,23,24],[],[],[]⟩ ⟨[(4,I l4_1),(22, .p (.sl 7 (mAr a0t.Articles))),(23,I (lenI (mAr a0t.Articles))),(24,I l4_2)],[]⟩ krf (sL tfm krf ?_)))
      exact kq_n (l4_1,wi (l4_2+1)) ⟨[4,22,23,24],[],[],[]⟩ krf
   ·refine sim_exit (sq_x (kq_x (bq_hit (sN ⟨[4],[],[],[]⟩ ⟨[(4,I l4_1)],[]⟩ krf (sR tfm ⟨[2],[],[],[]⟩ ⟨[(2,B (leI l4_1 1))],[]⟩ krf (sT ?_))))))
    exact qR (.id) krf krf krf
def g_law32_head (n:Nat):Option Bool :=
 ((g_law32_is n [116,97,114,105,102,102,32,116,32,123,32,101,110,101,114,103,121,32,51,48,32,111,110,32,119,111,114,107,32,98,101,116,119,101,101,110,32,52,56,48,32,49,50,48,48,59,32,125] (⟨2,1,480,1200,30,0,0⟩:GAr)).bind fun r2 =>
 cond r2
  ((g_law32_is n [116,97,114,105,102,102,32,116,32,123,32,116,105,109,101,32,53,32,102,114,101,101,32,49,48,32,112,101,114,32,49,53,59,32,125] (⟨3,7,0,1440,5,15,10⟩:GAr)).bind fun r4 =>
  some r4)
  (some false)).bind fun j1 =>
 (cond j1
  ((g_law32_fails n [116,97,114,105,102,102,32,116,32,123,32,116,105,109,101,32,53,59,32,125] 9 11).bind fun r7 =>
  cond r7
   ((g_law32_fails n [116,97,114,105,102,102,32,116,32,123,32,101,110,101,114,103,121,32,53,32,98,101,116,119,101,101,110,32,57,32,57,59,32,125] 3 11).bind fun r9 =>
   some r9)
   (some false))
  (some false)).bind fun j5 =>
 (cond j5
  ((g_t_Applies n (⟨2,1,480,1200,30,0,0⟩:GAr) (⟨0,[],[]⟩:GCl) 480).bind fun r12 =>
  cond r12
   ((g_t_Applies n (⟨2,1,480,1200,30,0,0⟩:GAr) (⟨0,[],[]⟩:GCl) 1199).bind fun r14 =>
   cond r14
    ((g_t_Applies n (⟨2,1,480,1200,30,0,0⟩:GAr) (⟨0,[],[]⟩:GCl) 479).bind fun r16 =>
    cond (!r16)
     ((g_t_Applies n (⟨2,1,480,1200,30,0,0⟩:GAr) (⟨0,[],[]⟩:GCl) 1200).bind fun r18 =>
     cond (!r18)
      ((g_t_Applies n (⟨2,1,480,1200,30,0,0⟩:GAr) (⟨0,[],[]⟩:GCl) 7700).bind fun r20 =>
      cond (!r20)
       ((g_t_Applies n (⟨2,1,480,1200,30,0,0⟩:GAr) (⟨0,[],[]⟩:GCl) 10580).bind fun r22 =>
       some r22)
       (some false))
      (some false))
     (some false))
    (some false))
   (some false))
  (some false)).bind fun j10 =>
 cond j10
  ((g_t_Valid n (⟨[116],[(⟨2,1,480,1200,30,0,0⟩:GAr)]⟩:GTf)).bind fun r24 =>
  cond r24
   ((g_t_Valid n (⟨[111,110],[]⟩:GTf)).bind fun r26 =>
   some (!r26))
   (some false))
  (some false)
theorem g_law32_head_ok (n:Nat):∀ r,g_law32_head n=some r→PCall Tryz.prog 7 [] (.ret (B r)):=by
 refine pcall_sim (X:=fun r:Bool=>AEnd.ret (B r)) Tryz.func7 rfl Tryz.ntmps7 rfl ?_
 unfold g_law32_head
 refine sR tfm ⟨[],[],[],[]⟩ ⟨[],[]⟩ krf (sR tfm ⟨[1],[1],[],[]⟩ ⟨[(1, .ptr 1 0)],[(1, .box 29 [I 2,I 1,I 480,I 1200,I 30,I 0,I 0])]⟩ krf (sim_bind (fun j1=>⟨[(1, .ptr 1 0),(2,B j1)],[(1, .box 29 [I 2,I 1,I 480,I 1200,I 30,I 0,I 0])]⟩:Bool→St) ?_ ?_))
 ·refine sG (xR 1 krf ?_)
  refine xC [] krf (g_law32_is_ok n [116,97,114,105,102,102,32,116,32,123,32,101,110,101,114,103,121,32,51,48,32,111,110,32,119,111,114,107,32,98,101,116,119,101,101,110,32,52,56,48,32,49,50,48,48,59,32,125] (⟨2,1,480,1200,30,0,0⟩:GAr)) krf krf (fun _=>by kernel_rfl) (fun r2=>?_)
  refine xR 1 krf ?_
  refine xS r2 (fun h3=>?_) (fun h3=>?_)
  ·refine xO (want_tt krf h3) krf ?_
   refine xC [] krf (g_law32_is_ok n [116,97,114,105,102,102,32,116,32,123,32,116,105,109,101,32,53,32,102,114,101,101,32,49,48,32,112,101,114,32,49,53,59,32,125] (⟨3,7,0,1440,5,15,10⟩:GAr)) krf krf (fun _=>by kernel_rfl) (fun r4=>?_)
   refine xR 2 krf (xE ?_)
   exact nq_n r4 ⟨[1,2],[1],[],[]⟩ krf
  ·refine xN (want_tf krf h3) krf (xR 3 krf (xE ?_))
   exact nq_n false ⟨[1,2],[1],[],[]⟩ krf
 ·rintro j1
  refine sim_bind (fun j5=>⟨[(1, .ptr 1 0),(2,B j5)],[(1, .box 29 [I 2,I 1,I 480,I 1200,I 30,I 0,I 0])]⟩:Bool→St) ?_ ?_
  ·refine sG (xR 2 krf ?_)
   refine xS j1 (fun h6=>?_) (fun h6=>?_)
   ·refine xC [] (want_tt krf h6) (g_law32_fails_ok n [116,97,114,105,102,102,32,116,32,123,32,116,105,109,101,32,53,59,32,125] 9 11) krf krf (fun _=>by kernel_rfl) (fun r7=>?_)
    refine xR 2 krf ?_
    refine xS r7 (fun h8=>?_) (fun h8=>?_)
    ·refine xC [] (want_tt krf h8) (g_law32_fails_ok n [116,97,114,105,102,102,32,116,32,123,32,101,110,101,114,103,121,32,53,32,98,101,116,119,101,101,110,32,57,32,57,59,32,125] 3 11) krf krf (fun _=>by kernel_rfl) (fun r9=>?_)
     refine xR 2 krf (xE ?_)
     exact nq_n r9 ⟨[1,2],[1],[],[]⟩ krf
    ·refine xN (want_tf krf h8) krf (xR 2 krf (xE ?_))
     exact nq_n false ⟨[1,2],[1],[],[]⟩ krf
   ·refine xN (want_tf krf h6) krf (xR 5 krf (xE ?_))
    exact nq_n false ⟨[1,2],[1],[],[]⟩ krf
  ·rintro j5
   refine sR tfm ⟨[1,2,3],[1,3],[],[]⟩ ⟨[(1, .ptr 1 0),(2,B j5),(3, .ptr 3 0)],[(1, .box 29 [I 2,I 1,I 480,I 1200,I 30,I 0,I 0]),(3, .box 33 [I 0,zS,zS])]⟩ krf (sim_bind (fun j10=>⟨[(1, .ptr 1 0),(2,B j10)],[(1, .box 29 [I 2,I 1,I 480,I 1200,I 30,I 0,I 0])]⟩:Bool→St) ?_ ?_)
   ·refine sG (xR 2 krf ?_)
    refine xS j5 (fun h11=>?_) (fun h11=>?_)
    ·refine xO (want_tt krf h11) krf (xR 1 krf ?_)
     refine xC [.id, .agg [.id, .sl 2, .sl 1], .id] krf (g_t_Applies_ok n (⟨2,1,480,1200,30,0,0⟩:GAr) (⟨0,[],[]⟩:GCl) 480) krf krf (fun _=>by kernel_rfl) (fun r12=>?_)
     refine xR 2 krf ?_
     refine xS r12 (fun h13=>?_) (fun h13=>?_)
     ·refine xO (want_tt krf h13) krf (xR 1 krf ?_)
      refine xC [.id, .agg [.id, .sl 2, .sl 1], .id] krf (g_t_Applies_ok n (⟨2,1,480,1200,30,0,0⟩:GAr) (⟨0,[],[]⟩:GCl) 1199) krf krf (fun _=>by kernel_rfl) (fun r14=>?_)
      refine xR 2 krf ?_
      refine xS r14 (fun h15=>?_) (fun h15=>?_)
      ·refine xO (want_tt krf h15) krf (xR 1 krf ?_)
       refine xC [.id, .agg [.id, .sl 2, .sl 1], .id] krf (g_t_Applies_ok n (⟨2,1,480,1200,30,0,0⟩:GAr) (⟨0,[],[]⟩:GCl) 479) krf krf (fun _=>by kernel_rfl) (fun r16=>?_)
       refine xR 3 krf ?_
       refine xS (!r16) (fun h17=>?_) (fun h17=>?_)
       ·refine xO (want_tt krf h17) krf (xR 1 krf ?_)
        refine xC [.id, .agg [.id, .sl 2, .sl 1], .id] krf (g_t_Applies_ok n (⟨2,1,480,1200,30,0,0⟩:GAr) (⟨0,[],[]⟩:GCl) 1200) krf krf (fun _=>by kernel_rfl) (fun r18=>?_)
        refine xR 3 krf ?_
        refine xS (!r18) (fun h19=>?_) (fun h19=>?_)
        ·refine xO (want_tt krf h19) krf (xR 1 krf ?_)
         refine xC [.id, .agg [.id, .sl 2, .sl 1], .id] krf (g_t_Applies_ok n (⟨2,1,480,1200,30,0,0⟩:GAr) (⟨0,[],[]⟩:GCl) 7700) krf krf (fun _=>by kernel_rfl) (fun r20=>?_)
         refine xR 3 krf ?_
         refine xS (!r20) (fun h21=>?_) (fun h21=>?_)
         ·refine xO (want_tt krf h21) krf (xR 1 krf ?_)
          refine xC [.id, .agg [.id, .sl 2, .sl 1], .id] krf (g_t_Applies_ok n (⟨2,1,480,1200,30,0,0⟩:GAr) (⟨0,[],[]⟩:GCl) 10580) krf krf (fun _=>by kernel_rfl) (fun r22=>?_)
          refine xR 2 krf (xE ?_)
          exact nq_n r22 ⟨[1,2],[1],[],[]⟩ krf
         ·refine xN (want_tf krf h21) krf (xR 4 krf (xE ?_))
          exact nq_n false ⟨[1,2],[1],[],[]⟩ krf
        ·refine xN (want_tf krf h19) krf (xR 10 krf (xE ?_))
         exact nq_n false ⟨[1,2],[1],[],[]⟩ krf
       ·refine xN (want_tf krf h17) krf (xR 16 krf (xE ?_))
        exact nq_n false ⟨[1,2],[1],[],[]⟩ krf
      ·refine xN (want_tf krf h15) krf (xR 22 krf (xE ?_))
       exact nq_n false ⟨[1,2],[1],[],[]⟩ krf
     ·refine xN (want_tf krf h13) krf (xR 27 krf (xE ?_))
      exact nq_n false ⟨[1,2],[1],[],[]⟩ krf
    ·refine xN (want_tf krf h11) krf (xR 32 krf (xE ?_))
     exact nq_n false ⟨[1,2],[1],[],[]⟩ krf
   ·rintro j10
    refine sS (sG (xR 2 krf ?_))
    refine xS j10 (fun h23=>?_) (fun h23=>?_)
    ·refine xO (want_tt krf h23) krf (xR 2 krf ?_)
     refine xC [.agg [.id, .sl 7]] krf (g_t_Valid_ok n (⟨[116],[(⟨2,1,480,1200,30,0,0⟩:GAr)]⟩:GTf)) krf krf (fun _=>by kernel_rfl) (fun r24=>?_)
     refine xR 2 krf ?_
     refine xS r24 (fun h25=>?_) (fun h25=>?_)
     ·refine xO (want_tt krf h25) krf ?_
      refine xC [.agg [.id, .sl 7]] krf (g_t_Valid_ok n (⟨[111,110],[]⟩:GTf)) krf krf (fun _=>by kernel_rfl) (fun r26=>?_)
      refine xR 3 krf (xE (sN ⟨[0],[],[],[]⟩ ⟨[(0,B (!r26))],[]⟩ krf (sT ?_)))
      exact qR (.id) krf krf krf
     ·refine xN (want_tf krf h25) krf (xR 4 krf (xE (sN ⟨[0],[],[],[]⟩ ⟨[(0,B false)],[]⟩ krf (sT ?_))))
      exact qR (.id) krf krf krf
    ·refine xN (want_tf krf h23) krf (xR 10 krf (xE (sN ⟨[0],[],[],[]⟩ ⟨[(0,B false)],[]⟩ krf (sT ?_))))
     exact qR (.id) krf krf krf
def g_ref02_Count_l1 (a0n:GNode) (a1most:Int) (rf_ref02_Count:GNode→Int→Option Int) (recl1:(Int × Int)→Option Int) (l1_1:Int) (l1_2:Int):Option Int :=
 (cond (ltI l1_2 (lenI (List.map idc a0n.Kids)))
  (some (leI l1_1 a1most))
  (some false)).bind fun j2 =>
 cond j2
  ((Option.bind (getI a0n.Kids l1_2) GNode.of).bind fun x4 =>
  (rf_ref02_Count x4 (wi (a1most - l1_1))).bind fun r5 =>
  recl1 (wi (l1_1+r5),wi (l1_2+1)))
  (some l1_1)
def g_ref02_Count_body (n:Nat) (rf_ref02_Count:GNode→Int→Option Int) (a0n:GNode) (a1most:Int):Option Int :=
 loopN (fun recl1 (l1_1,l1_2)=>g_ref02_Count_l1 a0n a1most rf_ref02_Count recl1 l1_1 l1_2) n (1,0)
def g_ref02_Count:Nat→GNode→Int→Option Int
 | 0,_,_=>none
 | n+1,a0n,a1most=>g_ref02_Count_body n (g_ref02_Count n) a0n a1most
theorem g_ref02_Count_ok (n:Nat) (a0n:GNode) (a1most:Int):∀ r,g_ref02_Count n a0n a1most=some r→PCall Tryz.prog 26 [ag (GNode.cs a0n),I a1most] (.ret (I r)):=by
 induction n generalizing a0n a1most with
 | zero=>intro r hr; cases (show (none:Option Int)=some r from hr)
 | succ n ih =>
 show ∀ r,g_ref02_Count_body n (g_ref02_Count n) a0n a1most=some r→_
 generalize g_ref02_Count n=rf_ref02_Count at ih ⊢
 refine pcall_sim (X:=fun r:Int=>AEnd.ret (I r)) Tryz.func26 rfl Tryz.ntmps26 rfl ?_
 unfold g_ref02_Count_body
 refine sR tfm ⟨[1,2],[2],[],[]⟩ ⟨[(1,I a1most),(2, .ptr 2 0)],[(2, .box 24 (bxc (GNode.cs a0n)))]⟩ krf (sR tfm ⟨[1,2,5],[2],[],[]⟩ ⟨[(1,I a1most),(2, .ptr 2 0),(5,I 1)],[(2, .box 24 (bxc (GNode.cs a0n)))]⟩ krf (sS (sR tfm ⟨[1,2,5,6],[2],[],[]⟩ ⟨[(1,I a1most),(2, .ptr 2 0),(5,I 1),(6,I 0)],[(2, .box 24 (bxc (GNode.cs a0n)))]⟩ krf (sB (sim_loop (fun (l1_1,l1_2)=>⟨[(1,I a1most),(2, .ptr 2 0),(5,I l1_1),(6,I l1_2)],[(2, .box 24 (bxc (GNode.cs a0n)))]⟩:(Int × Int)→St) (weak_shr (K:=⟨[1,2,5,6],[2],[],[]⟩) krf) ?_)))))
 rintro recl1 ⟨l1_1,l1_2⟩
 show SimE (g_ref02_Count_l1 a0n a1most rf_ref02_Count recl1 l1_1 l1_2) _ _ _ _ _ _
 unfold g_ref02_Count_l1
 refine sS (sim_bind (fun j2=>⟨[(1,I a1most),(2, .ptr 2 0),(5,I l1_1),(6,I l1_2),(16,B j2)],[(2, .box 24 (bxc (GNode.cs a0n)))]⟩:Bool→St) ?_ ?_)
 ·refine sG (xR 6 krf ?_)
  refine xS (ltI l1_2 (lenI (mI a0n.Kids))) (fun h3=>?_) (fun h3=>?_)
  ·refine xO (want_tt krf h3) krf (xR 3 krf (xE ?_))
   exact nq_n (leI l1_1 a1most) ⟨[1,2,5,6,16],[2],[],[]⟩ krf
  ·refine xN (want_tf krf h3) krf (xR 3 krf (xE ?_))
   exact nq_n false ⟨[1,2,5,6,16],[2],[],[]⟩ krf
 ·rintro j2
  refine sC j2 krf ?_ ?_
  ·refine sK (sN ⟨[1,2,5,6],[2],[],[]⟩ ⟨[(1,I a1most),(2, .ptr 2 0),(5,I l1_1),(6,I l1_2)],[(2, .box 24 (bxc (GNode.cs a0n)))]⟩ krf (sS (sB (sG (xR 4 krf ?_)))))
   refine xG krf krf (aop_idxR (e:=24) (S:=5) (enc:=GNode.cs) (dec:=GNode.of) (l:=a0n.Kids) (k:=.i64) (n:=l1_2) (sv:=.p (.sl 5 (mI a0n.Kids))) GNode.of_cs rfl krf krf krf krf krf) (fun x4=>?_)
   refine xR 4 krf ?_
   refine xC [] krf (ih x4 (wi (a1most - l1_1))) krf krf (fun _=>by kernel_rfl) (fun r5=>?_)
   refine xR 2 krf (xE (bq_n (sN ⟨[1,2,5,6],[2],[],[]⟩ ⟨[(1,I a1most),(2, .ptr 2 0),(5,I (wi (l1_1+r5))),(6,I l1_2)],[(2, .box 24 (bxc (GNode.cs a0n)))]⟩ krf (sL tfm krf ?_))))
   exact kq_n (wi (l1_1+r5),wi (l1_2+1)) ⟨[1,2,5,6],[2],[],[]⟩ krf
  ·refine sim_exit (sq_x (kq_x (bq_hit (sN ⟨[5],[],[],[]⟩ ⟨[(5,I l1_1)],[]⟩ krf (sR tfm ⟨[4],[],[],[]⟩ ⟨[(4,I l1_1)],[]⟩ krf (sT ?_))))))
   exact qR (.id) krf krf krf
def g_ref02_names_l3 (a0n:GNode) (a1depth:Int) (rf_ref02_names:GNode→Int→Option Bool) (recl3:Int→Option Bool) (l3:Int):Option Bool :=
 cond (ltI l3 (lenI (List.map idc a0n.Kids)))
  ((Option.bind (getI a0n.Kids l3) GNode.of).bind fun x4 =>
  (rf_ref02_names x4 (wi (a1depth - 1))).bind fun r5 =>
  cond (!r5)
   (some false)
   (recl3 (wi (l3+1))))
  (some true)
def g_ref02_names_body (n:Nat) (rf_ref02_names:GNode→Int→Option Bool) (a0n:GNode) (a1depth:Int):Option Bool :=
 (cond (eqI a1depth 0)
  (some true)
  (some (ltI 40 (lenI a0n.Name)))).bind fun j1 =>
 cond j1
  (some false)
  (loopN (fun recl3 l3=>g_ref02_names_l3 a0n a1depth rf_ref02_names recl3 l3) n 0)
def g_ref02_names:Nat→GNode→Int→Option Bool
 | 0,_,_=>none
 | n+1,a0n,a1depth=>g_ref02_names_body n (g_ref02_names n) a0n a1depth
theorem g_ref02_names_ok (n:Nat) (a0n:GNode) (a1depth:Int):∀ r,g_ref02_names n a0n a1depth=some r→PCall Tryz.prog 27 [ag (GNode.cs a0n),I a1depth] (.ret (B r)):=by
 induction n generalizing a0n a1depth with
 | zero=>intro r hr; cases (show (none:Option Bool)=some r from hr)
 | succ n ih =>
 show ∀ r,g_ref02_names_body n (g_ref02_names n) a0n a1depth=some r→_
 generalize g_ref02_names n=rf_ref02_names at ih ⊢
 refine pcall_sim (X:=fun r:Bool=>AEnd.ret (B r)) Tryz.func27 rfl Tryz.ntmps27 rfl ?_
 unfold g_ref02_names_body
 refine sR tfm ⟨[1,2],[2],[],[]⟩ ⟨[(1,I a1depth),(2, .ptr 2 0)],[(2, .box 24 (bxc (GNode.cs a0n)))]⟩ krf (sS (sim_bind (fun j1=>⟨[(1,I a1depth),(2, .ptr 2 0),(13,B j1)],[(2, .box 24 (bxc (GNode.cs a0n)))]⟩:Bool→St) ?_ ?_))
 ·refine sG (xR 3 krf ?_)
  refine xS (eqI a1depth 0) (fun h2=>?_) (fun h2=>?_)
  ·refine xN (want_ft krf h2) krf (xR 4 krf (xE ?_))
   exact nq_n true ⟨[1,2,13],[2],[],[]⟩ krf
  ·refine xO (want_ff krf h2) krf (xR 4 krf (xE ?_))
   exact nq_n (ltI 40 (lenI a0n.Name)) ⟨[1,2,13],[2],[],[]⟩ krf
 ·rintro j1
  refine sC j1 krf ?_ ?_
  ·refine sR tfm ⟨[4],[],[],[]⟩ ⟨[(4,B false)],[]⟩ krf (sT (sq_r ?_))
   exact qR (.id) krf krf krf
  ·refine sK (sN ⟨[1,2],[2],[],[]⟩ ⟨[(1,I a1depth),(2, .ptr 2 0)],[(2, .box 24 (bxc (GNode.cs a0n)))]⟩ krf (sS (sR tfm ⟨[1,2,5],[2],[],[]⟩ ⟨[(1,I a1depth),(2, .ptr 2 0),(5,I 0)],[(2, .box 24 (bxc (GNode.cs a0n)))]⟩ krf (sB (sim_loop (fun l3=>⟨[(1,I a1depth),(2, .ptr 2 0),(5,I l3)],[(2, .box 24 (bxc (GNode.cs a0n)))]⟩:Int→St) (weak_shr (K:=⟨[1,2,5],[2],[],[]⟩) krf) ?_)))))
   rintro recl3 l3
   show SimE (g_ref02_names_l3 a0n a1depth rf_ref02_names recl3 l3) _ _ _ _ _ _
   unfold g_ref02_names_l3
   refine sS (sR tfm ⟨[1,2,5,18],[2],[],[]⟩ ⟨[(1,I a1depth),(2, .ptr 2 0),(5,I l3),(18,B (ltI l3 (lenI (mI a0n.Kids))))],[(2, .box 24 (bxc (GNode.cs a0n)))]⟩ krf (sC (ltI l3 (lenI (mI a0n.Kids))) krf ?_ ?_))
   ·refine sK (sN ⟨[1,2,5],[2],[],[]⟩ ⟨[(1,I a1depth),(2, .ptr 2 0),(5,I l3)],[(2, .box 24 (bxc (GNode.cs a0n)))]⟩ krf (sS (sB (sS (sG (xR 3 krf ?_))))))
    refine xG krf krf (aop_idxR (e:=24) (S:=5) (enc:=GNode.cs) (dec:=GNode.of) (l:=a0n.Kids) (k:=.i64) (n:=l3) (sv:=.p (.sl 5 (mI a0n.Kids))) GNode.of_cs rfl krf krf krf krf krf) (fun x4=>?_)
    refine xR 3 krf ?_
    refine xC [] krf (ih x4 (wi (a1depth - 1))) krf krf (fun _=>by kernel_rfl) (fun r5=>?_)
    refine xR 1 krf (xE (sN ⟨[1,2,5,29],[2],[],[]⟩ ⟨[(1,I a1depth),(2, .ptr 2 0),(5,I l3),(29,B (!r5))],[(2, .box 24 (bxc (GNode.cs a0n)))]⟩ krf (sC (!r5) krf ?_ ?_)))
    ·refine sR tfm ⟨[4],[],[],[]⟩ ⟨[(4,B false)],[]⟩ krf (sT (bq_r (sq_r (kq_r (bq_r (sq_r ?_))))))
     exact qR (.id) krf krf krf
    ·refine sK (bq_n (sN ⟨[1,2,5],[2],[],[]⟩ ⟨[(1,I a1depth),(2, .ptr 2 0),(5,I l3)],[(2, .box 24 (bxc (GNode.cs a0n)))]⟩ krf (sL tfm krf ?_)))
     exact kq_n (wi (l3+1)) ⟨[1,2,5],[2],[],[]⟩ krf
   ·refine sim_exit (sq_x (kq_x (bq_hit (sN ⟨[],[],[],[]⟩ ⟨[],[]⟩ krf (sR tfm ⟨[4],[],[],[]⟩ ⟨[(4,B true)],[]⟩ krf (sT ?_))))))
    exact qR (.id) krf krf krf
def g_ref02_Few (n:Nat) (a0n:GNode) (a1most:Int):Option Bool :=
 (g_ref02_Count n a0n a1most).bind fun r1 =>
 cond (leI r1 a1most)
  ((g_ref02_names n a0n 50).bind fun r3 =>
  some r3)
  (some false)
theorem g_ref02_Few_ok (n:Nat) (a0n:GNode) (a1most:Int):∀ r,g_ref02_Few n a0n a1most=some r→PCall Tryz.prog 8 [ag (GNode.cs a0n),I a1most] (.ret (B r)):=by
 refine pcall_sim (X:=fun r:Bool=>AEnd.ret (B r)) Tryz.func8 rfl Tryz.ntmps8 rfl ?_
 unfold g_ref02_Few
 refine sR tfm ⟨[1,2],[2],[],[]⟩ ⟨[(1,I a1most),(2, .ptr 2 0)],[(2, .box 24 (bxc (GNode.cs a0n)))]⟩ krf (sS (sG (xR 2 krf ?_)))
 refine xC [] krf (g_ref02_Count_ok n a0n a1most) krf krf (fun _=>by kernel_rfl) (fun r1=>?_)
 refine xR 3 krf ?_
 refine xS (leI r1 a1most) (fun h2=>?_) (fun h2=>?_)
 ·refine xO (want_tt krf h2) krf ?_
  refine xC [] krf (g_ref02_names_ok n a0n 50) krf krf (fun _=>by kernel_rfl) (fun r3=>?_)
  refine xR 2 krf (xE (sN ⟨[4],[],[],[]⟩ ⟨[(4,B r3)],[]⟩ krf (sT ?_)))
  exact qR (.id) krf krf krf
 ·refine xN (want_tf krf h2) krf (xR 3 krf (xE (sN ⟨[4],[],[],[]⟩ ⟨[(4,B false)],[]⟩ krf (sT ?_))))
  exact qR (.id) krf krf krf
def g_ref02_Kinds (n:Nat):Option (List (List UInt8)) :=
 some [[102,101,101,100,101,114],[99,97,98,108,101],[111,119,110,101,114],[99,111,110,116,114,97,99,116],[99,104,97,114,103,101,114],[98,97,121],[116,97,114,105,102,102]]
theorem g_ref02_Kinds_ok (n:Nat):∀ r,g_ref02_Kinds n=some r→PCall Tryz.prog 49 [] (.ret (.p (.sl 1 (List.map cstr r)))):=by
 refine pcall_sim (X:=fun r:List (List UInt8)=>AEnd.ret (.p (.sl 1 (List.map cstr r)))) Tryz.func49 rfl Tryz.ntmps49 rfl ?_
 unfold g_ref02_Kinds
 refine sR tfm ⟨[],[],[],[]⟩ ⟨[],[]⟩ krf (sR tfm ⟨[0],[1],[],[]⟩ ⟨[(0, .tsl 1 (List.map cstr [[102,101,101,100,101,114],[99,97,98,108,101],[111,119,110,101,114],[99,111,110,116,114,97,99,116],[99,104,97,114,103,101,114],[98,97,121],[116,97,114,105,102,102]]) 1)],[(1, .arr 9 1 (List.map cstr [[102,101,101,100,101,114],[99,97,98,108,101],[111,119,110,101,114],[99,111,110,116,114,97,99,116],[99,104,97,114,103,101,114],[98,97,121],[116,97,114,105,102,102]]).length)]⟩ krf (sT ?_))
 exact qR (.sl 1) krf krf krf
def g_ref02_In_l1 (a0l:List (List UInt8)) (a1s:List UInt8) (recl1:Int→Option Int) (l1:Int):Option Int :=
 cond (ltI l1 (lenI (List.map cstr a0l)))
  ((getI a0l l1).bind fun x2 =>
  cond (eqS x2 a1s)
   (some l1)
   (recl1 (wi (l1+1))))
  (some (-1))
def g_ref02_In (n:Nat) (a0l:List (List UInt8)) (a1s:List UInt8):Option Int :=
 loopN (fun recl1 l1=>g_ref02_In_l1 a0l a1s recl1 l1) n 0
theorem g_ref02_In_ok (n:Nat) (a0l:List (List UInt8)) (a1s:List UInt8):∀ r,g_ref02_In n a0l a1s=some r→PCall Tryz.prog 32 [.p (.sl 1 (List.map cstr a0l)),S a1s] (.ret (I r)):=by
 refine pcall_sim (X:=fun r:Int=>AEnd.ret (I r)) Tryz.func32 rfl Tryz.ntmps32 rfl ?_
 unfold g_ref02_In
 refine sR tfm ⟨[0,1],[],[],[]⟩ ⟨[(0, .p (.sl 1 (List.map cstr a0l))),(1,S a1s)],[]⟩ krf (sS (sR tfm ⟨[0,1,5],[],[],[]⟩ ⟨[(0, .p (.sl 1 (List.map cstr a0l))),(1,S a1s),(5,I 0)],[]⟩ krf (sB (sim_loop (fun l1=>⟨[(0, .p (.sl 1 (List.map cstr a0l))),(1,S a1s),(5,I l1)],[]⟩:Int→St) (weak_shr (K:=⟨[0,1,5],[],[],[]⟩) krf) ?_))))
 rintro recl1 l1
 show SimE (g_ref02_In_l1 a0l a1s recl1 l1) _ _ _ _ _ _
 unfold g_ref02_In_l1
 refine sS (sR tfm ⟨[0,1,5,9],[],[],[]⟩ ⟨[(0, .p (.sl 1 (List.map cstr a0l))),(1,S a1s),(5,I l1),(9,B (ltI l1 (lenI (List.map cstr a0l))))],[]⟩ krf (sC (ltI l1 (lenI (List.map cstr a0l))) krf ?_ ?_))
 ·refine sK (sN ⟨[0,1,5],[],[],[]⟩ ⟨[(0, .p (.sl 1 (List.map cstr a0l))),(1,S a1s),(5,I l1)],[]⟩ krf (sS (sB (sS (sG (xR 2 krf ?_))))))
  refine xG krf krf (aop_idx (e:=9) (S:=1) (enc:=cstr) (l:=a0l) (k:=.i64) (n:=l1) (sv:=.p (.sl 1 (List.map cstr a0l))) rfl krf krf krf krf krf) (fun x2=>?_)
  refine xR 3 krf (xE (sN ⟨[0,1,5,17],[],[],[]⟩ ⟨[(0, .p (.sl 1 (List.map cstr a0l))),(1,S a1s),(5,I l1),(17,B (eqS x2 a1s))],[]⟩ krf (sC (eqS x2 a1s) krf ?_ ?_)))
  ·refine sR tfm ⟨[4],[],[],[]⟩ ⟨[(4,I l1)],[]⟩ krf (sT (bq_r (sq_r (kq_r (bq_r (sq_r ?_))))))
   exact qR (.id) krf krf krf
  ·refine sK (bq_n (sN ⟨[0,1,5],[],[],[]⟩ ⟨[(0, .p (.sl 1 (List.map cstr a0l))),(1,S a1s),(5,I l1)],[]⟩ krf (sL tfm krf ?_)))
   exact kq_n (wi (l1+1)) ⟨[0,1,5],[],[],[]⟩ krf
 ·refine sim_exit (sq_x (kq_x (bq_hit (sN ⟨[],[],[],[]⟩ ⟨[],[]⟩ krf (sR tfm ⟨[4],[],[],[]⟩ ⟨[(4,I (-1))],[]⟩ krf (sT ?_))))))
  exact qR (.id) krf krf krf
def g_ref02_Attrs (n:Nat):Option (List (List UInt8)) :=
 some [[108,105,109,105,116],[110,101,117,116,114,97,108],[102,117,115,101],[116,104,101,114,109,97,108],[102,114,111,109],[97,116],[112,104,97,115,101,115],[97,109,112,115],[102,97,108,108,98,97,99,107],[111,119,110,101,114],[99,97,114,100],[114,97,110,107],[99,104,97,114,103,101,114]]
theorem g_ref02_Attrs_ok (n:Nat):∀ r,g_ref02_Attrs n=some r→PCall Tryz.prog 50 [] (.ret (.p (.sl 1 (List.map cstr r)))):=by
 refine pcall_sim (X:=fun r:List (List UInt8)=>AEnd.ret (.p (.sl 1 (List.map cstr r)))) Tryz.func50 rfl Tryz.ntmps50 rfl ?_
 unfold g_ref02_Attrs
 refine sR tfm ⟨[],[],[],[]⟩ ⟨[],[]⟩ krf (sR tfm ⟨[0],[1],[],[]⟩ ⟨[(0, .tsl 1 (List.map cstr [[108,105,109,105,116],[110,101,117,116,114,97,108],[102,117,115,101],[116,104,101,114,109,97,108],[102,114,111,109],[97,116],[112,104,97,115,101,115],[97,109,112,115],[102,97,108,108,98,97,99,107],[111,119,110,101,114],[99,97,114,100],[114,97,110,107],[99,104,97,114,103,101,114]]) 1)],[(1, .arr 9 1 (List.map cstr [[108,105,109,105,116],[110,101,117,116,114,97,108],[102,117,115,101],[116,104,101,114,109,97,108],[102,114,111,109],[97,116],[112,104,97,115,101,115],[97,109,112,115],[102,97,108,108,98,97,99,107],[111,119,110,101,114],[99,97,114,100],[114,97,110,107],[99,104,97,114,103,101,114]]).length)]⟩ krf (sT ?_))
 exact qR (.sl 1) krf krf krf
def g_ref02_Articles (n:Nat):Option (List (List UInt8)) :=
 some [[115,116,97,114,116],[101,110,101,114,103,121],[116,105,109,101],[105,100,108,101],[99,97,112],[116,97,120]]
theorem g_ref02_Articles_ok (n:Nat):∀ r,g_ref02_Articles n=some r→PCall Tryz.prog 51 [] (.ret (.p (.sl 1 (List.map cstr r)))):=by
 refine pcall_sim (X:=fun r:List (List UInt8)=>AEnd.ret (.p (.sl 1 (List.map cstr r)))) Tryz.func51 rfl Tryz.ntmps51 rfl ?_
 unfold g_ref02_Articles
 refine sR tfm ⟨[],[],[],[]⟩ ⟨[],[]⟩ krf (sR tfm ⟨[0],[1],[],[]⟩ ⟨[(0, .tsl 1 (List.map cstr [[115,116,97,114,116],[101,110,101,114,103,121],[116,105,109,101],[105,100,108,101],[99,97,112],[116,97,120]]) 1)],[(1, .arr 9 1 (List.map cstr [[115,116,97,114,116],[101,110,101,114,103,121],[116,105,109,101],[105,100,108,101],[99,97,112],[116,97,120]]).length)]⟩ krf (sT ?_))
 exact qR (.sl 1) krf krf krf
def g_ref02_Words (n:Nat):Option (List (List UInt8)) :=
 some [[111,110],[119,111,114,107],[115,97,116,117,114,100,97,121],[115,117,110,100,97,121],[98,101,116,119,101,101,110],[112,101,114],[102,114,101,101]]
theorem g_ref02_Words_ok (n:Nat):∀ r,g_ref02_Words n=some r→PCall Tryz.prog 52 [] (.ret (.p (.sl 1 (List.map cstr r)))):=by
 refine pcall_sim (X:=fun r:List (List UInt8)=>AEnd.ret (.p (.sl 1 (List.map cstr r)))) Tryz.func52 rfl Tryz.ntmps52 rfl ?_
 unfold g_ref02_Words
 refine sR tfm ⟨[],[],[],[]⟩ ⟨[],[]⟩ krf (sR tfm ⟨[0],[1],[],[]⟩ ⟨[(0, .tsl 1 (List.map cstr [[111,110],[119,111,114,107],[115,97,116,117,114,100,97,121],[115,117,110,100,97,121],[98,101,116,119,101,101,110],[112,101,114],[102,114,101,101]]) 1)],[(1, .arr 9 1 (List.map cstr [[111,110],[119,111,114,107],[115,97,116,117,114,100,97,121],[115,117,110,100,97,121],[98,101,116,119,101,101,110],[112,101,114],[102,114,101,101]]).length)]⟩ krf (sT ?_))
 exact qR (.sl 1) krf krf krf
def g_ref02_Name_j1 (n:Nat) (a0s:List UInt8):Option Bool :=
 ((g_ref02_Kinds n).bind fun r3 =>
 (g_ref02_In n r3 a0s).bind fun r4 =>
 cond (leI 0 r4)
  (some true)
  ((g_ref02_Attrs n).bind fun r6 =>
  (g_ref02_In n r6 a0s).bind fun r7 =>
  cond (leI 0 r7)
   (some true)
   ((g_ref02_Articles n).bind fun r9 =>
   (g_ref02_In n r9 a0s).bind fun r10 =>
   cond (leI 0 r10)
    (some true)
    ((g_ref02_Words n).bind fun r12 =>
    (g_ref02_In n r12 a0s).bind fun r13 =>
    some (leI 0 r13))))).bind fun j2 =>
 cond (leI 1 (lenI a0s))
  (cond (leI (lenI a0s) 12)
   (some (!j2))
   (some false))
  (some false)
def g_ref02_Name_l16 (n:Nat) (a0s:List UInt8) (recl16:Int→Option Bool) (l16:Int):Option Bool :=
 cond (ltI l16 (lenI a0s))
  ((getI a0s l16).bind fun x17 =>
  (cond (ltI (b2i x17) 97)
   (cond (eqI l16 0)
    (some true)
    (cond (ltI (b2i x17) 48)
     (some (!eqI (b2i x17) 95))
     (cond (ltI 57 (b2i x17))
      (some (!eqI (b2i x17) 95))
      (some false))))
   (cond (ltI 122 (b2i x17))
    (cond (eqI l16 0)
     (some true)
     (cond (ltI (b2i x17) 48)
      (some (!eqI (b2i x17) 95))
      (cond (ltI 57 (b2i x17))
       (some (!eqI (b2i x17) 95))
       (some false))))
    (some false))).bind fun j18 =>
  cond j18
   (some false)
   (recl16 (wi (l16+1))))
  (g_ref02_Name_j1 n a0s)
def g_ref02_Name (n:Nat) (a0s:List UInt8):Option Bool :=
 loopN (fun recl16 l16=>g_ref02_Name_l16 n a0s recl16 l16) n 0
theorem g_ref02_Name_ok (n:Nat) (a0s:List UInt8):∀ r,g_ref02_Name n a0s=some r→PCall Tryz.prog 34 [S a0s] (.ret (B r)):=by
 refine pcall_sim (X:=fun r:Bool=>AEnd.ret (B r)) Tryz.func34 rfl Tryz.ntmps34 rfl ?_
 unfold g_ref02_Name
 refine sR tfm ⟨[0],[],[],[]⟩ ⟨[(0,S a0s)],[]⟩ krf (sim_cps (fun _=>⟨[(0,S a0s)],[]⟩:Unit→St) (fun _=>g_ref02_Name_j1 n a0s) ?_ ?_)
 ·rintro _
  show SimE (g_ref02_Name_j1 n a0s) _ _ _ _ _ _
  unfold g_ref02_Name_j1
  refine sim_bind (fun j2=>⟨[(0,S a0s),(5,B j2)],[]⟩:Bool→St) ?_ ?_
  ·refine sG ?_
   refine xC [] krf (g_ref02_Kinds_ok n) krf krf (fun _=>by kernel_rfl) (fun r3=>?_)
   refine xR 1 krf ?_
   refine xC [] krf (g_ref02_In_ok n r3 a0s) krf krf (fun _=>by kernel_rfl) (fun r4=>?_)
   refine xR 2 krf ?_
   refine xS (leI 0 r4) (fun h5=>?_) (fun h5=>?_)
   ·refine xN (want_ft krf h5) krf (xR 17 krf (xE ?_))
    exact nq_n true ⟨[0,5],[],[],[]⟩ krf
   ·refine xC [] (want_ff krf h5) (g_ref02_Attrs_ok n) krf krf (fun _=>by kernel_rfl) (fun r6=>?_)
    refine xR 1 krf ?_
    refine xC [] krf (g_ref02_In_ok n r6 a0s) krf krf (fun _=>by kernel_rfl) (fun r7=>?_)
    refine xR 3 krf ?_
    refine xS (leI 0 r7) (fun h8=>?_) (fun h8=>?_)
    ·refine xN (want_ft krf h8) krf (xR 11 krf (xE ?_))
     exact nq_n true ⟨[0,5],[],[],[]⟩ krf
    ·refine xC [] (want_ff krf h8) (g_ref02_Articles_ok n) krf krf (fun _=>by kernel_rfl) (fun r9=>?_)
     refine xR 1 krf ?_
     refine xC [] krf (g_ref02_In_ok n r9 a0s) krf krf (fun _=>by kernel_rfl) (fun r10=>?_)
     refine xR 3 krf ?_
     refine xS (leI 0 r10) (fun h11=>?_) (fun h11=>?_)
     ·refine xN (want_ft krf h11) krf (xR 5 krf (xE ?_))
      exact nq_n true ⟨[0,5],[],[],[]⟩ krf
     ·refine xC [] (want_ff krf h11) (g_ref02_Words_ok n) krf krf (fun _=>by kernel_rfl) (fun r12=>?_)
      refine xR 1 krf ?_
      refine xC [] krf (g_ref02_In_ok n r12 a0s) krf krf (fun _=>by kernel_rfl) (fun r13=>?_)
      refine xR 3 krf (xE ?_)
      exact nq_n (leI 0 r13) ⟨[0,5],[],[],[]⟩ krf
  ·rintro j2
   refine sS (sG (xR 4 krf ?_))
   refine xS (leI 1 (lenI a0s)) (fun h14=>?_) (fun h14=>?_)
   ·refine xO (want_tt krf h14) krf (xR 4 krf ?_)
    refine xS (leI (lenI a0s) 12) (fun h15=>?_) (fun h15=>?_)
    ·refine xO (want_tt krf h15) krf (xR 3 krf (xE (sN ⟨[2],[],[],[]⟩ ⟨[(2,B (!j2))],[]⟩ krf (sT ?_))))
     exact qR (.id) krf krf krf
    ·refine xN (want_tf krf h15) krf (xR 3 krf (xE (sN ⟨[2],[],[],[]⟩ ⟨[(2,B false)],[]⟩ krf (sT ?_))))
     exact qR (.id) krf krf krf
   ·refine xN (want_tf krf h14) krf (xR 8 krf (xE (sN ⟨[2],[],[],[]⟩ ⟨[(2,B false)],[]⟩ krf (sT ?_))))
    exact qR (.id) krf krf krf
 ·refine sR tfm ⟨[0,3],[],[],[]⟩ ⟨[(0,S a0s),(3,I 0)],[]⟩ krf (sB (sim_loop (fun l16=>⟨[(0,S a0s),(3,I l16)],[]⟩:Int→St) (weak_shr (K:=⟨[0,3],[],[],[]⟩) krf) ?_))
  rintro recl16 l16
  show SimE (g_ref02_Name_l16 n a0s recl16 l16) _ _ _ _ _ _
  unfold g_ref02_Name_l16
  refine sS (sR tfm ⟨[0,3,9],[],[],[]⟩ ⟨[(0,S a0s),(3,I l16),(9,B (ltI l16 (lenI a0s)))],[]⟩ krf (sC (ltI l16 (lenI a0s)) krf ?_ ?_))
  ·refine sK (sN ⟨[0,3],[],[],[]⟩ ⟨[(0,S a0s),(3,I l16)],[]⟩ krf (sS (sB (sS (sG (xR 2 krf ?_))))))
   refine xG krf krf (aop_sidx (l:=a0s) (k:=.i64) (n:=l16) rfl krf krf krf) (fun x17=>?_)
   refine xR 1 krf (xE (sN ⟨[0,3,4],[],[],[]⟩ ⟨[(0,S a0s),(3,I l16),(4,B8 (b2i x17))],[]⟩ krf (sim_bind (fun j18=>⟨[(0,S a0s),(3,I l16),(36,B j18)],[]⟩:Bool→St) ?_ ?_)))
   ·refine sG (xR 3 krf ?_)
    refine xS (ltI (b2i x17) 97) (fun h19=>?_) (fun h19=>?_)
    ·refine xN (want_ft krf h19) krf (xR 6 krf ?_)
     refine xS (eqI l16 0) (fun h20=>?_) (fun h20=>?_)
     ·refine xN (want_ft krf h20) krf (xR 11 krf (xE ?_))
      exact nq_n true ⟨[0,3,36],[],[],[]⟩ krf
     ·refine xO (want_ff krf h20) krf (xR 2 krf ?_)
      refine xS (ltI (b2i x17) 48) (fun h21=>?_) (fun h21=>?_)
      ·refine xN (want_ft krf h21) krf (xR 8 krf (xE ?_))
       exact nq_n (!eqI (b2i x17) 95) ⟨[0,3,36],[],[],[]⟩ krf
      ·refine xO (want_ff krf h21) krf (xR 3 krf ?_)
       refine xS (ltI 57 (b2i x17)) (fun h22=>?_) (fun h22=>?_)
       ·refine xO (want_tt krf h22) krf (xR 4 krf (xE ?_))
        exact nq_n (!eqI (b2i x17) 95) ⟨[0,3,36],[],[],[]⟩ krf
       ·refine xN (want_tf krf h22) krf (xR 4 krf (xE ?_))
        exact nq_n false ⟨[0,3,36],[],[],[]⟩ krf
    ·refine xO (want_ff krf h19) krf (xR 3 krf ?_)
     refine xS (ltI 122 (b2i x17)) (fun h23=>?_) (fun h23=>?_)
     ·refine xO (want_tt krf h23) krf (xR 2 krf ?_)
      refine xS (eqI l16 0) (fun h24=>?_) (fun h24=>?_)
      ·refine xN (want_ft krf h24) krf (xR 11 krf (xE ?_))
       exact nq_n true ⟨[0,3,36],[],[],[]⟩ krf
      ·refine xO (want_ff krf h24) krf (xR 2 krf ?_)
       refine xS (ltI (b2i x17) 48) (fun h25=>?_) (fun h25=>?_)
       ·refine xN (want_ft krf h25) krf (xR 8 krf (xE ?_))
        exact nq_n (!eqI (b2i x17) 95) ⟨[0,3,36],[],[],[]⟩ krf
       ·refine xO (want_ff krf h25) krf (xR 3 krf ?_)
        refine xS (ltI 57 (b2i x17)) (fun h26=>?_) (fun h26=>?_)
        ·refine xO (want_tt krf h26) krf (xR 4 krf (xE ?_))
         exact nq_n (!eqI (b2i x17) 95) ⟨[0,3,36],[],[],[]⟩ krf
        ·refine xN (want_tf krf h26) krf (xR 4 krf (xE ?_))
         exact nq_n false ⟨[0,3,36],[],[],[]⟩ krf
     ·refine xN (want_tf krf h23) krf (xR 14 krf (xE ?_))
      exact nq_n false ⟨[0,3,36],[],[],[]⟩ krf
   ·rintro j18
    refine sC j18 krf ?_ ?_
    ·refine sR tfm ⟨[2],[],[],[]⟩ ⟨[(2,B false)],[]⟩ krf (sT (bq_r (sq_r (kq_r (bq_r (kq_r ?_))))))
     exact qR (.id) krf krf krf
    ·refine sK (bq_n (sN ⟨[0,3],[],[],[]⟩ ⟨[(0,S a0s),(3,I l16)],[]⟩ krf (sL tfm krf ?_)))
     exact kq_n (wi (l16+1)) ⟨[0,3],[],[],[]⟩ krf
  ·refine sim_exit (sq_x (kq_x (bq_hit ?_)))
   exact kq_n (k:=fun _=>g_ref02_Name_j1 n a0s) () ⟨[0],[],[],[]⟩ krf
def g_ref02_value (n:Nat) (a0n:GNode) (a1words:Bool):Option Bool :=
 cond (ltI 0 (lenI (List.map idc a0n.Kids)))
  (some false)
  (cond (eqI a0n.Kind 6)
   ((cond (eqS a0n.Name [])
    (cond (leI 0 a0n.N)
     (some (leI a0n.N 1000000))
     (some false))
    (some false)).bind fun j1 =>
   some j1)
   ((cond (eqI a0n.Kind 5)
    (cond (eqI a0n.N 0)
     ((g_ref02_Name n a0n.Name).bind fun r7 =>
     cond r7
      (some true)
      (cond a1words
       ((g_ref02_Words n).bind fun r10 =>
       (g_ref02_In n r10 a0n.Name).bind fun r11 =>
       some (leI 0 r11))
       (some false)))
     (some false))
    (some false)).bind fun j4 =>
   some j4))
theorem g_ref02_value_ok (n:Nat) (a0n:GNode) (a1words:Bool):∀ r,g_ref02_value n a0n a1words=some r→PCall Tryz.prog 93 [ag (GNode.cs a0n),B a1words] (.ret (B r)):=by
 refine pcall_sim (X:=fun r:Bool=>AEnd.ret (B r)) Tryz.func93 rfl Tryz.ntmps93 rfl ?_
 unfold g_ref02_value
 refine sR tfm ⟨[1,2],[2],[],[]⟩ ⟨[(1,B a1words),(2, .ptr 2 0)],[(2, .box 24 (bxc (GNode.cs a0n)))]⟩ krf (sS (sR tfm ⟨[1,2,8],[2],[],[]⟩ ⟨[(1,B a1words),(2, .ptr 2 0),(8,B (ltI 0 (lenI (mI a0n.Kids))))],[(2, .box 24 (bxc (GNode.cs a0n)))]⟩ krf (sC (ltI 0 (lenI (mI a0n.Kids))) krf ?_ ?_)))
 ·refine sR tfm ⟨[4],[],[],[]⟩ ⟨[(4,B false)],[]⟩ krf (sT (sq_r ?_))
  exact qR (.id) krf krf krf
 ·refine sK (sN ⟨[1,2],[2],[],[]⟩ ⟨[(1,B a1words),(2, .ptr 2 0)],[(2, .box 24 (bxc (GNode.cs a0n)))]⟩ krf (sS (sR tfm ⟨[1,2,11],[2],[],[]⟩ ⟨[(1,B a1words),(2, .ptr 2 0),(11,B (eqI a0n.Kind 6))],[(2, .box 24 (bxc (GNode.cs a0n)))]⟩ krf (sC (eqI a0n.Kind 6) krf ?_ ?_))))
  ·refine sim_bind (fun j1=>⟨[(4,B j1)],[]⟩:Bool→St) ?_ ?_
   ·refine sG (xR 4 krf ?_)
    refine xS (eqS a0n.Name []) (fun h2=>?_) (fun h2=>?_)
    ·refine xO (want_tt krf h2) krf (xR 4 krf ?_)
     refine xS (leI 0 a0n.N) (fun h3=>?_) (fun h3=>?_)
     ·refine xO (want_tt krf h3) krf (xR 4 krf (xE ?_))
      exact nq_n (leI a0n.N 1000000) ⟨[4],[],[],[]⟩ krf
     ·refine xN (want_tf krf h3) krf (xR 4 krf (xE ?_))
      exact nq_n false ⟨[4],[],[],[]⟩ krf
    ·refine xN (want_tf krf h2) krf (xR 9 krf (xE ?_))
     exact nq_n false ⟨[4],[],[],[]⟩ krf
   ·rintro j1
    refine sT (sq_r ?_)
    exact qR (.id) krf krf krf
  ·refine sK (sN ⟨[1,2],[2],[],[]⟩ ⟨[(1,B a1words),(2, .ptr 2 0)],[(2, .box 24 (bxc (GNode.cs a0n)))]⟩ krf (sim_bind (fun j4=>⟨[(4,B j4)],[]⟩:Bool→St) ?_ ?_))
   ·refine sim_drw tfm rfl (xR 4 krf ?_)
    refine xS (eqI a0n.Kind 5) (fun h5=>?_) (fun h5=>?_)
    ·refine xO (want_tt krf h5) krf (xR 4 krf ?_)
     refine xS (eqI a0n.N 0) (fun h6=>?_) (fun h6=>?_)
     ·refine xO (want_tt krf h6) krf (xR 1 krf ?_)
      refine xC [] krf (g_ref02_Name_ok n a0n.Name) krf krf (fun _=>by kernel_rfl) (fun r7=>?_)
      refine xR 1 krf ?_
      refine xS r7 (fun h8=>?_) (fun h8=>?_)
      ·refine xN (want_ft krf h8) krf (xR 10 krf (xs_endD krf ?_))
       exact nq_n true ⟨[4],[],[],[]⟩ krf
      ·refine xO (want_ff krf h8) krf (xR 1 krf ?_)
       refine xS a1words (fun h9=>?_) (fun h9=>?_)
       ·refine xC [] (want_tt krf h9) (g_ref02_Words_ok n) krf krf (fun _=>by kernel_rfl) (fun r10=>?_)
        refine xR 2 krf ?_
        refine xC [] krf (g_ref02_In_ok n r10 a0n.Name) krf krf (fun _=>by kernel_rfl) (fun r11=>?_)
        refine xR 5 krf (xs_endD krf ?_)
        exact nq_n (leI 0 r11) ⟨[4],[],[],[]⟩ krf
       ·refine xN (want_tf krf h9) krf (xR 8 krf (xs_endD krf ?_))
        exact nq_n false ⟨[4],[],[],[]⟩ krf
     ·refine xN (want_tf krf h6) krf (xR 14 krf (xs_endD krf ?_))
      exact nq_n false ⟨[4],[],[],[]⟩ krf
    ·refine xN (want_tf krf h5) krf (xR 19 krf (xs_endD krf ?_))
     exact nq_n false ⟨[4],[],[],[]⟩ krf
   ·rintro j4
    refine sT ?_
    exact qR (.id) krf krf krf
def g_ref02_part_l13 (n:Nat) (a0n:GNode) (recl13:Int→Option Bool) (l13:Int):Option Bool :=
 cond (ltI l13 (lenI (List.map idc a0n.Kids)))
  ((Option.bind (getI a0n.Kids l13) GNode.of).bind fun x14 =>
  (g_ref02_value n x14 (eqI a0n.Kind 4)).bind fun r15 =>
  cond (!r15)
   (some false)
   (recl13 (wi (l13+1))))
  (some true)
def g_ref02_part (n:Nat) (a0n:GNode):Option Bool :=
 (cond (!eqI a0n.N 0)
  (some true)
  (cond (eqI a0n.Kind 3)
   ((g_ref02_Attrs n).bind fun r4 =>
   (g_ref02_In n r4 a0n.Name).bind fun r5 =>
   cond (leI 0 r5)
    (some false)
    (cond (eqI a0n.Kind 4)
     ((g_ref02_Articles n).bind fun r8 =>
     (g_ref02_In n r8 a0n.Name).bind fun r9 =>
     some (!(leI 0 r9)))
     (some true)))
   (cond (eqI a0n.Kind 4)
    ((g_ref02_Articles n).bind fun r11 =>
    (g_ref02_In n r11 a0n.Name).bind fun r12 =>
    some (!(leI 0 r12)))
    (some true)))).bind fun j1 =>
 cond j1
  (some false)
  (loopN (fun recl13 l13=>g_ref02_part_l13 n a0n recl13 l13) n 0)
theorem g_ref02_part_ok (n:Nat) (a0n:GNode):∀ r,g_ref02_part n a0n=some r→PCall Tryz.prog 70 [ag (GNode.cs a0n)] (.ret (B r)):=by
 refine pcall_sim (X:=fun r:Bool=>AEnd.ret (B r)) Tryz.func70 rfl Tryz.ntmps70 rfl ?_
 unfold g_ref02_part
 refine sR tfm ⟨[1],[1],[],[]⟩ ⟨[(1, .ptr 1 0)],[(1, .box 24 (bxc (GNode.cs a0n)))]⟩ krf (sS (sim_bind (fun j1=>⟨[(1, .ptr 1 0),(31,B j1)],[(1, .box 24 (bxc (GNode.cs a0n)))]⟩:Bool→St) ?_ ?_))
 ·refine sim_drw tfm rfl (xR 4 krf ?_)
  refine xS (!eqI a0n.N 0) (fun h2=>?_) (fun h2=>?_)
  ·refine xN (want_ft krf h2) krf (xR 23 krf (xs_endD krf ?_))
   exact nq_n true ⟨[1,31],[1],[],[]⟩ krf
  ·refine xO (want_ff krf h2) krf (xR 3 krf ?_)
   refine xS (eqI a0n.Kind 3) (fun h3=>?_) (fun h3=>?_)
   ·refine xC [] (want_tt krf h3) (g_ref02_Attrs_ok n) krf krf (fun _=>by kernel_rfl) (fun r4=>?_)
    refine xR 2 krf ?_
    refine xC [] krf (g_ref02_In_ok n r4 a0n.Name) krf krf (fun _=>by kernel_rfl) (fun r5=>?_)
    refine xR 3 krf ?_
    refine xS (leI 0 r5) (fun h6=>?_) (fun h6=>?_)
    ·refine xN (want_ft krf h6) krf (xR 12 krf (xs_endD krf ?_))
     exact nq_n false ⟨[1,31],[1],[],[]⟩ krf
    ·refine xO (want_ff krf h6) krf (xR 3 krf ?_)
     refine xS (eqI a0n.Kind 4) (fun h7=>?_) (fun h7=>?_)
     ·refine xC [] (want_tt krf h7) (g_ref02_Articles_ok n) krf krf (fun _=>by kernel_rfl) (fun r8=>?_)
      refine xR 2 krf ?_
      refine xC [] krf (g_ref02_In_ok n r8 a0n.Name) krf krf (fun _=>by kernel_rfl) (fun r9=>?_)
      refine xR 5 krf (xs_endD krf ?_)
      exact nq_n (!(leI 0 r9)) ⟨[1,31],[1],[],[]⟩ krf
     ·refine xN (want_tf krf h7) krf (xR 8 krf (xs_endD krf ?_))
      exact nq_n true ⟨[1,31],[1],[],[]⟩ krf
   ·refine xN (want_tf krf h3) krf (xR 10 krf ?_)
    refine xS (eqI a0n.Kind 4) (fun h10=>?_) (fun h10=>?_)
    ·refine xC [] (want_tt krf h10) (g_ref02_Articles_ok n) krf krf (fun _=>by kernel_rfl) (fun r11=>?_)
     refine xR 2 krf ?_
     refine xC [] krf (g_ref02_In_ok n r11 a0n.Name) krf krf (fun _=>by kernel_rfl) (fun r12=>?_)
     refine xR 5 krf (xs_endD krf ?_)
     exact nq_n (!(leI 0 r12)) ⟨[1,31],[1],[],[]⟩ krf
    ·refine xN (want_tf krf h10) krf (xR 8 krf (xs_endD krf ?_))
     exact nq_n true ⟨[1,31],[1],[],[]⟩ krf
 ·rintro j1
  refine sC j1 krf ?_ ?_
  ·refine sR tfm ⟨[2],[],[],[]⟩ ⟨[(2,B false)],[]⟩ krf (sT (sq_r ?_))
   exact qR (.id) krf krf krf
  ·refine sK (sN ⟨[1],[1],[],[]⟩ ⟨[(1, .ptr 1 0)],[(1, .box 24 (bxc (GNode.cs a0n)))]⟩ krf (sS (sR tfm ⟨[1,3],[1],[],[]⟩ ⟨[(1, .ptr 1 0),(3,I 0)],[(1, .box 24 (bxc (GNode.cs a0n)))]⟩ krf (sB (sim_loop (fun l13=>⟨[(1, .ptr 1 0),(3,I l13)],[(1, .box 24 (bxc (GNode.cs a0n)))]⟩:Int→St) (weak_shr (K:=⟨[1,3],[1],[],[]⟩) krf) ?_)))))
   rintro recl13 l13
   show SimE (g_ref02_part_l13 n a0n recl13 l13) _ _ _ _ _ _
   unfold g_ref02_part_l13
   refine sS (sR tfm ⟨[1,3,36],[1],[],[]⟩ ⟨[(1, .ptr 1 0),(3,I l13),(36,B (ltI l13 (lenI (mI a0n.Kids))))],[(1, .box 24 (bxc (GNode.cs a0n)))]⟩ krf (sC (ltI l13 (lenI (mI a0n.Kids))) krf ?_ ?_))
   ·refine sK (sN ⟨[1,3],[1],[],[]⟩ ⟨[(1, .ptr 1 0),(3,I l13)],[(1, .box 24 (bxc (GNode.cs a0n)))]⟩ krf (sS (sB (sS (sim_drw tfm rfl (xR 3 krf ?_))))))
    refine xG krf krf (aop_idxR (e:=24) (S:=5) (enc:=GNode.cs) (dec:=GNode.of) (l:=a0n.Kids) (k:=.i64) (n:=l13) (sv:=.p (.sl 5 (mI a0n.Kids))) GNode.of_cs rfl krf krf krf krf krf) (fun x14=>?_)
    refine xR 4 krf ?_
    refine xC [] krf (g_ref02_value_ok n x14 (eqI a0n.Kind 4)) krf krf (fun _=>by kernel_rfl) (fun r15=>?_)
    refine xR 1 krf (xs_endD krf (sN ⟨[1,3,48],[1],[],[]⟩ ⟨[(1, .ptr 1 0),(3,I l13),(48,B (!r15))],[(1, .box 24 (bxc (GNode.cs a0n)))]⟩ krf (sC (!r15) krf ?_ ?_)))
    ·refine sR tfm ⟨[2],[],[],[]⟩ ⟨[(2,B false)],[]⟩ krf (sT (bq_r (sq_r (kq_r (bq_r (sq_r ?_))))))
     exact qR (.id) krf krf krf
    ·refine sK (bq_n (sN ⟨[1,3],[1],[],[]⟩ ⟨[(1, .ptr 1 0),(3,I l13)],[(1, .box 24 (bxc (GNode.cs a0n)))]⟩ krf (sL tfm krf ?_)))
     exact kq_n (wi (l13+1)) ⟨[1,3],[1],[],[]⟩ krf
   ·refine sim_exit (sq_x (kq_x (bq_hit (sN ⟨[],[],[],[]⟩ ⟨[],[]⟩ krf (sR tfm ⟨[2],[],[],[]⟩ ⟨[(2,B true)],[]⟩ krf (sT ?_))))))
    exact qR (.id) krf krf krf
def g_ref02_item_l6 (n:Nat) (a0n:GNode) (recl6:Int→Option Bool) (l6:Int):Option Bool :=
 cond (ltI l6 (lenI (List.map idc a0n.Kids)))
  ((Option.bind (getI a0n.Kids l6) GNode.of).bind fun x7 =>
  ((g_ref02_part n x7).bind fun r9 =>
  cond (!r9)
   (some true)
   (cond (eqI x7.Kind 4)
    (cond (!eqI a0n.N 7)
     (some true)
     (cond (eqI x7.Kind 3)
      (cond (ltI 0 l6)
       ((Option.bind (getI a0n.Kids (wi (l6 - 1))) GNode.of).bind fun x15 =>
       some (eqI x15.Kind 4))
       (some false))
      (some false)))
    (cond (eqI x7.Kind 3)
     (cond (ltI 0 l6)
      ((Option.bind (getI a0n.Kids (wi (l6 - 1))) GNode.of).bind fun x18 =>
      some (eqI x18.Kind 4))
      (some false))
     (some false)))).bind fun j8 =>
  cond j8
   (some false)
   (recl6 (wi (l6+1))))
  (some true)
def g_ref02_item (n:Nat) (a0n:GNode):Option Bool :=
 (cond (!eqI a0n.Kind 2)
  (some true)
  (cond (ltI a0n.N 1)
   (some true)
   (cond (ltI 7 a0n.N)
    (some true)
    ((g_ref02_Name n a0n.Name).bind fun r5 =>
    some (!r5))))).bind fun j1 =>
 cond j1
  (some false)
  (loopN (fun recl6 l6=>g_ref02_item_l6 n a0n recl6 l6) n 0)
theorem g_ref02_item_ok (n:Nat) (a0n:GNode):∀ r,g_ref02_item n a0n=some r→PCall Tryz.prog 44 [ag (GNode.cs a0n)] (.ret (B r)):=by
 refine pcall_sim (X:=fun r:Bool=>AEnd.ret (B r)) Tryz.func44 rfl Tryz.ntmps44 rfl ?_
 unfold g_ref02_item
 refine sR tfm ⟨[1],[1],[],[]⟩ ⟨[(1, .ptr 1 0)],[(1, .box 24 (bxc (GNode.cs a0n)))]⟩ krf (sS (sim_bind (fun j1=>⟨[(1, .ptr 1 0),(23,B j1)],[(1, .box 24 (bxc (GNode.cs a0n)))]⟩:Bool→St) ?_ ?_))
 ·refine sG (xR 4 krf ?_)
  refine xS (!eqI a0n.Kind 2) (fun h2=>?_) (fun h2=>?_)
  ·refine xN (want_ft krf h2) krf (xR 14 krf (xE ?_))
   exact nq_n true ⟨[1,23],[1],[],[]⟩ krf
  ·refine xO (want_ff krf h2) krf (xR 4 krf ?_)
   refine xS (ltI a0n.N 1) (fun h3=>?_) (fun h3=>?_)
   ·refine xN (want_ft krf h3) krf (xR 9 krf (xE ?_))
    exact nq_n true ⟨[1,23],[1],[],[]⟩ krf
   ·refine xO (want_ff krf h3) krf (xR 4 krf ?_)
    refine xS (ltI 7 a0n.N) (fun h4=>?_) (fun h4=>?_)
    ·refine xN (want_ft krf h4) krf (xR 4 krf (xE ?_))
     exact nq_n true ⟨[1,23],[1],[],[]⟩ krf
    ·refine xO (want_ff krf h4) krf (xR 1 krf ?_)
     refine xC [] krf (g_ref02_Name_ok n a0n.Name) krf krf (fun _=>by kernel_rfl) (fun r5=>?_)
     refine xR 2 krf (xE ?_)
     exact nq_n (!r5) ⟨[1,23],[1],[],[]⟩ krf
 ·rintro j1
  refine sC j1 krf ?_ ?_
  ·refine sR tfm ⟨[2],[],[],[]⟩ ⟨[(2,B false)],[]⟩ krf (sT (sq_r ?_))
   exact qR (.id) krf krf krf
  ·refine sK (sN ⟨[1],[1],[],[]⟩ ⟨[(1, .ptr 1 0)],[(1, .box 24 (bxc (GNode.cs a0n)))]⟩ krf (sS (sR tfm ⟨[1,3],[1],[],[]⟩ ⟨[(1, .ptr 1 0),(3,I 0)],[(1, .box 24 (bxc (GNode.cs a0n)))]⟩ krf (sB (sim_loop (fun l6=>⟨[(1, .ptr 1 0),(3,I l6)],[(1, .box 24 (bxc (GNode.cs a0n)))]⟩:Int→St) (weak_shr (K:=⟨[1,3],[1],[],[]⟩) krf) ?_)))))
   rintro recl6 l6
   show SimE (g_ref02_item_l6 n a0n recl6 l6) _ _ _ _ _ _
   unfold g_ref02_item_l6
   refine sS (sR tfm ⟨[1,3,28],[1],[],[]⟩ ⟨[(1, .ptr 1 0),(3,I l6),(28,B (ltI l6 (lenI (mI a0n.Kids))))],[(1, .box 24 (bxc (GNode.cs a0n)))]⟩ krf (sC (ltI l6 (lenI (mI a0n.Kids))) krf ?_ ?_))
   ·refine sK (sN ⟨[1,3],[1],[],[]⟩ ⟨[(1, .ptr 1 0),(3,I l6)],[(1, .box 24 (bxc (GNode.cs a0n)))]⟩ krf (sS (sB (sS (sG (xR 3 krf ?_))))))
    refine xG krf krf (aop_idxR (e:=24) (S:=5) (enc:=GNode.cs) (dec:=GNode.of) (l:=a0n.Kids) (k:=.i64) (n:=l6) (sv:=.p (.sl 5 (mI a0n.Kids))) GNode.of_cs rfl krf krf krf krf krf) (fun x7=>?_)
    refine xR 3 krf (xE (sN ⟨[1,3,4],[1,4],[],[]⟩ ⟨[(1, .ptr 1 0),(3,I l6),(4, .ptr 4 0)],[(1, .box 24 (bxc (GNode.cs a0n))),(4, .box 24 (bxc (GNode.cs x7)))]⟩ krf (sim_bind (fun j8=>⟨[(1, .ptr 1 0),(3,I l6),(67,B j8)],[(1, .box 24 (bxc (GNode.cs a0n)))]⟩:Bool→St) ?_ ?_)))
    ·refine sG (xR 1 krf ?_)
     refine xC [] krf (g_ref02_part_ok n x7) krf krf (fun _=>by kernel_rfl) (fun r9=>?_)
     refine xR 2 krf ?_
     refine xS (!r9) (fun h10=>?_) (fun h10=>?_)
     ·refine xN (want_ft krf h10) krf (xR 27 krf (xE ?_))
      exact nq_n true ⟨[1,3,67],[1],[],[]⟩ krf
     ·refine xO (want_ff krf h10) krf (xR 3 krf ?_)
      refine xS (eqI x7.Kind 4) (fun h11=>?_) (fun h11=>?_)
      ·refine xO (want_tt krf h11) krf (xR 5 krf ?_)
       refine xS (!eqI a0n.N 7) (fun h12=>?_) (fun h12=>?_)
       ·refine xN (want_ft krf h12) krf (xR 17 krf (xE ?_))
        exact nq_n true ⟨[1,3,67],[1],[],[]⟩ krf
       ·refine xO (want_ff krf h12) krf (xR 3 krf ?_)
        refine xS (eqI x7.Kind 3) (fun h13=>?_) (fun h13=>?_)
        ·refine xO (want_tt krf h13) krf (xR 3 krf ?_)
         refine xS (ltI 0 l6) (fun h14=>?_) (fun h14=>?_)
         ·refine xO (want_tt krf h14) krf (xR 3 krf ?_)
          refine xG krf krf (aop_idxR (e:=24) (S:=5) (enc:=GNode.cs) (dec:=GNode.of) (l:=a0n.Kids) (k:=.i64) (n:=wi (l6 - 1)) (sv:=.p (.sl 5 (mI a0n.Kids))) GNode.of_cs rfl krf krf krf krf krf) (fun x15=>?_)
          refine xR 5 krf (xE ?_)
          exact nq_n (eqI x15.Kind 4) ⟨[1,3,67],[1],[],[]⟩ krf
         ·refine xN (want_tf krf h14) krf (xR 9 krf (xE ?_))
          exact nq_n false ⟨[1,3,67],[1],[],[]⟩ krf
        ·refine xN (want_tf krf h13) krf (xR 13 krf (xE ?_))
         exact nq_n false ⟨[1,3,67],[1],[],[]⟩ krf
      ·refine xN (want_tf krf h11) krf (xR 9 krf ?_)
       refine xS (eqI x7.Kind 3) (fun h16=>?_) (fun h16=>?_)
       ·refine xO (want_tt krf h16) krf (xR 3 krf ?_)
        refine xS (ltI 0 l6) (fun h17=>?_) (fun h17=>?_)
        ·refine xO (want_tt krf h17) krf (xR 3 krf ?_)
         refine xG krf krf (aop_idxR (e:=24) (S:=5) (enc:=GNode.cs) (dec:=GNode.of) (l:=a0n.Kids) (k:=.i64) (n:=wi (l6 - 1)) (sv:=.p (.sl 5 (mI a0n.Kids))) GNode.of_cs rfl krf krf krf krf krf) (fun x18=>?_)
         refine xR 5 krf (xE ?_)
         exact nq_n (eqI x18.Kind 4) ⟨[1,3,67],[1],[],[]⟩ krf
        ·refine xN (want_tf krf h17) krf (xR 9 krf (xE ?_))
         exact nq_n false ⟨[1,3,67],[1],[],[]⟩ krf
       ·refine xN (want_tf krf h16) krf (xR 13 krf (xE ?_))
        exact nq_n false ⟨[1,3,67],[1],[],[]⟩ krf
    ·rintro j8
     refine sC j8 krf ?_ ?_
     ·refine sR tfm ⟨[2],[],[],[]⟩ ⟨[(2,B false)],[]⟩ krf (sT (bq_r (sq_r (kq_r (bq_r (sq_r ?_))))))
      exact qR (.id) krf krf krf
     ·refine sK (bq_n (sN ⟨[1,3],[1],[],[]⟩ ⟨[(1, .ptr 1 0),(3,I l6)],[(1, .box 24 (bxc (GNode.cs a0n)))]⟩ krf (sL tfm krf ?_)))
      exact kq_n (wi (l6+1)) ⟨[1,3],[1],[],[]⟩ krf
   ·refine sim_exit (sq_x (kq_x (bq_hit (sN ⟨[],[],[],[]⟩ ⟨[],[]⟩ krf (sR tfm ⟨[2],[],[],[]⟩ ⟨[(2,B true)],[]⟩ krf (sT ?_))))))
    exact qR (.id) krf krf krf
def g_ref02_Valid_l6 (n:Nat) (a0n:GNode) (recl6:Int→Option Bool) (l6:Int):Option Bool :=
 cond (ltI l6 (lenI (List.map idc a0n.Kids)))
  ((Option.bind (getI a0n.Kids l6) GNode.of).bind fun x7 =>
  (g_ref02_item n x7).bind fun r8 =>
  cond (!r8)
   (some false)
   (recl6 (wi (l6+1))))
  (some true)
def g_ref02_Valid (n:Nat) (a0n:GNode):Option Bool :=
 (cond (!eqI a0n.Kind 1)
  (some true)
  (cond (!eqS a0n.Name [])
   (some true)
   (cond (!eqI a0n.N 0)
    (some true)
    ((g_ref02_Count n a0n 1500).bind fun r5 =>
    some (ltI 1500 r5))))).bind fun j1 =>
 cond j1
  (some false)
  (loopN (fun recl6 l6=>g_ref02_Valid_l6 n a0n recl6 l6) n 0)
theorem g_ref02_Valid_ok (n:Nat) (a0n:GNode):∀ r,g_ref02_Valid n a0n=some r→PCall Tryz.prog 30 [ag (GNode.cs a0n)] (.ret (B r)):=by
 refine pcall_sim (X:=fun r:Bool=>AEnd.ret (B r)) Tryz.func30 rfl Tryz.ntmps30 rfl ?_
 unfold g_ref02_Valid
 refine sR tfm ⟨[1],[1],[],[]⟩ ⟨[(1, .ptr 1 0)],[(1, .box 24 (bxc (GNode.cs a0n)))]⟩ krf (sS (sim_bind (fun j1=>⟨[(1, .ptr 1 0),(21,B j1)],[(1, .box 24 (bxc (GNode.cs a0n)))]⟩:Bool→St) ?_ ?_))
 ·refine sG (xR 4 krf ?_)
  refine xS (!eqI a0n.Kind 1) (fun h2=>?_) (fun h2=>?_)
  ·refine xN (want_ft krf h2) krf (xR 13 krf (xE ?_))
   exact nq_n true ⟨[1,21],[1],[],[]⟩ krf
  ·refine xO (want_ff krf h2) krf (xR 4 krf ?_)
   refine xS (!eqS a0n.Name []) (fun h3=>?_) (fun h3=>?_)
   ·refine xN (want_ft krf h3) krf (xR 8 krf (xE ?_))
    exact nq_n true ⟨[1,21],[1],[],[]⟩ krf
   ·refine xO (want_ff krf h3) krf (xR 4 krf ?_)
    refine xS (!eqI a0n.N 0) (fun h4=>?_) (fun h4=>?_)
    ·refine xN (want_ft krf h4) krf (xR 3 krf (xE ?_))
     exact nq_n true ⟨[1,21],[1],[],[]⟩ krf
    ·refine xO (want_ff krf h4) krf ?_
     refine xC [] krf (g_ref02_Count_ok n a0n 1500) krf krf (fun _=>by kernel_rfl) (fun r5=>?_)
     refine xR 2 krf (xE ?_)
     exact nq_n (ltI 1500 r5) ⟨[1,21],[1],[],[]⟩ krf
 ·rintro j1
  refine sC j1 krf ?_ ?_
  ·refine sR tfm ⟨[2],[],[],[]⟩ ⟨[(2,B false)],[]⟩ krf (sT (sq_r ?_))
   exact qR (.id) krf krf krf
  ·refine sK (sN ⟨[1],[1],[],[]⟩ ⟨[(1, .ptr 1 0)],[(1, .box 24 (bxc (GNode.cs a0n)))]⟩ krf (sS (sR tfm ⟨[1,3],[1],[],[]⟩ ⟨[(1, .ptr 1 0),(3,I 0)],[(1, .box 24 (bxc (GNode.cs a0n)))]⟩ krf (sB (sim_loop (fun l6=>⟨[(1, .ptr 1 0),(3,I l6)],[(1, .box 24 (bxc (GNode.cs a0n)))]⟩:Int→St) (weak_shr (K:=⟨[1,3],[1],[],[]⟩) krf) ?_)))))
   rintro recl6 l6
   show SimE (g_ref02_Valid_l6 n a0n recl6 l6) _ _ _ _ _ _
   unfold g_ref02_Valid_l6
   refine sS (sR tfm ⟨[1,3,26],[1],[],[]⟩ ⟨[(1, .ptr 1 0),(3,I l6),(26,B (ltI l6 (lenI (mI a0n.Kids))))],[(1, .box 24 (bxc (GNode.cs a0n)))]⟩ krf (sC (ltI l6 (lenI (mI a0n.Kids))) krf ?_ ?_))
   ·refine sK (sN ⟨[1,3],[1],[],[]⟩ ⟨[(1, .ptr 1 0),(3,I l6)],[(1, .box 24 (bxc (GNode.cs a0n)))]⟩ krf (sS (sB (sS (sG (xR 3 krf ?_))))))
    refine xG krf krf (aop_idxR (e:=24) (S:=5) (enc:=GNode.cs) (dec:=GNode.of) (l:=a0n.Kids) (k:=.i64) (n:=l6) (sv:=.p (.sl 5 (mI a0n.Kids))) GNode.of_cs rfl krf krf krf krf krf) (fun x7=>?_)
    refine xR 1 krf ?_
    refine xC [] krf (g_ref02_item_ok n x7) krf krf (fun _=>by kernel_rfl) (fun r8=>?_)
    refine xR 1 krf (xE (sN ⟨[1,3,35],[1],[],[]⟩ ⟨[(1, .ptr 1 0),(3,I l6),(35,B (!r8))],[(1, .box 24 (bxc (GNode.cs a0n)))]⟩ krf (sC (!r8) krf ?_ ?_)))
    ·refine sR tfm ⟨[2],[],[],[]⟩ ⟨[(2,B false)],[]⟩ krf (sT (bq_r (sq_r (kq_r (bq_r (sq_r ?_))))))
     exact qR (.id) krf krf krf
    ·refine sK (bq_n (sN ⟨[1,3],[1],[],[]⟩ ⟨[(1, .ptr 1 0),(3,I l6)],[(1, .box 24 (bxc (GNode.cs a0n)))]⟩ krf (sL tfm krf ?_)))
     exact kq_n (wi (l6+1)) ⟨[1,3],[1],[],[]⟩ krf
   ·refine sim_exit (sq_x (kq_x (bq_hit (sN ⟨[],[],[],[]⟩ ⟨[],[]⟩ krf (sR tfm ⟨[2],[],[],[]⟩ ⟨[(2,B true)],[]⟩ krf (sT ?_))))))
    exact qR (.id) krf krf krf
def g_law32_usable (n:Nat) (a0n:GNode):Option Bool :=
 (g_ref02_Few n a0n 1500).bind fun r1 =>
 cond r1
  ((g_ref02_Valid n a0n).bind fun r3 =>
  some r3)
  (some false)
theorem g_law32_usable_ok (n:Nat) (a0n:GNode):∀ r,g_law32_usable n a0n=some r→PCall Tryz.prog 19 [ag (GNode.cs a0n)] (.ret (B r)):=by
 refine pcall_sim (X:=fun r:Bool=>AEnd.ret (B r)) Tryz.func19 rfl Tryz.ntmps19 rfl ?_
 unfold g_law32_usable
 refine sR tfm ⟨[1],[1],[],[]⟩ ⟨[(1, .ptr 1 0)],[(1, .box 24 (bxc (GNode.cs a0n)))]⟩ krf (sS (sG (xR 1 krf ?_)))
 refine xC [] krf (g_ref02_Few_ok n a0n 1500) krf krf (fun _=>by kernel_rfl) (fun r1=>?_)
 refine xR 1 krf ?_
 refine xS r1 (fun h2=>?_) (fun h2=>?_)
 ·refine xO (want_tt krf h2) krf ?_
  refine xC [] krf (g_ref02_Valid_ok n a0n) krf krf (fun _=>by kernel_rfl) (fun r3=>?_)
  refine xR 2 krf (xE (sN ⟨[2],[],[],[]⟩ ⟨[(2,B r3)],[]⟩ krf (sT ?_)))
  exact qR (.id) krf krf krf
 ·refine xN (want_tf krf h2) krf (xR 3 krf (xE (sN ⟨[2],[],[],[]⟩ ⟨[(2,B false)],[]⟩ krf (sT ?_))))
  exact qR (.id) krf krf krf
def g_ref32_SameList_l1 (n:Nat) (a0a:List GTf) (a1b:List GTf) (recl1:Int→Option Bool) (l1:Int):Option Bool :=
 cond (ltI l1 (lenI (List.map GTf.cs a0a)))
  ((getI a0a l1).bind fun x2 =>
  (getI a1b l1).bind fun x3 =>
  (g_ref32_Same n x2 x3).bind fun r4 =>
  cond (!r4)
   (some false)
   (recl1 (wi (l1+1))))
  (some true)
def g_ref32_SameList (n:Nat) (a0a:List GTf) (a1b:List GTf):Option Bool :=
 cond (!eqI (lenI (List.map GTf.cs a0a)) (lenI (List.map GTf.cs a1b)))
  (some false)
  (loopN (fun recl1 l1=>g_ref32_SameList_l1 n a0a a1b recl1 l1) n 0)
theorem g_ref32_SameList_ok (n:Nat) (a0a:List GTf) (a1b:List GTf):∀ r,g_ref32_SameList n a0a a1b=some r→PCall Tryz.prog 13 [.p (.sl 2 (mTf a0a)), .p (.sl 2 (mTf a1b))] (.ret (B r)):=by
 refine pcall_sim (X:=fun r:Bool=>AEnd.ret (B r)) Tryz.func13 rfl Tryz.ntmps13 rfl ?_
 unfold g_ref32_SameList
 refine sR tfm ⟨[0,1],[],[],[]⟩ ⟨[(0, .p (.sl 2 (mTf a0a))),(1, .p (.sl 2 (mTf a1b)))],[]⟩ krf (sS (sR tfm ⟨[0,1,10],[],[],[]⟩ ⟨[(0, .p (.sl 2 (mTf a0a))),(1, .p (.sl 2 (mTf a1b))),(10,B (!eqI (lenI (mTf a0a)) (lenI (mTf a1b))))],[]⟩ krf (sC (!eqI (lenI (mTf a0a)) (lenI (mTf a1b))) krf ?_ ?_)))
 ·refine sR tfm ⟨[4],[],[],[]⟩ ⟨[(4,B false)],[]⟩ krf (sT (sq_r ?_))
  exact qR (.id) krf krf krf
 ·refine sK (sN ⟨[0,1],[],[],[]⟩ ⟨[(0, .p (.sl 2 (mTf a0a))),(1, .p (.sl 2 (mTf a1b)))],[]⟩ krf (sS (sR tfm ⟨[0,1,5],[],[],[]⟩ ⟨[(0, .p (.sl 2 (mTf a0a))),(1, .p (.sl 2 (mTf a1b))),(5,I 0)],[]⟩ krf (sB (sim_loop (fun l1=>⟨[(0, .p (.sl 2 (mTf a0a))),(1, .p (.sl 2 (mTf a1b))),(5,I l1)],[]⟩:Int→St) (weak_shr (K:=⟨[0,1,5],[],[],[]⟩) krf) ?_)))))
  rintro recl1 l1
  show SimE (g_ref32_SameList_l1 n a0a a1b recl1 l1) _ _ _ _ _ _
  unfold g_ref32_SameList_l1
  refine sS (sR tfm ⟨[0,1,5,14],[],[],[]⟩ ⟨[(0, .p (.sl 2 (mTf a0a))),(1, .p (.sl 2 (mTf a1b))),(5,I l1),(14,B (ltI l1 (lenI (mTf a0a))))],[]⟩ krf (sC (ltI l1 (lenI (mTf a0a))) krf ?_ ?_))
  ·refine sK (sN ⟨[0,1,5],[],[],[]⟩ ⟨[(0, .p (.sl 2 (mTf a0a))),(1, .p (.sl 2 (mTf a1b))),(5,I l1)],[]⟩ krf (sS (sB (sS (sim_drw tfm rfl (xR 2 krf ?_))))))
   refine xG krf krf (aop_idx (e:=27) (S:=2) (enc:=GTf.cs) (l:=a0a) (k:=.i64) (n:=l1) (sv:=.p (.sl 2 (mTf a0a))) rfl krf krf krf krf krf) (fun x2=>?_)
   refine xR 3 krf ?_
   refine xG krf krf (aop_idx (e:=27) (S:=2) (enc:=GTf.cs) (l:=a1b) (k:=.i64) (n:=l1) (sv:=.p (.sl 2 (mTf a1b))) rfl krf krf krf krf krf) (fun x3=>?_)
   refine xR 1 krf ?_
   refine xC [] krf (g_ref32_Same_ok n x2 x3) krf krf (fun _=>by kernel_rfl) (fun r4=>?_)
   refine xR 1 krf (xs_endD krf (sN ⟨[0,1,5,26],[],[],[]⟩ ⟨[(0, .p (.sl 2 (mTf a0a))),(1, .p (.sl 2 (mTf a1b))),(5,I l1),(26,B (!r4))],[]⟩ krf (sC (!r4) krf ?_ ?_)))
   ·refine sR tfm ⟨[4],[],[],[]⟩ ⟨[(4,B false)],[]⟩ krf (sT (bq_r (sq_r (kq_r (bq_r (sq_r ?_))))))
    exact qR (.id) krf krf krf
   ·refine sK (bq_n (sN ⟨[0,1,5],[],[],[]⟩ ⟨[(0, .p (.sl 2 (mTf a0a))),(1, .p (.sl 2 (mTf a1b))),(5,I l1)],[]⟩ krf (sL tfm krf ?_)))
    exact kq_n (wi (l1+1)) ⟨[0,1,5],[],[],[]⟩ krf
  ·refine sim_exit (sq_x (kq_x (bq_hit (sN ⟨[],[],[],[]⟩ ⟨[],[]⟩ krf (sR tfm ⟨[4],[],[],[]⟩ ⟨[(4,B true)],[]⟩ krf (sT ?_))))))
   exact qR (.id) krf krf krf
def g_law32_number (n:Nat) (a0n:Int):Option GNode :=
 some (⟨6,[],a0n,0,[]⟩:GNode)
theorem g_law32_number_ok (n:Nat) (a0n:Int):∀ r,g_law32_number n a0n=some r→PCall Tryz.prog 22 [I a0n] (.ret (ag (GNode.cs r))):=by
 refine pcall_sim (X:=fun r:GNode=>AEnd.ret (ag (GNode.cs r))) Tryz.func22 rfl Tryz.ntmps22 rfl ?_
 unfold g_law32_number
 refine sR tfm ⟨[0,2],[2],[],[]⟩ ⟨[(0,I a0n),(2, .ptr 2 0)],[(2, .box 24 [I 0,S [],I 0,I 0,zS])]⟩ krf (sR tfm ⟨[2],[2],[],[]⟩ ⟨[(2, .ptr 2 0)],[(2, .box 24 [I 6,S [],I a0n,I 0,zS])]⟩ krf (sT ?_))
 exact qR (.agg [.id, .id, .id, .id, .sl 5]) krf krf krf
def g_law32_word (n:Nat) (a0s:List UInt8):Option GNode :=
 some (⟨5,a0s,0,0,[]⟩:GNode)
theorem g_law32_word_ok (n:Nat) (a0s:List UInt8):∀ r,g_law32_word n a0s=some r→PCall Tryz.prog 23 [S a0s] (.ret (ag (GNode.cs r))):=by
 refine pcall_sim (X:=fun r:GNode=>AEnd.ret (ag (GNode.cs r))) Tryz.func23 rfl Tryz.ntmps23 rfl ?_
 unfold g_law32_word
 refine sR tfm ⟨[0,2],[2],[],[]⟩ ⟨[(0,S a0s),(2, .ptr 2 0)],[(2, .box 24 [I 0,S [],I 0,I 0,zS])]⟩ krf (sR tfm ⟨[2],[2],[],[]⟩ ⟨[(2, .ptr 2 0)],[(2, .box 24 [I 5,S a0s,I 0,I 0,zS])]⟩ krf (sT ?_))
 exact qR (.agg [.id, .id, .id, .id, .sl 5]) krf krf krf
def g_law32_TariffErrors_l5 (a0n:GNode) (recl5:(Int × Int × (List (List PV)))→Option (Int × (List (List PV)))) (l5_1:Int) (l5_2:Int) (l5_3:List (List PV)):Option (Int × (List (List PV))) :=
 cond (ltI l5_2 (lenI (List.map idc a0n.Kids)))
  ((Option.bind (getI a0n.Kids l5_2) GNode.of).bind fun x6 =>
  cond (eqI x6.N 7)
   (cond (roomB (List.length (l5_3++[GNode.cs x6])) 64) (
    recl5 (wi (l5_1+(lenI (List.map idc x6.Kids))),wi (l5_2+1),l5_3++[GNode.cs x6])) none)
   (recl5 (l5_1,wi (l5_2+1),l5_3)))
  (some (l5_1,l5_3))
def g_law32_TariffErrors_l23 (j4_2:List (List PV)) (x21:GNode) (recl23:(Int × Int × (List (List PV)))→Option (List (List PV))) (l23_1:Int) (l23_2:Int) (l23_3:List (List PV)):Option (List (List PV)) :=
 cond (ltI l23_2 (lenI (List.map idc j4_2)))
  ((Option.bind (getI j4_2 l23_2) GNode.of).bind fun x24 =>
  cond (roomB (List.length ([]++x24.Kids)) 64) (
   ((cond (leI 0 l23_1)
    (some (ltI l23_1 (lenI (List.map idc ([]++x24.Kids)))))
    (some false)).bind fun j26 =>
   cond j26
    ((Option.bind (getI ([]++x24.Kids) l23_1) GNode.of).bind fun x28 =>
    some (List.set ([]++x24.Kids) (Int.toNat l23_1) (GNode.cs (⟨x21.Kind,x21.Name,x21.N,7777,x21.Kids⟩:GNode))))
    (some ([]++x24.Kids))).bind fun j25 =>
   cond (roomB (List.length (l23_3++[GNode.cs (⟨x24.Kind,x24.Name,x24.N,x24.At,j25⟩:GNode)])) 64) (
    recl23 (wi (l23_1 - (lenI (List.map idc x24.Kids))),wi (l23_2+1),l23_3++[GNode.cs (⟨x24.Kind,x24.Name,x24.N,x24.At,j25⟩:GNode)])) none) none)
  (some l23_3)
def g_law32_TariffErrors (n:Nat) (a0n:GNode) (a1which:Int) (a2pick:Int):Option Bool :=
 (g_law32_head n).bind fun r1 =>
 (g_law32_usable n a0n).bind fun r2 =>
 cond (!r2)
  (some r1)
  ((g_t_Build n a0n).bind fun r3 =>
  cond (ltI 0 (lenI (List.map GDg.cs r3.2)))
   (some r1)
   ((loopN (fun recl5 (l5_1,l5_2,l5_3)=>g_law32_TariffErrors_l5 a0n recl5 l5_1 l5_2 l5_3) n (0,0,[])).bind fun (j4_1,j4_2) =>
   (g_t_Build n (⟨1,[],0,0,j4_2⟩:GNode)).bind fun r7 =>
   (cond (ltI 0 (lenI (List.map GDg.cs r7.2)))
    (some true)
    ((g_ref32_SameList n r3.1 r7.1).bind fun r10 =>
    some (!r10))).bind fun j8 =>
   cond j8
    (some false)
    (cond (eqI j4_1 0)
     (some r1)
     ((g_law32_number n 5).bind fun r11 =>
     (g_law32_number n 5).bind fun r12 =>
     (g_law32_word n [111,110]).bind fun r13 =>
     (g_law32_word n [119,111,114,107]).bind fun r14 =>
     (g_law32_number n 5).bind fun r15 =>
     (g_law32_word n [112,101,114]).bind fun r16 =>
     (g_law32_number n 7).bind fun r17 =>
     (g_law32_number n 5).bind fun r18 =>
     (g_law32_word n [111,110]).bind fun r19 =>
     (g_law32_number n 10001).bind fun r20 =>
     (Option.bind (getI [GNode.cs (⟨4,[99,97,112],0,0,[]⟩:GNode),GNode.cs (⟨4,[116,105,109,101],0,0,[GNode.cs r11]⟩:GNode),GNode.cs (⟨4,[99,97,112],0,0,[GNode.cs r12,GNode.cs r13,GNode.cs r14]⟩:GNode),GNode.cs (⟨4,[101,110,101,114,103,121],0,0,[GNode.cs r15,GNode.cs r16,GNode.cs r17]⟩:GNode),GNode.cs (⟨4,[115,116,97,114,116],0,0,[GNode.cs r18,GNode.cs r19]⟩:GNode),GNode.cs (⟨4,[116,97,120],0,0,[GNode.cs r20]⟩:GNode)] (Int.tmod (wi a2pick) 6)) GNode.of).bind fun x21 =>
     cond (!eqI j4_1 0) (
      (loopN (fun recl23 (l23_1,l23_2,l23_3)=>g_law32_TariffErrors_l23 j4_2 x21 recl23 l23_1 l23_2 l23_3) n (Int.tmod (wi a1which) j4_1,0,[])).bind fun j22 =>
      (g_law32_usable n (⟨1,[],0,0,j22⟩:GNode)).bind fun r29 =>
      cond (!r29)
       (some r1)
       ((g_t_Build n (⟨1,[],0,0,j22⟩:GNode)).bind fun r30 =>
       (cond r1
        (cond (eqI (lenI (List.map GTf.cs r30.1)) 0)
         (cond (eqI (lenI (List.map GDg.cs r30.2)) 1)
          ((getI r30.2 0).bind fun x35 =>
          cond (eqI x35.At 7777)
           ((getI r30.2 0).bind fun x37 =>
           cond (opq ((eqI x37.Err 9) == (ltI (Int.tmod a2pick 6) 5)))
            (cond (ltI (Int.tmod a2pick 6) 5)
             (some true)
             ((getI r30.2 0).bind fun x40 =>
             some (eqI x40.Err 3)))
            (some false))
           (some false))
          (some false))
         (some false))
        (some false)).bind fun j31 =>
       some j31)) none))))
theorem g_law32_TariffErrors_ok (n:Nat) (a0n:GNode) (a1which:Int) (a2pick:Int):∀ r,g_law32_TariffErrors n a0n a1which a2pick=some r→PCall Tryz.prog 6 [ag (GNode.cs a0n), .p (.val (.int .u16 a1which)),B8 a2pick] (.ret (B r)):=by
 refine pcall_sim (X:=fun r:Bool=>AEnd.ret (B r)) Tryz.func6 rfl Tryz.ntmps6 rfl ?_
 unfold g_law32_TariffErrors
 refine sR tfm ⟨[1,2,3],[3],[],[]⟩ ⟨[(1, .p (.val (.int .u16 a1which))),(2,B8 a2pick),(3, .ptr 3 0)],[(3, .box 24 (bxc (GNode.cs a0n)))]⟩ krf (sS (sG ?_))
 refine xC [] krf (g_law32_head_ok n) krf krf (fun _=>by kernel_rfl) (fun r1=>?_)
 refine xR 1 krf (xE (sN ⟨[1,2,3,7],[3],[],[]⟩ ⟨[(1, .p (.val (.int .u16 a1which))),(2,B8 a2pick),(3, .ptr 3 0),(7,B r1)],[(3, .box 24 (bxc (GNode.cs a0n)))]⟩ krf (sS (sS (sG (xR 1 krf ?_))))))
 refine xC [] krf (g_law32_usable_ok n a0n) krf krf (fun _=>by kernel_rfl) (fun r2=>?_)
 refine xR 1 krf (xE (sN ⟨[1,2,3,7,28],[3],[],[]⟩ ⟨[(1, .p (.val (.int .u16 a1which))),(2,B8 a2pick),(3, .ptr 3 0),(7,B r1),(28,B (!r2))],[(3, .box 24 (bxc (GNode.cs a0n)))]⟩ krf (sC (!r2) krf ?_ ?_)))
 ·refine sR tfm ⟨[6],[],[],[]⟩ ⟨[(6,B r1)],[]⟩ krf (sT (sq_r ?_))
  exact qR (.id) krf krf krf
 ·refine sK (sN ⟨[1,2,3,7],[3],[],[]⟩ ⟨[(1, .p (.val (.int .u16 a1which))),(2,B8 a2pick),(3, .ptr 3 0),(7,B r1)],[(3, .box 24 (bxc (GNode.cs a0n)))]⟩ krf (sS (sG (xR 1 krf ?_))))
  refine xC [] krf (g_t_Build_ok n a0n) krf krf (fun _=>by kernel_rfl) (fun r3=>?_)
  refine xR 5 krf (xE (sN ⟨[1,2,3,7,8,9],[3],[],[]⟩ ⟨[(1, .p (.val (.int .u16 a1which))),(2,B8 a2pick),(3, .ptr 3 0),(7,B r1),(8, .p (.sl 2 (mTf r3.1))),(9, .p (.sl 2 (mDg r3.2)))],[(3, .box 24 (bxc (GNode.cs a0n)))]⟩ krf (sS (sR tfm ⟨[1,2,3,7,8,37],[3],[],[]⟩ ⟨[(1, .p (.val (.int .u16 a1which))),(2,B8 a2pick),(3, .ptr 3 0),(7,B r1),(8, .p (.sl 2 (mTf r3.1))),(37,B (ltI 0 (lenI (mDg r3.2))))],[(3, .box 24 (bxc (GNode.cs a0n)))]⟩ krf (sC (ltI 0 (lenI (mDg r3.2))) krf ?_ ?_)))))
  ·refine sR tfm ⟨[6],[],[],[]⟩ ⟨[(6,B r1)],[]⟩ krf (sT (sq_r ?_))
   exact qR (.id) krf krf krf
  ·refine sK (sN ⟨[1,2,3,7,8],[3],[],[]⟩ ⟨[(1, .p (.val (.int .u16 a1which))),(2,B8 a2pick),(3, .ptr 3 0),(7,B r1),(8, .p (.sl 2 (mTf r3.1)))],[(3, .box 24 (bxc (GNode.cs a0n)))]⟩ krf (sR tfm ⟨[1,2,3,7,8,10],[3,10],[],[]⟩ ⟨[(1, .p (.val (.int .u16 a1which))),(2,B8 a2pick),(3, .ptr 3 0),(7,B r1),(8, .p (.sl 2 (mTf r3.1))),(10, .ptr 10 0)],[(3, .box 24 (bxc (GNode.cs a0n))),(10, .box 24 [I 1,S [],I 0,I 0,zS])]⟩ krf (sR tfm ⟨[1,2,3,7,8,10,11],[3,10],[],[]⟩ ⟨[(1, .p (.val (.int .u16 a1which))),(2,B8 a2pick),(3, .ptr 3 0),(7,B r1),(8, .p (.sl 2 (mTf r3.1))),(10, .ptr 10 0),(11,I 0)],[(3, .box 24 (bxc (GNode.cs a0n))),(10, .box 24 [I 1,S [],I 0,I 0,zS])]⟩ krf (sim_bind (fun (j4_1,j4_2)=>⟨[(1, .p (.val (.int .u16 a1which))),(2,B8 a2pick),(7,B r1),(8, .p (.sl 2 (mTf r3.1))),(10, .ptr 10 0),(11,I j4_1)],[(10, .box 24 [I 1,S [],I 0,I 0, .tsl 5 (mI j4_2) 54]),(54, .arr 24 5 (mI j4_2).length)]⟩:(Int × (List (List PV)))→St) ?_ ?_))))
   ·refine sR tfm ⟨[1,2,7,8,10,11,41,42,43],[10],[],[]⟩ ⟨[(1, .p (.val (.int .u16 a1which))),(2,B8 a2pick),(7,B r1),(8, .p (.sl 2 (mTf r3.1))),(10, .ptr 10 0),(11,I 0),(41, .p (.sl 5 (mI a0n.Kids))),(42,I (lenI (mI a0n.Kids))),(43,I 0)],[(10, .box 24 [I 1,S [],I 0,I 0,zS])]⟩ krf (sB (sP ⟨[1,2,7,8,10,11,41,42,43],[10],[],[]⟩ ⟨[(1, .p (.val (.int .u16 a1which))),(2,B8 a2pick),(7,B r1),(8, .p (.sl 2 (mTf r3.1))),(10, .ptr 10 0),(11,I 0),(41, .p (.sl 5 (mI a0n.Kids))),(42,I (lenI (mI a0n.Kids))),(43,I 0)],[(10, .box 24 [I 1,S [],I 0,I 0,zS])]⟩ krf (sim_weak (weak_pn 24 5 54 [] [(10,4)] krf) (sim_loop (fun (l5_1,l5_2,l5_3)=>⟨[(1, .p (.val (.int .u16 a1which))),(2,B8 a2pick),(7,B r1),(8, .p (.sl 2 (mTf r3.1))),(10, .ptr 10 0),(11,I l5_1),(41, .p (.sl 5 (mI a0n.Kids))),(42,I (lenI (mI a0n.Kids))),(43,I l5_2)],[(10, .box 24 [I 1,S [],I 0,I 0, .tsl 5 (mI l5_3) 54]),(54, .arr 24 5 (mI l5_3).length)]⟩:(Int × Int × (List (List PV)))→St) (weak_shr (K:=⟨[1,2,7,8,10,11,41,42,43],[10,54],[],[]⟩) krf) ?_))))
    rintro recl5 ⟨l5_1,l5_2,l5_3⟩
    show SimE (g_law32_TariffErrors_l5 a0n recl5 l5_1 l5_2 l5_3) _ _ _ _ _ _
    unfold g_law32_TariffErrors_l5
    refine sR tfm ⟨[1,2,7,8,10,11,41,42,43,44],[10,54],[],[]⟩ ⟨[(1, .p (.val (.int .u16 a1which))),(2,B8 a2pick),(7,B r1),(8, .p (.sl 2 (mTf r3.1))),(10, .ptr 10 0),(11,I l5_1),(41, .p (.sl 5 (mI a0n.Kids))),(42,I (lenI (mI a0n.Kids))),(43,I l5_2),(44,B (ltI l5_2 (lenI (mI a0n.Kids))))],[(10, .box 24 [I 1,S [],I 0,I 0, .tsl 5 (mI l5_3) 54]),(54, .arr 24 5 (mI l5_3).length)]⟩ krf (sS (sC (ltI l5_2 (lenI (mI a0n.Kids))) krf ?_ ?_))
    ·refine sK (sN ⟨[1,2,7,8,10,11,41,42,43],[10,54],[],[]⟩ ⟨[(1, .p (.val (.int .u16 a1which))),(2,B8 a2pick),(7,B r1),(8, .p (.sl 2 (mTf r3.1))),(10, .ptr 10 0),(11,I l5_1),(41, .p (.sl 5 (mI a0n.Kids))),(42,I (lenI (mI a0n.Kids))),(43,I l5_2)],[(10, .box 24 [I 1,S [],I 0,I 0, .tsl 5 (mI l5_3) 54]),(54, .arr 24 5 (mI l5_3).length)]⟩ krf (sS (sB (sS (sG ?_)))))
     refine xG krf krf (aop_idxR (e:=24) (S:=5) (enc:=GNode.cs) (dec:=GNode.of) (l:=a0n.Kids) (k:=.i64) (n:=l5_2) (sv:=.p (.sl 5 (mI a0n.Kids))) GNode.of_cs rfl krf krf krf krf krf) (fun x6=>?_)
     refine xR 3 krf (xE (sN ⟨[1,2,7,8,10,11,13,41,42,43],[10,13,54],[],[]⟩ ⟨[(1, .p (.val (.int .u16 a1which))),(2,B8 a2pick),(7,B r1),(8, .p (.sl 2 (mTf r3.1))),(10, .ptr 10 0),(11,I l5_1),(13, .ptr 13 0),(41, .p (.sl 5 (mI a0n.Kids))),(42,I (lenI (mI a0n.Kids))),(43,I l5_2)],[(10, .box 24 [I 1,S [],I 0,I 0, .tsl 5 (mI l5_3) 54]),(13, .box 24 (bxc (GNode.cs x6))),(54, .arr 24 5 (mI l5_3).length)]⟩ krf (sR tfm ⟨[1,2,7,8,10,11,13,41,42,43,49],[10,13,54],[],[]⟩ ⟨[(1, .p (.val (.int .u16 a1which))),(2,B8 a2pick),(7,B r1),(8, .p (.sl 2 (mTf r3.1))),(10, .ptr 10 0),(11,I l5_1),(13, .ptr 13 0),(41, .p (.sl 5 (mI a0n.Kids))),(42,I (lenI (mI a0n.Kids))),(43,I l5_2),(49,B (eqI x6.N 7))],[(10, .box 24 [I 1,S [],I 0,I 0, .tsl 5 (mI l5_3) 54]),(13, .box 24 (bxc (GNode.cs x6))),(54, .arr 24 5 (mI l5_3).length)]⟩ krf (sC (eqI x6.N 7) krf ?_ ?_))))
     ·refine sS (sG (xR 4 krf (xF krf krf (aop_app (e:=24) (S:=5) (by_:=64) (enc:=idc) (tk:=54) (l:=l5_3) (l2:=[GNode.cs x6]) (xv:=.tsl 5 (mI [GNode.cs x6]) 53) rfl krf krf rfl krf krf krf rfl krf) (xR 2 krf (xE (sN ⟨[1,2,7,8,10,11,13,41,42,43],[10,13,54],[],[]⟩ ⟨[(1, .p (.val (.int .u16 a1which))),(2,B8 a2pick),(7,B r1),(8, .p (.sl 2 (mTf r3.1))),(10, .ptr 10 0),(11,I l5_1),(13, .ptr 13 0),(41, .p (.sl 5 (mI a0n.Kids))),(42,I (lenI (mI a0n.Kids))),(43,I l5_2)],[(10, .box 24 [I 1,S [],I 0,I 0, .tsl 5 (mI (l5_3++[GNode.cs x6])) 54]),(13, .box 24 (bxc (GNode.cs x6))),(54, .arr 24 5 (mI (l5_3++[GNode.cs x6])).length)]⟩ krf (sL tfm krf ?_)))))))
      refine bq_n (sN ⟨[1,2,7,8,10,11,41,42,43],[10,54],[],[]⟩ ⟨[(1, .p (.val (.int .u16 a1which))),(2,B8 a2pick),(7,B r1),(8, .p (.sl 2 (mTf r3.1))),(10, .ptr 10 0),(11,I (wi (l5_1+(lenI (mI x6.Kids))))),(41, .p (.sl 5 (mI a0n.Kids))),(42,I (lenI (mI a0n.Kids))),(43,I l5_2)],[(10, .box 24 [I 1,S [],I 0,I 0, .tsl 5 (mI (l5_3++[GNode.cs x6])) 54]),(54, .arr 24 5 (mI (l5_3++[GNode.cs x6])).length)]⟩ krf (sL tfm krf ?_))
      exact kq_n (wi (l5_1+(lenI (mI x6.Kids))),wi (l5_2+1),l5_3++[GNode.cs x6]) ⟨[1,2,7,8,10,11,41,42,43],[10,54],[],[]⟩ krf
     ·refine sK (bq_n (sN ⟨[1,2,7,8,10,11,41,42,43],[10,54],[],[]⟩ ⟨[(1, .p (.val (.int .u16 a1which))),(2,B8 a2pick),(7,B r1),(8, .p (.sl 2 (mTf r3.1))),(10, .ptr 10 0),(11,I l5_1),(41, .p (.sl 5 (mI a0n.Kids))),(42,I (lenI (mI a0n.Kids))),(43,I l5_2)],[(10, .box 24 [I 1,S [],I 0,I 0, .tsl 5 (mI l5_3) 54]),(54, .arr 24 5 (mI l5_3).length)]⟩ krf (sL tfm krf ?_)))
      exact kq_n (l5_1,wi (l5_2+1),l5_3) ⟨[1,2,7,8,10,11,41,42,43],[10,54],[],[]⟩ krf
    ·refine sim_exit (sq_x (kq_x (bq_hit ?_)))
     exact nq_n (l5_1,l5_3) ⟨[1,2,7,8,10,11],[10,54],[],[]⟩ krf
   ·rintro ⟨j4_1,j4_2⟩
    refine sS (sG (xR 1 krf ?_))
    refine xC [.agg [.id, .id, .id, .id, .sl 5]] krf (g_t_Build_ok n (⟨1,[],0,0,j4_2⟩:GNode)) krf krf (fun _=>by kernel_rfl) (fun r7=>?_)
    refine xR 5 krf (xE (sN ⟨[1,2,7,8,10,11,14,15],[10,54],[],[]⟩ ⟨[(1, .p (.val (.int .u16 a1which))),(2,B8 a2pick),(7,B r1),(8, .p (.sl 2 (mTf r3.1))),(10, .ptr 10 0),(11,I j4_1),(14, .p (.sl 2 (mTf r7.1))),(15, .p (.sl 2 (mDg r7.2)))],[(10, .box 24 [I 1,S [],I 0,I 0, .tsl 5 (mI j4_2) 54]),(54, .arr 24 5 (mI j4_2).length)]⟩ krf (sS (sim_bind (fun j8=>⟨[(1, .p (.val (.int .u16 a1which))),(2,B8 a2pick),(7,B r1),(10, .ptr 10 0),(11,I j4_1),(75,B j8)],[(10, .box 24 [I 1,S [],I 0,I 0, .tsl 5 (mI j4_2) 54]),(54, .arr 24 5 (mI j4_2).length)]⟩:Bool→St) ?_ ?_))))
    ·refine sG (xR 4 krf ?_)
     refine xS (ltI 0 (lenI (mDg r7.2))) (fun h9=>?_) (fun h9=>?_)
     ·refine xN (want_ft krf h9) krf (xR 4 krf (xE ?_))
      exact nq_n true ⟨[1,2,7,10,11,75],[10,54],[],[]⟩ krf
     ·refine xO (want_ff krf h9) krf (xR 1 krf ?_)
      refine xC [] krf (g_ref32_SameList_ok n r3.1 r7.1) krf krf (fun _=>by kernel_rfl) (fun r10=>?_)
      refine xR 2 krf (xE ?_)
      exact nq_n (!r10) ⟨[1,2,7,10,11,75],[10,54],[],[]⟩ krf
    ·rintro j8
     refine sC j8 krf ?_ ?_
     ·refine sR tfm ⟨[6],[],[],[]⟩ ⟨[(6,B false)],[]⟩ krf (sT (sq_r ?_))
      exact qR (.id) krf krf krf
     ·refine sK (sN ⟨[1,2,7,10,11],[10,54],[],[]⟩ ⟨[(1, .p (.val (.int .u16 a1which))),(2,B8 a2pick),(7,B r1),(10, .ptr 10 0),(11,I j4_1)],[(10, .box 24 [I 1,S [],I 0,I 0, .tsl 5 (mI j4_2) 54]),(54, .arr 24 5 (mI j4_2).length)]⟩ krf (sS (sR tfm ⟨[1,2,7,10,11,77],[10,54],[],[]⟩ ⟨[(1, .p (.val (.int .u16 a1which))),(2,B8 a2pick),(7,B r1),(10, .ptr 10 0),(11,I j4_1),(77,B (eqI j4_1 0))],[(10, .box 24 [I 1,S [],I 0,I 0, .tsl 5 (mI j4_2) 54]),(54, .arr 24 5 (mI j4_2).length)]⟩ krf (sC (eqI j4_1 0) krf ?_ ?_))))
      ·refine sR tfm ⟨[6],[],[],[]⟩ ⟨[(6,B r1)],[]⟩ krf (sT (sq_r ?_))
       exact qR (.id) krf krf krf
      ·refine sK (sN ⟨[1,2,7,10,11],[10,54],[],[]⟩ ⟨[(1, .p (.val (.int .u16 a1which))),(2,B8 a2pick),(7,B r1),(10, .ptr 10 0),(11,I j4_1)],[(10, .box 24 [I 1,S [],I 0,I 0, .tsl 5 (mI j4_2) 54]),(54, .arr 24 5 (mI j4_2).length)]⟩ krf (sS (sG (xR 1 krf ?_))))
       refine xC [] krf (g_law32_number_ok n 5) krf krf (fun _=>by kernel_rfl) (fun r11=>?_)
       refine xR 2 krf ?_
       refine xC [] krf (g_law32_number_ok n 5) krf krf (fun _=>by kernel_rfl) (fun r12=>?_)
       refine xC [] krf (g_law32_word_ok n [111,110]) krf krf (fun _=>by kernel_rfl) (fun r13=>?_)
       refine xC [] krf (g_law32_word_ok n [119,111,114,107]) krf krf (fun _=>by kernel_rfl) (fun r14=>?_)
       refine xR 2 krf ?_
       refine xC [] krf (g_law32_number_ok n 5) krf krf (fun _=>by kernel_rfl) (fun r15=>?_)
       refine xC [] krf (g_law32_word_ok n [112,101,114]) krf krf (fun _=>by kernel_rfl) (fun r16=>?_)
       refine xC [] krf (g_law32_number_ok n 7) krf krf (fun _=>by kernel_rfl) (fun r17=>?_)
       refine xR 2 krf ?_
       refine xC [] krf (g_law32_number_ok n 5) krf krf (fun _=>by kernel_rfl) (fun r18=>?_)
       refine xC [] krf (g_law32_word_ok n [111,110]) krf krf (fun _=>by kernel_rfl) (fun r19=>?_)
       refine xR 2 krf ?_
       refine xC [] krf (g_law32_number_ok n 10001) krf krf (fun _=>by kernel_rfl) (fun r20=>?_)
       refine xR 6 krf ?_
       refine xG krf krf (aop_idxR (e:=24) (S:=5) (enc:=GNode.cs) (dec:=GNode.of) (l:=[GNode.cs (⟨4,[99,97,112],0,0,[]⟩:GNode),GNode.cs (⟨4,[116,105,109,101],0,0,[GNode.cs r11]⟩:GNode),GNode.cs (⟨4,[99,97,112],0,0,[GNode.cs r12,GNode.cs r13,GNode.cs r14]⟩:GNode),GNode.cs (⟨4,[101,110,101,114,103,121],0,0,[GNode.cs r15,GNode.cs r16,GNode.cs r17]⟩:GNode),GNode.cs (⟨4,[115,116,97,114,116],0,0,[GNode.cs r18,GNode.cs r19]⟩:GNode),GNode.cs (⟨4,[116,97,120],0,0,[GNode.cs r20]⟩:GNode)]) (k:=.i64) (n:=Int.tmod (wi a2pick) 6) (sv:=.tsl 5 (mI [GNode.cs (⟨4,[99,97,112],0,0,[]⟩:GNode),GNode.cs (⟨4,[116,105,109,101],0,0,[GNode.cs r11]⟩:GNode),GNode.cs (⟨4,[99,97,112],0,0,[GNode.cs r12,GNode.cs r13,GNode.cs r14]⟩:GNode),GNode.cs (⟨4,[101,110,101,114,103,121],0,0,[GNode.cs r15,GNode.cs r16,GNode.cs r17]⟩:GNode),GNode.cs (⟨4,[115,116,97,114,116],0,0,[GNode.cs r18,GNode.cs r19]⟩:GNode),GNode.cs (⟨4,[116,97,120],0,0,[GNode.cs r20]⟩:GNode)]) 100) GNode.of_cs rfl krf krf krf krf krf) (fun x21=>?_)
       refine xR 3 krf (xE (sN ⟨[1,2,7,10,11,16],[10,16,54],[],[]⟩ ⟨[(1, .p (.val (.int .u16 a1which))),(2,B8 a2pick),(7,B r1),(10, .ptr 10 0),(11,I j4_1),(16, .ptr 16 0)],[(10, .box 24 [I 1,S [],I 0,I 0, .tsl 5 (mI j4_2) 54]),(16, .box 24 (bxc (GNode.cs x21))),(54, .arr 24 5 (mI j4_2).length)]⟩ krf (sR tfm ⟨[1,2,7,10,11,16],[10,16,54],[],[]⟩ ⟨[(1, .p (.val (.int .u16 a1which))),(2,B8 a2pick),(7,B r1),(10, .ptr 10 0),(11,I j4_1),(16, .ptr 16 0)],[(10, .box 24 [I 1,S [],I 0,I 0, .tsl 5 (mI j4_2) 54]),(16, .box 24 (bxc (GNode.cs ⟨x21.Kind,x21.Name,x21.N,7777,x21.Kids⟩))),(54, .arr 24 5 (mI j4_2).length)]⟩ krf (sS (sG (xR 3 krf (xF krf krf (aop_rem (k:=.i64) (a:=wi a1which) (b:=j4_1) rfl krf krf) ?_)))))))
       refine xR 1 krf (xE (sN ⟨[2,7,10,16,17],[10,16,54],[],[]⟩ ⟨[(2,B8 a2pick),(7,B r1),(10, .ptr 10 0),(16, .ptr 16 0),(17,I (Int.tmod (wi a1which) j4_1))],[(10, .box 24 [I 1,S [],I 0,I 0, .tsl 5 (mI j4_2) 54]),(16, .box 24 (bxc (GNode.cs ⟨x21.Kind,x21.Name,x21.N,7777,x21.Kids⟩))),(54, .arr 24 5 (mI j4_2).length)]⟩ krf (sR tfm ⟨[2,7,10,16,17,18],[10,16,18,54],[],[]⟩ ⟨[(2,B8 a2pick),(7,B r1),(10, .ptr 10 0),(16, .ptr 16 0),(17,I (Int.tmod (wi a1which) j4_1)),(18, .ptr 18 0)],[(10, .box 24 [I 1,S [],I 0,I 0, .tsl 5 (mI j4_2) 54]),(16, .box 24 (bxc (GNode.cs ⟨x21.Kind,x21.Name,x21.N,7777,x21.Kids⟩))),(18, .box 24 [I 1,S [],I 0,I 0,zS]),(54, .arr 24 5 (mI j4_2).length)]⟩ krf (sim_bind (fun j22=>⟨[(2,B8 a2pick),(7,B r1),(18, .ptr 18 0)],[(18, .box 24 [I 1,S [],I 0,I 0, .tsl 5 (mI j22) 600]),(600, .arr 24 5 (mI j22).length)]⟩:(List (List PV))→St) ?_ ?_))))
       ·refine sR tfm ⟨[2,7,16,17,18,113,114,115],[16,18,54],[],[]⟩ ⟨[(2,B8 a2pick),(7,B r1),(16, .ptr 16 0),(17,I (Int.tmod (wi a1which) j4_1)),(18, .ptr 18 0),(113, .tsl 5 (mI j4_2) 54),(114,I (lenI (mI j4_2))),(115,I 0)],[(16, .box 24 (bxc (GNode.cs ⟨x21.Kind,x21.Name,x21.N,7777,x21.Kids⟩))),(18, .box 24 [I 1,S [],I 0,I 0,zS]),(54, .arr 24 5 (mI j4_2).length)]⟩ krf (sB (sP ⟨[2,7,16,17,18,113,114,115],[16,18,54],[],[]⟩ ⟨[(2,B8 a2pick),(7,B r1),(16, .ptr 16 0),(17,I (Int.tmod (wi a1which) j4_1)),(18, .ptr 18 0),(113, .tsl 5 (mI j4_2) 54),(114,I (lenI (mI j4_2))),(115,I 0)],[(16, .box 24 (bxc (GNode.cs ⟨x21.Kind,x21.Name,x21.N,7777,x21.Kids⟩))),(18, .box 24 [I 1,S [],I 0,I 0,zS]),(54, .arr 24 5 (mI j4_2).length)]⟩ krf (sim_weak (weak_pn 24 5 600 [] [(18,4)] krf) (sim_loop (fun (l23_1,l23_2,l23_3)=>⟨[(2,B8 a2pick),(7,B r1),(16, .ptr 16 0),(17,I l23_1),(18, .ptr 18 0),(113, .tsl 5 (mI j4_2) 54),(114,I (lenI (mI j4_2))),(115,I l23_2)],[(16, .box 24 (bxc (GNode.cs ⟨x21.Kind,x21.Name,x21.N,7777,x21.Kids⟩))),(18, .box 24 [I 1,S [],I 0,I 0, .tsl 5 (mI l23_3) 600]),(54, .arr 24 5 (mI j4_2).length),(600, .arr 24 5 (mI l23_3).length)]⟩:(Int × Int × (List (List PV)))→St) (weak_shr (K:=⟨[2,7,16,17,18,113,114,115],[16,18,54,600],[],[]⟩) krf) ?_))))
        rintro recl23 ⟨l23_1,l23_2,l23_3⟩
        show SimE (g_law32_TariffErrors_l23 j4_2 x21 recl23 l23_1 l23_2 l23_3) _ _ _ _ _ _
        unfold g_law32_TariffErrors_l23
        refine sR tfm ⟨[2,7,16,17,18,113,114,115,116],[16,18,54,600],[],[]⟩ ⟨[(2,B8 a2pick),(7,B r1),(16, .ptr 16 0),(17,I l23_1),(18, .ptr 18 0),(113, .tsl 5 (mI j4_2) 54),(114,I (lenI (mI j4_2))),(115,I l23_2),(116,B (ltI l23_2 (lenI (mI j4_2))))],[(16, .box 24 (bxc (GNode.cs ⟨x21.Kind,x21.Name,x21.N,7777,x21.Kids⟩))),(18, .box 24 [I 1,S [],I 0,I 0, .tsl 5 (mI l23_3) 600]),(54, .arr 24 5 (mI j4_2).length),(600, .arr 24 5 (mI l23_3).length)]⟩ krf (sS (sC (ltI l23_2 (lenI (mI j4_2))) krf ?_ ?_))
        ·refine sK (sN ⟨[2,7,16,17,18,113,114,115],[16,18,54,600],[],[]⟩ ⟨[(2,B8 a2pick),(7,B r1),(16, .ptr 16 0),(17,I l23_1),(18, .ptr 18 0),(113, .tsl 5 (mI j4_2) 54),(114,I (lenI (mI j4_2))),(115,I l23_2)],[(16, .box 24 (bxc (GNode.cs ⟨x21.Kind,x21.Name,x21.N,7777,x21.Kids⟩))),(18, .box 24 [I 1,S [],I 0,I 0, .tsl 5 (mI l23_3) 600]),(54, .arr 24 5 (mI j4_2).length),(600, .arr 24 5 (mI l23_3).length)]⟩ krf (sS (sB (sS (sG ?_)))))
         refine xG krf krf (aop_idxR (e:=24) (S:=5) (enc:=GNode.cs) (dec:=GNode.of) (l:=j4_2) (k:=.i64) (n:=l23_2) (sv:=.tsl 5 (mI j4_2) 54) GNode.of_cs rfl krf krf krf krf krf) (fun x24=>?_)
         refine xR 3 krf (xE (sN ⟨[2,7,16,17,18,20,113,114,115],[16,18,20,54,600],[],[]⟩ ⟨[(2,B8 a2pick),(7,B r1),(16, .ptr 16 0),(17,I l23_1),(18, .ptr 18 0),(20, .ptr 20 0),(113, .tsl 5 (mI j4_2) 54),(114,I (lenI (mI j4_2))),(115,I l23_2)],[(16, .box 24 (bxc (GNode.cs ⟨x21.Kind,x21.Name,x21.N,7777,x21.Kids⟩))),(18, .box 24 [I 1,S [],I 0,I 0, .tsl 5 (mI l23_3) 600]),(20, .box 24 (bxc (GNode.cs x24))),(54, .arr 24 5 (mI j4_2).length),(600, .arr 24 5 (mI l23_3).length)]⟩ krf (sR tfm ⟨[2,7,16,17,18,20,21,113,114,115],[16,18,20,21,54,600],[],[]⟩ ⟨[(2,B8 a2pick),(7,B r1),(16, .ptr 16 0),(17,I l23_1),(18, .ptr 18 0),(20, .ptr 20 0),(21, .ptr 21 0),(113, .tsl 5 (mI j4_2) 54),(114,I (lenI (mI j4_2))),(115,I l23_2)],[(16, .box 24 (bxc (GNode.cs ⟨x21.Kind,x21.Name,x21.N,7777,x21.Kids⟩))),(18, .box 24 [I 1,S [],I 0,I 0, .tsl 5 (mI l23_3) 600]),(20, .box 24 (bxc (GNode.cs x24))),(21, .box 24 (bxc (GNode.cs x24))),(54, .arr 24 5 (mI j4_2).length),(600, .arr 24 5 (mI l23_3).length)]⟩ krf (sS (sG (xR 3 krf ?_))))))
         refine xF krf krf (aop_vapp (e:=24) (S:=5) (by_:=64) (enc:=idc) (tk:=120) (l:=[]) (l2:=x24.Kids) (xv:=.p (.sl 5 (mI x24.Kids))) (n:=(mI []).length) rfl krf krf rfl krf krf krf krf (by simp)) ?_
         refine xR 2 krf (xE (sN ⟨[2,7,16,17,18,20,21,113,114,115],[16,18,20,21,54,120,600],[],[]⟩ ⟨[(2,B8 a2pick),(7,B r1),(16, .ptr 16 0),(17,I l23_1),(18, .ptr 18 0),(20, .ptr 20 0),(21, .ptr 21 0),(113, .tsl 5 (mI j4_2) 54),(114,I (lenI (mI j4_2))),(115,I l23_2)],[(16, .box 24 (bxc (GNode.cs ⟨x21.Kind,x21.Name,x21.N,7777,x21.Kids⟩))),(18, .box 24 [I 1,S [],I 0,I 0, .tsl 5 (mI l23_3) 600]),(20, .box 24 (bxc (GNode.cs x24))),(21, .box 24 [I x24.Kind,S x24.Name,I x24.N,I x24.At, .vsl 5 120 (mI ([]++x24.Kids)).length]),(54, .arr 24 5 (mI j4_2).length),(120, .vec 24 5 (mI ([]++x24.Kids))),(600, .arr 24 5 (mI l23_3).length)]⟩ krf (sim_bind (fun j25=>⟨[(2,B8 a2pick),(7,B r1),(16, .ptr 16 0),(17,I l23_1),(18, .ptr 18 0),(20, .ptr 20 0),(21, .ptr 21 0),(113, .tsl 5 (mI j4_2) 54),(114,I (lenI (mI j4_2))),(115,I l23_2)],[(16, .box 24 (bxc (GNode.cs ⟨x21.Kind,x21.Name,x21.N,7777,x21.Kids⟩))),(18, .box 24 [I 1,S [],I 0,I 0, .tsl 5 (mI l23_3) 600]),(20, .box 24 (bxc (GNode.cs x24))),(21, .box 24 [I x24.Kind,S x24.Name,I x24.N,I x24.At, .vsl 5 120 (mI j25).length]),(54, .arr 24 5 (mI j4_2).length),(120, .vec 24 5 (mI j25)),(600, .arr 24 5 (mI l23_3).length)]⟩:(List (List PV))→St) ?_ ?_)))
         ·refine sim_bind (fun j26=>⟨[(2,B8 a2pick),(7,B r1),(16, .ptr 16 0),(17,I l23_1),(18, .ptr 18 0),(20, .ptr 20 0),(21, .ptr 21 0),(113, .tsl 5 (mI j4_2) 54),(114,I (lenI (mI j4_2))),(115,I l23_2),(133,B j26)],[(16, .box 24 (bxc (GNode.cs ⟨x21.Kind,x21.Name,x21.N,7777,x21.Kids⟩))),(18, .box 24 [I 1,S [],I 0,I 0, .tsl 5 (mI l23_3) 600]),(20, .box 24 (bxc (GNode.cs x24))),(21, .box 24 [I x24.Kind,S x24.Name,I x24.N,I x24.At, .vsl 5 120 (mI ([]++x24.Kids)).length]),(54, .arr 24 5 (mI j4_2).length),(120, .vec 24 5 (mI ([]++x24.Kids))),(600, .arr 24 5 (mI l23_3).length)]⟩:Bool→St) ?_ ?_
          ·refine sG (xR 3 krf ?_)
           refine xS (leI 0 l23_1) (fun h27=>?_) (fun h27=>?_)
           ·refine xO (want_tt krf h27) krf (xR 2 krf ?_)
            refine xs_u krf krf (aop_vlen (tk:=120) (es:=mI ([]++x24.Kids)) (S:=5) (n:=(mI ([]++x24.Kids)).length) (e:=24) (ty:=24) rfl krf krf krf (by simp)) ?_
            refine xR 2 krf (xE ?_)
            exact nq_n (ltI l23_1 (lenI (mI ([]++x24.Kids)))) ⟨[2,7,16,17,18,20,21,113,114,115,133],[16,18,20,21,54,120,600],[],[]⟩ krf
           ·refine xN (want_tf krf h27) krf (xR 5 krf (xE ?_))
            exact nq_n false ⟨[2,7,16,17,18,20,21,113,114,115,133],[16,18,20,21,54,120,600],[],[]⟩ krf
          ·rintro j26
           refine sC j26 krf ?_ ?_
           ·refine sG (xR 4 krf ?_)
            refine xs_getH krf krf (aop_vidxR (e:=24) (S:=5) (tk:=120) (ty:=24) (enc:=GNode.cs) (dec:=GNode.of) (l:=[]++x24.Kids) (k:=.i64) (n:=l23_1) (nn:=(mI ([]++x24.Kids)).length) GNode.of_cs rfl krf krf krf krf krf (by simp)) (fun x28 hx28=>?_)
            refine xs_u krf krf (aop_vst (S:=5) (tb:=24) (tk:=120) (n:=Int.toNat l23_1) (f:=0) (enc:=idc) (l:=[]++x24.Kids) (v:=GNode.cs x28) (v':=(GNode.cs (⟨x21.Kind,x21.Name,x21.N,7777,x21.Kids⟩:GNode))) (xv:=.agg [I x21.Kind,S x21.Name,I x21.N,I 7777, .p (.sl 5 (mI x21.Kids))]) rfl krf krf krf (getI_atR GNode.of_cs hx28) krf) (xE ?_)
            exact nq_e (List.set ([]++x24.Kids) (Int.toNat l23_1) (GNode.cs (⟨x21.Kind,x21.Name,x21.N,7777,x21.Kids⟩:GNode))) ⟨[2,7,16,17,18,20,21,113,114,115],[16,18,20,21,54,120,600],[],[]⟩ ⟨[(2,B8 a2pick),(7,B r1),(16, .ptr 16 0),(17,I l23_1),(18, .ptr 18 0),(20, .ptr 20 0),(21, .ptr 21 0),(113, .tsl 5 (mI j4_2) 54),(114,I (lenI (mI j4_2))),(115,I l23_2)],[(16, .box 24 (bxc (GNode.cs ⟨x21.Kind,x21.Name,x21.N,7777,x21.Kids⟩))),(18, .box 24 [I 1,S [],I 0,I 0, .tsl 5 (mI l23_3) 600]),(20, .box 24 (bxc (GNode.cs x24))),(21, .box 24 [I x24.Kind,S x24.Name,I x24.N,I x24.At, .vsl 5 120 (mI ([]++x24.Kids)).length]),(54, .arr 24 5 (mI j4_2).length),(120, .vec 24 5 (mI (List.set ([]++x24.Kids) (Int.toNat l23_1) (GNode.cs (⟨x21.Kind,x21.Name,x21.N,7777,x21.Kids⟩:GNode))))),(600, .arr 24 5 (mI l23_3).length)]⟩ krf (by simp)
           ·refine sK ?_
            exact nq_n ([]++x24.Kids) ⟨[2,7,16,17,18,20,21,113,114,115],[16,18,20,21,54,120,600],[],[]⟩ krf
         ·rintro j25
          refine sR tfm ⟨[2,7,16,17,18,21,113,114,115],[16,18,21,54,120,600],[],[]⟩ ⟨[(2,B8 a2pick),(7,B r1),(16, .ptr 16 0),(17,I (wi (l23_1 - (lenI (mI x24.Kids))))),(18, .ptr 18 0),(21, .ptr 21 0),(113, .tsl 5 (mI j4_2) 54),(114,I (lenI (mI j4_2))),(115,I l23_2)],[(16, .box 24 (bxc (GNode.cs ⟨x21.Kind,x21.Name,x21.N,7777,x21.Kids⟩))),(18, .box 24 [I 1,S [],I 0,I 0, .tsl 5 (mI l23_3) 600]),(21, .box 24 [I x24.Kind,S x24.Name,I x24.N,I x24.At, .vsl 5 120 (mI j25).length]),(54, .arr 24 5 (mI j4_2).length),(120, .vec 24 5 (mI j25)),(600, .arr 24 5 (mI l23_3).length)]⟩ krf ?_
          refine sim_weak (weak_vfz 120 24 5 (mI j25) [(mI j25).length] krf krf (by simp) krf krf) ?_
          refine sG (xR 4 krf (xF krf krf (aop_app (e:=24) (S:=5) (by_:=64) (enc:=idc) (tk:=600) (l:=l23_3) (l2:=[GNode.cs (⟨x24.Kind,x24.Name,x24.N,x24.At,j25⟩:GNode)]) (xv:=.tsl 5 (mI [GNode.cs (⟨x24.Kind,x24.Name,x24.N,x24.At,j25⟩:GNode)]) 147) rfl krf krf rfl krf krf krf rfl krf) (xR 2 krf (xE (bq_n (sN ⟨[2,7,16,17,18,113,114,115],[16,18,54,600],[],[]⟩ ⟨[(2,B8 a2pick),(7,B r1),(16, .ptr 16 0),(17,I (wi (l23_1 - (lenI (mI x24.Kids))))),(18, .ptr 18 0),(113, .tsl 5 (mI j4_2) 54),(114,I (lenI (mI j4_2))),(115,I l23_2)],[(16, .box 24 (bxc (GNode.cs ⟨x21.Kind,x21.Name,x21.N,7777,x21.Kids⟩))),(18, .box 24 [I 1,S [],I 0,I 0, .tsl 5 (mI (l23_3++[GNode.cs (⟨x24.Kind,x24.Name,x24.N,x24.At,j25⟩:GNode)])) 600]),(54, .arr 24 5 (mI j4_2).length),(600, .arr 24 5 (mI (l23_3++[GNode.cs (⟨x24.Kind,x24.Name,x24.N,x24.At,j25⟩:GNode)])).length)]⟩ krf (sL tfm krf ?_)))))))
          exact kq_n (wi (l23_1 - (lenI (mI x24.Kids))),wi (l23_2+1),l23_3++[GNode.cs (⟨x24.Kind,x24.Name,x24.N,x24.At,j25⟩:GNode)]) ⟨[2,7,16,17,18,113,114,115],[16,18,54,600],[],[]⟩ krf
        ·refine sim_exit (sq_x (kq_x (bq_hit ?_)))
         exact nq_n l23_3 ⟨[2,7,18],[18,600],[],[]⟩ krf
       ·rintro j22
        refine sS (sS (sG (xR 1 krf ?_)))
        refine xC [.agg [.id, .id, .id, .id, .sl 5]] krf (g_law32_usable_ok n (⟨1,[],0,0,j22⟩:GNode)) krf krf (fun _=>by kernel_rfl) (fun r29=>?_)
        refine xR 1 krf (xE (sN ⟨[2,7,18,153],[18,600],[],[]⟩ ⟨[(2,B8 a2pick),(7,B r1),(18, .ptr 18 0),(153,B (!r29))],[(18, .box 24 [I 1,S [],I 0,I 0, .tsl 5 (mI j22) 600]),(600, .arr 24 5 (mI j22).length)]⟩ krf (sC (!r29) krf ?_ ?_)))
        ·refine sR tfm ⟨[6],[],[],[]⟩ ⟨[(6,B r1)],[]⟩ krf (sT (sq_r ?_))
         exact qR (.id) krf krf krf
        ·refine sK (sN ⟨[2,7,18],[18,600],[],[]⟩ ⟨[(2,B8 a2pick),(7,B r1),(18, .ptr 18 0)],[(18, .box 24 [I 1,S [],I 0,I 0, .tsl 5 (mI j22) 600]),(600, .arr 24 5 (mI j22).length)]⟩ krf (sS (sG (xR 1 krf ?_))))
         refine xC [.agg [.id, .id, .id, .id, .sl 5]] krf (g_t_Build_ok n (⟨1,[],0,0,j22⟩:GNode)) krf krf (fun _=>by kernel_rfl) (fun r30=>?_)
         refine xR 5 krf (xE (sN ⟨[2,7,22,23],[],[],[]⟩ ⟨[(2,B8 a2pick),(7,B r1),(22, .p (.sl 2 (mTf r30.1))),(23, .p (.sl 2 (mDg r30.2)))],[]⟩ krf (sR tfm ⟨[7,22,23,24],[],[],[]⟩ ⟨[(7,B r1),(22, .p (.sl 2 (mTf r30.1))),(23, .p (.sl 2 (mDg r30.2))),(24,B (ltI (Int.tmod a2pick 6) 5))],[]⟩ krf (sim_bind (fun j31=>⟨[(6,B j31)],[]⟩:Bool→St) ?_ ?_))))
         ·refine sG (xR 2 krf ?_)
          refine xS r1 (fun h32=>?_) (fun h32=>?_)
          ·refine xO (want_tt krf h32) krf (xR 4 krf ?_)
           refine xS (eqI (lenI (mTf r30.1)) 0) (fun h33=>?_) (fun h33=>?_)
           ·refine xO (want_tt krf h33) krf (xR 4 krf ?_)
            refine xS (eqI (lenI (mDg r30.2)) 1) (fun h34=>?_) (fun h34=>?_)
            ·refine xO (want_tt krf h34) krf ?_
             refine xG krf krf (aop_idx (e:=56) (S:=2) (enc:=GDg.cs) (l:=r30.2) (k:=.i64) (n:=0) (sv:=.p (.sl 2 (mDg r30.2))) rfl krf krf krf krf krf) (fun x35=>?_)
             refine xR 5 krf ?_
             refine xS (eqI x35.At 7777) (fun h36=>?_) (fun h36=>?_)
             ·refine xO (want_tt krf h36) krf ?_
              refine xG krf krf (aop_idx (e:=56) (S:=2) (enc:=GDg.cs) (l:=r30.2) (k:=.i64) (n:=0) (sv:=.p (.sl 2 (mDg r30.2))) rfl krf krf krf krf krf) (fun x37=>?_)
              refine xR 7 krf ?_
              refine xS (opq ((eqI x37.Err 9) == (ltI (Int.tmod a2pick 6) 5))) (fun h38=>?_) (fun h38=>?_)
              ·refine xO (want_tt krf h38) krf (xR 1 krf ?_)
               refine xS (ltI (Int.tmod a2pick 6) 5) (fun h39=>?_) (fun h39=>?_)
               ·refine xN (want_ft krf h39) krf (xR 7 krf (xE ?_))
                exact nq_n true ⟨[6],[],[],[]⟩ krf
               ·refine xO (want_ff krf h39) krf ?_
                refine xG krf krf (aop_idx (e:=56) (S:=2) (enc:=GDg.cs) (l:=r30.2) (k:=.i64) (n:=0) (sv:=.p (.sl 2 (mDg r30.2))) rfl krf krf krf krf krf) (fun x40=>?_)
                refine xR 6 krf (xE ?_)
                exact nq_n (eqI x40.Err 3) ⟨[6],[],[],[]⟩ krf
              ·refine xN (want_tf krf h38) krf (xR 9 krf (xE ?_))
               exact nq_n false ⟨[6],[],[],[]⟩ krf
             ·refine xN (want_tf krf h36) krf (xR 18 krf (xE ?_))
              exact nq_n false ⟨[6],[],[],[]⟩ krf
            ·refine xN (want_tf krf h34) krf (xR 25 krf (xE ?_))
             exact nq_n false ⟨[6],[],[],[]⟩ krf
           ·refine xN (want_tf krf h33) krf (xR 30 krf (xE ?_))
            exact nq_n false ⟨[6],[],[],[]⟩ krf
          ·refine xN (want_tf krf h32) krf (xR 35 krf (xE ?_))
           exact nq_n false ⟨[6],[],[],[]⟩ krf
         ·rintro j31
          refine sT ?_
          exact qR (.id) krf krf krf
end Go.Proofs
namespace Go.Proofs
open Go Go.Abs
set_option maxRecDepth 100000
set_option linter.unusedVariables false
def g_ref32_Article (n:Nat) (a0a:GAr):Option Bool :=
 (cond (ltI a0a.Price 0)
  (some true)
  (cond (ltI 1000000 a0a.Price)
   (some true)
   (cond (ltI a0a.From 0)
    (some true)
    (cond (ltI 1439 a0a.From)
     (some true)
     (cond (leI a0a.To a0a.From)
      (some true)
      (cond (ltI 1440 a0a.To)
       (some true)
       (cond (ltI a0a.Days 1)
        (some true)
        (some (ltI 7 a0a.Days))))))))).bind fun j1 =>
 cond j1
  (some false)
  ((cond (eqI a0a.Kind 3)
   (some true)
   (some (eqI a0a.Kind 4))).bind fun j9 =>
  cond j9
   ((cond (leI 1 a0a.Unit)
    (cond (leI a0a.Unit 1440)
     (cond (leI 0 a0a.Free)
      (some (leI a0a.Free 1440))
      (some false))
     (some false))
    (some false)).bind fun j11 =>
   some j11)
   ((cond (!eqI a0a.Unit 0)
    (some true)
    (some (!eqI a0a.Free 0))).bind fun j15 =>
   cond j15
    (some false)
    ((cond (eqI a0a.From 0)
     (cond (eqI a0a.To 1440)
      (some (eqI a0a.Days 7))
      (some false))
     (some false)).bind fun j17 =>
    cond (eqI a0a.Kind 6)
     ((cond j17
      (some (leI a0a.Price 10000))
      (some false)).bind fun j20 =>
     some j20)
     (cond (eqI a0a.Kind 5)
      (some j17)
      (cond (eqI a0a.Kind 1)
       (some true)
       (some (eqI a0a.Kind 2)))))))
def g_ref32_number (n:Nat) (a0l:List (List PV)) (a1at:Int):Option (Int × Bool) :=
 (cond (leI (lenI (List.map idc a0l)) a1at)
  (some true)
  ((Option.bind (getI a0l a1at) GNode.of).bind fun x3 =>
  some (!eqI x3.Kind 6))).bind fun j1 =>
 cond j1
  (some (0,false))
  ((Option.bind (getI a0l a1at) GNode.of).bind fun x4 =>
  some (x4.N,true))
def g_ref32_word (n:Nat) (a0l:List (List PV)) (a1at:Int):Option (List UInt8) :=
 (cond (leI (lenI (List.map idc a0l)) a1at)
  (some true)
  ((Option.bind (getI a0l a1at) GNode.of).bind fun x3 =>
  some (!eqI x3.Kind 5))).bind fun j1 =>
 cond j1
  (some [])
  ((Option.bind (getI a0l a1at) GNode.of).bind fun x4 =>
  some x4.Name)
def g_ref32_types_l1 (n:Nat) (a0l:List (List PV)) (recl1:(Int × Int)→Option (Int × Int)) (l1_1:Int) (l1_2:Int):Option (Int × Int) :=
 ((g_ref32_word n a0l l1_1).bind fun r3 =>
 cond (eqS r3 [119,111,114,107])
  (some 1)
  (cond (eqS r3 [115,97,116,117,114,100,97,121])
   (some 2)
   (cond (eqS r3 [115,117,110,100,97,121])
    (some 4)
    (some 0)))).bind fun j2 =>
 cond (eqI j2 0)
  (some (l1_2,l1_1))
  (cond (!eqI j2 0) (
   cond (eqI (Int.tmod (wi (Int.tdiv l1_2 j2)) 2) 1)
    (some (0,l1_1))
    (recl1 (wi (l1_1+1),wi (l1_2+j2)))) none)
def g_ref32_types (n:Nat) (a0l:List (List PV)) (a1at:Int):Option (Int × Int) :=
 loopN (fun recl1 (l1_1,l1_2)=>g_ref32_types_l1 n a0l recl1 l1_1 l1_2) n (a1at,0)
def g_ref32_read_j8 (r2:Int) (r3:Int × Bool) (j4:Bool) (j8_1:Bool) (j8_2:Int) (j8_3:Int) (j8_4:Int) (j8_5:Int) (j8_6:Int):Option (GAr × Bool) :=
 cond (!j4)
  (some ((⟨wi (r2+1),j8_2,j8_3,j8_4,r3.1,j8_5,j8_6⟩:GAr),true))
  (some ((⟨wi (r2+1),j8_2,j8_3,j8_4,r3.1,j8_5,j8_6⟩:GAr),j8_1))
def g_ref32_read_l10 (n:Nat) (a0n:GNode) (r2:Int) (r3:Int × Bool) (j4:Bool) (j6:Bool) (recl10:(Bool × Bool × Bool × Bool × Int × Int × Int × Int × Int × Int)→Option (GAr × Bool)) (l10_1:Bool) (l10_2:Bool) (l10_3:Bool) (l10_4:Bool) (l10_5:Int) (l10_6:Int) (l10_7:Int) (l10_8:Int) (l10_9:Int) (l10_10:Int):Option (GAr × Bool) :=
 cond (ltI l10_5 (lenI (List.map idc a0n.Kids)))
  ((g_ref32_number n a0n.Kids (wi (l10_5+1))).bind fun r11 =>
  (g_ref32_word n a0n.Kids l10_5).bind fun r12 =>
  (cond (eqS r12 [112,101,114])
   (cond j4
    (cond (!l10_1)
     (some r11.2)
     (some false))
    (some false))
   (some false)).bind fun j13 =>
  cond j13
   (recl10 (true,l10_2,l10_3,l10_4,wi (l10_5+2),l10_6,l10_7,l10_8,r11.1,l10_10))
   ((cond (eqS r12 [102,114,101,101])
    (cond j4
     (cond (!l10_2)
      (some r11.2)
      (some false))
     (some false))
    (some false)).bind fun j17 =>
   cond j17
    (recl10 (l10_1,true,l10_3,l10_4,wi (l10_5+2),l10_6,l10_7,l10_8,l10_9,r11.1))
    ((cond (eqS r12 [111,110])
     (cond (!j6)
      (some (!l10_3))
      (some false))
     (some false)).bind fun j21 =>
    cond j21
     ((g_ref32_types n a0n.Kids (wi (l10_5+1))).bind fun r24 =>
     cond (eqI r24.1 0)
      (some ((⟨wi (r2+1),r24.1,l10_7,l10_8,r3.1,l10_9,l10_10⟩:GAr),false))
      (recl10 (l10_1,l10_2,true,l10_4,r24.2,r24.1,l10_7,l10_8,l10_9,l10_10)))
     ((cond (eqS r12 [98,101,116,119,101,101,110])
      (cond (!j6)
       (cond (!l10_4)
        (some r11.2)
        (some false))
       (some false))
      (some false)).bind fun j25 =>
     cond j25
      ((g_ref32_number n a0n.Kids (wi (l10_5+2))).bind fun r29 =>
      cond (!r29.2)
       (some ((⟨wi (r2+1),l10_6,l10_7,l10_8,r3.1,l10_9,l10_10⟩:GAr),false))
       (recl10 (l10_1,l10_2,l10_3,true,wi (l10_5+3),l10_6,r11.1,r29.1,l10_9,l10_10)))
      (some ((⟨wi (r2+1),l10_6,l10_7,l10_8,r3.1,l10_9,l10_10⟩:GAr),false))))))
  (g_ref32_read_j8 r2 r3 j4 l10_1 l10_6 l10_7 l10_8 l10_9 l10_10)
def g_ref32_read (n:Nat) (a0n:GNode):Option (GAr × Bool) :=
 (g_ref02_Articles n).bind fun r1 =>
 (g_ref02_In n r1 a0n.Name).bind fun r2 =>
 (g_ref32_number n a0n.Kids 0).bind fun r3 =>
 cond (!r3.2)
  (some ((⟨wi (r2+1),7,0,1440,0,0,0⟩:GAr),false))
  ((cond (eqI (wi (r2+1)) 3)
   (some true)
   (some (eqI (wi (r2+1)) 4))).bind fun j4 =>
  (cond (eqI (wi (r2+1)) 5)
   (some true)
   (some (eqI (wi (r2+1)) 6))).bind fun j6 =>
  loopN (fun recl10 (l10_1,l10_2,l10_3,l10_4,l10_5,l10_6,l10_7,l10_8,l10_9,l10_10)=>g_ref32_read_l10 n a0n r2 r3 j4 j6 recl10 l10_1 l10_2 l10_3 l10_4 l10_5 l10_6 l10_7 l10_8 l10_9 l10_10) n (false,false,false,false,1,7,0,1440,0,0))
def g_ref32_build_l1 (n:Nat) (a0n:GNode) (recl1:(Bool × Int × (List GAr))→Option (GTf × GDg)) (l1_1:Bool) (l1_2:Int) (l1_3:List GAr):Option (GTf × GDg) :=
 cond (ltI l1_2 (lenI (List.map idc a0n.Kids)))
  ((Option.bind (getI a0n.Kids l1_2) GNode.of).bind fun x2 =>
  cond (eqI x2.Kind 3)
   (some ((⟨a0n.Name,l1_3⟩:GTf),(⟨9,x2.At⟩:GDg)))
   (cond (eqI (lenI (List.map GAr.cs l1_3)) 12)
    (some ((⟨a0n.Name,l1_3⟩:GTf),(⟨2,x2.At⟩:GDg)))
    ((g_ref32_read n x2).bind fun r3 =>
    cond (!r3.2)
     (some ((⟨a0n.Name,l1_3⟩:GTf),(⟨9,x2.At⟩:GDg)))
     ((g_ref32_Article n r3.1).bind fun r4 =>
     cond (!r4)
      (some ((⟨a0n.Name,l1_3⟩:GTf),(⟨3,x2.At⟩:GDg)))
      ((cond (eqI r3.1.Kind 6)
       (some l1_1)
       (some false)).bind fun j5 =>
      cond j5
       (some ((⟨a0n.Name,l1_3⟩:GTf),(⟨5,x2.At⟩:GDg)))
       (cond l1_1
        (cond (roomB (List.length (l1_3++[r3.1])) 56) (
         recl1 (true,wi (l1_2+1),l1_3++[r3.1])) none)
        (cond (roomB (List.length (l1_3++[r3.1])) 56) (
         recl1 (eqI r3.1.Kind 6,wi (l1_2+1),l1_3++[r3.1])) none)))))))
  (some ((⟨a0n.Name,l1_3⟩:GTf),(⟨0,0⟩:GDg)))
def g_ref32_build (n:Nat) (a0n:GNode):Option (GTf × GDg) :=
 loopN (fun recl1 (l1_1,l1_2,l1_3)=>g_ref32_build_l1 n a0n recl1 l1_1 l1_2 l1_3) n (false,0,[])
def g_ref32_Build_l3 (n:Nat) (a0n:GNode) (recl3:((List GTf) × (List GDg) × (List (List UInt8)) × Int)→Option ((List GTf) × (List GDg))) (l3_1:List GTf) (l3_2:List GDg) (l3_3:List (List UInt8)) (l3_4:Int):Option ((List GTf) × (List GDg)) :=
 cond (ltI l3_4 (lenI (List.map idc a0n.Kids)))
  ((Option.bind (getI a0n.Kids l3_4) GNode.of).bind fun x4 =>
  cond (!eqI x4.N 7)
   (recl3 (l3_1,l3_2,l3_3,wi (l3_4+1)))
   ((g_ref32_build n x4).bind fun r5 =>
   ((g_ref02_In n l3_3 x4.Name).bind fun r7 =>
   cond (leI 0 r7)
    (some (5,x4.At))
    (cond (leI 8 (lenI (List.map cstr l3_3)))
     (some (2,x4.At))
     (some (r5.2.Err,r5.2.At)))).bind fun (j6_1,j6_2) =>
   cond (roomB (List.length (l3_3++[x4.Name])) 16) (
    cond (eqI j6_1 0)
     (cond (roomB (List.length (l3_1++[r5.1])) 40) (
      recl3 (l3_1++[r5.1],l3_2,l3_3++[x4.Name],wi (l3_4+1))) none)
     (cond (ltI (lenI (List.map GDg.cs l3_2)) 20)
      (cond (roomB (List.length (l3_2++[(⟨j6_1,j6_2⟩:GDg)])) 16) (
       recl3 (l3_1,l3_2++[(⟨j6_1,j6_2⟩:GDg)],l3_3++[x4.Name],wi (l3_4+1))) none)
      (recl3 (l3_1,l3_2,l3_3++[x4.Name],wi (l3_4+1))))) none))
  (some (l3_1,l3_2))
def g_ref32_Build (n:Nat) (a0n:GNode):Option ((List GTf) × (List GDg)) :=
 (g_ref02_Valid n a0n).bind fun r1 =>
 cond (!r1)
  (some ([],[(⟨1,0⟩:GDg)]))
  ((loopN (fun recl3 (l3_1,l3_2,l3_3,l3_4)=>g_ref32_Build_l3 n a0n recl3 l3_1 l3_2 l3_3 l3_4) n ([],[],[],0)).bind fun (j2_1,j2_2) =>
  cond (ltI 0 (lenI (List.map GDg.cs j2_2)))
   (some ([],j2_2))
   (some (j2_1,[])))
structure GQuoteQuoted where
 Tariff:GTf
 calendar:GCl
 from_:Int
 to_:Int
deriving DecidableEq
def GQuoteQuoted.cs (x:GQuoteQuoted):List PV:=[VS x.Tariff.Name, .sl 7 (List.map GAr.cs x.Tariff.Articles),VI x.calendar.Offset, .sl 2 (List.map GCh.cs x.calendar.Changes), .sl 1 (List.map ci x.calendar.Holidays),VI x.from_,VI x.to_]
structure GSl where
 Minute:Int
 Energy:Int
deriving DecidableEq
def GSl.cs (x:GSl):List PV:=[VI x.Minute,VI x.Energy]
structure GSs where
 From:Int
 To:Int
 End:Int
 Slices:List GSl
deriving DecidableEq
def GSs.cs (x:GSs):List PV:=[VI x.From,VI x.To,VI x.End, .sl 2 (List.map GSl.cs x.Slices)]
structure GLine where
 Article:Int
 Amount:Int
deriving DecidableEq
def GLine.cs (x:GLine):List PV:=[VI x.Article,VI x.Amount]
structure GBill where
 Lines:List GLine
 Net:Int
 Tax:Int
 Total:Int
deriving DecidableEq
def GBill.cs (x:GBill):List PV:=[.sl 2 (List.map GLine.cs x.Lines),VI x.Net,VI x.Tax,VI x.Total]
structure GBB where
 article:GAr
 calendar:GCl
 session:GSs
deriving DecidableEq
def GBB.cs (x:GBB):List PV:=[VI x.article.Kind,VI x.article.Days,VI x.article.From,VI x.article.To,VI x.article.Price,VI x.article.Unit,VI x.article.Free,VI x.calendar.Offset, .sl 2 (List.map GCh.cs x.calendar.Changes), .sl 1 (List.map ci x.calendar.Holidays),VI x.session.From,VI x.session.To,VI x.session.End, .sl 2 (List.map GSl.cs x.session.Slices)]
structure GReading where
 Serial:Int
 Number:Int
 Minute:Int
 Register:Int
 Link:Int
deriving DecidableEq
def GReading.cs (x:GReading):List PV:=[VI x.Serial,VI x.Number,VI x.Minute,VI x.Register,VU x.Link]
structure GClaim where
 Tariff:GTf
 Calendar:GCl
 Readings:List GReading
 Seed:Int
 Session:GSs
 Bill:GBill
deriving DecidableEq
def GClaim.cs (x:GClaim):List PV:=[VS x.Tariff.Name, .sl 7 (List.map GAr.cs x.Tariff.Articles),VI x.Calendar.Offset, .sl 2 (List.map GCh.cs x.Calendar.Changes), .sl 1 (List.map ci x.Calendar.Holidays), .sl 5 (List.map GReading.cs x.Readings),VU x.Seed,VI x.Session.From,VI x.Session.To,VI x.Session.End, .sl 2 (List.map GSl.cs x.Session.Slices), .sl 2 (List.map GLine.cs x.Bill.Lines),VI x.Bill.Net,VI x.Bill.Tax,VI x.Bill.Total]
structure GAE where
 Claim:GClaim
 follows:GSs
 bill:GBill
 rate:Int
deriving DecidableEq
def GAE.cs (x:GAE):List PV:=[VS x.Claim.Tariff.Name, .sl 7 (List.map GAr.cs x.Claim.Tariff.Articles),VI x.Claim.Calendar.Offset, .sl 2 (List.map GCh.cs x.Claim.Calendar.Changes), .sl 1 (List.map ci x.Claim.Calendar.Holidays), .sl 5 (List.map GReading.cs x.Claim.Readings),VU x.Claim.Seed,VI x.Claim.Session.From,VI x.Claim.Session.To,VI x.Claim.Session.End, .sl 2 (List.map GSl.cs x.Claim.Session.Slices), .sl 2 (List.map GLine.cs x.Claim.Bill.Lines),VI x.Claim.Bill.Net,VI x.Claim.Bill.Tax,VI x.Claim.Bill.Total,VI x.follows.From,VI x.follows.To,VI x.follows.End, .sl 2 (List.map GSl.cs x.follows.Slices), .sl 2 (List.map GLine.cs x.bill.Lines),VI x.bill.Net,VI x.bill.Tax,VI x.bill.Total,VI x.rate]
def g_a_inside (n:Nat) (a0n:Int) (a1least:Int) (a2greatest:Int):Option Bool :=
 cond (leI a1least a0n)
  (some (leI a0n a2greatest))
  (some false)
def g_a_isKey (n:Nat) (a0w:List UInt8):Option Bool :=
 (cond (eqS a0w [102,101,101,100,101,114])
  (some (eqS a0w [102,101,101,100,101,114]))
  (cond (eqS a0w [99,97,98,108,101])
   (some (eqS a0w [99,97,98,108,101]))
   (cond (eqS a0w [111,119,110,101,114])
    (some (eqS a0w [111,119,110,101,114]))
    (cond (eqS a0w [99,111,110,116,114,97,99,116])
     (some (eqS a0w [99,111,110,116,114,97,99,116]))
     (cond (eqS a0w [99,104,97,114,103,101,114])
      (some (eqS a0w [99,104,97,114,103,101,114]))
      (cond (eqS a0w [98,97,121])
       (some (eqS a0w [98,97,121]))
       (some (eqS a0w [116,97,114,105,102,102])))))))).bind fun j1 =>
 cond j1
  (some true)
  ((cond (eqS a0w [108,105,109,105,116])
   (some (eqS a0w [108,105,109,105,116]))
   (cond (eqS a0w [110,101,117,116,114,97,108])
    (some (eqS a0w [110,101,117,116,114,97,108]))
    (cond (eqS a0w [102,117,115,101])
     (some (eqS a0w [102,117,115,101]))
     (cond (eqS a0w [116,104,101,114,109,97,108])
      (some (eqS a0w [116,104,101,114,109,97,108]))
      (cond (eqS a0w [102,114,111,109])
       (some (eqS a0w [102,114,111,109]))
       (cond (eqS a0w [97,116])
        (some (eqS a0w [97,116]))
        (cond (eqS a0w [112,104,97,115,101,115])
         (some (eqS a0w [112,104,97,115,101,115]))
         (cond (eqS a0w [97,109,112,115])
          (some (eqS a0w [97,109,112,115]))
          (cond (eqS a0w [102,97,108,108,98,97,99,107])
           (some (eqS a0w [102,97,108,108,98,97,99,107]))
           (cond (eqS a0w [99,97,114,100])
            (some (eqS a0w [99,97,114,100]))
            (some (eqS a0w [114,97,110,107])))))))))))).bind fun j2 =>
  cond j2
   (some true)
   ((cond (eqS a0w [115,116,97,114,116])
    (some (eqS a0w [115,116,97,114,116]))
    (cond (eqS a0w [101,110,101,114,103,121])
     (some (eqS a0w [101,110,101,114,103,121]))
     (cond (eqS a0w [116,105,109,101])
      (some (eqS a0w [116,105,109,101]))
      (cond (eqS a0w [105,100,108,101])
       (some (eqS a0w [105,100,108,101]))
       (cond (eqS a0w [99,97,112])
        (some (eqS a0w [99,97,112]))
        (some (eqS a0w [116,97,120]))))))).bind fun j3 =>
   cond j3
    (some true)
    ((cond (eqS a0w [111,110])
     (some (eqS a0w [111,110]))
     (cond (eqS a0w [119,111,114,107])
      (some (eqS a0w [119,111,114,107]))
      (cond (eqS a0w [115,97,116,117,114,100,97,121])
       (some (eqS a0w [115,97,116,117,114,100,97,121]))
       (cond (eqS a0w [115,117,110,100,97,121])
        (some (eqS a0w [115,117,110,100,97,121]))
        (cond (eqS a0w [98,101,116,119,101,101,110])
         (some (eqS a0w [98,101,116,119,101,101,110]))
         (cond (eqS a0w [112,101,114])
          (some (eqS a0w [112,101,114]))
          (some (eqS a0w [102,114,101,101])))))))).bind fun j4 =>
    cond j4
     (some true)
     (some false))))
def g_a_validArticle (n:Nat) (a0a:GAr):Option Bool :=
 ((g_a_inside n a0a.Kind 1 6).bind fun r2 =>
 cond (!r2)
  (some true)
  ((g_a_inside n a0a.Days 1 7).bind fun r4 =>
  some (!r4))).bind fun j1 =>
 cond j1
  (some false)
  (((g_a_inside n a0a.From 0 1439).bind fun r6 =>
  cond (!r6)
   (some true)
   (cond (leI a0a.To a0a.From)
    (some true)
    (some (ltI 1440 a0a.To)))).bind fun j5 =>
  cond j5
   (some false)
   ((cond (eqI a0a.From 0)
    (cond (eqI a0a.To 1440)
     (some (eqI a0a.Days 7))
     (some false))
    (some false)).bind fun j9 =>
   (cond (eqI a0a.Unit 0)
    (some (eqI a0a.Free 0))
    (some false)).bind fun j12 =>
   (g_a_inside n a0a.Price 0 1000000).bind fun r14 =>
   (cond (eqI a0a.Kind 3)
    (some (eqI a0a.Kind 3))
    (some (eqI a0a.Kind 4))).bind fun j15 =>
   cond j15
    ((cond r14
     ((g_a_inside n a0a.Unit 1 1440).bind fun r18 =>
     cond r18
      ((g_a_inside n a0a.Free 0 1440).bind fun r20 =>
      some r20)
      (some false))
     (some false)).bind fun j16 =>
    some j16)
    (cond (eqI a0a.Kind 5)
     ((cond r14
      (cond j12
       (some j9)
       (some false))
      (some false)).bind fun j21 =>
     some j21)
     (cond (eqI a0a.Kind 6)
      (((g_a_inside n a0a.Price 0 10000).bind fun r25 =>
      cond r25
       (cond j12
        (some j9)
        (some false))
       (some false)).bind fun j24 =>
      some j24)
      (cond r14
       (some j12)
       (some false))))))
structure GLs where
 from_:Int
 to_:Int
deriving DecidableEq
def GLs.cs (x:GLs):List PV:=[VI x.from_,VI x.to_]
end Go.Proofs
namespace Go.Proofs
open Go Go.Abs Go.ChangeShapes Go.WideShapes Go.ChangeAt Go.RowKit Go.Proofs.YtkgamjjfjekgnaaGreat
set_option maxRecDepth 100000
set_option linter.unusedVariables false
def GNode.wfd:Nat→GNode→Prop
 | 0,_=>False
 | d+1,x=>i64b x.Kind∧strb x.Name∧i64b x.N∧i64b x.At∧(List.length x.Kids≤maxLen∧∀ k ∈ x.Kids,∃ y:GNode,k=GNode.cs y∧GNode.wfd d y)
theorem GNode.wfd_succ:∀ (d:Nat) (x:GNode),GNode.wfd d x→GNode.wfd (d+1) x
 | 0,_,h=>h.elim
 | d+1,x,h=>by
  obtain ⟨h0,h1,h2,h3,h4⟩:=h
  exact ⟨h0,h1,h2,h3,⟨h4.1,fun k hk=>by obtain ⟨y,e,g⟩:=h4.2 k hk; exact ⟨y,e,GNode.wfd_succ d y g⟩⟩⟩
theorem sh_GNode:∀ (d:Nat) (cs:List PV),Sh Tryz.prog d 24 cs→∃ r:GNode,cs=GNode.cs r∧GNode.wfd d r
 | 0,_,h=>h.elim
 | 1,cs,h=>by
  have h:=sh_struct Tryz.underlying24 h
  obtain ⟨_,_,rfl,h0,_,_,rfl,h1,_,_,rfl,h2,_,_,rfl,h3,_,_,rfl,h4,rfl⟩:=h
  exact h0.elim
 | d+2,cs,h=>by
  have h:=sh_struct Tryz.underlying24 h
  obtain ⟨_,_,rfl,h0,_,_,rfl,h1,_,_,rfl,h2,_,_,rfl,h3,_,_,rfl,h4,rfl⟩:=h
  obtain ⟨x0,rfl,w0⟩:=sh_i64 Tryz.underlying3 h0
  obtain ⟨x1,rfl,w1⟩:=sh_str Tryz.underlying9 h1
  obtain ⟨x2,rfl,w2⟩:=sh_i64 Tryz.underlying3 h2
  obtain ⟨x3,rfl,w3⟩:=sh_i64 Tryz.underlying3 h3
  simp only [Sh,Tryz.underlying22] at h4
  obtain ⟨x4,rfl,w4,g4⟩:=h4
  refine ⟨⟨x0,x1,x2,x3,x4⟩,?_,w0,w1,w2,w3,w4,fun k hk=>?_⟩
  ·simp only [GNode.cs,map_idc,show Tryz.prog.cellsOf 24=5 from by kernel_rfl,List.cons_append,List.nil_append,List.append_nil]
  ·obtain ⟨y,e,g⟩:=sh_GNode d k (g4 k hk)
   exact ⟨y,e,GNode.wfd_succ d y g⟩
theorem sh_GNode_ex {d:Nat} {cs:List PV} (h:Sh Tryz.prog d 24 cs):∃ r:GNode,cs=GNode.cs r∧∃ d,GNode.wfd d r:=by
 obtain ⟨r,e,g⟩:=sh_GNode d cs h
 exact ⟨r,e,d,g⟩
def TariffErrorsPlain:Prop:=∀ (a0:GNode) (a1:Int) (a2:Int),(fun x=>∃ d,GNode.wfd d x) a0→u16b a1→u8b a2→∃ n,g_law32_TariffErrors n a0 a1 a2=some true
theorem tariffErrors_call (h:TariffErrorsPlain):∀ (D:Nat) xs,ArgsSh Tryz.prog (D+9) Tryz.f6.params.toList xs→PCall Tryz.prog 6 xs (.ret (.p (.val (.bool true)))):=by
 intro D xs ha
 rw [Tryz.params6] at ha
 obtain ⟨_,_,rfl,h0,_,_,rfl,h1,_,_,rfl,h2,rfl⟩:=ha
 obtain ⟨a0,rfl,w0⟩:=sh_GNode_ex h0
 obtain ⟨a1,rfl,w1⟩:=sh_u16 Tryz.underlying51 h1
 obtain ⟨a2,rfl,w2⟩:=sh_u8 Tryz.underlying5 h2
 obtain ⟨n,hn⟩:=h a0 a1 a2 w0 w1 w2
 simp only [avOf_struct Tryz.underlying24,avOf_int Tryz.underlying51,avOf_int Tryz.underlying5]
 exact g_law32_TariffErrors_ok n a0 a1 a2 true hn
set_option maxRecDepth 100000 in
theorem tariffErrors_lifted (h:TariffErrorsPlain) (os:Os) (started:os.Started) (H:Type) (enc:TypeId × Value→H) :
  ReturnsInHanded {} Tryz.checked os 6 .any (Rows.tariffErrorsSpec.pre6 enc Tryz.prog Tryz.f6 Rows.tariffErrorsRow.domain false) (Rows.tariffErrorsSpec.post enc Tryz.prog Tryz.f6 false true false false):=by
 refine returnsInHanded_of_change (C:=Tryz.checked) krf started krf Tryz.func6
  (ChangeSpec.witness6 (enc:=enc) (C:=Tryz.checked) false ⟨#[],#[.agg #[.int .i64 0, .string ⟨#[]⟩, .int .i64 0, .int .i64 0, .slice none 0 0], .int .u16 0, .int .u8 0],[]⟩ 8 krf krf krf krf) ?_
 intro W base args ds gs before hval hW _ _
 exact law_contractR (P:=Tryz.prog) (f:=6) (fn:=Tryz.f6) (s:=Rows.tariffErrorsSpec) (tb:=4) (TS:=[3,5,9,22,24,51]) krf krf krf krf krf Tryz.underlying4 rfl
  (fun ds hd=>by
   have hd:ds.length=3:=by rw [hd,show Tryz.f6.params.size=3 from by kernel_rfl]
   match ds,hd with
   | [d0,d1,d2],_=>rfl)
  (tariffErrors_call h) hval hW
theorem tariffErrors_said (h:TariffErrorsPlain):Rows.TariffErrorsSaid :=
 OpenClaim.holds_of_wide 6 Tryz.f6 rfl rfl rfl rfl rfl rfl rfl ⟨rfl,rfl,rfl,rfl,rfl⟩ rfl rfl rfl rfl rfl krf Tryz.func6 krf
  (of_decide_eq_true krf) (by unfold Func.isWrapper; first | (rw [if_pos (by decide +kernel)]; kernel_rfl) | (rw [if_neg (by decide +kernel)]; exact ⟨rfl,rfl⟩))
  (fun os started H enc _=>tariffErrors_lifted h os started H enc)
end Go.Proofs
namespace Go.Proofs
open Go Go.Abs
set_option maxRecDepth 100000
set_option linter.unusedVariables false
def Does {α:Type} (m:Option α) (Q:α→Prop):Prop:=∃ r,m=some r∧Q r
section
variable {α β V R E:Type}
theorem does_some {x:α} {Q:α→Prop} (h:Q x):Does (some x) Q:=⟨x,rfl,h⟩
theorem does_mono {m:Option α} {Q Q':α→Prop} (h:Does m Q) (hq:∀ x,Q x→Q' x):Does m Q':=by obtain ⟨x,e,h⟩:=h; exact ⟨x,e,hq x h⟩
theorem does_bind {m:Option α} {k:α→Option β} {Q:α→Prop} {Q':β→Prop} (h:Does m Q) (hk:∀ x,Q x→Does (k x) Q'):Does (m.bind k) Q':=by
 obtain ⟨x,rfl,h⟩:=h
 exact hk x h
theorem does_cond {b:Bool} {x y:Option α} {Q:α→Prop} (h1:b=true→Does x Q) (h2:b=false→Does y Q):Does (cond b x y) Q:=by
 cases b
 ·exact h2 rfl
 ·exact h1 rfl
theorem does_loop {B:(V→Option R)→V→Option R} {Q:V→R→Prop} (μ:V→Nat) (Inv:V→Prop)
  (hB:∀ rec v,Inv v→(∀ v',Inv v'→μ v' < μ v→Does (rec v') (Q v'))→Does (B rec v) (Q v)):∀ {n:Nat} {v:V},Inv v→μ v < n→Does (loopN B n v) (Q v)
 | 0,_,_,h=>absurd h (Nat.not_lt_zero _)
 | n+1,v,hv,h=>hB _ v hv (fun v' h1 h2=>does_loop μ Inv hB h1 (by omega))
end
theorem getI_nat {α:Type} {l:List α} {i:Nat}:getI l (i:Int)=l[i]?:=by
 unfold getI; rw [if_neg (by omega)]; simp
theorem wi_id {x:Int} (h1:-9223372036854775808≤x) (h2:x≤9223372036854775807):wi x=x:=by
 simp [wi,IntKind.wrap,IntKind.signed,IntKind.bits]; omega
theorem a_inside (n:Nat) (x a b:Int):g_a_inside n x a b=some (decide (a≤x∧x≤b)):=by
 unfold g_a_inside leI
 by_cases h:a≤x <;> simp [h]
def folB (a r:GReading):Bool:=if r.Serial=a.Serial then decide (a.Minute≤r.Minute∧a.Register≤r.Register) else decide (r.Minute=a.Minute)
def mixB (s x k:Int):Int:=wu ((bXor .u64 s (bAnd .u64 (shrI .u64 (wu x) k) 255)) * 1099511628211)
def mixW (s x:Int):Int:=[56,48,40,32,24,16,8,0].foldl (fun s k=>mixB s x k) s
def linkF (s:Int) (r:GReading):Int:=[r.Serial,r.Number,r.Minute,r.Register].foldl mixW s
def prevLink (seed:Int) (l:List GReading) (i:Nat):Int:=if i=0 then seed else ((l[i - 1]?).map (·.Link)).getD 0
def chainAt (seed:Int) (l:List GReading) (i:Nat):Prop:=∀ r ∈ l[i]?,(1≤r.Serial∧r.Serial≤1000000)∧r.Number=i+1∧(0≤r.Minute∧r.Minute≤52560000)∧(0≤r.Register∧r.Register≤1000000000) ∧
 (i ≠ 0→∀ a ∈ l[i - 1]?,folB a r=true)∧r.Link=linkF (prevLink seed l i) r
def chainOk (seed:Int) (l:List GReading):Prop:=(1≤l.length∧l.length≤64)∧∀ i,i < l.length→chainAt seed l i
end Go.Proofs
namespace Go.Proofs
open Go Go.Abs
set_option maxRecDepth 100000
set_option linter.unusedVariables false
theorem eqI_d (x y:Int):eqI x y=decide (x=y):=by unfold eqI; by_cases h:x=y <;> simp [h]
theorem cond_some {α:Type} {b:Bool} {x y:α}:cond b (some x) (some y)=some (cond b x y):=by cases b <;> rfl
def keyB (w:List UInt8):Bool:=(g_a_isKey 0 w).getD false
def artB (a:GAr):Bool:=(g_a_validArticle 0 a).getD false
def chrB (x:UInt8):Bool:=decide ((97≤b2i x∧b2i x≤122)∨(48≤b2i x∧b2i x≤57)∨b2i x=95)
def nameB (s:List UInt8):Bool:=decide (1≤s.length∧s.length≤12)&&decide (∀ x ∈ s.head?,97≤b2i x∧b2i x≤122)&&!keyB s&&s.all chrB
theorem loop_list {α R:Type} {l:List α} {B:(Int→Option R)→Int→Option R} {F:List α→R} (hlen:l.length≤4611686018427387904)
  (hend:∀ rec,B rec (l.length:Int)=some (F []))
  (hstep:∀ (rec:Int→Option R) (i:Nat) (x:α) (r:List α),l.drop i=x :: r→l[i]?=some x→i < l.length→wi ((i:Int)+1)=((i+1:Nat):Int)→(rec ((i+1:Nat):Int)=some (F r))→B rec (i:Int)=some (F (x :: r))) :
  ∀ {n:Nat} (i:Nat),i≤l.length→l.length - i < n→loopN B n (i:Int)=some (F (l.drop i))
 | 0,_,_,h=>absurd h (Nat.not_lt_zero _)
 | n+1,i,hi,h=>by
  unfold loopN
  by_cases he:i=l.length
  ·subst he; rw [hend]; simp
  ·have hlt:i < l.length:=by omega
   have hd:l.drop i=l[i] :: l.drop (i+1):=by rw [List.drop_eq_getElem_cons hlt]
   rw [hd]
   exact hstep _ i _ _ hd (by simp [hlt]) hlt (by rw [wi_id] <;> omega) (loop_list hlen hend hstep (i+1) (by omega) (by omega))
theorem chr_lem (c:Int):(bif decide (97≤c) then bif decide (c≤122) then false else bif decide (48≤c) then bif decide (c≤57) then false else !(c == 95) else !(c == 95)
  else bif decide (48≤c) then bif decide (c≤57) then false else !(c == 95) else !(c == 95))=!decide ((97≤c∧c≤122)∨(48≤c∧c≤57)∨c=95):=by
 by_cases h1:97≤c <;> by_cases h2:c≤122 <;> by_cases h3:48≤c <;> by_cases h4:c≤57 <;> by_cases h5:c=95 <;> simp [h1,h2,h3,h4,h5] <;> omega
theorem loop_gen {α R A V:Type} {l:List α} (S:A→Int→V) {B:(V→Option R)→V→Option R} {F:A→List α→R} (Inv:Nat→A→Prop) (hlen:l.length≤4611686018427387904)
  (hend:∀ rec a,Inv l.length a→B rec (S a (l.length:Int))=some (F a []))
  (hstep:∀ (rec:V→Option R) (a:A) (i:Nat) (x:α) (r:List α),Inv i a→l.drop i=x :: r→l[i]?=some x→i < l.length→wi ((i:Int)+1)=((i+1:Nat):Int)→(∀ a,Inv (i+1) a→rec (S a ((i+1:Nat):Int))=some (F a r))→B rec (S a (i:Int))=some (F a (x :: r))) :
  ∀ {n:Nat} (i:Nat) (a:A),Inv i a→i≤l.length→l.length - i < n→loopN B n (S a (i:Int))=some (F a (l.drop i))
 | 0,_,_,_,_,h=>absurd h (Nat.not_lt_zero _)
 | n+1,i,a,ha,hi,h=>by
  unfold loopN
  by_cases he:i=l.length
  ·subst he; rw [hend _ _ ha]; simp
  ·have hlt:i < l.length:=by omega
   have hd:l.drop i=l[i] :: l.drop (i+1):=by rw [List.drop_eq_getElem_cons hlt]
   rw [hd]
   exact hstep _ a i _ _ ha hd (by simp [hlt]) hlt (by rw [wi_id] <;> omega) (fun a ha=>loop_gen S Inv hlen hend hstep (i+1) a ha (by omega) (by omega))
def tarB:Int→List GAr→Bool
 | k,[]=>decide (k≤1)
 | k,a :: r=>artB a&&tarB (if a.Kind=6 then k+1 else k) r
end Go.Proofs
namespace Go.Proofs
open Go Go.Abs
set_option maxRecDepth 100000
set_option linter.unusedVariables false
theorem loop_does {α R A V:Type} {l:List α} (S:A→Int→V) {B:(V→Option R)→V→Option R} {Q:A→List α→R→Prop} (Inv:Nat→A→Prop) (hlen:l.length≤4611686018427387904)
  (hend:∀ rec a,Inv l.length a→Does (B rec (S a (l.length:Int))) (Q a []))
  (hstep:∀ (rec:V→Option R) (a:A) (i:Nat) (x:α) (r:List α),Inv i a→l.drop i=x :: r→l[i]?=some x→i < l.length→wi ((i:Int)+1)=((i+1:Nat):Int)→(∀ a,Inv (i+1) a→Does (rec (S a ((i+1:Nat):Int))) (Q a r))→Does (B rec (S a (i:Int))) (Q a (x :: r))) :
  ∀ {n:Nat} (i:Nat) (a:A),Inv i a→i≤l.length→l.length - i < n→Does (loopN B n (S a (i:Int))) (Q a (l.drop i))
 | 0,_,_,_,_,h=>absurd h (Nat.not_lt_zero _)
 | n+1,i,a,ha,hi,h=>by
  unfold loopN
  by_cases he:i=l.length
  ·subst he; simpa using hend _ _ ha
  ·have hlt:i < l.length:=by omega
   have hd:l.drop i=l[i] :: l.drop (i+1):=by rw [List.drop_eq_getElem_cons hlt]
   rw [hd]
   exact hstep _ a i _ _ ha hd (by simp [hlt]) hlt (by rw [wi_id] <;> omega) (fun a ha=>loop_does S Inv hlen hend hstep (i+1) a ha (by omega) (by omega))
end Go.Proofs
namespace Go.Proofs
open Go Go.Abs
set_option maxRecDepth 100000
set_option linter.unusedVariables false
theorem r_in (n:Nat) (l:List (List UInt8)) (s:List UInt8) (hn:1000≤n) (hl:l.length≤900):Does (g_ref02_In n l s) (fun r=>leI 0 r=l.contains s):=by
 unfold g_ref02_In
 have:=loop_does (l:=l) (fun (_:Unit) i=>i) (B:=fun recl1 l1=>g_ref02_In_l1 l s recl1 l1) (Q:=fun _ r x=>leI 0 x=r.contains s) (fun _ _=>True) (by omega) ?_ ?_ (n:=n) 0 () trivial (by omega) (by omega)
 ·exact this
 ·intro rec a _
  simp only [g_ref02_In_l1,lenI,List.length_map,ltI]
  rw [dzF (by omega),cond_false]
  exact does_some rfl
 ·intro rec a i x r _ hd hx hi hw hr
  simp only [g_ref02_In_l1,lenI,List.length_map,ltI,getI_nat,hx,obs,eqS]
  rw [dzT (by omega),cond_true]
  by_cases h:x=s
  ·subst h
   rw [beq_self_eq_true,cond_true]
   refine does_some ?_
   simp [leI]
  ·rw [show (x == s)=false from by simpa using h,cond_false,hw]
   refine does_mono (hr () trivial) (fun y hy=>?_)
   rw [hy,List.contains_cons,show (s == x)=false from by simpa using fun e=>h e.symm,Bool.false_or]
def keyL:List (List UInt8):=((g_ref02_Kinds 0).getD [])++(((g_ref02_Attrs 0).getD [])++(((g_ref02_Articles 0).getD [])++((g_ref02_Words 0).getD [])))
theorem cse (b c:Bool):(bif b then b else c)=(b||c):=by cases b <;> rfl
theorem cst (b c:Bool):(bif b then true else c)=(b||c):=by cases b <;> rfl
def keyA:List (List UInt8):=[[102,101,101,100,101,114],[99,97,98,108,101],[111,119,110,101,114],[99,111,110,116,114,97,99,116],[99,104,97,114,103,101,114],[98,97,121],[116,97,114,105,102,102],[108,105,109,105,116],[110,101,117,116,114,97,108],[102,117,115,101],[116,104,101,114,109,97,108],[102,114,111,109],[97,116],[112,104,97,115,101,115],[97,109,112,115],[102,97,108,108,98,97,99,107],[99,97,114,100],[114,97,110,107],[115,116,97,114,116],[101,110,101,114,103,121],[116,105,109,101],[105,100,108,101],[99,97,112],[116,97,120],[111,110],[119,111,114,107],[115,97,116,117,114,100,97,121],[115,117,110,100,97,121],[98,101,116,119,101,101,110],[112,101,114],[102,114,101,101]]
theorem keyB_any (s:List UInt8):keyB s=keyA.contains s:=by
 unfold keyB g_a_isKey keyA
 simp only [cond_some,obs,Option.getD_some,cse,cst,eqS,List.contains_cons,List.contains_nil,Bool.or_assoc,Bool.or_false]
theorem keyB_mem (s:List UInt8):keyB s=keyL.contains s:=by
 rw [keyB_any,Bool.eq_iff_iff,List.contains_iff_mem,List.contains_iff_mem]
 have h1:∀ x ∈ keyA,x ∈ keyL:=by decide
 have h2:∀ x ∈ keyL,x ∈ keyA:=by decide
 exact ⟨h1 s,h2 s⟩
theorem r_namej (n:Nat) (s:List UInt8) (hn:1000≤n):g_ref02_Name_j1 n s=some (decide (1≤s.length∧s.length≤12)&&!keyB s):=by
 unfold g_ref02_Name_j1 g_ref02_Kinds g_ref02_Attrs g_ref02_Articles g_ref02_Words
 simp only [obs]
 rw [keyB_mem]
 unfold keyL g_ref02_Kinds g_ref02_Attrs g_ref02_Articles g_ref02_Words
 simp only [Option.getD_some]
 have e:=fun (l:List (List UInt8)) (hl:l.length≤900)=>r_in n l s hn hl
 obtain ⟨r1,e1,h1⟩:=e [[102,101,101,100,101,114],[99,97,98,108,101],[111,119,110,101,114],[99,111,110,116,114,97,99,116],[99,104,97,114,103,101,114],[98,97,121],[116,97,114,105,102,102]] (by decide)
 obtain ⟨r2,e2,h2⟩:=e [[108,105,109,105,116],[110,101,117,116,114,97,108],[102,117,115,101],[116,104,101,114,109,97,108],[102,114,111,109],[97,116],[112,104,97,115,101,115],[97,109,112,115],[102,97,108,108,98,97,99,107],[111,119,110,101,114],[99,97,114,100],[114,97,110,107],[99,104,97,114,103,101,114]] (by decide)
 obtain ⟨r3,e3,h3⟩:=e [[115,116,97,114,116],[101,110,101,114,103,121],[116,105,109,101],[105,100,108,101],[99,97,112],[116,97,120]] (by decide)
 obtain ⟨r4,e4,h4⟩:=e [[111,110],[119,111,114,107],[115,97,116,117,114,100,97,121],[115,117,110,100,97,121],[98,101,116,119,101,101,110],[112,101,114],[102,114,101,101]] (by decide)
 rw [e1,obs,e2,obs,e3,obs,e4,obs,h1,h2,h3,h4]
 have ha:∀ (a b:List (List UInt8)),(a++b).contains s=(a.contains s||b.contains s):=by intro a b; simp
 rw [ha,ha,ha]
 simp only [cond_some,obs,leI,lenI,cst]
 generalize ((_:Bool)||_)=k
 by_cases c1:1≤s.length
 ·by_cases c2:s.length≤12
  ·rw [dzT (show (1:Int)≤s.length by omega),dzT (show (s.length:Int)≤12 by omega),dzT (show 1≤s.length∧s.length≤12 from ⟨c1,c2⟩)]; rfl
  ·rw [dzT (show (1:Int)≤s.length by omega),dzF (show ¬ (s.length:Int)≤12 by omega),dzF (show ¬ (1≤s.length∧s.length≤12) from fun h=>c2 h.2)]; rfl
 ·rw [dzF (show ¬ (1:Int)≤s.length by omega),dzF (show ¬ (1≤s.length∧s.length≤12) from fun h=>c1 h.1)]; rfl
theorem chr_ref (c:Int) (z:Bool):(bif decide (c < 97) then bif z then true else bif decide (c < 48) then !decide (c=95) else bif decide (57 < c) then !decide (c=95) else false
  else bif decide (122 < c) then bif z then true else bif decide (c < 48) then !decide (c=95) else bif decide (57 < c) then !decide (c=95) else false else false)=!(bif z then decide (97≤c∧c≤122) else decide ((97≤c∧c≤122)∨(48≤c∧c≤57)∨c=95)):=by
 cases z <;> by_cases h1:c < 97 <;> by_cases h2:122 < c <;> by_cases h3:c < 48 <;> by_cases h4:57 < c <;> by_cases h5:c=95 <;> simp [h1,h2,h3,h4,h5] <;> omega
theorem r_name (n:Nat) (s:List UInt8) (hn:1000≤n) (hl:s.length≤900):g_ref02_Name n s=some (nameB s):=by
 unfold g_ref02_Name
 have h1:∀ (rec:Int→Option Bool) (a:Unit),(1≤s.length∨s.length=0)→g_ref02_Name_l16 n s rec (s.length:Int)=some (([]:List UInt8).all chrB&&(decide (1≤s.length∧s.length≤12)&&!keyB s)):=by
  intro rec a ha
  simp only [g_ref02_Name_l16,lenI,ltI]
  rw [dzF (by omega),cond_false,r_namej n s hn]
  rfl
 have h2:∀ (rec:Int→Option Bool) (a:Unit) (i:Nat) (x:UInt8) (r:List UInt8),(1≤i∨s.length=0)→s.drop i=x :: r→s[i]?=some x→i < s.length→wi ((i:Int)+1)=((i+1:Nat):Int) →
   (∀ a:Unit,(1≤i+1∨s.length=0)→rec ((i+1:Nat):Int)=some (r.all chrB&&(decide (1≤s.length∧s.length≤12)&&!keyB s)))→g_ref02_Name_l16 n s rec (i:Int)=some ((x :: r).all chrB&&(decide (1≤s.length∧s.length≤12)&&!keyB s)):=by
  intro rec a i x r ha hd hx hi hw hr
  simp only [g_ref02_Name_l16,lenI,ltI,getI_nat,hx,obs,hw,cond_some,eqI_d,chr_ref]
  rw [dzT (by omega),cond_true,dzF (show ¬ (i:Int)=0 by omega),cond_false,hr () (Or.inl (by omega)),List.all_cons]
  show (bif !chrB x then some false else _)=_
  cases chrB x <;> rfl
 cases s with
 | nil =>
  have:=loop_gen (l:=[]) (fun (_:Unit) i=>i) (F:=fun _ r=>r.all chrB&&(decide (1≤([]:List UInt8).length∧([]:List UInt8).length≤12)&&!keyB [])) (fun i _=>1≤i∨([]:List UInt8).length=0) (by simp) h1 h2 (n:=n) 0 () (Or.inr rfl) (by simp) (by simp; omega)
  rw [show ((0:Nat):Int)=0 from rfl] at this
  rw [this]; rfl
 | cons x r =>
  obtain ⟨m,rfl⟩:∃ m,n=m+1:=⟨n - 1,by omega⟩
  have hs:=loop_gen (l:=x :: r) (fun (_:Unit) i=>i) (F:=fun _ q=>q.all chrB&&(decide (1≤(x :: r).length∧(x :: r).length≤12)&&!keyB (x :: r))) (fun i _=>1≤i∨(x :: r).length=0) (by omega) h1 h2 (n:=m) 1 () (Or.inl (Nat.le_refl _)) (by simp) (by simp at hl ⊢; omega)
  rw [show ((1:Nat):Int)=1 from rfl] at hs
  unfold loopN
  show g_ref02_Name_l16 (m+1) (x :: r) (loopN (g_ref02_Name_l16 (m+1) (x :: r)) m) 0=_
  generalize loopN (g_ref02_Name_l16 (m+1) (x :: r)) m=L at hs ⊢
  unfold g_ref02_Name_l16
  rw [show getI (x :: r) 0=some x from rfl]
  simp only [lenI,ltI,obs,cond_some,eqI_d,chr_ref,show wi (0+1)=1 from rfl]
  rw [hs,dzT (show (0:Int) < ((x :: r).length:Nat) by simp),cond_true,decide_true,cond_true]
  unfold nameB
  simp only [List.head?_cons,Option.mem_def,sie,forall_eq',List.drop_succ_cons,List.drop_zero,List.all_cons]
  by_cases hx:97≤b2i x∧b2i x≤122
  ·rw [dzT hx]
   have:chrB x=true:=by unfold chrB; rw [dzT]; exact Or.inl hx
   rw [this]
   cases decide (1≤(x :: r).length∧(x :: r).length≤12) <;> cases keyB (x :: r) <;> cases r.all chrB <;> rfl
  ·rw [dzF hx]
   cases decide (1≤(x :: r).length∧(x :: r).length≤12) <;> rfl
theorem r_article (n:Nat) (a:GAr):g_ref32_Article n a=some (artB a):=by
 unfold g_ref32_Article artB g_a_validArticle
 simp only [a_inside,cond_some,obs,Option.getD_some,eqI_d,ltI,leI]
 rw [sie,Bool.eq_iff_iff]
 obtain ⟨k,d,f,t,p,u,v⟩:=a
 simp only [Bool.cond_eq_ite]
 by_cases k1:k=1
 ·subst k1; simp; omega
 by_cases k2:k=2
 ·subst k2; simp; omega
 by_cases k3:k=3
 ·subst k3; simp; omega
 by_cases k4:k=4
 ·subst k4; simp; omega
 by_cases k5:k=5
 ·subst k5; simp; omega
 by_cases k6:k=6
 ·subst k6; simp; omega
 simp [k1,k2,k3,k4,k5,k6]
 omega
end Go.Proofs
namespace Go.Proofs
open Go Go.Abs
set_option maxRecDepth 100000
set_option linter.unusedVariables false
structure Art (a:GAr):Prop where
 days:1≤a.Days∧a.Days≤7
 from_:0≤a.From∧a.From≤1439
 to_:a.From < a.To∧a.To≤1440
 price:0≤a.Price∧a.Price≤1000000
 kind:1≤a.Kind∧a.Kind≤6
 unit:a.Kind=3∨a.Kind=4→1≤a.Unit∧a.Unit≤1440∧0≤a.Free∧a.Free≤1440
 rate:a.Kind=6→a.Price≤10000
theorem artB_art {a:GAr} (h:artB a=true):Art a:=by
 unfold artB g_a_validArticle at h
 simp only [a_inside,cond_some,obs,Option.getD_some,eqI_d,ltI,leI] at h
 obtain ⟨k,d,f,t,p,u,v⟩:=a
 simp only [Bool.cond_eq_ite] at h
 by_cases k1:k=1
 ·subst k1; simp at h; constructor <;> simp <;> omega
 by_cases k2:k=2
 ·subst k2; simp at h; constructor <;> simp <;> omega
 by_cases k3:k=3
 ·subst k3; simp at h; constructor <;> simp <;> omega
 by_cases k4:k=4
 ·subst k4; simp at h; constructor <;> simp <;> omega
 by_cases k5:k=5
 ·subst k5; simp at h; constructor <;> simp <;> omega
 by_cases k6:k=6
 ·subst k6; simp at h; constructor <;> simp <;> omega
 exfalso
 simp [k3,k4,k5,k6] at h
 omega
end Go.Proofs
namespace Go.Proofs
open Go Go.Abs
set_option maxRecDepth 100000
set_option linter.unusedVariables false
theorem b_goodWord (n:Nat) (s:List UInt8) (hn:1000≤n):g_p_goodWord n s=some (decide (1≤s.length∧s.length≤12)&&decide (∀ x ∈ s.head?,97≤b2i x∧b2i x≤122)&&s.all chrB):=by
 unfold g_p_goodWord
 simp only [lenI,ltI]
 cases s with
 | nil=>simp
 | cons x r =>
  rw [dzF (show ¬ (((x :: r).length:Nat):Int) < 1 by simp only [List.length_cons]; omega),cond_false]
  by_cases hl:(x :: r).length≤12
  rotate_left
  ·rw [dzT (show (12:Int) < (((x :: r).length:Nat):Int) by omega),dzF (show ¬ (1≤(x :: r).length∧(x :: r).length≤12) by omega)]; rfl
  rw [dzF (show ¬ (12:Int) < (((x :: r).length:Nat):Int) by omega),cond_false,dzT (show 1≤(x :: r).length∧(x :: r).length≤12 by simp only [List.length_cons] at hl ⊢; omega)]
  rw [show getI (x :: r) 0=some x from rfl]
  have hloop:loopN (fun recl7 l7=>g_p_goodWord_l7 (x :: r) recl7 l7) n 1=some (r.all chrB):=by
   have:=loop_list (l:=x :: r) (B:=fun recl7 l7=>g_p_goodWord_l7 (x :: r) recl7 l7) (F:=fun r=>r.all chrB) (by omega) ?_ ?_ (n:=n) 1 (by simp) (by omega)
   ·simpa using this
   ·intro rec; simp [g_p_goodWord_l7,ltI,lenI]
   ·intro rec i y q hd hx hi hw hr
    unfold g_p_goodWord_l7
    simp only [lenI,getI_nat,hx,obs,hw,hr,ltI,leI,eqI,cond_some]
    rw [dzT (by omega),cond_true,List.all_cons]
    rw [chr_lem,chrB]
    cases decide ((97≤b2i y∧b2i y≤122)∨(48≤b2i y∧b2i y≤57)∨b2i y=95) <;> simp
  rw [hloop]
  simp only [obs,cond_some,List.head?_cons,Option.mem_def,sie,forall_eq',Bool.true_and,List.all_cons]
  by_cases h1:b2i x < 97
  ·rw [dzT h1,dzF (show ¬ (97≤b2i x∧b2i x≤122) by omega)]; rfl
  ·rw [dzF h1,cond_false]
   by_cases h2:122 < b2i x
   ·rw [dzT h2,dzF (show ¬ (97≤b2i x∧b2i x≤122) by omega)]; rfl
   ·have h3:97≤b2i x∧b2i x≤122:=by omega
    have h4:chrB x=true:=by unfold chrB; rw [dzT]; exact Or.inl h3
    rw [dzF h2,dzT h3,h4]; rfl
theorem cnz (b:Bool) (k r:Int) (hk:k ≠ 0):(!eqI (bif b then k else r) 0)=(b||!eqI r 0):=by
 cases b
 ·rfl
 ·simp [eqI,hk]
theorem b_isKey (n:Nat) (s:List UInt8):g_p_isKey n s=some (keyB s):=by
 unfold g_p_isKey g_p_kindOf g_p_isAttr g_p_isArticle g_p_isWord
 rw [keyB_mem]
 simp only [cond_some,obs,cse,cst,keyL,g_ref02_Kinds,g_ref02_Attrs,g_ref02_Articles,g_ref02_Words,Option.getD_some,List.cons_append,List.nil_append,List.contains_cons,List.contains_nil,Bool.or_false,eqS]
 rw [cnz _ 1 _ (by decide),cnz _ 2 _ (by decide),cnz _ 3 _ (by decide),cnz _ 4 _ (by decide),cnz _ 5 _ (by decide),cnz _ 6 _ (by decide),cnz _ 7 _ (by decide),show (!eqI 0 0)=false from rfl]
 simp only [Bool.or_assoc,Bool.or_false]
theorem b_goodName (n:Nat) (s:List UInt8) (hn:1000≤n):g_p_goodName n s=some (nameB s):=by
 unfold g_p_goodName nameB
 rw [b_goodWord n s hn,obs,b_isKey,obs,cond_some]
 generalize decide (1≤s.length∧s.length≤12)=a
 generalize decide (∀ x ∈ s.head?,97≤b2i x∧b2i x≤122)=b
 generalize s.all chrB=c
 generalize keyB s=d
 cases a <;> cases b <;> cases c <;> cases d <;> rfl
theorem of_cs' (k:Int) (s:List UInt8) (m t:Int) (l:List (List PV)):GNode.of (GNode.cs ⟨k,s,m,t,l⟩)=some ⟨k,s,m,t,l⟩:=by
 unfold GNode.cs GNode.of
 simp only [map_idc,byt_mkS,if_true]
theorem b_inside (n:Nat) (x a b:Int):g_t_inside n x a b=some (decide (a≤x∧x≤b)):=by
 unfold g_t_inside leI
 by_cases h:a≤x <;> simp [h]
theorem b_article (n:Nat) (a:GAr):g_t_validArticle n a=some (artB a):=by
 have bad:¬ Art a→some false=some (artB a):=by
  intro h
  cases hb:artB a
  ·rfl
  ·exact absurd (artB_art hb) h
 unfold g_t_validArticle g_t_isWhole g_t_isTime
 simp only [b_inside,obs]
 by_cases c2:1≤a.Kind∧a.Kind≤6
 rotate_left
 ·rw [dzF c2]; exact bad (fun h=>c2 h.kind)
 rw [dzT c2]
 by_cases c4:0≤a.From∧a.From≤1439
 rotate_left
 ·rw [dzF c4]; exact bad (fun h=>c4 h.from_)
 rw [dzT c4,wi_id (x:=a.From+1) (by omega) (by omega)]
 by_cases c6:a.From+1≤a.To∧a.To≤1440
 rotate_left
 ·rw [dzF c6]; exact bad (fun h=>by have:=h.to_; omega)
 rw [dzT c6]
 by_cases c8:1≤a.Days∧a.Days≤7
 rotate_left
 ·rw [dzF c8]; exact bad (fun h=>c8 h.days)
 rw [dzT c8]
 unfold artB g_a_validArticle
 simp only [a_inside,cond_some,obs,Option.getD_some,eqI_d,Bool.not_true,cond_false]
 rw [sie,Bool.eq_iff_iff]
 obtain ⟨k,d,f,t,p,u,v⟩:=a
 simp only at c2 c4 c6 c8
 simp only [Bool.cond_eq_ite]
 have hk:k=1∨k=2∨k=3∨k=4∨k=5∨k=6:=by omega
 rcases hk with rfl | rfl | rfl | rfl | rfl | rfl <;> simp [leI,ltI] <;> omega
end Go.Proofs
namespace Go.Proofs
open Go Go.Abs
theorem head32_big:g_law32_head 36893488147419103232=some true:=by kernel_rfl
end Go.Proofs
namespace Go.Proofs
open Go Go.Abs
set_option maxRecDepth 100000
set_option linter.unusedVariables false
theorem opq_d (b:Bool):opq b=b:=rfl
theorem loopN_s {V R:Type} (B:(V→Option R)→V→Option R) (n:Nat) (v:V):loopN B (n+1) v=B (loopN B n) v:=rfl
end Go.Proofs
namespace Go.Proofs
open Go Go.Abs
set_option maxRecDepth 100000
set_option linter.unusedVariables false
def perW:List UInt8:=[112,101,114]
def freeW:List UInt8:=[102,114,101,101]
def onW:List UInt8:=[111,110]
def betW:List UInt8:=[98,101,116,119,101,101,110]
def N0:Nat:=36893488147419103232
end Go.Proofs
namespace Go.Proofs
open Go Go.Abs
set_option maxRecDepth 100000
set_option linter.unusedVariables false
theorem same_loop (a:GTf) (hl:a.Articles.length≤900):∀ (m i n:Nat),i+m=a.Articles.length→m < n→loopN (fun recl3 (l3:Int)=>g_ref32_Same_l3 a a recl3 l3) n (i:Int)=some true
 | 0,i,n,h1,h2=>by
  obtain ⟨n,rfl⟩:∃ q,n=q+1:=⟨n - 1,by omega⟩
  rw [loopN_s]
  unfold g_ref32_Same_l3
  rw [show ltI (i:Int) (lenI (List.map GAr.cs a.Articles))=false from ltI_f (by simp only [lenI,List.length_map]; omega),cond_false]
 | m+1,i,n,h1,h2=>by
  obtain ⟨n,rfl⟩:∃ q,n=q+1:=⟨n - 1,by omega⟩
  have hrec:=same_loop a hl m (i+1) n (by omega) (by omega)
  rw [loopN_s]
  generalize loopN (fun recl3 (l3:Int)=>g_ref32_Same_l3 a a recl3 l3) n=rec at hrec ⊢
  unfold g_ref32_Same_l3
  have hx:a.Articles[i]?=some (a.Articles[i]'(by omega)):=List.getElem?_eq_getElem (by omega)
  rw [show ltI (i:Int) (lenI (List.map GAr.cs a.Articles))=true from ltI_t (by simp only [lenI,List.length_map]; omega),cond_true,getI_nat,hx]
  simp only [obs,eqI_d,decide_true,Bool.and_self,opq_d,Bool.not_true,cond_false]
  rw [wi_id (x:=(i:Int)+1) (by omega) (by omega)]
  exact hrec
theorem same32 (n:Nat) (a:GTf) (hn:1000≤n) (hl:a.Articles.length≤900):g_ref32_Same n a a=some true:=by
 have:=same_loop a hl a.Articles.length 0 n (by omega) (by omega)
 unfold g_ref32_Same
 rw [show eqS a.Name a.Name=true from by simp [eqS],eqI_d,dzT rfl]
 simp only [Bool.not_true,cond_false,obs]
 exact this
end Go.Proofs
namespace Go.Proofs
open Go Go.Abs
set_option maxRecDepth 100000
set_option linter.unusedVariables false
def treeD:Nat→GNode→Prop
 | 0,_=>False
 | d+1,x=>(-9223372036854775808≤x.Kind∧x.Kind≤9223372036854775807)∧(-9223372036854775808≤x.N∧x.N≤9223372036854775807)∧(-9223372036854775808≤x.At∧x.At≤9223372036854775807)∧x.Name.length≤maxLen∧x.Kids.length≤maxLen∧∀ k ∈ x.Kids,∃ y,GNode.of k=some y∧treeD d y
def kidsD (d:Nat) (l:List (List PV)):Prop:=∀ k ∈ l,∃ y,GNode.of k=some y∧treeD d y
theorem tree_kids {d:Nat} {x:GNode} (h:treeD d x):∃ e,d=e+1∧x.Kids.length≤9223372036854775807∧x.Name.length≤9223372036854775807∧kidsD e x.Kids:=by
 cases d with
 | zero=>exact h.elim
 | succ e=>exact ⟨e,rfl,by have:=h.2.2.2.2.1; simpa [maxLen] using this,by have:=h.2.2.2.1; simpa [maxLen] using this,h.2.2.2.2.2⟩
theorem kid_at {d:Nat} {l:List (List PV)} (h:kidsD d l) {i:Nat} (hi:i < l.length):∃ y,Option.bind (getI l (i:Int)) GNode.of=some y∧treeD d y∧(l.drop i=l[i]'hi :: l.drop (i+1)∧GNode.of (l[i]'hi)=some y):=by
 obtain ⟨y,e,t⟩:=h (l[i]'hi) (List.getElem_mem hi)
 refine ⟨y,?_,t,List.drop_eq_getElem_cons hi,e⟩
 rw [getI_nat,List.getElem?_eq_getElem hi]
 exact e
def Tot {α:Type} (m:Option α):Prop:=Does m fun _=>True
theorem tot_some {α:Type} (x:α):Tot (some x):=⟨x,rfl,trivial⟩
theorem tot_cond {α:Type} {b:Bool} {x y:Option α} (h1:b=true→Tot x) (h2:b=false→Tot y):Tot (cond b x y):=does_cond h1 h2
theorem tot_bind {α β:Type} {m:Option α} {k:α→Option β} (h:Tot m) (hk:∀ x,Tot (k x)):Tot (m.bind k):=does_bind h fun x _=>hk x
theorem tot_idx {R:Type} {B:(Int→Option R)→Int→Option R} {L:Nat} (hL:L≤9223372036854775807)
  (hB:∀ (rec:Int→Option R) (i:Nat),i≤L→(i < L→wi ((i:Int)+1)=((i+1:Nat):Int)∧Tot (rec ((i+1:Nat):Int)))→Tot (B rec (i:Int))) :
  ∀ {n:Nat} (i:Nat),i≤L→L - i < n→Tot (loopN B n (i:Int))
 | 0,_,_,h=>absurd h (Nat.not_lt_zero _)
 | n+1,i,hi,h=>hB _ i hi fun h1=>⟨by rw [wi_id (by omega) (by omega)]; omega,tot_idx hL hB (i+1) (by omega) (by omega)⟩
theorem count_tot:∀ (m n d:Nat) (x:GNode) (most:Int),treeD d x→0≤most→most≤m→m≤1000000→m+3≤n→Does (g_ref02_Count n x most) (fun r=>1≤r∧r≤most+1):=by
 intro m
 induction m with
 | zero =>
  intro n d x most ht h0 h1 h2 h3
  obtain ⟨n,rfl⟩:∃ q,n=q+1+1:=⟨n - 2,by omega⟩
  obtain rfl:most=0:=by omega
  refine ⟨1,?_,by omega,by omega⟩
  unfold g_ref02_Count g_ref02_Count_body
  rw [loopN_s]
  unfold g_ref02_Count_l1
  simp only [show leI 1 0=false from rfl,cond_some,obs]
  cases ltI 0 (lenI (List.map idc x.Kids)) <;> rfl
 | succ m ih =>
  intro n d x most ht h0 h1 h2 h3
  obtain ⟨n,rfl⟩:∃ q,n=q+1:=⟨n - 1,by omega⟩
  obtain ⟨e,rfl,hl,_,hk⟩:=tree_kids ht
  unfold g_ref02_Count g_ref02_Count_body
  refine does_loop (Q:=fun _ r=>1≤r∧r≤most+1) (fun v=>(most+1 - v.1).toNat) (fun v=>1≤v.1∧v.1≤most+1∧∃ i:Nat,v.2=(i:Int)∧i≤x.Kids.length) ?_ ⟨by omega,by omega,0,rfl,by omega⟩ (by simp only; omega)
  rintro rec ⟨many,idx⟩ ⟨g1,g2,i,hi,hil⟩ hrec
  simp only at g1 g2 hi hrec ⊢
  subst hi
  unfold g_ref02_Count_l1
  simp only [lenI,List.length_map,ltI,leI]
  by_cases c1:i < x.Kids.length
  rotate_left
  ·rw [dzF (by omega)]
   exact does_some ⟨g1,g2⟩
  rw [dzT (by omega)]
  by_cases c2:many≤most
  rotate_left
  ·rw [dzF c2]
   exact does_some ⟨g1,g2⟩
  rw [dzT c2]
  obtain ⟨y,hy,hty,_⟩:=kid_at hk c1
  simp only [cond_true,obs]
  rw [hy,obs,wi_id (x:=most - many) (by omega) (by omega)]
  refine does_bind (ih n e y (most - many) hty (by omega) (by omega) (by omega) (by omega)) ?_
  rintro r ⟨r1,r2⟩
  rw [wi_id (x:=many+r) (by omega) (by omega),wi_id (x:=(i:Int)+1) (by omega) (by omega)]
  exact hrec (many+r,(i:Int)+1) ⟨by simp only; omega,by simp only; omega,i+1,by simp,c1⟩ (by simp only; omega)
theorem names_tot:∀ (m n d:Nat) (x:GNode) (depth:Int),treeD d x→0≤depth→depth≤m→m≤1000→m+9223372036854775810≤n→Tot (g_ref02_names n x depth):=by
 intro m
 induction m with
 | zero =>
  intro n d x depth ht h0 h1 h2 h3
  obtain ⟨n,rfl⟩:∃ q,n=q+1:=⟨n - 1,by omega⟩
  obtain rfl:depth=0:=by omega
  exact ⟨false,rfl,trivial⟩
 | succ m ih =>
  intro n d x depth ht h0 h1 h2 h3
  obtain ⟨n,rfl⟩:∃ q,n=q+1:=⟨n - 1,by omega⟩
  by_cases c0:depth=0
  ·subst c0
   exact ⟨false,rfl,trivial⟩
  obtain ⟨e,rfl,hl,_,hk⟩:=tree_kids ht
  unfold g_ref02_names g_ref02_names_body
  refine tot_bind (tot_cond (fun _=>tot_some _) (fun _=>tot_some _)) fun j1=>tot_cond (fun _=>tot_some _) fun _=>?_
  refine tot_idx (L:=x.Kids.length) hl (fun rec i hi hr=>?_) 0 (by omega) (by omega)
  unfold g_ref02_names_l3
  simp only [lenI,List.length_map,ltI]
  by_cases c1:i < x.Kids.length
  rotate_left
  ·rw [dzF (by omega)]; exact tot_some _
  rw [dzT (by omega),cond_true]
  obtain ⟨y,hy,hty,_⟩:=kid_at hk c1
  obtain ⟨w1,w2⟩:=hr c1
  rw [hy,obs,wi_id (x:=depth - 1) (by omega) (by omega),w1]
  exact tot_bind (ih n e y (depth - 1) hty (by omega) (by omega) (by omega) (by omega)) fun r=>tot_cond (fun _=>tot_some _) fun _=>w2
end Go.Proofs
namespace Go.Proofs
open Go Go.Abs
set_option maxRecDepth 100000
set_option linter.unusedVariables false
theorem drop1 (l:List (List PV)):List.drop (Int.toNat 1) (List.take (Int.toNat (lenI (List.map idc l))) l)=l.drop 1:=by
 simp only [lenI,List.length_map,show Int.toNat 1=1 from rfl,Int.toNat_natCast,List.take_length]
theorem slice1 {l:List (List PV)} (h:l ≠ []):sliceB3 1 (lenI (List.map idc l)) (lenI (List.map idc l)) (List.length l)=true:=by
 have:0 < l.length:=List.length_pos_iff.2 h
 unfold sliceB3 lenI
 rw [List.length_map]
 exact dzT (by omega)
theorem kidsD_drop {e:Nat} {l:List (List PV)} (h:kidsD e l):kidsD e (l.drop 1):=fun k hk=>h k (List.mem_of_mem_drop hk)
theorem kid0 {e:Nat} {l:List (List PV)} (h:kidsD e l) (h0:l ≠ []):∃ y,Option.bind (getI l 0) GNode.of=some y:=by
 obtain ⟨y,hy,_⟩:=kid_at (i:=0) h (List.length_pos_iff.2 h0)
 exact ⟨y,hy⟩
theorem len0 (l:List (List PV)):eqI (lenI (List.map idc l)) 0=decide (l=[]):=by
 rw [eqI_d,lenI,List.length_map]
 cases l
 ·rfl
 ·rw [dzF (by simp only [List.length_cons]; omega),dzF (by intro h; cases h)]
theorem number_tot {n e:Nat} {r:GTr} (h:kidsD e r.values):Does (g_t_reader_number n r) (fun q=>kidsD e q.2.values∧q.2.values.length≤r.values.length):=by
 unfold g_t_reader_number
 rw [len0]
 by_cases h0:r.values=[]
 ·rw [dzT h0]
  exact does_some ⟨h,Nat.le_refl _⟩
 rw [dzF h0]
 obtain ⟨y,hy⟩:=kid0 h h0
 rw [hy,slice1 h0,drop1]
 simp only [obs,cond_true,cond_false]
 exact does_cond (fun _=>does_some ⟨h,Nat.le_refl _⟩) fun _=>does_some ⟨kidsD_drop h,by simp⟩
theorem word_tot {n e:Nat} {r:GTr} (h:kidsD e r.values):Does (g_t_reader_word n r) (fun s=>s ≠ []→r.values ≠ []):=by
 unfold g_t_reader_word
 rw [len0]
 by_cases h0:r.values=[]
 ·rw [dzT h0]
  exact does_some fun h=>absurd rfl h
 rw [dzF h0]
 obtain ⟨y,hy⟩:=kid0 h h0
 rw [hy]
 simp only [obs,cond_false]
 exact does_cond (fun _=>does_some fun _=>h0) fun _=>does_some fun _=>h0
theorem day_tot (n:Nat) (s:List UInt8):Does (g_t_dayOf n s) (fun v=>v ≠ 0→s ≠ []):=by
 unfold g_t_dayOf
 simp only [cond_some]
 refine does_some fun h h0=>h ?_
 subst h0
 rfl
theorem dayw_tot {n e:Nat} {r:GTr} (h:kidsD e r.values) {β:Type} {k:Int→Option β} {Q:β→Prop} (hk:∀ v,(v ≠ 0→r.values ≠ [])→Does (k v) Q):Does ((g_t_reader_word n r).bind fun r2=>(g_t_dayOf n r2).bind fun r3=>k r3) Q :=
 does_bind (word_tot h) fun s hs=>does_bind (day_tot n s) fun v hv=>hk v fun h=>hs (hv h)
theorem days_tot {n e:Nat} {r:GTr} (h:kidsD e r.values) (hn:r.values.length < n):Does (g_t_reader_days n r) (fun q=>kidsD e q.2.values∧q.2.values.length≤r.values.length):=by
 unfold g_t_reader_days
 refine does_bind (Q:=fun q=>kidsD e q.2.1∧q.2.1.length≤r.values.length) ?_ ?_
 ·refine dayw_tot h fun v hv=>?_
  have:=does_loop (n:=n) (v:=((0:Int),v,r.values,r.good)) (B:=fun recl4 (v:Int × Int × (List (List PV)) × Bool)=>g_t_reader_days_l4 n r recl4 v.1 v.2.1 v.2.2.1 v.2.2.2) (Q:=fun v q=>kidsD e q.2.1∧q.2.1.length≤r.values.length) (fun v=>v.2.2.1.length) (fun v=>kidsD e v.2.2.1∧v.2.2.1.length≤r.values.length∧(v.2.1 ≠ 0→v.2.2.1 ≠ [])) ?_ ⟨h,Nat.le_refl _,hv⟩ hn
  ·exact this
  rintro rec ⟨bits,bit,vs,g⟩ ⟨g1,g2,g3⟩ hrec
  simp only at g1 g2 g3 hrec ⊢
  unfold g_t_reader_days_l4
  refine does_cond (fun hb=>?_) fun _=>does_some ⟨g1,g2⟩
  have hb':bit ≠ 0:=by simpa [eqI_d] using hb
  have hne:=g3 hb'
  have hpos:0 < vs.length:=List.length_pos_iff.2 hne
  rw [slice1 hne,drop1]
  refine does_bind (Q:=fun _=>True) (does_cond (fun _=>does_some trivial) fun _=>does_some trivial) fun j _=>?_
  rw [cond_true]
  refine dayw_tot (r:=⟨r.article,vs.drop 1,j⟩) (kidsD_drop g1) fun v hv=>?_
  exact hrec (bOr .i64 bits bit,v,vs.drop 1,j) ⟨kidsD_drop g1,by simp only [List.length_drop]; omega,hv⟩ (by simp only [List.length_drop]; omega)
 ·rintro ⟨b,vs,g⟩ ⟨q1,q2⟩
  exact does_cond (fun _=>does_some ⟨q1,q2⟩) fun _=>does_some ⟨q1,q2⟩
theorem read_tot {n d:Nat} {x:GNode} (ht:treeD d x) (hn:9223372036854776000≤n):Tot (g_t_read n x):=by
 obtain ⟨e,rfl,hl,_,hk⟩:=tree_kids ht
 unfold g_t_read g_t_kindOf g_t_isTime g_t_isWhole
 simp only [cond_some,obs]
 refine does_bind (number_tot (e:=e) (n:=n) hk) ?_
 rintro ⟨v,a,vs,g⟩ ⟨q1,q2⟩
 simp only at q1 q2 ⊢
 refine does_loop (Q:=fun _ _=>True) (fun v=>v.2.2.2.2.2.2.2.2.1.length) (fun v=>kidsD e v.2.2.2.2.2.2.2.2.1∧v.2.2.2.2.2.2.2.2.1.length≤x.Kids.length) ?_ ⟨q1,q2⟩ (by simp only; omega)
 clear q1 q2
 rintro rec ⟨l1,l2,l3,l4,l5,l6,l7,l8,vs,g,m1,m2,m3,m4⟩ ⟨q1,q2⟩ hrec
 simp only at q1 q2 hrec ⊢
 unfold g_t_read_l11
 simp only [cond_some,obs]
 refine does_cond (fun hc=>?_) fun _=>?_
 rotate_left
 ·unfold g_t_read_j8
  simp only [cond_some]
  exact does_some trivial
 have hne:vs ≠ []:=by
  rintro rfl
  cases g
  ·cases hc
  ·simp [lenI,ltI] at hc
 have hpos:0 < vs.length:=List.length_pos_iff.2 hne
 rw [slice1 hne,drop1]
 refine does_bind (word_tot (r:=⟨⟨l2,l3,l4,l5,l6,l7,l8⟩,vs,g⟩) q1) fun w _=>?_
 have hd:(vs.drop 1).length < vs.length:=by rw [List.length_drop]; omega
 have hq:=kidsD_drop q1
 simp only [cond_true]
 refine does_cond (fun _=>?_) fun _=>does_cond (fun _=>?_) fun _=>does_cond (fun _=>?_) fun _=>does_cond (fun _=>?_) fun _=>does_some trivial
 ·refine does_bind (number_tot (n:=n) (r:=⟨⟨l2,l3,l4,l5,l6,l7,l8⟩,vs.drop 1,g⟩) hq) ?_
  rintro ⟨v,a,vs',g'⟩ ⟨p1,p2⟩
  simp only at p1 p2 ⊢
  exact hrec _ ⟨p1,by simp only; omega⟩ (by simp only; omega)
 ·refine does_bind (number_tot (n:=n) (r:=⟨⟨l2,l3,l4,l5,l6,l7,l8⟩,vs.drop 1,g⟩) hq) ?_
  rintro ⟨v,a,vs',g'⟩ ⟨p1,p2⟩
  simp only at p1 p2 ⊢
  exact hrec _ ⟨p1,by simp only; omega⟩ (by simp only; omega)
 ·refine does_bind (days_tot (n:=n) (r:=⟨⟨l2,l3,l4,l5,l6,l7,l8⟩,vs.drop 1,g⟩) hq (by simp only; omega)) ?_
  rintro ⟨v,a,vs',g'⟩ ⟨p1,p2⟩
  simp only at p1 p2 ⊢
  exact hrec _ ⟨p1,by simp only; omega⟩ (by simp only; omega)
 ·refine does_bind (number_tot (n:=n) (r:=⟨⟨l2,l3,l4,l5,l6,l7,l8⟩,vs.drop 1,g⟩) hq) ?_
  rintro ⟨v,a,vs',g'⟩ ⟨p1,p2⟩
  simp only at p1 p2 ⊢
  refine does_bind (number_tot (n:=n) (r:=⟨⟨a.Kind,a.Days,v,a.To,a.Price,a.Unit,a.Free⟩,vs',g'⟩) p1) ?_
  rintro ⟨v2,a2,vs2,g2⟩ ⟨p3,p4⟩
  simp only at p3 p4 ⊢
  exact hrec _ ⟨p3,by simp only; omega⟩ (by simp only; omega)
end Go.Proofs
namespace Go.Proofs
open Go Go.Abs
set_option maxRecDepth 100000
set_option linter.unusedVariables false
theorem arts_tot {n d:Nat} {x:GNode} (ht:treeD d x) (hn:9223372036854776000≤n) :
  Does (g_t_articles n x) (fun r=>r.1.length≤12∧(r.2.Err=0→r.1.length=x.Kids.length∧tarB 0 r.1=true)):=by
 obtain ⟨e,rfl,hl,_,hk⟩:=tree_kids ht
 unfold g_t_articles
 have:=does_loop (n:=n) (v:=(([]:List GAr),false,(0:Int))) (B:=fun recl1 (v:(List GAr) × Bool × Int)=>g_t_articles_l1 n x recl1 v.1 v.2.1 v.2.2) (Q:=fun v r=>r.1.length≤12∧(r.2.Err=0→r.1.length=x.Kids.length∧tarB 0 r.1=true)) (fun v=>x.Kids.length - v.2.2.toNat)
  (fun v=>v.1.length≤12∧v.2.2=(v.1.length:Int)∧v.1.length≤x.Kids.length∧∀ r,tarB 0 (v.1++r)=tarB (cond v.2.1 1 0) r) ?_ ⟨by simp,rfl,by simp,fun r=>rfl⟩ (by simp only; omega)
 ·exact this
 rintro rec ⟨out,tax,idx⟩ ⟨g1,g2,g3,g4⟩ hrec
 simp only at g1 g2 g3 g4 hrec ⊢
 subst g2
 unfold g_t_articles_l1
 simp only [lenI,List.length_map,ltI]
 by_cases c1:out.length < x.Kids.length
 rotate_left
 ·rw [dzF (by omega),cond_false]
  refine does_some ⟨g1,fun _=>⟨by simp only; omega,?_⟩⟩
  have:=g4 []
  rw [List.append_nil] at this
  rw [this]
  cases tax <;> rfl
 obtain ⟨y,hy,hty,_⟩:=kid_at hk c1
 rw [dzT (by omega),cond_true,hy,obs]
 refine does_cond (fun _=>does_some ⟨by simp,fun h=>by cases h⟩) fun _=>does_cond (fun _=>does_some ⟨by simp,fun h=>by cases h⟩) fun h12=>?_
 have h12:out.length < 12:=by
  rw [eqI_d] at h12
  have:=of_decide_eq_false h12
  omega
 refine does_bind (read_tot hty hn) fun r _=>does_cond (fun _=>does_some ⟨by simp,fun h=>by cases h⟩) fun _=>?_
 rw [b_article,obs]
 refine does_cond (fun _=>does_some ⟨by simp,fun h=>by cases h⟩) fun hA=>?_
 have hA:artB r.1=true:=by simpa using hA
 have hroom:roomB (out++[r.1]).length 56=true:=by unfold roomB; rw [List.length_append]; exact dzT (by simp; omega)
 rw [hroom,wi_id (x:=(out.length:Int)+1) (by omega) (by omega)]
 simp only [cond_some,obs,cond_true]
 have hnext:∀ t':Bool,(cond t' 1 0=if r.1.Kind=6 then (cond tax 1 0:Int)+1 else cond tax 1 0)→Does (rec (out++[r.1],t',(out.length:Int)+1)) (fun r=>r.1.length≤12∧(r.2.Err=0→r.1.length=x.Kids.length∧tarB 0 r.1=true)):=by
  intro t' ht'
  refine hrec _ ⟨by simp; omega,by simp,by simp; omega,fun q=>?_⟩ (by simp only; omega)
  simp only
  rw [List.append_assoc,g4,List.singleton_append,tarB,hA,Bool.true_and,← ht']
 cases tax
 ·simp only [cond_false]
  rw [show (bif eqI r.1.Kind 6 then false else false)=false from by cases eqI r.1.Kind 6 <;> rfl,cond_false]
  refine hnext _ ?_
  rw [eqI_d]
  by_cases h:r.1.Kind=6
  ·simp [h]
  ·simp [h]
 ·simp only [cond_true]
  by_cases h:r.1.Kind=6
  ·rw [show eqI r.1.Kind 6=true from by rw [eqI_d]; exact dzT h]
   exact does_some ⟨by simp,fun h=>by cases h⟩
  ·rw [show eqI r.1.Kind 6=false from by rw [eqI_d]; exact dzF h]
   exact hnext _ (by rw [if_neg h])
end Go.Proofs
namespace Go.Proofs
open Go Go.Abs
set_option maxRecDepth 100000
set_option linter.unusedVariables false
theorem does_idx {R:Type} {B:(Int→Option R)→Int→Option R} {L:Nat} (Q:Nat→R→Prop) (hL:L≤9223372036854775807)
  (hB:∀ (rec:Int→Option R) (i:Nat),i≤L→(i < L→wi ((i:Int)+1)=((i+1:Nat):Int)∧Does (rec ((i+1:Nat):Int)) (Q (i+1)))→Does (B rec (i:Int)) (Q i)) :
  ∀ {n:Nat} (i:Nat),i≤L→L - i < n→Does (loopN B n (i:Int)) (Q i)
 | 0,_,_,h=>absurd h (Nat.not_lt_zero _)
 | n+1,i,hi,h=>hB _ i hi fun h1=>⟨by rw [wi_id (by omega) (by omega)]; omega,does_idx Q hL hB (i+1) (by omega) (by omega)⟩
def kidsL (l:List (List PV)):List GNode:=l.filterMap GNode.of
theorem kidL_at {d:Nat} {l:List (List PV)} (h:kidsD d l) {i:Nat} (hi:i < l.length):∃ y,Option.bind (getI l (i:Int)) GNode.of=some y∧treeD d y∧kidsL (l.drop i)=y :: kidsL (l.drop (i+1)):=by
 obtain ⟨y,hy,ht,hd,hof⟩:=kid_at h hi
 refine ⟨y,hy,ht,?_⟩
 rw [hd]
 unfold kidsL
 rw [List.filterMap_cons,hof]
theorem kidL_end (l:List (List PV)) {i:Nat} (hi:l.length≤i):kidsL (l.drop i)=[]:=by
 rw [List.drop_eq_nil_of_le hi]; rfl
def attrB (s:List UInt8):Bool:=((g_ref02_Attrs 0).getD []).contains s
def artNB (s:List UInt8):Bool:=((g_ref02_Articles 0).getD []).contains s
def wordB (s:List UInt8):Bool:=((g_ref02_Words 0).getD []).contains s
theorem p_isAttr (n:Nat) (s:List UInt8):g_p_isAttr n s=some (attrB s):=by
 unfold g_p_isAttr attrB g_ref02_Attrs
 simp only [cond_some,obs,cse,cst,Option.getD_some,List.contains_cons,List.contains_nil,Bool.or_false,eqS]
theorem p_isArt (n:Nat) (s:List UInt8):g_p_isArticle n s=some (artNB s):=by
 unfold g_p_isArticle artNB g_ref02_Articles
 simp only [cond_some,obs,cse,cst,Option.getD_some,List.contains_cons,List.contains_nil,Bool.or_false,eqS]
theorem p_isWord (n:Nat) (s:List UInt8):g_p_isWord n s=some (wordB s):=by
 unfold g_p_isWord wordB g_ref02_Words
 simp only [cond_some,obs,cse,cst,Option.getD_some,List.contains_cons,List.contains_nil,Bool.or_false,eqS]
theorem r_isAttr {n:Nat} {s:List UInt8} (hn:1000≤n):Does (g_ref02_In n ((g_ref02_Attrs 0).getD []) s) (fun r=>leI 0 r=attrB s):=r_in n _ s hn (by decide)
theorem r_isArt {n:Nat} {s:List UInt8} (hn:1000≤n):Does (g_ref02_In n ((g_ref02_Articles 0).getD []) s) (fun r=>leI 0 r=artNB s):=r_in n _ s hn (by decide)
theorem r_isWord {n:Nat} {s:List UInt8} (hn:1000≤n):Does (g_ref02_In n ((g_ref02_Words 0).getD []) s) (fun r=>leI 0 r=wordB s):=r_in n _ s hn (by decide)
theorem r_nameL {n:Nat} {s:List UInt8} (hn:9223372036854776000≤n) (hl:s.length≤9223372036854775807):g_ref02_Name n s=some (nameB s):=by
 by_cases h:s.length≤900
 ·exact r_name n s (by omega) h
 have hb:nameB s=false:=by
  unfold nameB
  rw [show decide (1≤s.length∧s.length≤12)=false from dzF (by omega)]
  rfl
 rw [hb]
 have:Does (g_ref02_Name n s) (fun r=>r=false):=by
  unfold g_ref02_Name
  refine does_idx (L:=s.length) (fun _ r=>r=false) hl (fun rec i hi hr=>?_) 0 (by omega) (by omega)
  unfold g_ref02_Name_l16
  simp only [lenI,ltI]
  by_cases c1:i < s.length
  rotate_left
  ·rw [dzF (by omega),cond_false,r_namej n s (by omega),dzF (by omega)]; exact does_some rfl
  obtain ⟨w1,w2⟩:=hr c1
  rw [dzT (by omega),cond_true,getI_nat,List.getElem?_eq_getElem c1,obs,w1]
  simp only [cond_some,obs]
  exact does_cond (fun _=>does_some rfl) fun _=>w2
 obtain ⟨r,e,rfl⟩:=this
 exact e
def nvalB (words:Bool) (x:GNode):Bool :=
 decide (x.Kids=[])&&(bif decide (x.Kind=6) then decide (x.Name=[])&&(decide (0≤x.N)&&decide (x.N≤1000000)) else decide (x.Kind=5)&&(decide (x.N=0)&&(nameB x.Name||(words&&wordB x.Name))))
theorem eqSn (s:List UInt8):eqS s []=decide (s=[]):=by
 cases s <;> rfl
theorem p_value {n:Nat} {x:GNode} {b:Bool} (hn:1000≤n):g_p_validValue n x b=some (nvalB b x):=by
 unfold g_p_validValue nvalB
 rw [b_goodName n x.Name hn,p_isWord,len0,eqSn]
 simp only [obs,cond_some,eqI_d,leI]
 by_cases k5:x.Kind=5
 ·rw [k5]
  simp only [decide_true,cond_true,show decide ((5:Int)=6)=false from rfl,cond_false]
  cases decide (x.Kids=[]) <;> cases decide (x.N=0) <;> cases nameB x.Name <;> cases b <;> cases wordB x.Name <;> rfl
 ·rw [dzF k5]
  cases decide (x.Kids=[]) <;> cases decide (x.Kind=6) <;> cases decide (x.Name=[]) <;> cases decide (0≤x.N) <;> cases decide (x.N≤1000000) <;> rfl
theorem lt0 (l:List (List PV)):ltI 0 (lenI (List.map idc l))=!decide (l=[]):=by
 cases l with
 | nil=>rfl
 | cons a r =>
  rw [dzF (by intro h; cases h)]
  exact dzT (by simp only [lenI,List.length_map,List.length_cons]; omega)
theorem r_value {n:Nat} {x:GNode} {b:Bool} (hn:9223372036854776000≤n) (hl:x.Name.length≤9223372036854775807):g_ref02_value n x b=some (nvalB b x):=by
 unfold g_ref02_value nvalB
 obtain ⟨r,e,h⟩:=r_isWord (n:=n) (s:=x.Name) (by omega)
 rw [r_nameL hn hl,lt0,eqSn,show g_ref02_Words n=some ((g_ref02_Words 0).getD []) from rfl,obs,obs,e,obs,h]
 simp only [obs,cond_some,eqI_d,leI]
 cases decide (x.Kids=[]) <;> cases decide (x.Kind=5) <;> cases decide (x.Kind=6) <;> cases decide (x.Name=[]) <;> cases decide (0≤x.N) <;> cases decide (x.N≤1000000) <;> cases decide (x.N=0) <;> cases nameB x.Name <;> cases b <;> cases wordB x.Name <;> rfl
def npartB (x:GNode):Bool:=decide (x.N=0)&&((decide (x.Kind=3)&&attrB x.Name||decide (x.Kind=4)&&artNB x.Name)&&(kidsL x.Kids).all (nvalB (decide (x.Kind=4))))
theorem r_part {n d:Nat} {x:GNode} (ht:treeD d x) (hn:9223372036854776000≤n):g_ref02_part n x=some (npartB x):=by
 obtain ⟨e,rfl,hl,_,hk⟩:=tree_kids ht
 have hloop:loopN (fun recl13 l13=>g_ref02_part_l13 n x recl13 l13) n 0=some ((kidsL x.Kids).all (nvalB (decide (x.Kind=4)))):=by
  have:=does_idx (B:=fun recl13 l13=>g_ref02_part_l13 n x recl13 l13) (n:=n) (L:=x.Kids.length) (fun i r=>r=(kidsL (x.Kids.drop i)).all (nvalB (decide (x.Kind=4)))) hl (fun rec i hi hr=>?_) 0 (by omega) (by omega)
  ·obtain ⟨r,e,h⟩:=this
   rw [show ((0:Nat):Int)=0 from rfl] at e
   rw [e,h]; rfl
  unfold g_ref02_part_l13
  simp only [lenI,List.length_map,ltI]
  by_cases c1:i < x.Kids.length
  rotate_left
  ·rw [dzF (by omega),kidL_end _ (by omega)]; exact does_some rfl
  obtain ⟨y,hy,hty,hc⟩:=kidL_at hk c1
  obtain ⟨w1,w2⟩:=hr c1
  obtain ⟨_,_,_,hs,_⟩:=tree_kids hty
  rw [dzT (by omega),cond_true,hy,obs,w1,r_value hn hs,obs,hc,List.all_cons,eqI_d]
  cases nvalB (decide (x.Kind=4)) y
  ·exact does_some rfl
  ·simpa using w2
 unfold g_ref02_part npartB
 obtain ⟨r1,e1,h1⟩:=r_isAttr (n:=n) (s:=x.Name) (by omega)
 obtain ⟨r2,e2,h2⟩:=r_isArt (n:=n) (s:=x.Name) (by omega)
 rw [hloop,show g_ref02_Attrs n=some ((g_ref02_Attrs 0).getD []) from rfl,show g_ref02_Articles n=some ((g_ref02_Articles 0).getD []) from rfl]
 simp only [obs,e1,e2,h1,h2,cond_some,eqI_d]
 cases decide (x.N=0) <;> cases decide (x.Kind=3) <;> cases decide (x.Kind=4) <;> cases attrB x.Name <;> cases artNB x.Name <;> rfl
theorem p_part {n d:Nat} {x:GNode} {left:Int} (ht:treeD d x) (hn:9223372036854776000≤n) (hle:(x.Kids.length:Int)≤left∧left≤1500):Does (g_p_validPart n x left) (fun r=>r.1=npartB x∧(npartB x=true→r.2=left - x.Kids.length)):=by
 obtain ⟨e,rfl,hl,_,hk⟩:=tree_kids ht
 have hw:wi (left - lenI (List.map idc x.Kids))=left - x.Kids.length:=by
  simp only [lenI,List.length_map]; exact wi_id (by omega) (by omega)
 have hloop:loopN (fun recl9 l9=>g_p_validPart_l9 n x left recl9 l9) n 0=some ((kidsL x.Kids).all (nvalB (decide (x.Kind=4))),left - x.Kids.length):=by
  have:=does_idx (B:=fun recl9 l9=>g_p_validPart_l9 n x left recl9 l9) (n:=n) (L:=x.Kids.length) (fun i r=>r=((kidsL (x.Kids.drop i)).all (nvalB (decide (x.Kind=4))),left - (x.Kids.length:Int))) hl (fun rec i hi hr=>?_) 0 (by omega) (by omega)
  ·obtain ⟨r,e,h⟩:=this
   rw [show ((0:Nat):Int)=0 from rfl] at e
   rw [e,h]; rfl
  unfold g_p_validPart_l9
  rw [hw]
  simp only [lenI,List.length_map,ltI]
  by_cases c1:i < x.Kids.length
  rotate_left
  ·rw [dzF (by omega),kidL_end _ (by omega)]; exact does_some rfl
  obtain ⟨y,hy,hty,hc⟩:=kidL_at hk c1
  obtain ⟨w1,w2⟩:=hr c1
  rw [dzT (by omega),cond_true,hy,obs,w1,p_value (by omega),obs,hc,List.all_cons,eqI_d]
  cases nvalB (decide (x.Kind=4)) y
  ·exact does_some rfl
  ·simpa using w2
 unfold g_p_validPart
 rw [hloop,p_isAttr,p_isArt,hw,show ltI (left - (x.Kids.length:Int)) 0=false from ltI_f (by omega)]
 simp only [obs,cond_some,eqI_d]
 have hp:npartB x=(decide (x.N=0)&&((decide (x.Kind=3)&&attrB x.Name||decide (x.Kind=4)&&artNB x.Name)&&(kidsL x.Kids).all (nvalB (decide (x.Kind=4))))):=rfl
 rw [hp]
 generalize (kidsL x.Kids).all (nvalB (decide (x.Kind=4)))=z
 by_cases k3:x.Kind=3
 ·rw [k3]
  cases decide (x.N=0) <;> cases attrB x.Name <;> cases z <;> exact does_some ⟨rfl,fun h=>by first | rfl | cases h⟩
 ·rw [dzF k3]
  cases decide (x.N=0) <;> cases decide (x.Kind=4) <;> cases artNB x.Name <;> cases z <;> exact does_some ⟨rfl,fun h=>by first | rfl | cases h⟩
end Go.Proofs
namespace Go.Proofs
open Go Go.Abs
set_option maxRecDepth 100000
set_option linter.unusedVariables false
def itemK (n7:Bool):Bool→List GNode→Bool
 | _,[]=>true
 | p,k :: r=>(npartB k&&!(decide (k.Kind=4)&&!n7)&&!(decide (k.Kind=3)&&p))&&itemK n7 (decide (k.Kind=4)) r
def parsK (n7:Bool):Bool→List GNode→Bool
 | fl,[]=>!fl||n7
 | fl,k :: r=>bif decide (k.Kind=4) then npartB k&&parsK n7 true r else bif fl then false else npartB k&&parsK n7 fl r
theorem part_kind {k:GNode} (h:npartB k=true) (h4:decide (k.Kind=4)=false):decide (k.Kind=3)=true:=by
 unfold npartB at h
 rw [h4] at h
 cases h3:decide (k.Kind=3)
 ·rw [h3] at h
  simp at h
 ·rfl
theorem pars_item (n7:Bool):∀ (l:List GNode) (fl:Bool),parsK n7 fl l=((!fl||n7)&&itemK n7 fl l)
 | [],fl=>by simp [parsK,itemK]
 | k :: r,fl=>by
  unfold parsK itemK
  rw [pars_item n7 r true,pars_item n7 r fl]
  cases hp:npartB k
  ·cases decide (k.Kind=4) <;> cases fl <;> simp
  cases h4:decide (k.Kind=4)
  ·rw [part_kind hp h4]
   cases fl <;> cases n7 <;> simp
  ·have h3:decide (k.Kind=3)=false:=by
    have:=of_decide_eq_true h4
    rw [this]; rfl
   rw [h3]
   cases fl <;> cases n7 <;> simp
def pwL (l:List GNode):Int:=(l.map fun k=>(k.Kids.length:Int)).sum
def itemB (x:GNode):Bool:=decide (x.Kind=2)&&(decide (1≤x.N)&&(decide (x.N≤7)&&(nameB x.Name&&itemK (decide (x.N=7)) false (kidsL x.Kids))))
theorem r_item {n d:Nat} {x:GNode} (ht:treeD d x) (hn:9223372036854776000≤n):g_ref02_item n x=some (itemB x):=by
 obtain ⟨e,rfl,hl,hs,hk⟩:=tree_kids ht
 have hloop:loopN (fun recl6 l6=>g_ref02_item_l6 n x recl6 l6) n 0=some (itemK (decide (x.N=7)) false (kidsL x.Kids)):=by
  have:=does_idx (B:=fun recl6 l6=>g_ref02_item_l6 n x recl6 l6) (n:=n) (L:=x.Kids.length) (fun i r=>r=itemK (decide (x.N=7)) (decide (0 < i)&&((Option.bind (getI x.Kids ((i:Int) - 1)) GNode.of).map fun z=>decide (z.Kind=4)).getD false) (kidsL (x.Kids.drop i))) hl (fun rec i hi hr=>?_) 0 (by omega) (by omega)
  ·obtain ⟨r,e,h⟩:=this
   rw [show ((0:Nat):Int)=0 from rfl] at e
   rw [e,h]; rfl
  unfold g_ref02_item_l6
  simp only [lenI,List.length_map,ltI]
  by_cases c1:i < x.Kids.length
  rotate_left
  ·rw [dzF (by omega),kidL_end _ (by omega)]; exact does_some rfl
  obtain ⟨y,hy,hty,hc⟩:=kidL_at hk c1
  obtain ⟨w1,w2⟩:=hr c1
  have hprev:cond (decide (0 < (i:Int))) ((Option.bind (getI x.Kids (wi ((i:Int) - 1))) GNode.of).bind fun x15=>some (eqI x15.Kind 4)) (some false)=some (decide (0 < i)&&((Option.bind (getI x.Kids ((i:Int) - 1)) GNode.of).map fun z=>decide (z.Kind=4)).getD false):=by
   by_cases h0:0 < i
   ·obtain ⟨z,hz,_⟩:=kid_at hk (show i - 1 < x.Kids.length by omega)
    rw [wi_id (x:=(i:Int) - 1) (by omega) (by omega),show (i:Int) - 1=((i - 1:Nat):Int) by omega,hz,dzT (by omega),dzT h0]
    simp only [cond_true,obs,eqI_d,Bool.true_and,Option.map_some,Option.getD_some]
   ·rw [dzF (by omega),dzF h0]; rfl
  rw [dzT (by omega),cond_true,hy,obs,w1,r_part hty hn,obs,hprev,hc,eqI_d,eqI_d,eqI_d]
  generalize (decide (0 < i)&&((Option.bind (getI x.Kids ((i:Int) - 1)) GNode.of).map fun z=>decide (z.Kind=4)).getD false)=p
  have hp1:(decide (0 < i+1)&&((Option.bind (getI x.Kids (((i+1:Nat):Int) - 1)) GNode.of).map fun z=>decide (z.Kind=4)).getD false)=decide (y.Kind=4):=by
   rw [dzT (by omega),show (((i+1:Nat):Int) - 1)=(i:Int) by omega,hy]
   rfl
  rw [hp1] at w2
  rw [show itemK (decide (x.N=7)) p (y :: kidsL (List.drop (i+1) x.Kids))=((npartB y&&!(decide (y.Kind=4)&&!decide (x.N=7))&&!(decide (y.Kind=3)&&p))&&itemK (decide (x.N=7)) (decide (y.Kind=4)) (kidsL (List.drop (i+1) x.Kids))) from rfl]
  generalize itemK (decide (x.N=7)) (decide (y.Kind=4)) (kidsL (List.drop (i+1) x.Kids))=z at w2 ⊢
  generalize rec ((i+1:Nat):Int)=q at w2 ⊢
  obtain ⟨r,rfl,rfl⟩:=w2
  cases npartB y <;> cases decide (y.Kind=4) <;> cases decide (x.N=7) <;> cases decide (y.Kind=3) <;> cases p <;> exact does_some rfl
 unfold g_ref02_item itemB
 rw [hloop,r_nameL hn hs]
 simp only [obs,cond_some,eqI_d,ltI]
 by_cases c1:x.N < 1
 ·rw [dzT c1,dzF (show ¬ 1≤x.N by omega)]
  cases decide (x.Kind=2) <;> rfl
 rw [dzF c1,dzT (show 1≤x.N by omega)]
 by_cases c2:7 < x.N
 ·rw [dzT c2,dzF (show ¬ x.N≤7 by omega)]
  cases decide (x.Kind=2) <;> rfl
 rw [dzF c2,dzT (show x.N≤7 by omega)]
 cases decide (x.Kind=2) <;> cases nameB x.Name <;> rfl
theorem p_item {n d:Nat} {x:GNode} {left:Int} (ht:treeD d x) (hn:9223372036854776000≤n) (hle:(x.Kids.length:Int)+pwL (kidsL x.Kids)≤left∧left≤1500) :
  Does (g_p_validItem n x left) (fun r=>r.1=itemB x∧(itemB x=true→r.2=left - x.Kids.length - pwL (kidsL x.Kids))):=by
 obtain ⟨e,rfl,hl,hs,hk⟩:=tree_kids ht
 have hpw:∀ l:List GNode,0≤pwL l:=by
  intro l
  induction l with
  | nil=>exact Int.le_refl _
  | cons a l ih=>unfold pwL at ih ⊢; simp only [List.map_cons,List.sum_cons]; omega
 have hp0:=hpw (kidsL x.Kids)
 have hw:wi (left - lenI (List.map idc x.Kids))=left - x.Kids.length:=by
  simp only [lenI,List.length_map]; exact wi_id (by omega) (by omega)
 have hloop:Does (loopN (fun recl8 (v:Bool × Int × Int)=>g_p_validItem_l8 n x recl8 v.1 v.2.1 v.2.2) n (false,0,left - x.Kids.length)) (fun r=>r.1=parsK (decide (x.N=7)) false (kidsL x.Kids)∧(parsK (decide (x.N=7)) false (kidsL x.Kids)=true→r.2=left - x.Kids.length - pwL (kidsL x.Kids))):=by
  refine does_loop (Q:=fun (v:Bool × Int × Int) (r:Bool × Int)=>r.1=parsK (decide (x.N=7)) v.1 (kidsL (x.Kids.drop v.2.1.toNat))∧(parsK (decide (x.N=7)) v.1 (kidsL (x.Kids.drop v.2.1.toNat))=true→r.2=v.2.2 - pwL (kidsL (x.Kids.drop v.2.1.toNat)))) (fun v=>x.Kids.length - v.2.1.toNat)
   (fun (v:Bool × Int × Int)=>(∃ i:Nat,v.2.1=(i:Int)∧i≤x.Kids.length)∧pwL (kidsL (x.Kids.drop v.2.1.toNat))≤v.2.2∧v.2.2≤1500) ?_ ⟨⟨0,rfl,by omega⟩,by simp only [show (0:Int).toNat=0 from rfl,List.drop_zero]; omega,by simp only; omega⟩ (by simp only; omega)
  rintro rec ⟨fl,idx,lf⟩ ⟨⟨i,hi,hil⟩,g1,g2⟩ hrec
  simp only at hi hrec g1 g2 ⊢
  subst hi
  simp only [Int.toNat_natCast] at g1 ⊢
  unfold g_p_validItem_l8
  simp only [lenI,List.length_map,ltI]
  by_cases c1:i < x.Kids.length
  rotate_left
  ·rw [dzF (by omega),cond_false,kidL_end _ (by omega)]
   unfold g_p_validItem_j6
   rw [eqI_d]
   cases fl
   ·exact does_some ⟨rfl,fun _=>by simp [pwL]⟩
   ·exact does_some ⟨rfl,fun _=>by simp [pwL]⟩
  obtain ⟨y,hy,hty,hc⟩:=kidL_at hk c1
  rw [hc] at g1 ⊢
  have hcons:pwL (y :: kidsL (List.drop (i+1) x.Kids))=(y.Kids.length:Int)+pwL (kidsL (List.drop (i+1) x.Kids)):=rfl
  rw [hcons] at g1 ⊢
  have h0:=hpw (kidsL (List.drop (i+1) x.Kids))
  rw [dzT (by omega),cond_true,hy,obs]
  have hj10:∀ b:Bool,Does (g_p_validItem_j10 n (i:Int) lf rec y b) fun r=>r.1=(npartB y&&parsK (decide (x.N=7)) b (kidsL (List.drop (i+1) x.Kids)))∧((npartB y&&parsK (decide (x.N=7)) b (kidsL (List.drop (i+1) x.Kids)))=true→r.2=lf - ((y.Kids.length:Int)+pwL (kidsL (List.drop (i+1) x.Kids)))):=by
   intro b
   unfold g_p_validItem_j10
   rw [wi_id (x:=(i:Int)+1) (by omega) (by omega)]
   refine does_bind (p_part hty hn ⟨by omega,g2⟩) ?_
   rintro ⟨r1,r2⟩ ⟨q1,q2⟩
   simp only at q1 q2 ⊢
   subst q1
   cases hb:npartB y
   ·exact does_some ⟨rfl,fun h=>by cases h⟩
   have q2:=q2 hb
   simp only [Bool.not_true,cond_false,Bool.true_and]
   refine does_mono (hrec (b,(i:Int)+1,r2) ⟨⟨i+1,by simp,c1⟩,by simp only [show ((i:Int)+1).toNat=i+1 by omega]; omega,by simp only; omega⟩ (by simp only; omega)) ?_
   rintro ⟨s1,s2⟩ ⟨t1,t2⟩
   simp only [show ((i:Int)+1).toNat=i+1 by omega] at t1 t2 ⊢
   exact ⟨t1,fun h=>by rw [t2 h]; omega⟩
  rw [eqI_d]
  unfold parsK
  cases decide (y.Kind=4)
  ·cases fl
   ·exact hj10 false
   ·exact does_some ⟨rfl,fun h=>by cases h⟩
  ·exact hj10 true
 unfold g_p_validItem
 rw [b_goodName n x.Name (by omega),hw,show ltI (left - (x.Kids.length:Int)) 0=false from ltI_f (by omega)]
 simp only [obs,cond_some,eqI_d,ltI]
 have hb:itemB x=(decide (x.Kind=2)&&(decide (1≤x.N)&&(decide (x.N≤7)&&(nameB x.Name&&parsK (decide (x.N=7)) false (kidsL x.Kids))))):=by
  unfold itemB; rw [pars_item]; simp
 rw [hb]
 have hfalse:∀ b:Bool,b=false→Does (some (false,left)) (fun r=>r.1=b∧(b=true→r.2=left - x.Kids.length - pwL (kidsL x.Kids))):=by
  intro b h
  subst h
  exact does_some ⟨rfl,fun h=>by cases h⟩
 by_cases c0:x.Kind=2
 rotate_left
 ·rw [dzF c0]; exact hfalse _ rfl
 rw [dzT c0]
 by_cases c1:x.N < 1
 ·rw [dzT c1,dzF (show ¬ 1≤x.N by omega)]; exact hfalse _ rfl
 rw [dzF c1,dzT (show 1≤x.N by omega)]
 by_cases c2:7 < x.N
 ·rw [dzT c2,dzF (show ¬ x.N≤7 by omega)]; exact hfalse _ rfl
 rw [dzF c2,dzT (show x.N≤7 by omega)]
 cases nameB x.Name
 ·exact hfalse _ rfl
 ·exact hloop
end Go.Proofs
namespace Go.Proofs
open Go Go.Abs
set_option maxRecDepth 100000
set_option linter.unusedVariables false
def sz:Nat→GNode→Int
 | 0,_=>1
 | k+1,x=>1+((kidsL x.Kids).map (sz k)).sum
theorem sum_nonneg {f:GNode→Int} (hf:∀ y,0≤f y):∀ l:List GNode,0≤(l.map f).sum
 | []=>Int.le_refl _
 | a :: l=>by have:=sum_nonneg hf l; have:=hf a; simp only [List.map_cons,List.sum_cons]; omega
theorem count_sz:∀ (m n d:Nat) (x:GNode) (most:Int),treeD d x→0≤most→most≤m→m≤1000000→m+3≤n→Does (g_ref02_Count n x most) (fun r=>1≤r∧r≤most+1∧(r≤most→∀ k,sz k x≤r)):=by
 intro m
 induction m with
 | zero =>
  intro n d x most ht h0 h1 h2 h3
  obtain ⟨r,e,g1,g2⟩:=count_tot 0 n d x most ht h0 h1 h2 h3
  exact ⟨r,e,g1,g2,fun h=>by omega⟩
 | succ m ih =>
  intro n d x most ht h0 h1 h2 h3
  obtain ⟨n,rfl⟩:∃ q,n=q+1:=⟨n - 1,by omega⟩
  obtain ⟨e,rfl,hl,_,hk⟩:=tree_kids ht
  unfold g_ref02_Count g_ref02_Count_body
  have:=does_loop (n:=n) (v:=((1:Int),(0:Int))) (B:=fun recl1 (v:Int × Int)=>g_ref02_Count_l1 x most (g_ref02_Count n) recl1 v.1 v.2) (Q:=fun (v:Int × Int) r=>v.1≤r∧r≤most+1∧(r≤most→∀ k,v.1+((kidsL (x.Kids.drop v.2.toNat)).map (sz k)).sum≤r)) (fun v=>(most+1 - v.1).toNat) (fun v=>1≤v.1∧v.1≤most+1∧∃ i:Nat,v.2=(i:Int)∧i≤x.Kids.length) ?_ ⟨by omega,by omega,0,rfl,by omega⟩ (by simp only; omega)
  ·obtain ⟨r,e1,g1,g2,g3⟩:=this
   refine ⟨r,e1,g1,g2,fun h k=>?_⟩
   cases k with
   | zero=>exact g1
   | succ k=>exact g3 h k
  rintro rec ⟨many,idx⟩ ⟨g1,g2,i,hi,hil⟩ hrec
  simp only at g1 g2 hi hrec ⊢
  subst hi
  simp only [Int.toNat_natCast]
  unfold g_ref02_Count_l1
  simp only [lenI,List.length_map,ltI,leI]
  by_cases c1:i < x.Kids.length
  rotate_left
  ·rw [dzF (by omega)]
   refine does_some ⟨Int.le_refl _,g2,fun _ k=>?_⟩
   rw [kidL_end _ (by omega)]
   simp
  rw [dzT (by omega)]
  by_cases c2:many≤most
  rotate_left
  ·rw [dzF c2]
   exact does_some ⟨Int.le_refl _,g2,fun h=>absurd h c2⟩
  rw [dzT c2]
  obtain ⟨y,hy,hty,hc⟩:=kidL_at hk c1
  simp only [cond_true,obs]
  rw [hy,obs,wi_id (x:=most - many) (by omega) (by omega)]
  refine does_bind (ih n e y (most - many) hty (by omega) (by omega) (by omega) (by omega)) ?_
  rintro r ⟨r1,r2,r3⟩
  rw [wi_id (x:=many+r) (by omega) (by omega),wi_id (x:=(i:Int)+1) (by omega) (by omega)]
  refine does_mono (hrec (many+r,(i:Int)+1) ⟨by simp only; omega,by simp only; omega,i+1,by simp,c1⟩ (by simp only; omega)) ?_
  rintro q ⟨q1,q2,q3⟩
  simp only at q1 q3
  refine ⟨by omega,q2,fun h k=>?_⟩
  have:=q3 h k
  have:=r3 (by omega) k
  rw [hc]
  simp only [show ((i:Int)+1).toNat=i+1 by omega,List.map_cons,List.sum_cons] at *
  omega
theorem kidsL_len {d:Nat}:∀ {l:List (List PV)},kidsD d l→(kidsL l).length=l.length
 | [],_=>rfl
 | c :: r,h=>by
  obtain ⟨y,e,_⟩:=h c (by simp)
  have:=kidsL_len (l:=r) (fun k hk=>h k (by simp [hk]))
  unfold kidsL at this ⊢
  rw [List.filterMap_cons,e]
  simp [this]
theorem kidsL_mem {d:Nat} {l:List (List PV)} (h:kidsD d l):∀ y ∈ kidsL l,treeD d y:=by
 intro y hy
 obtain ⟨c,hc,e⟩:=List.mem_filterMap.1 hy
 obtain ⟨z,e',t⟩:=h c hc
 rw [e'] at e
 cases e
 exact t
theorem sz1 {d:Nat} {x:GNode} (h:treeD d x):sz 1 x=1+x.Kids.length:=by
 obtain ⟨e,rfl,_,_,hk⟩:=tree_kids h
 have:∀ l:List GNode,(l.map (sz 0)).sum=l.length:=by
  intro l
  induction l with
  | nil=>rfl
  | cons a l ih=>simp only [List.map_cons,List.sum_cons,sz,List.length_cons] at ih ⊢; rw [ih]; omega
 show 1+((kidsL x.Kids).map (sz 0)).sum=_
 rw [this,kidsL_len hk]
theorem sz2 {d:Nat} {x:GNode} (h:treeD d x):sz 2 x=1+x.Kids.length+pwL (kidsL x.Kids):=by
 obtain ⟨e,rfl,_,_,hk⟩:=tree_kids h
 have:∀ l:List GNode,(∀ y ∈ l,treeD e y)→(l.map (sz 1)).sum=l.length+pwL l:=by
  intro l
  induction l with
  | nil=>intro _; rfl
  | cons a l ih =>
   intro hl
   have:=ih (fun y hy=>hl y (by simp [hy]))
   have h1:=sz1 (hl a (by simp))
   unfold pwL at this ⊢
   simp only [List.map_cons,List.sum_cons,List.length_cons] at this ⊢
   rw [this,h1]; omega
 show 1+((kidsL x.Kids).map (sz 1)).sum=_
 rw [this _ (kidsL_mem hk),kidsL_len hk]
 omega
def swL (l:List GNode):Int:=(l.map fun k=>(k.Kids.length:Int)+pwL (kidsL k.Kids)).sum
theorem sz3 {d:Nat} {x:GNode} (h:treeD d x):sz 3 x=1+x.Kids.length+swL (kidsL x.Kids):=by
 obtain ⟨e,rfl,_,_,hk⟩:=tree_kids h
 have:∀ l:List GNode,(∀ y ∈ l,treeD e y)→(l.map (sz 2)).sum=l.length+swL l:=by
  intro l
  induction l with
  | nil=>intro _; rfl
  | cons a l ih =>
   intro hl
   have:=ih (fun y hy=>hl y (by simp [hy]))
   have h1:=sz2 (hl a (by simp))
   unfold swL at this ⊢
   simp only [List.map_cons,List.sum_cons,List.length_cons] at this ⊢
   rw [this,h1]; omega
 show 1+((kidsL x.Kids).map (sz 2)).sum=_
 rw [this _ (kidsL_mem hk),kidsL_len hk]
 omega
def validB (x:GNode):Bool:=decide (x.Kind=1)&&(decide (x.Name=[])&&(decide (x.N=0)&&(kidsL x.Kids).all itemB))
theorem pw_nonneg (l:List GNode):0≤pwL l:=sum_nonneg (fun y=>by omega) l
theorem sw_nonneg (l:List GNode):0≤swL l:=sum_nonneg (fun y=>by have:=pw_nonneg (kidsL y.Kids); omega) l
theorem p_valid {n d:Nat} {x:GNode} (ht:treeD d x) (hn:9223372036854776000≤n) (hs:1+(x.Kids.length:Int)+swL (kidsL x.Kids)≤1500):g_p_Valid n x=some (validB x):=by
 obtain ⟨e,rfl,hl,_,hk⟩:=tree_kids ht
 have hw:wi (1499 - lenI (List.map idc x.Kids))=1499 - x.Kids.length:=by
  simp only [lenI,List.length_map]; exact wi_id (by omega) (by omega)
 have hsw:=sw_nonneg (kidsL x.Kids)
 have hloop:Does (loopN (fun recl5 (v:Int × Int)=>g_p_Valid_l5 n x recl5 v.1 v.2) n (0,1499 - x.Kids.length)) (fun r=>r=(kidsL x.Kids).all itemB):=by
  refine does_loop (Q:=fun (v:Int × Int) (r:Bool)=>r=(kidsL (x.Kids.drop v.1.toNat)).all itemB) (fun v=>x.Kids.length - v.1.toNat) (fun v=>(∃ i:Nat,v.1=(i:Int)∧i≤x.Kids.length)∧swL (kidsL (x.Kids.drop v.1.toNat))≤v.2∧v.2≤1500) ?_ ⟨⟨0,rfl,by omega⟩,by simp only [show (0:Int).toNat=0 from rfl,List.drop_zero]; omega,by simp only; omega⟩ (by simp only; omega)
  rintro rec ⟨idx,lf⟩ ⟨⟨i,hi,hil⟩,g1,g2⟩ hrec
  simp only at hi hrec g1 g2 ⊢
  subst hi
  simp only [Int.toNat_natCast] at g1 ⊢
  unfold g_p_Valid_l5
  simp only [lenI,List.length_map,ltI]
  by_cases c1:i < x.Kids.length
  rotate_left
  ·rw [dzF (by omega),cond_false,kidL_end _ (by omega)]
   exact does_some rfl
  obtain ⟨y,hy,hty,hc⟩:=kidL_at hk c1
  rw [hc] at g1 ⊢
  have hcons:swL (y :: kidsL (List.drop (i+1) x.Kids))=((y.Kids.length:Int)+pwL (kidsL y.Kids))+swL (kidsL (List.drop (i+1) x.Kids)):=rfl
  rw [hcons] at g1
  have h0:=sw_nonneg (kidsL (List.drop (i+1) x.Kids))
  rw [dzT (by omega),cond_true,hy,obs,List.all_cons,wi_id (x:=(i:Int)+1) (by omega) (by omega)]
  refine does_bind (p_item hty hn ⟨by omega,g2⟩) ?_
  rintro ⟨r1,r2⟩ ⟨q1,q2⟩
  simp only at q1 q2 ⊢
  subst q1
  cases hb:itemB y
  ·exact does_some rfl
  have q2:=q2 hb
  have hpw:=pw_nonneg (kidsL y.Kids)
  simp only [Bool.not_true,cond_false,Bool.true_and]
  refine does_mono (hrec ((i:Int)+1,r2) ⟨⟨i+1,by simp,c1⟩,by simp only [show ((i:Int)+1).toNat=i+1 by omega]; omega,by simp only; omega⟩ (by simp only; omega)) ?_
  intro r hr
  simpa only [show ((i:Int)+1).toNat=i+1 by omega] using hr
 obtain ⟨r,er,rfl⟩:=hloop
 unfold g_p_Valid validB
 rw [hw,show ltI (1499 - (x.Kids.length:Int)) 0=false from ltI_f (by omega),eqSn]
 simp only [cond_some,obs,eqI_d]
 have er':loopN (fun recl5 (x_1:Int × Int)=>match x_1 with | (l5_1,l5_2)=>g_p_Valid_l5 n x recl5 l5_1 l5_2) n (0,1499 - (x.Kids.length:Int))=some ((kidsL x.Kids).all itemB):=er
 rw [er']
 cases decide (x.Kind=1) <;> cases decide (x.Name=[]) <;> cases decide (x.N=0) <;> rfl
theorem r_valid {n d:Nat} {x:GNode} (ht:treeD d x) (hn:9223372036854776000≤n) {c:Int} (hc:g_ref02_Count n x 1500=some c) (h15:c≤1500):g_ref02_Valid n x=some (validB x):=by
 obtain ⟨e,rfl,hl,_,hk⟩:=tree_kids ht
 have hloop:Does (loopN (fun recl6 l6=>g_ref02_Valid_l6 n x recl6 l6) n 0) (fun r=>r=(kidsL x.Kids).all itemB):=by
  refine does_idx (B:=fun recl6 l6=>g_ref02_Valid_l6 n x recl6 l6) (n:=n) (L:=x.Kids.length) (fun i r=>r=(kidsL (x.Kids.drop i)).all itemB) hl (fun rec i hi hr=>?_) 0 (by omega) (by omega)
  unfold g_ref02_Valid_l6
  simp only [lenI,List.length_map,ltI]
  by_cases c1:i < x.Kids.length
  rotate_left
  ·rw [dzF (by omega),kidL_end _ (by omega)]; exact does_some rfl
  obtain ⟨y,hy,hty,hc⟩:=kidL_at hk c1
  obtain ⟨w1,w2⟩:=hr c1
  rw [dzT (by omega),cond_true,hy,obs,w1,r_item hty hn,obs,hc,List.all_cons]
  cases itemB y
  ·exact does_some rfl
  ·simpa using w2
 obtain ⟨r,er,rfl⟩:=hloop
 unfold g_ref02_Valid validB
 rw [er,hc,eqSn]
 simp only [obs,cond_some,eqI_d,ltI]
 rw [dzF (show ¬ 1500 < c by omega)]
 cases decide (x.Kind=1) <;> cases decide (x.Name=[]) <;> cases decide (x.N=0) <;> rfl
theorem few_valid {n d:Nat} {x:GNode} (ht:treeD d x) (hn:9223372036854776000≤n):Does (g_ref02_Few n x 1500) (fun b=>b=true→g_p_Valid n x=some (validB x)∧g_ref02_Valid n x=some (validB x)∧(x.Kids.length:Int)+swL (kidsL x.Kids)≤1499):=by
 obtain ⟨c,e,c1,c2,c3⟩:=count_sz 1500 n d x 1500 ht (by omega) (by omega) (by omega) (by omega)
 unfold g_ref02_Few
 rw [e,obs,leI]
 by_cases h:c≤1500
 rotate_left
 ·rw [dzF h]; exact does_some fun h=>by cases h
 rw [dzT h,cond_true]
 refine does_bind (names_tot 50 n d x 50 ht (by omega) (by omega) (by omega) (by omega)) fun r _=>does_some fun _=>?_
 have h3:=c3 h 3
 rw [sz3 ht] at h3
 exact ⟨p_valid ht hn (by omega),r_valid ht hn e h,by omega⟩
end Go.Proofs
namespace Go.Proofs
open Go Go.Abs
set_option maxRecDepth 100000
set_option linter.unusedVariables false
def numAt:List (List PV)→Option Int
 | []=>none
 | c :: _=>(GNode.of c).bind fun y=>if y.Kind=6 then some y.N else none
def wordAt:List (List PV)→List UInt8
 | []=>[]
 | c :: _=>((GNode.of c).map fun y=>if y.Kind=5 then y.Name else []).getD []
theorem numAt_c (c:List PV) (r:List (List PV)):numAt (c :: r)=(GNode.of c).bind fun y=>if y.Kind=6 then some y.N else none:=rfl
theorem wordAt_c (c:List PV) (r:List (List PV)):wordAt (c :: r)=((GNode.of c).map fun y=>if y.Kind=5 then y.Name else []).getD []:=rfl
theorem t_number (n:Nat) {e:Nat} {r:GTr} (h:kidsD e r.values):g_t_reader_number n r=some (match numAt r.values with | some v=>(v,⟨r.article,r.values.drop 1,r.good⟩) | none=>(0,⟨r.article,r.values,false⟩)):=by
 obtain ⟨a,vs,g⟩:=r
 unfold g_t_reader_number
 rw [len0]
 cases vs with
 | nil=>rfl
 | cons c r =>
  obtain ⟨y,hy,_⟩:=h c (by simp)
  rw [slice1 (by simp),drop1,dzF (by intro h; cases h)]
  show ((((GNode.of c).bind _).bind _))=_
  unfold numAt
  rw [hy]
  simp only [obs,eqI_d,cond_true]
  show (bif !decide (y.Kind=6) then _ else ((GNode.of c).bind _))=_
  rw [hy]
  by_cases h6:y.Kind=6
  ·simp [h6]
  ·simp [h6]
theorem t_word (n:Nat) {e:Nat} {r:GTr} (h:kidsD e r.values):g_t_reader_word n r=some (wordAt r.values):=by
 obtain ⟨a,vs,g⟩:=r
 unfold g_t_reader_word
 rw [len0]
 cases vs with
 | nil=>rfl
 | cons c r =>
  obtain ⟨y,hy,_⟩:=h c (by simp)
  rw [dzF (by intro h; cases h)]
  show ((((GNode.of c).bind _).bind _))=_
  unfold wordAt
  rw [hy]
  simp only [obs,eqI_d]
  show (bif !decide (y.Kind=5) then _ else ((GNode.of c).bind _))=_
  rw [hy]
  by_cases h6:y.Kind=5
  ·simp [h6]
  ·simp [h6]
theorem le_len (l:List (List PV)) (p:Nat):leI (lenI (List.map idc l)) (p:Int)=decide (l.length≤p):=by
 unfold leI lenI
 rw [List.length_map]
 by_cases h:l.length≤p
 ·rw [dzT h]; exact dzT (by omega)
 ·rw [dzF h]; exact dzF (by omega)
theorem s_number (n:Nat) {e:Nat} {l:List (List PV)} (h:kidsD e l) (p:Nat):g_ref32_number n l (p:Int)=some (match numAt (l.drop p) with | some v=>(v,true) | none=>(0,false)):=by
 unfold g_ref32_number
 rw [le_len]
 by_cases h0:l.length≤p
 ·rw [dzT h0,List.drop_eq_nil_of_le h0]; rfl
 obtain ⟨y,hy,ht,hd,hof⟩:=kid_at h (show p < l.length by omega)
 rw [dzF h0,hy,hd,numAt_c,hof]
 simp only [obs,eqI_d,cond_false]
 by_cases h6:y.Kind=6
 ·simp [h6]
 ·simp [h6]
theorem s_word (n:Nat) {e:Nat} {l:List (List PV)} (h:kidsD e l) (p:Nat):g_ref32_word n l (p:Int)=some (wordAt (l.drop p)):=by
 unfold g_ref32_word
 rw [le_len]
 by_cases h0:l.length≤p
 ·rw [dzT h0,List.drop_eq_nil_of_le h0]; rfl
 obtain ⟨y,hy,ht,hd,hof⟩:=kid_at h (show p < l.length by omega)
 rw [dzF h0,hy,hd,wordAt_c,hof]
 simp only [obs,eqI_d,cond_false,Option.map_some,Option.getD_some]
 by_cases h6:y.Kind=5
 ·simp [h6]
 ·simp [h6]
theorem numAt_pos {l:List (List PV)} {p:Nat} {v:Int} (h:numAt (l.drop p)=some v):p < l.length:=by
 rcases Nat.lt_or_ge p l.length with h1 | h1
 ·exact h1
 ·rw [List.drop_eq_nil_of_le h1] at h; cases h
theorem wordAt_pos {l:List (List PV)} {p:Nat} (h:wordAt (l.drop p) ≠ []):p < l.length:=by
 rcases Nat.lt_or_ge p l.length with h1 | h1
 ·exact h1
 ·rw [List.drop_eq_nil_of_le h1] at h; exact absurd rfl h
def dayV (s:List UInt8):Int:=(g_t_dayOf 0 s).getD 0
theorem t_day (n:Nat) (s:List UInt8):g_t_dayOf n s=some (dayV s):=by
 unfold dayV g_t_dayOf
 simp only [cond_some,Option.getD_some]
theorem s_day (s:List UInt8):(cond (eqS s [119,111,114,107]) (some (1:Int)) (cond (eqS s [115,97,116,117,114,100,97,121]) (some 2) (cond (eqS s [115,117,110,100,97,121]) (some 4) (some 0))))=some (dayV s):=t_day 0 s
theorem dayV_cases (s:List UInt8):dayV s=0∨((dayV s=1∨dayV s=2∨dayV s=4)∧s ≠ []):=by
 have h:dayV s=(bif eqS s [119,111,114,107] then 1 else bif eqS s [115,97,116,117,114,100,97,121] then 2 else bif eqS s [115,117,110,100,97,121] then 4 else 0):=by
  unfold dayV g_t_dayOf
  simp only [cond_some,Option.getD_some]
 by_cases h0:s=[]
 ·subst h0; exact Or.inl rfl
 rw [h]
 cases eqS s [119,111,114,107] <;> cases eqS s [115,97,116,117,114,100,97,121] <;> cases eqS s [115,117,110,100,97,121] <;> simp [h0]
def typD (set:Int):List (List PV)→Option (Int × List (List PV))
 | []=>if set=0 then none else some (set,[])
 | c :: r=>if dayV (wordAt (c :: r))=0 then (if set=0 then none else some (set,c :: r)) else if bAnd .i64 set (dayV (wordAt (c :: r))) ≠ 0 then none else typD (bOr .i64 set (dayV (wordAt (c :: r)))) r
theorem days_arith {set b:Int} (hs:0≤set∧set≤7) (hb:b=1∨b=2∨b=4):(0≤bOr .i64 set b∧bOr .i64 set b≤7)∧(bAnd .i64 set b=0→wi (set+b)=bOr .i64 set b)∧(eqI (Int.tmod (wi (Int.tdiv set b)) 2) 1=!decide (bAnd .i64 set b=0)):=by
 have h8:set=0∨set=1∨set=2∨set=3∨set=4∨set=5∨set=6∨set=7:=by omega
 rcases h8 with rfl | rfl | rfl | rfl | rfl | rfl | rfl | rfl <;> rcases hb with rfl | rfl | rfl <;> decide
theorem s_types {n e:Nat} {l:List (List PV)} (h:kidsD e l) (hl:l.length≤9223372036854775000):∀ (m p k:Nat) (set:Int),l.length - p≤m→m < k→p≤l.length→(0≤set∧set≤7) →
  ∃ s q,loopN (fun recl1 (v:Int × Int)=>g_ref32_types_l1 n l recl1 v.1 v.2) k ((p:Int),set)=some (s,(q:Int))∧(typD set (l.drop p)=none→s=0)∧(∀ r,typD set (l.drop p)=some r→s=r.1∧s ≠ 0∧∃ q':Nat,q=q'∧p≤q'∧q'≤l.length∧l.drop q'=r.2):=by
 intro m
 induction m with
 | zero =>
  intro p k set h1 h2 h3 hs
  obtain ⟨k,rfl⟩:∃ q,k=q+1:=⟨k - 1,by omega⟩
  rw [loopN_s]
  unfold g_ref32_types_l1
  simp only [s_word n h p,obs,s_day]
  have hd:l.drop p=[]:=List.drop_eq_nil_of_le (by omega)
  rw [hd,show dayV (wordAt [])=0 from rfl,show eqI 0 0=true from rfl,cond_true]
  refine ⟨set,p,rfl,?_,?_⟩
  ·unfold typD; split
   ·rename_i h; intro _; exact h
   ·intro h; cases h
  ·unfold typD; split
   ·intro r h; cases h
   ·rename_i h; intro r hr; cases hr; exact ⟨rfl,h,p,rfl,Nat.le_refl _,h3,hd⟩
 | succ m ih =>
  intro p k set h1 h2 h3 hs
  obtain ⟨k,rfl⟩:∃ q,k=q+1:=⟨k - 1,by omega⟩
  rw [loopN_s]
  have hrec:=fun set'=>ih (p+1) k set'
  generalize loopN (fun recl1 (v:Int × Int)=>g_ref32_types_l1 n l recl1 v.1 v.2) k=rec at hrec ⊢
  unfold g_ref32_types_l1
  simp only [s_word n h p,obs,s_day,eqI_d]
  have hcase:=dayV_cases (wordAt (l.drop p))
  by_cases h0:dayV (wordAt (l.drop p))=0
  ·rw [h0,show decide ((0:Int)=0)=true from rfl,cond_true]
   refine ⟨set,p,rfl,?_,?_⟩
   ·cases hd:l.drop p with
    | nil =>
     unfold typD
     split
     ·rename_i h; intro _; exact h
     ·intro h; cases h
    | cons c r =>
     rw [hd] at h0
     unfold typD
     rw [if_pos h0]
     split
     ·rename_i h; intro _; exact h
     ·intro h; cases h
   ·cases hd:l.drop p with
    | nil =>
     unfold typD
     split
     ·intro r h; cases h
     ·rename_i h; intro r hr; cases hr; exact ⟨rfl,h,p,rfl,Nat.le_refl _,h3,hd⟩
    | cons c r =>
     rw [hd] at h0
     unfold typD
     rw [if_pos h0]
     split
     ·intro r h; cases h
     ·rename_i h; intro r hr; cases hr; exact ⟨rfl,h,p,rfl,Nat.le_refl _,h3,hd⟩
  obtain ⟨hb,hne⟩:=hcase.resolve_left h0
  have hp:=wordAt_pos hne
  obtain ⟨a1,a2,a3⟩:=days_arith hs hb
  have hd:=List.drop_eq_getElem_cons hp
  generalize l[p]'hp=c at hd
  have htyp:typD set (l.drop p)=if bAnd .i64 set (dayV (wordAt (l.drop p))) ≠ 0 then none else typD (bOr .i64 set (dayV (wordAt (l.drop p)))) (l.drop (p+1)):=by
   rw [hd] at h0 ⊢
   rw [typD,if_neg h0]
  rw [htyp]
  rw [eqI_d] at a3
  rw [dzF h0,a3,wi_id (x:=(p:Int)+1) (by omega) (by omega)]
  simp only [cond_false,Bool.not_false,cond_true]
  by_cases hand:bAnd .i64 set (dayV (wordAt (l.drop p)))=0
  ·rw [dzT hand,if_neg (by simpa using hand),a2 hand]
   obtain ⟨s,q,e1,e2,e3⟩:=hrec (bOr .i64 set (dayV (wordAt (l.drop p)))) (by omega) (by omega) (by omega) a1
   refine ⟨s,q,?_,e2,?_⟩
   ·rw [← e1]; simp only [Bool.not_true,cond_false]; congr 2
   ·intro r hr
    obtain ⟨f1,f2,q',f3,f4,f5,f6⟩:=e3 r hr
    exact ⟨f1,f2,q',f3,by omega,f5,f6⟩
  ·rw [dzF hand,if_pos hand]
   exact ⟨0,p,rfl,fun _=>rfl,fun r hr=>by cases hr⟩
theorem t_days_bad {n e:Nat} {r:GTr}:∀ (k:Nat) (b d:Int) (vs:List (List PV)),kidsD e vs→(d ≠ 0→vs ≠ [])→vs.length < k→∃ q,loopN (fun recl4 (v:Int × Int × (List (List PV)) × Bool)=>g_t_reader_days_l4 n r recl4 v.1 v.2.1 v.2.2.1 v.2.2.2) k (b,d,vs,false)=some q∧q.2.2=false
 | 0,_,_,_,_,_,h=>absurd h (Nat.not_lt_zero _)
 | k+1,b,d,vs,hk,hd,h=>by
  rw [loopN_s]
  have hrec:=t_days_bad (n:=n) (e:=e) (r:=r) k
  generalize loopN (fun recl4 (v:Int × Int × (List (List PV)) × Bool)=>g_t_reader_days_l4 n r recl4 v.1 v.2.1 v.2.2.1 v.2.2.2) k=rec at hrec ⊢
  unfold g_t_reader_days_l4
  simp only [eqI_d]
  by_cases h0:d=0
  ·rw [dzT h0]; exact ⟨_,rfl,rfl⟩
  rw [dzF h0,slice1 (hd h0),drop1]
  have hpos:=List.length_pos_iff.2 (hd h0)
  have hw:=t_word n (r:=⟨r.article,vs.drop 1,false⟩) (kidsD_drop hk)
  simp only [cond_some,obs,Bool.not_false,cond_true]
  rw [show (bif !decide (bAnd .i64 b d=0) then false else false)=false from by cases decide (bAnd .i64 b d=0) <;> rfl,hw,obs,t_day,obs]
  refine hrec _ _ _ (kidsD_drop hk) (fun h=>?_) (by rw [List.length_drop]; omega)
  rcases dayV_cases (wordAt (vs.drop 1)) with h1 | h1
  ·exact absurd h1 h
  ·intro h2
   rw [h2] at h1
   exact h1.2 rfl
theorem t_days_loop {n e:Nat} {r:GTr}:∀ (k:Nat) (b:Int) (vs:List (List PV)) (g:Bool),kidsD e vs→vs.length < k→(0≤b∧b≤7) →
  ∃ q,loopN (fun recl4 (v:Int × Int × (List (List PV)) × Bool)=>g_t_reader_days_l4 n r recl4 v.1 v.2.1 v.2.2.1 v.2.2.2) k (b,dayV (wordAt vs),vs,g)=some q∧(typD b vs=none→q.2.2=false∨q.1=0)∧(∀ z,typD b vs=some z→q=(z.1,z.2,g)∧z.1 ≠ 0)
 | 0,_,_,_,_,h,_=>absurd h (Nat.not_lt_zero _)
 | k+1,b,vs,g,hk,h,hs=>by
  have hrec:=fun (vs':List (List PV)) (h':kidsD e vs') (hl:vs'.length < k) b' hb'=>t_days_loop (n:=n) (e:=e) (r:=r) k b' vs' g h' hl hb'
  have hbad:=fun b' d' (vs':List (List PV))=>t_days_bad (n:=n) (e:=e) (r:=r) k b' d' vs'
  rw [loopN_s]
  generalize loopN (fun recl4 (v:Int × Int × (List (List PV)) × Bool)=>g_t_reader_days_l4 n r recl4 v.1 v.2.1 v.2.2.1 v.2.2.2) k=rec at hrec hbad ⊢
  unfold g_t_reader_days_l4
  simp only [eqI_d]
  by_cases h0:dayV (wordAt vs)=0
  ·rw [h0]
   simp only [decide_true,Bool.not_true,cond_false]
   refine ⟨(b,vs,g),rfl,?_,?_⟩
   ·cases vs with
    | nil =>
     unfold typD
     split
     ·rename_i h; intro _; exact Or.inr h
     ·intro h; cases h
    | cons c r =>
     unfold typD
     rw [if_pos h0]
     split
     ·rename_i h; intro _; exact Or.inr h
     ·intro h; cases h
   ·cases vs with
    | nil =>
     unfold typD
     split
     ·intro r h; cases h
     ·rename_i h; intro r hr; cases hr; exact ⟨rfl,h⟩
    | cons c r =>
     unfold typD
     rw [if_pos h0]
     split
     ·intro r h; cases h
     ·rename_i h; intro r hr; cases hr; exact ⟨rfl,h⟩
  obtain ⟨hb,hne⟩:=(dayV_cases (wordAt vs)).resolve_left h0
  have hv:vs ≠ []:=by rintro rfl; exact hne rfl
  have hpos:=List.length_pos_iff.2 hv
  obtain ⟨a1,a2,a3⟩:=days_arith hs hb
  have htyp:typD b vs=if bAnd .i64 b (dayV (wordAt vs)) ≠ 0 then none else typD (bOr .i64 b (dayV (wordAt vs))) (vs.drop 1):=by
   cases vs with
   | nil=>exact absurd rfl hv
   | cons c r=>rw [typD,if_neg h0]; rfl
  rw [htyp,dzF h0,slice1 hv,drop1]
  have hw:=fun g'=>t_word n (r:=⟨r.article,vs.drop 1,g'⟩) (kidsD_drop hk)
  simp only [Bool.not_false,cond_true,cond_some,obs]
  by_cases hand:bAnd .i64 b (dayV (wordAt vs))=0
  ·rw [dzT hand,if_neg (by simpa using hand)]
   simp only [Bool.not_true,cond_false]
   rw [hw,obs,t_day,obs]
   exact hrec (vs.drop 1) (kidsD_drop hk) (by rw [List.length_drop]; omega) _ a1
  ·rw [dzF hand,if_pos hand]
   simp only [Bool.not_false,cond_true]
   rw [hw,obs,t_day,obs]
   obtain ⟨q,e1,e2⟩:=hbad (bOr .i64 b (dayV (wordAt vs))) (dayV (wordAt (vs.drop 1))) (vs.drop 1) (kidsD_drop hk) (fun h=>by
    rcases dayV_cases (wordAt (vs.drop 1)) with h1 | h1
    ·exact absurd h1 h
    ·intro h2
     rw [h2] at h1
     exact h1.2 rfl) (by rw [List.length_drop]; omega)
   exact ⟨q,e1,fun _=>Or.inl e2,fun z hz=>by cases hz⟩
theorem t_days {n e:Nat} {r:GTr} (hk:kidsD e r.values) (h:r.values.length < n):∃ q,g_t_reader_days n r=some q∧(typD 0 r.values=none→q.2.good=false)∧(∀ z,typD 0 r.values=some z→q=(z.1,⟨r.article,z.2,r.good⟩)):=by
 obtain ⟨q,e1,e2,e3⟩:=t_days_loop (n:=n) (r:=r) n 0 r.values r.good hk h (by omega)
 unfold g_t_reader_days
 rw [t_word n hk,obs,t_day,obs]
 have e1':loopN (fun recl4 (x:Int × Int × List (List PV) × Bool)=>match x with | (l4_1,l4_2,l4_3,l4_4)=>g_t_reader_days_l4 n r recl4 l4_1 l4_2 l4_3 l4_4) n (0,dayV (wordAt r.values),r.values,r.good)=some q:=e1
 rw [e1',obs]
 obtain ⟨b,vs,g⟩:=q
 simp only [eqI_d] at e2 e3 ⊢
 by_cases h0:b=0
 ·rw [dzT h0]
  refine ⟨_,rfl,fun _=>rfl,fun z hz=>?_⟩
  obtain ⟨f1,f2⟩:=e3 z hz
  cases f1
  exact absurd h0 f2
 ·rw [dzF h0]
  refine ⟨_,rfl,fun hn=>(e2 hn).resolve_right h0,fun z hz=>?_⟩
  obtain ⟨f1,f2⟩:=e3 z hz
  cases f1
  rfl
end Go.Proofs
namespace Go.Proofs
open Go Go.Abs
set_option maxRecDepth 100000
set_option linter.unusedVariables false
theorem eqS_ne {a b:List UInt8} (h:a ≠ b):eqS a b=false:=by
 unfold eqS
 simpa using h
abbrev TSt:Type:=Bool × Int × Int × Int × Int × Int × Int × Int × (List (List PV)) × Bool × Bool × Bool × Bool × Bool
abbrev RSt:Type:=Bool × Bool × Bool × Bool × Int × Int × Int × Int × Int × Int
def tB (n:Nat) (rec:TSt→Option (GAr × Bool)) (v:TSt):Option (GAr × Bool) :=
 g_t_read_l11 n rec v.1 v.2.1 v.2.2.1 v.2.2.2.1 v.2.2.2.2.1 v.2.2.2.2.2.1 v.2.2.2.2.2.2.1 v.2.2.2.2.2.2.2.1 v.2.2.2.2.2.2.2.2.1 v.2.2.2.2.2.2.2.2.2.1 v.2.2.2.2.2.2.2.2.2.2.1 v.2.2.2.2.2.2.2.2.2.2.2.1 v.2.2.2.2.2.2.2.2.2.2.2.2.1 v.2.2.2.2.2.2.2.2.2.2.2.2.2
def rB (n:Nat) (x:GNode) (r2:Int) (r3:Int × Bool) (j4 j6:Bool) (rec:RSt→Option (GAr × Bool)) (v:RSt):Option (GAr × Bool) :=
 g_ref32_read_l10 n x r2 r3 j4 j6 rec v.1 v.2.1 v.2.2.1 v.2.2.2.1 v.2.2.2.2.1 v.2.2.2.2.2.1 v.2.2.2.2.2.2.1 v.2.2.2.2.2.2.2.1 v.2.2.2.2.2.2.2.2.1 v.2.2.2.2.2.2.2.2.2
theorem tB_bad (n:Nat) (rec:TSt→Option (GAr × Bool)) (p:Bool) (k d f t pr u fr:Int) (vs:List (List PV)) (a b c e:Bool):tB n rec (p,k,d,f,t,pr,u,fr,vs,false,a,b,c,e)=some (⟨k,d,f,t,pr,u,fr⟩,false):=rfl
theorem read_lock {n e:Nat} {x:GNode} (hk:kidsD e x.Kids) (hlen:x.Kids.length≤1500) (hn:1000000≤n) (K pr r2:Int) (r3:Int × Bool) (hK:wi (r2+1)=K) (h3:r3.1=pr) (hK0:K ≠ 0) (long flat:Bool) :
  ∀ (m p k1 k2:Nat) (per fr on bt:Bool) (D F T U Fr:Int),x.Kids.length - p≤m→m < k1→m < k2→p≤x.Kids.length →
  ∃ a a' g,loopN (tB n) k1 (!long||per,K,D,F,T,pr,U,Fr,x.Kids.drop p,true,long&&!per,long&&!fr,!flat&&!on,!flat&&!bt)=some (a,g)∧loopN (rB n x r2 r3 long flat) k2 (per,fr,on,bt,(p:Int),D,F,T,U,Fr)=some (a',g)∧(g=true→a=a'):=by
 intro m
 induction m with
 | zero =>
  intro p k1 k2 per fr on bt D F T U Fr h1 h2 h4 h5
  obtain ⟨k1,rfl⟩:∃ q,k1=q+1:=⟨k1 - 1,by omega⟩
  obtain ⟨k2,rfl⟩:∃ q,k2=q+1:=⟨k2 - 1,by omega⟩
  rw [loopN_s,loopN_s]
  have hd:x.Kids.drop p=[]:=List.drop_eq_nil_of_le (by omega)
  unfold tB rB g_t_read_l11 g_ref32_read_l10 g_t_read_j8 g_ref32_read_j8
  simp only [hd]
  rw [show ltI (p:Int) (lenI (List.map idc x.Kids))=false from ltI_f (by simp only [lenI,List.length_map]; omega),hK,h3]
  rw [show ltI 0 (lenI (List.map idc []))=false from rfl]
  simp only [cond_true,cond_false,obs,eqI_d]
  rw [dzF hK0]
  cases long <;> cases per <;> exact ⟨_,_,_,rfl,rfl,fun _=>rfl⟩
 | succ m ih =>
  intro p k1 k2 per fr on bt D F T U Fr h1 h2 h4 h5
  by_cases hp:p < x.Kids.length
  rotate_left
  ·exact ih p k1 k2 per fr on bt D F T U Fr (by omega) (by omega) (by omega) h5
  obtain ⟨k1,rfl⟩:∃ q,k1=q+1+1:=⟨k1 - 2,by omega⟩
  obtain ⟨k2,rfl⟩:∃ q,k2=q+1:=⟨k2 - 1,by omega⟩
  rw [loopN_s (n:=k1+1),loopN_s (n:=k2)]
  have hrec:=fun (p':Nat) (hp':p < p') (hp2:p'≤x.Kids.length) per fr on bt D F T U Fr=>ih p' (k1+1) k2 per fr on bt D F T U Fr (by omega) (by omega) (by omega) hp2
  have hbad:∀ (p:Bool) (k d f t pr u fr:Int) (vs:List (List PV)) (a b c e:Bool),loopN (tB n) (k1+1) (p,k,d,f,t,pr,u,fr,vs,false,a,b,c,e)=some (⟨k,d,f,t,pr,u,fr⟩,false):=by
   intro p k d f t pr u fr vs a b c e
   rw [loopN_s]
   rfl
  generalize loopN (tB n) (k1+1)=tr at hrec hbad ⊢
  generalize loopN (rB n x r2 r3 long flat) k2=rr at hrec ⊢
  have hv:x.Kids.drop p ≠ []:=by
   rw [List.drop_eq_getElem_cons hp]; intro h; cases h
  have hkp:kidsD e (x.Kids.drop p):=fun k hk'=>hk k (List.mem_of_mem_drop hk')
  have hd1:(x.Kids.drop p).drop 1=x.Kids.drop (p+1):=List.drop_drop
  have hd2:(x.Kids.drop (p+1)).drop 1=x.Kids.drop (p+2):=List.drop_drop
  have hd3:(x.Kids.drop (p+2)).drop 1=x.Kids.drop (p+3):=List.drop_drop
  have hk1:kidsD e (x.Kids.drop (p+1)):=fun k hk'=>hk k (List.mem_of_mem_drop hk')
  have hk2:kidsD e (x.Kids.drop (p+2)):=fun k hk'=>hk k (List.mem_of_mem_drop hk')
  have hl1:ltI 0 (lenI (List.map idc (x.Kids.drop p)))=true:=by rw [lt0,dzF hv]; rfl
  have hl2:ltI (p:Int) (lenI (List.map idc x.Kids))=true:=ltI_t (by simp only [lenI,List.length_map]; omega)
  have w1:wi ((p:Int)+1)=((p+1:Nat):Int):=by rw [wi_id (by omega) (by omega)]; omega
  have w2:wi ((p:Int)+2)=((p+2:Nat):Int):=by rw [wi_id (by omega) (by omega)]; omega
  have w3:wi ((p:Int)+3)=((p+3:Nat):Int):=by rw [wi_id (by omega) (by omega)]; omega
  have hw:=fun a=>t_word n (r:=⟨a,x.Kids.drop p,true⟩) hkp
  have hnum:=fun a=>t_number n (r:=⟨a,x.Kids.drop (p+1),true⟩) hk1
  have hnum2:=fun a g=>t_number n (r:=⟨a,x.Kids.drop (p+2),g⟩) hk2
  have hnumb:=fun a g=>t_number n (r:=⟨a,x.Kids.drop (p+1),g⟩) hk1
  unfold tB rB g_t_read_l11 g_ref32_read_l10
  simp only [hl1,hl2,cond_true,obs,slice1 hv,drop1,hd1,w1,w2,w3,s_number n hk,s_word n hk,hw,cond_some]
  generalize hW:wordAt (x.Kids.drop p)=w
  have hno:∀ (g:Bool) (a a':GAr),g=false→∃ b b' h,some (a,g)=some (b,h)∧some (a',g)=some (b',h)∧(h=true→b=b'):=fun g a a' hg=>⟨a,a',g,rfl,rfl,fun h=>by rw [hg] at h; cases h⟩
  by_cases c1:w=perW
  ·subst c1
   simp only [show eqS perW [112,101,114]=true from rfl,show eqS perW [102,114,101,101]=false from rfl,show eqS perW [111,110]=false from rfl,show eqS perW [98,101,116,119,101,101,110]=false from rfl,Bool.true_and,Bool.false_and,cond_true,cond_false]
   rw [hnum]
   cases long
   ·exact hno false _ _ rfl
   cases per
   rotate_left
   ·exact hno false _ _ rfl
   cases hN:numAt (x.Kids.drop (p+1)) with
   | none=>exact ⟨_,_,_,hbad _ _ _ _ _ _ _ _ _ _ _ _ _,rfl,fun h=>by cases h⟩
   | some v =>
    have:=hrec (p+2) (by omega) (by have:=numAt_pos hN; omega) true fr on bt D F T v Fr
    rw [← hd2] at this
    exact this
  by_cases c2:w=freeW
  ·subst c2
   simp only [show eqS freeW [112,101,114]=false from rfl,show eqS freeW [102,114,101,101]=true from rfl,show eqS freeW [111,110]=false from rfl,show eqS freeW [98,101,116,119,101,101,110]=false from rfl,Bool.true_and,Bool.false_and,cond_true,cond_false]
   rw [hnum]
   cases long
   ·exact hno false _ _ rfl
   cases fr
   rotate_left
   ·exact hno false _ _ rfl
   cases hN:numAt (x.Kids.drop (p+1)) with
   | none=>exact ⟨_,_,_,hbad _ _ _ _ _ _ _ _ _ _ _ _ _,rfl,fun h=>by cases h⟩
   | some v =>
    have:=hrec (p+2) (by omega) (by have:=numAt_pos hN; omega) per true on bt D F T U v
    rw [← hd2] at this
    cases per <;> exact this
  by_cases c3:w=onW
  ·subst c3
   simp only [show eqS onW [112,101,114]=false from rfl,show eqS onW [102,114,101,101]=false from rfl,show eqS onW [111,110]=true from rfl,show eqS onW [98,101,116,119,101,101,110]=false from rfl,Bool.true_and,Bool.false_and,cond_true,cond_false]
   obtain ⟨q,e1,e2,e3⟩:=t_days (n:=n) (r:=⟨⟨K,D,F,T,pr,U,Fr⟩,x.Kids.drop (p+1),true⟩) hk1 (by simp only [List.length_drop]; omega)
   obtain ⟨s,qq,f1,f2,f3⟩:=s_types (n:=n) hk (by omega) x.Kids.length (p+1) n 0 (by omega) (by omega) (by omega) (by omega)
   have f1':g_ref32_types n x.Kids ((p+1:Nat):Int)=some (s,qq):=by unfold g_ref32_types; exact f1
   rw [e1,f1']
   cases flat
   rotate_left
   ·exact hno false _ _ rfl
   cases on
   rotate_left
   ·exact hno false _ _ rfl
   simp only at e2 e3
   cases hT:typD 0 (x.Kids.drop (p+1)) with
   | none =>
    obtain ⟨b,a,vs,g⟩:=q
    have hg:g=false:=e2 hT
    have hs:s=0:=f2 hT
    subst hg hs
    exact ⟨_,_,_,hbad _ _ _ _ _ _ _ _ _ _ _ _ _,rfl,fun h=>by cases h⟩
   | some z =>
    have hq:=e3 z hT
    obtain ⟨g1,g2,q',g3,g4,g5,g6⟩:=f3 z hT
    subst hq
    obtain ⟨z1,z2⟩:=z
    simp only at g1 g6
    subst g1 g6 g3
    have:=hrec q' (by omega) g5 per fr true bt s F T U Fr
    have hs0:eqI s 0=false:=by rw [eqI_d]; exact dzF g2
    simp only [obs,hs0]
    cases long <;> cases per <;> exact this
  by_cases c4:w=betW
  ·subst c4
   simp only [show eqS betW [112,101,114]=false from rfl,show eqS betW [102,114,101,101]=false from rfl,show eqS betW [111,110]=false from rfl,show eqS betW [98,101,116,119,101,101,110]=true from rfl,Bool.true_and,Bool.false_and,cond_true,cond_false]
   rw [hnum]
   cases flat
   rotate_left
   ·exact hno false _ _ rfl
   cases bt
   rotate_left
   ·exact hno false _ _ rfl
   cases hN:numAt (x.Kids.drop (p+1)) with
   | none =>
    simp only [obs,Bool.not_false,Bool.and_self,cond_true,cond_false]
    rw [hnumb,hN]
    exact ⟨_,_,_,hbad _ _ _ _ _ _ _ _ _ _ _ _ _,rfl,fun h=>by cases h⟩
   | some v =>
    simp only [obs,Bool.not_false,Bool.and_self,cond_true,hd2]
    rw [hnum2]
    cases hN2:numAt (x.Kids.drop (p+2)) with
    | none=>exact ⟨_,_,_,hbad _ _ _ _ _ _ _ _ _ _ _ _ _,rfl,fun h=>by cases h⟩
    | some u =>
     have:=hrec (p+3) (by omega) (by have:=numAt_pos hN2; omega) per fr on true D v u U Fr
     rw [← hd3] at this
     cases long <;> cases per <;> exact this
  have n1:eqS w [112,101,114]=false:=eqS_ne c1
  have n2:eqS w [102,114,101,101]=false:=eqS_ne c2
  have n3:eqS w [111,110]=false:=eqS_ne c3
  have n4:eqS w [98,101,116,119,101,101,110]=false:=eqS_ne c4
  simp only [n1,n2,n3,n4,Bool.false_and,cond_false]
  exact hno false _ _ rfl
end Go.Proofs
namespace Go.Proofs
open Go Go.Abs
set_option maxRecDepth 100000
set_option linter.unusedVariables false
theorem eqS_comm (a b:List UInt8):eqS a b=eqS b a:=by
 unfold eqS
 by_cases h:a=b
 ·subst h; rfl
 ·rw [show (a == b)=false from by simpa using h,show (b == a)=false from by simpa using fun e=>h e.symm]
def artI (s:List UInt8):Int:=bif eqS [115,116,97,114,116] s then 0 else bif eqS [101,110,101,114,103,121] s then 1 else bif eqS [116,105,109,101] s then 2 else bif eqS [105,100,108,101] s then 3 else bif eqS [99,97,112] s then 4 else bif eqS [116,97,120] s then 5 else -1
theorem in_art (n:Nat) (s:List UInt8):g_ref02_In (n+7) ((g_ref02_Articles 0).getD []) s=some (artI s):=by
 have h:g_ref02_In (n+7) ((g_ref02_Articles 0).getD []) s=(bif eqS [115,116,97,114,116] s then some 0 else bif eqS [101,110,101,114,103,121] s then some 1 else bif eqS [116,105,109,101] s then some 2 else bif eqS [105,100,108,101] s then some 3 else bif eqS [99,97,112] s then some 4 else bif eqS [116,97,120] s then some 5 else some (-1)):=by kernel_rfl
 rw [h]
 unfold artI
 simp only [cond_some]
theorem kind_art (n:Nat) (s:List UInt8):g_t_kindOf n s=some (wi (artI s+1)):=by
 unfold g_t_kindOf artI
 rw [eqS_comm s [115,116,97,114,116],eqS_comm s [101,110,101,114,103,121],eqS_comm s [116,105,109,101],eqS_comm s [105,100,108,101],eqS_comm s [99,97,112],eqS_comm s [116,97,120]]
 cases eqS [115,116,97,114,116] s
 ·cases eqS [101,110,101,114,103,121] s
  ·cases eqS [116,105,109,101] s
   ·cases eqS [105,100,108,101] s
    ·cases eqS [99,97,112] s
     ·cases eqS [116,97,120] s <;> rfl
     ·rfl
    ·rfl
   ·rfl
  ·rfl
 ·rfl
theorem artNB_kind {s:List UInt8} (h:artNB s=true):wi (artI s+1) ≠ 0:=by
 have h1:artNB s=(eqS [115,116,97,114,116] s||(eqS [101,110,101,114,103,121] s||(eqS [116,105,109,101] s||(eqS [105,100,108,101] s||(eqS [99,97,112] s||eqS [116,97,120] s))))):=by
  unfold artNB g_ref02_Articles
  simp only [Option.getD_some,List.contains_cons,List.contains_nil,Bool.or_false]
  rw [eqS_comm [115,116,97,114,116] s,eqS_comm [101,110,101,114,103,121] s,eqS_comm [116,105,109,101] s,eqS_comm [105,100,108,101] s,eqS_comm [99,97,112] s,eqS_comm [116,97,120] s]
  rfl
 rw [h1] at h
 unfold artI
 generalize eqS [115,116,97,114,116] s=b1 at h ⊢
 generalize eqS [101,110,101,114,103,121] s=b2 at h ⊢
 generalize eqS [116,105,109,101] s=b3 at h ⊢
 generalize eqS [105,100,108,101] s=b4 at h ⊢
 generalize eqS [99,97,112] s=b5 at h ⊢
 generalize eqS [116,97,120] s=b6 at h ⊢
 clear h1
 revert b1 b2 b3 b4 b5 b6
 decide
theorem t_read_eq (n:Nat) (x:GNode) (K pr:Int) (vs:List (List PV)) (g:Bool) (h1:g_t_kindOf n x.Name=some K) (h2:g_t_reader_number n ⟨⟨K,7,0,1440,0,0,0⟩,x.Kids,true⟩=some (pr,⟨⟨K,7,0,1440,0,0,0⟩,vs,g⟩)) :
  g_t_read n x=loopN (tB n) n (!(eqI K 3||eqI K 4),K,7,0,1440,pr,0,0,vs,g,eqI K 3||eqI K 4,eqI K 3||eqI K 4,!(eqI K 5||eqI K 6),!(eqI K 5||eqI K 6)):=by
 have e1:g_t_isTime n K=some (eqI K 3||eqI K 4):=by
  unfold g_t_isTime
  cases eqI K 3 <;> rfl
 have e2:g_t_isWhole n K=some (eqI K 5||eqI K 6):=by
  unfold g_t_isWhole
  cases eqI K 5 <;> rfl
 generalize (eqI K 3||eqI K 4)=a at e1 ⊢
 generalize (eqI K 5||eqI K 6)=b at e2 ⊢
 unfold g_t_read
 rw [h1,obs,h2,obs]
 show (((g_t_isTime n K).bind fun r4=>cond r4 (some true) (some false)).bind fun j3=>((g_t_isWhole n K).bind fun r6=>cond (!r6) (some true) (some false)).bind fun j5=>(g_t_isTime n K).bind fun r7=>loopN (tB n) n (!r7,K,7,0,1440,pr,0,0,vs,g,j3,j3,j5,j5))=_
 rw [e1,e2]
 cases a <;> cases b <;> rfl
theorem read_same {n d:Nat} {x:GNode} (ht:treeD d x) (hn:1000000≤n) (hlen:x.Kids.length≤1500) (ha:artNB x.Name=true) :
  ∃ a a' g,g_t_read n x=some (a,g)∧g_ref32_read n x=some (a',g)∧(g=true→a=a'):=by
 obtain ⟨e,rfl,hl,_,hk⟩:=tree_kids ht
 obtain ⟨q,rfl⟩:∃ q,n=q+7:=⟨n - 7,by omega⟩
 have hK0:=artNB_kind ha
 have hin:=in_art q x.Name
 have hkind:=kind_art (q+7) x.Name
 generalize hr2:artI x.Name=r2 at hK0 hin hkind
 generalize hKK:wi (r2+1)=K at hK0 hkind
 have hnum:=t_number (q+7) (r:=⟨⟨K,7,0,1440,0,0,0⟩,x.Kids,true⟩) hk
 have hsn:g_ref32_number (q+7) x.Kids 0=some (match numAt x.Kids with | some v=>(v,true) | none=>(0,false)):=s_number (q+7) hk 0
 generalize hnn:q+7=n at *
 cases hN:numAt x.Kids with
 | none =>
  rw [hN] at hnum hsn
  rw [t_read_eq n x K 0 x.Kids false hkind hnum]
  refine ⟨⟨K,7,0,1440,0,0,0⟩,⟨wi (r2+1),7,0,1440,0,0,0⟩,false,?_,?_,fun h=>by cases h⟩
  ·obtain ⟨k,rfl⟩:∃ k,n=k+1:=⟨n - 1,by omega⟩
   rw [loopN_s]
   exact tB_bad _ _ _ _ _ _ _ _ _ _ _ _ _ _ _
  ·unfold g_ref32_read
   rw [show g_ref02_Articles n=some ((g_ref02_Articles 0).getD []) from rfl,obs,hin,obs,hsn,obs]
   rfl
 | some pr =>
  rw [hN] at hnum hsn
  rw [t_read_eq n x K pr (x.Kids.drop 1) true hkind hnum]
  have hp:=numAt_pos (l:=x.Kids) (p:=0) hN
  obtain ⟨a,a',g,h1,h2,h3⟩:=read_lock (x:=x) hk hlen hn K pr r2 (pr,true) hKK rfl hK0 (eqI K 3||eqI K 4) (eqI K 5||eqI K 6) x.Kids.length 1 n n false false false false 7 0 1440 0 0 (by omega) (by omega) (by omega) (by omega)
  refine ⟨a,a',g,?_,?_,h3⟩
  ·generalize (eqI K 3||eqI K 4)=lg at h1 ⊢
   generalize (eqI K 5||eqI K 6)=fl at h1 ⊢
   cases lg <;> cases fl <;> exact h1
  ·unfold g_ref32_read
   rw [show g_ref02_Articles n=some ((g_ref02_Articles 0).getD []) from rfl,obs,hin,obs,hsn,obs]
   simp only [cond_some,obs,Bool.not_true,cond_false]
   rw [hKK]
   rw [show (bif eqI K 3 then true else eqI K 4)=(eqI K 3||eqI K 4) from by cases eqI K 3 <;> rfl,show (bif eqI K 5 then true else eqI K 6)=(eqI K 5||eqI K 6) from by cases eqI K 5 <;> rfl]
   exact h2
def artsOk (x:GNode):Prop:=∀ k ∈ kidsL x.Kids,k.Kids.length≤1500∧(k.Kind ≠ 3→artNB k.Name=true)
theorem arts_same {n d:Nat} {x:GNode} (ht:treeD d x) (hn:1000000≤n) (hlen:x.Kids.length≤1500) (hok:artsOk x) :
  ∃ r r',g_t_articles n x=some r∧g_ref32_build n x=some r'∧r'.2=r.2∧(r.2.Err=0→r'.1=⟨x.Name,r.1⟩∧r.1.length≤12):=by
 obtain ⟨e,rfl,hl,_,hk⟩:=tree_kids ht
 have key:∀ (m i k1 k2:Nat) (out:List GAr) (tax:Bool),i+m=x.Kids.length→m < k1→m < k2→out.length≤12 →
   ∃ r r',loopN (fun recl1 (v:(List GAr) × Bool × Int)=>g_t_articles_l1 n x recl1 v.1 v.2.1 v.2.2) k1 (out,tax,(i:Int))=some r∧loopN (fun recl1 (v:Bool × Int × (List GAr))=>g_ref32_build_l1 n x recl1 v.1 v.2.1 v.2.2) k2 (tax,(i:Int),out)=some r'∧r'.2=r.2∧(r.2.Err=0→r'.1=⟨x.Name,r.1⟩∧r.1.length≤12):=by
  intro m
  induction m with
  | zero =>
   intro i k1 k2 out tax h1 h2 h3 h4
   obtain ⟨k1,rfl⟩:∃ q,k1=q+1:=⟨k1 - 1,by omega⟩
   obtain ⟨k2,rfl⟩:∃ q,k2=q+1:=⟨k2 - 1,by omega⟩
   rw [loopN_s,loopN_s]
   unfold g_t_articles_l1 g_ref32_build_l1
   simp only
   rw [show ltI (i:Int) (lenI (List.map idc x.Kids))=false from ltI_f (by simp only [lenI,List.length_map]; omega)]
   exact ⟨_,_,rfl,rfl,rfl,fun _=>⟨rfl,h4⟩⟩
  | succ m ih =>
   intro i k1 k2 out tax h1 h2 h3 h4
   obtain ⟨k1,rfl⟩:∃ q,k1=q+1:=⟨k1 - 1,by omega⟩
   obtain ⟨k2,rfl⟩:∃ q,k2=q+1:=⟨k2 - 1,by omega⟩
   rw [loopN_s (n:=k1),loopN_s (n:=k2)]
   have hrec:=fun out tax=>ih (i+1) k1 k2 out tax (by omega) (by omega) (by omega)
   generalize loopN (fun recl1 (v:(List GAr) × Bool × Int)=>g_t_articles_l1 n x recl1 v.1 v.2.1 v.2.2) k1=tr at hrec ⊢
   generalize loopN (fun recl1 (v:Bool × Int × (List GAr))=>g_ref32_build_l1 n x recl1 v.1 v.2.1 v.2.2) k2=rr at hrec ⊢
   obtain ⟨y,hy,hty,hc⟩:=kidL_at hk (show i < x.Kids.length by omega)
   obtain ⟨ho1,ho2⟩:=hok y (by
    have:y ∈ kidsL (x.Kids.drop i):=by rw [hc]; simp
    obtain ⟨c,h5,h6⟩:=List.mem_filterMap.1 this
    exact List.mem_filterMap.2 ⟨c,List.mem_of_mem_drop h5,h6⟩)
   have w1:wi ((i:Int)+1)=((i+1:Nat):Int):=by rw [wi_id (by omega) (by omega)]; omega
   unfold g_t_articles_l1 g_ref32_build_l1
   simp only [w1]
   rw [show ltI (i:Int) (lenI (List.map idc x.Kids))=true from ltI_t (by simp only [lenI,List.length_map]; omega),hy]
   simp only [cond_true,obs]
   by_cases k3:y.Kind=3
   ·rw [eqI_d,dzT k3]
    exact ⟨_,_,rfl,rfl,rfl,fun h=>by cases h⟩
   rw [eqI_d,dzF k3]
   simp only [cond_false]
   by_cases k12:out.length=12
   ·rw [show eqI (lenI (List.map GAr.cs out)) 12=true from by rw [eqI_d]; exact dzT (by simp only [lenI,List.length_map]; omega)]
    exact ⟨_,_,rfl,rfl,rfl,fun h=>by cases h⟩
   rw [show eqI (lenI (List.map GAr.cs out)) 12=false from by rw [eqI_d]; exact dzF (by simp only [lenI,List.length_map]; omega)]
   simp only [cond_false]
   obtain ⟨a,a',g,e1,e2,e3⟩:=read_same hty hn ho1 (ho2 k3)
   rw [e1,e2]
   simp only [obs]
   cases g
   ·exact ⟨_,_,rfl,rfl,rfl,fun h=>by cases h⟩
   obtain rfl:=e3 rfl
   rw [b_article,r_article]
   simp only [obs,Bool.not_true,cond_false]
   cases artB a
   ·exact ⟨_,_,rfl,rfl,rfl,fun h=>by cases h⟩
   have hroom:roomB (out++[a]).length 56=true:=by unfold roomB; rw [List.length_append]; exact dzT (by simp; omega)
   have hl2:(out++[a]).length≤12:=by rw [List.length_append]; simp; omega
   rw [hroom]
   cases eqI a.Kind 6
   ·cases tax
    ·exact hrec (out++[a]) false hl2
    ·exact hrec (out++[a]) true hl2
   ·cases tax
    ·exact hrec (out++[a]) true hl2
    ·exact ⟨_,_,rfl,rfl,rfl,fun h=>by cases h⟩
 exact key x.Kids.length 0 n n [] false (by omega) (by omega) (by omega) (by simp)
end Go.Proofs
namespace Go.Proofs
open Go Go.Abs
set_option maxRecDepth 100000
set_option linter.unusedVariables false
theorem r_inL {n:Nat} {l:List (List UInt8)} {s:List UInt8} (hl:l.length≤9223372036854775807) (hn:l.length < n):Does (g_ref02_In n l s) (fun r=>leI 0 r=l.contains s):=by
 unfold g_ref02_In
 have:=does_idx (B:=fun recl1 l1=>g_ref02_In_l1 l s recl1 l1) (n:=n) (L:=l.length) (fun i r=>leI 0 r=(l.drop i).contains s) hl (fun rec i hi hr=>?_) 0 (by omega) (by omega)
 ·exact this
 unfold g_ref02_In_l1
 simp only [lenI,List.length_map,ltI]
 by_cases c1:i < l.length
 rotate_left
 ·rw [dzF (by omega),cond_false,List.drop_eq_nil_of_le (by omega)]; exact does_some rfl
 obtain ⟨w1,w2⟩:=hr c1
 rw [dzT (by omega),cond_true,getI_nat,List.getElem?_eq_getElem c1,obs,w1,List.drop_eq_getElem_cons c1,List.contains_cons]
 generalize l[i]'c1=y
 unfold eqS
 by_cases h:y=s
 ·subst h
  rw [beq_self_eq_true,cond_true]
  exact does_some (by rw [Bool.true_or]; exact dzT (by omega))
 ·rw [show (y == s)=false from by simpa using h,show (s == y)=false from by simpa using fun e=>h e.symm,cond_false,Bool.false_or]
  exact w2
theorem mg_set (s k:List UInt8):∀ m:List (List UInt8 × Bool),mgetD me_msb s false (mset me_msb k true m)=(mgetD me_msb s false m||(s == k))
 | []=>by
  unfold mset mgetD mget mget me_msb eqS
  by_cases h:s=k
  ·subst h; simp
  ·rw [show (s == k)=false from by simpa using h]; rfl
 | (q,w) :: m=>by
  have ih:=mg_set s k m
  unfold mgetD at ih ⊢
  unfold mset
  unfold me_msb eqS at ih ⊢
  by_cases h:k=q
  ·subst h
   rw [beq_self_eq_true,cond_true]
   unfold mget
   by_cases h2:s=k
   ·subst h2; simp
   ·rw [show (s == k)=false from by simpa using h2]; simp
  ·rw [show (k == q)=false from by simpa using h,cond_false]
   unfold mget
   by_cases h2:s=q
   ·subst h2
    rw [beq_self_eq_true,cond_true,cond_true,show (s == k)=false from by simpa using fun e=>h e.symm,Bool.or_false]
   ·rw [show (s == q)=false from by simpa using h2,cond_false,cond_false]
    exact ih
theorem sum_mem {f:GNode→Int} (hf:∀ y,0≤f y):∀ {l:List GNode} {y:GNode},y ∈ l→f y≤(l.map f).sum
 | [],y,h=>by cases h
 | a :: l,y,h=>by
  have h1:=hf a
  have h2:=sum_nonneg hf l
  simp only [List.map_cons,List.sum_cons]
  rcases List.mem_cons.1 h with rfl | h
  ·omega
  ·have:=sum_mem hf h; omega
theorem item_arts {y:GNode} (hi:itemB y=true) (hs:(y.Kids.length:Int)+pwL (kidsL y.Kids)≤1499):artsOk y∧y.Kids.length≤1500:=by
 have hp:=pw_nonneg (kidsL y.Kids)
 refine ⟨fun k hk=>?_,by omega⟩
 have h1:(k.Kids.length:Int)≤pwL (kidsL y.Kids):=sum_mem (f:=fun k=>(k.Kids.length:Int)) (fun y=>by omega) hk
 refine ⟨by omega,fun h3=>?_⟩
 have hitem:itemK (decide (y.N=7)) false (kidsL y.Kids)=true:=by
  unfold itemB at hi
  simp only [bae] at hi
  exact hi.2.2.2.2
 have:∀ (l:List GNode) (p:Bool),itemK (decide (y.N=7)) p l=true→∀ k ∈ l,npartB k=true:=by
  intro l
  induction l with
  | nil=>intro p _ k hk; cases hk
  | cons a l ih =>
   intro p h k hk
   unfold itemK at h
   simp only [bae] at h
   rcases List.mem_cons.1 hk with rfl | hk
   ·exact h.1.1.1
   ·exact ih _ h.2 k hk
 have hpb:=this _ _ hitem k hk
 unfold npartB at hpb
 rw [dzF h3] at hpb
 simp only [bae,Bool.false_and,Bool.false_or] at hpb
 exact hpb.2.1.2
section
variable {n d:Nat} {x:GNode}
def tBu (n:Nat) (x:GNode) (rec:(List GTf) × (List GDg) × Int × Int × (List ((List UInt8) × Bool))→Option ((List GTf) × (List GDg))) (v:(List GTf) × (List GDg) × Int × Int × (List ((List UInt8) × Bool))):Option ((List GTf) × (List GDg)) :=
 g_t_Build_l3 n x rec v.1 v.2.1 v.2.2.1 v.2.2.2.1 v.2.2.2.2
def rBu (n:Nat) (x:GNode) (rec:(List GTf) × (List GDg) × (List (List UInt8)) × Int→Option ((List GTf) × (List GDg))) (v:(List GTf) × (List GDg) × (List (List UInt8)) × Int):Option ((List GTf) × (List GDg)) :=
 g_ref32_Build_l3 n x rec v.1 v.2.1 v.2.2.1 v.2.2.2
def itemsOk (n:Nat) (x:GNode):Prop:=∀ (i:Nat),i < x.Kids.length→∃ y r r',Option.bind (getI x.Kids (i:Int)) GNode.of=some y∧(y.N=7→g_t_articles n y=some r∧g_ref32_build n y=some r'∧r'.2=r.2∧(r.2.Err=0→r'.1=⟨y.Name,r.1⟩∧r.1.length≤12))
theorem rfull (hn:1000000≤n) (hlen:x.Kids.length≤1500) (hok:itemsOk n x):∀ (m i k:Nat) (out:List GTf) (dg:List GDg) (names:List (List UInt8)),i+m=x.Kids.length→m < k→out.length≤i→names.length≤i→dg.length=20 →
  ∃ l,loopN (rBu n x) k (out,dg,names,(i:Int))=some (l,dg):=by
 intro m
 induction m with
 | zero =>
  intro i k out dg names h1 h2 h3 h4 h5
  obtain ⟨k,rfl⟩:∃ q,k=q+1:=⟨k - 1,by omega⟩
  rw [loopN_s]
  unfold rBu g_ref32_Build_l3
  simp only
  rw [show ltI (i:Int) (lenI (List.map idc x.Kids))=false from ltI_f (by simp only [lenI,List.length_map]; omega)]
  exact ⟨_,rfl⟩
 | succ m ih =>
  intro i k out dg names h1 h2 h3 h4 h5
  obtain ⟨k,rfl⟩:∃ q,k=q+1:=⟨k - 1,by omega⟩
  rw [loopN_s (n:=k)]
  have hrec:=fun out names=>ih (i+1) k out dg names (by omega) (by omega)
  generalize loopN (rBu n x) k=rr at hrec ⊢
  obtain ⟨y,r,r',hy,hr⟩:=hok i (by omega)
  have w1:wi ((i:Int)+1)=((i+1:Nat):Int):=by rw [wi_id (by omega) (by omega)]; omega
  unfold rBu g_ref32_Build_l3
  simp only [w1]
  rw [show ltI (i:Int) (lenI (List.map idc x.Kids))=true from ltI_t (by simp only [lenI,List.length_map]; omega),hy]
  simp only [cond_true,obs,eqI_d]
  by_cases h7:y.N=7
  rotate_left
  ·rw [dzF h7]
   exact hrec out names (by omega) (by omega) h5
  obtain ⟨_,e2,_⟩:=hr h7
  obtain ⟨q,eq,_⟩:=r_inL (n:=n) (l:=names) (s:=y.Name) (by omega) (by omega)
  rw [dzT h7,e2,eq]
  simp only [Bool.not_true,cond_false,cond_some,obs]
  have hroom:roomB (names++[y.Name]).length 16=true:=by unfold roomB; rw [List.length_append]; exact dzT (by simp; omega)
  have hroom2:roomB (out++[r'.1]).length 40=true:=by unfold roomB; rw [List.length_append]; exact dzT (by simp; omega)
  rw [hroom,hroom2,show ltI (lenI (List.map GDg.cs dg)) 20=false from ltI_f (by simp only [lenI,List.length_map]; omega)]
  simp only [cond_true,cond_false]
  have hA:=hrec (out++[r'.1]) (names++[y.Name]) (by rw [List.length_append]; simp; omega) (by rw [List.length_append]; simp; omega) h5
  have hB:=hrec out (names++[y.Name]) (by omega) (by rw [List.length_append]; simp; omega) h5
  cases leI 0 q
  ·cases leI 8 (lenI (List.map cstr names))
   ·simp only [cond_false]
    cases decide (r'.2.Err=0)
    ·exact hB
    ·exact hA
   ·exact hB
  ·exact hB
theorem build_loop (hn:1000000≤n) (hlen:x.Kids.length≤1500) (hok:itemsOk n x):∀ (m i k1 k2:Nat) (outT outR:List GTf) (dg:List GDg) (names:List (List UInt8)) (mp:List (List UInt8 × Bool)),i+m=x.Kids.length→m < k1→m < k2→outT.length≤i→outR.length≤i→names.length≤i→dg.length≤19 →
  (∀ s,mgetD me_msb s false mp=names.contains s)→(dg=[]→outT=outR∧∀ t ∈ outT,t.Articles.length≤12) →
  ∃ r r',loopN (tBu n x) k1 (outT,dg,(names.length:Int),(i:Int),mp)=some r∧loopN (rBu n x) k2 (outR,dg,names,(i:Int))=some r'∧r'.2=r.2∧r.2.length≤20∧(r.2=[]→r.1=r'.1∧r.1.length≤1500∧∀ t ∈ r.1,t.Articles.length≤12):=by
 intro m
 induction m with
 | zero =>
  intro i k1 k2 outT outR dg names mp h1 h2 h3 h4 h5 h6 h7 h8 h9
  obtain ⟨k1,rfl⟩:∃ q,k1=q+1:=⟨k1 - 1,by omega⟩
  obtain ⟨k2,rfl⟩:∃ q,k2=q+1:=⟨k2 - 1,by omega⟩
  rw [loopN_s,loopN_s]
  unfold tBu rBu g_t_Build_l3 g_ref32_Build_l3
  simp only
  rw [show ltI (i:Int) (lenI (List.map idc x.Kids))=false from ltI_f (by simp only [lenI,List.length_map]; omega)]
  exact ⟨_,_,rfl,rfl,rfl,by simp only; omega,fun h=>⟨(h9 h).1,by simp only; omega,(h9 h).2⟩⟩
 | succ m ih =>
  intro i k1 k2 outT outR dg names mp h1 h2 h3 h4 h5 h6 h7 h8 h9
  obtain ⟨k1,rfl⟩:∃ q,k1=q+1:=⟨k1 - 1,by omega⟩
  obtain ⟨k2,rfl⟩:∃ q,k2=q+1:=⟨k2 - 1,by omega⟩
  rw [loopN_s (n:=k1),loopN_s (n:=k2)]
  have hrec:=fun outT outR dg names mp=>ih (i+1) k1 k2 outT outR dg names mp (by omega) (by omega) (by omega)
  have hful:=fun out dg names=>rfull hn hlen hok m (i+1) k2 out dg names (by omega) (by omega)
  generalize loopN (tBu n x) k1=tr at hrec ⊢
  generalize loopN (rBu n x) k2=rr at hrec hful ⊢
  obtain ⟨y,r,r',hy,hr⟩:=hok i (by omega)
  have w1:wi ((i:Int)+1)=((i+1:Nat):Int):=by rw [wi_id (by omega) (by omega)]; omega
  have w2:wi ((names.length:Int)+1)=((names++[y.Name]).length:Int):=by rw [wi_id (by omega) (by omega),List.length_append]; simp
  unfold tBu rBu g_t_Build_l3 g_ref32_Build_l3
  simp only [w1,w2]
  rw [show ltI (i:Int) (lenI (List.map idc x.Kids))=true from ltI_t (by simp only [lenI,List.length_map]; omega),hy]
  simp only [cond_true,obs,eqI_d]
  by_cases hN:y.N=7
  rotate_left
  ·rw [dzF hN]
   exact hrec outT outR dg names mp (by omega) (by omega) (by omega) h7 h8 h9
  obtain ⟨e1,e2,e3,e4⟩:=hr hN
  obtain ⟨q,eq,hq⟩:=r_inL (n:=n) (l:=names) (s:=y.Name) (by omega) (by omega)
  rw [dzT hN,e1,e2,eq,h8]
  simp only [Bool.not_true,cond_false,cond_some,obs]
  rw [hq,e3,show lenI (List.map cstr names)=(names.length:Int) from by simp only [lenI,List.length_map]]
  have hl1:(names++[y.Name]).length=names.length+1:=by simp
  have hroom:roomB (names++[y.Name]).length 16=true:=by unfold roomB; rw [hl1]; exact dzT (by omega)
  have hroom2:roomB (outR++[r'.1]).length 40=true:=by unfold roomB; rw [List.length_append]; exact dzT (by simp; omega)
  have hroom3:∀ a:List GAr,roomB (outT++[(⟨y.Name,a⟩:GTf)]).length 40=true:=fun a=>by unfold roomB; rw [List.length_append]; exact dzT (by simp; omega)
  have hroom4:∀ a:GDg,roomB (dg++[a]).length 16=true:=fun a=>by unfold roomB; rw [List.length_append]; exact dzT (by simp; omega)
  have hmp:∀ s,mgetD me_msb s false (mset me_msb y.Name true mp)=(names++[y.Name]).contains s:=by
   intro s
   rw [mg_set,h8,Bool.eq_iff_iff]
   simp
  rw [hroom,hroom2,show ltI (lenI (List.map GDg.cs dg)) 20=true from ltI_t (by simp only [lenI,List.length_map]; omega)]
  simp only [cond_true]
  have herr:∀ (e a:Int) (arts:List GAr),e ≠ 0→∃ z z',
    (cond (!decide (e=0)) (cond (roomB (List.length (dg++[(⟨e,a⟩:GDg)])) 16) (some (dg++[(⟨e,a⟩:GDg)])) none) (some dg)).bind (fun j7=>cond (decide (lenI (List.map GDg.cs j7)=20)) (some (outT,j7)) (cond (roomB (List.length (outT++[(⟨y.Name,arts⟩:GTf)])) 40) (tr (outT++[(⟨y.Name,arts⟩:GTf)],j7,((names++[y.Name]).length:Int),((i+1:Nat):Int),mset me_msb y.Name true mp)) none))=some z ∧
    cond (decide (e=0)) (rr (outR++[r'.1],dg,names++[y.Name],((i+1:Nat):Int))) (cond (roomB (List.length (dg++[(⟨e,a⟩:GDg)])) 16) (rr (outR,dg++[(⟨e,a⟩:GDg)],names++[y.Name],((i+1:Nat):Int))) none)=some z'∧z'.2=z.2∧z.2.length≤20∧(z.2=[]→z.1=z'.1∧z.1.length≤1500∧∀ t ∈ z.1,t.Articles.length≤12):=by
   intro e a arts he
   rw [dzF he,hroom4,hroom3]
   simp only [Bool.not_false,cond_true,cond_false,obs,lenI,List.length_map]
   by_cases h20:dg.length=19
   ·obtain ⟨l,hl⟩:=hful outR (dg++[⟨e,a⟩]) (names++[y.Name]) (by omega) (by omega) (by simp; omega)
    rw [dzT (by simp; omega),cond_true]
    exact ⟨_,_,rfl,hl,rfl,by simp; omega,fun h=>by simp at h⟩
   ·rw [dzF (by simp; omega),cond_false]
    exact hrec _ _ _ _ _ (by simp; omega) (by omega) (by omega) (by simp; omega) hmp (fun h=>by simp at h)
  cases hb:names.contains y.Name
  rotate_left
  ·exact herr 5 y.At [] (by decide)
  simp only [cond_false]
  cases h8':leI 8 (names.length:Int)
  rotate_left
  ·exact herr 2 y.At [] (by decide)
  simp only [cond_false]
  by_cases he:r.2.Err=0
  rotate_left
  ·exact herr r.2.Err r.2.At r.1 he
  obtain ⟨g1,g2⟩:=e4 he
  rw [dzT he,hroom3]
  simp only [Bool.not_true,cond_true,cond_false,obs,lenI,List.length_map]
  rw [dzF (by omega),cond_false]
  refine hrec _ _ _ _ _ (by simp; omega) (by simp; omega) (by omega) h7 hmp (fun h=>?_)
  obtain ⟨f1,f2⟩:=h9 h
  refine ⟨by rw [f1,g1],fun t ht=>?_⟩
  rcases List.mem_append.1 ht with ht | ht
  ·exact f2 t ht
  ·simp only [List.mem_singleton] at ht
   subst ht
   exact g2
end
theorem build_same {n d:Nat} {x:GNode} (ht:treeD d x) (hn:9223372036854776000≤n) (hs:(x.Kids.length:Int)+swL (kidsL x.Kids)≤1499) (hp:g_p_Valid n x=some (validB x)) (hr:g_ref02_Valid n x=some (validB x)) :
  ∃ l dg,g_t_Build n x=some (l,dg)∧g_ref32_Build n x=some (l,dg)∧l.length≤1500∧(∀ t ∈ l,t.Articles.length≤12)∧dg.length≤20:=by
 obtain ⟨e,rfl,hl,_,hk⟩:=tree_kids ht
 have hsw:=sw_nonneg (kidsL x.Kids)
 unfold g_t_Build g_ref32_Build
 rw [hp,hr]
 simp only [obs]
 cases hv:validB x
 ·exact ⟨[],[⟨1,0⟩],rfl,rfl,by simp,fun t h=>by simp at h,by simp⟩
 have hall:(kidsL x.Kids).all itemB=true:=by
  unfold validB at hv
  simp only [bae] at hv
  exact hv.2.2.2
 have hok:itemsOk n x:=by
  intro i hi
  obtain ⟨y,hy,hty,hc⟩:=kidL_at hk hi
  by_cases h7:y.N=7
  rotate_left
  ·exact ⟨y,([],⟨0,0⟩),(⟨[],[]⟩,⟨0,0⟩),hy,fun h=>absurd h h7⟩
  have hmem:y ∈ kidsL x.Kids:=by
   have:y ∈ kidsL (x.Kids.drop i):=by rw [hc]; simp
   obtain ⟨c,h5,h6⟩:=List.mem_filterMap.1 this
   exact List.mem_filterMap.2 ⟨c,List.mem_of_mem_drop h5,h6⟩
  have hw:(y.Kids.length:Int)+pwL (kidsL y.Kids)≤swL (kidsL x.Kids):=sum_mem (f:=fun k=>(k.Kids.length:Int)+pwL (kidsL k.Kids)) (fun y=>by have:=pw_nonneg (kidsL y.Kids); omega) hmem
  obtain ⟨g1,g2⟩:=item_arts (List.all_eq_true.1 hall y hmem) (by omega)
  obtain ⟨r,r',f1,f2,f3,f4⟩:=arts_same hty (n:=n) (by omega) g2 g1
  exact ⟨y,r,r',hy,fun _=>⟨f1,f2,f3,f4⟩⟩
 obtain ⟨r,r',e1,e2,e3,e4,e5⟩:=build_loop (n:=n) (x:=x) (by omega) (by omega) hok x.Kids.length 0 n n [] [] [] [] [] (by omega) (by omega) (by omega) (by simp) (by simp) (by simp) (by simp) (fun s=>rfl) (fun _=>⟨rfl,fun t h=>by simp at h⟩)
 have e1':loopN (fun recl3 (v:(List GTf) × (List GDg) × Int × Int × (List ((List UInt8) × Bool)))=>match v with | (l3_1,l3_2,l3_3,l3_4,l3_5)=>g_t_Build_l3 n x recl3 l3_1 l3_2 l3_3 l3_4 l3_5) n ([],[],0,0,[])=some r:=e1
 have e2':loopN (fun recl3 (v:(List GTf) × (List GDg) × (List (List UInt8)) × Int)=>match v with | (l3_1,l3_2,l3_3,l3_4)=>g_ref32_Build_l3 n x recl3 l3_1 l3_2 l3_3 l3_4) n ([],[],[],0)=some r':=e2
 simp only [Bool.not_true,cond_false]
 rw [e1',e2']
 obtain ⟨l,dg⟩:=r
 obtain ⟨l',dg'⟩:=r'
 simp only at e3 e4 e5 ⊢
 subst e3
 simp only [obs]
 cases dg' with
 | nil =>
  obtain ⟨f1,f2,f3⟩:=e5 rfl
  subst f1
  exact ⟨l,[],rfl,rfl,f2,f3,by simp⟩
 | cons a q =>
  rw [show ltI 0 (lenI (List.map GDg.cs (a :: q)))=true from ltI_t (by simp only [lenI,List.length_map,List.length_cons]; omega)]
  exact ⟨[],a :: q,rfl,rfl,by simp,fun t h=>by simp at h,e4⟩
end Go.Proofs
namespace Go.Proofs
open Go Go.Abs
set_option maxRecDepth 100000
set_option linter.unusedVariables false
theorem sameL (n:Nat) (l:List GTf) (hn:1000000≤n) (hl:l.length≤1500) (ha:∀ t ∈ l,t.Articles.length≤12):g_ref32_SameList n l l=some true:=by
 have:Does (loopN (fun recl1 l1=>g_ref32_SameList_l1 n l l recl1 l1) n 0) (fun r=>r=true):=by
  refine does_idx (B:=fun recl1 l1=>g_ref32_SameList_l1 n l l recl1 l1) (n:=n) (L:=l.length) (fun _ r=>r=true) (by omega) (fun rec i hi hr=>?_) 0 (by omega) (by omega)
  unfold g_ref32_SameList_l1
  simp only [lenI,List.length_map,ltI]
  by_cases c1:i < l.length
  rotate_left
  ·rw [dzF (by omega)]; exact does_some rfl
  obtain ⟨w1,w2⟩:=hr c1
  have hm:=ha _ (List.getElem_mem c1)
  rw [dzT (by omega),cond_true,getI_nat,List.getElem?_eq_getElem c1,w1]
  generalize l[i]'c1=t at hm
  simp only [obs]
  rw [same32 n t (by omega) (by omega)]
  exact w2
 obtain ⟨r,e,rfl⟩:=this
 unfold g_ref32_SameList
 rw [eqI_d,dzT rfl]
 exact e
end Go.Proofs
namespace Go.Proofs
open Go Go.Abs
set_option maxRecDepth 100000
set_option linter.unusedVariables false
def outI (A:GNode→List GAr × GDg) (nm:List (List UInt8)) (y:GNode):List GAr × GDg :=
 bif nm.contains y.Name then ([],⟨5,y.At⟩) else bif decide (8≤nm.length) then ([],⟨2,y.At⟩) else A y
def bld (A:GNode→List GAr × GDg):List GNode→List GTf→List GDg→List (List UInt8)→List GTf × List GDg
 | [],out,dg,_=>(out,dg)
 | y :: r,out,dg,nm =>
  bif decide ((outI A nm y).2.Err=0) then bld A r (out++[⟨y.Name,(outI A nm y).1⟩]) dg (nm++[y.Name])
  else bif decide (dg.length=19) then (out,dg++[(outI A nm y).2]) else bld A r (out++[⟨y.Name,(outI A nm y).1⟩]) (dg++[(outI A nm y).2]) (nm++[y.Name])
def artsF (n:Nat) (y:GNode):List GAr × GDg:=(g_t_articles n y).getD ([],⟨0,0⟩)
def tarsL (l:List GNode):List GNode:=l.filter fun y=>decide (y.N=7)
theorem build_bld {n d:Nat} {x:GNode} (hk:kidsD d x.Kids) (hlen:x.Kids.length≤1500) (hn:9223372036854776000≤n):∀ (m i k:Nat) (out:List GTf) (dg:List GDg) (names:List (List UInt8)) (mp:List (List UInt8 × Bool)),i+m=x.Kids.length→m < k→out.length≤i→names.length≤i→dg.length≤19 →
  (∀ s,mgetD me_msb s false mp=names.contains s) →
  loopN (tBu n x) k (out,dg,(names.length:Int),(i:Int),mp)=some (bld (artsF n) (tarsL (kidsL (x.Kids.drop i))) out dg names):=by
 intro m
 induction m with
 | zero =>
  intro i k out dg names mp h1 h2 h3 h4 h5 h6
  obtain ⟨k,rfl⟩:∃ q,k=q+1:=⟨k - 1,by omega⟩
  rw [loopN_s,kidL_end _ (by omega)]
  unfold tBu g_t_Build_l3
  simp only
  rw [show ltI (i:Int) (lenI (List.map idc x.Kids))=false from ltI_f (by simp only [lenI,List.length_map]; omega)]
  rfl
 | succ m ih =>
  intro i k out dg names mp h1 h2 h3 h4 h5 h6
  obtain ⟨k,rfl⟩:∃ q,k=q+1:=⟨k - 1,by omega⟩
  rw [loopN_s]
  have hrec:=fun out dg names mp=>ih (i+1) k out dg names mp (by omega) (by omega)
  generalize loopN (tBu n x) k=tr at hrec ⊢
  obtain ⟨y,hy,hty,hc⟩:=kidL_at hk (show i < x.Kids.length by omega)
  have w1:wi ((i:Int)+1)=((i+1:Nat):Int):=by rw [wi_id (by omega) (by omega)]; omega
  have w2:wi ((names.length:Int)+1)=((names++[y.Name]).length:Int):=by rw [wi_id (by omega) (by omega),List.length_append]; simp
  rw [hc]
  unfold tBu g_t_Build_l3
  simp only [w1,w2]
  rw [show ltI (i:Int) (lenI (List.map idc x.Kids))=true from ltI_t (by simp only [lenI,List.length_map]; omega),hy]
  simp only [cond_true,obs,eqI_d]
  by_cases hN:y.N=7
  rotate_left
  ·rw [dzF hN]
   have e:tarsL (y :: kidsL (x.Kids.drop (i+1)))=tarsL (kidsL (x.Kids.drop (i+1))):=by unfold tarsL; rw [List.filter_cons,dzF hN]; rfl
   rw [e]
   exact hrec out dg names mp (by omega) (by omega) h5 h6
  have e:tarsL (y :: kidsL (x.Kids.drop (i+1)))=y :: tarsL (kidsL (x.Kids.drop (i+1))):=by unfold tarsL; rw [List.filter_cons,dzT hN]; rfl
  rw [e,dzT hN,h6]
  obtain ⟨r,er,_⟩:=arts_tot hty (n:=n) hn
  have hA:artsF n y=r:=by unfold artsF; rw [er]; rfl
  have hout:((bif names.contains y.Name then some ([],5,y.At) else bif leI 8 (names.length:Int) then some ([],2,y.At) else (g_t_articles n y).bind fun r6=>some (r6.1,r6.2.Err,r6.2.At)):Option (List GAr × Int × Int))=some ((outI (artsF n) names y).1,(outI (artsF n) names y).2.Err,(outI (artsF n) names y).2.At):=by
   unfold outI
   rw [hA,er,show leI 8 (names.length:Int)=decide (8≤names.length) from by unfold leI; by_cases h:8≤names.length <;> simp [h] <;> omega]
   cases names.contains y.Name <;> cases decide (8≤names.length) <;> rfl
  simp only [Bool.not_true,cond_false]
  rw [hout]
  simp only [obs]
  have hl1:(names++[y.Name]).length=names.length+1:=by simp
  have hroom3:∀ a:List GAr,roomB (out++[(⟨y.Name,a⟩:GTf)]).length 40=true:=fun a=>by unfold roomB; rw [List.length_append]; exact dzT (by simp; omega)
  have hroom4:∀ a:GDg,roomB (dg++[a]).length 16=true:=fun a=>by unfold roomB; rw [List.length_append]; exact dzT (by simp; omega)
  have hmp:∀ s,mgetD me_msb s false (mset me_msb y.Name true mp)=(names++[y.Name]).contains s:=by
   intro s
   rw [mg_set,h6,Bool.eq_iff_iff]
   simp
  unfold bld
  generalize outI (artsF n) names y=q
  obtain ⟨arts,err,at_⟩:=q
  simp only
  rw [hroom3,hroom4]
  by_cases he:err=0
  ·rw [dzT he]
   simp only [Bool.not_true,cond_true,cond_false,obs,lenI,List.length_map]
   rw [dzF (by omega),cond_false]
   exact hrec _ _ _ _ (by simp; omega) (by omega) h5 hmp
  ·rw [dzF he]
   simp only [Bool.not_false,cond_true,cond_false,obs,lenI,List.length_map]
   by_cases h20:dg.length=19
   ·rw [dzT (by simp; omega),dzT h20]
    rfl
   ·rw [dzF (by simp; omega),dzF h20]
    exact hrec _ _ _ _ (by simp; omega) (by omega) (by simp; omega) hmp
theorem build_valid {n d:Nat} {x:GNode} (hk:kidsD d x.Kids) (hlen:x.Kids.length≤1500) (hn:9223372036854776000≤n) (hp:g_p_Valid n x=some true) :
  g_t_Build n x=some (bif decide ((bld (artsF n) (tarsL (kidsL x.Kids)) [] [] []).2=[]) then (bld (artsF n) (tarsL (kidsL x.Kids)) [] [] []) else ([],(bld (artsF n) (tarsL (kidsL x.Kids)) [] [] []).2)):=by
 have e:=build_bld (n:=n) (x:=x) hk hlen hn x.Kids.length 0 n [] [] [] [] (by omega) (by omega) (by simp) (by simp) (by simp) (fun s=>rfl)
 rw [List.drop_zero] at e
 unfold g_t_Build
 rw [hp]
 have e':loopN (fun recl3 (v:(List GTf) × (List GDg) × Int × Int × (List ((List UInt8) × Bool)))=>match v with | (l3_1,l3_2,l3_3,l3_4,l3_5)=>g_t_Build_l3 n x recl3 l3_1 l3_2 l3_3 l3_4 l3_5) n ([],[],0,0,[])=some (bld (artsF n) (tarsL (kidsL x.Kids)) [] [] []):=e
 simp only [obs,Bool.not_true,cond_false]
 rw [e']
 generalize bld (artsF n) (tarsL (kidsL x.Kids)) [] [] []=r
 obtain ⟨l,dg⟩:=r
 simp only [obs]
 cases dg with
 | nil=>rfl
 | cons a q =>
  rw [show ltI 0 (lenI (List.map GDg.cs (a :: q)))=true from ltI_t (by simp only [lenI,List.length_map,List.length_cons]; omega),dzF (by intro h; cases h)]
  rfl
end Go.Proofs
namespace Go.Proofs
open Go Go.Abs
set_option maxRecDepth 100000
set_option linter.unusedVariables false
def okB (A:GNode→List GAr × GDg):List GNode→List (List UInt8)→Prop
 | [],_=>True
 | y :: r,nm=>nm.contains y.Name=false∧nm.length < 8∧(A y).2.Err=0∧okB A r (nm++[y.Name])
theorem bld_ne (A:GNode→List GAr × GDg):∀ (ts:List GNode) (out:List GTf) (dg:List GDg) (nm:List (List UInt8)),dg ≠ []→(bld A ts out dg nm).2 ≠ []
 | [],out,dg,nm,h=>h
 | y :: r,out,dg,nm,h=>by
  unfold bld
  cases decide ((outI A nm y).2.Err=0)
  ·cases decide (dg.length=19)
   ·exact bld_ne A r _ _ _ (by simp)
   ·simp
  ·exact bld_ne A r _ _ _ h
theorem outI_ok {A:GNode→List GAr × GDg} {nm:List (List UInt8)} {y:GNode} (h:(outI A nm y).2.Err=0):nm.contains y.Name=false∧nm.length < 8∧(A y).2.Err=0∧outI A nm y=A y:=by
 unfold outI at h ⊢
 cases hc:nm.contains y.Name
 ·rw [hc] at h
  by_cases h8:8≤nm.length
  ·rw [dzT h8] at h; cases h
  ·rw [dzF h8] at h ⊢
   exact ⟨rfl,by omega,h,rfl⟩
 ·rw [hc] at h; cases h
theorem outI_new {A:GNode→List GAr × GDg} {nm:List (List UInt8)} {y:GNode} (h1:nm.contains y.Name=false) (h2:nm.length < 8):outI A nm y=A y:=by
 unfold outI
 rw [h1,dzF (by omega)]
 rfl
theorem bld_ok (A:GNode→List GAr × GDg):∀ (ts:List GNode) (out:List GTf) (nm:List (List UInt8)),(bld A ts out [] nm).2=[]→okB A ts nm
 | [],out,nm,_=>trivial
 | y :: r,out,nm,h=>by
  unfold bld at h
  by_cases he:(outI A nm y).2.Err=0
  ·rw [dzT he] at h
   obtain ⟨h1,h2,h3,_⟩:=outI_ok he
   exact ⟨h1,h2,h3,bld_ok A r _ _ h⟩
  ·rw [dzF he,dzF (by simp)] at h
   exact absurd h (bld_ne A r _ _ _ (by simp))
theorem bld_post (A:GNode→List GAr × GDg):∀ (ts:List GNode) (out:List GTf) (dg:List GDg) (nm:List (List UInt8)),okB A ts nm→(bld A ts out dg nm).2=dg
 | [],out,dg,nm,_=>rfl
 | y :: r,out,dg,nm,h=>by
  obtain ⟨h1,h2,h3,h4⟩:=h
  unfold bld
  rw [outI_new h1 h2,dzT h3]
  exact bld_post A r _ _ _ h4
theorem bld_bad (A:GNode→List GAr × GDg) (y y':GNode) (post:List GNode) (hn:y'.Name=y.Name) (he:(A y').2.Err ≠ 0):∀ (pre:List GNode) (out:List GTf) (nm:List (List UInt8)),okB A (pre++y :: post) nm→(bld A (pre++y' :: post) out [] nm).2=[(A y').2]
 | [],out,nm,h=>by
  obtain ⟨h1,h2,h3,h4⟩:=h
  show (bld A (y' :: post) out [] nm).2=_
  unfold bld
  rw [outI_new (by rw [hn]; exact h1) h2,dzF he,dzF (by simp)]
  simp only [cond_false]
  rw [hn]
  exact bld_post A post _ _ _ h4
 | z :: pre,out,nm,h=>by
  obtain ⟨h1,h2,h3,h4⟩:=h
  show (bld A (z :: (pre++y' :: post)) out [] nm).2=_
  unfold bld
  rw [outI_new h1 h2,dzT h3]
  exact bld_bad A y y' post hn he pre _ _ h4
def badAt (w:GNode) (e:Int) (n:Nat):Prop:=w.Kind=4∧w.At=7777∧GNode.of (GNode.cs w)=some w∧∃ a g,g_t_read n w=some (a,g)∧((g=false∧e=9)∨(g=true∧artB a=false∧e=3))
theorem arts_bad {n d:Nat} {x x':GNode} (hk:kidsD d x.Kids) (hn:9223372036854776000≤n) (hlen:x.Kids.length≤1500) {w:GNode} {e:Int} (hw:badAt w e n) (p:Nat) (hp:p < x.Kids.length) (hx:x'.Kids=x.Kids.set p (GNode.cs w)) :
  ∀ (m i k1 k2:Nat) (out:List GAr) (tax:Bool) (r:List GAr × GDg),i+m=p→m < k1→m < k2 →
  loopN (fun recl1 (v:(List GAr) × Bool × Int)=>g_t_articles_l1 n x recl1 v.1 v.2.1 v.2.2) k1 (out,tax,(i:Int))=some r→r.2.Err=0 →
  ∃ out',loopN (fun recl1 (v:(List GAr) × Bool × Int)=>g_t_articles_l1 n x' recl1 v.1 v.2.1 v.2.2) k2 (out,tax,(i:Int))=some (out',⟨e,7777⟩):=by
 intro m
 induction m with
 | zero =>
  intro i k1 k2 out tax r h1 h2 h3 h4 h5
  obtain ⟨k1,rfl⟩:∃ q,k1=q+1:=⟨k1 - 1,by omega⟩
  obtain ⟨k2,rfl⟩:∃ q,k2=q+1:=⟨k2 - 1,by omega⟩
  obtain rfl:i=p:=by omega
  rw [loopN_s] at h4 ⊢
  generalize loopN (fun recl1 (v:(List GAr) × Bool × Int)=>g_t_articles_l1 n x recl1 v.1 v.2.1 v.2.2) k1=tr at h4
  generalize loopN (fun recl1 (v:(List GAr) × Bool × Int)=>g_t_articles_l1 n x' recl1 v.1 v.2.1 v.2.2) k2=rr
  obtain ⟨y,hy,hty,_⟩:=kid_at hk hp
  obtain ⟨w1,w2,w3,a,g,w4,w5⟩:=hw
  have hy':Option.bind (getI x'.Kids (i:Int)) GNode.of=some w:=by
   rw [getI_nat,hx,List.getElem?_set_self hp]
   exact w3
  unfold g_t_articles_l1 at h4 ⊢
  simp only at h4 ⊢
  rw [show ltI (i:Int) (lenI (List.map idc x.Kids))=true from ltI_t (by simp only [lenI,List.length_map]; omega),hy] at h4
  rw [show ltI (i:Int) (lenI (List.map idc x'.Kids))=true from ltI_t (by simp only [lenI,List.length_map,hx,List.length_set]; omega),hy']
  simp only [cond_true,obs] at h4 ⊢
  rw [w1,w2,w4,show eqI 4 3=false from rfl]
  have hlen12:eqI (lenI (List.map GAr.cs out)) 12=false:=by
   cases h12:eqI (lenI (List.map GAr.cs out)) 12
   ·rfl
   ·rw [h12] at h4
    cases h3:eqI y.Kind 3
    ·rw [h3] at h4
     simp only [cond_true,cond_false,sie] at h4
     subst h4
     cases h5
    ·rw [h3] at h4
     simp only [cond_true,sie] at h4
     subst h4
     cases h5
  rw [hlen12]
  simp only [cond_false,obs]
  rcases w5 with ⟨rfl,rfl⟩ | ⟨rfl,hA,rfl⟩
  ·exact ⟨[],rfl⟩
  ·rw [b_article,hA]
   exact ⟨[],rfl⟩
 | succ m ih =>
  intro i k1 k2 out tax r h1 h2 h3 h4 h5
  obtain ⟨k1,rfl⟩:∃ q,k1=q+1:=⟨k1 - 1,by omega⟩
  obtain ⟨k2,rfl⟩:∃ q,k2=q+1:=⟨k2 - 1,by omega⟩
  rw [loopN_s] at h4 ⊢
  have hrec:=fun out tax r=>ih (i+1) k1 k2 out tax r (by omega) (by omega) (by omega)
  generalize loopN (fun recl1 (v:(List GAr) × Bool × Int)=>g_t_articles_l1 n x recl1 v.1 v.2.1 v.2.2) k1=tr at h4 hrec
  generalize loopN (fun recl1 (v:(List GAr) × Bool × Int)=>g_t_articles_l1 n x' recl1 v.1 v.2.1 v.2.2) k2=rr at hrec ⊢
  obtain ⟨y,hy,hty,_⟩:=kid_at hk (show i < x.Kids.length by omega)
  have hy':Option.bind (getI x'.Kids (i:Int)) GNode.of=some y:=by
   rw [getI_nat,hx,List.getElem?_set_ne (by omega),← getI_nat]
   exact hy
  have w1:wi ((i:Int)+1)=((i+1:Nat):Int):=by rw [wi_id (by omega) (by omega)]; omega
  unfold g_t_articles_l1 at h4 ⊢
  simp only [w1] at h4 ⊢
  rw [show ltI (i:Int) (lenI (List.map idc x.Kids))=true from ltI_t (by simp only [lenI,List.length_map]; omega),hy] at h4
  rw [show ltI (i:Int) (lenI (List.map idc x'.Kids))=true from ltI_t (by simp only [lenI,List.length_map,hx,List.length_set]; omega),hy']
  simp only [cond_true,obs] at h4 ⊢
  obtain ⟨q,eq,_⟩:=read_tot hty hn
  rw [eq,obs,b_article,obs] at h4
  rw [eq,obs,b_article,obs]
  have hbad:∀ (l:List GAr) (e t:Int),some (l,(⟨e,t⟩:GDg))=some r→e ≠ 0→False:=by
   intro l e t h he
   cases h
   exact he h5
  cases c1:eqI y.Kind 3
  rotate_left
  ·rw [c1] at h4; exact (hbad _ _ _ h4 (by decide)).elim
  cases c2:eqI (lenI (List.map GAr.cs out)) 12
  rotate_left
  ·rw [c1,c2] at h4; exact (hbad _ _ _ h4 (by decide)).elim
  cases c3:q.2
  ·rw [c1,c2,c3] at h4; exact (hbad _ _ _ h4 (by decide)).elim
  cases c4:artB q.1
  ·rw [c1,c2,c3,c4] at h4; exact (hbad _ _ _ h4 (by decide)).elim
  rw [c1,c2,c3,c4] at h4
  simp only [Bool.not_true,cond_false,cond_some,obs] at h4 ⊢
  cases c5:eqI q.1.Kind 6
  ·rw [c5] at h4
   cases tax
   ·cases c6:roomB (out++[q.1]).length 56
    ·rw [c6] at h4; cases h4
    ·rw [c6] at h4; exact hrec _ _ _ h4 h5
   ·cases c6:roomB (out++[q.1]).length 56
    ·rw [c6] at h4; cases h4
    ·rw [c6] at h4; exact hrec _ _ _ h4 h5
  ·rw [c5] at h4
   cases tax
   ·cases c6:roomB (out++[q.1]).length 56
    ·rw [c6] at h4; cases h4
    ·rw [c6] at h4; exact hrec _ _ _ h4 h5
   ·exact (hbad _ _ _ h4 (by decide)).elim
end Go.Proofs
namespace Go.Proofs
open Go Go.Abs
set_option maxRecDepth 100000
set_option linter.unusedVariables false
theorem treeD_succ:∀ (d:Nat) (x:GNode),treeD d x→treeD (d+1) x
 | 0,_,h=>h.elim
 | d+1,x,h=>by
  obtain ⟨h1,h2,h3,h4,h5,h6⟩:=h
  exact ⟨h1,h2,h3,h4,h5,fun k hk=>by obtain ⟨y,e,t⟩:=h6 k hk; exact ⟨y,e,treeD_succ d y t⟩⟩
theorem treeD_add {d:Nat} {x:GNode} (h:treeD d x):∀ k,treeD (d+k) x
 | 0=>h
 | k+1=>treeD_succ _ _ (treeD_add h k)
theorem kidsL_cs (l:List GNode):kidsL (l.map GNode.cs)=l:=by
 unfold kidsL
 induction l with
 | nil=>rfl
 | cons a l ih=>rw [List.map_cons,List.filterMap_cons,show GNode.of (GNode.cs a)=some a from of_cs' _ _ _ _ _,ih]
theorem kidsD_cs {d:Nat} {l:List GNode} (h:∀ y ∈ l,treeD d y):kidsD d (l.map GNode.cs):=by
 intro k hk
 obtain ⟨y,hy,rfl⟩:=List.mem_map.1 hk
 exact ⟨y,of_cs' _ _ _ _ _,h y hy⟩
def lensN (l:List GNode):Nat:=(l.map fun y=>y.Kids.length).sum
theorem lens_sw (l:List GNode):(lensN l:Int)≤swL l:=by
 unfold lensN swL
 induction l with
 | nil=>simp
 | cons a l ih =>
  simp only [List.map_cons,List.sum_cons] at ih ⊢
  have:=pw_nonneg (kidsL a.Kids)
  omega
theorem sw_filter (l:List GNode):swL (tarsL l)≤swL l∧(tarsL l).length≤l.length:=by
 unfold tarsL swL
 induction l with
 | nil=>simp
 | cons a l ih =>
  rw [List.filter_cons]
  have:=pw_nonneg (kidsL a.Kids)
  split
  ·simp only [List.map_cons,List.sum_cons,List.length_cons] at ih ⊢; omega
  ·simp only [List.map_cons,List.sum_cons,List.length_cons] at ih ⊢; omega
theorem tars_tars (l:List GNode):tarsL (tarsL l)=tarsL l:=by
 unfold tarsL
 rw [List.filter_filter]
 simp
theorem lens_cons (y:GNode) (l:List GNode):lensN (y :: l)=y.Kids.length+lensN l:=by
 unfold lensN; simp
theorem only_loop {n d:Nat} {x:GNode} (hk:kidsD d x.Kids) (hlen:x.Kids.length≤1500):∀ (m i k:Nat) (many:Nat) (acc:List (List PV)),i+m=x.Kids.length→m < k→acc.length≤i→many+lensN (tarsL (kidsL (x.Kids.drop i)))≤1000000 →
  loopN (fun recl5 (v:Int × Int × (List (List PV)))=>g_law32_TariffErrors_l5 x recl5 v.1 v.2.1 v.2.2) k ((many:Int),(i:Int),acc)=some (((many+lensN (tarsL (kidsL (x.Kids.drop i))):Nat):Int),acc++(tarsL (kidsL (x.Kids.drop i))).map GNode.cs):=by
 intro m
 induction m with
 | zero =>
  intro i k many acc h1 h2 h3 h4
  obtain ⟨k,rfl⟩:∃ q,k=q+1:=⟨k - 1,by omega⟩
  rw [loopN_s,kidL_end _ (by omega)]
  unfold g_law32_TariffErrors_l5
  simp only
  rw [show ltI (i:Int) (lenI (List.map idc x.Kids))=false from ltI_f (by simp only [lenI,List.length_map]; omega)]
  simp [tarsL,lensN]
 | succ m ih =>
  intro i k many acc h1 h2 h3 h4
  obtain ⟨k,rfl⟩:∃ q,k=q+1:=⟨k - 1,by omega⟩
  rw [loopN_s]
  have hrec:=fun many acc=>ih (i+1) k many acc (by omega) (by omega)
  generalize loopN (fun recl5 (v:Int × Int × (List (List PV)))=>g_law32_TariffErrors_l5 x recl5 v.1 v.2.1 v.2.2) k=tr at hrec ⊢
  obtain ⟨y,hy,hty,hc⟩:=kidL_at hk (show i < x.Kids.length by omega)
  have w1:wi ((i:Int)+1)=((i+1:Nat):Int):=by rw [wi_id (by omega) (by omega)]; omega
  rw [hc] at h4 ⊢
  unfold g_law32_TariffErrors_l5
  simp only [w1]
  rw [show ltI (i:Int) (lenI (List.map idc x.Kids))=true from ltI_t (by simp only [lenI,List.length_map]; omega),hy]
  simp only [cond_true,obs,eqI_d]
  by_cases hN:y.N=7
  ·have e:tarsL (y :: kidsL (x.Kids.drop (i+1)))=y :: tarsL (kidsL (x.Kids.drop (i+1))):=by unfold tarsL; rw [List.filter_cons,dzT hN]; rfl
   rw [e,lens_cons] at h4 ⊢
   have hroom:roomB (acc++[GNode.cs y]).length 64=true:=by unfold roomB; rw [List.length_append]; exact dzT (by simp; omega)
   rw [dzT hN,hroom]
   simp only [cond_true,lenI,List.length_map]
   rw [show wi ((many:Int)+(y.Kids.length:Int))=((many+y.Kids.length:Nat):Int) from by rw [wi_id (by omega) (by omega)]; omega]
   rw [hrec _ _ (by rw [List.length_append]; simp; omega) (by omega)]
   rw [Nat.add_assoc,List.map_cons,List.append_assoc]
   rfl
  ·have e:tarsL (y :: kidsL (x.Kids.drop (i+1)))=tarsL (kidsL (x.Kids.drop (i+1))):=by unfold tarsL; rw [List.filter_cons,dzF hN]; rfl
   rw [e] at h4 ⊢
   rw [dzF hN]
   exact hrec many acc (by omega) h4
def repl (w:List PV):List GNode→Int→List GNode
 | [],_=>[]
 | y :: r,p=>(if 0≤p∧p < y.Kids.length then ⟨y.Kind,y.Name,y.N,y.At,y.Kids.set p.toNat w⟩ else y) :: repl w r (p - y.Kids.length)
theorem repl_neg (w:List PV):∀ (l:List GNode) (p:Int),p < 0→repl w l p=l
 | [],_,_=>rfl
 | y :: r,p,h=>by
  unfold repl
  rw [if_neg (by omega),repl_neg w r _ (by omega)]
theorem repl_at (w:List PV):∀ (l:List GNode) (p:Nat),p < lensN l→∃ pre y post q,l=pre++y :: post∧q < y.Kids.length∧repl w l (p:Int)=pre++(⟨y.Kind,y.Name,y.N,y.At,y.Kids.set q w⟩:GNode) :: post
 | [],p,h=>by simp [lensN] at h
 | y :: r,p,h=>by
  rw [lens_cons] at h
  unfold repl
  by_cases hp:p < y.Kids.length
  ·rw [if_pos (by omega),repl_neg w r _ (by omega)]
   exact ⟨[],y,r,p,rfl,hp,rfl⟩
  ·rw [if_neg (by omega),show (p:Int) - (y.Kids.length:Int)=((p - y.Kids.length:Nat):Int) by omega]
   obtain ⟨pre,z,post,q,e1,e2,e3⟩:=repl_at w r (p - y.Kids.length) (by omega)
   exact ⟨y :: pre,z,post,q,by rw [e1]; rfl,e2,by rw [e3]; rfl⟩
theorem bad_loop {n d:Nat} (ts:List GNode) (hts:∀ y ∈ ts,treeD d y) (hlen:ts.length≤1500) (hkl:∀ y ∈ ts,y.Kids.length≤1500) (w:GNode):∀ (m i k:Nat) (p:Int) (acc:List (List PV)),i+m=ts.length→m < k→acc.length≤i→-10000000+1500 * (m:Int)≤p∧p≤10000000 →
  loopN (fun recl23 (v:Int × Int × (List (List PV)))=>g_law32_TariffErrors_l23 (ts.map GNode.cs) w recl23 v.1 v.2.1 v.2.2) k (p,(i:Int),acc)=some (acc++(repl (GNode.cs (⟨w.Kind,w.Name,w.N,7777,w.Kids⟩:GNode)) (ts.drop i) p).map GNode.cs):=by
 intro m
 induction m with
 | zero =>
  intro i k p acc h1 h2 h3 h4
  obtain ⟨k,rfl⟩:∃ q,k=q+1:=⟨k - 1,by omega⟩
  rw [loopN_s,List.drop_eq_nil_of_le (by omega)]
  unfold g_law32_TariffErrors_l23
  simp only
  rw [show ltI (i:Int) (lenI (List.map idc (ts.map GNode.cs)))=false from ltI_f (by simp only [lenI,List.length_map]; omega)]
  simp [repl]
 | succ m ih =>
  intro i k p acc h1 h2 h3 h4
  obtain ⟨k,rfl⟩:∃ q,k=q+1:=⟨k - 1,by omega⟩
  rw [loopN_s]
  have hrec:=fun p acc=>ih (i+1) k p acc (by omega) (by omega)
  generalize loopN (fun recl23 (v:Int × Int × (List (List PV)))=>g_law32_TariffErrors_l23 (ts.map GNode.cs) w recl23 v.1 v.2.1 v.2.2) k=tr at hrec ⊢
  have hi:i < ts.length:=by omega
  rw [List.drop_eq_getElem_cons hi]
  have hyk:=hkl _ (List.getElem_mem hi)
  have hyt:=hts _ (List.getElem_mem hi)
  have hget:Option.bind (getI (ts.map GNode.cs) (i:Int)) GNode.of=some (ts[i]'hi):=by
   rw [getI_nat,List.getElem?_map,List.getElem?_eq_getElem hi]
   exact of_cs' _ _ _ _ _
  generalize ts[i]'hi=y at hyk hyt hget
  obtain ⟨e,rfl,_,_,hk⟩:=tree_kids hyt
  have w1:wi ((i:Int)+1)=((i+1:Nat):Int):=by rw [wi_id (by omega) (by omega)]; omega
  have w2:wi (p - lenI (List.map idc y.Kids))=p - y.Kids.length:=by simp only [lenI,List.length_map]; rw [wi_id (by omega) (by omega)]
  unfold g_law32_TariffErrors_l23
  simp only [w1]
  rw [show ltI (i:Int) (lenI (List.map idc (ts.map GNode.cs)))=true from ltI_t (by simp only [lenI,List.length_map]; omega),hget]
  simp only [cond_true,obs,List.nil_append,w2]
  have hroom:roomB y.Kids.length 64=true:=by unfold roomB; exact dzT (by omega)
  have hroom2:∀ z:List PV,roomB (acc++[z]).length 64=true:=fun z=>by unfold roomB; rw [List.length_append]; exact dzT (by simp; omega)
  rw [hroom]
  simp only [cond_true,cond_some,obs]
  have hfin:=fun (y':GNode)=>hrec (p - y.Kids.length) (acc++[GNode.cs y']) (by rw [List.length_append]; simp; omega) (by omega)
  unfold repl
  by_cases hp:0≤p∧p < y.Kids.length
  ·obtain ⟨q,rfl⟩:∃ q:Nat,p=(q:Int):=⟨p.toNat,by omega⟩
   obtain ⟨z,hz,_⟩:=kid_at hk (show q < y.Kids.length by omega)
   rw [show (bif leI 0 (q:Int) then ltI (q:Int) (lenI (List.map idc y.Kids)) else false)=true from by rw [show leI 0 (q:Int)=true from dzT (by omega),show ltI (q:Int) (lenI (List.map idc y.Kids))=true from ltI_t (by simp only [lenI,List.length_map]; omega)]; rfl,if_pos hp,hz]
   simp only [cond_true,obs]
   rw [hroom2,cond_true,hfin,List.append_assoc]
   rfl
  ·rw [show (bif leI 0 p then ltI p (lenI (List.map idc y.Kids)) else false)=false from by
    by_cases h0:0≤p
    ·rw [show leI 0 p=true from dzT h0,show ltI p (lenI (List.map idc y.Kids))=false from ltI_f (by simp only [lenI,List.length_map]; omega)]; rfl
    ·rw [show leI 0 p=false from dzF h0]; rfl,if_neg hp]
   simp only [cond_false,obs]
   rw [hroom2,cond_true,hfin y,List.append_assoc]
   rfl
end Go.Proofs
namespace Go.Proofs
open Go Go.Abs
set_option maxRecDepth 100000
set_option linter.unusedVariables false
def nd5 (x:Int):GNode:=⟨6,[],x,0,[]⟩
def wd5 (s:List UInt8):GNode:=⟨5,s,0,0,[]⟩
def wrongs:List GNode:=[⟨4,[99,97,112],0,0,[]⟩,⟨4,[116,105,109,101],0,0,[GNode.cs (nd5 5)]⟩,⟨4,[99,97,112],0,0,[GNode.cs (nd5 5),GNode.cs (wd5 [111,110]),GNode.cs (wd5 [119,111,114,107])]⟩,⟨4,[101,110,101,114,103,121],0,0,[GNode.cs (nd5 5),GNode.cs (wd5 [112,101,114]),GNode.cs (nd5 7)]⟩,⟨4,[115,116,97,114,116],0,0,[GNode.cs (nd5 5),GNode.cs (wd5 [111,110])]⟩,⟨4,[116,97,120],0,0,[GNode.cs (nd5 10001)]⟩]
def at7 (w:GNode):GNode:=⟨w.Kind,w.Name,w.N,7777,w.Kids⟩
theorem rd_i {a b:Option (GAr × Bool)} (h:a=b):a=b:=h
theorem wrong_bad (j:Nat) (hj:j < 6):∃ w,wrongs[j]?=some w∧badAt (at7 w) (if j < 5 then 9 else 3) N0∧treeD 2 (at7 w):=by
 have h6:j=0∨j=1∨j=2∨j=3∨j=4∨j=5:=by omega
 have hn:∀ x:Int,(0≤x∧x≤20000)→treeD 1 (nd5 x):=fun x hx=>⟨by simp [nd5],by simp only [nd5]; omega,by simp [nd5],by simp [nd5],by simp [nd5],fun k hk=>by simp [nd5] at hk⟩
 have hw:∀ s:List UInt8,s.length≤20→treeD 1 (wd5 s):=fun s hs=>⟨by simp [wd5],by simp [wd5],by simp [wd5],by simp only [wd5]; unfold maxLen; omega,by simp [wd5],fun k hk=>by simp [wd5] at hk⟩
 have ht:∀ (nm:List UInt8) (l:List GNode),nm.length≤20→l.length≤20→(∀ y ∈ l,treeD 1 y)→treeD 2 (at7 ⟨4,nm,0,0,l.map GNode.cs⟩):=fun nm l h1 h2 h3=>⟨by simp [at7],by simp [at7],by simp [at7],by simp only [at7]; unfold maxLen; omega,by simp only [at7,List.length_map]; unfold maxLen; omega,kidsD_cs h3⟩
 rcases h6 with rfl | rfl | rfl | rfl | rfl | rfl
 ·exact ⟨_,rfl,⟨rfl,rfl,of_cs' _ _ _ _ _,⟨5,7,0,1440,0,0,0⟩,false,rd_i (by kernel_rfl),Or.inl ⟨rfl,rfl⟩⟩,ht [99,97,112] [] (by decide) (by decide) (fun y hy=>by cases hy)⟩
 ·exact ⟨_,rfl,⟨rfl,rfl,of_cs' _ _ _ _ _,⟨3,7,0,1440,5,0,0⟩,false,rd_i (by kernel_rfl),Or.inl ⟨rfl,rfl⟩⟩,ht [116,105,109,101] [nd5 5] (by decide) (by decide) (fun y hy=>by simp at hy; subst hy; exact hn _ (by omega))⟩
 ·exact ⟨_,rfl,⟨rfl,rfl,of_cs' _ _ _ _ _,⟨0,0,0,0,0,0,0⟩,false,rd_i (by kernel_rfl),Or.inl ⟨rfl,rfl⟩⟩,ht [99,97,112] [nd5 5,wd5 [111,110],wd5 [119,111,114,107]] (by decide) (by decide) (fun y hy=>by simp at hy; rcases hy with rfl | rfl | rfl; exact hn _ (by omega); exact hw _ (by decide); exact hw _ (by decide))⟩
 ·exact ⟨_,rfl,⟨rfl,rfl,of_cs' _ _ _ _ _,⟨0,0,0,0,0,0,0⟩,false,rd_i (by kernel_rfl),Or.inl ⟨rfl,rfl⟩⟩,ht [101,110,101,114,103,121] [nd5 5,wd5 [112,101,114],nd5 7] (by decide) (by decide) (fun y hy=>by simp at hy; rcases hy with rfl | rfl | rfl; exact hn _ (by omega); exact hw _ (by decide); exact hn _ (by omega))⟩
 ·exact ⟨_,rfl,⟨rfl,rfl,of_cs' _ _ _ _ _,⟨1,0,0,1440,5,0,0⟩,false,rd_i (by kernel_rfl),Or.inl ⟨rfl,rfl⟩⟩,ht [115,116,97,114,116] [nd5 5,wd5 [111,110]] (by decide) (by decide) (fun y hy=>by simp at hy; rcases hy with rfl | rfl; exact hn _ (by omega); exact hw _ (by decide))⟩
 ·exact ⟨_,rfl,⟨rfl,rfl,of_cs' _ _ _ _ _,⟨6,7,0,1440,10001,0,0⟩,true,rd_i (by kernel_rfl),Or.inr ⟨rfl,by decide,rfl⟩⟩,ht [116,97,120] [nd5 10001] (by decide) (by decide) (fun y hy=>by simp at hy; subst hy; exact hn _ (by omega))⟩
end Go.Proofs
namespace Go.Proofs
open Go Go.Abs
set_option maxRecDepth 100000
set_option linter.unusedVariables false
theorem okB_mid (A:GNode→List GAr × GDg) (y:GNode) (post:List GNode):∀ (pre:List GNode) (nm:List (List UInt8)),okB A (pre++y :: post) nm→(A y).2.Err=0
 | [],nm,h=>h.2.2.1
 | z :: pre,nm,h=>okB_mid A y post pre _ h.2.2.2
theorem wrong_list (n:Nat):∀ {β:Type} (j:Int) (K:GNode→Option β),((g_law32_number n 5).bind fun r11=>(g_law32_number n 5).bind fun r12=>(g_law32_word n [111,110]).bind fun r13=>(g_law32_word n [119,111,114,107]).bind fun r14=>(g_law32_number n 5).bind fun r15=>(g_law32_word n [112,101,114]).bind fun r16=>(g_law32_number n 7).bind fun r17=>(g_law32_number n 5).bind fun r18=>(g_law32_word n [111,110]).bind fun r19=>(g_law32_number n 10001).bind fun r20 =>
  (Option.bind (getI [GNode.cs (⟨4,[99,97,112],0,0,[]⟩:GNode),GNode.cs (⟨4,[116,105,109,101],0,0,[GNode.cs r11]⟩:GNode),GNode.cs (⟨4,[99,97,112],0,0,[GNode.cs r12,GNode.cs r13,GNode.cs r14]⟩:GNode),GNode.cs (⟨4,[101,110,101,114,103,121],0,0,[GNode.cs r15,GNode.cs r16,GNode.cs r17]⟩:GNode),GNode.cs (⟨4,[115,116,97,114,116],0,0,[GNode.cs r18,GNode.cs r19]⟩:GNode),GNode.cs (⟨4,[116,97,120],0,0,[GNode.cs r20]⟩:GNode)] j) GNode.of).bind K)=(Option.bind (getI (wrongs.map GNode.cs) j) GNode.of).bind K:=fun j K=>rfl
theorem tars_all {l:List GNode} (h:∀ y ∈ l,y.N=7):tarsL l=l:=by
 unfold tarsL
 exact List.filter_eq_self.2 fun y hy=>dzT (h y hy)
theorem tars_mem {l:List GNode} {y:GNode} (h:y ∈ tarsL l):y ∈ l∧y.N=7:=by
 unfold tarsL at h
 obtain ⟨h1,h2⟩:=List.mem_filter.1 h
 exact ⟨h1,of_decide_eq_true h2⟩
end Go.Proofs
