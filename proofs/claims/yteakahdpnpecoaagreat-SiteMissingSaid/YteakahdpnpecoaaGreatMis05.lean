/-
  A part of the proof of a statement of the seat YteakahdpnpecoaaGreat.
-/
import Derived.Test.YteakahdpnpecoaaGreatMis04
set_option linter.unusedVariables false
namespace Go.Proofs
open Go Go.Abs
set_option maxRecDepth 100000
theorem g_sr_whole_ok (n:Nat) (yI:GN) (yC:GCo) (yK:GCt) (yG:GCg) (yB:GBay) (yS:GSite) (yF:Bool) (yD:List GDg) (h7_m:List ((List UInt8) × Bool)) (h8_m:List ((List UInt8) × GTh)) (h10_m:List ((List UInt8) × Bool)):∀ r,g_sr_whole n yI yC yK yG yB yS yF yD h7_m h8_m h10_m=some r→ACall Tryz.prog 59 [pZ0, .mv 1011] (Go.Abs.look (hp_srw yI yC yK yG yB yS yF yD h7_m h8_m h10_m)) (heapR (excX (fun r:Unit=>((.ret (.tup []),hp_srw yI yC yK yG yB yS yF yD h7_m h8_m h10_m):AEnd × List (Nat × Blk))) (fun e:(Int × Int)=>((.panic (.ifc 116 (.agg [I e.1,I e.2])),hp_srw yI yC yK yG yB yS yF yD h7_m h8_m h10_m):AEnd × List (Nat × Blk)))) r):=by
 refine acall_sim (X:=excX (fun r:Unit=>((.ret (.tup []),hp_srw yI yC yK yG yB yS yF yD h7_m h8_m h10_m):AEnd × List (Nat × Blk))) (fun e:(Int × Int)=>((.panic (.ifc 116 (.agg [I e.1,I e.2])),hp_srw yI yC yK yG yB yS yF yD h7_m h8_m h10_m):AEnd × List (Nat × Blk)))) (hp_srw yI yC yK yG yB yS yF yD h7_m h8_m h10_m) Tryz.func59 rfl Tryz.ntmps59 rfl ?_
 unfold g_sr_whole
 refine sim_cps (fun _=>⟨[(0,pZ0)],hc0_srw yI yC yK yG yB yS yF yD h7_m h8_m h10_m⟩:Unit→St) (fun _=>g_sr_whole_j1 n yI yC yG h10_m) ?_ ?_
 ·rintro _
  show SimE (g_sr_whole_j1 n yI yC yG h10_m) _ _ _ _ _ _
  unfold g_sr_whole_j1
  refine sBi (fun j2=>⟨[(0,pZ0),(68,B j2)],hc0_srw yI yC yK yG yB yS yF yD h7_m h8_m h10_m⟩:Bool→St) ?_ ?_
  rotate_left
  ·rintro j2
   refine sC j2 krf ?_ ?_
   ·refine sG (xR 4 krf (xIn [] [I 3, .agg [I yI.Kind,S yI.Name,I yI.N,I yI.At, .p (.sl 5 (mI yI.Kids))]] [] [] [] krf Tryz.func49 rfl Tryz.ntmps49 rfl krf krf krf (sRK tfm (sq24 3 yI) krf (sG (xR 6 krf (xPa 116 (.agg [I 3,I yI.At]) krf rfl krf (iq_p [] [] krf ?_)))))))
    exact hq_p kp_srw [] krf krf krf
   refine sK ?_
   exact hq_n (.id) kp_srw [] krf krf krf krf
  refine sG (xR 4 krf ?_)
  refine xs_u krf krf (aop_look (kt:=9) (e:=4) (ke:=mk_msb) (ve:=mv_msb) (eq:=me_msb) (b:=1010) (m:=h10_m) (k:=[116,104,101,114,109,97,108]) (z0:=false) rfl krf krf krf krf krf kff (fun _ _=>eqV_strK rfl _ _) krf) ?_
  refine xR 1 krf ?_
  refine xS (mgetD me_msb [116,104,101,114,109,97,108] false h10_m) (fun h3=>?_) (fun h3=>?_)
  rotate_left
  ·refine xN (want_tf krf h3) krf (xR 15 krf ?_)
   refine xS (eqI yI.N 5) (fun h8=>?_) (fun h8=>?_)
   ·refine xO (want_tt krf h8) krf (xR 3 krf ?_)
    refine xC [] krf (g_site_goodAmps_ok n yG) krf krf kff (fun r9=>?_)
    refine xR 3 krf (xE ?_)
    exact nqK (!r9) krf
   refine xN (want_tf krf h8) krf (xR 7 krf (xE ?_))
   exact nqK false krf
  refine xO (want_tt krf h3) krf (xR 4 krf ?_)
  refine xC [] krf (g_site_goodCable_ok n yC.Cable) krf krf kff (fun r4=>?_)
  refine xR 3 krf ?_
  refine xS (!r4) (fun h5=>?_) (fun h5=>?_)
  ·refine xN (want_ft krf h5) krf (xR 14 krf (xE ?_))
   exact nqK true krf
  refine xO (want_ff krf h5) krf (xR 6 krf ?_)
  refine xS (eqI yI.N 5) (fun h6=>?_) (fun h6=>?_)
  ·refine xO (want_tt krf h6) krf (xR 3 krf ?_)
   refine xC [] krf (g_site_goodAmps_ok n yG) krf krf kff (fun r7=>?_)
   refine xR 3 krf (xE ?_)
   exact nqK (!r7) krf
  refine xN (want_tf krf h6) krf (xR 7 krf (xE ?_))
  exact nqK false krf
 refine sS (sG (xR 1 krf ?_))
 refine xs_range (t:=75) (m:=1011) (b:=700) (es:=(mfT 1012 1013 1014 1015 1016 1017 1018 1019 1020 1021)) krf rfl rfl krf krf krf krf krf (fun en10 ck11 hb11=>?_)
 refine xE (sNK ⟨[(0,pZ0),(7, .iv 700)],[(700, .it 1011 ck11 (#[]))]++hq86 yI yC yK yG yB yS yF yD h7_m h8_m h10_m en10 ck11++hq87⟩ krf (sB (sPK ⟨[(0,pZ0),(7, .iv 700)],[(700, .it 1011 ck11 (#[]))]++hq86 yI yC yK yG yB yS yF yD h7_m h8_m h10_m en10 ck11++hq87⟩ krf (sim_mloops (b:=700) (m:=1011) (es:=(mfT 1012 1013 1014 1015 1016 1017 1018 1019 1020 1021)) _ hb11 rfl rfl krf krf krf krf krf krf krf rfl ?_ ?_ ?_))))
 ·repeat' first | exact cstL_nil | exact cst_id | exact cst_F | exact cst_none | refine cstL_cons ?_ ?_ | refine cst_cond ?_ ?_ | refine cst_bind fun _=>?_
 ·intro sn12 _ hN14
  refine xR 1 krf (xE (sNK ⟨[(0,pZ0),(9,B false)],hq86 yI yC yK yG yB yS yF yD h7_m h8_m h10_m en10 ck11++hq87⟩ krf (sim_weak (weak_mg (en:=en10) (ck:=ck11) 1011 (mfT 1012 1013 1014 1015 1016 1017 1018 1019 1020 1021) krf) (sPK ⟨[(0,pZ0),(9,B false)],hc0_srw yI yC yK yG yB yS yF yD h7_m h8_m h10_m⟩ krf (sS (sim_condF krf (sim_exit ?_)))))))
  refine sq_x (mq_x hN14 (bq_hit ?_))
  exact kqK (k:=fun _=>g_sr_whole_j1 n yI yC yG h10_m) () krf
 refine ent_cons ?_ (ent_cons ?_ (ent_cons ?_ (ent_cons ?_ (ent_cons ?_ (ent_cons ?_ (ent_cons ?_ (ent_cons ?_ (ent_cons ?_ (ent_cons ?_ (ent_cons ?_ (ent_cons ?_ (ent_cons ?_ (ent_nil)))))))))))))
 ·intro sn15 q16 _ hN17
  refine xR 1 krf (xE (sNK (sq47 ck11 (sn15.push (bornAt en10 0)) yI yC yK yG yB yS yF yD h7_m h8_m h10_m en10) krf (sS (sim_condT krf (sK (sNK (sq48 ck11 (sn15.push (bornAt en10 0)) yI yC yK yG yB yS yF yD h7_m h8_m h10_m en10) krf (sB ?_)))))))
  refine sS (sG (xs_entry (b:=700) (m:=1011) (es:=(mfT 1012 1013 1014 1015 1016 1017 1018 1019 1020 1021)) (sn:=sn15) 0 hb11 krf rfl krf krf krf krf rfl rfl (xR 5 krf (xE (sNK (sq49 [108,105,109,105,116] false (.func 78) ck11 (sn15.push (bornAt en10 0)) yI yC yK yG yB yS yF yD h7_m h8_m h10_m en10) krf ?_)))))
  refine sim_raw 5 2 krf (fun hw18=>?_)
  refine sBi (fun j19=>(sq50 j19 ck11 (sn15.push (bornAt en10 0)) yI yC yK yG yB yS yF yD h7_m h8_m h10_m en10):Bool→St) ?_ ?_
  ·refine sDr tfm rfl (xR 6 krf ?_)
   refine xC [.agg [.sl 1, .id, .id], .id] krf (g_site_rule_of_ok n [1,2] false yI.N hw18) krf krf kff (fun r20=>?_)
   refine xR 1 krf ?_
   refine xS r20 (fun h21=>?_) (fun h21=>?_)
   ·refine xO (want_tt krf h21) krf (xR 9 krf ?_)
    refine xs_u krf krf (aop_look (kt:=9) (e:=4) (ke:=mk_msb) (ve:=mv_msb) (eq:=me_msb) (b:=1010) (m:=h10_m) (k:=[108,105,109,105,116]) (z0:=false) rfl krf krf krf krf krf kff (fun _ _=>eqV_strK rfl _ _) krf) ?_
    refine xR 2 krf (xED krf ?_)
    exact nqK (!(mgetD me_msb [108,105,109,105,116] false h10_m)) krf
   refine xN (want_tf krf h21) krf (xR 12 krf (xED krf ?_))
   exact nqK false krf
  rintro j19
  refine sC j19 krf ?_ ?_
  ·refine sim_weak (weak_mg (en:=en10) (ck:=ck11) 1011 (mfT 1012 1013 1014 1015 1016 1017 1018 1019 1020 1021) krf) (sG (xR 4 krf (xIn [] [I 4, .agg [I yI.Kind,S yI.Name,I yI.N,I yI.At, .p (.sl 5 (mI yI.Kids))]] [] [] [] krf Tryz.func49 rfl Tryz.ntmps49 rfl krf krf krf (sRK tfm (sq24 4 yI) krf (sG (xR 6 krf (xPa 116 (.agg [I 4,I yI.At]) krf rfl krf ?_)))))))
   refine iq_p [] [] krf (bq_p (mq_p hN17 (bq_p (kq_p ?_))))
   exact hq_p kp_srw [] krf krf krf
  refine sK (bq_n ?_)
  exact mq_n hN17 ⟨[0,7],[700]++kp_srw,[],[]⟩ krf
 ·intro sn22 q23 _ hN24
  refine xR 1 krf (xE (sNK (sq47 ck11 (sn22.push (bornAt en10 1)) yI yC yK yG yB yS yF yD h7_m h8_m h10_m en10) krf (sS (sim_condT krf (sK (sNK (sq48 ck11 (sn22.push (bornAt en10 1)) yI yC yK yG yB yS yF yD h7_m h8_m h10_m en10) krf (sB ?_)))))))
  refine sS (sG (xs_entry (b:=700) (m:=1011) (es:=(mfT 1012 1013 1014 1015 1016 1017 1018 1019 1020 1021)) (sn:=sn22) 1 hb11 krf rfl krf krf krf krf rfl rfl (xR 5 krf (xE (sNK (sq49 [110,101,117,116,114,97,108] false (.func 79) ck11 (sn22.push (bornAt en10 1)) yI yC yK yG yB yS yF yD h7_m h8_m h10_m en10) krf ?_)))))
  refine sim_raw 5 2 krf (fun hw25=>?_)
  refine sBi (fun j26=>(sq50 j26 ck11 (sn22.push (bornAt en10 1)) yI yC yK yG yB yS yF yD h7_m h8_m h10_m en10):Bool→St) ?_ ?_
  ·refine sDr tfm rfl (xR 6 krf ?_)
   refine xC [.agg [.sl 1, .id, .id], .id] krf (g_site_rule_of_ok n [1,2] false yI.N hw25) krf krf kff (fun r27=>?_)
   refine xR 1 krf ?_
   refine xS r27 (fun h28=>?_) (fun h28=>?_)
   ·refine xO (want_tt krf h28) krf (xR 9 krf ?_)
    refine xs_u krf krf (aop_look (kt:=9) (e:=4) (ke:=mk_msb) (ve:=mv_msb) (eq:=me_msb) (b:=1010) (m:=h10_m) (k:=[110,101,117,116,114,97,108]) (z0:=false) rfl krf krf krf krf krf kff (fun _ _=>eqV_strK rfl _ _) krf) ?_
    refine xR 2 krf (xED krf ?_)
    exact nqK (!(mgetD me_msb [110,101,117,116,114,97,108] false h10_m)) krf
   refine xN (want_tf krf h28) krf (xR 12 krf (xED krf ?_))
   exact nqK false krf
  rintro j26
  refine sC j26 krf ?_ ?_
  ·refine sim_weak (weak_mg (en:=en10) (ck:=ck11) 1011 (mfT 1012 1013 1014 1015 1016 1017 1018 1019 1020 1021) krf) (sG (xR 4 krf (xIn [] [I 4, .agg [I yI.Kind,S yI.Name,I yI.N,I yI.At, .p (.sl 5 (mI yI.Kids))]] [] [] [] krf Tryz.func49 rfl Tryz.ntmps49 rfl krf krf krf (sRK tfm (sq24 4 yI) krf (sG (xR 6 krf (xPa 116 (.agg [I 4,I yI.At]) krf rfl krf ?_)))))))
   refine iq_p [] [] krf (bq_p (mq_p hN24 (bq_p (kq_p ?_))))
   exact hq_p kp_srw [] krf krf krf
  refine sK (bq_n ?_)
  exact mq_n hN24 ⟨[0,7],[700]++kp_srw,[],[]⟩ krf
 ·intro sn29 q30 _ hN31
  refine xR 1 krf (xE (sNK (sq47 ck11 (sn29.push (bornAt en10 2)) yI yC yK yG yB yS yF yD h7_m h8_m h10_m en10) krf (sS (sim_condT krf (sK (sNK (sq48 ck11 (sn29.push (bornAt en10 2)) yI yC yK yG yB yS yF yD h7_m h8_m h10_m en10) krf (sB ?_)))))))
  refine sS (sG (xs_entry (b:=700) (m:=1011) (es:=(mfT 1012 1013 1014 1015 1016 1017 1018 1019 1020 1021)) (sn:=sn29) 2 hb11 krf rfl krf krf krf krf rfl rfl (xR 5 krf (xE (sNK (sq49 [102,117,115,101] true (.func 80) ck11 (sn29.push (bornAt en10 2)) yI yC yK yG yB yS yF yD h7_m h8_m h10_m en10) krf ?_)))))
  refine sim_raw 5 2 krf (fun hw32=>?_)
  refine sBi (fun _=>(sq50 false ck11 (sn29.push (bornAt en10 2)) yI yC yK yG yB yS yF yD h7_m h8_m h10_m en10):Unit→St) ?_ ?_
  ·refine sDr tfm rfl (xR 6 krf ?_)
   refine xC [.agg [.sl 1, .id, .id], .id] krf (g_site_rule_of_ok n [1,2] true yI.N hw32) krf krf kff (fun r34=>?_)
   refine xR 1 krf ?_
   refine xS r34 (fun h35=>?_) (fun h35=>?_)
   ·refine xO (want_tt krf h35) krf (xR 12 krf (xED krf ?_))
    exact nqK () krf
   refine xN (want_tf krf h35) krf (xR 12 krf (xED krf ?_))
   exact nqK () krf
  rintro _
  refine sim_condF krf (sK (bq_n ?_))
  exact mq_n hN31 ⟨[0,7],[700]++kp_srw,[],[]⟩ krf
 ·intro sn36 q37 _ hN38
  refine xR 1 krf (xE (sNK (sq47 ck11 (sn36.push (bornAt en10 3)) yI yC yK yG yB yS yF yD h7_m h8_m h10_m en10) krf (sS (sim_condT krf (sK (sNK (sq48 ck11 (sn36.push (bornAt en10 3)) yI yC yK yG yB yS yF yD h7_m h8_m h10_m en10) krf (sB ?_)))))))
  refine sS (sG (xs_entry (b:=700) (m:=1011) (es:=(mfT 1012 1013 1014 1015 1016 1017 1018 1019 1020 1021)) (sn:=sn36) 3 hb11 krf rfl krf krf krf krf rfl rfl (xR 5 krf (xE (sNK ⟨tq83 [116,104,101,114,109,97,108],[(5,bq29),(700, .it 1011 ck11 (sn36.push (bornAt en10 3)))]++hq86 yI yC yK yG yB yS yF yD h7_m h8_m h10_m en10 ck11++hq87⟩ krf (sBi (fun _=>(sq50 false ck11 (sn36.push (bornAt en10 3)) yI yC yK yG yB yS yF yD h7_m h8_m h10_m en10):Unit→St) ?_ ?_))))))
  ·refine sDr tfm rfl (xR 6 krf ?_)
   refine xC [.agg [.sl 1, .id, .id], .id] krf (g_site_rule_of_ok n [1,2] true yI.N (.func 81,#[],#[])) krf krf kff (fun r40=>?_)
   refine xR 1 krf ?_
   refine xS r40 (fun h41=>?_) (fun h41=>?_)
   ·refine xO (want_tt krf h41) krf (xR 12 krf (xED krf ?_))
    exact nqK () krf
   refine xN (want_tf krf h41) krf (xR 12 krf (xED krf ?_))
   exact nqK () krf
  rintro _
  refine sim_condF krf (sK (bq_n ?_))
  exact mq_n hN38 ⟨[0,7],[700]++kp_srw,[],[]⟩ krf
 ·intro sn42 q43 _ hN44
  refine xR 1 krf (xE (sNK (sq47 ck11 (sn42.push (bornAt en10 4)) yI yC yK yG yB yS yF yD h7_m h8_m h10_m en10) krf (sS (sim_condT krf (sK (sNK (sq48 ck11 (sn42.push (bornAt en10 4)) yI yC yK yG yB yS yF yD h7_m h8_m h10_m en10) krf (sB ?_)))))))
  refine sS (sG (xs_entry (b:=700) (m:=1011) (es:=(mfT 1012 1013 1014 1015 1016 1017 1018 1019 1020 1021)) (sn:=sn42) 4 hb11 krf rfl krf krf krf krf rfl rfl (xR 5 krf (xE (sNK ⟨tq83 [102,114,111,109],[(5,bq30),(700, .it 1011 ck11 (sn42.push (bornAt en10 4)))]++hq86 yI yC yK yG yB yS yF yD h7_m h8_m h10_m en10 ck11++hq87⟩ krf ?_)))))
  refine sim_raw 5 2 krf (fun hw45=>?_)
  refine sBi (fun j46=>(sq50 j46 ck11 (sn42.push (bornAt en10 4)) yI yC yK yG yB yS yF yD h7_m h8_m h10_m en10):Bool→St) ?_ ?_
  ·refine sDr tfm rfl (xR 6 krf ?_)
   refine xC [.agg [.sl 1, .id, .id], .id] krf (g_site_rule_of_ok n [2] false yI.N hw45) krf krf kff (fun r47=>?_)
   refine xR 1 krf ?_
   refine xS r47 (fun h48=>?_) (fun h48=>?_)
   ·refine xO (want_tt krf h48) krf (xR 9 krf ?_)
    refine xs_u krf krf (aop_look (kt:=9) (e:=4) (ke:=mk_msb) (ve:=mv_msb) (eq:=me_msb) (b:=1010) (m:=h10_m) (k:=[102,114,111,109]) (z0:=false) rfl krf krf krf krf krf kff (fun _ _=>eqV_strK rfl _ _) krf) ?_
    refine xR 2 krf (xED krf ?_)
    exact nqK (!(mgetD me_msb [102,114,111,109] false h10_m)) krf
   refine xN (want_tf krf h48) krf (xR 12 krf (xED krf ?_))
   exact nqK false krf
  rintro j46
  refine sC j46 krf ?_ ?_
  ·refine sim_weak (weak_mg (en:=en10) (ck:=ck11) 1011 (mfT 1012 1013 1014 1015 1016 1017 1018 1019 1020 1021) krf) (sG (xR 4 krf (xIn [] [I 4, .agg [I yI.Kind,S yI.Name,I yI.N,I yI.At, .p (.sl 5 (mI yI.Kids))]] [] [] [] krf Tryz.func49 rfl Tryz.ntmps49 rfl krf krf krf (sRK tfm (sq24 4 yI) krf (sG (xR 6 krf (xPa 116 (.agg [I 4,I yI.At]) krf rfl krf ?_)))))))
   refine iq_p [] [] krf (bq_p (mq_p hN44 (bq_p (kq_p ?_))))
   exact hq_p kp_srw [] krf krf krf
  refine sK (bq_n ?_)
  exact mq_n hN44 ⟨[0,7],[700]++kp_srw,[],[]⟩ krf
 ·intro sn49 q50 _ hN51
  refine xR 1 krf (xE (sNK (sq47 ck11 (sn49.push (bornAt en10 5)) yI yC yK yG yB yS yF yD h7_m h8_m h10_m en10) krf (sS (sim_condT krf (sK (sNK (sq48 ck11 (sn49.push (bornAt en10 5)) yI yC yK yG yB yS yF yD h7_m h8_m h10_m en10) krf (sB ?_)))))))
  refine sS (sG (xs_entry (b:=700) (m:=1011) (es:=(mfT 1012 1013 1014 1015 1016 1017 1018 1019 1020 1021)) (sn:=sn49) 5 hb11 krf rfl krf krf krf krf rfl rfl (xR 5 krf (xE (sNK ⟨tq83 [111,119,110,101,114],[(5,bq32),(700, .it 1011 ck11 (sn49.push (bornAt en10 5)))]++hq86 yI yC yK yG yB yS yF yD h7_m h8_m h10_m en10 ck11++hq87⟩ krf (sBi (fun j52=>(sq50 j52 ck11 (sn49.push (bornAt en10 5)) yI yC yK yG yB yS yF yD h7_m h8_m h10_m en10):Bool→St) ?_ ?_))))))
  ·refine sDr tfm rfl (xR 6 krf ?_)
   refine xC [.agg [.sl 1, .id, .id], .id] krf (g_site_rule_of_ok n [4,5] false yI.N (.func 44,#[],#[])) krf krf kff (fun r53=>?_)
   refine xR 1 krf ?_
   refine xS r53 (fun h54=>?_) (fun h54=>?_)
   ·refine xO (want_tt krf h54) krf (xR 9 krf ?_)
    refine xs_u krf krf (aop_look (kt:=9) (e:=4) (ke:=mk_msb) (ve:=mv_msb) (eq:=me_msb) (b:=1010) (m:=h10_m) (k:=[111,119,110,101,114]) (z0:=false) rfl krf krf krf krf krf kff (fun _ _=>eqV_strK rfl _ _) krf) ?_
    refine xR 2 krf (xED krf ?_)
    exact nqK (!(mgetD me_msb [111,119,110,101,114] false h10_m)) krf
   refine xN (want_tf krf h54) krf (xR 12 krf (xED krf ?_))
   exact nqK false krf
  rintro j52
  refine sC j52 krf ?_ ?_
  ·refine sim_weak (weak_mg (en:=en10) (ck:=ck11) 1011 (mfT 1012 1013 1014 1015 1016 1017 1018 1019 1020 1021) krf) (sG (xR 4 krf (xIn [] [I 4, .agg [I yI.Kind,S yI.Name,I yI.N,I yI.At, .p (.sl 5 (mI yI.Kids))]] [] [] [] krf Tryz.func49 rfl Tryz.ntmps49 rfl krf krf krf (sRK tfm (sq24 4 yI) krf (sG (xR 6 krf (xPa 116 (.agg [I 4,I yI.At]) krf rfl krf ?_)))))))
   refine iq_p [] [] krf (bq_p (mq_p hN51 (bq_p (kq_p ?_))))
   exact hq_p kp_srw [] krf krf krf
  refine sK (bq_n ?_)
  exact mq_n hN51 ⟨[0,7],[700]++kp_srw,[],[]⟩ krf
 ·intro sn55 q56 _ hN57
  refine xR 1 krf (xE (sNK (sq47 ck11 (sn55.push (bornAt en10 6)) yI yC yK yG yB yS yF yD h7_m h8_m h10_m en10) krf (sS (sim_condT krf (sK (sNK (sq48 ck11 (sn55.push (bornAt en10 6)) yI yC yK yG yB yS yF yD h7_m h8_m h10_m en10) krf (sB ?_)))))))
  refine sS (sG (xs_entry (b:=700) (m:=1011) (es:=(mfT 1012 1013 1014 1015 1016 1017 1018 1019 1020 1021)) (sn:=sn55) 6 hb11 krf rfl krf krf krf krf rfl rfl (xR 5 krf (xE (sNK ⟨tq83 [114,97,110,107],[(5,bq33),(700, .it 1011 ck11 (sn55.push (bornAt en10 6)))]++hq86 yI yC yK yG yB yS yF yD h7_m h8_m h10_m en10 ck11++hq87⟩ krf (sBi (fun j58=>(sq50 j58 ck11 (sn55.push (bornAt en10 6)) yI yC yK yG yB yS yF yD h7_m h8_m h10_m en10):Bool→St) ?_ ?_))))))
  ·refine sDr tfm rfl (xR 6 krf ?_)
   refine xC [.agg [.sl 1, .id, .id], .id] krf (g_site_rule_of_ok n [4] false yI.N (.func 46,#[],#[])) krf krf kff (fun r59=>?_)
   refine xR 1 krf ?_
   refine xS r59 (fun h60=>?_) (fun h60=>?_)
   ·refine xO (want_tt krf h60) krf (xR 9 krf ?_)
    refine xs_u krf krf (aop_look (kt:=9) (e:=4) (ke:=mk_msb) (ve:=mv_msb) (eq:=me_msb) (b:=1010) (m:=h10_m) (k:=[114,97,110,107]) (z0:=false) rfl krf krf krf krf krf kff (fun _ _=>eqV_strK rfl _ _) krf) ?_
    refine xR 2 krf (xED krf ?_)
    exact nqK (!(mgetD me_msb [114,97,110,107] false h10_m)) krf
   refine xN (want_tf krf h60) krf (xR 12 krf (xED krf ?_))
   exact nqK false krf
  rintro j58
  refine sC j58 krf ?_ ?_
  ·refine sim_weak (weak_mg (en:=en10) (ck:=ck11) 1011 (mfT 1012 1013 1014 1015 1016 1017 1018 1019 1020 1021) krf) (sG (xR 4 krf (xIn [] [I 4, .agg [I yI.Kind,S yI.Name,I yI.N,I yI.At, .p (.sl 5 (mI yI.Kids))]] [] [] [] krf Tryz.func49 rfl Tryz.ntmps49 rfl krf krf krf (sRK tfm (sq24 4 yI) krf (sG (xR 6 krf (xPa 116 (.agg [I 4,I yI.At]) krf rfl krf ?_)))))))
   refine iq_p [] [] krf (bq_p (mq_p hN57 (bq_p (kq_p ?_))))
   exact hq_p kp_srw [] krf krf krf
  refine sK (bq_n ?_)
  exact mq_n hN57 ⟨[0,7],[700]++kp_srw,[],[]⟩ krf
 ·intro sn61 q62 _ hN63
  refine xR 1 krf (xE (sNK (sq47 ck11 (sn61.push (bornAt en10 7)) yI yC yK yG yB yS yF yD h7_m h8_m h10_m en10) krf (sS (sim_condT krf (sK (sNK (sq48 ck11 (sn61.push (bornAt en10 7)) yI yC yK yG yB yS yF yD h7_m h8_m h10_m en10) krf (sB ?_)))))))
  refine sS (sG (xs_entry (b:=700) (m:=1011) (es:=(mfT 1012 1013 1014 1015 1016 1017 1018 1019 1020 1021)) (sn:=sn61) 7 hb11 krf rfl krf krf krf krf rfl rfl (xR 5 krf (xE (sNK ⟨tq83 [99,97,114,100],[(5,bq34),(700, .it 1011 ck11 (sn61.push (bornAt en10 7)))]++hq86 yI yC yK yG yB yS yF yD h7_m h8_m h10_m en10 ck11++hq87⟩ krf (sBi (fun j64=>(sq50 j64 ck11 (sn61.push (bornAt en10 7)) yI yC yK yG yB yS yF yD h7_m h8_m h10_m en10):Bool→St) ?_ ?_))))))
  ·refine sDr tfm rfl (xR 6 krf ?_)
   refine xC [.agg [.sl 1, .id, .id], .id] krf (g_site_rule_of_ok n [4] false yI.N (.func 48,#[],#[])) krf krf kff (fun r65=>?_)
   refine xR 1 krf ?_
   refine xS r65 (fun h66=>?_) (fun h66=>?_)
   ·refine xO (want_tt krf h66) krf (xR 9 krf ?_)
    refine xs_u krf krf (aop_look (kt:=9) (e:=4) (ke:=mk_msb) (ve:=mv_msb) (eq:=me_msb) (b:=1010) (m:=h10_m) (k:=[99,97,114,100]) (z0:=false) rfl krf krf krf krf krf kff (fun _ _=>eqV_strK rfl _ _) krf) ?_
    refine xR 2 krf (xED krf ?_)
    exact nqK (!(mgetD me_msb [99,97,114,100] false h10_m)) krf
   refine xN (want_tf krf h66) krf (xR 12 krf (xED krf ?_))
   exact nqK false krf
  rintro j64
  refine sC j64 krf ?_ ?_
  ·refine sim_weak (weak_mg (en:=en10) (ck:=ck11) 1011 (mfT 1012 1013 1014 1015 1016 1017 1018 1019 1020 1021) krf) (sG (xR 4 krf (xIn [] [I 4, .agg [I yI.Kind,S yI.Name,I yI.N,I yI.At, .p (.sl 5 (mI yI.Kids))]] [] [] [] krf Tryz.func49 rfl Tryz.ntmps49 rfl krf krf krf (sRK tfm (sq24 4 yI) krf (sG (xR 6 krf (xPa 116 (.agg [I 4,I yI.At]) krf rfl krf ?_)))))))
   refine iq_p [] [] krf (bq_p (mq_p hN63 (bq_p (kq_p ?_))))
   exact hq_p kp_srw [] krf krf krf
  refine sK (bq_n ?_)
  exact mq_n hN63 ⟨[0,7],[700]++kp_srw,[],[]⟩ krf
 ·intro sn67 q68 _ hN69
  refine xR 1 krf (xE (sNK (sq47 ck11 (sn67.push (bornAt en10 8)) yI yC yK yG yB yS yF yD h7_m h8_m h10_m en10) krf (sS (sim_condT krf (sK (sNK (sq48 ck11 (sn67.push (bornAt en10 8)) yI yC yK yG yB yS yF yD h7_m h8_m h10_m en10) krf (sB ?_)))))))
  refine sS (sG (xs_entry (b:=700) (m:=1011) (es:=(mfT 1012 1013 1014 1015 1016 1017 1018 1019 1020 1021)) (sn:=sn67) 8 hb11 krf rfl krf krf krf krf rfl rfl (xR 5 krf (xE (sNK (sq51 [97,116] (.func (.func 50) #[] #[]) ck11 (sn67.push (bornAt en10 8)) yI yC yK yG yB yS yF yD h7_m h8_m h10_m en10) krf (sBi (fun j70=>(sq50 j70 ck11 (sn67.push (bornAt en10 8)) yI yC yK yG yB yS yF yD h7_m h8_m h10_m en10):Bool→St) ?_ ?_))))))
  ·refine sDr tfm rfl (xR 6 krf ?_)
   refine xC [.agg [.sl 1, .id, .id], .id] krf (g_site_rule_of_ok n [5] false yI.N (.func 50,#[],#[])) krf krf kff (fun r71=>?_)
   refine xR 1 krf ?_
   refine xS r71 (fun h72=>?_) (fun h72=>?_)
   ·refine xO (want_tt krf h72) krf (xR 9 krf ?_)
    refine xs_u krf krf (aop_look (kt:=9) (e:=4) (ke:=mk_msb) (ve:=mv_msb) (eq:=me_msb) (b:=1010) (m:=h10_m) (k:=[97,116]) (z0:=false) rfl krf krf krf krf krf kff (fun _ _=>eqV_strK rfl _ _) krf) ?_
    refine xR 2 krf (xED krf ?_)
    exact nqK (!(mgetD me_msb [97,116] false h10_m)) krf
   refine xN (want_tf krf h72) krf (xR 12 krf (xED krf ?_))
   exact nqK false krf
  rintro j70
  refine sC j70 krf ?_ ?_
  ·refine sim_weak (weak_mg (en:=en10) (ck:=ck11) 1011 (mfT 1012 1013 1014 1015 1016 1017 1018 1019 1020 1021) krf) (sG (xR 4 krf (xIn [] [I 4, .agg [I yI.Kind,S yI.Name,I yI.N,I yI.At, .p (.sl 5 (mI yI.Kids))]] [] [] [] krf Tryz.func49 rfl Tryz.ntmps49 rfl krf krf krf (sRK tfm (sq24 4 yI) krf (sG (xR 6 krf (xPa 116 (.agg [I 4,I yI.At]) krf rfl krf ?_)))))))
   refine iq_p [] [] krf (bq_p (mq_p hN69 (bq_p (kq_p ?_))))
   exact hq_p kp_srw [] krf krf krf
  refine sK (bq_n ?_)
  exact mq_n hN69 ⟨[0,7],[700]++kp_srw,[],[]⟩ krf
 ·intro sn73 q74 _ hN75
  refine xR 1 krf (xE (sNK (sq47 ck11 (sn73.push (bornAt en10 9)) yI yC yK yG yB yS yF yD h7_m h8_m h10_m en10) krf (sS (sim_condT krf (sK (sNK (sq48 ck11 (sn73.push (bornAt en10 9)) yI yC yK yG yB yS yF yD h7_m h8_m h10_m en10) krf (sB ?_)))))))
  refine sS (sG (xs_entry (b:=700) (m:=1011) (es:=(mfT 1012 1013 1014 1015 1016 1017 1018 1019 1020 1021)) (sn:=sn73) 9 hb11 krf rfl krf krf krf krf rfl rfl (xR 5 krf (xE (sNK (sq51 [112,104,97,115,101,115] (.func (.func 51) #[] #[]) ck11 (sn73.push (bornAt en10 9)) yI yC yK yG yB yS yF yD h7_m h8_m h10_m en10) krf (sBi (fun j76=>(sq50 j76 ck11 (sn73.push (bornAt en10 9)) yI yC yK yG yB yS yF yD h7_m h8_m h10_m en10):Bool→St) ?_ ?_))))))
  ·refine sDr tfm rfl (xR 6 krf ?_)
   refine xC [.agg [.sl 1, .id, .id], .id] krf (g_site_rule_of_ok n [5] false yI.N (.func 51,#[],#[])) krf krf kff (fun r77=>?_)
   refine xR 1 krf ?_
   refine xS r77 (fun h78=>?_) (fun h78=>?_)
   ·refine xO (want_tt krf h78) krf (xR 9 krf ?_)
    refine xs_u krf krf (aop_look (kt:=9) (e:=4) (ke:=mk_msb) (ve:=mv_msb) (eq:=me_msb) (b:=1010) (m:=h10_m) (k:=[112,104,97,115,101,115]) (z0:=false) rfl krf krf krf krf krf kff (fun _ _=>eqV_strK rfl _ _) krf) ?_
    refine xR 2 krf (xED krf ?_)
    exact nqK (!(mgetD me_msb [112,104,97,115,101,115] false h10_m)) krf
   refine xN (want_tf krf h78) krf (xR 12 krf (xED krf ?_))
   exact nqK false krf
  rintro j76
  refine sC j76 krf ?_ ?_
  ·refine sim_weak (weak_mg (en:=en10) (ck:=ck11) 1011 (mfT 1012 1013 1014 1015 1016 1017 1018 1019 1020 1021) krf) (sG (xR 4 krf (xIn [] [I 4, .agg [I yI.Kind,S yI.Name,I yI.N,I yI.At, .p (.sl 5 (mI yI.Kids))]] [] [] [] krf Tryz.func49 rfl Tryz.ntmps49 rfl krf krf krf (sRK tfm (sq24 4 yI) krf (sG (xR 6 krf (xPa 116 (.agg [I 4,I yI.At]) krf rfl krf ?_)))))))
   refine iq_p [] [] krf (bq_p (mq_p hN75 (bq_p (kq_p ?_))))
   exact hq_p kp_srw [] krf krf krf
  refine sK (bq_n ?_)
  exact mq_n hN75 ⟨[0,7],[700]++kp_srw,[],[]⟩ krf
 ·intro sn79 q80 _ hN81
  refine xR 1 krf (xE (sNK (sq47 ck11 (sn79.push (bornAt en10 10)) yI yC yK yG yB yS yF yD h7_m h8_m h10_m en10) krf (sS (sim_condT krf (sK (sNK (sq48 ck11 (sn79.push (bornAt en10 10)) yI yC yK yG yB yS yF yD h7_m h8_m h10_m en10) krf (sB ?_)))))))
  refine sS (sG (xs_entry (b:=700) (m:=1011) (es:=(mfT 1012 1013 1014 1015 1016 1017 1018 1019 1020 1021)) (sn:=sn79) 10 hb11 krf rfl krf krf krf krf rfl rfl (xR 5 krf (xE (sNK ⟨tq83 [97,109,112,115],[(5,bq37),(700, .it 1011 ck11 (sn79.push (bornAt en10 10)))]++hq86 yI yC yK yG yB yS yF yD h7_m h8_m h10_m en10 ck11++hq87⟩ krf ?_)))))
  refine sim_raw 5 2 krf (fun hw82=>?_)
  refine sBi (fun j83=>(sq50 j83 ck11 (sn79.push (bornAt en10 10)) yI yC yK yG yB yS yF yD h7_m h8_m h10_m en10):Bool→St) ?_ ?_
  ·refine sDr tfm rfl (xR 6 krf ?_)
   refine xC [.agg [.sl 1, .id, .id], .id] krf (g_site_rule_of_ok n [5] false yI.N hw82) krf krf kff (fun r84=>?_)
   refine xR 1 krf ?_
   refine xS r84 (fun h85=>?_) (fun h85=>?_)
   ·refine xO (want_tt krf h85) krf (xR 9 krf ?_)
    refine xs_u krf krf (aop_look (kt:=9) (e:=4) (ke:=mk_msb) (ve:=mv_msb) (eq:=me_msb) (b:=1010) (m:=h10_m) (k:=[97,109,112,115]) (z0:=false) rfl krf krf krf krf krf kff (fun _ _=>eqV_strK rfl _ _) krf) ?_
    refine xR 2 krf (xED krf ?_)
    exact nqK (!(mgetD me_msb [97,109,112,115] false h10_m)) krf
   refine xN (want_tf krf h85) krf (xR 12 krf (xED krf ?_))
   exact nqK false krf
  rintro j83
  refine sC j83 krf ?_ ?_
  ·refine sim_weak (weak_mg (en:=en10) (ck:=ck11) 1011 (mfT 1012 1013 1014 1015 1016 1017 1018 1019 1020 1021) krf) (sG (xR 4 krf (xIn [] [I 4, .agg [I yI.Kind,S yI.Name,I yI.N,I yI.At, .p (.sl 5 (mI yI.Kids))]] [] [] [] krf Tryz.func49 rfl Tryz.ntmps49 rfl krf krf krf (sRK tfm (sq24 4 yI) krf (sG (xR 6 krf (xPa 116 (.agg [I 4,I yI.At]) krf rfl krf ?_)))))))
   refine iq_p [] [] krf (bq_p (mq_p hN81 (bq_p (kq_p ?_))))
   exact hq_p kp_srw [] krf krf krf
  refine sK (bq_n ?_)
  exact mq_n hN81 ⟨[0,7],[700]++kp_srw,[],[]⟩ krf
 ·intro sn86 q87 _ hN88
  refine xR 1 krf (xE (sNK (sq47 ck11 (sn86.push (bornAt en10 11)) yI yC yK yG yB yS yF yD h7_m h8_m h10_m en10) krf (sS (sim_condT krf (sK (sNK (sq48 ck11 (sn86.push (bornAt en10 11)) yI yC yK yG yB yS yF yD h7_m h8_m h10_m en10) krf (sB ?_)))))))
  refine sS (sG (xs_entry (b:=700) (m:=1011) (es:=(mfT 1012 1013 1014 1015 1016 1017 1018 1019 1020 1021)) (sn:=sn86) 11 hb11 krf rfl krf krf krf krf rfl rfl (xR 5 krf (xE (sNK (sq51 [102,97,108,108,98,97,99,107] (.func (.func 54) #[] #[]) ck11 (sn86.push (bornAt en10 11)) yI yC yK yG yB yS yF yD h7_m h8_m h10_m en10) krf (sBi (fun j89=>(sq50 j89 ck11 (sn86.push (bornAt en10 11)) yI yC yK yG yB yS yF yD h7_m h8_m h10_m en10):Bool→St) ?_ ?_))))))
  ·refine sDr tfm rfl (xR 6 krf ?_)
   refine xC [.agg [.sl 1, .id, .id], .id] krf (g_site_rule_of_ok n [5] false yI.N (.func 54,#[],#[])) krf krf kff (fun r90=>?_)
   refine xR 1 krf ?_
   refine xS r90 (fun h91=>?_) (fun h91=>?_)
   ·refine xO (want_tt krf h91) krf (xR 9 krf ?_)
    refine xs_u krf krf (aop_look (kt:=9) (e:=4) (ke:=mk_msb) (ve:=mv_msb) (eq:=me_msb) (b:=1010) (m:=h10_m) (k:=[102,97,108,108,98,97,99,107]) (z0:=false) rfl krf krf krf krf krf kff (fun _ _=>eqV_strK rfl _ _) krf) ?_
    refine xR 2 krf (xED krf ?_)
    exact nqK (!(mgetD me_msb [102,97,108,108,98,97,99,107] false h10_m)) krf
   refine xN (want_tf krf h91) krf (xR 12 krf (xED krf ?_))
   exact nqK false krf
  rintro j89
  refine sC j89 krf ?_ ?_
  ·refine sim_weak (weak_mg (en:=en10) (ck:=ck11) 1011 (mfT 1012 1013 1014 1015 1016 1017 1018 1019 1020 1021) krf) (sG (xR 4 krf (xIn [] [I 4, .agg [I yI.Kind,S yI.Name,I yI.N,I yI.At, .p (.sl 5 (mI yI.Kids))]] [] [] [] krf Tryz.func49 rfl Tryz.ntmps49 rfl krf krf krf (sRK tfm (sq24 4 yI) krf (sG (xR 6 krf (xPa 116 (.agg [I 4,I yI.At]) krf rfl krf ?_)))))))
   refine iq_p [] [] krf (bq_p (mq_p hN88 (bq_p (kq_p ?_))))
   exact hq_p kp_srw [] krf krf krf
  refine sK (bq_n ?_)
  exact mq_n hN88 ⟨[0,7],[700]++kp_srw,[],[]⟩ krf
 intro sn92 q93 _ hN94
 refine xR 1 krf (xE (sNK (sq47 ck11 (sn92.push (bornAt en10 12)) yI yC yK yG yB yS yF yD h7_m h8_m h10_m en10) krf (sS (sim_condT krf (sK (sNK (sq48 ck11 (sn92.push (bornAt en10 12)) yI yC yK yG yB yS yF yD h7_m h8_m h10_m en10) krf (sB ?_)))))))
 refine sS (sG (xs_entry (b:=700) (m:=1011) (es:=(mfT 1012 1013 1014 1015 1016 1017 1018 1019 1020 1021)) (sn:=sn92) 12 hb11 krf rfl krf krf krf krf rfl rfl (xR 5 krf (xE (sNK ⟨tq83 [99,104,97,114,103,101,114],[(5,bq38),(700, .it 1011 ck11 (sn92.push (bornAt en10 12)))]++hq86 yI yC yK yG yB yS yF yD h7_m h8_m h10_m en10 ck11++hq87⟩ krf (sBi (fun j95=>(sq50 j95 ck11 (sn92.push (bornAt en10 12)) yI yC yK yG yB yS yF yD h7_m h8_m h10_m en10):Bool→St) ?_ ?_))))))
 ·refine sDr tfm rfl (xR 6 krf ?_)
  refine xC [.agg [.sl 1, .id, .id], .id] krf (g_site_rule_of_ok n [6] false yI.N (.func 55,#[],#[])) krf krf kff (fun r96=>?_)
  refine xR 1 krf ?_
  refine xS r96 (fun h97=>?_) (fun h97=>?_)
  ·refine xO (want_tt krf h97) krf (xR 9 krf ?_)
   refine xs_u krf krf (aop_look (kt:=9) (e:=4) (ke:=mk_msb) (ve:=mv_msb) (eq:=me_msb) (b:=1010) (m:=h10_m) (k:=[99,104,97,114,103,101,114]) (z0:=false) rfl krf krf krf krf krf kff (fun _ _=>eqV_strK rfl _ _) krf) ?_
   refine xR 2 krf (xED krf ?_)
   exact nqK (!(mgetD me_msb [99,104,97,114,103,101,114] false h10_m)) krf
  refine xN (want_tf krf h97) krf (xR 12 krf (xED krf ?_))
  exact nqK false krf
 rintro j95
 refine sC j95 krf ?_ ?_
 ·refine sim_weak (weak_mg (en:=en10) (ck:=ck11) 1011 (mfT 1012 1013 1014 1015 1016 1017 1018 1019 1020 1021) krf) (sG (xR 4 krf (xIn [] [I 4, .agg [I yI.Kind,S yI.Name,I yI.N,I yI.At, .p (.sl 5 (mI yI.Kids))]] [] [] [] krf Tryz.func49 rfl Tryz.ntmps49 rfl krf krf krf (sRK tfm (sq24 4 yI) krf (sG (xR 6 krf (xPa 116 (.agg [I 4,I yI.At]) krf rfl krf ?_)))))))
  refine iq_p [] [] krf (bq_p (mq_p hN94 (bq_p (kq_p ?_))))
  exact hq_p kp_srw [] krf krf krf
 refine sK (bq_n ?_)
 exact mq_n hN94 ⟨[0,7],[700]++kp_srw,[],[]⟩ krf
abbrev ty7:=(Int × (List GCo) × (List GOwner) × (List GCt) × (List GCg) × (List GBay) × Bool × (List GDg) × (List ((List UInt8) × Bool)) × (List ((List UInt8) × GTh)))
abbrev ty4:=((List GCo) × (List GOwner) × (List GCt) × (List GCg) × (List GBay) × Bool × (List GDg) × (List ((List UInt8) × Bool)) × (List ((List UInt8) × GTh)))
def g_site_Build_l3 (n:Nat) (a0n:GN) (recl3:ty7→Option ty4) (l3_1:Int) (l3_2:List GCo) (l3_3:List GOwner) (l3_4:List GCt) (l3_5:List GCg) (l3_6:List GBay) (l3_7:Bool) (l3_8:List GDg) (l3_9:List ((List UInt8) × Bool)) (l3_10:List ((List UInt8) × GTh)):Option ty4 :=
 cond (ltI l3_1 (lenI (List.map idc a0n.Kids)))
  ((Option.bind (getI a0n.Kids l3_1) GN.of).bind fun x4 =>
  ((cond (mgetD me_msb x4.Name false l3_9)
   (some true)
   (cond (eqI x4.N 1)
    (some l3_7)
    (some false))).bind fun j6 =>
  (cond l3_7
   (some true)
   (some (eqI x4.N 1))).bind fun j9 =>
  cond j6
   (cond (roomB (List.length (l3_8++[(⟨5,x4.At⟩:GDg)])) 16) (
    some (l3_2,l3_3,l3_4,l3_5,l3_6,j9,l3_8++[(⟨5,x4.At⟩:GDg)],l3_10)) none)
   (cond (eqI x4.N 7)
    (some (l3_2,l3_3,l3_4,l3_5,l3_6,j9,l3_8,l3_10))
    (((cond (eqI x4.N 1)
     (some (eqI x4.N 1))
     (some (eqI x4.N 2))).bind fun j12 =>
    cond j12
     (some (lenI (List.map GCo.cs l3_2),16))
     (cond (eqI x4.N 3)
      (some (lenI (List.map GOwner.cs l3_3),8))
      (cond (eqI x4.N 4)
       (some (lenI (List.map GCt.cs l3_4),32))
       (cond (eqI x4.N 5)
        (some (lenI (List.map GCg.cs l3_5),16))
        (some (lenI (List.map GBay.cs l3_6),24)))))).bind fun (j11_1,j11_2) =>
    cond (leI j11_2 j11_1)
     (cond (roomB (List.length (l3_8++[(⟨2,x4.At⟩:GDg)])) 16) (
      some (l3_2,l3_3,l3_4,l3_5,l3_6,j9,l3_8++[(⟨2,x4.At⟩:GDg)],l3_10)) none)
     ((g_sr_attrs n x4 (⟨[],0,0,0,(⟨0,0⟩:GFuse),(⟨0,0,0,0,0⟩:GCable)⟩:GCo) (⟨[],0,0,0⟩:GCt) (⟨[],0,0,0,0,0,0,0⟩:GCg) (⟨[],0⟩:GBay) (⟨l3_2,l3_3,l3_4,l3_5,l3_6⟩:GSite) j9 l3_8 (mset me_msb x4.Name true l3_9) l3_10 []).bind (exc (fun r13 =>
      (g_sr_whole n x4 r13.1 r13.2.1 r13.2.2.1 r13.2.2.2.1 (⟨l3_2,l3_3,l3_4,l3_5,l3_6⟩:GSite) j9 l3_8 (mset me_msb x4.Name true l3_9) l3_10 r13.2.2.2.2).bind (exc (fun r15 =>
       ((cond (eqI x4.N 1)
        (some (eqI x4.N 1))
        (some (eqI x4.N 2))).bind fun j18 =>
       cond j18
        (some (lenI (List.map GCo.cs l3_2)))
        (cond (eqI x4.N 3)
         (some (lenI (List.map GOwner.cs l3_3)))
         (cond (eqI x4.N 4)
          (some (lenI (List.map GCt.cs l3_4)))
          (cond (eqI x4.N 5)
           (some (lenI (List.map GCg.cs l3_5)))
           (some (lenI (List.map GBay.cs l3_6))))))).bind fun j17 =>
       cond (eqI x4.N 1)
        (cond (roomB (List.length (l3_2++[(⟨x4.Name,(-1),r13.1.Limit,r13.1.Neutral,r13.1.Fuse,r13.1.Cable⟩:GCo)])) 96) (
         some (l3_2++[(⟨x4.Name,(-1),r13.1.Limit,r13.1.Neutral,r13.1.Fuse,r13.1.Cable⟩:GCo)],l3_3,l3_4,l3_5,l3_6,j9,l3_8,mset me_mst x4.Name (⟨x4.N,j17⟩:GTh) l3_10)) none)
        (cond (eqI x4.N 2)
         (cond (roomB (List.length (l3_2++[(⟨x4.Name,r13.1.Up,r13.1.Limit,r13.1.Neutral,r13.1.Fuse,r13.1.Cable⟩:GCo)])) 96) (
          some (l3_2++[(⟨x4.Name,r13.1.Up,r13.1.Limit,r13.1.Neutral,r13.1.Fuse,r13.1.Cable⟩:GCo)],l3_3,l3_4,l3_5,l3_6,j9,l3_8,mset me_mst x4.Name (⟨x4.N,j17⟩:GTh) l3_10)) none)
         (cond (eqI x4.N 3)
          (cond (roomB (List.length (l3_3++[(⟨x4.Name⟩:GOwner)])) 16) (
           some (l3_2,l3_3++[(⟨x4.Name⟩:GOwner)],l3_4,l3_5,l3_6,j9,l3_8,mset me_mst x4.Name (⟨x4.N,j17⟩:GTh) l3_10)) none)
          (cond (eqI x4.N 4)
           (cond (roomB (List.length (l3_4++[(⟨x4.Name,r13.2.1.Owner,r13.2.1.Rank,r13.2.1.Card⟩:GCt)])) 40) (
            some (l3_2,l3_3,l3_4++[(⟨x4.Name,r13.2.1.Owner,r13.2.1.Rank,r13.2.1.Card⟩:GCt)],l3_5,l3_6,j9,l3_8,mset me_mst x4.Name (⟨x4.N,j17⟩:GTh) l3_10)) none)
           (cond (eqI x4.N 5)
            (cond (roomB (List.length (l3_5++[(⟨x4.Name,r13.2.2.1.At,r13.2.2.1.Phases,r13.2.2.1.Min,r13.2.2.1.Max,r13.2.2.1.Step,r13.2.2.1.Fallback,r13.2.2.1.Owner⟩:GCg)])) 72) (
             some (l3_2,l3_3,l3_4,l3_5++[(⟨x4.Name,r13.2.2.1.At,r13.2.2.1.Phases,r13.2.2.1.Min,r13.2.2.1.Max,r13.2.2.1.Step,r13.2.2.1.Fallback,r13.2.2.1.Owner⟩:GCg)],l3_6,j9,l3_8,mset me_mst x4.Name (⟨x4.N,j17⟩:GTh) l3_10)) none)
            (cond (eqI x4.N 6)
             (cond (roomB (List.length (l3_6++[(⟨x4.Name,r13.2.2.2.1.Charger⟩:GBay)])) 24) (
              some (l3_2,l3_3,l3_4,l3_5,l3_6++[(⟨x4.Name,r13.2.2.2.1.Charger⟩:GBay)],j9,l3_8,mset me_mst x4.Name (⟨x4.N,j17⟩:GTh) l3_10)) none)
             (some (l3_2,l3_3,l3_4,l3_5,l3_6,j9,l3_8,mset me_mst x4.Name (⟨x4.N,j17⟩:GTh) l3_10)))))))) fun e16=>cond (roomB (List.length (l3_8++[(⟨e16.1,e16.2⟩:GDg)])) 16) (
       some (l3_2,l3_3,l3_4,l3_5,l3_6,j9,l3_8++[(⟨e16.1,e16.2⟩:GDg)],l3_10)) none)) fun e14=>cond (roomB (List.length (l3_8++[(⟨e14.1.1,e14.1.2⟩:GDg)])) 16) (
      some (l3_2,l3_3,l3_4,l3_5,l3_6,j9,l3_8++[(⟨e14.1.1,e14.1.2⟩:GDg)],l3_10)) none))))).bind fun (j5_1,j5_2,j5_3,j5_4,j5_5,j5_6,j5_7,j5_8) =>
  cond (eqI (lenI (List.map GDg.cs j5_7)) 20)
   (some (j5_1,j5_2,j5_3,j5_4,j5_5,j5_6,j5_7,mset me_msb x4.Name true l3_9,j5_8))
   (recl3 (wi (l3_1+1),j5_1,j5_2,j5_3,j5_4,j5_5,j5_6,j5_7,mset me_msb x4.Name true l3_9,j5_8)))
  (some (l3_2,l3_3,l3_4,l3_5,l3_6,l3_7,l3_8,l3_9,l3_10))
def g_site_Build (n:Nat) (a0n:GN):Option (GSite × (List GDg)) :=
 (g_p_Valid n a0n).bind fun r1 =>
 cond (!r1)
  (some ((⟨[],[],[],[],[]⟩:GSite),[(⟨1,0⟩:GDg)]))
  ((loopN (fun recl3 (l3_1,l3_2,l3_3,l3_4,l3_5,l3_6,l3_7,l3_8,l3_9,l3_10)=>g_site_Build_l3 n a0n recl3 l3_1 l3_2 l3_3 l3_4 l3_5 l3_6 l3_7 l3_8 l3_9 l3_10) n (0,[],[],[],[],[],false,[],[],[])).bind fun (j2_1,j2_2,j2_3,j2_4,j2_5,j2_6,j2_7,j2_8,j2_9) =>
  cond (ltI 0 (lenI (List.map GDg.cs j2_7)))
   (some ((⟨[],[],[],[],[]⟩:GSite),j2_7))
   (cond (!j2_6)
    (some ((⟨[],[],[],[],[]⟩:GSite),[(⟨4,0⟩:GDg)]))
    (some ((⟨j2_1,j2_2,j2_3,j2_4,j2_5⟩:GSite),[]))))
def bq46:Blk:=.box 33 [.p (.val (.slice none 0 0)), .p (.val (.slice none 0 0)), .p (.val (.slice none 0 0)), .p (.val (.slice none 0 0)), .p (.val (.slice none 0 0))]
def hq89:=fun x0=>([(1, .box 24 (bxc (GN.cs x0))),(2,bq46)]:List (Nat × Blk))
def bq47:Blk:=.box 74 [.p (.val (.slice none 0 0)), .p (.val (.slice none 0 0)), .p (.val (.slice none 0 0)), .p (.val (.slice none 0 0)), .p (.val (.slice none 0 0)), .mv 14,B false, .mv 15, .p (.val (.slice none 0 0))]
def hq90:=fun x0=>([(1, .box 24 (bxc (GN.cs x0))),(2,bq46),(14, .mp (mpL mk_msb mv_msb [])),(15, .mp (mpL mk_mst mv_mst [])),(17,bq47)]:List (Nat × Blk))
def bq48:Blk:=.box 104 [.tsl 1 (List.map ci [1,2]) 3]
def bq49:Blk:=.box 104 [.tsl 1 (List.map ci [1,2]) 403]
def hq91:List (Nat × Blk):=[(401,bq49),(402, .box 103 [I 1,I 1000]),(403, .arr 3 1 (List.map ci [1,2]).length),(405, .mf [(true,[108,105,109,105,116], .agg [.tsl 1 (List.map ci [1,2]) 403,B false, .fn (.func 78) [] [.ptr 402 0]]),(true,[110,101,117,116,114,97,108], .agg [.tsl 1 (List.map ci [1,2]) 403,B false, .fn (.func 79) [] [.ptr 402 0]]),(true,[102,117,115,101], .agg [.tsl 1 (List.map ci [1,2]) 403,B true, .fn (.func 80) [] [.ptr 402 0]]),(true,[116,104,101,114,109,97,108], .agg [.tsl 1 (List.map ci [1,2]) 403,B true, .p (.val (.func (.func 81) #[] #[]))]),(true,[102,114,111,109], .agg [.tsl 1 (List.map ci [2]) 417,B false, .fn (.func 82) [] [.ptr 401 0]])]),(417, .arr 3 1 (List.map ci [2]).length)]
def hq92:List (Nat × Blk):=[(401,bq49),(402, .box 103 [I 1,I 1000]),(403, .arr 3 1 (List.map ci [1,2]).length),(405, .mf [(true,[108,105,109,105,116], .agg [.tsl 1 (List.map ci [1,2]) 403,B false, .fn (.func 78) [] [.ptr 402 0]]),(true,[110,101,117,116,114,97,108], .agg [.tsl 1 (List.map ci [1,2]) 403,B false, .fn (.func 79) [] [.ptr 402 0]]),(true,[102,117,115,101], .agg [.tsl 1 (List.map ci [1,2]) 403,B true, .fn (.func 80) [] [.ptr 402 0]]),(true,[116,104,101,114,109,97,108], .agg [.tsl 1 (List.map ci [1,2]) 403,B true, .p (.val (.func (.func 81) #[] #[]))]),(true,[102,114,111,109], .agg [.tsl 1 (List.map ci [2]) 417,B false, .fn (.func 82) [] [.ptr 401 0]]),(true,[111,119,110,101,114], .agg [.tsl 1 (List.map ci [4,5]) 7,B false, .p (.val (.func (.func 44) #[] #[]))]),(true,[114,97,110,107], .agg [.tsl 1 (List.map ci [4]) 10,B false, .p (.val (.func (.func 46) #[] #[]))]),(true,[99,97,114,100], .agg [.tsl 1 (List.map ci [4]) 13,B false, .p (.val (.func (.func 48) #[] #[]))])]),(417, .arr 3 1 (List.map ci [2]).length)]
def tq85:List (Nat × AV):=[(1, .mv 405),(2, .ptr 2 0),(3, .tsl 1 (List.map ci [5]) 15)]
def hq93:List (Nat × Blk):=[(2, .box 103 [I 1,I 80]),(7, .arr 3 1 (List.map ci [4,5]).length),(10, .arr 3 1 (List.map ci [4]).length),(13, .arr 3 1 (List.map ci [4]).length),(15, .arr 3 1 (List.map ci [5]).length)]
def hq94:List (Nat × Blk):=[(2, .box 103 [I 1,I 80]),(7, .arr 3 1 (List.map ci [4,5]).length),(10, .arr 3 1 (List.map ci [4]).length),(13, .arr 3 1 (List.map ci [4]).length),(15, .arr 3 1 (List.map ci [5]).length),(30, .arr 3 1 (List.map ci [6]).length)]
def hq95:List (Nat × Blk):=[(401,bq49),(402, .box 103 [I 1,I 1000]),(403, .arr 3 1 (List.map ci [1,2]).length),(405, .mf (mfT 403 402 417 401 7 10 13 15 2 30)),(417, .arr 3 1 (List.map ci [2]).length)]
def hq96:List (Nat × Blk):=[(401,bq49),(402, .box 103 [I 1,I 80]),(403, .arr 3 1 (List.map ci [1,2]).length),(405, .mf (mfT 403 439 417 401 407 410 413 415 402 430)),(407, .arr 3 1 (List.map ci [4,5]).length),(410, .arr 3 1 (List.map ci [4]).length),(413, .arr 3 1 (List.map ci [4]).length),(415, .arr 3 1 (List.map ci [5]).length),(417, .arr 3 1 (List.map ci [2]).length),(430, .arr 3 1 (List.map ci [6]).length),(439, .box 103 [I 1,I 1000])]
def bq50:=fun x0 x1 x2 x3 x4 x5 x6=>(.box 74 [.tsl 11 (List.map GCo.cs x0) 700, .tsl 1 (List.map GOwner.cs x1) 701, .tsl 4 (List.map GCt.cs x2) 702, .tsl 8 (List.map GCg.cs x3) 703, .tsl 2 (List.map GBay.cs x4) 704, .mv 14,B x5, .mv 15, .tsl 2 (List.map GDg.cs x6) 423]:Blk)
def hq97:=fun x0 x1 x2 x3 x4 x5 x6 x7 x8=>([(2,bq46),(14, .mp (mpL mk_msb mv_msb x0)),(15, .mp (mpL mk_mst mv_mst x1)),(17,(bq50 x2 x3 x4 x5 x6 x7 x8))]:List (Nat × Blk))
def bq51:=fun x0=>(.arr 49 11 (List.map GCo.cs x0).length:Blk)
def bq52:=fun x0=>(.arr 52 1 (List.map GOwner.cs x0).length:Blk)
def bq53:=fun x0=>(.arr 54 4 (List.map GCt.cs x0).length:Blk)
def bq54:=fun x0=>(.arr 56 8 (List.map GCg.cs x0).length:Blk)
def bq55:=fun x0=>(.arr 58 2 (List.map GBay.cs x0).length:Blk)
def hq98:=fun x0 x1 x2 x3 x4=>([(700,(bq51 x0)),(701,(bq52 x1)),(702,(bq53 x2)),(703,(bq54 x3)),(704,(bq55 x4))]:List (Nat × Blk))
def sq52:=fun x0 x1 x2 x3 x4 x5 x6 x7 x8=>(⟨[(2, .ptr 2 0),(4, .ptr 17 0)],hq97 x0 x1 x2 x3 x4 x5 x6 x7 x8++[(423,(bq11 x8))]++hq98 x2 x3 x4 x5 x6⟩:St)
def tq86:=fun x0 x1=>([(2, .ptr 2 0),(4, .ptr 17 0),(5, .mv 405),(20, .p (.sl 5 (List.map idc (GN.Kids x0)))),(21,I (lenI (List.map idc (GN.Kids x0)))),(22,I x1)]:List (Nat × AV))
def hq99:List (Nat × Blk):=[(2,bq46),(14, .mp (mpL mk_msb mv_msb [])),(15, .mp (mpL mk_mst mv_mst [])),(17,bq47)]
def hq100:=fun x0=>([(401,bq49),(402, .box 103 [I 1,I 80]),(403, .arr 3 1 (List.map ci [1,2]).length),(405, .mf (mfT 403 439 417 401 407 410 413 415 402 430)),(407, .arr 3 1 (List.map ci [4,5]).length),(410, .arr 3 1 (List.map ci [4]).length),(413, .arr 3 1 (List.map ci [4]).length),(415, .arr 3 1 (List.map ci [5]).length),(417, .arr 3 1 (List.map ci [2]).length),(423,(bq11 x0)),(430, .arr 3 1 (List.map ci [6]).length),(439, .box 103 [I 1,I 1000])]:List (Nat × Blk))
def sq53:=fun x0 x1 x2 x3 x4 x5 x6 x7 x8 x9 x10=>(⟨tq86 x0 x1,hq97 x2 x3 x4 x5 x6 x7 x8 x9 x10++hq100 x10++hq98 x4 x5 x6 x7 x8⟩:St)
def bq56:=fun x0 x1 x2 x3 x4 x5 x6=>(.box 74 [.tsl 11 (List.map GCo.cs x0) 1004, .tsl 1 (List.map GOwner.cs x1) 1005, .tsl 4 (List.map GCt.cs x2) 1006, .tsl 8 (List.map GCg.cs x3) 1007, .tsl 2 (List.map GBay.cs x4) 1008, .mv 1000,B x5, .mv 1001, .tsl 2 (List.map GDg.cs x6) 1003]:Blk)
def hq101:=fun x0 x1 x2 x3 x4 x5 x6 x7 x8=>([(1000, .mp (mpL mk_msb mv_msb x0)),(1001, .mp (mpL mk_mst mv_mst x1)),(1002,(bq56 x2 x3 x4 x5 x6 x7 x8)),(1003,(bq11 x8)),(1004,(bq51 x2)),(1005,(bq52 x3)),(1006,(bq53 x4)),(1007,(bq54 x5)),(1008,(bq55 x6)),(1009,bq31)]:List (Nat × Blk))
def tq87:List (Nat × AV):=[(2, .mv 1012),(3, .ptr 1900 0),(4, .ptr 4 0)]
def hq102:List (Nat × Blk):=[(1010, .box 103 [I 1,I 80]),(1011, .arr 3 1 (List.map ci [1,2]).length),(1012, .mf (mfT 1011 1019 1017 1009 1013 1014 1015 1016 1010 1018)),(1013, .arr 3 1 (List.map ci [4,5]).length),(1014, .arr 3 1 (List.map ci [4]).length),(1015, .arr 3 1 (List.map ci [4]).length),(1016, .arr 3 1 (List.map ci [5]).length),(1017, .arr 3 1 (List.map ci [2]).length),(1018, .arr 3 1 (List.map ci [6]).length),(1019, .box 103 [I 1,I 1000]),(1900, .box 70 [.ptr 1002 0])]
def sq54:=fun x0 x1 x2 x3 x4 x5 x6 x7 x8 x9=>(⟨tq87,hq68 x0++hq101 x1 x2 x3 x4 x5 x6 x7 x8 x9++hq102⟩:St)
def tq88:=fun x0=>([(2, .mv 1012),(3, .ptr 1900 0),(4, .ptr 4 0),(6,B x0)]:List (Nat × AV))
def nq9:List (Nat × Nat):=[(1000,1000),(1001,1001),(1002,1002),(1003,1003),(1004,1004),(1005,1005),(1006,1006),(1007,1007),(1008,1008),(1009,1900)]
def hq103:=fun x0 x1 x2 x3 x4 x5 x6 x7 x8=>([(1000, .mp (mpL mk_msb mv_msb x0)),(1001, .mp (mpL mk_mst mv_mst x1)),(1002,(bq56 x2 x3 x4 x5 x6 x7 x8)),(1003,(bq11 x8)),(1004,(bq51 x2)),(1005,(bq52 x3)),(1006,(bq53 x4)),(1007,(bq54 x5)),(1008,(bq55 x6)),(1009, .box 70 [.ptr 1002 0])]:List (Nat × Blk))
def tq89:=fun x0 x1=>([(0, .ptr 1009 0),(1, .ifc 116 (.agg [I x0,I x1])),(6,B true)]:List (Nat × AV))
def tq90:=fun x0 x1=>([(0, .ptr 1009 0),(1, .ifc 116 (.agg [I x0,I x1])),(2, .ptr 2 0),(3,B true)]:List (Nat × AV))
def hq104:=fun x0 x1=>([(2, .box 116 [I x0,I x1])]:List (Nat × Blk))
def tq91:=fun x0 x1=>([(0, .ptr 1009 0),(1, .ifc 116 (.agg [I x0,I x1])),(2, .ptr 2 0),(13,B false)]:List (Nat × AV))
def sq55:=fun x0 x1 x2 x3 x4 x5 x6 x7 x8 x9 x10=>(⟨[(0, .ptr 1009 0),(2, .ptr 2 0)],hq104 x0 x1++hq103 x2 x3 x4 x5 x6 x7 x8 x9 x10⟩:St)
def tq92:List (Nat × AV):=[(0, .ptr 1009 0),(1, .p (.val (.nilIface))),(6,B false)]
def hq105:=fun x0 x1 x2 x3 x4 x5 x6 x7 x8=>([(1000, .mp (mpL mk_msb mv_msb x0)),(1001, .mp (mpL mk_mst mv_mst x1)),(1002,(bq56 x2 x3 x4 x5 x6 x7 x8)),(1003,(bq11 x8)),(1004,(bq51 x2)),(1005,(bq52 x3)),(1006,(bq53 x4)),(1007,(bq54 x5)),(1008,(bq55 x6))]:List (Nat × Blk))
def tq93:=fun x0 x1=>([(0, .ptr 1002 0),(6,I x0),(7,B x1)]:List (Nat × AV))
def tq94:=fun x0=>([(4,I (lenI (List.map GCo.cs x0))),(5,I 16)]:List (Nat × AV))
def tq95:=fun x0=>([(4,I (lenI (List.map GCt.cs x0))),(5,I 32)]:List (Nat × AV))
def nq10:List (Nat × Nat):=[(1000,69),(1001,1002),(1002,1004),(1003,1005),(1004,1006),(1005,1007),(1006,1008),(1007,1000),(1008,1001),(1009,1003),(1010,67),(1011,1012),(1012,1011),(1013,1019),(1014,1017),(1015,1009),(1016,1013),(1017,1014),(1018,1015),(1019,1016),(1020,1010),(1021,1018)]
def bq57:=fun x0 x1 x2 x3 x4 x5=>(.box 108 ([.ptr 1002 0]++bxc (GN.cs x0)++[.mv 67]++bxc (GCo.cs x1)++bxc (GCt.cs x2)++bxc (GCg.cs x3)++[S x4,I x5]):Blk)
def bq58:=fun x0 x1 x2 x3 x4 x5=>(.box 108 ([.ptr 1004 0]++bxc (GN.cs x0)++[.mv 1000]++bxc (GCo.cs x1)++bxc (GCt.cs x2)++bxc (GCg.cs x3)++[S x4,I x5]):Blk)
def bq59:=fun x0 x1 x2 x3 x4 x5 x6=>(.box 74 [.tsl 11 (List.map GCo.cs x0) 1006, .tsl 1 (List.map GOwner.cs x1) 1007, .tsl 4 (List.map GCt.cs x2) 1008, .tsl 8 (List.map GCg.cs x3) 1009, .tsl 2 (List.map GBay.cs x4) 1010, .mv 1002,B x5, .mv 1003, .tsl 2 (List.map GDg.cs x6) 1005]:Blk)
def hq106:=fun x0 x1 x2 x3 x4 x5 x6 x7 x8 x9 x10 x11 x12 x13 x14 x15=>([(1000, .mp (mpL mk_msb mv_msb x0)),(1001,(bq58 x1 x2 x3 x4 x5 x6)),(1002, .mp (mpL mk_msb mv_msb x7)),(1003, .mp (mpL mk_mst mv_mst x8)),(1004,(bq59 x9 x10 x11 x12 x13 x14 x15)),(1005,(bq11 x15)),(1006,(bq51 x9)),(1007,(bq52 x10)),(1008,(bq53 x11)),(1009,(bq54 x12)),(1010,(bq55 x13))]:List (Nat × Blk))
def tq96:=fun x0=>([(0, .ptr 1001 0),(2,S x0),(3, .ptr 1004 0)]:List (Nat × AV))
theorem g_site_Build_ok (n:Nat) (a0n:GN):∀ r,g_site_Build n a0n=some r→PCall Tryz.prog 9 [ag (GN.cs a0n)] (.ret (.tup [ag (GSite.cs r.1), .p (.sl 2 (mDg r.2))])):=by
 refine pcall_sim (X:=fun r:GSite × (List GDg)=>AEnd.ret (.tup [ag (GSite.cs r.1), .p (.sl 2 (mDg r.2))])) Tryz.func9 rfl Tryz.ntmps9 rfl ?_
 unfold g_site_Build
 refine sRK tfm ⟨[qq 1,qq 2],hq89 a0n⟩ krf (sS (sS (sG (xR 1 krf ?_))))
 refine xC [] krf (g_p_Valid_ok n a0n) krf krf kff (fun r1=>?_)
 refine xR 1 krf (xE (sNK ⟨[qq 1,qq 2,(10,B (!r1))],hq89 a0n⟩ krf (sC (!r1) krf ?_ ?_)))
 ·refine sRK tfm ⟨[qq 2,(3, .tsl 2 (mDg [(⟨1,0⟩:GDg)]) 13)],[(2,bq46),(13,(bq19 (⟨1,0⟩:GDg)))]⟩ krf (sT (sq_r ?_))
  exact qR (.agg [.agg [.sl 11, .sl 1, .sl 4, .sl 8, .sl 2], .sl 2]) krf krf krf
 refine sK (sNK ⟨[qq 1,qq 2],hq89 a0n⟩ krf (sS (sG (xs_u krf krf (aop_mk (d:=14) (rsv:=none) rfl rfl krf) (xs_u krf krf (aop_mk (d:=15) (rsv:=none) rfl rfl krf) (xR 3 krf (xE ?_)))))))
 refine sNK ⟨[qq 1,qq 2,(4, .ptr 17 0)],hq90 a0n⟩ krf (sS (sG (xIn [] [] [(2,402),(7,407),(10,410),(13,413),(15,415),(30,430),(401,401),(402,439),(403,403),(405,405),(417,417)] [] [] krf Tryz.func25 rfl Tryz.ntmps25 rfl krf krf krf (sRK tfm ⟨[],[]⟩ krf (sS (sG (xIn [] [] [(1,401),(2,402),(3,403),(5,405),(17,417)] [] [] krf Tryz.func43 rfl Tryz.ntmps43 rfl krf krf krf ?_)))))))
 refine sRK tfm ⟨[],[]⟩ krf (sRK tfm ⟨[qq 1],[(1,bq48),(3, .arr 3 1 (List.map ci [1,2]).length)]⟩ krf (sRK tfm ⟨[qq 1,qq 2],[(1,bq48),(2, .box 103 [I 1,I 1000]),(3, .arr 3 1 (List.map ci [1,2]).length)]⟩ krf (sS (sG (xR 4 krf (xs_ins krf rfl krf krf (xR 3 krf ?_)))))))
 refine xs_ins krf rfl krf krf (xR 3 krf (xs_ins krf rfl krf krf (xR 2 krf (xs_ins krf rfl krf krf (xR 3 krf (xs_ins krf rfl krf krf (xR 2 krf ?_)))))))
 refine xE (sNK ⟨[(0, .mv 5)],[(1,bq48),(2, .box 103 [I 1,I 1000]),(3, .arr 3 1 (List.map ci [1,2]).length),(5, .mf [(true,[108,105,109,105,116], .agg [.tsl 1 (List.map ci [1,2]) 3,B false, .fn (.func 78) [] [.ptr 2 0]]),(true,[110,101,117,116,114,97,108], .agg [.tsl 1 (List.map ci [1,2]) 3,B false, .fn (.func 79) [] [.ptr 2 0]]),(true,[102,117,115,101], .agg [.tsl 1 (List.map ci [1,2]) 3,B true, .fn (.func 80) [] [.ptr 2 0]]),(true,[116,104,101,114,109,97,108], .agg [.tsl 1 (List.map ci [1,2]) 3,B true, .p (.val (.func (.func 81) #[] #[]))]),(true,[102,114,111,109], .agg [.tsl 1 (List.map ci [2]) 17,B false, .fn (.func 82) [] [.ptr 1 0]])]),(17, .arr 3 1 (List.map ci [2]).length)]⟩ krf (sT (iq_ret (.id) [1,2,3,5,17] [] (.mv 5) krf krf (kr0 (xR 1 krf (xE (sNK ⟨[(1, .mv 405)],hq91⟩ krf ?_)))))))
 refine sRK tfm ⟨[(1, .mv 405),qq 2],[(2, .box 103 [I 1,I 80])]++hq91⟩ krf (sRK tfm ⟨[(1, .mv 405),qq 2],[(2, .box 103 [I 1,I 80]),(7, .arr 3 1 (List.map ci [4,5]).length),(401,bq49),(402, .box 103 [I 1,I 1000]),(403, .arr 3 1 (List.map ci [1,2]).length),(405, .mf [(true,[108,105,109,105,116], .agg [.tsl 1 (List.map ci [1,2]) 403,B false, .fn (.func 78) [] [.ptr 402 0]]),(true,[110,101,117,116,114,97,108], .agg [.tsl 1 (List.map ci [1,2]) 403,B false, .fn (.func 79) [] [.ptr 402 0]]),(true,[102,117,115,101], .agg [.tsl 1 (List.map ci [1,2]) 403,B true, .fn (.func 80) [] [.ptr 402 0]]),(true,[116,104,101,114,109,97,108], .agg [.tsl 1 (List.map ci [1,2]) 403,B true, .p (.val (.func (.func 81) #[] #[]))]),(true,[102,114,111,109], .agg [.tsl 1 (List.map ci [2]) 417,B false, .fn (.func 82) [] [.ptr 401 0]]),(true,[111,119,110,101,114], .agg [.tsl 1 (List.map ci [4,5]) 7,B false, .p (.val (.func (.func 44) #[] #[]))])]),(417, .arr 3 1 (List.map ci [2]).length)]⟩ krf (sRK tfm ⟨[(1, .mv 405),qq 2],[(2, .box 103 [I 1,I 80]),(7, .arr 3 1 (List.map ci [4,5]).length),(10, .arr 3 1 (List.map ci [4]).length),(401,bq49),(402, .box 103 [I 1,I 1000]),(403, .arr 3 1 (List.map ci [1,2]).length),(405, .mf [(true,[108,105,109,105,116], .agg [.tsl 1 (List.map ci [1,2]) 403,B false, .fn (.func 78) [] [.ptr 402 0]]),(true,[110,101,117,116,114,97,108], .agg [.tsl 1 (List.map ci [1,2]) 403,B false, .fn (.func 79) [] [.ptr 402 0]]),(true,[102,117,115,101], .agg [.tsl 1 (List.map ci [1,2]) 403,B true, .fn (.func 80) [] [.ptr 402 0]]),(true,[116,104,101,114,109,97,108], .agg [.tsl 1 (List.map ci [1,2]) 403,B true, .p (.val (.func (.func 81) #[] #[]))]),(true,[102,114,111,109], .agg [.tsl 1 (List.map ci [2]) 417,B false, .fn (.func 82) [] [.ptr 401 0]]),(true,[111,119,110,101,114], .agg [.tsl 1 (List.map ci [4,5]) 7,B false, .p (.val (.func (.func 44) #[] #[]))]),(true,[114,97,110,107], .agg [.tsl 1 (List.map ci [4]) 10,B false, .p (.val (.func (.func 46) #[] #[]))])]),(417, .arr 3 1 (List.map ci [2]).length)]⟩ krf (sRK tfm ⟨[(1, .mv 405),qq 2],[(2, .box 103 [I 1,I 80]),(7, .arr 3 1 (List.map ci [4,5]).length),(10, .arr 3 1 (List.map ci [4]).length),(13, .arr 3 1 (List.map ci [4]).length)]++hq92⟩ krf (sRK tfm ⟨tq85,hq93++hq92⟩ krf (sRK tfm ⟨tq85,hq93++[(401,bq49),(402, .box 103 [I 1,I 1000]),(403, .arr 3 1 (List.map ci [1,2]).length),(405, .mf [(true,[108,105,109,105,116], .agg [.tsl 1 (List.map ci [1,2]) 403,B false, .fn (.func 78) [] [.ptr 402 0]]),(true,[110,101,117,116,114,97,108], .agg [.tsl 1 (List.map ci [1,2]) 403,B false, .fn (.func 79) [] [.ptr 402 0]]),(true,[102,117,115,101], .agg [.tsl 1 (List.map ci [1,2]) 403,B true, .fn (.func 80) [] [.ptr 402 0]]),(true,[116,104,101,114,109,97,108], .agg [.tsl 1 (List.map ci [1,2]) 403,B true, .p (.val (.func (.func 81) #[] #[]))]),(true,[102,114,111,109], .agg [.tsl 1 (List.map ci [2]) 417,B false, .fn (.func 82) [] [.ptr 401 0]]),(true,[111,119,110,101,114], .agg [.tsl 1 (List.map ci [4,5]) 7,B false, .p (.val (.func (.func 44) #[] #[]))]),(true,[114,97,110,107], .agg [.tsl 1 (List.map ci [4]) 10,B false, .p (.val (.func (.func 46) #[] #[]))]),(true,[99,97,114,100], .agg [.tsl 1 (List.map ci [4]) 13,B false, .p (.val (.func (.func 48) #[] #[]))]),(true,[97,116], .agg [.tsl 1 (List.map ci [5]) 15,B false, .p (.val (.func (.func 50) #[] #[]))])]),(417, .arr 3 1 (List.map ci [2]).length)]⟩ krf (sRK tfm ⟨tq85,hq93++[(401,bq49),(402, .box 103 [I 1,I 1000]),(403, .arr 3 1 (List.map ci [1,2]).length),(405, .mf (mfT3 403 402 417 401 7 10 13 15)),(417, .arr 3 1 (List.map ci [2]).length)]⟩ krf (sRK tfm ⟨[(1, .mv 405),(3, .tsl 1 (List.map ci [5]) 15)],hq93++[(401,bq49),(402, .box 103 [I 1,I 1000]),(403, .arr 3 1 (List.map ci [1,2]).length),(405, .mf (mfT2 403 402 417 401 7 10 13 15 2)),(417, .arr 3 1 (List.map ci [2]).length)]⟩ krf ?_)))))))
 refine sRK tfm ⟨[(1, .mv 405)],hq93++[(401,bq49),(402, .box 103 [I 1,I 1000]),(403, .arr 3 1 (List.map ci [1,2]).length),(405, .mf (mfT1 403 402 417 401 7 10 13 15 2)),(417, .arr 3 1 (List.map ci [2]).length)]⟩ krf (sRK tfm ⟨[(1, .mv 405)],hq94++hq95⟩ krf (sRK tfm ⟨[(0, .mv 405)],hq94++hq95⟩ krf (sT (iq_ret (.id) [2,7,10,13,15,30,401,402,403,405,417] [] (.mv 405) krf krf (kr0 (xR 1 krf (xE ?_)))))))
 refine sNK ⟨[qq 1,qq 2,(4, .ptr 17 0),(5, .mv 405)],hq90 a0n++hq96⟩ krf (sBi (fun (j2_1,j2_2,j2_3,j2_4,j2_5,j2_6,j2_7,j2_8,j2_9)=>(sq52 j2_8 j2_9 j2_1 j2_2 j2_3 j2_4 j2_5 j2_6 j2_7):ty4→St) ?_ ?_)
 rotate_left
 ·rintro ⟨j2_1,j2_2,j2_3,j2_4,j2_5,j2_6,j2_7,j2_8,j2_9⟩
  refine sS (sRK tfm ⟨[qq 2,(4, .ptr 17 0),(42,B (ltI 0 (lenI (mDg j2_7))))],hq97 j2_8 j2_9 j2_1 j2_2 j2_3 j2_4 j2_5 j2_6 j2_7++[(423,(bq11 j2_7))]++hq98 j2_1 j2_2 j2_3 j2_4 j2_5⟩ krf (sC (ltI 0 (lenI (mDg j2_7))) krf ?_ ?_))
  ·refine sRK tfm ⟨[qq 2,(3, .tsl 2 (mDg j2_7) 423)],[(2,bq46),(423,(bq11 j2_7))]⟩ krf (sT (sq_r ?_))
   exact qR (.agg [.agg [.sl 11, .sl 1, .sl 4, .sl 8, .sl 2], .sl 2]) krf krf krf
  refine sK (sNK (sq52 j2_8 j2_9 j2_1 j2_2 j2_3 j2_4 j2_5 j2_6 j2_7) krf (sS (sRK tfm ⟨[qq 2,(4, .ptr 17 0),(52,B (!j2_6))],hq97 j2_8 j2_9 j2_1 j2_2 j2_3 j2_4 j2_5 j2_6 j2_7++[(423,(bq11 j2_7))]++hq98 j2_1 j2_2 j2_3 j2_4 j2_5⟩ krf (sC (!j2_6) krf ?_ ?_))))
  ·refine sRK tfm ⟨[qq 2,(3, .tsl 2 (mDg [(⟨4,0⟩:GDg)]) 55)],[(2,bq46),(55,(bq19 (⟨4,0⟩:GDg)))]⟩ krf (sT (sq_r ?_))
   exact qR (.agg [.agg [.sl 11, .sl 1, .sl 4, .sl 8, .sl 2], .sl 2]) krf krf krf
  refine sK (sNK (sq52 j2_8 j2_9 j2_1 j2_2 j2_3 j2_4 j2_5 j2_6 j2_7) krf (sRK tfm ⟨[qq 2,(3,zS)],[(2, .box 33 [.tsl 11 (mCo j2_1) 700, .tsl 1 (mOwner j2_2) 701, .tsl 4 (mCt j2_3) 702, .tsl 8 (mCg j2_4) 703, .tsl 2 (mBay j2_5) 704]),(700,(bq51 j2_1)),(701,(bq52 j2_2)),(702,(bq53 j2_3)),(703,(bq54 j2_4)),(704,(bq55 j2_5))]⟩ krf (sT ?_)))
  exact qR (.agg [.agg [.sl 11, .sl 1, .sl 4, .sl 8, .sl 2], .sl 2]) krf krf krf
 refine sRK tfm ⟨tq86 a0n 0,hq99++hq96⟩ krf (sB (sPK ⟨tq86 a0n 0,hq99++hq96⟩ krf (sim_weak (Weak.trans (weak_pn 65 2 423 [] [(17,8)] krf) (Weak.trans (weak_pn 49 11 700 [] [(17,0)] krf) (Weak.trans (weak_pn 52 1 701 [] [(17,1)] krf) (Weak.trans (weak_pn 54 4 702 [] [(17,2)] krf) (Weak.trans (weak_pn 56 8 703 [] [(17,3)] krf) (weak_pn 58 2 704 [] [(17,4)] krf)))))) (sim_loop (fun (l3_1,l3_2,l3_3,l3_4,l3_5,l3_6,l3_7,l3_8,l3_9,l3_10)=>(sq53 a0n l3_1 l3_9 l3_10 l3_2 l3_3 l3_4 l3_5 l3_6 l3_7 l3_8):ty7→St) (wsK krf) ?_))))
 rintro recl3 ⟨l3_1,l3_2,l3_3,l3_4,l3_5,l3_6,l3_7,l3_8,l3_9,l3_10⟩
 show SimE (g_site_Build_l3 n a0n recl3 l3_1 l3_2 l3_3 l3_4 l3_5 l3_6 l3_7 l3_8 l3_9 l3_10) _ _ _ _ _ _
 unfold g_site_Build_l3
 refine sRK tfm ⟨[qq 2,(4, .ptr 17 0),(5, .mv 405),(20, .p (.sl 5 (mI a0n.Kids))),(21,I (lenI (mI a0n.Kids))),(22,I l3_1),(23,B (ltI l3_1 (lenI (mI a0n.Kids))))],hq97 l3_9 l3_10 l3_2 l3_3 l3_4 l3_5 l3_6 l3_7 l3_8++hq100 l3_8++hq98 l3_2 l3_3 l3_4 l3_5 l3_6⟩ krf (sS (sC (ltI l3_1 (lenI (mI a0n.Kids))) krf ?_ ?_))
 rotate_left
 ·refine sim_exit (sq_x (kq_x (bq_hit ?_)))
  exact nqK (l3_2,l3_3,l3_4,l3_5,l3_6,l3_7,l3_8,l3_9,l3_10) krf
 refine sK (sNK (sq53 a0n l3_1 l3_9 l3_10 l3_2 l3_3 l3_4 l3_5 l3_6 l3_7 l3_8) krf (sS (sB (sS (sG ?_)))))
 refine xG krf krf (aop_idxR (e:=24) (S:=5) (enc:=GN.cs) (dec:=GN.of) (l:=a0n.Kids) (k:=.i64) (n:=l3_1) (sv:=.p (.sl 5 (mI a0n.Kids))) GN.of_cs rfl krf krf krf krf krf) (fun x4=>?_)
 refine xR 3 krf (xE (sNK ⟨[qq 2,(4, .ptr 17 0),(5, .mv 405),qq 7,(20, .p (.sl 5 (mI a0n.Kids))),(21,I (lenI (mI a0n.Kids))),(22,I l3_1)],[(2,bq46),(7,bGN24 x4),(14, .mp (mpL mk_msb mv_msb l3_9)),(15, .mp (mpL mk_mst mv_mst l3_10)),(17,(bq50 l3_2 l3_3 l3_4 l3_5 l3_6 l3_7 l3_8))]++hq100 l3_8++hq98 l3_2 l3_3 l3_4 l3_5 l3_6⟩ krf (sBi (fun (j5_1,j5_2,j5_3,j5_4,j5_5,j5_6,j5_7,j5_8)=>(sq53 a0n l3_1 (mset me_msb x4.Name true l3_9) j5_8 j5_1 j5_2 j5_3 j5_4 j5_5 j5_6 j5_7):((List GCo) × (List GOwner) × (List GCt) × (List GCg) × (List GBay) × Bool × (List GDg) × (List ((List UInt8) × GTh)))→St) ?_ ?_)))
 rotate_left
 ·rintro ⟨j5_1,j5_2,j5_3,j5_4,j5_5,j5_6,j5_7,j5_8⟩
  refine sRK tfm ⟨[qq 2,(4, .ptr 17 0),(5, .mv 405),(20, .p (.sl 5 (mI a0n.Kids))),(21,I (lenI (mI a0n.Kids))),(22,I l3_1),(35,B (eqI (lenI (mDg j5_7)) 20))],hq97 (mset me_msb x4.Name true l3_9) j5_8 j5_1 j5_2 j5_3 j5_4 j5_5 j5_6 j5_7++hq100 j5_7++hq98 j5_1 j5_2 j5_3 j5_4 j5_5⟩ krf (sC (eqI (lenI (mDg j5_7)) 20) krf ?_ ?_)
  ·refine sim_exit (bq_miss rfl (sq_x (kq_x (bq_hit ?_))))
   exact nqK (j5_1,j5_2,j5_3,j5_4,j5_5,j5_6,j5_7,mset me_msb x4.Name true l3_9,j5_8) krf
  refine sK (bq_n (sNK (sq53 a0n l3_1 (mset me_msb x4.Name true l3_9) j5_8 j5_1 j5_2 j5_3 j5_4 j5_5 j5_6 j5_7) krf (sL tfm krf ?_)))
  exact kqK (wi (l3_1+1),j5_1,j5_2,j5_3,j5_4,j5_5,j5_6,j5_7,mset me_msb x4.Name true l3_9,j5_8) krf
 refine sG (xR 3 krf (xs_enter (f:=26) (args:=[.ptr 17 0, .agg [I x4.Kind,S x4.Name,I x4.N,I x4.At, .p (.sl 5 (mI x4.Kids))], .mv 405]) krf krf krf ?_))
 refine sc_inlineD (hc:=(hq101 l3_9 l3_10 l3_2 l3_3 l3_4 l3_5 l3_6 l3_7 l3_8++[(1010, .box 103 [I 1,I 80]),(1011, .arr 3 1 (List.map ci [1,2]).length),(1012, .mf (mfT 1011 1019 1017 1009 1013 1014 1015 1016 1010 1018)),(1013, .arr 3 1 (List.map ci [4,5]).length),(1014, .arr 3 1 (List.map ci [4]).length),(1015, .arr 3 1 (List.map ci [4]).length),(1016, .arr 3 1 (List.map ci [5]).length),(1017, .arr 3 1 (List.map ci [2]).length),(1018, .arr 3 1 (List.map ci [6]).length),(1019, .box 103 [I 1,I 1000])])) (args':=[pZ2, .agg [I x4.Kind,S x4.Name,I x4.N,I x4.At, .p (.sl 5 (mI x4.Kids))], .mv 1012]) [(1000,14),(1001,15),(1002,17),(1009,401),(1010,402),(1011,403),(1012,405),(1013,407),(1014,410),(1015,413),(1016,415),(1017,417),(1003,423),(1018,430),(1019,439),(1004,700),(1005,701),(1006,702),(1007,703),(1008,704)] [] [] (⟨_,_,_,_,_,_,[3],10,_,rfl,rfl,rfl,rfl,rfl,rfl,rfl,rfl,by decide⟩:Deferrer2 Tryz.f26 56) [(3,1900)] Tryz.func26 Tryz.ntmps26 krf krf krf krf krf tfm rfl krf krf ?_
 refine sPK (sq54 x4 l3_9 l3_10 l3_2 l3_3 l3_4 l3_5 l3_6 l3_7 l3_8) krf (sBi (fun j6=>⟨tq88 j6,hq68 x4++hq101 l3_9 l3_10 l3_2 l3_3 l3_4 l3_5 l3_6 l3_7 l3_8++hq102⟩:Bool→St) ?_ ?_)
 ·refine sDr tfm rfl (xR 6 krf ?_)
  refine xs_u krf krf (aop_look (kt:=9) (e:=4) (ke:=mk_msb) (ve:=mv_msb) (eq:=me_msb) (b:=1000) (m:=l3_9) (k:=x4.Name) (z0:=false) rfl krf krf krf krf krf kff (fun _ _=>eqV_strK rfl _ _) krf) ?_
  refine xR 1 krf ?_
  refine xS (mgetD me_msb x4.Name false l3_9) (fun h7=>?_) (fun h7=>?_)
  ·refine xN (want_ft krf h7) krf (xR 10 krf (xED krf ?_))
   exact nqK true krf
  refine xO (want_ff krf h7) krf (xR 3 krf ?_)
  refine xS (eqI x4.N 1) (fun h8=>?_) (fun h8=>?_)
  ·refine xO (want_tt krf h8) krf (xR 6 krf (xED krf ?_))
   exact nqK l3_7 krf
  refine xN (want_tf krf h8) krf (xR 6 krf (xED krf ?_))
  exact nqK false krf
 rintro j6
 refine sS (sDr tfm rfl (xR 6 krf ?_))
 refine xs_u krf krf (aop_mset (kt:=9) (e:=4) (ke:=mk_msb) (ve:=mv_msb) (eq:=me_msb) (b:=1000) (m:=l3_9) (k:=x4.Name) (v:=true) rfl krf krf krf krf krf krf kff (fun _ _=>eqV_strK rfl _ _)) ?_
 refine xED krf (sNK ⟨tq88 j6,hq68 x4++hq101 (mset me_msb x4.Name true l3_9) l3_10 l3_2 l3_3 l3_4 l3_5 l3_6 l3_7 l3_8++hq102⟩ krf (sBi (fun j9=>⟨tq88 j6,hq68 x4++hq101 (mset me_msb x4.Name true l3_9) l3_10 l3_2 l3_3 l3_4 l3_5 l3_6 j9 l3_8++hq102⟩:Bool→St) ?_ ?_))
 ·refine sDr tfm rfl (xR 6 krf ?_)
  refine xS l3_7 (fun h10=>?_) (fun h10=>?_)
  ·refine xN (want_ft krf h10) krf (xR 6 krf (xED krf ?_))
   exact nqK true krf
  refine xO (want_ff krf h10) krf (xR 6 krf (xED krf ?_))
  exact nqK (eqI x4.N 1) krf
 rintro j9
 refine sS (sRK tfm ⟨[(2, .mv 1012),(3, .ptr 1900 0),qq 4,(47,B j6)],hq68 x4++hq101 (mset me_msb x4.Name true l3_9) l3_10 l3_2 l3_3 l3_4 l3_5 l3_6 j9 l3_8++hq102⟩ krf (sC j6 krf ?_ ?_))
 ·refine sG (xR 1 krf (xIn [] [I 5, .agg [I x4.Kind,S x4.Name,I x4.N,I x4.At, .p (.sl 5 (mI x4.Kids))]] [] [] [] krf Tryz.func49 rfl Tryz.ntmps49 rfl krf krf krf (sRK tfm ⟨[(0,I 5),qq 3],hq65 x4⟩ krf (sG (xR 6 krf (xPa 116 (.agg [I 5,I x4.At]) krf rfl krf (iq_p [] [] krf ?_)))))))
  refine sq_p ?_
  refine dI_end (⟨Tryz.f56,_,_,_,4,1,_,_,Tryz.func56,rfl,rfl,rfl,rfl,rfl,rfl,rfl,by decide,by decide⟩:Recoverer Tryz.prog 56) nq9 (hq103 (mset me_msb x4.Name true l3_9) l3_10 l3_2 l3_3 l3_4 l3_5 l3_6 j9 l3_8) (.ifc 116 (.agg [I 5,I x4.At])) [.ptr 1009 0] [] rfl krf krf krf krf ?_
  refine sRK tfm ⟨tq89 5 x4.At,hq103 (mset me_msb x4.Name true l3_9) l3_10 l3_2 l3_3 l3_4 l3_5 l3_6 j9 l3_8⟩ krf (sim_condT krf (sRK tfm ⟨tq90 5 x4.At,hq104 5 x4.At++hq103 (mset me_msb x4.Name true l3_9) l3_10 l3_2 l3_3 l3_4 l3_5 l3_6 j9 l3_8⟩ krf (sS (sRK tfm ⟨tq91 5 x4.At,hq104 5 x4.At++hq103 (mset me_msb x4.Name true l3_9) l3_10 l3_2 l3_3 l3_4 l3_5 l3_6 j9 l3_8⟩ krf (sim_condF krf (sK (sNK (sq55 5 x4.At (mset me_msb x4.Name true l3_9) l3_10 l3_2 l3_3 l3_4 l3_5 l3_6 j9 l3_8) krf ?_)))))))
  refine sDr tfm rfl (xR 8 krf (xF krf krf (aop_app (e:=65) (S:=2) (by_:=16) (enc:=GDg.cs) (tk:=1003) (l:=l3_8) (l2:=[(⟨5,x4.At⟩:GDg)]) (xv:=.tsl 2 (mDg [(⟨5,x4.At⟩:GDg)]) 22) rfl krf krf rfl krf krf krf rfl krf) (xR 3 krf (xED krf (cl_n [1000,1001,1002,1003,1004,1005,1006,1007,1008,1009] [] krf krf (iq_ret (.id) [1000,1001,1002,1003,1004,1005,1006,1007,1008,1009,1010,1011,1012,1013,1014,1015,1016,1017,1018,1019] [] (.tup []) krf krf (kr0 ?_)))))))
  refine xE ?_
  exact nqK (l3_2,l3_3,l3_4,l3_5,l3_6,j9,l3_8++[(⟨5,x4.At⟩:GDg)],l3_10) krf
 refine sK (sNK (sq54 x4 (mset me_msb x4.Name true l3_9) l3_10 l3_2 l3_3 l3_4 l3_5 l3_6 j9 l3_8) krf (sS (sRK tfm ⟨[(2, .mv 1012),(3, .ptr 1900 0),qq 4,(52,B (eqI x4.N 7))],hq68 x4++hq101 (mset me_msb x4.Name true l3_9) l3_10 l3_2 l3_3 l3_4 l3_5 l3_6 j9 l3_8++hq102⟩ krf (sC (eqI x4.N 7) krf ?_ ?_))))
 ·refine sT (sq_r ?_)
  refine dI_end (⟨Tryz.f56,_,_,_,4,1,_,_,Tryz.func56,rfl,rfl,rfl,rfl,rfl,rfl,rfl,by decide,by decide⟩:Recoverer Tryz.prog 56) nq9 (hq103 (mset me_msb x4.Name true l3_9) l3_10 l3_2 l3_3 l3_4 l3_5 l3_6 j9 l3_8) (.p (.val (.nilIface))) [.ptr 1009 0] [] rfl krf krf krf krf ?_
  refine sRK tfm ⟨tq92,hq103 (mset me_msb x4.Name true l3_9) l3_10 l3_2 l3_3 l3_4 l3_5 l3_6 j9 l3_8⟩ krf (sim_condF krf (sK (cl_n [1000,1001,1002,1003,1004,1005,1006,1007,1008,1009] [] krf krf (iq_ret (.id) [1000,1001,1002,1003,1004,1005,1006,1007,1008,1009,1010,1011,1012,1013,1014,1015,1016,1017,1018,1019] [] (.tup []) krf krf (kr0 (xE ?_))))))
  exact nqK (l3_2,l3_3,l3_4,l3_5,l3_6,j9,l3_8,l3_10) krf
 refine sK (sNK (sq54 x4 (mset me_msb x4.Name true l3_9) l3_10 l3_2 l3_3 l3_4 l3_5 l3_6 j9 l3_8) krf (sS (sBi (fun (j11_1,j11_2)=>⟨[(2, .mv 1012),(3, .ptr 1900 0),qq 4,(7,I j11_1),(8,I j11_2)],hq68 x4++hq101 (mset me_msb x4.Name true l3_9) l3_10 l3_2 l3_3 l3_4 l3_5 l3_6 j9 l3_8++hq102⟩:(Int × Int)→St) ?_ ?_)))
 ·refine sG (xR 3 krf (xIn (hq105 (mset me_msb x4.Name true l3_9) l3_10 l3_2 l3_3 l3_4 l3_5 l3_6 j9 l3_8) [pZ2,I x4.N] [(1000,1000),(1001,1001),(1002,1002),(1003,1003),(1004,1004),(1005,1005),(1006,1006),(1007,1007),(1008,1008)] [] [] krf Tryz.func57 rfl Tryz.ntmps57 rfl krf krf krf (sRK tfm ⟨[(0,pZ2),(1,I x4.N)],hq105 (mset me_msb x4.Name true l3_9) l3_10 l3_2 l3_3 l3_4 l3_5 l3_6 j9 l3_8⟩ krf (sS (sRK tfm ⟨[(0,pZ2),(6,I x4.N)],hq105 (mset me_msb x4.Name true l3_9) l3_10 l3_2 l3_3 l3_4 l3_5 l3_6 j9 l3_8⟩ krf (sB (sBi (fun j12=>⟨tq93 x4.N j12,hq105 (mset me_msb x4.Name true l3_9) l3_10 l3_2 l3_3 l3_4 l3_5 l3_6 j9 l3_8⟩:Bool→St) ?_ ?_)))))))
  ·refine sRK tfm ⟨tq93 x4.N (eqI x4.N 1),hq105 (mset me_msb x4.Name true l3_9) l3_10 l3_2 l3_3 l3_4 l3_5 l3_6 j9 l3_8⟩ krf (sC (eqI x4.N 1) krf ?_ ?_)
   ·refine sK ?_
    exact nqK (eqI x4.N 1) krf
   refine sL tfm krf ?_
   exact nqK (eqI x4.N 2) krf
  rintro j12
  refine sC j12 krf ?_ ?_
  ·refine sRK tfm ⟨tq94 l3_2,hq105 (mset me_msb x4.Name true l3_9) l3_10 l3_2 l3_3 l3_4 l3_5 l3_6 j9 l3_8⟩ krf (sT (bq_r (sq_r (iq_ret (.id) [1000,1001,1002,1003,1004,1005,1006,1007,1008] [] (.tup [I (lenI (mCo l3_2)),I 16]) krf krf (kr0 (xR 5 krf (xE ?_)))))))
   exact nqK (lenI (mCo l3_2),16) krf
  refine sRK tfm ⟨[(0,pZ2),(6,I x4.N),(16,B (eqI x4.N 3))],hq105 (mset me_msb x4.Name true l3_9) l3_10 l3_2 l3_3 l3_4 l3_5 l3_6 j9 l3_8⟩ krf (sC (eqI x4.N 3) krf ?_ ?_)
  ·refine sRK tfm ⟨[(4,I (lenI (mOwner l3_3))),(5,I 8)],hq105 (mset me_msb x4.Name true l3_9) l3_10 l3_2 l3_3 l3_4 l3_5 l3_6 j9 l3_8⟩ krf (sT (bq_r (sq_r (iq_ret (.id) [1000,1001,1002,1003,1004,1005,1006,1007,1008] [] (.tup [I (lenI (mOwner l3_3)),I 8]) krf krf (kr0 (xR 5 krf (xE ?_)))))))
   exact nqK (lenI (mOwner l3_3),8) krf
  refine sRK tfm ⟨[(0,pZ2),(6,I x4.N),(24,B (eqI x4.N 4))],hq105 (mset me_msb x4.Name true l3_9) l3_10 l3_2 l3_3 l3_4 l3_5 l3_6 j9 l3_8⟩ krf (sC (eqI x4.N 4) krf ?_ ?_)
  ·refine sRK tfm ⟨tq95 l3_4,hq105 (mset me_msb x4.Name true l3_9) l3_10 l3_2 l3_3 l3_4 l3_5 l3_6 j9 l3_8⟩ krf (sT (bq_r (sq_r (iq_ret (.id) [1000,1001,1002,1003,1004,1005,1006,1007,1008] [] (.tup [I (lenI (mCt l3_4)),I 32]) krf krf (kr0 (xR 5 krf (xE ?_)))))))
   exact nqK (lenI (mCt l3_4),32) krf
  refine sRK tfm ⟨[(0,pZ2),(32,B (eqI x4.N 5))],hq105 (mset me_msb x4.Name true l3_9) l3_10 l3_2 l3_3 l3_4 l3_5 l3_6 j9 l3_8⟩ krf (sC (eqI x4.N 5) krf ?_ ?_)
  ·refine sRK tfm ⟨[(4,I (lenI (mCg l3_5))),(5,I 16)],hq105 (mset me_msb x4.Name true l3_9) l3_10 l3_2 l3_3 l3_4 l3_5 l3_6 j9 l3_8⟩ krf (sT (bq_r (sq_r (iq_ret (.id) [1000,1001,1002,1003,1004,1005,1006,1007,1008] [] (.tup [I (lenI (mCg l3_5)),I 16]) krf krf (kr0 (xR 5 krf (xE ?_)))))))
   exact nqK (lenI (mCg l3_5),16) krf
  refine sK (bq_n (sNK ⟨[(0,pZ2)],hq105 (mset me_msb x4.Name true l3_9) l3_10 l3_2 l3_3 l3_4 l3_5 l3_6 j9 l3_8⟩ krf (sRK tfm ⟨[(4,I (lenI (mBay l3_6))),(5,I 24)],hq105 (mset me_msb x4.Name true l3_9) l3_10 l3_2 l3_3 l3_4 l3_5 l3_6 j9 l3_8⟩ krf (sT (iq_ret (.id) [1000,1001,1002,1003,1004,1005,1006,1007,1008] [] (.tup [I (lenI (mBay l3_6)),I 24]) krf krf (kr0 (xR 5 krf ?_)))))))
  refine xE ?_
  exact nqK (lenI (mBay l3_6),24) krf
 rintro ⟨j11_1,j11_2⟩
 refine sRK tfm ⟨[(2, .mv 1012),(3, .ptr 1900 0),qq 4,(62,B (leI j11_2 j11_1))],hq68 x4++hq101 (mset me_msb x4.Name true l3_9) l3_10 l3_2 l3_3 l3_4 l3_5 l3_6 j9 l3_8++hq102⟩ krf (sC (leI j11_2 j11_1) krf ?_ ?_)
 ·refine sG (xR 1 krf (xIn [] [I 2, .agg [I x4.Kind,S x4.Name,I x4.N,I x4.At, .p (.sl 5 (mI x4.Kids))]] [] [] [] krf Tryz.func49 rfl Tryz.ntmps49 rfl krf krf krf (sRK tfm ⟨[(0,I 2),qq 3],hq65 x4⟩ krf (sG (xR 6 krf (xPa 116 (.agg [I 2,I x4.At]) krf rfl krf (iq_p [] [] krf ?_)))))))
  refine sq_p ?_
  refine dI_end (⟨Tryz.f56,_,_,_,4,1,_,_,Tryz.func56,rfl,rfl,rfl,rfl,rfl,rfl,rfl,by decide,by decide⟩:Recoverer Tryz.prog 56) nq9 (hq103 (mset me_msb x4.Name true l3_9) l3_10 l3_2 l3_3 l3_4 l3_5 l3_6 j9 l3_8) (.ifc 116 (.agg [I 2,I x4.At])) [.ptr 1009 0] [] rfl krf krf krf krf ?_
  refine sRK tfm ⟨tq89 2 x4.At,hq103 (mset me_msb x4.Name true l3_9) l3_10 l3_2 l3_3 l3_4 l3_5 l3_6 j9 l3_8⟩ krf (sim_condT krf (sRK tfm ⟨tq90 2 x4.At,hq104 2 x4.At++hq103 (mset me_msb x4.Name true l3_9) l3_10 l3_2 l3_3 l3_4 l3_5 l3_6 j9 l3_8⟩ krf (sS (sRK tfm ⟨tq91 2 x4.At,hq104 2 x4.At++hq103 (mset me_msb x4.Name true l3_9) l3_10 l3_2 l3_3 l3_4 l3_5 l3_6 j9 l3_8⟩ krf (sim_condF krf (sK (sNK (sq55 2 x4.At (mset me_msb x4.Name true l3_9) l3_10 l3_2 l3_3 l3_4 l3_5 l3_6 j9 l3_8) krf ?_)))))))
  refine sDr tfm rfl (xR 8 krf (xF krf krf (aop_app (e:=65) (S:=2) (by_:=16) (enc:=GDg.cs) (tk:=1003) (l:=l3_8) (l2:=[(⟨2,x4.At⟩:GDg)]) (xv:=.tsl 2 (mDg [(⟨2,x4.At⟩:GDg)]) 22) rfl krf krf rfl krf krf krf rfl krf) (xR 3 krf (xED krf (cl_n [1000,1001,1002,1003,1004,1005,1006,1007,1008,1009] [] krf krf (iq_ret (.id) [1000,1001,1002,1003,1004,1005,1006,1007,1008,1009,1010,1011,1012,1013,1014,1015,1016,1017,1018,1019] [] (.tup []) krf krf (kr0 ?_)))))))
  refine xE ?_
  exact nqK (l3_2,l3_3,l3_4,l3_5,l3_6,j9,l3_8++[(⟨2,x4.At⟩:GDg)],l3_10) krf
 refine sK (sNK (sq54 x4 (mset me_msb x4.Name true l3_9) l3_10 l3_2 l3_3 l3_4 l3_5 l3_6 j9 l3_8) krf (sS (sG (xR 2 krf (xs_u krf krf (aop_mk (d:=67) (rsv:=none) rfl rfl krf) (xR 3 krf (xE ?_)))))))
 refine sNK ⟨[(2, .mv 1012),(9, .ptr 69 0)],[(67, .mp (mpL mk_msb mv_msb [])),(69, .box 108 ([pZ2]++bxc (GN.cs x4)++[.mv 67,S [],I 0,I 0,I 0,I 0,I 0,I 0,I 0,I 0,I 0,I 0,S [],I 0,I 0,I 0,S [],I 0,I 0,I 0,I 0,I 0,I 0,I 0,S [],I 0]))]++hq101 (mset me_msb x4.Name true l3_9) l3_10 l3_2 l3_3 l3_4 l3_5 l3_6 j9 l3_8++hq102⟩ krf (sS (sG (xR 2 krf ?_)))
 refine xs_heapE nq10 [] [] krf (g_sr_attrs_ok n x4 (⟨[],0,0,0,(⟨0,0⟩:GFuse),(⟨0,0,0,0,0⟩:GCable)⟩:GCo) (⟨[],0,0,0⟩:GCt) (⟨[],0,0,0,0,0,0,0⟩:GCg) (⟨[],0⟩:GBay) (⟨l3_2,l3_3,l3_4,l3_5,l3_6⟩:GSite) j9 l3_8 (mset me_msb x4.Name true l3_9) l3_10 []) krf krf krf kff kff kff kff (fun r13=>?_) (fun e14=>?_)
 rotate_left
 ·refine sq_p ?_
  refine dI_end (⟨Tryz.f56,_,_,_,4,1,_,_,Tryz.func56,rfl,rfl,rfl,rfl,rfl,rfl,rfl,by decide,by decide⟩:Recoverer Tryz.prog 56) nq9 (hq103 (mset me_msb x4.Name true l3_9) l3_10 l3_2 l3_3 l3_4 l3_5 l3_6 j9 l3_8) (.ifc 116 (.agg [I e14.1.1,I e14.1.2])) [.ptr 1009 0] [] rfl krf krf krf krf ?_
  refine sRK tfm ⟨tq89 e14.1.1 e14.1.2,hq103 (mset me_msb x4.Name true l3_9) l3_10 l3_2 l3_3 l3_4 l3_5 l3_6 j9 l3_8⟩ krf (sim_condT krf (sRK tfm ⟨tq90 e14.1.1 e14.1.2,hq104 e14.1.1 e14.1.2++hq103 (mset me_msb x4.Name true l3_9) l3_10 l3_2 l3_3 l3_4 l3_5 l3_6 j9 l3_8⟩ krf (sS (sRK tfm ⟨tq91 e14.1.1 e14.1.2,hq104 e14.1.1 e14.1.2++hq103 (mset me_msb x4.Name true l3_9) l3_10 l3_2 l3_3 l3_4 l3_5 l3_6 j9 l3_8⟩ krf (sim_condF krf (sK (sNK (sq55 e14.1.1 e14.1.2 (mset me_msb x4.Name true l3_9) l3_10 l3_2 l3_3 l3_4 l3_5 l3_6 j9 l3_8) krf ?_)))))))
  refine sDr tfm rfl (xR 8 krf (xF krf krf (aop_app (e:=65) (S:=2) (by_:=16) (enc:=GDg.cs) (tk:=1003) (l:=l3_8) (l2:=[(⟨e14.1.1,e14.1.2⟩:GDg)]) (xv:=.tsl 2 (mDg [(⟨e14.1.1,e14.1.2⟩:GDg)]) 22) rfl krf krf rfl krf krf krf rfl krf) (xR 3 krf (xED krf (cl_n [1000,1001,1002,1003,1004,1005,1006,1007,1008,1009] [] krf krf (iq_ret (.id) [1000,1001,1002,1003,1004,1005,1006,1007,1008,1009,1010,1011,1012,1013,1014,1015,1016,1017,1018,1019] [] (.tup []) krf krf (kr0 ?_)))))))
  refine xE ?_
  exact nqK (l3_2,l3_3,l3_4,l3_5,l3_6,j9,l3_8++[(⟨e14.1.1,e14.1.2⟩:GDg)],l3_10) krf
 refine xE (sNK ⟨[(2, .mv 1012),(9, .ptr 69 0)],[(67, .mp (mpL mk_msb mv_msb r13.2.2.2.2)),(69,(bq57 x4 r13.1 r13.2.1 r13.2.2.1 r13.2.2.2.1.Name r13.2.2.2.1.Charger))]++hq101 (mset me_msb x4.Name true l3_9) l3_10 l3_2 l3_3 l3_4 l3_5 l3_6 j9 l3_8++hq102⟩ krf (sS (sG (xR 2 krf ?_))))
 refine xs_heapE nq10 [] [] krf (g_sr_whole_ok n x4 r13.1 r13.2.1 r13.2.2.1 r13.2.2.2.1 (⟨l3_2,l3_3,l3_4,l3_5,l3_6⟩:GSite) j9 l3_8 (mset me_msb x4.Name true l3_9) l3_10 r13.2.2.2.2) krf krf krf kff kff kff kff (fun r15=>?_) (fun e16=>?_)
 rotate_left
 ·refine sq_p ?_
  refine dI_end (⟨Tryz.f56,_,_,_,4,1,_,_,Tryz.func56,rfl,rfl,rfl,rfl,rfl,rfl,rfl,by decide,by decide⟩:Recoverer Tryz.prog 56) nq9 (hq103 (mset me_msb x4.Name true l3_9) l3_10 l3_2 l3_3 l3_4 l3_5 l3_6 j9 l3_8) (.ifc 116 (.agg [I e16.1,I e16.2])) [.ptr 1009 0] [] rfl krf krf krf krf ?_
  refine sRK tfm ⟨tq89 e16.1 e16.2,hq103 (mset me_msb x4.Name true l3_9) l3_10 l3_2 l3_3 l3_4 l3_5 l3_6 j9 l3_8⟩ krf (sim_condT krf (sRK tfm ⟨tq90 e16.1 e16.2,hq104 e16.1 e16.2++hq103 (mset me_msb x4.Name true l3_9) l3_10 l3_2 l3_3 l3_4 l3_5 l3_6 j9 l3_8⟩ krf (sS (sRK tfm ⟨tq91 e16.1 e16.2,hq104 e16.1 e16.2++hq103 (mset me_msb x4.Name true l3_9) l3_10 l3_2 l3_3 l3_4 l3_5 l3_6 j9 l3_8⟩ krf (sim_condF krf (sK (sNK (sq55 e16.1 e16.2 (mset me_msb x4.Name true l3_9) l3_10 l3_2 l3_3 l3_4 l3_5 l3_6 j9 l3_8) krf ?_)))))))
  refine sDr tfm rfl (xR 8 krf (xF krf krf (aop_app (e:=65) (S:=2) (by_:=16) (enc:=GDg.cs) (tk:=1003) (l:=l3_8) (l2:=[(⟨e16.1,e16.2⟩:GDg)]) (xv:=.tsl 2 (mDg [(⟨e16.1,e16.2⟩:GDg)]) 22) rfl krf krf rfl krf krf krf rfl krf) (xR 3 krf (xED krf (cl_n [1000,1001,1002,1003,1004,1005,1006,1007,1008,1009] [] krf krf (iq_ret (.id) [1000,1001,1002,1003,1004,1005,1006,1007,1008,1009,1010,1011,1012,1013,1014,1015,1016,1017,1018,1019] [] (.tup []) krf krf (kr0 ?_)))))))
  refine xE ?_
  exact nqK (l3_2,l3_3,l3_4,l3_5,l3_6,j9,l3_8++[(⟨e16.1,e16.2⟩:GDg)],l3_10) krf
 refine xE (sNK ⟨[(9, .ptr 69 0)],[(67, .mp (mpL mk_msb mv_msb r13.2.2.2.2)),(69,(bq57 x4 r13.1 r13.2.1 r13.2.2.1 r13.2.2.2.1.Name r13.2.2.2.1.Charger))]++hq101 (mset me_msb x4.Name true l3_9) l3_10 l3_2 l3_3 l3_4 l3_5 l3_6 j9 l3_8++hq102⟩ krf (sG (xR 1 krf (xIn (hq106 r13.2.2.2.2 x4 r13.1 r13.2.1 r13.2.2.1 r13.2.2.2.1.Name r13.2.2.2.1.Charger (mset me_msb x4.Name true l3_9) l3_10 l3_2 l3_3 l3_4 l3_5 l3_6 j9 l3_8) [pZ1] [(1000,67),(1001,69),(1002,1000),(1003,1001),(1004,1002),(1005,1003),(1006,1004),(1007,1005),(1008,1006),(1009,1007),(1010,1008)] [] [] krf Tryz.func60 rfl Tryz.ntmps60 rfl krf krf krf (sRK tfm ⟨tq96 x4.Name,hq106 r13.2.2.2.2 x4 r13.1 r13.2.1 r13.2.2.1 r13.2.2.2.1.Name r13.2.2.2.1.Charger (mset me_msb x4.Name true l3_9) l3_10 l3_2 l3_3 l3_4 l3_5 l3_6 j9 l3_8⟩ krf (sBi (fun j17=>⟨[(0,pZ1),(2,S x4.Name),(3, .ptr 1004 0),(4,I j17)],hq106 r13.2.2.2.2 x4 r13.1 r13.2.1 r13.2.2.1 r13.2.2.2.1.Name r13.2.2.2.1.Charger (mset me_msb x4.Name true l3_9) l3_10 l3_2 l3_3 l3_4 l3_5 l3_6 j9 l3_8⟩:Int→St) ?_ ?_))))))
 ·refine sim_hst [0,1,2,3,4,5,6,7,8] [12] [(9,[10,11,12]),(13,[]),(14,[])] tfm rfl krf krf (h_enter (f:=57) (args:=[.ptr 1004 0,I x4.N]) (dst:=some 27) krf krf (sc_inline (hc:=(hq105 (mset me_msb x4.Name true l3_9) l3_10 l3_2 l3_3 l3_4 l3_5 l3_6 j9 l3_8)) (args':=[pZ2,I x4.N]) [(1000,1002),(1001,1003),(1002,1004),(1003,1005),(1004,1006),(1005,1007),(1006,1008),(1007,1009),(1008,1010)] [] [] Tryz.func57 rfl Tryz.ntmps57 rfl krf krf krf (sRK tfm ⟨[(0,pZ2),(1,I x4.N)],hq105 (mset me_msb x4.Name true l3_9) l3_10 l3_2 l3_3 l3_4 l3_5 l3_6 j9 l3_8⟩ krf (sS (sRK tfm ⟨[(0,pZ2),(6,I x4.N)],hq105 (mset me_msb x4.Name true l3_9) l3_10 l3_2 l3_3 l3_4 l3_5 l3_6 j9 l3_8⟩ krf (sB (sBi (fun j18=>⟨tq93 x4.N j18,hq105 (mset me_msb x4.Name true l3_9) l3_10 l3_2 l3_3 l3_4 l3_5 l3_6 j9 l3_8⟩:Bool→St) ?_ ?_)))))))
  ·refine sRK tfm ⟨tq93 x4.N (eqI x4.N 1),hq105 (mset me_msb x4.Name true l3_9) l3_10 l3_2 l3_3 l3_4 l3_5 l3_6 j9 l3_8⟩ krf (sC (eqI x4.N 1) krf ?_ ?_)
   ·refine sK ?_
    exact nqK (eqI x4.N 1) krf
   refine sL tfm krf ?_
   exact nqK (eqI x4.N 2) krf
  rintro j18
  refine sC j18 krf ?_ ?_
  ·refine sRK tfm ⟨tq94 l3_2,hq105 (mset me_msb x4.Name true l3_9) l3_10 l3_2 l3_3 l3_4 l3_5 l3_6 j9 l3_8⟩ krf (sT (bq_r (sq_r (iq_ret (.id) [1000,1001,1002,1003,1004,1005,1006,1007,1008] [] (.tup [I (lenI (mCo l3_2)),I 16]) krf krf (kh [] krf (lates_nil) krf (h_op [12] krf krf (lates_cons (late_read (I 16) krf rfl) (lates_nil)) (h_op [] krf krf (lates_nil) ?_)))))))
   refine h_end ?_
   exact nqK (lenI (mCo l3_2)) krf
  refine sRK tfm ⟨[(0,pZ2),(6,I x4.N),(16,B (eqI x4.N 3))],hq105 (mset me_msb x4.Name true l3_9) l3_10 l3_2 l3_3 l3_4 l3_5 l3_6 j9 l3_8⟩ krf (sC (eqI x4.N 3) krf ?_ ?_)
  ·refine sRK tfm ⟨[(4,I (lenI (mOwner l3_3))),(5,I 8)],hq105 (mset me_msb x4.Name true l3_9) l3_10 l3_2 l3_3 l3_4 l3_5 l3_6 j9 l3_8⟩ krf (sT (bq_r (sq_r (iq_ret (.id) [1000,1001,1002,1003,1004,1005,1006,1007,1008] [] (.tup [I (lenI (mOwner l3_3)),I 8]) krf krf (kh [] krf (lates_nil) krf (h_op [12] krf krf (lates_cons (late_read (I 8) krf rfl) (lates_nil)) (h_op [] krf krf (lates_nil) ?_)))))))
   refine h_end ?_
   exact nqK (lenI (mOwner l3_3)) krf
  refine sRK tfm ⟨[(0,pZ2),(6,I x4.N),(24,B (eqI x4.N 4))],hq105 (mset me_msb x4.Name true l3_9) l3_10 l3_2 l3_3 l3_4 l3_5 l3_6 j9 l3_8⟩ krf (sC (eqI x4.N 4) krf ?_ ?_)
  ·refine sRK tfm ⟨tq95 l3_4,hq105 (mset me_msb x4.Name true l3_9) l3_10 l3_2 l3_3 l3_4 l3_5 l3_6 j9 l3_8⟩ krf (sT (bq_r (sq_r (iq_ret (.id) [1000,1001,1002,1003,1004,1005,1006,1007,1008] [] (.tup [I (lenI (mCt l3_4)),I 32]) krf krf (kh [] krf (lates_nil) krf (h_op [12] krf krf (lates_cons (late_read (I 32) krf rfl) (lates_nil)) (h_op [] krf krf (lates_nil) ?_)))))))
   refine h_end ?_
   exact nqK (lenI (mCt l3_4)) krf
  refine sRK tfm ⟨[(0,pZ2),(32,B (eqI x4.N 5))],hq105 (mset me_msb x4.Name true l3_9) l3_10 l3_2 l3_3 l3_4 l3_5 l3_6 j9 l3_8⟩ krf (sC (eqI x4.N 5) krf ?_ ?_)
  ·refine sRK tfm ⟨[(4,I (lenI (mCg l3_5))),(5,I 16)],hq105 (mset me_msb x4.Name true l3_9) l3_10 l3_2 l3_3 l3_4 l3_5 l3_6 j9 l3_8⟩ krf (sT (bq_r (sq_r (iq_ret (.id) [1000,1001,1002,1003,1004,1005,1006,1007,1008] [] (.tup [I (lenI (mCg l3_5)),I 16]) krf krf (kh [] krf (lates_nil) krf (h_op [12] krf krf (lates_cons (late_read (I 16) krf rfl) (lates_nil)) (h_op [] krf krf (lates_nil) ?_)))))))
   refine h_end ?_
   exact nqK (lenI (mCg l3_5)) krf
  refine sK (bq_n (sNK ⟨[(0,pZ2)],hq105 (mset me_msb x4.Name true l3_9) l3_10 l3_2 l3_3 l3_4 l3_5 l3_6 j9 l3_8⟩ krf (sRK tfm ⟨[(4,I (lenI (mBay l3_6))),(5,I 24)],hq105 (mset me_msb x4.Name true l3_9) l3_10 l3_2 l3_3 l3_4 l3_5 l3_6 j9 l3_8⟩ krf (sT (iq_ret (.id) [1000,1001,1002,1003,1004,1005,1006,1007,1008] [] (.tup [I (lenI (mBay l3_6)),I 24]) krf krf (kh [] krf (lates_nil) krf (h_op [12] krf krf (lates_cons (late_read (I 24) krf rfl) (lates_nil)) ?_)))))))
  refine h_op [] krf krf (lates_nil) (h_end ?_)
  exact nqK (lenI (mBay l3_6)) krf
 rintro j17
 refine sS (sDr tfm rfl (xR 15 krf ?_))
 refine xs_u krf krf (aop_mset (kt:=9) (e:=137) (ke:=mk_mst) (ve:=mv_mst) (eq:=me_mst) (b:=1003) (m:=l3_10) (k:=x4.Name) (v:=(⟨x4.N,j17⟩:GTh)) rfl krf krf krf krf krf krf kff (fun _ _=>eqV_strK rfl _ _)) ?_
 refine xED krf (sNK ⟨tq96 x4.Name,hq106 r13.2.2.2.2 x4 r13.1 r13.2.1 r13.2.2.1 r13.2.2.2.1.Name r13.2.2.2.1.Charger (mset me_msb x4.Name true l3_9) (mset me_mst x4.Name (⟨x4.N,j17⟩:GTh) l3_10) l3_2 l3_3 l3_4 l3_5 l3_6 j9 l3_8⟩ krf (sRK tfm ⟨[(0,pZ1),(2,S x4.Name),(3, .ptr 1004 0),(49,I x4.N)],hq106 r13.2.2.2.2 x4 r13.1 r13.2.1 r13.2.2.1 r13.2.2.2.1.Name r13.2.2.2.1.Charger (mset me_msb x4.Name true l3_9) (mset me_mst x4.Name (⟨x4.N,j17⟩:GTh) l3_10) l3_2 l3_3 l3_4 l3_5 l3_6 j9 l3_8⟩ krf (sB (sRK tfm ⟨[(0,pZ1),(2,S x4.Name),(3, .ptr 1004 0),(49,I x4.N),(50,B (eqI x4.N 1))],hq106 r13.2.2.2.2 x4 r13.1 r13.2.1 r13.2.2.1 r13.2.2.2.1.Name r13.2.2.2.1.Charger (mset me_msb x4.Name true l3_9) (mset me_mst x4.Name (⟨x4.N,j17⟩:GTh) l3_10) l3_2 l3_3 l3_4 l3_5 l3_6 j9 l3_8⟩ krf (sC (eqI x4.N 1) krf ?_ ?_)))))
 ·refine sRK tfm ⟨[(0,pZ1),(3, .ptr 1004 0)],hq106 r13.2.2.2.2 x4 ⟨x4.Name,(-1),r13.1.Limit,r13.1.Neutral,r13.1.Fuse,r13.1.Cable⟩ r13.2.1 r13.2.2.1 r13.2.2.2.1.Name r13.2.2.2.1.Charger (mset me_msb x4.Name true l3_9) (mset me_mst x4.Name (⟨x4.N,j17⟩:GTh) l3_10) l3_2 l3_3 l3_4 l3_5 l3_6 j9 l3_8⟩ krf (sDr tfm rfl (xR 10 krf (xF krf krf (aop_app (e:=49) (S:=11) (by_:=96) (enc:=GCo.cs) (tk:=1006) (l:=l3_2) (l2:=[(⟨x4.Name,(-1),r13.1.Limit,r13.1.Neutral,r13.1.Fuse,r13.1.Cable⟩:GCo)]) (xv:=.tsl 11 (mCo [(⟨x4.Name,(-1),r13.1.Limit,r13.1.Neutral,r13.1.Fuse,r13.1.Cable⟩:GCo)]) 70) rfl krf krf rfl krf krf krf rfl krf) (xR 3 krf (xED krf (bq_n (iq_n (.id) [1000,1001,1002,1003,1004,1005,1006,1007,1008,1009,1010] [] (.tup []) krf krf ?_)))))))
  refine kr0 (xE ?_)
  refine dI_end (⟨Tryz.f56,_,_,_,4,1,_,_,Tryz.func56,rfl,rfl,rfl,rfl,rfl,rfl,rfl,by decide,by decide⟩:Recoverer Tryz.prog 56) nq9 (hq103 (mset me_msb x4.Name true l3_9) (mset me_mst x4.Name (⟨x4.N,j17⟩:GTh) l3_10) (l3_2++[(⟨x4.Name,(-1),r13.1.Limit,r13.1.Neutral,r13.1.Fuse,r13.1.Cable⟩:GCo)]) l3_3 l3_4 l3_5 l3_6 j9 l3_8) (.p (.val (.nilIface))) [.ptr 1009 0] [] rfl krf krf krf krf ?_
  refine sRK tfm ⟨tq92,hq103 (mset me_msb x4.Name true l3_9) (mset me_mst x4.Name (⟨x4.N,j17⟩:GTh) l3_10) (l3_2++[(⟨x4.Name,(-1),r13.1.Limit,r13.1.Neutral,r13.1.Fuse,r13.1.Cable⟩:GCo)]) l3_3 l3_4 l3_5 l3_6 j9 l3_8⟩ krf (sim_condF krf (sK (cl_n [1000,1001,1002,1003,1004,1005,1006,1007,1008,1009] [] krf krf (iq_ret (.id) [1000,1001,1002,1003,1004,1005,1006,1007,1008,1009,1010,1011,1012,1013,1014,1015,1016,1017,1018,1019] [] (.tup []) krf krf (kr0 (xE ?_))))))
  exact nqK (l3_2++[(⟨x4.Name,(-1),r13.1.Limit,r13.1.Neutral,r13.1.Fuse,r13.1.Cable⟩:GCo)],l3_3,l3_4,l3_5,l3_6,j9,l3_8,mset me_mst x4.Name (⟨x4.N,j17⟩:GTh) l3_10) krf
 refine sRK tfm ⟨[(0,pZ1),(2,S x4.Name),(3, .ptr 1004 0),(49,I x4.N),(74,B (eqI x4.N 2))],hq106 r13.2.2.2.2 x4 r13.1 r13.2.1 r13.2.2.1 r13.2.2.2.1.Name r13.2.2.2.1.Charger (mset me_msb x4.Name true l3_9) (mset me_mst x4.Name (⟨x4.N,j17⟩:GTh) l3_10) l3_2 l3_3 l3_4 l3_5 l3_6 j9 l3_8⟩ krf (sC (eqI x4.N 2) krf ?_ ?_)
 ·refine sRK tfm ⟨[(0,pZ1),(3, .ptr 1004 0)],hq106 r13.2.2.2.2 x4 ⟨x4.Name,r13.1.Up,r13.1.Limit,r13.1.Neutral,r13.1.Fuse,r13.1.Cable⟩ r13.2.1 r13.2.2.1 r13.2.2.2.1.Name r13.2.2.2.1.Charger (mset me_msb x4.Name true l3_9) (mset me_mst x4.Name (⟨x4.N,j17⟩:GTh) l3_10) l3_2 l3_3 l3_4 l3_5 l3_6 j9 l3_8⟩ krf (sDr tfm rfl (xR 10 krf (xF krf krf (aop_app (e:=49) (S:=11) (by_:=96) (enc:=GCo.cs) (tk:=1006) (l:=l3_2) (l2:=[(⟨x4.Name,r13.1.Up,r13.1.Limit,r13.1.Neutral,r13.1.Fuse,r13.1.Cable⟩:GCo)]) (xv:=.tsl 11 (mCo [(⟨x4.Name,r13.1.Up,r13.1.Limit,r13.1.Neutral,r13.1.Fuse,r13.1.Cable⟩:GCo)]) 90) rfl krf krf rfl krf krf krf rfl krf) (xR 3 krf (xED krf (bq_n (iq_n (.id) [1000,1001,1002,1003,1004,1005,1006,1007,1008,1009,1010] [] (.tup []) krf krf ?_)))))))
  refine kr0 (xE ?_)
  refine dI_end (⟨Tryz.f56,_,_,_,4,1,_,_,Tryz.func56,rfl,rfl,rfl,rfl,rfl,rfl,rfl,by decide,by decide⟩:Recoverer Tryz.prog 56) nq9 (hq103 (mset me_msb x4.Name true l3_9) (mset me_mst x4.Name (⟨x4.N,j17⟩:GTh) l3_10) (l3_2++[(⟨x4.Name,r13.1.Up,r13.1.Limit,r13.1.Neutral,r13.1.Fuse,r13.1.Cable⟩:GCo)]) l3_3 l3_4 l3_5 l3_6 j9 l3_8) (.p (.val (.nilIface))) [.ptr 1009 0] [] rfl krf krf krf krf ?_
  refine sRK tfm ⟨tq92,hq103 (mset me_msb x4.Name true l3_9) (mset me_mst x4.Name (⟨x4.N,j17⟩:GTh) l3_10) (l3_2++[(⟨x4.Name,r13.1.Up,r13.1.Limit,r13.1.Neutral,r13.1.Fuse,r13.1.Cable⟩:GCo)]) l3_3 l3_4 l3_5 l3_6 j9 l3_8⟩ krf (sim_condF krf (sK (cl_n [1000,1001,1002,1003,1004,1005,1006,1007,1008,1009] [] krf krf (iq_ret (.id) [1000,1001,1002,1003,1004,1005,1006,1007,1008,1009,1010,1011,1012,1013,1014,1015,1016,1017,1018,1019] [] (.tup []) krf krf (kr0 (xE ?_))))))
  exact nqK (l3_2++[(⟨x4.Name,r13.1.Up,r13.1.Limit,r13.1.Neutral,r13.1.Fuse,r13.1.Cable⟩:GCo)],l3_3,l3_4,l3_5,l3_6,j9,l3_8,mset me_mst x4.Name (⟨x4.N,j17⟩:GTh) l3_10) krf
 refine sRK tfm ⟨[(0,pZ1),(2,S x4.Name),(3, .ptr 1004 0),(49,I x4.N),(94,B (eqI x4.N 3))],hq106 r13.2.2.2.2 x4 r13.1 r13.2.1 r13.2.2.1 r13.2.2.2.1.Name r13.2.2.2.1.Charger (mset me_msb x4.Name true l3_9) (mset me_mst x4.Name (⟨x4.N,j17⟩:GTh) l3_10) l3_2 l3_3 l3_4 l3_5 l3_6 j9 l3_8⟩ krf (sC (eqI x4.N 3) krf ?_ ?_)
 ·refine sG (xR 8 krf (xF krf krf (aop_app (e:=52) (S:=1) (by_:=16) (enc:=GOwner.cs) (tk:=1007) (l:=l3_3) (l2:=[(⟨x4.Name⟩:GOwner)]) (xv:=.tsl 1 (mOwner [(⟨x4.Name⟩:GOwner)]) 103) rfl krf krf rfl krf krf krf rfl krf) (xR 3 krf (xE (bq_n (iq_n (.id) [1000,1001,1002,1003,1004,1005,1006,1007,1008,1009,1010] [] (.tup []) krf krf (kr0 ?_)))))))
  refine xE ?_
  refine dI_end (⟨Tryz.f56,_,_,_,4,1,_,_,Tryz.func56,rfl,rfl,rfl,rfl,rfl,rfl,rfl,by decide,by decide⟩:Recoverer Tryz.prog 56) nq9 (hq103 (mset me_msb x4.Name true l3_9) (mset me_mst x4.Name (⟨x4.N,j17⟩:GTh) l3_10) l3_2 (l3_3++[(⟨x4.Name⟩:GOwner)]) l3_4 l3_5 l3_6 j9 l3_8) (.p (.val (.nilIface))) [.ptr 1009 0] [] rfl krf krf krf krf ?_
  refine sRK tfm ⟨tq92,hq103 (mset me_msb x4.Name true l3_9) (mset me_mst x4.Name (⟨x4.N,j17⟩:GTh) l3_10) l3_2 (l3_3++[(⟨x4.Name⟩:GOwner)]) l3_4 l3_5 l3_6 j9 l3_8⟩ krf (sim_condF krf (sK (cl_n [1000,1001,1002,1003,1004,1005,1006,1007,1008,1009] [] krf krf (iq_ret (.id) [1000,1001,1002,1003,1004,1005,1006,1007,1008,1009,1010,1011,1012,1013,1014,1015,1016,1017,1018,1019] [] (.tup []) krf krf (kr0 (xE ?_))))))
  exact nqK (l3_2,l3_3++[(⟨x4.Name⟩:GOwner)],l3_4,l3_5,l3_6,j9,l3_8,mset me_mst x4.Name (⟨x4.N,j17⟩:GTh) l3_10) krf
 refine sRK tfm ⟨[(0,pZ1),(2,S x4.Name),(3, .ptr 1004 0),(49,I x4.N),(107,B (eqI x4.N 4))],hq106 r13.2.2.2.2 x4 r13.1 r13.2.1 r13.2.2.1 r13.2.2.2.1.Name r13.2.2.2.1.Charger (mset me_msb x4.Name true l3_9) (mset me_mst x4.Name (⟨x4.N,j17⟩:GTh) l3_10) l3_2 l3_3 l3_4 l3_5 l3_6 j9 l3_8⟩ krf (sC (eqI x4.N 4) krf ?_ ?_)
 ·refine sRK tfm ⟨[(0,pZ1),(3, .ptr 1004 0)],[(1000, .mp (mpL mk_msb mv_msb r13.2.2.2.2)),(1001, .box 108 ([.ptr 1004 0]++bxc (GN.cs x4)++[.mv 1000]++bxc (GCo.cs r13.1)++[S x4.Name,I r13.2.1.Owner,I r13.2.1.Rank,I r13.2.1.Card]++bxc (GCg.cs r13.2.2.1)++[S r13.2.2.2.1.Name,I r13.2.2.2.1.Charger])),(1002, .mp (mpL mk_msb mv_msb (mset me_msb x4.Name true l3_9))),(1003, .mp (mpL mk_mst mv_mst (mset me_mst x4.Name (⟨x4.N,j17⟩:GTh) l3_10))),(1004,(bq59 l3_2 l3_3 l3_4 l3_5 l3_6 j9 l3_8)),(1005,(bq11 l3_8)),(1006,(bq51 l3_2)),(1007,(bq52 l3_3)),(1008,(bq53 l3_4)),(1009,(bq54 l3_5)),(1010,(bq55 l3_6))]⟩ krf (sDr tfm rfl (xR 10 krf (xF krf krf (aop_app (e:=54) (S:=4) (by_:=40) (enc:=GCt.cs) (tk:=1008) (l:=l3_4) (l2:=[(⟨x4.Name,r13.2.1.Owner,r13.2.1.Rank,r13.2.1.Card⟩:GCt)]) (xv:=.tsl 4 (mCt [(⟨x4.Name,r13.2.1.Owner,r13.2.1.Rank,r13.2.1.Card⟩:GCt)]) 123) rfl krf krf rfl krf krf krf rfl krf) (xR 3 krf (xED krf (bq_n (iq_n (.id) [1000,1001,1002,1003,1004,1005,1006,1007,1008,1009,1010] [] (.tup []) krf krf ?_)))))))
  refine kr0 (xE ?_)
  refine dI_end (⟨Tryz.f56,_,_,_,4,1,_,_,Tryz.func56,rfl,rfl,rfl,rfl,rfl,rfl,rfl,by decide,by decide⟩:Recoverer Tryz.prog 56) nq9 (hq103 (mset me_msb x4.Name true l3_9) (mset me_mst x4.Name (⟨x4.N,j17⟩:GTh) l3_10) l3_2 l3_3 (l3_4++[(⟨x4.Name,r13.2.1.Owner,r13.2.1.Rank,r13.2.1.Card⟩:GCt)]) l3_5 l3_6 j9 l3_8) (.p (.val (.nilIface))) [.ptr 1009 0] [] rfl krf krf krf krf ?_
  refine sRK tfm ⟨tq92,hq103 (mset me_msb x4.Name true l3_9) (mset me_mst x4.Name (⟨x4.N,j17⟩:GTh) l3_10) l3_2 l3_3 (l3_4++[(⟨x4.Name,r13.2.1.Owner,r13.2.1.Rank,r13.2.1.Card⟩:GCt)]) l3_5 l3_6 j9 l3_8⟩ krf (sim_condF krf (sK (cl_n [1000,1001,1002,1003,1004,1005,1006,1007,1008,1009] [] krf krf (iq_ret (.id) [1000,1001,1002,1003,1004,1005,1006,1007,1008,1009,1010,1011,1012,1013,1014,1015,1016,1017,1018,1019] [] (.tup []) krf krf (kr0 (xE ?_))))))
  exact nqK (l3_2,l3_3,l3_4++[(⟨x4.Name,r13.2.1.Owner,r13.2.1.Rank,r13.2.1.Card⟩:GCt)],l3_5,l3_6,j9,l3_8,mset me_mst x4.Name (⟨x4.N,j17⟩:GTh) l3_10) krf
 refine sRK tfm ⟨[(0,pZ1),(2,S x4.Name),(3, .ptr 1004 0),(49,I x4.N),(127,B (eqI x4.N 5))],hq106 r13.2.2.2.2 x4 r13.1 r13.2.1 r13.2.2.1 r13.2.2.2.1.Name r13.2.2.2.1.Charger (mset me_msb x4.Name true l3_9) (mset me_mst x4.Name (⟨x4.N,j17⟩:GTh) l3_10) l3_2 l3_3 l3_4 l3_5 l3_6 j9 l3_8⟩ krf (sC (eqI x4.N 5) krf ?_ ?_)
 ·refine sRK tfm ⟨[(0,pZ1),(3, .ptr 1004 0)],[(1000, .mp (mpL mk_msb mv_msb r13.2.2.2.2)),(1001, .box 108 ([.ptr 1004 0]++bxc (GN.cs x4)++[.mv 1000]++bxc (GCo.cs r13.1)++bxc (GCt.cs r13.2.1)++[S x4.Name,I r13.2.2.1.At,I r13.2.2.1.Phases,I r13.2.2.1.Min,I r13.2.2.1.Max,I r13.2.2.1.Step,I r13.2.2.1.Fallback,I r13.2.2.1.Owner,S r13.2.2.2.1.Name,I r13.2.2.2.1.Charger])),(1002, .mp (mpL mk_msb mv_msb (mset me_msb x4.Name true l3_9))),(1003, .mp (mpL mk_mst mv_mst (mset me_mst x4.Name (⟨x4.N,j17⟩:GTh) l3_10))),(1004,(bq59 l3_2 l3_3 l3_4 l3_5 l3_6 j9 l3_8)),(1005,(bq11 l3_8)),(1006,(bq51 l3_2)),(1007,(bq52 l3_3)),(1008,(bq53 l3_4)),(1009,(bq54 l3_5)),(1010,(bq55 l3_6))]⟩ krf (sDr tfm rfl (xR 10 krf (xF krf krf (aop_app (e:=56) (S:=8) (by_:=72) (enc:=GCg.cs) (tk:=1009) (l:=l3_5) (l2:=[(⟨x4.Name,r13.2.2.1.At,r13.2.2.1.Phases,r13.2.2.1.Min,r13.2.2.1.Max,r13.2.2.1.Step,r13.2.2.1.Fallback,r13.2.2.1.Owner⟩:GCg)]) (xv:=.tsl 8 (mCg [(⟨x4.Name,r13.2.2.1.At,r13.2.2.1.Phases,r13.2.2.1.Min,r13.2.2.1.Max,r13.2.2.1.Step,r13.2.2.1.Fallback,r13.2.2.1.Owner⟩:GCg)]) 143) rfl krf krf rfl krf krf krf rfl krf) (xR 3 krf (xED krf (bq_n (iq_n (.id) [1000,1001,1002,1003,1004,1005,1006,1007,1008,1009,1010] [] (.tup []) krf krf ?_)))))))
  refine kr0 (xE ?_)
  refine dI_end (⟨Tryz.f56,_,_,_,4,1,_,_,Tryz.func56,rfl,rfl,rfl,rfl,rfl,rfl,rfl,by decide,by decide⟩:Recoverer Tryz.prog 56) nq9 (hq103 (mset me_msb x4.Name true l3_9) (mset me_mst x4.Name (⟨x4.N,j17⟩:GTh) l3_10) l3_2 l3_3 l3_4 (l3_5++[(⟨x4.Name,r13.2.2.1.At,r13.2.2.1.Phases,r13.2.2.1.Min,r13.2.2.1.Max,r13.2.2.1.Step,r13.2.2.1.Fallback,r13.2.2.1.Owner⟩:GCg)]) l3_6 j9 l3_8) (.p (.val (.nilIface))) [.ptr 1009 0] [] rfl krf krf krf krf ?_
  refine sRK tfm ⟨tq92,hq103 (mset me_msb x4.Name true l3_9) (mset me_mst x4.Name (⟨x4.N,j17⟩:GTh) l3_10) l3_2 l3_3 l3_4 (l3_5++[(⟨x4.Name,r13.2.2.1.At,r13.2.2.1.Phases,r13.2.2.1.Min,r13.2.2.1.Max,r13.2.2.1.Step,r13.2.2.1.Fallback,r13.2.2.1.Owner⟩:GCg)]) l3_6 j9 l3_8⟩ krf (sim_condF krf (sK (cl_n [1000,1001,1002,1003,1004,1005,1006,1007,1008,1009] [] krf krf (iq_ret (.id) [1000,1001,1002,1003,1004,1005,1006,1007,1008,1009,1010,1011,1012,1013,1014,1015,1016,1017,1018,1019] [] (.tup []) krf krf (kr0 (xE ?_))))))
  exact nqK (l3_2,l3_3,l3_4,l3_5++[(⟨x4.Name,r13.2.2.1.At,r13.2.2.1.Phases,r13.2.2.1.Min,r13.2.2.1.Max,r13.2.2.1.Step,r13.2.2.1.Fallback,r13.2.2.1.Owner⟩:GCg)],l3_6,j9,l3_8,mset me_mst x4.Name (⟨x4.N,j17⟩:GTh) l3_10) krf
 refine sRK tfm ⟨[(0,pZ1),(2,S x4.Name),(3, .ptr 1004 0),(147,B (eqI x4.N 6))],hq106 r13.2.2.2.2 x4 r13.1 r13.2.1 r13.2.2.1 r13.2.2.2.1.Name r13.2.2.2.1.Charger (mset me_msb x4.Name true l3_9) (mset me_mst x4.Name (⟨x4.N,j17⟩:GTh) l3_10) l3_2 l3_3 l3_4 l3_5 l3_6 j9 l3_8⟩ krf (sC (eqI x4.N 6) krf ?_ ?_)
 rotate_left
 ·refine sK (bq_n (iq_n (.id) [1000,1001,1002,1003,1004,1005,1006,1007,1008,1009,1010] [] (.tup []) krf krf (kr0 (xE ?_))))
  refine dI_end (⟨Tryz.f56,_,_,_,4,1,_,_,Tryz.func56,rfl,rfl,rfl,rfl,rfl,rfl,rfl,by decide,by decide⟩:Recoverer Tryz.prog 56) nq9 (hq103 (mset me_msb x4.Name true l3_9) (mset me_mst x4.Name (⟨x4.N,j17⟩:GTh) l3_10) l3_2 l3_3 l3_4 l3_5 l3_6 j9 l3_8) (.p (.val (.nilIface))) [.ptr 1009 0] [] rfl krf krf krf krf ?_
  refine sRK tfm ⟨tq92,hq103 (mset me_msb x4.Name true l3_9) (mset me_mst x4.Name (⟨x4.N,j17⟩:GTh) l3_10) l3_2 l3_3 l3_4 l3_5 l3_6 j9 l3_8⟩ krf (sim_condF krf (sK (cl_n [1000,1001,1002,1003,1004,1005,1006,1007,1008,1009] [] krf krf (iq_ret (.id) [1000,1001,1002,1003,1004,1005,1006,1007,1008,1009,1010,1011,1012,1013,1014,1015,1016,1017,1018,1019] [] (.tup []) krf krf (kr0 (xE ?_))))))
  exact nqK (l3_2,l3_3,l3_4,l3_5,l3_6,j9,l3_8,mset me_mst x4.Name (⟨x4.N,j17⟩:GTh) l3_10) krf
 refine sRK tfm ⟨[(0,pZ1),(3, .ptr 1004 0)],hq106 r13.2.2.2.2 x4 r13.1 r13.2.1 r13.2.2.1 x4.Name r13.2.2.2.1.Charger (mset me_msb x4.Name true l3_9) (mset me_mst x4.Name (⟨x4.N,j17⟩:GTh) l3_10) l3_2 l3_3 l3_4 l3_5 l3_6 j9 l3_8⟩ krf (sDr tfm rfl (xR 10 krf (xF krf krf (aop_app (e:=58) (S:=2) (by_:=24) (enc:=GBay.cs) (tk:=1010) (l:=l3_6) (l2:=[(⟨x4.Name,r13.2.2.2.1.Charger⟩:GBay)]) (xv:=.tsl 2 (mBay [(⟨x4.Name,r13.2.2.2.1.Charger⟩:GBay)]) 163) rfl krf krf rfl krf krf krf rfl krf) (xR 3 krf (xED krf (bq_n (iq_n (.id) [1000,1001,1002,1003,1004,1005,1006,1007,1008,1009,1010] [] (.tup []) krf krf ?_)))))))
 refine kr0 (xE ?_)
 refine dI_end (⟨Tryz.f56,_,_,_,4,1,_,_,Tryz.func56,rfl,rfl,rfl,rfl,rfl,rfl,rfl,by decide,by decide⟩:Recoverer Tryz.prog 56) nq9 (hq103 (mset me_msb x4.Name true l3_9) (mset me_mst x4.Name (⟨x4.N,j17⟩:GTh) l3_10) l3_2 l3_3 l3_4 l3_5 (l3_6++[(⟨x4.Name,r13.2.2.2.1.Charger⟩:GBay)]) j9 l3_8) (.p (.val (.nilIface))) [.ptr 1009 0] [] rfl krf krf krf krf ?_
 refine sRK tfm ⟨tq92,hq103 (mset me_msb x4.Name true l3_9) (mset me_mst x4.Name (⟨x4.N,j17⟩:GTh) l3_10) l3_2 l3_3 l3_4 l3_5 (l3_6++[(⟨x4.Name,r13.2.2.2.1.Charger⟩:GBay)]) j9 l3_8⟩ krf (sim_condF krf (sK (cl_n [1000,1001,1002,1003,1004,1005,1006,1007,1008,1009] [] krf krf (iq_ret (.id) [1000,1001,1002,1003,1004,1005,1006,1007,1008,1009,1010,1011,1012,1013,1014,1015,1016,1017,1018,1019] [] (.tup []) krf krf (kr0 (xE ?_))))))
 exact nqK (l3_2,l3_3,l3_4,l3_5,l3_6++[(⟨x4.Name,r13.2.2.2.1.Charger⟩:GBay)],j9,l3_8,mset me_mst x4.Name (⟨x4.N,j17⟩:GTh) l3_10) krf
def g_site_namesOf_l2 (a0s:GSite) (recl2:((List (List UInt8)) × Int)→Option (List (List UInt8))) (l2_1:List (List UInt8)) (l2_2:Int):Option (List (List UInt8)) :=
 cond (ltI l2_2 (lenI (List.map GCo.cs a0s.Conductors)))
  ((getI a0s.Conductors l2_2).bind fun x3 =>
  cond (roomB (List.length (l2_1++[x3.Name])) 16) (
   recl2 (l2_1++[x3.Name],wi (l2_2+1))) none)
  (some l2_1)
def g_site_namesOf_l5 (a0s:GSite) (recl5:((List (List UInt8)) × Int)→Option (List (List UInt8))) (l5_1:List (List UInt8)) (l5_2:Int):Option (List (List UInt8)) :=
 cond (ltI l5_2 (lenI (List.map GOwner.cs a0s.Owners)))
  ((getI a0s.Owners l5_2).bind fun x6 =>
  cond (roomB (List.length (l5_1++[x6.Name])) 16) (
   recl5 (l5_1++[x6.Name],wi (l5_2+1))) none)
  (some l5_1)
def g_site_namesOf_l8 (a0s:GSite) (recl8:((List (List UInt8)) × Int)→Option (List (List UInt8))) (l8_1:List (List UInt8)) (l8_2:Int):Option (List (List UInt8)) :=
 cond (ltI l8_2 (lenI (List.map GCt.cs a0s.Contracts)))
  ((getI a0s.Contracts l8_2).bind fun x9 =>
  cond (roomB (List.length (l8_1++[x9.Name])) 16) (
   recl8 (l8_1++[x9.Name],wi (l8_2+1))) none)
  (some l8_1)
def g_site_namesOf_l11 (a0s:GSite) (recl11:((List (List UInt8)) × Int)→Option (List (List UInt8))) (l11_1:List (List UInt8)) (l11_2:Int):Option (List (List UInt8)) :=
 cond (ltI l11_2 (lenI (List.map GCg.cs a0s.Chargers)))
  ((getI a0s.Chargers l11_2).bind fun x12 =>
  cond (roomB (List.length (l11_1++[x12.Name])) 16) (
   recl11 (l11_1++[x12.Name],wi (l11_2+1))) none)
  (some l11_1)
def g_site_namesOf_l13 (a0s:GSite) (recl13:((List (List UInt8)) × Int)→Option (List (List UInt8))) (l13_1:List (List UInt8)) (l13_2:Int):Option (List (List UInt8)) :=
 cond (ltI l13_2 (lenI (List.map GBay.cs a0s.Bays)))
  ((getI a0s.Bays l13_2).bind fun x14 =>
  cond (roomB (List.length (l13_1++[x14.Name])) 16) (
   recl13 (l13_1++[x14.Name],wi (l13_2+1))) none)
  (some l13_1)
def g_site_namesOf (n:Nat) (a0s:GSite):Option (List (List UInt8)) :=
 (loopN (fun recl2 (l2_1,l2_2)=>g_site_namesOf_l2 a0s recl2 l2_1 l2_2) n ([],0)).bind fun j1 =>
 (loopN (fun recl5 (l5_1,l5_2)=>g_site_namesOf_l5 a0s recl5 l5_1 l5_2) n (j1,0)).bind fun j4 =>
 (loopN (fun recl8 (l8_1,l8_2)=>g_site_namesOf_l8 a0s recl8 l8_1 l8_2) n (j4,0)).bind fun j7 =>
 (loopN (fun recl11 (l11_1,l11_2)=>g_site_namesOf_l11 a0s recl11 l11_1 l11_2) n (j7,0)).bind fun j10 =>
 loopN (fun recl13 (l13_1,l13_2)=>g_site_namesOf_l13 a0s recl13 l13_1 l13_2) n (j10,0)
def hq107:=fun x0=>([(1, .box 33 (bxc (GSite.cs x0)))]:List (Nat × Blk))
def tq97:=fun x0=>([(1, .ptr 1 0),(3, .tsl 1 (List.map cstr x0) 25)]:List (Nat × AV))
def hq108:=fun x0 x1=>([(1, .box 33 (bxc (GSite.cs x0))),(25, .arr 9 1 (List.map cstr x1).length)]:List (Nat × Blk))
def tq98:=fun x0=>([(1, .ptr 1 0),(3, .p (.val (.slice none 0 0))),(15, .p (.sl 11 (List.map GCo.cs (GSite.Conductors x0)))),(16,I (lenI (List.map GCo.cs (GSite.Conductors x0)))),(17,I 0)]:List (Nat × AV))
def tq99:=fun x0 x1 x2=>([(1, .ptr 1 0),(3, .tsl 1 (List.map cstr x0) 25),(15, .p (.sl 11 (List.map GCo.cs (GSite.Conductors x1)))),(16,I (lenI (List.map GCo.cs (GSite.Conductors x1)))),(17,I x2)]:List (Nat × AV))
def bq60:=fun x0=>(.arr 9 1 (List.map cstr x0).length:Blk)
def hq109:=fun x0 x1=>([(1, .box 33 (bxc (GSite.cs x0))),(25,(bq60 x1))]:List (Nat × Blk))
def tq100:=fun x0 x1 x2=>([(1, .ptr 1 0),(3, .tsl 1 (List.map cstr x0) 25),(28, .p (.sl 1 (List.map GOwner.cs (GSite.Owners x1)))),(29,I (lenI (List.map GOwner.cs (GSite.Owners x1)))),(30,I x2)]:List (Nat × AV))
def tq101:=fun x0 x1 x2=>([(1, .ptr 1 0),(3, .tsl 1 (List.map cstr x0) 25),(41, .p (.sl 4 (List.map GCt.cs (GSite.Contracts x1)))),(42,I (lenI (List.map GCt.cs (GSite.Contracts x1)))),(43,I x2)]:List (Nat × AV))
def tq102:=fun x0 x1 x2=>([(1, .ptr 1 0),(3, .tsl 1 (List.map cstr x0) 25),(54, .p (.sl 8 (List.map GCg.cs (GSite.Chargers x1)))),(55,I (lenI (List.map GCg.cs (GSite.Chargers x1)))),(56,I x2)]:List (Nat × AV))
def tq103:=fun x0 x1 x2=>([(3, .tsl 1 (List.map cstr x0) 25),(67, .p (.sl 2 (List.map GBay.cs (GSite.Bays x1)))),(68,I (lenI (List.map GBay.cs (GSite.Bays x1)))),(69,I x2)]:List (Nat × AV))
def hq110:=fun x0=>([(25, .arr 9 1 (List.map cstr x0).length)]:List (Nat × Blk))
abbrev bGSite33 (x:GSite):Go.Abs.Blk:=.box 33 (bxc (GSite.cs x))
abbrev bGCo49 (x:GCo):Go.Abs.Blk:=.box 49 (bxc (GCo.cs x))
abbrev bGBay58 (x:GBay):Go.Abs.Blk:=.box 58 (bxc (GBay.cs x))
theorem g_site_namesOf_ok (n:Nat) (a0s:GSite):∀ r,g_site_namesOf n a0s=some r→PCall Tryz.prog 31 [ag (GSite.cs a0s)] (.ret (.p (.sl 1 (List.map cstr r)))):=by
 refine pcall_sim (X:=fun r:List (List UInt8)=>AEnd.ret (.p (.sl 1 (List.map cstr r)))) Tryz.func31 rfl Tryz.ntmps31 rfl ?_
 unfold g_site_namesOf
 refine sRK tfm ⟨[qq 1],hq107 a0s⟩ krf (sRK tfm ⟨tq33,hq107 a0s⟩ krf (sBi (fun j1=>⟨tq97 j1,hq108 a0s j1⟩:(List (List UInt8))→St) ?_ ?_))
 ·refine sRK tfm ⟨tq98 a0s,hq107 a0s⟩ krf (sB (sPK ⟨tq98 a0s,hq107 a0s⟩ krf (sim_weak (weak_pn 9 1 25 [3] [] krf) (sim_loop (fun (l2_1,l2_2)=>⟨tq99 l2_1 a0s l2_2,hq108 a0s l2_1⟩:((List (List UInt8)) × Int)→St) (wsK krf) ?_))))
  rintro recl2 ⟨l2_1,l2_2⟩
  show SimE (g_site_namesOf_l2 a0s recl2 l2_1 l2_2) _ _ _ _ _ _
  unfold g_site_namesOf_l2
  refine sRK tfm ⟨[qq 1,(3, .tsl 1 (List.map cstr l2_1) 25),(15, .p (.sl 11 (mCo a0s.Conductors))),(16,I (lenI (mCo a0s.Conductors))),(17,I l2_2),(18,B (ltI l2_2 (lenI (mCo a0s.Conductors))))],hq108 a0s l2_1⟩ krf (sS (sC (ltI l2_2 (lenI (mCo a0s.Conductors))) krf ?_ ?_))
  rotate_left
  ·refine sim_exit (sq_x (kq_x (bq_hit ?_)))
   exact nqK l2_1 krf
  refine sK (sNK ⟨tq99 l2_1 a0s l2_2,hq108 a0s l2_1⟩ krf (sS (sB (sS (sG ?_)))))
  refine xG krf krf (aop_idx (e:=49) (S:=11) (enc:=GCo.cs) (l:=a0s.Conductors) (k:=.i64) (n:=l2_2) (sv:=.p (.sl 11 (mCo a0s.Conductors))) rfl krf krf krf krf krf) (fun x3=>?_)
  refine xR 3 krf (xE (sNK ⟨[qq 1,(3, .tsl 1 (List.map cstr l2_1) 25),qq 5,(15, .p (.sl 11 (mCo a0s.Conductors))),(16,I (lenI (mCo a0s.Conductors))),(17,I l2_2)],[(1,bGSite33 a0s),(5,bGCo49 x3),(25, .arr 9 1 (List.map cstr l2_1).length)]⟩ krf (sG (xR 4 krf (xF krf krf (aop_app (e:=9) (S:=1) (by_:=16) (enc:=cstr) (tk:=25) (l:=l2_1) (l2:=[x3.Name]) (xv:=.tsl 1 (List.map cstr [x3.Name]) 24) rfl krf krf rfl krf krf krf rfl krf) (xR 1 krf (xE ?_)))))))
  refine bq_n (sNK ⟨tq99 (l2_1++[x3.Name]) a0s l2_2,hq109 a0s (l2_1++[x3.Name])⟩ krf (sL tfm krf ?_))
  exact kqK (l2_1++[x3.Name],wi (l2_2+1)) krf
 rintro j1
 refine sBi (fun j4=>⟨tq97 j4,hq108 a0s j4⟩:(List (List UInt8))→St) ?_ ?_
 ·refine sRK tfm ⟨tq100 j1 a0s 0,hq108 a0s j1⟩ krf (sB (sim_loop (fun (l5_1,l5_2)=>⟨tq100 l5_1 a0s l5_2,hq108 a0s l5_1⟩:((List (List UInt8)) × Int)→St) (wsK krf) ?_))
  rintro recl5 ⟨l5_1,l5_2⟩
  show SimE (g_site_namesOf_l5 a0s recl5 l5_1 l5_2) _ _ _ _ _ _
  unfold g_site_namesOf_l5
  refine sRK tfm ⟨[qq 1,(3, .tsl 1 (List.map cstr l5_1) 25),(28, .p (.sl 1 (mOwner a0s.Owners))),(29,I (lenI (mOwner a0s.Owners))),(30,I l5_2),(31,B (ltI l5_2 (lenI (mOwner a0s.Owners))))],hq108 a0s l5_1⟩ krf (sS (sC (ltI l5_2 (lenI (mOwner a0s.Owners))) krf ?_ ?_))
  rotate_left
  ·refine sim_exit (sq_x (kq_x (bq_hit ?_)))
   exact nqK l5_1 krf
  refine sK (sNK ⟨tq100 l5_1 a0s l5_2,hq108 a0s l5_1⟩ krf (sS (sB (sS (sG ?_)))))
  refine xG krf krf (aop_idx (e:=52) (S:=1) (enc:=GOwner.cs) (l:=a0s.Owners) (k:=.i64) (n:=l5_2) (sv:=.p (.sl 1 (mOwner a0s.Owners))) rfl krf krf krf krf krf) (fun x6=>?_)
  refine xR 3 krf (xE (sNK ⟨[qq 1,(3, .tsl 1 (List.map cstr l5_1) 25),qq 7,(28, .p (.sl 1 (mOwner a0s.Owners))),(29,I (lenI (mOwner a0s.Owners))),(30,I l5_2)],[(1,bGSite33 a0s),(7, .box 52 [S x6.Name]),(25, .arr 9 1 (List.map cstr l5_1).length)]⟩ krf (sG (xR 4 krf (xF krf krf (aop_app (e:=9) (S:=1) (by_:=16) (enc:=cstr) (tk:=25) (l:=l5_1) (l2:=[x6.Name]) (xv:=.tsl 1 (List.map cstr [x6.Name]) 37) rfl krf krf rfl krf krf krf rfl krf) (xR 1 krf (xE ?_)))))))
  refine bq_n (sNK ⟨tq100 (l5_1++[x6.Name]) a0s l5_2,hq109 a0s (l5_1++[x6.Name])⟩ krf (sL tfm krf ?_))
  exact kqK (l5_1++[x6.Name],wi (l5_2+1)) krf
 rintro j4
 refine sBi (fun j7=>⟨tq97 j7,hq108 a0s j7⟩:(List (List UInt8))→St) ?_ ?_
 ·refine sRK tfm ⟨tq101 j4 a0s 0,hq108 a0s j4⟩ krf (sB (sim_loop (fun (l8_1,l8_2)=>⟨tq101 l8_1 a0s l8_2,hq108 a0s l8_1⟩:((List (List UInt8)) × Int)→St) (wsK krf) ?_))
  rintro recl8 ⟨l8_1,l8_2⟩
  show SimE (g_site_namesOf_l8 a0s recl8 l8_1 l8_2) _ _ _ _ _ _
  unfold g_site_namesOf_l8
  refine sRK tfm ⟨[qq 1,(3, .tsl 1 (List.map cstr l8_1) 25),(41, .p (.sl 4 (mCt a0s.Contracts))),(42,I (lenI (mCt a0s.Contracts))),(43,I l8_2),(44,B (ltI l8_2 (lenI (mCt a0s.Contracts))))],hq108 a0s l8_1⟩ krf (sS (sC (ltI l8_2 (lenI (mCt a0s.Contracts))) krf ?_ ?_))
  rotate_left
  ·refine sim_exit (sq_x (kq_x (bq_hit ?_)))
   exact nqK l8_1 krf
  refine sK (sNK ⟨tq101 l8_1 a0s l8_2,hq108 a0s l8_1⟩ krf (sS (sB (sS (sG ?_)))))
  refine xG krf krf (aop_idx (e:=54) (S:=4) (enc:=GCt.cs) (l:=a0s.Contracts) (k:=.i64) (n:=l8_2) (sv:=.p (.sl 4 (mCt a0s.Contracts))) rfl krf krf krf krf krf) (fun x9=>?_)
  refine xR 3 krf (xE (sNK ⟨[qq 1,(3, .tsl 1 (List.map cstr l8_1) 25),qq 9,(41, .p (.sl 4 (mCt a0s.Contracts))),(42,I (lenI (mCt a0s.Contracts))),(43,I l8_2)],[(1,bGSite33 a0s),(9,bGCt54 x9),(25, .arr 9 1 (List.map cstr l8_1).length)]⟩ krf (sG (xR 4 krf (xF krf krf (aop_app (e:=9) (S:=1) (by_:=16) (enc:=cstr) (tk:=25) (l:=l8_1) (l2:=[x9.Name]) (xv:=.tsl 1 (List.map cstr [x9.Name]) 50) rfl krf krf rfl krf krf krf rfl krf) (xR 1 krf (xE ?_)))))))
  refine bq_n (sNK ⟨tq101 (l8_1++[x9.Name]) a0s l8_2,hq109 a0s (l8_1++[x9.Name])⟩ krf (sL tfm krf ?_))
  exact kqK (l8_1++[x9.Name],wi (l8_2+1)) krf
 rintro j7
 refine sBi (fun j10=>⟨tq97 j10,hq108 a0s j10⟩:(List (List UInt8))→St) ?_ ?_
 ·refine sRK tfm ⟨tq102 j7 a0s 0,hq108 a0s j7⟩ krf (sB (sim_loop (fun (l11_1,l11_2)=>⟨tq102 l11_1 a0s l11_2,hq108 a0s l11_1⟩:((List (List UInt8)) × Int)→St) (wsK krf) ?_))
  rintro recl11 ⟨l11_1,l11_2⟩
  show SimE (g_site_namesOf_l11 a0s recl11 l11_1 l11_2) _ _ _ _ _ _
  unfold g_site_namesOf_l11
  refine sRK tfm ⟨[qq 1,(3, .tsl 1 (List.map cstr l11_1) 25),(54, .p (.sl 8 (mCg a0s.Chargers))),(55,I (lenI (mCg a0s.Chargers))),(56,I l11_2),(57,B (ltI l11_2 (lenI (mCg a0s.Chargers))))],hq108 a0s l11_1⟩ krf (sS (sC (ltI l11_2 (lenI (mCg a0s.Chargers))) krf ?_ ?_))
  rotate_left
  ·refine sim_exit (sq_x (kq_x (bq_hit ?_)))
   exact nqK l11_1 krf
  refine sK (sNK ⟨tq102 l11_1 a0s l11_2,hq108 a0s l11_1⟩ krf (sS (sB (sS (sG ?_)))))
  refine xG krf krf (aop_idx (e:=56) (S:=8) (enc:=GCg.cs) (l:=a0s.Chargers) (k:=.i64) (n:=l11_2) (sv:=.p (.sl 8 (mCg a0s.Chargers))) rfl krf krf krf krf krf) (fun x12=>?_)
  refine xR 3 krf (xE (sNK ⟨[qq 1,(3, .tsl 1 (List.map cstr l11_1) 25),qq 11,(54, .p (.sl 8 (mCg a0s.Chargers))),(55,I (lenI (mCg a0s.Chargers))),(56,I l11_2)],[(1,bGSite33 a0s),(11,bGCg56 x12),(25, .arr 9 1 (List.map cstr l11_1).length)]⟩ krf (sG (xR 4 krf (xF krf krf (aop_app (e:=9) (S:=1) (by_:=16) (enc:=cstr) (tk:=25) (l:=l11_1) (l2:=[x12.Name]) (xv:=.tsl 1 (List.map cstr [x12.Name]) 63) rfl krf krf rfl krf krf krf rfl krf) (xR 1 krf (xE ?_)))))))
  refine bq_n (sNK ⟨tq102 (l11_1++[x12.Name]) a0s l11_2,hq109 a0s (l11_1++[x12.Name])⟩ krf (sL tfm krf ?_))
  exact kqK (l11_1++[x12.Name],wi (l11_2+1)) krf
 rintro j10
 refine sS (sRK tfm ⟨tq103 j10 a0s 0,hq110 j10⟩ krf (sB (sim_loop (fun (l13_1,l13_2)=>⟨tq103 l13_1 a0s l13_2,hq110 l13_1⟩:((List (List UInt8)) × Int)→St) (wsK krf) ?_)))
 rintro recl13 ⟨l13_1,l13_2⟩
 show SimE (g_site_namesOf_l13 a0s recl13 l13_1 l13_2) _ _ _ _ _ _
 unfold g_site_namesOf_l13
 refine sRK tfm ⟨[(3, .tsl 1 (List.map cstr l13_1) 25),(67, .p (.sl 2 (mBay a0s.Bays))),(68,I (lenI (mBay a0s.Bays))),(69,I l13_2),(70,B (ltI l13_2 (lenI (mBay a0s.Bays))))],hq110 l13_1⟩ krf (sS (sC (ltI l13_2 (lenI (mBay a0s.Bays))) krf ?_ ?_))
 rotate_left
 ·refine sim_exit (sq_x (kq_x (bq_hit (sNK ⟨[(3, .tsl 1 (List.map cstr l13_1) 25)],hq110 l13_1⟩ krf (sRK tfm ⟨[(2, .tsl 1 (List.map cstr l13_1) 25)],hq110 l13_1⟩ krf (sT ?_))))))
  exact qR (.sl 1) krf krf krf
 refine sK (sNK ⟨tq103 l13_1 a0s l13_2,hq110 l13_1⟩ krf (sS (sB (sS (sG ?_)))))
 refine xG krf krf (aop_idx (e:=58) (S:=2) (enc:=GBay.cs) (l:=a0s.Bays) (k:=.i64) (n:=l13_2) (sv:=.p (.sl 2 (mBay a0s.Bays))) rfl krf krf krf krf krf) (fun x14=>?_)
 refine xR 3 krf (xE (sNK ⟨[(3, .tsl 1 (List.map cstr l13_1) 25),qq 13,(67, .p (.sl 2 (mBay a0s.Bays))),(68,I (lenI (mBay a0s.Bays))),(69,I l13_2)],[(13,bGBay58 x14),(25, .arr 9 1 (List.map cstr l13_1).length)]⟩ krf (sG (xR 4 krf (xF krf krf (aop_app (e:=9) (S:=1) (by_:=16) (enc:=cstr) (tk:=25) (l:=l13_1) (l2:=[x14.Name]) (xv:=.tsl 1 (List.map cstr [x14.Name]) 76) rfl krf krf rfl krf krf krf rfl krf) (xR 1 krf (xE ?_)))))))
 refine bq_n (sNK ⟨tq103 (l13_1++[x14.Name]) a0s l13_2,[(25,(bq60 (l13_1++[x14.Name])))]⟩ krf (sL tfm krf ?_))
 exact kqK (l13_1++[x14.Name],wi (l13_2+1)) krf
def g_site_goodName (n:Nat) (a0text:List UInt8):Option Bool :=
 (g_p_Valid n (⟨1,[],0,0,[GN.cs (⟨2,a0text,3,0,[]⟩:GN)]⟩:GN)).bind fun r1 =>
 some r1
theorem g_site_goodName_ok (n:Nat) (a0text:List UInt8):∀ r,g_site_goodName n a0text=some r→PCall Tryz.prog 32 [S a0text] (.ret (B r)):=by
 refine pcall_sim (X:=fun r:Bool=>AEnd.ret (B r)) Tryz.func32 rfl Tryz.ntmps32 rfl ?_
 unfold g_site_goodName
 refine sRK tfm ⟨[(0,S a0text)],[]⟩ krf (sR tfm ⟨[3],[3],[],[(3,[.id, .id, .id, .id, .sl 5])]⟩ ⟨[qq 3],[(3,(bq9 ⟨2,a0text,3,0,[]⟩))]⟩ krf (sS (sG (xR 3 krf ?_))))
 refine xC [.agg [.id, .id, .id, .id, .sl 5]] krf (g_p_Valid_ok n (⟨1,[],0,0,[GN.cs (⟨2,a0text,3,0,[]⟩:GN)]⟩:GN)) krf krf kff (fun r1=>?_)
 refine xR 1 krf (xE (sNK ⟨[(2,B r1)],[]⟩ krf (sT ?_)))
 exact qR (.id) krf krf krf
def g_site_validConductor (n:Nat) (a0c:GCo) (a1index:Int):Option Bool :=
 (cond (eqI a1index 0)
  (cond (!eqI a0c.Up (-1))
   (some true)
   (cond (ltI 0 a1index)
    (cond (ltI a0c.Up 0)
     (some true)
     (some (leI a1index a0c.Up)))
    (some false)))
  (cond (ltI 0 a1index)
   (cond (ltI a0c.Up 0)
    (some true)
    (some (leI a1index a0c.Up)))
   (some false))).bind fun j1 =>
 cond j1
  (some false)
  (((g_site_span_holds n (⟨1,1000⟩:GSp) a0c.Limit).bind fun r9 =>
  cond (!r9)
   (some true)
   ((g_site_span_holds n (⟨1,1000⟩:GSp) a0c.Neutral).bind fun r11 =>
   some (!r11))).bind fun j8 =>
  cond j8
   (some false)
   ((cond (!opq ((eqI a0c.Fuse.Rated 0)&&((eqI a0c.Fuse.Heat 0)&&true)))
    ((g_site_span_holds n (⟨1,1000⟩:GSp) a0c.Fuse.Rated).bind fun r14 =>
    cond r14
     ((g_site_span_holds n (⟨0,1000000⟩:GSp) a0c.Fuse.Heat).bind fun r16 =>
     some (!r16))
     (some true))
    (some false)).bind fun j12 =>
   cond j12
    (some false)
    (cond (opq ((eqI a0c.Cable.Ambient 0)&&((eqI a0c.Cable.Most 0)&&((eqI a0c.Cable.Gain 0)&&((eqI a0c.Cable.Loss 0)&&((eqI a0c.Cable.Den 0)&&true))))))
     (some true)
     (((g_site_span_holds n (⟨0,200000⟩:GSp) a0c.Cable.Ambient).bind fun r18 =>
     cond r18
      ((g_site_span_holds n (⟨0,200000⟩:GSp) a0c.Cable.Most).bind fun r20 =>
      cond r20
       ((g_site_span_holds n (⟨0,1000⟩:GSp) a0c.Cable.Gain).bind fun r22 =>
       cond r22
        ((g_site_span_holds n (⟨0,1000⟩:GSp) a0c.Cable.Loss).bind fun r24 =>
        cond r24
         ((g_site_span_holds n (⟨1,1000000⟩:GSp) a0c.Cable.Den).bind fun r26 =>
         cond r26
          ((g_site_goodCable n a0c.Cable).bind fun r28 =>
          some r28)
          (some false))
         (some false))
        (some false))
       (some false))
      (some false)).bind fun j17 =>
     some j17))))
def hq111:=fun x0=>([(2, .box 49 (bxc (GCo.cs x0)))]:List (Nat × Blk))
def hq112:=fun x0=>([(2, .box 49 (bxc (GCo.cs x0))),(5, .box 103 [I 1,I 1000])]:List (Nat × Blk))
def hq113:=fun x0=>([(7, .box 47 (bxc (GCable.cs (GCo.Cable x0))))]:List (Nat × Blk))
abbrev bGFuse45 (x:GFuse):Go.Abs.Blk:=.box 45 (bxc (GFuse.cs x))
theorem g_site_validConductor_ok (n:Nat) (a0c:GCo) (a1index:Int):∀ r,g_site_validConductor n a0c a1index=some r→PCall Tryz.prog 63 [ag (GCo.cs a0c),I a1index] (.ret (B r)):=by
 refine pcall_sim (X:=fun r:Bool=>AEnd.ret (B r)) Tryz.func63 rfl Tryz.ntmps63 rfl ?_
 unfold g_site_validConductor
 refine sRK tfm ⟨[(1,I a1index),qq 2],hq111 a0c⟩ krf (sS (sBi (fun j1=>⟨[qq 2,(31,B j1)],hq111 a0c⟩:Bool→St) ?_ ?_))
 ·refine sG (xR 3 krf ?_)
  refine xS (eqI a1index 0) (fun h2=>?_) (fun h2=>?_)
  rotate_left
  ·refine xN (want_tf krf h2) krf (xR 7 krf ?_)
   refine xS (ltI 0 a1index) (fun h6=>?_) (fun h6=>?_)
   ·refine xO (want_tt krf h6) krf (xR 3 krf ?_)
    refine xS (ltI a0c.Up 0) (fun h7=>?_) (fun h7=>?_)
    ·refine xN (want_ft krf h7) krf (xR 6 krf (xE ?_))
     exact nqK true krf
    refine xO (want_ff krf h7) krf (xR 6 krf (xE ?_))
    exact nqK (leI a1index a0c.Up) krf
   refine xN (want_tf krf h6) krf (xR 10 krf (xE ?_))
   exact nqK false krf
  refine xO (want_tt krf h2) krf (xR 4 krf ?_)
  refine xS (!eqI a0c.Up (-1)) (fun h3=>?_) (fun h3=>?_)
  ·refine xN (want_ft krf h3) krf (xR 13 krf (xE ?_))
   exact nqK true krf
  refine xO (want_ff krf h3) krf (xR 2 krf ?_)
  refine xS (ltI 0 a1index) (fun h4=>?_) (fun h4=>?_)
  ·refine xO (want_tt krf h4) krf (xR 3 krf ?_)
   refine xS (ltI a0c.Up 0) (fun h5=>?_) (fun h5=>?_)
   ·refine xN (want_ft krf h5) krf (xR 6 krf (xE ?_))
    exact nqK true krf
   refine xO (want_ff krf h5) krf (xR 6 krf (xE ?_))
   exact nqK (leI a1index a0c.Up) krf
  refine xN (want_tf krf h4) krf (xR 10 krf (xE ?_))
  exact nqK false krf
 rintro j1
 refine sC j1 krf ?_ ?_
 ·refine sRK tfm ⟨[(4,B false)],[]⟩ krf (sT (sq_r ?_))
  exact qR (.id) krf krf krf
 refine sK (sNK ⟨[qq 2],hq111 a0c⟩ krf (sRK tfm ⟨[qq 2,qq 5],hq112 a0c⟩ krf (sS (sBi (fun j8=>⟨[qq 2,qq 5,(44,B j8)],hq112 a0c⟩:Bool→St) ?_ ?_))))
 ·refine sG (xR 3 krf ?_)
  refine xC [] krf (g_site_span_holds_ok n (⟨1,1000⟩:GSp) a0c.Limit) krf krf kff (fun r9=>?_)
  refine xR 2 krf ?_
  refine xS (!r9) (fun h10=>?_) (fun h10=>?_)
  ·refine xN (want_ft krf h10) krf (xR 5 krf (xE ?_))
   exact nqK true krf
  refine xO (want_ff krf h10) krf (xR 2 krf ?_)
  refine xC [] krf (g_site_span_holds_ok n (⟨1,1000⟩:GSp) a0c.Neutral) krf krf kff (fun r11=>?_)
  refine xR 2 krf (xE ?_)
  exact nqK (!r11) krf
 rintro j8
 refine sC j8 krf ?_ ?_
 ·refine sRK tfm ⟨[(4,B false)],[]⟩ krf (sT (sq_r ?_))
  exact qR (.id) krf krf krf
 refine sK (sNK ⟨[qq 2,qq 5],hq112 a0c⟩ krf (sRK tfm ⟨[qq 5,qq 6,qq 7],[(5, .box 103 [I 1,I 1000]),(6,bGFuse45 a0c.Fuse),(7,bGCable47 a0c.Cable)]⟩ krf (sS (sBi (fun j12=>⟨[qq 7,(64,B j12)],hq113 a0c⟩:Bool→St) ?_ ?_))))
 ·refine sG (xR 2 krf (xs_u krf krf (aop_neq (xs:=[I a0c.Fuse.Rated,I a0c.Fuse.Heat]) (ys:=[I 0,I 0]) (vx:=[.int .i64 a0c.Fuse.Rated, .int .i64 a0c.Fuse.Heat]) (vy:=[.int .i64 0, .int .i64 0]) (b:=(eqI a0c.Fuse.Rated 0)&&((eqI a0c.Fuse.Heat 0)&&true)) rfl krf krf krf krf krf krf) (xR 1 krf ?_)))
  refine xS (!opq ((eqI a0c.Fuse.Rated 0)&&((eqI a0c.Fuse.Heat 0)&&true))) (fun h13=>?_) (fun h13=>?_)
  ·refine xO (want_tt krf h13) krf (xR 2 krf ?_)
   refine xC [] krf (g_site_span_holds_ok n (⟨1,1000⟩:GSp) a0c.Fuse.Rated) krf krf kff (fun r14=>?_)
   refine xR 1 krf ?_
   refine xS r14 (fun h15=>?_) (fun h15=>?_)
   ·refine xO (want_tt krf h15) krf (xR 2 krf ?_)
    refine xC [] krf (g_site_span_holds_ok n (⟨0,1000000⟩:GSp) a0c.Fuse.Heat) krf krf kff (fun r16=>?_)
    refine xR 3 krf (xE ?_)
    exact nqK (!r16) krf
   refine xN (want_tf krf h15) krf (xR 6 krf (xE ?_))
   exact nqK true krf
  refine xN (want_tf krf h13) krf (xR 11 krf (xE ?_))
  exact nqK false krf
 rintro j12
 refine sC j12 krf ?_ ?_
 ·refine sRK tfm ⟨[(4,B false)],[]⟩ krf (sT (sq_r ?_))
  exact qR (.id) krf krf krf
 refine sK (sNK ⟨[qq 7],hq113 a0c⟩ krf (sS (sS (sG (xR 2 krf (xs_u krf krf (aop_eql (xs:=[I a0c.Cable.Ambient,I a0c.Cable.Most,I a0c.Cable.Gain,I a0c.Cable.Loss,I a0c.Cable.Den]) (ys:=[I 0,I 0,I 0,I 0,I 0]) (vx:=[.int .i64 a0c.Cable.Ambient, .int .i64 a0c.Cable.Most, .int .i64 a0c.Cable.Gain, .int .i64 a0c.Cable.Loss, .int .i64 a0c.Cable.Den]) (vy:=[.int .i64 0, .int .i64 0, .int .i64 0, .int .i64 0, .int .i64 0]) (b:=(eqI a0c.Cable.Ambient 0)&&((eqI a0c.Cable.Most 0)&&((eqI a0c.Cable.Gain 0)&&((eqI a0c.Cable.Loss 0)&&((eqI a0c.Cable.Den 0)&&true))))) rfl krf krf krf krf krf krf) (xE ?_)))))))
 refine sNK ⟨[qq 7,(67,B (opq ((eqI a0c.Cable.Ambient 0)&&((eqI a0c.Cable.Most 0)&&((eqI a0c.Cable.Gain 0)&&((eqI a0c.Cable.Loss 0)&&((eqI a0c.Cable.Den 0)&&true)))))))],hq113 a0c⟩ krf (sC (opq ((eqI a0c.Cable.Ambient 0)&&((eqI a0c.Cable.Most 0)&&((eqI a0c.Cable.Gain 0)&&((eqI a0c.Cable.Loss 0)&&((eqI a0c.Cable.Den 0)&&true)))))) krf ?_ ?_)
 ·refine sRK tfm ⟨[(4,B true)],[]⟩ krf (sT (sq_r ?_))
  exact qR (.id) krf krf krf
 refine sK (sNK ⟨[qq 7],hq113 a0c⟩ krf (sRK tfm ⟨[qq 7,qq 8,qq 9],[(7,bGCable47 a0c.Cable),(8, .box 103 [I 0,I 200000]),(9, .box 103 [I 0,I 1000])]⟩ krf (sBi (fun j17=>⟨[(4,B j17)],[]⟩:Bool→St) ?_ ?_)))
 rotate_left
 ·rintro j17
  refine sT ?_
  exact qR (.id) krf krf krf
 refine sG (xR 3 krf ?_)
 refine xC [] krf (g_site_span_holds_ok n (⟨0,200000⟩:GSp) a0c.Cable.Ambient) krf krf kff (fun r18=>?_)
 refine xR 1 krf ?_
 refine xS r18 (fun h19=>?_) (fun h19=>?_)
 rotate_left
 ·refine xN (want_tf krf h19) krf (xR 27 krf (xE ?_))
  exact nqK false krf
 refine xO (want_tt krf h19) krf (xR 2 krf ?_)
 refine xC [] krf (g_site_span_holds_ok n (⟨0,200000⟩:GSp) a0c.Cable.Most) krf krf kff (fun r20=>?_)
 refine xR 2 krf ?_
 refine xS r20 (fun h21=>?_) (fun h21=>?_)
 rotate_left
 ·refine xN (want_tf krf h21) krf (xR 21 krf (xE ?_))
  exact nqK false krf
 refine xO (want_tt krf h21) krf (xR 2 krf ?_)
 refine xC [] krf (g_site_span_holds_ok n (⟨0,1000⟩:GSp) a0c.Cable.Gain) krf krf kff (fun r22=>?_)
 refine xR 2 krf ?_
 refine xS r22 (fun h23=>?_) (fun h23=>?_)
 rotate_left
 ·refine xN (want_tf krf h23) krf (xR 15 krf (xE ?_))
  exact nqK false krf
 refine xO (want_tt krf h23) krf (xR 2 krf ?_)
 refine xC [] krf (g_site_span_holds_ok n (⟨0,1000⟩:GSp) a0c.Cable.Loss) krf krf kff (fun r24=>?_)
 refine xR 2 krf ?_
 refine xS r24 (fun h25=>?_) (fun h25=>?_)
 ·refine xO (want_tt krf h25) krf (xR 2 krf ?_)
  refine xC [] krf (g_site_span_holds_ok n (⟨1,1000000⟩:GSp) a0c.Cable.Den) krf krf kff (fun r26=>?_)
  refine xR 2 krf ?_
  refine xS r26 (fun h27=>?_) (fun h27=>?_)
  ·refine xO (want_tt krf h27) krf ?_
   refine xC [] krf (g_site_goodCable_ok n a0c.Cable) krf krf kff (fun r28=>?_)
   refine xR 2 krf (xE ?_)
   exact nqK r28 krf
  refine xN (want_tf krf h27) krf (xR 3 krf (xE ?_))
  exact nqK false krf
 refine xN (want_tf krf h25) krf (xR 9 krf (xE ?_))
 exact nqK false krf
def g_site_validCharger (n:Nat) (a0s:GSite) (a1c:GCg):Option Bool :=
 ((g_site_span_holds n (⟨0,wi ((lenI (List.map GCo.cs a0s.Conductors)) - 1)⟩:GSp) a1c.At).bind fun r2 =>
 cond r2
  ((g_site_span_holds n (⟨0,wi ((lenI (List.map GOwner.cs a0s.Owners)) - 1)⟩:GSp) a1c.Owner).bind fun r4 =>
  cond r4
   ((g_site_span_holds n (⟨1,7⟩:GSp) a1c.Phases).bind fun r6 =>
   cond r6
    ((g_site_span_holds n (⟨1,80⟩:GSp) a1c.Min).bind fun r8 =>
    cond r8
     ((g_site_span_holds n (⟨1,80⟩:GSp) a1c.Max).bind fun r10 =>
     cond r10
      ((g_site_span_holds n (⟨1,80⟩:GSp) a1c.Step).bind fun r12 =>
      cond r12
       ((g_site_span_holds n (⟨0,80⟩:GSp) a1c.Fallback).bind fun r14 =>
       cond r14
        ((g_site_goodAmps n a1c).bind fun r16 =>
        some r16)
        (some false))
       (some false))
      (some false))
     (some false))
    (some false))
   (some false))
  (some false)).bind fun j1 =>
 some j1
theorem g_site_validCharger_ok (n:Nat) (a0s:GSite) (a1c:GCg):∀ r,g_site_validCharger n a0s a1c=some r→PCall Tryz.prog 65 [ag (GSite.cs a0s),ag (GCg.cs a1c)] (.ret (B r)):=by
 refine pcall_sim (X:=fun r:Bool=>AEnd.ret (B r)) Tryz.func65 rfl Tryz.ntmps65 rfl ?_
 unfold g_site_validCharger
 refine sRK tfm ⟨[qq 2,qq 3],[(2,bGSite33 a0s),(3,bGCg56 a1c)]⟩ krf (sRK tfm ⟨[qq 2,qq 3,qq 5],[(2,bGSite33 a0s),(3,bGCg56 a1c),(5, .box 103 [I 1,I 80])]⟩ krf (sBi (fun j1=>⟨[(4,B j1)],[]⟩:Bool→St) ?_ ?_))
 rotate_left
 ·rintro j1
  refine sT ?_
  exact qR (.id) krf krf krf
 refine sG (xR 7 krf ?_)
 refine xC [] krf (g_site_span_holds_ok n (⟨0,wi ((lenI (mCo a0s.Conductors)) - 1)⟩:GSp) a1c.At) krf krf kff (fun r2=>?_)
 refine xR 1 krf ?_
 refine xS r2 (fun h3=>?_) (fun h3=>?_)
 rotate_left
 ·refine xN (want_tf krf h3) krf (xR 43 krf (xE ?_))
  exact nqK false krf
 refine xO (want_tt krf h3) krf (xR 6 krf ?_)
 refine xC [] krf (g_site_span_holds_ok n (⟨0,wi ((lenI (mOwner a0s.Owners)) - 1)⟩:GSp) a1c.Owner) krf krf kff (fun r4=>?_)
 refine xR 2 krf ?_
 refine xS r4 (fun h5=>?_) (fun h5=>?_)
 rotate_left
 ·refine xN (want_tf krf h5) krf (xR 33 krf (xE ?_))
  exact nqK false krf
 refine xO (want_tt krf h5) krf (xR 2 krf ?_)
 refine xC [] krf (g_site_span_holds_ok n (⟨1,7⟩:GSp) a1c.Phases) krf krf kff (fun r6=>?_)
 refine xR 2 krf ?_
 refine xS r6 (fun h7=>?_) (fun h7=>?_)
 rotate_left
 ·refine xN (want_tf krf h7) krf (xR 27 krf (xE ?_))
  exact nqK false krf
 refine xO (want_tt krf h7) krf (xR 2 krf ?_)
 refine xC [] krf (g_site_span_holds_ok n (⟨1,80⟩:GSp) a1c.Min) krf krf kff (fun r8=>?_)
 refine xR 2 krf ?_
 refine xS r8 (fun h9=>?_) (fun h9=>?_)
 rotate_left
 ·refine xN (want_tf krf h9) krf (xR 21 krf (xE ?_))
  exact nqK false krf
 refine xO (want_tt krf h9) krf (xR 2 krf ?_)
 refine xC [] krf (g_site_span_holds_ok n (⟨1,80⟩:GSp) a1c.Max) krf krf kff (fun r10=>?_)
 refine xR 2 krf ?_
 refine xS r10 (fun h11=>?_) (fun h11=>?_)
 rotate_left
 ·refine xN (want_tf krf h11) krf (xR 15 krf (xE ?_))
  exact nqK false krf
 refine xO (want_tt krf h11) krf (xR 2 krf ?_)
 refine xC [] krf (g_site_span_holds_ok n (⟨1,80⟩:GSp) a1c.Step) krf krf kff (fun r12=>?_)
 refine xR 2 krf ?_
 refine xS r12 (fun h13=>?_) (fun h13=>?_)
 ·refine xO (want_tt krf h13) krf (xR 2 krf ?_)
  refine xC [] krf (g_site_span_holds_ok n (⟨0,80⟩:GSp) a1c.Fallback) krf krf kff (fun r14=>?_)
  refine xR 2 krf ?_
  refine xS r14 (fun h15=>?_) (fun h15=>?_)
  ·refine xO (want_tt krf h15) krf ?_
   refine xC [] krf (g_site_goodAmps_ok n a1c) krf krf kff (fun r16=>?_)
   refine xR 2 krf (xE ?_)
   exact nqK r16 krf
  refine xN (want_tf krf h15) krf (xR 3 krf (xE ?_))
  exact nqK false krf
 refine xN (want_tf krf h13) krf (xR 9 krf (xE ?_))
 exact nqK false krf
def g_site_validParts_l4 (n:Nat) (a0s:GSite) (recl4:Int→Option Bool) (l4:Int):Option Bool :=
 cond (ltI l4 (lenI (List.map GBay.cs a0s.Bays)))
  ((getI a0s.Bays l4).bind fun x5 =>
  (g_site_span_holds n (⟨0,wi ((lenI (List.map GCg.cs a0s.Chargers)) - 1)⟩:GSp) x5.Charger).bind fun r6 =>
  cond (!r6)
   (some false)
   (recl4 (wi (l4+1))))
  (some true)
def g_site_validParts_j3 (n:Nat) (a0s:GSite):Option Bool :=
 loopN (fun recl4 l4=>g_site_validParts_l4 n a0s recl4 l4) n 0
def g_site_validParts_l7 (n:Nat) (a0s:GSite) (recl7:Int→Option Bool) (l7:Int):Option Bool :=
 cond (ltI l7 (lenI (List.map GCg.cs a0s.Chargers)))
  ((getI a0s.Chargers l7).bind fun x8 =>
  (g_site_validCharger n a0s x8).bind fun r9 =>
  cond (!r9)
   (some false)
   (recl7 (wi (l7+1))))
  (g_site_validParts_j3 n a0s)
def g_site_validParts_j2 (n:Nat) (a0s:GSite):Option Bool :=
 loopN (fun recl7 l7=>g_site_validParts_l7 n a0s recl7 l7) n 0
def g_site_validParts_l10 (n:Nat) (a0s:GSite) (recl10:(Int × (List (Int × Bool)))→Option Bool) (l10_1:Int) (l10_2:List (Int × Bool)):Option Bool :=
 cond (ltI l10_1 (lenI (List.map GCt.cs a0s.Contracts)))
  ((getI a0s.Contracts l10_1).bind fun x11 =>
  ((g_site_span_holds n (⟨0,wi ((lenI (List.map GOwner.cs a0s.Owners)) - 1)⟩:GSp) x11.Owner).bind fun r13 =>
  cond (!r13)
   (some true)
   ((g_site_span_holds n (⟨1,9⟩:GSp) x11.Rank).bind fun r15 =>
   cond (!r15)
    (some true)
    ((g_site_span_holds n (⟨1,1000000⟩:GSp) x11.Card).bind fun r17 =>
    cond (!r17)
     (some true)
     (some (mgetD me_map_int_bool x11.Card false l10_2))))).bind fun j12 =>
  cond j12
   (some false)
   (recl10 (wi (l10_1+1),mset me_map_int_bool x11.Card true l10_2)))
  (g_site_validParts_j2 n a0s)
def g_site_validParts_j1 (n:Nat) (a0s:GSite):Option Bool :=
 loopN (fun recl10 (l10_1,l10_2)=>g_site_validParts_l10 n a0s recl10 l10_1 l10_2) n (0,[])
def g_site_validParts_l19 (n:Nat) (a0s:GSite) (recl19:Int→Option Bool) (l19:Int):Option Bool :=
 cond (ltI l19 (lenI (List.map GCo.cs a0s.Conductors)))
  ((getI a0s.Conductors l19).bind fun x20 =>
  (g_site_validConductor n x20 l19).bind fun r21 =>
  cond (!r21)
   (some false)
   (recl19 (wi (l19+1))))
  (g_site_validParts_j1 n a0s)
def g_site_validParts (n:Nat) (a0s:GSite):Option Bool :=
 loopN (fun recl19 l19=>g_site_validParts_l19 n a0s recl19 l19) n 0
def tq108:=fun x0 x1=>([(1, .ptr 1 0),(13, .p (.sl 11 (List.map GCo.cs (GSite.Conductors x0)))),(14,I (lenI (List.map GCo.cs (GSite.Conductors x0)))),(15,I x1)]:List (Nat × AV))
def hq114:=fun x0 x1=>([(1, .box 33 (bxc (GSite.cs x0))),(25, .mp (mpL mk_map_int_bool mv_map_int_bool x1))]:List (Nat × Blk))
def tq106:=fun x0 x1=>([(1, .ptr 1 0),(5, .mv 25),(27, .p (.sl 4 (List.map GCt.cs (GSite.Contracts x0)))),(28,I (lenI (List.map GCt.cs (GSite.Contracts x0)))),(29,I x1)]:List (Nat × AV))
def tq107:=fun x0 x1=>([(1, .ptr 1 0),(5, .mv 25),(7, .ptr 7 0),(27, .p (.sl 4 (List.map GCt.cs (GSite.Contracts x0)))),(28,I (lenI (List.map GCt.cs (GSite.Contracts x0)))),(29,I x1)]:List (Nat × AV))
def hq115:=fun x0 x1 x2=>([(1, .box 33 (bxc (GSite.cs x0))),(7, .box 54 (bxc (GCt.cs x1))),(25, .mp (mpL mk_map_int_bool mv_map_int_bool x2))]:List (Nat × Blk))
def tq105:=fun x0 x1=>([(1, .ptr 1 0),(67, .p (.sl 8 (List.map GCg.cs (GSite.Chargers x0)))),(68,I (lenI (List.map GCg.cs (GSite.Chargers x0)))),(69,I x1)]:List (Nat × AV))
def tq104:=fun x0 x1=>([(1, .ptr 1 0),(79, .p (.sl 2 (List.map GBay.cs (GSite.Bays x0)))),(80,I (lenI (List.map GBay.cs (GSite.Bays x0)))),(81,I x1)]:List (Nat × AV))
theorem g_site_validParts_ok (n:Nat) (a0s:GSite):∀ r,g_site_validParts n a0s=some r→PCall Tryz.prog 33 [ag (GSite.cs a0s)] (.ret (B r)):=by
 refine pcall_sim (X:=fun r:Bool=>AEnd.ret (B r)) Tryz.func33 rfl Tryz.ntmps33 rfl ?_
 unfold g_site_validParts
 refine sRK tfm ⟨[qq 1],hq107 a0s⟩ krf (sim_cps (fun _=>⟨[qq 1],hq107 a0s⟩:Unit→St) (fun _=>g_site_validParts_j1 n a0s) ?_ ?_)
 rotate_left
 ·refine sRK tfm ⟨tq108 a0s 0,hq107 a0s⟩ krf (sB (sim_loop (fun l19=>⟨tq108 a0s l19,hq107 a0s⟩:Int→St) (wsK krf) ?_))
  rintro recl19 l19
  show SimE (g_site_validParts_l19 n a0s recl19 l19) _ _ _ _ _ _
  unfold g_site_validParts_l19
  refine sRK tfm ⟨[qq 1,(13, .p (.sl 11 (mCo a0s.Conductors))),(14,I (lenI (mCo a0s.Conductors))),(15,I l19),(16,B (ltI l19 (lenI (mCo a0s.Conductors))))],hq107 a0s⟩ krf (sS (sC (ltI l19 (lenI (mCo a0s.Conductors))) krf ?_ ?_))
  rotate_left
  ·refine sim_exit (sq_x (kq_x (bq_hit ?_)))
   exact kqK (k:=fun _=>g_site_validParts_j1 n a0s) () krf
  refine sK (sNK ⟨tq108 a0s l19,hq107 a0s⟩ krf (sS (sB (sS (sG (xR 1 krf ?_))))))
  refine xG krf krf (aop_idx (e:=49) (S:=11) (enc:=GCo.cs) (l:=a0s.Conductors) (k:=.i64) (n:=l19) (sv:=.p (.sl 11 (mCo a0s.Conductors))) rfl krf krf krf krf krf) (fun x20=>?_)
  refine xR 4 krf (xE (sNK ⟨[qq 1,(3,I l19),qq 4,(13, .p (.sl 11 (mCo a0s.Conductors))),(14,I (lenI (mCo a0s.Conductors))),(15,I l19)],[(1,bGSite33 a0s),(4,bGCo49 x20)]⟩ krf (sS (sG (xR 2 krf ?_)))))
  refine xC [] krf (g_site_validConductor_ok n x20 l19) krf krf kff (fun r21=>?_)
  refine xR 1 krf (xE (sNK ⟨[qq 1,(13, .p (.sl 11 (mCo a0s.Conductors))),(14,I (lenI (mCo a0s.Conductors))),(15,I l19),(23,B (!r21))],hq107 a0s⟩ krf (sC (!r21) krf ?_ ?_)))
  ·refine sRK tfm ⟨[(2,B false)],[]⟩ krf (sT (bq_r (sq_r (kq_r (bq_r (kq_r ?_))))))
   exact qR (.id) krf krf krf
  refine sK (bq_n (sNK ⟨tq108 a0s l19,hq107 a0s⟩ krf (sL tfm krf ?_)))
  exact kqK (wi (l19+1)) krf
 rintro _
 show SimE (g_site_validParts_j1 n a0s) _ _ _ _ _ _
 unfold g_site_validParts_j1
 refine sS (sG (xs_u krf krf (aop_mk (d:=25) (rsv:=none) rfl rfl krf) (xR 1 krf (xE (sNK ⟨[qq 1,(5, .mv 25)],hq114 a0s []⟩ krf (sim_cps (fun _=>⟨[qq 1],hq107 a0s⟩:Unit→St) (fun _=>g_site_validParts_j2 n a0s) ?_ ?_))))))
 rotate_left
 ·refine sRK tfm ⟨tq106 a0s 0,hq114 a0s []⟩ krf (sB (sim_loop (fun (l10_1,l10_2)=>⟨tq106 a0s l10_1,hq114 a0s l10_2⟩:(Int × (List (Int × Bool)))→St) (wsK krf) ?_))
  rintro recl10 ⟨l10_1,l10_2⟩
  show SimE (g_site_validParts_l10 n a0s recl10 l10_1 l10_2) _ _ _ _ _ _
  unfold g_site_validParts_l10
  refine sRK tfm ⟨[qq 1,(5, .mv 25),(27, .p (.sl 4 (mCt a0s.Contracts))),(28,I (lenI (mCt a0s.Contracts))),(29,I l10_1),(30,B (ltI l10_1 (lenI (mCt a0s.Contracts))))],hq114 a0s l10_2⟩ krf (sS (sC (ltI l10_1 (lenI (mCt a0s.Contracts))) krf ?_ ?_))
  rotate_left
  ·refine sim_exit (sq_x (kq_x (bq_hit ?_)))
   exact kqK (k:=fun _=>g_site_validParts_j2 n a0s) () krf
  refine sK (sNK ⟨tq106 a0s l10_1,hq114 a0s l10_2⟩ krf (sS (sB (sS (sG ?_)))))
  refine xG krf krf (aop_idx (e:=54) (S:=4) (enc:=GCt.cs) (l:=a0s.Contracts) (k:=.i64) (n:=l10_1) (sv:=.p (.sl 4 (mCt a0s.Contracts))) rfl krf krf krf krf krf) (fun x11=>?_)
  refine xR 3 krf (xE (sNK ⟨tq107 a0s l10_1,hq115 a0s x11 l10_2⟩ krf (sS (sBi (fun j12=>⟨[qq 1,(5, .mv 25),qq 7,(27, .p (.sl 4 (mCt a0s.Contracts))),(28,I (lenI (mCt a0s.Contracts))),(29,I l10_1),(61,B j12)],hq115 a0s x11 l10_2⟩:Bool→St) ?_ ?_))))
  rotate_left
  ·rintro j12
   refine sC j12 krf ?_ ?_
   ·refine sRK tfm ⟨[(2,B false)],[]⟩ krf (sT (sq_r (bq_r (sq_r (kq_r (bq_r (kq_r ?_)))))))
    exact qR (.id) krf krf krf
   refine sK (sNK ⟨tq107 a0s l10_1,hq115 a0s x11 l10_2⟩ krf (sG (xR 3 krf ?_)))
   refine xs_u krf krf (aop_mset (kt:=3) (e:=4) (ke:=mk_map_int_bool) (ve:=mv_map_int_bool) (eq:=me_map_int_bool) (b:=25) (m:=l10_2) (k:=x11.Card) (v:=true) rfl krf krf krf krf krf krf kff (fun _ _=>(eqV2_eq _ _ _ _ _).symm.trans krf)) ?_
   refine xE (bq_n (sNK ⟨tq106 a0s l10_1,hq114 a0s (mset me_map_int_bool x11.Card true l10_2)⟩ krf (sL tfm krf ?_)))
   exact kqK (wi (l10_1+1),mset me_map_int_bool x11.Card true l10_2) krf
  refine sG (xR 7 krf ?_)
  refine xC [] krf (g_site_span_holds_ok n (⟨0,wi ((lenI (mOwner a0s.Owners)) - 1)⟩:GSp) x11.Owner) krf krf kff (fun r13=>?_)
  refine xR 2 krf ?_
  refine xS (!r13) (fun h14=>?_) (fun h14=>?_)
  ·refine xN (want_ft krf h14) krf (xR 18 krf (xE ?_))
   exact nqK true krf
  refine xO (want_ff krf h14) krf (xR 2 krf ?_)
  refine xC [] krf (g_site_span_holds_ok n (⟨1,9⟩:GSp) x11.Rank) krf krf kff (fun r15=>?_)
  refine xR 3 krf ?_
  refine xS (!r15) (fun h16=>?_) (fun h16=>?_)
  ·refine xN (want_ft krf h16) krf (xR 11 krf (xE ?_))
   exact nqK true krf
  refine xO (want_ff krf h16) krf (xR 2 krf ?_)
  refine xC [] krf (g_site_span_holds_ok n (⟨1,1000000⟩:GSp) x11.Card) krf krf kff (fun r17=>?_)
  refine xR 3 krf ?_
  refine xS (!r17) (fun h18=>?_) (fun h18=>?_)
  ·refine xN (want_ft krf h18) krf (xR 4 krf (xE ?_))
   exact nqK true krf
  refine xO (want_ff krf h18) krf (xR 2 krf ?_)
  refine xs_u krf krf (aop_look (kt:=3) (e:=4) (ke:=mk_map_int_bool) (ve:=mv_map_int_bool) (eq:=me_map_int_bool) (b:=25) (m:=l10_2) (k:=x11.Card) (z0:=false) rfl krf krf krf krf krf kff (fun _ _=>(eqV2_eq _ _ _ _ _).symm.trans krf) krf) ?_
  refine xR 1 krf (xE ?_)
  exact nqK (mgetD me_map_int_bool x11.Card false l10_2) krf
 rintro _
 show SimE (g_site_validParts_j2 n a0s) _ _ _ _ _ _
 unfold g_site_validParts_j2
 refine sim_cps (fun _=>⟨[qq 1],hq107 a0s⟩:Unit→St) (fun _=>g_site_validParts_j3 n a0s) ?_ ?_
 rotate_left
 ·refine sRK tfm ⟨tq105 a0s 0,hq107 a0s⟩ krf (sB (sim_loop (fun l7=>⟨tq105 a0s l7,hq107 a0s⟩:Int→St) (wsK krf) ?_))
  rintro recl7 l7
  show SimE (g_site_validParts_l7 n a0s recl7 l7) _ _ _ _ _ _
  unfold g_site_validParts_l7
  refine sRK tfm ⟨[qq 1,(67, .p (.sl 8 (mCg a0s.Chargers))),(68,I (lenI (mCg a0s.Chargers))),(69,I l7),(70,B (ltI l7 (lenI (mCg a0s.Chargers))))],hq107 a0s⟩ krf (sS (sC (ltI l7 (lenI (mCg a0s.Chargers))) krf ?_ ?_))
  rotate_left
  ·refine sim_exit (sq_x (kq_x (bq_hit ?_)))
   exact kqK (k:=fun _=>g_site_validParts_j3 n a0s) () krf
  refine sK (sNK ⟨tq105 a0s l7,hq107 a0s⟩ krf (sS (sB (sS (sG ?_)))))
  refine xG krf krf (aop_idx (e:=56) (S:=8) (enc:=GCg.cs) (l:=a0s.Chargers) (k:=.i64) (n:=l7) (sv:=.p (.sl 8 (mCg a0s.Chargers))) rfl krf krf krf krf krf) (fun x8=>?_)
  refine xR 3 krf (xE (sNK ⟨[qq 1,qq 9,(67, .p (.sl 8 (mCg a0s.Chargers))),(68,I (lenI (mCg a0s.Chargers))),(69,I l7)],[(1,bGSite33 a0s),(9,bGCg56 x8)]⟩ krf (sS (sG (xR 2 krf ?_)))))
  refine xC [] krf (g_site_validCharger_ok n a0s x8) krf krf kff (fun r9=>?_)
  refine xR 1 krf (xE (sNK ⟨[qq 1,(67, .p (.sl 8 (mCg a0s.Chargers))),(68,I (lenI (mCg a0s.Chargers))),(69,I l7),(76,B (!r9))],hq107 a0s⟩ krf (sC (!r9) krf ?_ ?_)))
  ·refine sRK tfm ⟨[(2,B false)],[]⟩ krf (sT (bq_r (sq_r (kq_r (bq_r (kq_r ?_))))))
   exact qR (.id) krf krf krf
  refine sK (bq_n (sNK ⟨tq105 a0s l7,hq107 a0s⟩ krf (sL tfm krf ?_)))
  exact kqK (wi (l7+1)) krf
 rintro _
 show SimE (g_site_validParts_j3 n a0s) _ _ _ _ _ _
 unfold g_site_validParts_j3
 refine sS (sRK tfm ⟨tq104 a0s 0,hq107 a0s⟩ krf (sB (sim_loop (fun l4=>⟨tq104 a0s l4,hq107 a0s⟩:Int→St) (wsK krf) ?_)))
 rintro recl4 l4
 show SimE (g_site_validParts_l4 n a0s recl4 l4) _ _ _ _ _ _
 unfold g_site_validParts_l4
 refine sRK tfm ⟨[qq 1,(79, .p (.sl 2 (mBay a0s.Bays))),(80,I (lenI (mBay a0s.Bays))),(81,I l4),(82,B (ltI l4 (lenI (mBay a0s.Bays))))],hq107 a0s⟩ krf (sS (sC (ltI l4 (lenI (mBay a0s.Bays))) krf ?_ ?_))
 rotate_left
 ·refine sim_exit (sq_x (kq_x (bq_hit (sNK ⟨[],[]⟩ krf (sRK tfm ⟨[(2,B true)],[]⟩ krf (sT ?_))))))
  exact qR (.id) krf krf krf
 refine sK (sNK ⟨tq104 a0s l4,hq107 a0s⟩ krf (sS (sB (sS (sG ?_)))))
 refine xG krf krf (aop_idx (e:=58) (S:=2) (enc:=GBay.cs) (l:=a0s.Bays) (k:=.i64) (n:=l4) (sv:=.p (.sl 2 (mBay a0s.Bays))) rfl krf krf krf krf krf) (fun x5=>?_)
 refine xR 3 krf (xE (sNK ⟨[qq 1,qq 11,(79, .p (.sl 2 (mBay a0s.Bays))),(80,I (lenI (mBay a0s.Bays))),(81,I l4)],[(1,bGSite33 a0s),(11,bGBay58 x5)]⟩ krf (sS (sG (xR 7 krf ?_)))))
 refine xC [] krf (g_site_span_holds_ok n (⟨0,wi ((lenI (mCg a0s.Chargers)) - 1)⟩:GSp) x5.Charger) krf krf kff (fun r6=>?_)
 refine xR 1 krf (xE (sNK ⟨[qq 1,(79, .p (.sl 2 (mBay a0s.Bays))),(80,I (lenI (mBay a0s.Bays))),(81,I l4),(93,B (!r6))],hq107 a0s⟩ krf (sC (!r6) krf ?_ ?_)))
 ·refine sRK tfm ⟨[(2,B false)],[]⟩ krf (sT (bq_r (sq_r (kq_r (bq_r (sq_r ?_))))))
  exact qR (.id) krf krf krf
 refine sK (bq_n (sNK ⟨tq104 a0s l4,hq107 a0s⟩ krf (sL tfm krf ?_)))
 exact kqK (wi (l4+1)) krf
def g_site_Valid_j7 (n:Nat) (a0s:GSite):Option Bool :=
 (g_site_validParts n a0s).bind fun r8 =>
 some r8
def g_site_Valid_l10 (n:Nat) (a0s:GSite) (r9:List (List UInt8)) (recl10:(Int × (List ((List UInt8) × Bool)))→Option Bool) (l10_1:Int) (l10_2:List ((List UInt8) × Bool)):Option Bool :=
 cond (ltI l10_1 (lenI (List.map cstr r9)))
  ((getI r9 l10_1).bind fun x11 =>
  ((g_site_goodName n x11).bind fun r13 =>
  cond (!r13)
   (some true)
   (some (mgetD me_msb x11 false l10_2))).bind fun j12 =>
  cond j12
   (some false)
   (recl10 (wi (l10_1+1),mset me_msb x11 true l10_2)))
  (g_site_Valid_j7 n a0s)
def g_site_Valid (n:Nat) (a0s:GSite):Option Bool :=
 (cond (ltI (lenI (List.map GCo.cs a0s.Conductors)) 1)
  (some true)
  (cond (ltI 16 (lenI (List.map GCo.cs a0s.Conductors)))
   (some true)
   (cond (ltI 8 (lenI (List.map GOwner.cs a0s.Owners)))
    (some true)
    (cond (ltI 32 (lenI (List.map GCt.cs a0s.Contracts)))
     (some true)
     (cond (ltI 16 (lenI (List.map GCg.cs a0s.Chargers)))
      (some true)
      (some (ltI 24 (lenI (List.map GBay.cs a0s.Bays))))))))).bind fun j1 =>
 cond j1
  (some false)
  ((g_site_namesOf n a0s).bind fun r9 =>
  loopN (fun recl10 (l10_1,l10_2)=>g_site_Valid_l10 n a0s r9 recl10 l10_1 l10_2) n (0,[]))
def hq116:=fun x0 x1=>([(1, .box 33 (bxc (GSite.cs x0))),(40, .mp (mpL mk_msb mv_msb x1))]:List (Nat × Blk))
def tq109:=fun x0 x1=>([(1, .ptr 1 0),(3, .mv 40),(42, .p (.sl 1 (List.map cstr x0))),(43,I (lenI (List.map cstr x0))),(44,I x1)]:List (Nat × AV))
def tq110:=fun x0 x1 x2=>([(1, .ptr 1 0),(3, .mv 40),(5,S x0),(42, .p (.sl 1 (List.map cstr x1))),(43,I (lenI (List.map cstr x1))),(44,I x2)]:List (Nat × AV))
theorem g_site_Valid_ok (n:Nat) (a0s:GSite):∀ r,g_site_Valid n a0s=some r→PCall Tryz.prog 13 [ag (GSite.cs a0s)] (.ret (B r)):=by
 refine pcall_sim (X:=fun r:Bool=>AEnd.ret (B r)) Tryz.func13 rfl Tryz.ntmps13 rfl ?_
 unfold g_site_Valid
 refine sRK tfm ⟨[qq 1],hq107 a0s⟩ krf (sS (sBi (fun j1=>⟨[qq 1,(39,B j1)],hq107 a0s⟩:Bool→St) ?_ ?_))
 ·refine sG (xR 5 krf ?_)
  refine xS (ltI (lenI (mCo a0s.Conductors)) 1) (fun h2=>?_) (fun h2=>?_)
  ·refine xN (want_ft krf h2) krf (xR 28 krf (xE ?_))
   exact nqK true krf
  refine xO (want_ff krf h2) krf (xR 5 krf ?_)
  refine xS (ltI 16 (lenI (mCo a0s.Conductors))) (fun h3=>?_) (fun h3=>?_)
  ·refine xN (want_ft krf h3) krf (xR 22 krf (xE ?_))
   exact nqK true krf
  refine xO (want_ff krf h3) krf (xR 5 krf ?_)
  refine xS (ltI 8 (lenI (mOwner a0s.Owners))) (fun h4=>?_) (fun h4=>?_)
  ·refine xN (want_ft krf h4) krf (xR 16 krf (xE ?_))
   exact nqK true krf
  refine xO (want_ff krf h4) krf (xR 5 krf ?_)
  refine xS (ltI 32 (lenI (mCt a0s.Contracts))) (fun h5=>?_) (fun h5=>?_)
  ·refine xN (want_ft krf h5) krf (xR 10 krf (xE ?_))
   exact nqK true krf
  refine xO (want_ff krf h5) krf (xR 5 krf ?_)
  refine xS (ltI 16 (lenI (mCg a0s.Chargers))) (fun h6=>?_) (fun h6=>?_)
  ·refine xN (want_ft krf h6) krf (xR 4 krf (xE ?_))
   exact nqK true krf
  refine xO (want_ff krf h6) krf (xR 4 krf (xE ?_))
  exact nqK (ltI 24 (lenI (mBay a0s.Bays))) krf
 rintro j1
 refine sC j1 krf ?_ ?_
 ·refine sRK tfm ⟨[(2,B false)],[]⟩ krf (sT (sq_r ?_))
  exact qR (.id) krf krf krf
 refine sK (sNK ⟨[qq 1],hq107 a0s⟩ krf (sS (sG (xs_u krf krf (aop_mk (d:=40) (rsv:=none) rfl rfl krf) (xR 1 krf (xE (sNK ⟨[qq 1,(3, .mv 40)],hq116 a0s []⟩ krf ?_)))))))
 refine sim_cps (fun _=>⟨[qq 1],hq107 a0s⟩:Unit→St) (fun _=>g_site_Valid_j7 n a0s) ?_ ?_
 ·rintro _
  show SimE (g_site_Valid_j7 n a0s) _ _ _ _ _ _
  unfold g_site_Valid_j7
  refine sS (sG (xR 1 krf ?_))
  refine xC [] krf (g_site_validParts_ok n a0s) krf krf kff (fun r8=>?_)
  refine xR 1 krf (xE (sNK ⟨[(2,B r8)],[]⟩ krf (sT ?_)))
  exact qR (.id) krf krf krf
 refine sS (sG (xR 1 krf ?_))
 refine xC [] krf (g_site_namesOf_ok n a0s) krf krf kff (fun r9=>?_)
 refine xR 2 krf (xE (sNK ⟨tq109 r9 0,hq116 a0s []⟩ krf (sB (sim_loop (fun (l10_1,l10_2)=>⟨tq109 r9 l10_1,hq116 a0s l10_2⟩:(Int × (List ((List UInt8) × Bool)))→St) (wsK krf) ?_))))
 rintro recl10 ⟨l10_1,l10_2⟩
 show SimE (g_site_Valid_l10 n a0s r9 recl10 l10_1 l10_2) _ _ _ _ _ _
 unfold g_site_Valid_l10
 refine sRK tfm ⟨[qq 1,(3, .mv 40),(42, .p (.sl 1 (List.map cstr r9))),(43,I (lenI (List.map cstr r9))),(44,I l10_1),(45,B (ltI l10_1 (lenI (List.map cstr r9))))],hq116 a0s l10_2⟩ krf (sS (sC (ltI l10_1 (lenI (List.map cstr r9))) krf ?_ ?_))
 rotate_left
 ·refine sim_exit (sq_x (kq_x (bq_hit ?_)))
  exact kqK (k:=fun _=>g_site_Valid_j7 n a0s) () krf
 refine sK (sNK ⟨tq109 r9 l10_1,hq116 a0s l10_2⟩ krf (sS (sB (sS (sG ?_)))))
 refine xG krf krf (aop_idx (e:=9) (S:=1) (enc:=cstr) (l:=r9) (k:=.i64) (n:=l10_1) (sv:=.p (.sl 1 (List.map cstr r9))) rfl krf krf krf krf krf) (fun x11=>?_)
 refine xR 2 krf (xE (sNK ⟨tq110 x11 r9 l10_1,hq116 a0s l10_2⟩ krf (sS (sBi (fun j12=>⟨[qq 1,(3, .mv 40),(5,S x11),(42, .p (.sl 1 (List.map cstr r9))),(43,I (lenI (List.map cstr r9))),(44,I l10_1),(55,B j12)],hq116 a0s l10_2⟩:Bool→St) ?_ ?_))))
 ·refine sG (xR 1 krf ?_)
  refine xC [] krf (g_site_goodName_ok n x11) krf krf kff (fun r13=>?_)
  refine xR 2 krf ?_
  refine xS (!r13) (fun h14=>?_) (fun h14=>?_)
  ·refine xN (want_ft krf h14) krf (xR 3 krf (xE ?_))
   exact nqK true krf
  refine xO (want_ff krf h14) krf (xR 1 krf ?_)
  refine xs_u krf krf (aop_look (kt:=9) (e:=4) (ke:=mk_msb) (ve:=mv_msb) (eq:=me_msb) (b:=40) (m:=l10_2) (k:=x11) (z0:=false) rfl krf krf krf krf krf kff (fun _ _=>eqV_strK rfl _ _) krf) ?_
  refine xR 1 krf (xE ?_)
  exact nqK (mgetD me_msb x11 false l10_2) krf
 rintro j12
 refine sC j12 krf ?_ ?_
 ·refine sRK tfm ⟨[(2,B false)],[]⟩ krf (sT (sq_r (bq_r (sq_r (kq_r (bq_r (kq_r ?_)))))))
  exact qR (.id) krf krf krf
 refine sK (sNK ⟨tq110 x11 r9 l10_1,hq116 a0s l10_2⟩ krf (sG (xR 2 krf ?_)))
 refine xs_u krf krf (aop_mset (kt:=9) (e:=4) (ke:=mk_msb) (ve:=mv_msb) (eq:=me_msb) (b:=40) (m:=l10_2) (k:=x11) (v:=true) rfl krf krf krf krf krf krf kff (fun _ _=>eqV_strK rfl _ _)) ?_
 refine xE (bq_n (sNK ⟨tq109 r9 l10_1,hq116 a0s (mset me_msb x11 true l10_2)⟩ krf (sL tfm krf ?_)))
 exact kqK (wi (l10_1+1),mset me_msb x11 true l10_2) krf
def g_law04_head (n:Nat):Option Bool :=
 (g_p_Parse n [102,101,101,100,101,114,32,102,32,108,105,109,105,116,32,49,48,48,32,110,101,117,116,114,97,108,32,56,48,59,32,99,97,98,108,101,32,99,32,102,114,111,109,32,102,32,108,105,109,105,116,32,52,48,32,110,101,117,116,114,97,108,32,52,48,32,102,117,115,101,32,51,50,32,53,48,48,48,59,32,111,119,110,101,114,32,111,59,32,99,104,97,114,103,101,114,32,120,32,97,116,32,99,32,112,104,97,115,101,115,32,49,32,51,32,97,109,112,115,32,54,32,51,50,32,49,32,102,97,108,108,98,97,99,107,32,54,32,111,119,110,101,114,32,111,59,32,98,97,121,32,98,32,99,104,97,114,103,101,114,32,120,59]).bind fun r1 =>
 (g_site_Build n r1.1).bind fun r2 =>
 (g_p_Parse n [102,101,101,100,101,114,32,102,32,108,105,109,105,116,32,48,32,110,101,117,116,114,97,108,32,56,48,59]).bind fun r3 =>
 (g_site_Build n r3.1).bind fun r4 =>
 (g_site_Build n (⟨1,[],0,0,[]⟩:GN)).bind fun r5 =>
 (g_site_Build n (⟨0,[],0,0,[]⟩:GN)).bind fun r6 =>
 (cond (ltI 0 (lenI (List.map GDg.cs r1.2)))
  (some true)
  (cond (ltI 0 (lenI (List.map GDg.cs r2.2)))
   (some true)
   (cond (ltI 0 (lenI (List.map GDg.cs r3.2)))
    (some true)
    (cond (!eqI (lenI (List.map GDg.cs r4.2)) 1)
     (some true)
     (cond (!eqI (lenI (List.map GDg.cs r5.2)) 1)
      (some true)
      (cond (!eqI (lenI (List.map GDg.cs r6.2)) 1)
       (some true)
       (cond (!eqI (lenI (List.map GCo.cs r2.1.Conductors)) 2)
        (some true)
        (cond (!eqI (lenI (List.map GOwner.cs r2.1.Owners)) 1)
         (some true)
         (cond (!eqI (lenI (List.map GCg.cs r2.1.Chargers)) 1)
          (some true)
          (cond (!eqI (lenI (List.map GBay.cs r2.1.Bays)) 1)
           (some true)
           (some (!eqI (lenI (List.map GCt.cs r2.1.Contracts)) 0)))))))))))).bind fun j7 =>
 cond j7
  (some false)
  (((getI r4.2 0).bind fun x19 =>
  cond (opq ((eqI x19.Err 3)&&((eqI x19.At 9)&&true)))
   ((getI r5.2 0).bind fun x21 =>
   cond (eqI x21.Err 4)
    ((getI r6.2 0).bind fun x23 =>
    cond (eqI x23.Err 1)
     ((getI r2.1.Conductors 0).bind fun x25 =>
     cond (opq ((eqS x25.Name [102])&&((eqI x25.Up (-1))&&((eqI x25.Limit 100)&&((eqI x25.Neutral 80)&&(((eqI x25.Fuse.Rated 0)&&((eqI x25.Fuse.Heat 0)&&true))&&(((eqI x25.Cable.Ambient 0)&&((eqI x25.Cable.Most 0)&&((eqI x25.Cable.Gain 0)&&((eqI x25.Cable.Loss 0)&&((eqI x25.Cable.Den 0)&&true)))))&&true)))))))
      ((getI r2.1.Conductors 1).bind fun x27 =>
      cond (opq ((eqS x27.Name [99])&&((eqI x27.Up 0)&&((eqI x27.Limit 40)&&((eqI x27.Neutral 40)&&(((eqI x27.Fuse.Rated 32)&&((eqI x27.Fuse.Heat 5000)&&true))&&(((eqI x27.Cable.Ambient 0)&&((eqI x27.Cable.Most 0)&&((eqI x27.Cable.Gain 0)&&((eqI x27.Cable.Loss 0)&&((eqI x27.Cable.Den 0)&&true)))))&&true)))))))
       ((getI r2.1.Chargers 0).bind fun x29 =>
       cond (opq ((eqS x29.Name [120])&&((eqI x29.At 1)&&((eqI x29.Phases 5)&&((eqI x29.Min 6)&&((eqI x29.Max 32)&&((eqI x29.Step 1)&&((eqI x29.Fallback 6)&&((eqI x29.Owner 0)&&true)))))))))
        ((getI r2.1.Bays 0).bind fun x31 =>
        cond (opq ((eqS x31.Name [98])&&((eqI x31.Charger 0)&&true)))
         ((g_site_Valid n r2.1).bind fun r33 =>
         cond r33
          ((g_site_Valid n (⟨[],[],[],[],[]⟩:GSite)).bind fun r35 =>
          some (!r35))
          (some false))
         (some false))
        (some false))
       (some false))
      (some false))
     (some false))
    (some false))
   (some false)).bind fun j18 =>
  some j18)
def hq117:=fun x0=>([(3, .box 33 (bxc (GSite.cs x0)))]:List (Nat × Blk))
theorem g_law04_head_ok (n:Nat):∀ r,g_law04_head n=some r→PCall Tryz.prog 7 [] (.ret (B r)):=by
 refine pcall_sim (X:=fun r:Bool=>AEnd.ret (B r)) Tryz.func7 rfl Tryz.ntmps7 rfl ?_
 unfold g_law04_head
 refine sRK tfm ⟨[],[]⟩ krf (sS (sG ?_))
 refine xC [] krf (g_p_Parse_ok n [102,101,101,100,101,114,32,102,32,108,105,109,105,116,32,49,48,48,32,110,101,117,116,114,97,108,32,56,48,59,32,99,97,98,108,101,32,99,32,102,114,111,109,32,102,32,108,105,109,105,116,32,52,48,32,110,101,117,116,114,97,108,32,52,48,32,102,117,115,101,32,51,50,32,53,48,48,48,59,32,111,119,110,101,114,32,111,59,32,99,104,97,114,103,101,114,32,120,32,97,116,32,99,32,112,104,97,115,101,115,32,49,32,51,32,97,109,112,115,32,54,32,51,50,32,49,32,102,97,108,108,98,97,99,107,32,54,32,111,119,110,101,114,32,111,59,32,98,97,121,32,98,32,99,104,97,114,103,101,114,32,120,59]) krf krf kff (fun r1=>?_)
 refine xR 6 krf (xE (sNK ⟨[qq 1,(2, .p (.sl 2 (mDg r1.2)))],hq63 r1.1⟩ krf (sS (sG (xR 1 krf ?_)))))
 refine xC [] krf (g_site_Build_ok n r1.1) krf krf kff (fun r2=>?_)
 refine xR 6 krf (xE (sNK ⟨[(2, .p (.sl 2 (mDg r1.2))),qq 3,(4, .p (.sl 2 (mDg r2.2)))],hq117 r2.1⟩ krf (sS (sG ?_))))
 refine xC [] krf (g_p_Parse_ok n [102,101,101,100,101,114,32,102,32,108,105,109,105,116,32,48,32,110,101,117,116,114,97,108,32,56,48,59]) krf krf kff (fun r3=>?_)
 refine xR 6 krf (xE (sNK ⟨[(2, .p (.sl 2 (mDg r1.2))),qq 3,(4, .p (.sl 2 (mDg r2.2))),qq 5,(6, .p (.sl 2 (mDg r3.2)))],[(3,bGSite33 r2.1),(5,bGN24 r3.1)]⟩ krf (sS (sG (xR 1 krf ?_)))))
 refine xC [] krf (g_site_Build_ok n r3.1) krf krf kff (fun r4=>?_)
 refine xR 6 krf (xE (sNK ⟨[(2, .p (.sl 2 (mDg r1.2))),qq 3,(4, .p (.sl 2 (mDg r2.2))),(6, .p (.sl 2 (mDg r3.2))),(8, .p (.sl 2 (mDg r4.2)))],hq117 r2.1⟩ krf (sS (sG (xR 1 krf ?_)))))
 refine xC [.agg [.id, .id, .id, .id, .sl 5]] krf (g_site_Build_ok n (⟨1,[],0,0,[]⟩:GN)) krf krf kff (fun r5=>?_)
 refine xR 6 krf (xE (sNK ⟨[(2, .p (.sl 2 (mDg r1.2))),qq 3,(4, .p (.sl 2 (mDg r2.2))),(6, .p (.sl 2 (mDg r3.2))),(8, .p (.sl 2 (mDg r4.2))),(10, .p (.sl 2 (mDg r5.2)))],hq117 r2.1⟩ krf (sS (sG (xR 1 krf ?_)))))
 refine xC [.agg [.id, .id, .id, .id, .sl 5]] krf (g_site_Build_ok n (⟨0,[],0,0,[]⟩:GN)) krf krf kff (fun r6=>?_)
 refine xR 6 krf (xE (sNK ⟨[(2, .p (.sl 2 (mDg r1.2))),qq 3,(4, .p (.sl 2 (mDg r2.2))),(6, .p (.sl 2 (mDg r3.2))),(8, .p (.sl 2 (mDg r4.2))),(10, .p (.sl 2 (mDg r5.2))),(12, .p (.sl 2 (mDg r6.2)))],hq117 r2.1⟩ krf (sS (sBi (fun j7=>⟨[qq 3,(8, .p (.sl 2 (mDg r4.2))),(10, .p (.sl 2 (mDg r5.2))),(12, .p (.sl 2 (mDg r6.2))),(98,B j7)],hq117 r2.1⟩:Bool→St) ?_ ?_))))
 ·refine sG (xR 4 krf ?_)
  refine xS (ltI 0 (lenI (mDg r1.2))) (fun h8=>?_) (fun h8=>?_)
  ·refine xN (want_ft krf h8) krf (xR 53 krf (xE ?_))
   exact nqK true krf
  refine xO (want_ff krf h8) krf (xR 4 krf ?_)
  refine xS (ltI 0 (lenI (mDg r2.2))) (fun h9=>?_) (fun h9=>?_)
  ·refine xN (want_ft krf h9) krf (xR 48 krf (xE ?_))
   exact nqK true krf
  refine xO (want_ff krf h9) krf (xR 4 krf ?_)
  refine xS (ltI 0 (lenI (mDg r3.2))) (fun h10=>?_) (fun h10=>?_)
  ·refine xN (want_ft krf h10) krf (xR 43 krf (xE ?_))
   exact nqK true krf
  refine xO (want_ff krf h10) krf (xR 4 krf ?_)
  refine xS (!eqI (lenI (mDg r4.2)) 1) (fun h11=>?_) (fun h11=>?_)
  ·refine xN (want_ft krf h11) krf (xR 38 krf (xE ?_))
   exact nqK true krf
  refine xO (want_ff krf h11) krf (xR 4 krf ?_)
  refine xS (!eqI (lenI (mDg r5.2)) 1) (fun h12=>?_) (fun h12=>?_)
  ·refine xN (want_ft krf h12) krf (xR 33 krf (xE ?_))
   exact nqK true krf
  refine xO (want_ff krf h12) krf (xR 4 krf ?_)
  refine xS (!eqI (lenI (mDg r6.2)) 1) (fun h13=>?_) (fun h13=>?_)
  ·refine xN (want_ft krf h13) krf (xR 28 krf (xE ?_))
   exact nqK true krf
  refine xO (want_ff krf h13) krf (xR 5 krf ?_)
  refine xS (!eqI (lenI (mCo r2.1.Conductors)) 2) (fun h14=>?_) (fun h14=>?_)
  ·refine xN (want_ft krf h14) krf (xR 22 krf (xE ?_))
   exact nqK true krf
  refine xO (want_ff krf h14) krf (xR 5 krf ?_)
  refine xS (!eqI (lenI (mOwner r2.1.Owners)) 1) (fun h15=>?_) (fun h15=>?_)
  ·refine xN (want_ft krf h15) krf (xR 16 krf (xE ?_))
   exact nqK true krf
  refine xO (want_ff krf h15) krf (xR 5 krf ?_)
  refine xS (!eqI (lenI (mCg r2.1.Chargers)) 1) (fun h16=>?_) (fun h16=>?_)
  ·refine xN (want_ft krf h16) krf (xR 10 krf (xE ?_))
   exact nqK true krf
  refine xO (want_ff krf h16) krf (xR 5 krf ?_)
  refine xS (!eqI (lenI (mBay r2.1.Bays)) 1) (fun h17=>?_) (fun h17=>?_)
  ·refine xN (want_ft krf h17) krf (xR 4 krf (xE ?_))
   exact nqK true krf
  refine xO (want_ff krf h17) krf (xR 4 krf (xE ?_))
  exact nqK (!eqI (lenI (mCt r2.1.Contracts)) 0) krf
 rintro j7
 refine sC j7 krf ?_ ?_
 ·refine sRK tfm ⟨[(0,B false)],[]⟩ krf (sT (sq_r ?_))
  exact qR (.id) krf krf krf
 refine sK (sNK ⟨[qq 3,(8, .p (.sl 2 (mDg r4.2))),(10, .p (.sl 2 (mDg r5.2))),(12, .p (.sl 2 (mDg r6.2)))],hq117 r2.1⟩ krf (sBi (fun j18=>⟨[(0,B j18)],[]⟩:Bool→St) ?_ ?_))
 rotate_left
 ·rintro j18
  refine sT ?_
  exact qR (.id) krf krf krf
 refine sG (xR 1 krf ?_)
 refine xG krf krf (aop_idx (e:=65) (S:=2) (enc:=GDg.cs) (l:=r4.2) (k:=.i64) (n:=0) (sv:=.p (.sl 2 (mDg r4.2))) rfl krf krf krf krf krf) (fun x19=>?_)
 refine xR 2 krf (xs_u krf krf (aop_eql (xs:=[I x19.Err,I x19.At]) (ys:=[I 3,I 9]) (vx:=[.int .i64 x19.Err, .int .i64 x19.At]) (vy:=[.int .i64 3, .int .i64 9]) (b:=(eqI x19.Err 3)&&((eqI x19.At 9)&&true)) rfl krf krf krf krf krf krf) (xR 1 krf ?_))
 refine xS (opq ((eqI x19.Err 3)&&((eqI x19.At 9)&&true))) (fun h20=>?_) (fun h20=>?_)
 rotate_left
 ·refine xN (want_tf krf h20) krf (xR 55 krf (xE ?_))
  exact nqK false krf
 refine xO (want_tt krf h20) krf ?_
 refine xG krf krf (aop_idx (e:=65) (S:=2) (enc:=GDg.cs) (l:=r5.2) (k:=.i64) (n:=0) (sv:=.p (.sl 2 (mDg r5.2))) rfl krf krf krf krf krf) (fun x21=>?_)
 refine xR 5 krf ?_
 refine xS (eqI x21.Err 4) (fun h22=>?_) (fun h22=>?_)
 rotate_left
 ·refine xN (want_tf krf h22) krf (xR 48 krf (xE ?_))
  exact nqK false krf
 refine xO (want_tt krf h22) krf ?_
 refine xG krf krf (aop_idx (e:=65) (S:=2) (enc:=GDg.cs) (l:=r6.2) (k:=.i64) (n:=0) (sv:=.p (.sl 2 (mDg r6.2))) rfl krf krf krf krf krf) (fun x23=>?_)
 refine xR 5 krf ?_
 refine xS (eqI x23.Err 1) (fun h24=>?_) (fun h24=>?_)
 rotate_left
 ·refine xN (want_tf krf h24) krf (xR 41 krf (xE ?_))
  exact nqK false krf
 refine xO (want_tt krf h24) krf (xR 1 krf ?_)
 refine xG krf krf (aop_idx (e:=49) (S:=11) (enc:=GCo.cs) (l:=r2.1.Conductors) (k:=.i64) (n:=0) (sv:=.p (.sl 11 (mCo r2.1.Conductors))) rfl krf krf krf krf krf) (fun x25=>?_)
 refine xR 2 krf (xs_u krf krf (aop_eql (xs:=[S x25.Name,I x25.Up,I x25.Limit,I x25.Neutral,I x25.Fuse.Rated,I x25.Fuse.Heat,I x25.Cable.Ambient,I x25.Cable.Most,I x25.Cable.Gain,I x25.Cable.Loss,I x25.Cable.Den]) (ys:=[S [102],I (-1),I 100,I 80,I 0,I 0,I 0,I 0,I 0,I 0,I 0]) (vx:=[.string (mkS x25.Name), .int .i64 x25.Up, .int .i64 x25.Limit, .int .i64 x25.Neutral, .int .i64 x25.Fuse.Rated, .int .i64 x25.Fuse.Heat, .int .i64 x25.Cable.Ambient, .int .i64 x25.Cable.Most, .int .i64 x25.Cable.Gain, .int .i64 x25.Cable.Loss, .int .i64 x25.Cable.Den]) (vy:=[.string (mkS [102]), .int .i64 (-1), .int .i64 100, .int .i64 80, .int .i64 0, .int .i64 0, .int .i64 0, .int .i64 0, .int .i64 0, .int .i64 0, .int .i64 0]) (b:=(eqS x25.Name [102])&&((eqI x25.Up (-1))&&((eqI x25.Limit 100)&&((eqI x25.Neutral 80)&&(((eqI x25.Fuse.Rated 0)&&((eqI x25.Fuse.Heat 0)&&true))&&(((eqI x25.Cable.Ambient 0)&&((eqI x25.Cable.Most 0)&&((eqI x25.Cable.Gain 0)&&((eqI x25.Cable.Loss 0)&&((eqI x25.Cable.Den 0)&&true)))))&&true)))))) rfl krf krf krf krf krf krf) (xR 2 krf ?_))
 refine xS (opq ((eqS x25.Name [102])&&((eqI x25.Up (-1))&&((eqI x25.Limit 100)&&((eqI x25.Neutral 80)&&(((eqI x25.Fuse.Rated 0)&&((eqI x25.Fuse.Heat 0)&&true))&&(((eqI x25.Cable.Ambient 0)&&((eqI x25.Cable.Most 0)&&((eqI x25.Cable.Gain 0)&&((eqI x25.Cable.Loss 0)&&((eqI x25.Cable.Den 0)&&true)))))&&true))))))) (fun h26=>?_) (fun h26=>?_)
 rotate_left
 ·refine xN (want_tf krf h26) krf (xR 33 krf (xE ?_))
  exact nqK false krf
 refine xO (want_tt krf h26) krf (xR 1 krf ?_)
 refine xG krf krf (aop_idx (e:=49) (S:=11) (enc:=GCo.cs) (l:=r2.1.Conductors) (k:=.i64) (n:=1) (sv:=.p (.sl 11 (mCo r2.1.Conductors))) rfl krf krf krf krf krf) (fun x27=>?_)
 refine xR 3 krf (xs_u krf krf (aop_eql (xs:=[S x27.Name,I x27.Up,I x27.Limit,I x27.Neutral,I x27.Fuse.Rated,I x27.Fuse.Heat,I x27.Cable.Ambient,I x27.Cable.Most,I x27.Cable.Gain,I x27.Cable.Loss,I x27.Cable.Den]) (ys:=[S [99],I 0,I 40,I 40,I 32,I 5000,I 0,I 0,I 0,I 0,I 0]) (vx:=[.string (mkS x27.Name), .int .i64 x27.Up, .int .i64 x27.Limit, .int .i64 x27.Neutral, .int .i64 x27.Fuse.Rated, .int .i64 x27.Fuse.Heat, .int .i64 x27.Cable.Ambient, .int .i64 x27.Cable.Most, .int .i64 x27.Cable.Gain, .int .i64 x27.Cable.Loss, .int .i64 x27.Cable.Den]) (vy:=[.string (mkS [99]), .int .i64 0, .int .i64 40, .int .i64 40, .int .i64 32, .int .i64 5000, .int .i64 0, .int .i64 0, .int .i64 0, .int .i64 0, .int .i64 0]) (b:=(eqS x27.Name [99])&&((eqI x27.Up 0)&&((eqI x27.Limit 40)&&((eqI x27.Neutral 40)&&(((eqI x27.Fuse.Rated 32)&&((eqI x27.Fuse.Heat 5000)&&true))&&(((eqI x27.Cable.Ambient 0)&&((eqI x27.Cable.Most 0)&&((eqI x27.Cable.Gain 0)&&((eqI x27.Cable.Loss 0)&&((eqI x27.Cable.Den 0)&&true)))))&&true)))))) rfl krf krf krf krf krf krf) (xR 2 krf ?_))
 refine xS (opq ((eqS x27.Name [99])&&((eqI x27.Up 0)&&((eqI x27.Limit 40)&&((eqI x27.Neutral 40)&&(((eqI x27.Fuse.Rated 32)&&((eqI x27.Fuse.Heat 5000)&&true))&&(((eqI x27.Cable.Ambient 0)&&((eqI x27.Cable.Most 0)&&((eqI x27.Cable.Gain 0)&&((eqI x27.Cable.Loss 0)&&((eqI x27.Cable.Den 0)&&true)))))&&true))))))) (fun h28=>?_) (fun h28=>?_)
 rotate_left
 ·refine xN (want_tf krf h28) krf (xR 24 krf (xE ?_))
  exact nqK false krf
 refine xO (want_tt krf h28) krf (xR 1 krf ?_)
 refine xG krf krf (aop_idx (e:=56) (S:=8) (enc:=GCg.cs) (l:=r2.1.Chargers) (k:=.i64) (n:=0) (sv:=.p (.sl 8 (mCg r2.1.Chargers))) rfl krf krf krf krf krf) (fun x29=>?_)
 refine xR 2 krf (xs_u krf krf (aop_eql (xs:=[S x29.Name,I x29.At,I x29.Phases,I x29.Min,I x29.Max,I x29.Step,I x29.Fallback,I x29.Owner]) (ys:=[S [120],I 1,I 5,I 6,I 32,I 1,I 6,I 0]) (vx:=[.string (mkS x29.Name), .int .i64 x29.At, .int .i64 x29.Phases, .int .i64 x29.Min, .int .i64 x29.Max, .int .i64 x29.Step, .int .i64 x29.Fallback, .int .i64 x29.Owner]) (vy:=[.string (mkS [120]), .int .i64 1, .int .i64 5, .int .i64 6, .int .i64 32, .int .i64 1, .int .i64 6, .int .i64 0]) (b:=(eqS x29.Name [120])&&((eqI x29.At 1)&&((eqI x29.Phases 5)&&((eqI x29.Min 6)&&((eqI x29.Max 32)&&((eqI x29.Step 1)&&((eqI x29.Fallback 6)&&((eqI x29.Owner 0)&&true)))))))) rfl krf krf krf krf krf krf) (xR 2 krf ?_))
 refine xS (opq ((eqS x29.Name [120])&&((eqI x29.At 1)&&((eqI x29.Phases 5)&&((eqI x29.Min 6)&&((eqI x29.Max 32)&&((eqI x29.Step 1)&&((eqI x29.Fallback 6)&&((eqI x29.Owner 0)&&true))))))))) (fun h30=>?_) (fun h30=>?_)
 rotate_left
 ·refine xN (want_tf krf h30) krf (xR 16 krf (xE ?_))
  exact nqK false krf
 refine xO (want_tt krf h30) krf (xR 1 krf ?_)
 refine xG krf krf (aop_idx (e:=58) (S:=2) (enc:=GBay.cs) (l:=r2.1.Bays) (k:=.i64) (n:=0) (sv:=.p (.sl 2 (mBay r2.1.Bays))) rfl krf krf krf krf krf) (fun x31=>?_)
 refine xR 2 krf (xs_u krf krf (aop_eql (xs:=[S x31.Name,I x31.Charger]) (ys:=[S [98],I 0]) (vx:=[.string (mkS x31.Name), .int .i64 x31.Charger]) (vy:=[.string (mkS [98]), .int .i64 0]) (b:=(eqS x31.Name [98])&&((eqI x31.Charger 0)&&true)) rfl krf krf krf krf krf krf) (xR 2 krf ?_))
 refine xS (opq ((eqS x31.Name [98])&&((eqI x31.Charger 0)&&true))) (fun h32=>?_) (fun h32=>?_)
 ·refine xO (want_tt krf h32) krf ?_
  refine xC [] krf (g_site_Valid_ok n r2.1) krf krf kff (fun r33=>?_)
  refine xR 2 krf ?_
  refine xS r33 (fun h34=>?_) (fun h34=>?_)
  ·refine xO (want_tt krf h34) krf ?_
   refine xC [.agg [.sl 11, .sl 1, .sl 4, .sl 8, .sl 2]] krf (g_site_Valid_ok n (⟨[],[],[],[],[]⟩:GSite)) krf krf kff (fun r35=>?_)
   refine xR 3 krf (xE ?_)
   exact nqK (!r35) krf
  refine xN (want_tf krf h34) krf (xR 4 krf (xE ?_))
  exact nqK false krf
 refine xN (want_tf krf h32) krf (xR 8 krf (xE ?_))
 exact nqK false krf
def g_ref02_Count_l1 (a0n:GN) (a1most:Int) (rf_ref02_Count:GN→Int→Option Int) (recl1:(Int × Int)→Option Int) (l1_1:Int) (l1_2:Int):Option Int :=
 (cond (ltI l1_2 (lenI (List.map idc a0n.Kids)))
  (some (leI l1_1 a1most))
  (some false)).bind fun j2 =>
 cond j2
  ((Option.bind (getI a0n.Kids l1_2) GN.of).bind fun x4 =>
  (rf_ref02_Count x4 (wi (a1most - l1_1))).bind fun r5 =>
  recl1 (wi (l1_1+r5),wi (l1_2+1)))
  (some l1_1)
def g_ref02_Count_body (n:Nat) (rf_ref02_Count:GN→Int→Option Int) (a0n:GN) (a1most:Int):Option Int :=
 loopN (fun recl1 (l1_1,l1_2)=>g_ref02_Count_l1 a0n a1most rf_ref02_Count recl1 l1_1 l1_2) n (1,0)
def g_ref02_Count:Nat→GN→Int→Option Int
 | 0,_,_=>none
 | n+1,a0n,a1most=>g_ref02_Count_body n (g_ref02_Count n) a0n a1most
def tq111:=fun x0 x1 x2=>([(1,I x0),(2, .ptr 2 0),(5,I x1),(6,I x2)]:List (Nat × AV))
theorem g_ref02_Count_ok (n:Nat) (a0n:GN) (a1most:Int):∀ r,g_ref02_Count n a0n a1most=some r→PCall Tryz.prog 22 [ag (GN.cs a0n),I a1most] (.ret (I r)):=by
 induction n generalizing a0n a1most with
 | zero=>intro r hr; cases (show (none:Option Int)=some r from hr)
 | succ n ih =>
 show ∀ r,g_ref02_Count_body n (g_ref02_Count n) a0n a1most=some r→_
 generalize g_ref02_Count n=rf_ref02_Count at ih ⊢
 refine pcall_sim (X:=fun r:Int=>AEnd.ret (I r)) Tryz.func22 rfl Tryz.ntmps22 rfl ?_
 unfold g_ref02_Count_body
 refine sRK tfm (sq20 a1most a0n) krf (sRK tfm ⟨tq50 a1most 1,hq47 a0n⟩ krf (sS (sRK tfm ⟨tq111 a1most 1 0,hq47 a0n⟩ krf (sB (sim_loop (fun (l1_1,l1_2)=>⟨tq111 a1most l1_1 l1_2,hq47 a0n⟩:(Int × Int)→St) (wsK krf) ?_)))))
 rintro recl1 ⟨l1_1,l1_2⟩
 show SimE (g_ref02_Count_l1 a0n a1most rf_ref02_Count recl1 l1_1 l1_2) _ _ _ _ _ _
 unfold g_ref02_Count_l1
 refine sS (sBi (fun j2=>⟨[(1,I a1most),qq 2,(5,I l1_1),(6,I l1_2),(16,B j2)],hq47 a0n⟩:Bool→St) ?_ ?_)
 ·refine sG (xR 6 krf ?_)
  refine xS (ltI l1_2 (lenI (mI a0n.Kids))) (fun h3=>?_) (fun h3=>?_)
  ·refine xO (want_tt krf h3) krf (xR 3 krf (xE ?_))
   exact nqK (leI l1_1 a1most) krf
  refine xN (want_tf krf h3) krf (xR 3 krf (xE ?_))
  exact nqK false krf
 rintro j2
 refine sC j2 krf ?_ ?_
 ·refine sK (sNK ⟨tq111 a1most l1_1 l1_2,hq47 a0n⟩ krf (sS (sB (sG (xR 4 krf ?_)))))
  refine xG krf krf (aop_idxR (e:=24) (S:=5) (enc:=GN.cs) (dec:=GN.of) (l:=a0n.Kids) (k:=.i64) (n:=l1_2) (sv:=.p (.sl 5 (mI a0n.Kids))) GN.of_cs rfl krf krf krf krf krf) (fun x4=>?_)
  refine xR 4 krf ?_
  refine xC [] krf (ih x4 (wi (a1most - l1_1))) krf krf kff (fun r5=>?_)
  refine xR 2 krf (xE (bq_n (sNK ⟨tq111 a1most (wi (l1_1+r5)) l1_2,hq47 a0n⟩ krf (sL tfm krf ?_))))
  exact kqK (wi (l1_1+r5),wi (l1_2+1)) krf
 refine sim_exit (sq_x (kq_x (bq_hit (sNK ⟨[(5,I l1_1)],[]⟩ krf (sRK tfm ⟨[(4,I l1_1)],[]⟩ krf (sT ?_))))))
 exact qR (.id) krf krf krf
def g_ref02_names_l3 (a0n:GN) (a1depth:Int) (rf_ref02_names:GN→Int→Option Bool) (recl3:Int→Option Bool) (l3:Int):Option Bool :=
 cond (ltI l3 (lenI (List.map idc a0n.Kids)))
  ((Option.bind (getI a0n.Kids l3) GN.of).bind fun x4 =>
  (rf_ref02_names x4 (wi (a1depth - 1))).bind fun r5 =>
  cond (!r5)
   (some false)
   (recl3 (wi (l3+1))))
  (some true)
def g_ref02_names_body (n:Nat) (rf_ref02_names:GN→Int→Option Bool) (a0n:GN) (a1depth:Int):Option Bool :=
 (cond (eqI a1depth 0)
  (some true)
  (some (ltI 40 (lenI a0n.Name)))).bind fun j1 =>
 cond j1
  (some false)
  (loopN (fun recl3 l3=>g_ref02_names_l3 a0n a1depth rf_ref02_names recl3 l3) n 0)
def g_ref02_names:Nat→GN→Int→Option Bool
 | 0,_,_=>none
 | n+1,a0n,a1depth=>g_ref02_names_body n (g_ref02_names n) a0n a1depth
theorem g_ref02_names_ok (n:Nat) (a0n:GN) (a1depth:Int):∀ r,g_ref02_names n a0n a1depth=some r→PCall Tryz.prog 23 [ag (GN.cs a0n),I a1depth] (.ret (B r)):=by
 induction n generalizing a0n a1depth with
 | zero=>intro r hr; cases (show (none:Option Bool)=some r from hr)
 | succ n ih =>
 show ∀ r,g_ref02_names_body n (g_ref02_names n) a0n a1depth=some r→_
 generalize g_ref02_names n=rf_ref02_names at ih ⊢
 refine pcall_sim (X:=fun r:Bool=>AEnd.ret (B r)) Tryz.func23 rfl Tryz.ntmps23 rfl ?_
 unfold g_ref02_names_body
 refine sRK tfm (sq20 a1depth a0n) krf (sS (sBi (fun j1=>⟨[(1,I a1depth),qq 2,(13,B j1)],hq47 a0n⟩:Bool→St) ?_ ?_))
 ·refine sG (xR 3 krf ?_)
  refine xS (eqI a1depth 0) (fun h2=>?_) (fun h2=>?_)
  ·refine xN (want_ft krf h2) krf (xR 4 krf (xE ?_))
   exact nqK true krf
  refine xO (want_ff krf h2) krf (xR 4 krf (xE ?_))
  exact nqK (ltI 40 (lenI a0n.Name)) krf
 rintro j1
 refine sC j1 krf ?_ ?_
 ·refine sRK tfm ⟨[(4,B false)],[]⟩ krf (sT (sq_r ?_))
  exact qR (.id) krf krf krf
 refine sK (sNK (sq20 a1depth a0n) krf (sS (sRK tfm ⟨tq50 a1depth 0,hq47 a0n⟩ krf (sB (sim_loop (fun l3=>⟨tq50 a1depth l3,hq47 a0n⟩:Int→St) (wsK krf) ?_)))))
 rintro recl3 l3
 show SimE (g_ref02_names_l3 a0n a1depth rf_ref02_names recl3 l3) _ _ _ _ _ _
 unfold g_ref02_names_l3
 refine sS (sRK tfm ⟨[(1,I a1depth),qq 2,(5,I l3),(18,B (ltI l3 (lenI (mI a0n.Kids))))],hq47 a0n⟩ krf (sC (ltI l3 (lenI (mI a0n.Kids))) krf ?_ ?_))
 rotate_left
 ·refine sim_exit (sq_x (kq_x (bq_hit (sNK ⟨[],[]⟩ krf (sRK tfm ⟨[(4,B true)],[]⟩ krf (sT ?_))))))
  exact qR (.id) krf krf krf
 refine sK (sNK ⟨tq50 a1depth l3,hq47 a0n⟩ krf (sS (sB (sS (sG (xR 3 krf ?_))))))
 refine xG krf krf (aop_idxR (e:=24) (S:=5) (enc:=GN.cs) (dec:=GN.of) (l:=a0n.Kids) (k:=.i64) (n:=l3) (sv:=.p (.sl 5 (mI a0n.Kids))) GN.of_cs rfl krf krf krf krf krf) (fun x4=>?_)
 refine xR 3 krf ?_
 refine xC [] krf (ih x4 (wi (a1depth - 1))) krf krf kff (fun r5=>?_)
 refine xR 1 krf (xE (sNK ⟨[(1,I a1depth),qq 2,(5,I l3),(29,B (!r5))],hq47 a0n⟩ krf (sC (!r5) krf ?_ ?_)))
 ·refine sRK tfm ⟨[(4,B false)],[]⟩ krf (sT (bq_r (sq_r (kq_r (bq_r (sq_r ?_))))))
  exact qR (.id) krf krf krf
 refine sK (bq_n (sNK ⟨tq50 a1depth l3,hq47 a0n⟩ krf (sL tfm krf ?_)))
 exact kqK (wi (l3+1)) krf
def g_ref02_Few (n:Nat) (a0n:GN) (a1most:Int):Option Bool :=
 (g_ref02_Count n a0n a1most).bind fun r1 =>
 cond (leI r1 a1most)
  ((g_ref02_names n a0n 50).bind fun r3 =>
  some r3)
  (some false)
theorem g_ref02_Few_ok (n:Nat) (a0n:GN) (a1most:Int):∀ r,g_ref02_Few n a0n a1most=some r→PCall Tryz.prog 8 [ag (GN.cs a0n),I a1most] (.ret (B r)):=by
 refine pcall_sim (X:=fun r:Bool=>AEnd.ret (B r)) Tryz.func8 rfl Tryz.ntmps8 rfl ?_
 unfold g_ref02_Few
 refine sRK tfm (sq20 a1most a0n) krf (sS (sG (xR 2 krf ?_)))
 refine xC [] krf (g_ref02_Count_ok n a0n a1most) krf krf kff (fun r1=>?_)
 refine xR 3 krf ?_
 refine xS (leI r1 a1most) (fun h2=>?_) (fun h2=>?_)
 ·refine xO (want_tt krf h2) krf ?_
  refine xC [] krf (g_ref02_names_ok n a0n 50) krf krf kff (fun r3=>?_)
  refine xR 2 krf (xE (sNK ⟨[(4,B r3)],[]⟩ krf (sT ?_)))
  exact qR (.id) krf krf krf
 refine xN (want_tf krf h2) krf (xR 3 krf (xE (sNK ⟨[(4,B false)],[]⟩ krf (sT ?_))))
 exact qR (.id) krf krf krf
def g_ref04_Keys (n:Nat) (a0kind:Int):Option ((List (List UInt8)) × (List (List UInt8))) :=
 cond (eqI a0kind 1)
  (some ([[108,105,109,105,116],[110,101,117,116,114,97,108]],[[102,117,115,101],[116,104,101,114,109,97,108]]))
  (cond (eqI a0kind 2)
   (some ([[108,105,109,105,116],[110,101,117,116,114,97,108],[102,114,111,109]],[[102,117,115,101],[116,104,101,114,109,97,108]]))
   (cond (eqI a0kind 4)
    (some ([[111,119,110,101,114],[114,97,110,107],[99,97,114,100]],[]))
    (cond (eqI a0kind 5)
     (some ([[97,116],[112,104,97,115,101,115],[97,109,112,115],[102,97,108,108,98,97,99,107],[111,119,110,101,114]],[]))
     (cond (eqI a0kind 6)
      (some ([[99,104,97,114,103,101,114]],[]))
      (some ([],[]))))))
def bq61:Blk:=.arr 9 1 (List.map cstr [[102,117,115,101],[116,104,101,114,109,97,108]]).length
theorem g_ref04_Keys_ok (n:Nat) (a0kind:Int):∀ r,g_ref04_Keys n a0kind=some r→PCall Tryz.prog 19 [I a0kind] (.ret (.tup [.p (.sl 1 (List.map cstr r.1)), .p (.sl 1 (List.map cstr r.2))])):=by
 refine pcall_sim (X:=fun r:(List (List UInt8)) × (List (List UInt8))=>AEnd.ret (.tup [.p (.sl 1 (List.map cstr r.1)), .p (.sl 1 (List.map cstr r.2))])) Tryz.func19 rfl Tryz.ntmps19 rfl ?_
 unfold g_ref04_Keys
 refine sRK tfm ⟨[(0,I a0kind)],[]⟩ krf (sRK tfm ⟨[(0,I a0kind),(4, .tsl 1 (List.map cstr [[102,117,115,101],[116,104,101,114,109,97,108]]) 5)],[(5,bq61)]⟩ krf (sS (sRK tfm ⟨[(4, .tsl 1 (List.map cstr [[102,117,115,101],[116,104,101,114,109,97,108]]) 5),(6,I a0kind)],[(5,bq61)]⟩ krf (sB (sRK tfm ⟨[(4, .tsl 1 (List.map cstr [[102,117,115,101],[116,104,101,114,109,97,108]]) 5),(6,I a0kind),(7,B (eqI a0kind 1))],[(5,bq61)]⟩ krf (sC (eqI a0kind 1) krf ?_ ?_))))))
 ·refine sRK tfm ⟨[(2, .tsl 1 (List.map cstr [[108,105,109,105,116],[110,101,117,116,114,97,108]]) 9),(3, .tsl 1 (List.map cstr [[102,117,115,101],[116,104,101,114,109,97,108]]) 5)],[(5,bq61),(9, .arr 9 1 (List.map cstr [[108,105,109,105,116],[110,101,117,116,114,97,108]]).length)]⟩ krf (sT (bq_r (sq_r ?_)))
  exact qR (.agg [.sl 1, .sl 1]) krf krf krf
 refine sRK tfm ⟨[(4, .tsl 1 (List.map cstr [[102,117,115,101],[116,104,101,114,109,97,108]]) 5),(6,I a0kind),(11,B (eqI a0kind 2))],[(5,bq61)]⟩ krf (sC (eqI a0kind 2) krf ?_ ?_)
 ·refine sRK tfm ⟨[(2, .tsl 1 (List.map cstr [[108,105,109,105,116],[110,101,117,116,114,97,108],[102,114,111,109]]) 13),(3, .tsl 1 (List.map cstr [[102,117,115,101],[116,104,101,114,109,97,108]]) 5)],[(5,bq61),(13, .arr 9 1 (List.map cstr [[108,105,109,105,116],[110,101,117,116,114,97,108],[102,114,111,109]]).length)]⟩ krf (sT (bq_r (sq_r ?_)))
  exact qR (.agg [.sl 1, .sl 1]) krf krf krf
 refine sRK tfm ⟨[(6,I a0kind),(15,B (eqI a0kind 4))],[]⟩ krf (sC (eqI a0kind 4) krf ?_ ?_)
 ·refine sRK tfm ⟨[(2, .tsl 1 (List.map cstr [[111,119,110,101,114],[114,97,110,107],[99,97,114,100]]) 17),(3,zS)],[(17, .arr 9 1 (List.map cstr [[111,119,110,101,114],[114,97,110,107],[99,97,114,100]]).length)]⟩ krf (sT (bq_r (sq_r ?_)))
  exact qR (.agg [.sl 1, .sl 1]) krf krf krf
 refine sRK tfm ⟨[(6,I a0kind),(18,B (eqI a0kind 5))],[]⟩ krf (sC (eqI a0kind 5) krf ?_ ?_)
 ·refine sRK tfm ⟨[(2, .tsl 1 (List.map cstr [[97,116],[112,104,97,115,101,115],[97,109,112,115],[102,97,108,108,98,97,99,107],[111,119,110,101,114]]) 20),(3,zS)],[(20, .arr 9 1 (List.map cstr [[97,116],[112,104,97,115,101,115],[97,109,112,115],[102,97,108,108,98,97,99,107],[111,119,110,101,114]]).length)]⟩ krf (sT (bq_r (sq_r ?_)))
  exact qR (.agg [.sl 1, .sl 1]) krf krf krf
 refine sRK tfm ⟨[(21,B (eqI a0kind 6))],[]⟩ krf (sC (eqI a0kind 6) krf ?_ ?_)
 ·refine sRK tfm ⟨[(2, .tsl 1 (List.map cstr [[99,104,97,114,103,101,114]]) 23),(3,zS)],[(23, .arr 9 1 (List.map cstr [[99,104,97,114,103,101,114]]).length)]⟩ krf (sT (bq_r (sq_r ?_)))
  exact qR (.agg [.sl 1, .sl 1]) krf krf krf
 refine sK (bq_n (sNK ⟨[],[]⟩ krf (sRK tfm ⟨[(2,zS),(3,zS)],[]⟩ krf (sT ?_))))
 exact qR (.agg [.sl 1, .sl 1]) krf krf krf
def g_ref02_Kinds (n:Nat):Option (List (List UInt8)) :=
 some [[102,101,101,100,101,114],[99,97,98,108,101],[111,119,110,101,114],[99,111,110,116,114,97,99,116],[99,104,97,114,103,101,114],[98,97,121],[116,97,114,105,102,102]]
theorem g_ref02_Kinds_ok (n:Nat):∀ r,g_ref02_Kinds n=some r→PCall Tryz.prog 87 [] (.ret (.p (.sl 1 (List.map cstr r)))):=by
 refine pcall_sim (X:=fun r:List (List UInt8)=>AEnd.ret (.p (.sl 1 (List.map cstr r)))) Tryz.func87 rfl Tryz.ntmps87 rfl ?_
 unfold g_ref02_Kinds
 refine sRK tfm ⟨[],[]⟩ krf (sRK tfm ⟨[(0, .tsl 1 (List.map cstr [[102,101,101,100,101,114],[99,97,98,108,101],[111,119,110,101,114],[99,111,110,116,114,97,99,116],[99,104,97,114,103,101,114],[98,97,121],[116,97,114,105,102,102]]) 1)],[(1, .arr 9 1 (List.map cstr [[102,101,101,100,101,114],[99,97,98,108,101],[111,119,110,101,114],[99,111,110,116,114,97,99,116],[99,104,97,114,103,101,114],[98,97,121],[116,97,114,105,102,102]]).length)]⟩ krf (sT ?_))
 exact qR (.sl 1) krf krf krf
def g_ref02_In_l1 (a0l:List (List UInt8)) (a1s:List UInt8) (recl1:Int→Option Int) (l1:Int):Option Int :=
 cond (ltI l1 (lenI (List.map cstr a0l)))
  ((getI a0l l1).bind fun x2 =>
  cond (eqS x2 a1s)
   (some l1)
   (recl1 (wi (l1+1))))
  (some (-1))
def g_ref02_In (n:Nat) (a0l:List (List UInt8)) (a1s:List UInt8):Option Int :=
 loopN (fun recl1 l1=>g_ref02_In_l1 a0l a1s recl1 l1) n 0
def tq112:=fun x0 x1 x2=>([(0, .p (.sl 1 (List.map cstr x0))),(1,S x1),(5,I x2)]:List (Nat × AV))
theorem g_ref02_In_ok (n:Nat) (a0l:List (List UInt8)) (a1s:List UInt8):∀ r,g_ref02_In n a0l a1s=some r→PCall Tryz.prog 86 [.p (.sl 1 (List.map cstr a0l)),S a1s] (.ret (I r)):=by
 refine pcall_sim (X:=fun r:Int=>AEnd.ret (I r)) Tryz.func86 rfl Tryz.ntmps86 rfl ?_
 unfold g_ref02_In
 refine sRK tfm ⟨[(0, .p (.sl 1 (List.map cstr a0l))),(1,S a1s)],[]⟩ krf (sS (sRK tfm ⟨tq112 a0l a1s 0,[]⟩ krf (sB (sim_loop (fun l1=>⟨tq112 a0l a1s l1,[]⟩:Int→St) (wsK krf) ?_))))
 rintro recl1 l1
 show SimE (g_ref02_In_l1 a0l a1s recl1 l1) _ _ _ _ _ _
 unfold g_ref02_In_l1
 refine sS (sRK tfm ⟨[(0, .p (.sl 1 (List.map cstr a0l))),(1,S a1s),(5,I l1),(9,B (ltI l1 (lenI (List.map cstr a0l))))],[]⟩ krf (sC (ltI l1 (lenI (List.map cstr a0l))) krf ?_ ?_))
 rotate_left
 ·refine sim_exit (sq_x (kq_x (bq_hit (sNK ⟨[],[]⟩ krf (sRK tfm ⟨[(4,I (-1))],[]⟩ krf (sT ?_))))))
  exact qR (.id) krf krf krf
 refine sK (sNK ⟨tq112 a0l a1s l1,[]⟩ krf (sS (sB (sS (sG (xR 2 krf ?_))))))
 refine xG krf krf (aop_idx (e:=9) (S:=1) (enc:=cstr) (l:=a0l) (k:=.i64) (n:=l1) (sv:=.p (.sl 1 (List.map cstr a0l))) rfl krf krf krf krf krf) (fun x2=>?_)
 refine xR 3 krf (xE (sNK ⟨[(0, .p (.sl 1 (List.map cstr a0l))),(1,S a1s),(5,I l1),(17,B (eqS x2 a1s))],[]⟩ krf (sC (eqS x2 a1s) krf ?_ ?_)))
 ·refine sRK tfm ⟨[(4,I l1)],[]⟩ krf (sT (bq_r (sq_r (kq_r (bq_r (sq_r ?_))))))
  exact qR (.id) krf krf krf
 refine sK (bq_n (sNK ⟨tq112 a0l a1s l1,[]⟩ krf (sL tfm krf ?_)))
 exact kqK (wi (l1+1)) krf
def g_ref02_Attrs (n:Nat):Option (List (List UInt8)) :=
 some [[108,105,109,105,116],[110,101,117,116,114,97,108],[102,117,115,101],[116,104,101,114,109,97,108],[102,114,111,109],[97,116],[112,104,97,115,101,115],[97,109,112,115],[102,97,108,108,98,97,99,107],[111,119,110,101,114],[99,97,114,100],[114,97,110,107],[99,104,97,114,103,101,114]]
theorem g_ref02_Attrs_ok (n:Nat):∀ r,g_ref02_Attrs n=some r→PCall Tryz.prog 88 [] (.ret (.p (.sl 1 (List.map cstr r)))):=by
 refine pcall_sim (X:=fun r:List (List UInt8)=>AEnd.ret (.p (.sl 1 (List.map cstr r)))) Tryz.func88 rfl Tryz.ntmps88 rfl ?_
 unfold g_ref02_Attrs
 refine sRK tfm ⟨[],[]⟩ krf (sRK tfm ⟨[(0, .tsl 1 (List.map cstr [[108,105,109,105,116],[110,101,117,116,114,97,108],[102,117,115,101],[116,104,101,114,109,97,108],[102,114,111,109],[97,116],[112,104,97,115,101,115],[97,109,112,115],[102,97,108,108,98,97,99,107],[111,119,110,101,114],[99,97,114,100],[114,97,110,107],[99,104,97,114,103,101,114]]) 1)],[(1, .arr 9 1 (List.map cstr [[108,105,109,105,116],[110,101,117,116,114,97,108],[102,117,115,101],[116,104,101,114,109,97,108],[102,114,111,109],[97,116],[112,104,97,115,101,115],[97,109,112,115],[102,97,108,108,98,97,99,107],[111,119,110,101,114],[99,97,114,100],[114,97,110,107],[99,104,97,114,103,101,114]]).length)]⟩ krf (sT ?_))
 exact qR (.sl 1) krf krf krf
def g_ref02_Articles (n:Nat):Option (List (List UInt8)) :=
 some [[115,116,97,114,116],[101,110,101,114,103,121],[116,105,109,101],[105,100,108,101],[99,97,112],[116,97,120]]
theorem g_ref02_Articles_ok (n:Nat):∀ r,g_ref02_Articles n=some r→PCall Tryz.prog 89 [] (.ret (.p (.sl 1 (List.map cstr r)))):=by
 refine pcall_sim (X:=fun r:List (List UInt8)=>AEnd.ret (.p (.sl 1 (List.map cstr r)))) Tryz.func89 rfl Tryz.ntmps89 rfl ?_
 unfold g_ref02_Articles
 refine sRK tfm ⟨[],[]⟩ krf (sRK tfm ⟨[(0, .tsl 1 (List.map cstr [[115,116,97,114,116],[101,110,101,114,103,121],[116,105,109,101],[105,100,108,101],[99,97,112],[116,97,120]]) 1)],[(1, .arr 9 1 (List.map cstr [[115,116,97,114,116],[101,110,101,114,103,121],[116,105,109,101],[105,100,108,101],[99,97,112],[116,97,120]]).length)]⟩ krf (sT ?_))
 exact qR (.sl 1) krf krf krf
def g_ref02_Words (n:Nat):Option (List (List UInt8)) :=
 some [[111,110],[119,111,114,107],[115,97,116,117,114,100,97,121],[115,117,110,100,97,121],[98,101,116,119,101,101,110],[112,101,114],[102,114,101,101]]
theorem g_ref02_Words_ok (n:Nat):∀ r,g_ref02_Words n=some r→PCall Tryz.prog 90 [] (.ret (.p (.sl 1 (List.map cstr r)))):=by
 refine pcall_sim (X:=fun r:List (List UInt8)=>AEnd.ret (.p (.sl 1 (List.map cstr r)))) Tryz.func90 rfl Tryz.ntmps90 rfl ?_
 unfold g_ref02_Words
 refine sRK tfm ⟨[],[]⟩ krf (sRK tfm ⟨[(0, .tsl 1 (List.map cstr [[111,110],[119,111,114,107],[115,97,116,117,114,100,97,121],[115,117,110,100,97,121],[98,101,116,119,101,101,110],[112,101,114],[102,114,101,101]]) 1)],[(1, .arr 9 1 (List.map cstr [[111,110],[119,111,114,107],[115,97,116,117,114,100,97,121],[115,117,110,100,97,121],[98,101,116,119,101,101,110],[112,101,114],[102,114,101,101]]).length)]⟩ krf (sT ?_))
 exact qR (.sl 1) krf krf krf
def g_ref02_Name_j1 (n:Nat) (a0s:List UInt8):Option Bool :=
 ((g_ref02_Kinds n).bind fun r3 =>
 (g_ref02_In n r3 a0s).bind fun r4 =>
 cond (leI 0 r4)
  (some true)
  ((g_ref02_Attrs n).bind fun r6 =>
  (g_ref02_In n r6 a0s).bind fun r7 =>
  cond (leI 0 r7)
   (some true)
   ((g_ref02_Articles n).bind fun r9 =>
   (g_ref02_In n r9 a0s).bind fun r10 =>
   cond (leI 0 r10)
    (some true)
    ((g_ref02_Words n).bind fun r12 =>
    (g_ref02_In n r12 a0s).bind fun r13 =>
    some (leI 0 r13))))).bind fun j2 =>
 cond (leI 1 (lenI a0s))
  (cond (leI (lenI a0s) 12)
   (some (!j2))
   (some false))
  (some false)
def g_ref02_Name_l16 (n:Nat) (a0s:List UInt8) (recl16:Int→Option Bool) (l16:Int):Option Bool :=
 cond (ltI l16 (lenI a0s))
  ((getI a0s l16).bind fun x17 =>
  (cond (ltI (b2i x17) 97)
   (cond (eqI l16 0)
    (some true)
    (cond (ltI (b2i x17) 48)
     (some (!eqI (b2i x17) 95))
     (cond (ltI 57 (b2i x17))
      (some (!eqI (b2i x17) 95))
      (some false))))
   (cond (ltI 122 (b2i x17))
    (cond (eqI l16 0)
     (some true)
     (cond (ltI (b2i x17) 48)
      (some (!eqI (b2i x17) 95))
      (cond (ltI 57 (b2i x17))
       (some (!eqI (b2i x17) 95))
       (some false))))
    (some false))).bind fun j18 =>
  cond j18
   (some false)
   (recl16 (wi (l16+1))))
  (g_ref02_Name_j1 n a0s)
def g_ref02_Name (n:Nat) (a0s:List UInt8):Option Bool :=
 loopN (fun recl16 l16=>g_ref02_Name_l16 n a0s recl16 l16) n 0
theorem g_ref02_Name_ok (n:Nat) (a0s:List UInt8):∀ r,g_ref02_Name n a0s=some r→PCall Tryz.prog 61 [S a0s] (.ret (B r)):=by
 refine pcall_sim (X:=fun r:Bool=>AEnd.ret (B r)) Tryz.func61 rfl Tryz.ntmps61 rfl ?_
 unfold g_ref02_Name
 refine sRK tfm ⟨[(0,S a0s)],[]⟩ krf (sim_cps (fun _=>⟨[(0,S a0s)],[]⟩:Unit→St) (fun _=>g_ref02_Name_j1 n a0s) ?_ ?_)
 ·rintro _
  show SimE (g_ref02_Name_j1 n a0s) _ _ _ _ _ _
  unfold g_ref02_Name_j1
  refine sBi (fun j2=>⟨[(0,S a0s),(5,B j2)],[]⟩:Bool→St) ?_ ?_
  rotate_left
  ·rintro j2
   refine sS (sG (xR 4 krf ?_))
   refine xS (leI 1 (lenI a0s)) (fun h14=>?_) (fun h14=>?_)
   ·refine xO (want_tt krf h14) krf (xR 4 krf ?_)
    refine xS (leI (lenI a0s) 12) (fun h15=>?_) (fun h15=>?_)
    ·refine xO (want_tt krf h15) krf (xR 3 krf (xE (sNK ⟨[(2,B (!j2))],[]⟩ krf (sT ?_))))
     exact qR (.id) krf krf krf
    refine xN (want_tf krf h15) krf (xR 3 krf (xE (sNK ⟨[(2,B false)],[]⟩ krf (sT ?_))))
    exact qR (.id) krf krf krf
   refine xN (want_tf krf h14) krf (xR 8 krf (xE (sNK ⟨[(2,B false)],[]⟩ krf (sT ?_))))
   exact qR (.id) krf krf krf
  refine sG ?_
  refine xC [] krf (g_ref02_Kinds_ok n) krf krf kff (fun r3=>?_)
  refine xR 1 krf ?_
  refine xC [] krf (g_ref02_In_ok n r3 a0s) krf krf kff (fun r4=>?_)
  refine xR 2 krf ?_
  refine xS (leI 0 r4) (fun h5=>?_) (fun h5=>?_)
  ·refine xN (want_ft krf h5) krf (xR 17 krf (xE ?_))
   exact nqK true krf
  refine xC [] (want_ff krf h5) (g_ref02_Attrs_ok n) krf krf kff (fun r6=>?_)
  refine xR 1 krf ?_
  refine xC [] krf (g_ref02_In_ok n r6 a0s) krf krf kff (fun r7=>?_)
  refine xR 3 krf ?_
  refine xS (leI 0 r7) (fun h8=>?_) (fun h8=>?_)
  ·refine xN (want_ft krf h8) krf (xR 11 krf (xE ?_))
   exact nqK true krf
  refine xC [] (want_ff krf h8) (g_ref02_Articles_ok n) krf krf kff (fun r9=>?_)
  refine xR 1 krf ?_
  refine xC [] krf (g_ref02_In_ok n r9 a0s) krf krf kff (fun r10=>?_)
  refine xR 3 krf ?_
  refine xS (leI 0 r10) (fun h11=>?_) (fun h11=>?_)
  ·refine xN (want_ft krf h11) krf (xR 5 krf (xE ?_))
   exact nqK true krf
  refine xC [] (want_ff krf h11) (g_ref02_Words_ok n) krf krf kff (fun r12=>?_)
  refine xR 1 krf ?_
  refine xC [] krf (g_ref02_In_ok n r12 a0s) krf krf kff (fun r13=>?_)
  refine xR 3 krf (xE ?_)
  exact nqK (leI 0 r13) krf
 refine sRK tfm ⟨[(0,S a0s),(3,I 0)],[]⟩ krf (sB (sim_loop (fun l16=>⟨[(0,S a0s),(3,I l16)],[]⟩:Int→St) (wsK krf) ?_))
 rintro recl16 l16
 show SimE (g_ref02_Name_l16 n a0s recl16 l16) _ _ _ _ _ _
 unfold g_ref02_Name_l16
 refine sS (sRK tfm ⟨[(0,S a0s),(3,I l16),(9,B (ltI l16 (lenI a0s)))],[]⟩ krf (sC (ltI l16 (lenI a0s)) krf ?_ ?_))
 rotate_left
 ·refine sim_exit (sq_x (kq_x (bq_hit ?_)))
  exact kqK (k:=fun _=>g_ref02_Name_j1 n a0s) () krf
 refine sK (sNK ⟨[(0,S a0s),(3,I l16)],[]⟩ krf (sS (sB (sS (sG (xR 2 krf ?_))))))
 refine xG krf krf (aop_sidx (l:=a0s) (k:=.i64) (n:=l16) rfl krf krf krf) (fun x17=>?_)
 refine xR 1 krf (xE (sNK ⟨[(0,S a0s),(3,I l16),(4,B8 (b2i x17))],[]⟩ krf (sBi (fun j18=>⟨[(0,S a0s),(3,I l16),(36,B j18)],[]⟩:Bool→St) ?_ ?_)))
 rotate_left
 ·rintro j18
  refine sC j18 krf ?_ ?_
  ·refine sRK tfm ⟨[(2,B false)],[]⟩ krf (sT (bq_r (sq_r (kq_r (bq_r (kq_r ?_))))))
   exact qR (.id) krf krf krf
  refine sK (bq_n (sNK ⟨[(0,S a0s),(3,I l16)],[]⟩ krf (sL tfm krf ?_)))
  exact kqK (wi (l16+1)) krf
 refine sG (xR 3 krf ?_)
 refine xS (ltI (b2i x17) 97) (fun h19=>?_) (fun h19=>?_)
 ·refine xN (want_ft krf h19) krf (xR 6 krf ?_)
  refine xS (eqI l16 0) (fun h20=>?_) (fun h20=>?_)
  ·refine xN (want_ft krf h20) krf (xR 11 krf (xE ?_))
   exact nqK true krf
  refine xO (want_ff krf h20) krf (xR 2 krf ?_)
  refine xS (ltI (b2i x17) 48) (fun h21=>?_) (fun h21=>?_)
  ·refine xN (want_ft krf h21) krf (xR 8 krf (xE ?_))
   exact nqK (!eqI (b2i x17) 95) krf
  refine xO (want_ff krf h21) krf (xR 3 krf ?_)
  refine xS (ltI 57 (b2i x17)) (fun h22=>?_) (fun h22=>?_)
  ·refine xO (want_tt krf h22) krf (xR 4 krf (xE ?_))
   exact nqK (!eqI (b2i x17) 95) krf
  refine xN (want_tf krf h22) krf (xR 4 krf (xE ?_))
  exact nqK false krf
 refine xO (want_ff krf h19) krf (xR 3 krf ?_)
 refine xS (ltI 122 (b2i x17)) (fun h23=>?_) (fun h23=>?_)
 rotate_left
 ·refine xN (want_tf krf h23) krf (xR 14 krf (xE ?_))
  exact nqK false krf
 refine xO (want_tt krf h23) krf (xR 2 krf ?_)
 refine xS (eqI l16 0) (fun h24=>?_) (fun h24=>?_)
 ·refine xN (want_ft krf h24) krf (xR 11 krf (xE ?_))
  exact nqK true krf
 refine xO (want_ff krf h24) krf (xR 2 krf ?_)
 refine xS (ltI (b2i x17) 48) (fun h25=>?_) (fun h25=>?_)
 ·refine xN (want_ft krf h25) krf (xR 8 krf (xE ?_))
  exact nqK (!eqI (b2i x17) 95) krf
 refine xO (want_ff krf h25) krf (xR 3 krf ?_)
 refine xS (ltI 57 (b2i x17)) (fun h26=>?_) (fun h26=>?_)
 ·refine xO (want_tt krf h26) krf (xR 4 krf (xE ?_))
  exact nqK (!eqI (b2i x17) 95) krf
 refine xN (want_tf krf h26) krf (xR 4 krf (xE ?_))
 exact nqK false krf
def g_ref02_value (n:Nat) (a0n:GN) (a1words:Bool):Option Bool :=
 cond (ltI 0 (lenI (List.map idc a0n.Kids)))
  (some false)
  (cond (eqI a0n.Kind 6)
   ((cond (eqS a0n.Name [])
    (cond (leI 0 a0n.N)
     (some (leI a0n.N 1000000))
     (some false))
    (some false)).bind fun j1 =>
   some j1)
   ((cond (eqI a0n.Kind 5)
    (cond (eqI a0n.N 0)
     ((g_ref02_Name n a0n.Name).bind fun r7 =>
     cond r7
      (some true)
      (cond a1words
       ((g_ref02_Words n).bind fun r10 =>
       (g_ref02_In n r10 a0n.Name).bind fun r11 =>
       some (leI 0 r11))
       (some false)))
     (some false))
    (some false)).bind fun j4 =>
   some j4))
theorem g_ref02_value_ok (n:Nat) (a0n:GN) (a1words:Bool):∀ r,g_ref02_value n a0n a1words=some r→PCall Tryz.prog 91 [ag (GN.cs a0n),B a1words] (.ret (B r)):=by
 refine pcall_sim (X:=fun r:Bool=>AEnd.ret (B r)) Tryz.func91 rfl Tryz.ntmps91 rfl ?_
 unfold g_ref02_value
 refine sRK tfm (sq21 a1words a0n) krf (sS (sRK tfm ⟨[(1,B a1words),qq 2,(8,B (ltI 0 (lenI (mI a0n.Kids))))],hq47 a0n⟩ krf (sC (ltI 0 (lenI (mI a0n.Kids))) krf ?_ ?_)))
 ·refine sRK tfm ⟨[(4,B false)],[]⟩ krf (sT (sq_r ?_))
  exact qR (.id) krf krf krf
 refine sK (sNK (sq21 a1words a0n) krf (sS (sRK tfm ⟨[(1,B a1words),qq 2,(11,B (eqI a0n.Kind 6))],hq47 a0n⟩ krf (sC (eqI a0n.Kind 6) krf ?_ ?_))))
 ·refine sBi (fun j1=>⟨[(4,B j1)],[]⟩:Bool→St) ?_ ?_
  rotate_left
  ·rintro j1
   refine sT (sq_r ?_)
   exact qR (.id) krf krf krf
  refine sG (xR 4 krf ?_)
  refine xS (eqS a0n.Name []) (fun h2=>?_) (fun h2=>?_)
  ·refine xO (want_tt krf h2) krf (xR 4 krf ?_)
   refine xS (leI 0 a0n.N) (fun h3=>?_) (fun h3=>?_)
   ·refine xO (want_tt krf h3) krf (xR 4 krf (xE ?_))
    exact nqK (leI a0n.N 1000000) krf
   refine xN (want_tf krf h3) krf (xR 4 krf (xE ?_))
   exact nqK false krf
  refine xN (want_tf krf h2) krf (xR 9 krf (xE ?_))
  exact nqK false krf
 refine sK (sNK (sq21 a1words a0n) krf (sBi (fun j4=>⟨[(4,B j4)],[]⟩:Bool→St) ?_ ?_))
 rotate_left
 ·rintro j4
  refine sT ?_
  exact qR (.id) krf krf krf
 refine sDr tfm rfl (xR 4 krf ?_)
 refine xS (eqI a0n.Kind 5) (fun h5=>?_) (fun h5=>?_)
 rotate_left
 ·refine xN (want_tf krf h5) krf (xR 19 krf (xED krf ?_))
  exact nqK false krf
 refine xO (want_tt krf h5) krf (xR 4 krf ?_)
 refine xS (eqI a0n.N 0) (fun h6=>?_) (fun h6=>?_)
 rotate_left
 ·refine xN (want_tf krf h6) krf (xR 14 krf (xED krf ?_))
  exact nqK false krf
 refine xO (want_tt krf h6) krf (xR 1 krf ?_)
 refine xC [] krf (g_ref02_Name_ok n a0n.Name) krf krf kff (fun r7=>?_)
 refine xR 1 krf ?_
 refine xS r7 (fun h8=>?_) (fun h8=>?_)
 ·refine xN (want_ft krf h8) krf (xR 10 krf (xED krf ?_))
  exact nqK true krf
 refine xO (want_ff krf h8) krf (xR 1 krf ?_)
 refine xS a1words (fun h9=>?_) (fun h9=>?_)
 ·refine xC [] (want_tt krf h9) (g_ref02_Words_ok n) krf krf kff (fun r10=>?_)
  refine xR 2 krf ?_
  refine xC [] krf (g_ref02_In_ok n r10 a0n.Name) krf krf kff (fun r11=>?_)
  refine xR 5 krf (xED krf ?_)
  exact nqK (leI 0 r11) krf
 refine xN (want_tf krf h9) krf (xR 8 krf (xED krf ?_))
 exact nqK false krf
def g_ref02_part_l13 (n:Nat) (a0n:GN) (recl13:Int→Option Bool) (l13:Int):Option Bool :=
 cond (ltI l13 (lenI (List.map idc a0n.Kids)))
  ((Option.bind (getI a0n.Kids l13) GN.of).bind fun x14 =>
  (g_ref02_value n x14 (eqI a0n.Kind 4)).bind fun r15 =>
  cond (!r15)
   (some false)
   (recl13 (wi (l13+1))))
  (some true)
def g_ref02_part (n:Nat) (a0n:GN):Option Bool :=
 (cond (!eqI a0n.N 0)
  (some true)
  (cond (eqI a0n.Kind 3)
   ((g_ref02_Attrs n).bind fun r4 =>
   (g_ref02_In n r4 a0n.Name).bind fun r5 =>
   cond (leI 0 r5)
    (some false)
    (cond (eqI a0n.Kind 4)
     ((g_ref02_Articles n).bind fun r8 =>
     (g_ref02_In n r8 a0n.Name).bind fun r9 =>
     some (!(leI 0 r9)))
     (some true)))
   (cond (eqI a0n.Kind 4)
    ((g_ref02_Articles n).bind fun r11 =>
    (g_ref02_In n r11 a0n.Name).bind fun r12 =>
    some (!(leI 0 r12)))
    (some true)))).bind fun j1 =>
 cond j1
  (some false)
  (loopN (fun recl13 l13=>g_ref02_part_l13 n a0n recl13 l13) n 0)
theorem g_ref02_part_ok (n:Nat) (a0n:GN):∀ r,g_ref02_part n a0n=some r→PCall Tryz.prog 66 [ag (GN.cs a0n)] (.ret (B r)):=by
 refine pcall_sim (X:=fun r:Bool=>AEnd.ret (B r)) Tryz.func66 rfl Tryz.ntmps66 rfl ?_
 unfold g_ref02_part
 refine sRK tfm ⟨[qq 1],hq63 a0n⟩ krf (sS (sBi (fun j1=>⟨[qq 1,(31,B j1)],hq63 a0n⟩:Bool→St) ?_ ?_))
 ·refine sDr tfm rfl (xR 4 krf ?_)
  refine xS (!eqI a0n.N 0) (fun h2=>?_) (fun h2=>?_)
  ·refine xN (want_ft krf h2) krf (xR 23 krf (xED krf ?_))
   exact nqK true krf
  refine xO (want_ff krf h2) krf (xR 3 krf ?_)
  refine xS (eqI a0n.Kind 3) (fun h3=>?_) (fun h3=>?_)
  rotate_left
  ·refine xN (want_tf krf h3) krf (xR 10 krf ?_)
   refine xS (eqI a0n.Kind 4) (fun h10=>?_) (fun h10=>?_)
   ·refine xC [] (want_tt krf h10) (g_ref02_Articles_ok n) krf krf kff (fun r11=>?_)
    refine xR 2 krf ?_
    refine xC [] krf (g_ref02_In_ok n r11 a0n.Name) krf krf kff (fun r12=>?_)
    refine xR 5 krf (xED krf ?_)
    exact nqK (!(leI 0 r12)) krf
   refine xN (want_tf krf h10) krf (xR 8 krf (xED krf ?_))
   exact nqK true krf
  refine xC [] (want_tt krf h3) (g_ref02_Attrs_ok n) krf krf kff (fun r4=>?_)
  refine xR 2 krf ?_
  refine xC [] krf (g_ref02_In_ok n r4 a0n.Name) krf krf kff (fun r5=>?_)
  refine xR 3 krf ?_
  refine xS (leI 0 r5) (fun h6=>?_) (fun h6=>?_)
  ·refine xN (want_ft krf h6) krf (xR 12 krf (xED krf ?_))
   exact nqK false krf
  refine xO (want_ff krf h6) krf (xR 3 krf ?_)
  refine xS (eqI a0n.Kind 4) (fun h7=>?_) (fun h7=>?_)
  ·refine xC [] (want_tt krf h7) (g_ref02_Articles_ok n) krf krf kff (fun r8=>?_)
   refine xR 2 krf ?_
   refine xC [] krf (g_ref02_In_ok n r8 a0n.Name) krf krf kff (fun r9=>?_)
   refine xR 5 krf (xED krf ?_)
   exact nqK (!(leI 0 r9)) krf
  refine xN (want_tf krf h7) krf (xR 8 krf (xED krf ?_))
  exact nqK true krf
 rintro j1
 refine sC j1 krf ?_ ?_
 ·refine sRK tfm ⟨[(2,B false)],[]⟩ krf (sT (sq_r ?_))
  exact qR (.id) krf krf krf
 refine sK (sNK ⟨[qq 1],hq63 a0n⟩ krf (sS (sRK tfm ⟨[qq 1,(3,I 0)],hq63 a0n⟩ krf (sB (sim_loop (fun l13=>⟨[qq 1,(3,I l13)],hq63 a0n⟩:Int→St) (wsK krf) ?_)))))
 rintro recl13 l13
 show SimE (g_ref02_part_l13 n a0n recl13 l13) _ _ _ _ _ _
 unfold g_ref02_part_l13
 refine sS (sRK tfm ⟨[qq 1,(3,I l13),(36,B (ltI l13 (lenI (mI a0n.Kids))))],hq63 a0n⟩ krf (sC (ltI l13 (lenI (mI a0n.Kids))) krf ?_ ?_))
 rotate_left
 ·refine sim_exit (sq_x (kq_x (bq_hit (sNK ⟨[],[]⟩ krf (sRK tfm ⟨[(2,B true)],[]⟩ krf (sT ?_))))))
  exact qR (.id) krf krf krf
 refine sK (sNK ⟨[qq 1,(3,I l13)],hq63 a0n⟩ krf (sS (sB (sS (sDr tfm rfl (xR 3 krf ?_))))))
 refine xG krf krf (aop_idxR (e:=24) (S:=5) (enc:=GN.cs) (dec:=GN.of) (l:=a0n.Kids) (k:=.i64) (n:=l13) (sv:=.p (.sl 5 (mI a0n.Kids))) GN.of_cs rfl krf krf krf krf krf) (fun x14=>?_)
 refine xR 4 krf ?_
 refine xC [] krf (g_ref02_value_ok n x14 (eqI a0n.Kind 4)) krf krf kff (fun r15=>?_)
 refine xR 1 krf (xED krf (sNK ⟨[qq 1,(3,I l13),(48,B (!r15))],hq63 a0n⟩ krf (sC (!r15) krf ?_ ?_)))
 ·refine sRK tfm ⟨[(2,B false)],[]⟩ krf (sT (bq_r (sq_r (kq_r (bq_r (sq_r ?_))))))
  exact qR (.id) krf krf krf
 refine sK (bq_n (sNK ⟨[qq 1,(3,I l13)],hq63 a0n⟩ krf (sL tfm krf ?_)))
 exact kqK (wi (l13+1)) krf
def g_ref02_item_l6 (n:Nat) (a0n:GN) (recl6:Int→Option Bool) (l6:Int):Option Bool :=
 cond (ltI l6 (lenI (List.map idc a0n.Kids)))
  ((Option.bind (getI a0n.Kids l6) GN.of).bind fun x7 =>
  ((g_ref02_part n x7).bind fun r9 =>
  cond (!r9)
   (some true)
   (cond (eqI x7.Kind 4)
    (cond (!eqI a0n.N 7)
     (some true)
     (cond (eqI x7.Kind 3)
      (cond (ltI 0 l6)
       ((Option.bind (getI a0n.Kids (wi (l6 - 1))) GN.of).bind fun x15 =>
       some (eqI x15.Kind 4))
       (some false))
      (some false)))
    (cond (eqI x7.Kind 3)
     (cond (ltI 0 l6)
      ((Option.bind (getI a0n.Kids (wi (l6 - 1))) GN.of).bind fun x18 =>
      some (eqI x18.Kind 4))
      (some false))
     (some false)))).bind fun j8 =>
  cond j8
   (some false)
   (recl6 (wi (l6+1))))
  (some true)
def g_ref02_item (n:Nat) (a0n:GN):Option Bool :=
 (cond (!eqI a0n.Kind 2)
  (some true)
  (cond (ltI a0n.N 1)
   (some true)
   (cond (ltI 7 a0n.N)
    (some true)
    ((g_ref02_Name n a0n.Name).bind fun r5 =>
    some (!r5))))).bind fun j1 =>
 cond j1
  (some false)
  (loopN (fun recl6 l6=>g_ref02_item_l6 n a0n recl6 l6) n 0)
theorem g_ref02_item_ok (n:Nat) (a0n:GN):∀ r,g_ref02_item n a0n=some r→PCall Tryz.prog 34 [ag (GN.cs a0n)] (.ret (B r)):=by
 refine pcall_sim (X:=fun r:Bool=>AEnd.ret (B r)) Tryz.func34 rfl Tryz.ntmps34 rfl ?_
 unfold g_ref02_item
 refine sRK tfm ⟨[qq 1],hq63 a0n⟩ krf (sS (sBi (fun j1=>⟨[qq 1,(23,B j1)],hq63 a0n⟩:Bool→St) ?_ ?_))
 ·refine sG (xR 4 krf ?_)
  refine xS (!eqI a0n.Kind 2) (fun h2=>?_) (fun h2=>?_)
  ·refine xN (want_ft krf h2) krf (xR 14 krf (xE ?_))
   exact nqK true krf
  refine xO (want_ff krf h2) krf (xR 4 krf ?_)
  refine xS (ltI a0n.N 1) (fun h3=>?_) (fun h3=>?_)
  ·refine xN (want_ft krf h3) krf (xR 9 krf (xE ?_))
   exact nqK true krf
  refine xO (want_ff krf h3) krf (xR 4 krf ?_)
  refine xS (ltI 7 a0n.N) (fun h4=>?_) (fun h4=>?_)
  ·refine xN (want_ft krf h4) krf (xR 4 krf (xE ?_))
   exact nqK true krf
  refine xO (want_ff krf h4) krf (xR 1 krf ?_)
  refine xC [] krf (g_ref02_Name_ok n a0n.Name) krf krf kff (fun r5=>?_)
  refine xR 2 krf (xE ?_)
  exact nqK (!r5) krf
 rintro j1
 refine sC j1 krf ?_ ?_
 ·refine sRK tfm ⟨[(2,B false)],[]⟩ krf (sT (sq_r ?_))
  exact qR (.id) krf krf krf
 refine sK (sNK ⟨[qq 1],hq63 a0n⟩ krf (sS (sRK tfm ⟨[qq 1,(3,I 0)],hq63 a0n⟩ krf (sB (sim_loop (fun l6=>⟨[qq 1,(3,I l6)],hq63 a0n⟩:Int→St) (wsK krf) ?_)))))
 rintro recl6 l6
 show SimE (g_ref02_item_l6 n a0n recl6 l6) _ _ _ _ _ _
 unfold g_ref02_item_l6
 refine sS (sRK tfm ⟨[qq 1,(3,I l6),(28,B (ltI l6 (lenI (mI a0n.Kids))))],hq63 a0n⟩ krf (sC (ltI l6 (lenI (mI a0n.Kids))) krf ?_ ?_))
 rotate_left
 ·refine sim_exit (sq_x (kq_x (bq_hit (sNK ⟨[],[]⟩ krf (sRK tfm ⟨[(2,B true)],[]⟩ krf (sT ?_))))))
  exact qR (.id) krf krf krf
 refine sK (sNK ⟨[qq 1,(3,I l6)],hq63 a0n⟩ krf (sS (sB (sS (sG (xR 3 krf ?_))))))
 refine xG krf krf (aop_idxR (e:=24) (S:=5) (enc:=GN.cs) (dec:=GN.of) (l:=a0n.Kids) (k:=.i64) (n:=l6) (sv:=.p (.sl 5 (mI a0n.Kids))) GN.of_cs rfl krf krf krf krf krf) (fun x7=>?_)
 refine xR 3 krf (xE (sNK ⟨[qq 1,(3,I l6),qq 4],[(1,bGN24 a0n),(4,bGN24 x7)]⟩ krf (sBi (fun j8=>⟨[qq 1,(3,I l6),(67,B j8)],hq63 a0n⟩:Bool→St) ?_ ?_)))
 rotate_left
 ·rintro j8
  refine sC j8 krf ?_ ?_
  ·refine sRK tfm ⟨[(2,B false)],[]⟩ krf (sT (bq_r (sq_r (kq_r (bq_r (sq_r ?_))))))
   exact qR (.id) krf krf krf
  refine sK (bq_n (sNK ⟨[qq 1,(3,I l6)],hq63 a0n⟩ krf (sL tfm krf ?_)))
  exact kqK (wi (l6+1)) krf
 refine sG (xR 1 krf ?_)
 refine xC [] krf (g_ref02_part_ok n x7) krf krf kff (fun r9=>?_)
 refine xR 2 krf ?_
 refine xS (!r9) (fun h10=>?_) (fun h10=>?_)
 ·refine xN (want_ft krf h10) krf (xR 27 krf (xE ?_))
  exact nqK true krf
 refine xO (want_ff krf h10) krf (xR 3 krf ?_)
 refine xS (eqI x7.Kind 4) (fun h11=>?_) (fun h11=>?_)
 rotate_left
 ·refine xN (want_tf krf h11) krf (xR 9 krf ?_)
  refine xS (eqI x7.Kind 3) (fun h16=>?_) (fun h16=>?_)
  ·refine xO (want_tt krf h16) krf (xR 3 krf ?_)
   refine xS (ltI 0 l6) (fun h17=>?_) (fun h17=>?_)
   ·refine xO (want_tt krf h17) krf (xR 3 krf ?_)
    refine xG krf krf (aop_idxR (e:=24) (S:=5) (enc:=GN.cs) (dec:=GN.of) (l:=a0n.Kids) (k:=.i64) (n:=wi (l6 - 1)) (sv:=.p (.sl 5 (mI a0n.Kids))) GN.of_cs rfl krf krf krf krf krf) (fun x18=>?_)
    refine xR 5 krf (xE ?_)
    exact nqK (eqI x18.Kind 4) krf
   refine xN (want_tf krf h17) krf (xR 9 krf (xE ?_))
   exact nqK false krf
  refine xN (want_tf krf h16) krf (xR 13 krf (xE ?_))
  exact nqK false krf
 refine xO (want_tt krf h11) krf (xR 5 krf ?_)
 refine xS (!eqI a0n.N 7) (fun h12=>?_) (fun h12=>?_)
 ·refine xN (want_ft krf h12) krf (xR 17 krf (xE ?_))
  exact nqK true krf
 refine xO (want_ff krf h12) krf (xR 3 krf ?_)
 refine xS (eqI x7.Kind 3) (fun h13=>?_) (fun h13=>?_)
 ·refine xO (want_tt krf h13) krf (xR 3 krf ?_)
  refine xS (ltI 0 l6) (fun h14=>?_) (fun h14=>?_)
  ·refine xO (want_tt krf h14) krf (xR 3 krf ?_)
   refine xG krf krf (aop_idxR (e:=24) (S:=5) (enc:=GN.cs) (dec:=GN.of) (l:=a0n.Kids) (k:=.i64) (n:=wi (l6 - 1)) (sv:=.p (.sl 5 (mI a0n.Kids))) GN.of_cs rfl krf krf krf krf krf) (fun x15=>?_)
   refine xR 5 krf (xE ?_)
   exact nqK (eqI x15.Kind 4) krf
  refine xN (want_tf krf h14) krf (xR 9 krf (xE ?_))
  exact nqK false krf
 refine xN (want_tf krf h13) krf (xR 13 krf (xE ?_))
 exact nqK false krf
def g_ref02_Valid_l6 (n:Nat) (a0n:GN) (recl6:Int→Option Bool) (l6:Int):Option Bool :=
 cond (ltI l6 (lenI (List.map idc a0n.Kids)))
  ((Option.bind (getI a0n.Kids l6) GN.of).bind fun x7 =>
  (g_ref02_item n x7).bind fun r8 =>
  cond (!r8)
   (some false)
   (recl6 (wi (l6+1))))
  (some true)
def g_ref02_Valid (n:Nat) (a0n:GN):Option Bool :=
 (cond (!eqI a0n.Kind 1)
  (some true)
  (cond (!eqS a0n.Name [])
   (some true)
   (cond (!eqI a0n.N 0)
    (some true)
    ((g_ref02_Count n a0n 1500).bind fun r5 =>
    some (ltI 1500 r5))))).bind fun j1 =>
 cond j1
  (some false)
  (loopN (fun recl6 l6=>g_ref02_Valid_l6 n a0n recl6 l6) n 0)
theorem g_ref02_Valid_ok (n:Nat) (a0n:GN):∀ r,g_ref02_Valid n a0n=some r→PCall Tryz.prog 15 [ag (GN.cs a0n)] (.ret (B r)):=by
 refine pcall_sim (X:=fun r:Bool=>AEnd.ret (B r)) Tryz.func15 rfl Tryz.ntmps15 rfl ?_
 unfold g_ref02_Valid
 refine sRK tfm ⟨[qq 1],hq63 a0n⟩ krf (sS (sBi (fun j1=>⟨[qq 1,(21,B j1)],hq63 a0n⟩:Bool→St) ?_ ?_))
 ·refine sG (xR 4 krf ?_)
  refine xS (!eqI a0n.Kind 1) (fun h2=>?_) (fun h2=>?_)
  ·refine xN (want_ft krf h2) krf (xR 13 krf (xE ?_))
   exact nqK true krf
  refine xO (want_ff krf h2) krf (xR 4 krf ?_)
  refine xS (!eqS a0n.Name []) (fun h3=>?_) (fun h3=>?_)
  ·refine xN (want_ft krf h3) krf (xR 8 krf (xE ?_))
   exact nqK true krf
  refine xO (want_ff krf h3) krf (xR 4 krf ?_)
  refine xS (!eqI a0n.N 0) (fun h4=>?_) (fun h4=>?_)
  ·refine xN (want_ft krf h4) krf (xR 3 krf (xE ?_))
   exact nqK true krf
  refine xO (want_ff krf h4) krf ?_
  refine xC [] krf (g_ref02_Count_ok n a0n 1500) krf krf kff (fun r5=>?_)
  refine xR 2 krf (xE ?_)
  exact nqK (ltI 1500 r5) krf
 rintro j1
 refine sC j1 krf ?_ ?_
 ·refine sRK tfm ⟨[(2,B false)],[]⟩ krf (sT (sq_r ?_))
  exact qR (.id) krf krf krf
 refine sK (sNK ⟨[qq 1],hq63 a0n⟩ krf (sS (sRK tfm ⟨[qq 1,(3,I 0)],hq63 a0n⟩ krf (sB (sim_loop (fun l6=>⟨[qq 1,(3,I l6)],hq63 a0n⟩:Int→St) (wsK krf) ?_)))))
 rintro recl6 l6
 show SimE (g_ref02_Valid_l6 n a0n recl6 l6) _ _ _ _ _ _
 unfold g_ref02_Valid_l6
 refine sS (sRK tfm ⟨[qq 1,(3,I l6),(26,B (ltI l6 (lenI (mI a0n.Kids))))],hq63 a0n⟩ krf (sC (ltI l6 (lenI (mI a0n.Kids))) krf ?_ ?_))
 rotate_left
 ·refine sim_exit (sq_x (kq_x (bq_hit (sNK ⟨[],[]⟩ krf (sRK tfm ⟨[(2,B true)],[]⟩ krf (sT ?_))))))
  exact qR (.id) krf krf krf
 refine sK (sNK ⟨[qq 1,(3,I l6)],hq63 a0n⟩ krf (sS (sB (sS (sG (xR 3 krf ?_))))))
 refine xG krf krf (aop_idxR (e:=24) (S:=5) (enc:=GN.cs) (dec:=GN.of) (l:=a0n.Kids) (k:=.i64) (n:=l6) (sv:=.p (.sl 5 (mI a0n.Kids))) GN.of_cs rfl krf krf krf krf krf) (fun x7=>?_)
 refine xR 1 krf ?_
 refine xC [] krf (g_ref02_item_ok n x7) krf krf kff (fun r8=>?_)
 refine xR 1 krf (xE (sNK ⟨[qq 1,(3,I l6),(35,B (!r8))],hq63 a0n⟩ krf (sC (!r8) krf ?_ ?_)))
 ·refine sRK tfm ⟨[(2,B false)],[]⟩ krf (sT (bq_r (sq_r (kq_r (bq_r (sq_r ?_))))))
  exact qR (.id) krf krf krf
 refine sK (bq_n (sNK ⟨[qq 1,(3,I l6)],hq63 a0n⟩ krf (sL tfm krf ?_)))
 exact kqK (wi (l6+1)) krf
def g_law04_SiteMissing_l12 (x8:List UInt8) (x11:GN) (recl12:(Int × (List (List PV)))→Option (List (List PV))) (l12_1:Int) (l12_2:List (List PV)):Option (List (List PV)) :=
 cond (ltI l12_1 (lenI (List.map idc x11.Kids)))
  ((Option.bind (getI x11.Kids l12_1) GN.of).bind fun x13 =>
  (cond (!eqI x13.Kind 3)
   (some true)
   (some (!eqS x13.Name x8))).bind fun j14 =>
  cond j14
   (cond (roomB (List.length (l12_2++[GN.cs x13])) 64) (
    recl12 (wi (l12_1+1),l12_2++[GN.cs x13])) none)
   (recl12 (wi (l12_1+1),l12_2)))
  (some l12_2)
def g_law04_SiteMissing (n:Nat) (a0n:GN) (a1which:Int) (a2key:Int):Option Bool :=
 (g_law04_head n).bind fun r1 =>
 ((g_ref02_Few n a0n 400).bind fun r3 =>
 cond (!r3)
  (some true)
  (some (eqI (lenI (List.map idc a0n.Kids)) 0))).bind fun j2 =>
 cond j2
  (some r1)
  ((g_site_Build n a0n).bind fun r5 =>
  cond (ltI 0 (lenI (List.map GDg.cs r5.2)))
   (some r1)
   (cond (!eqI (lenI (List.map idc a0n.Kids)) 0) (
    (Option.bind (getI a0n.Kids (Int.tmod (wi a1which) (lenI (List.map idc a0n.Kids)))) GN.of).bind fun x6 =>
    (g_ref04_Keys n x6.N).bind fun r7 =>
    cond (eqI (lenI (List.map cstr r7.1)) 0)
     (some r1)
     (cond (!eqI (lenI (List.map cstr r7.1)) 0) (
      (getI r7.1 (Int.tmod (wi a2key) (lenI (List.map cstr r7.1)))).bind fun x8 =>
      (Option.bind (getI a0n.Kids (Int.tmod (wi a1which) (lenI (List.map idc a0n.Kids)))) GN.of).bind fun x9 =>
      ((Option.bind (getI a0n.Kids (Int.tmod (wi a1which) (lenI (List.map idc a0n.Kids)))) GN.of).bind fun x11 =>
      loopN (fun recl12 (l12_1,l12_2)=>g_law04_SiteMissing_l12 x8 x11 recl12 l12_1 l12_2) n (0,[])).bind fun j10 =>
      cond (sliceB 0 (Int.tmod (wi a1which) (lenI (List.map idc a0n.Kids))) (List.length a0n.Kids)) (
       cond (roomB (List.length ([]++(List.drop (Int.toNat 0) (List.take (Int.toNat (Int.tmod (wi a1which) (lenI (List.map idc a0n.Kids)))) a0n.Kids)))) 64) (
        cond (roomB (List.length (([]++(List.drop (Int.toNat 0) (List.take (Int.toNat (Int.tmod (wi a1which) (lenI (List.map idc a0n.Kids)))) a0n.Kids)))++[GN.cs (⟨x9.Kind,x9.Name,x9.N,x9.At,j10⟩:GN)])) 64) (
         cond (sliceB (wi ((Int.tmod (wi a1which) (lenI (List.map idc a0n.Kids)))+1)) (lenI (List.map idc a0n.Kids)) (List.length a0n.Kids)) (
          cond (roomB (List.length ((([]++(List.drop (Int.toNat 0) (List.take (Int.toNat (Int.tmod (wi a1which) (lenI (List.map idc a0n.Kids)))) a0n.Kids)))++[GN.cs (⟨x9.Kind,x9.Name,x9.N,x9.At,j10⟩:GN)])++(List.drop (Int.toNat (wi ((Int.tmod (wi a1which) (lenI (List.map idc a0n.Kids)))+1))) (List.take (Int.toNat (lenI (List.map idc a0n.Kids))) a0n.Kids)))) 64) (
           (g_ref02_Valid n (⟨a0n.Kind,a0n.Name,a0n.N,a0n.At,(([]++(List.drop (Int.toNat 0) (List.take (Int.toNat (Int.tmod (wi a1which) (lenI (List.map idc a0n.Kids)))) a0n.Kids)))++[GN.cs (⟨x9.Kind,x9.Name,x9.N,x9.At,j10⟩:GN)])++(List.drop (Int.toNat (wi ((Int.tmod (wi a1which) (lenI (List.map idc a0n.Kids)))+1))) (List.take (Int.toNat (lenI (List.map idc a0n.Kids))) a0n.Kids))⟩:GN)).bind fun r16 =>
           cond (!r16)
            (some r1)
            ((g_site_Build n (⟨a0n.Kind,a0n.Name,a0n.N,a0n.At,(([]++(List.drop (Int.toNat 0) (List.take (Int.toNat (Int.tmod (wi a1which) (lenI (List.map idc a0n.Kids)))) a0n.Kids)))++[GN.cs (⟨x9.Kind,x9.Name,x9.N,x9.At,j10⟩:GN)])++(List.drop (Int.toNat (wi ((Int.tmod (wi a1which) (lenI (List.map idc a0n.Kids)))+1))) (List.take (Int.toNat (lenI (List.map idc a0n.Kids))) a0n.Kids))⟩:GN)).bind fun r17 =>
            cond r1
             (cond (ltI 0 (lenI (List.map GDg.cs r17.2)))
              ((getI r17.2 0).bind fun x20 =>
              some (opq ((eqI x20.Err 4)&&((eqI x20.At x9.At)&&true))))
              (some false))
             (some false))) none) none) none) none) none) none)) none))
def tq113:=fun x0 x1 x2=>([(1,B8 x0),(2,B8 x1),(3, .ptr 3 0),(7,B x2)]:List (Nat × AV))
def tq114:=fun x0 x1 x2 x3=>([(2,B8 x0),(3, .ptr 3 0),(7,B x1),(10,I x2),(11, .p (.sl 1 (List.map cstr x3)))]:List (Nat × AV))
def tq115:=fun x0 x1 x2=>([(3, .ptr 3 0),(7,B x0),(10,I x1),(13,S x2),(14, .ptr 14 0)]:List (Nat × AV))
def hq118:=fun x0 x1 x2 x3 x4=>([(3, .box 24 (bxc (GN.cs x0))),(14,(bq3 x1 x2 x3 x4))]:List (Nat × Blk))
def bq62:=fun x0 x1 x2 x3 x4=>(.box 24 [I x0,S x1,I x2,I x3, .tsl 5 (List.map idc x4) 98]:Blk)
def hq119:=fun x0 x1 x2 x3 x4 x5=>([(3, .box 24 (bxc (GN.cs x0))),(14,(bq62 x1 x2 x3 x4 x5)),(98, .arr 24 5 (List.map idc x5).length)]:List (Nat × Blk))
def tq116:=fun x0 x1 x2 x3 x4=>([(3, .ptr 3 0),(7,B x0),(10,I x1),(13,S x2),(14, .ptr 14 0),(79, .p (.sl 5 (List.map idc (GN.Kids x3)))),(80,I (lenI (List.map idc (GN.Kids x3)))),(81,I x4)]:List (Nat × AV))
def hq120:=fun x0 x1 x2 x3 x4 x5 x6=>([(3, .box 24 (bxc (GN.cs x0))),(14,(bq62 x1 x2 x3 x4 x5)),(16, .box 24 (bxc (GN.cs x6))),(98, .arr 24 5 (List.map idc x5).length)]:List (Nat × Blk))
def tq117:=fun x0 x1=>([(3, .ptr 3 0),(7,B x0),(10,I x1),(14, .ptr 14 0),(17, .ptr 17 0)]:List (Nat × AV))
def hq121:=fun x0 x1 x2 x3 x4 x5=>([(14,(bq62 x0 x1 x2 x3 x4)),(17,(bq9 x5)),(98, .arr 24 5 (List.map idc x4).length)]:List (Nat × Blk))
theorem g_law04_SiteMissing_ok (n:Nat) (a0n:GN) (a1which:Int) (a2key:Int):∀ r,g_law04_SiteMissing n a0n a1which a2key=some r→PCall Tryz.prog 5 [ag (GN.cs a0n),B8 a1which,B8 a2key] (.ret (B r)):=by
 refine pcall_sim (X:=fun r:Bool=>AEnd.ret (B r)) Tryz.func5 rfl Tryz.ntmps5 rfl ?_
 unfold g_law04_SiteMissing
 refine sRK tfm ⟨[(1,B8 a1which),(2,B8 a2key),qq 3],hq65 a0n⟩ krf (sS (sG ?_))
 refine xC [] krf (g_law04_head_ok n) krf krf kff (fun r1=>?_)
 refine xR 1 krf (xE (sNK ⟨tq113 a1which a2key r1,hq65 a0n⟩ krf (sS (sBi (fun j2=>⟨[(1,B8 a1which),(2,B8 a2key),qq 3,(7,B r1),(29,B j2)],hq65 a0n⟩:Bool→St) ?_ ?_))))
 ·refine sG (xR 1 krf ?_)
  refine xC [] krf (g_ref02_Few_ok n a0n 400) krf krf kff (fun r3=>?_)
  refine xR 2 krf ?_
  refine xS (!r3) (fun h4=>?_) (fun h4=>?_)
  ·refine xN (want_ft krf h4) krf (xR 4 krf (xE ?_))
   exact nqK true krf
  refine xO (want_ff krf h4) krf (xR 4 krf (xE ?_))
  exact nqK (eqI (lenI (mI a0n.Kids)) 0) krf
 rintro j2
 refine sC j2 krf ?_ ?_
 ·refine sRK tfm ⟨[(6,B r1)],[]⟩ krf (sT (sq_r ?_))
  exact qR (.id) krf krf krf
 refine sK (sNK ⟨tq113 a1which a2key r1,hq65 a0n⟩ krf (sS (sS (sG (xR 1 krf ?_)))))
 refine xC [] krf (g_site_Build_ok n a0n) krf krf kff (fun r5=>?_)
 refine xR 6 krf (xE (sNK ⟨[(1,B8 a1which),(2,B8 a2key),qq 3,(7,B r1),(9, .p (.sl 2 (mDg r5.2)))],hq65 a0n⟩ krf (sRK tfm ⟨[(1,B8 a1which),(2,B8 a2key),qq 3,(7,B r1),(38,B (ltI 0 (lenI (mDg r5.2))))],hq65 a0n⟩ krf (sC (ltI 0 (lenI (mDg r5.2))) krf ?_ ?_))))
 ·refine sRK tfm ⟨[(6,B r1)],[]⟩ krf (sT (sq_r ?_))
  exact qR (.id) krf krf krf
 refine sK (sNK ⟨tq113 a1which a2key r1,hq65 a0n⟩ krf (sS (sG (xR 5 krf (xF krf krf (aop_rem (k:=.i64) (a:=wi a1which) (b:=lenI (mI a0n.Kids)) rfl krf krf) (xR 1 krf (xE ?_)))))))
 refine sNK ⟨[(2,B8 a2key),qq 3,(7,B r1),(10,I (Int.tmod (wi a1which) (lenI (mI a0n.Kids))))],hq65 a0n⟩ krf (sS (sG (xR 3 krf ?_)))
 refine xG krf krf (aop_idxR (e:=24) (S:=5) (enc:=GN.cs) (dec:=GN.of) (l:=a0n.Kids) (k:=.i64) (n:=Int.tmod (wi a1which) (lenI (mI a0n.Kids))) (sv:=.p (.sl 5 (mI a0n.Kids))) GN.of_cs rfl krf krf krf krf krf) (fun x6=>?_)
 refine xR 2 krf ?_
 refine xC [] krf (g_ref04_Keys_ok n x6.N) krf krf kff (fun r7=>?_)
 refine xR 5 krf (xE (sNK ⟨tq114 a2key r1 (Int.tmod (wi a1which) (lenI (mI a0n.Kids))) r7.1,hq65 a0n⟩ krf (sS (sRK tfm ⟨[(2,B8 a2key),qq 3,(7,B r1),(10,I (Int.tmod (wi a1which) (lenI (mI a0n.Kids)))),(11, .p (.sl 1 (List.map cstr r7.1))),(58,B (eqI (lenI (List.map cstr r7.1)) 0))],hq65 a0n⟩ krf (sC (eqI (lenI (List.map cstr r7.1)) 0) krf ?_ ?_)))))
 ·refine sRK tfm ⟨[(6,B r1)],[]⟩ krf (sT (sq_r ?_))
  exact qR (.id) krf krf krf
 refine sK (sNK ⟨tq114 a2key r1 (Int.tmod (wi a1which) (lenI (mI a0n.Kids))) r7.1,hq65 a0n⟩ krf (sS (sG (xR 5 krf (xF krf krf (aop_rem (k:=.i64) (a:=wi a2key) (b:=lenI (List.map cstr r7.1)) rfl krf krf) ?_)))))
 refine xG krf krf (aop_idx (e:=9) (S:=1) (enc:=cstr) (l:=r7.1) (k:=.i64) (n:=Int.tmod (wi a2key) (lenI (List.map cstr r7.1))) (sv:=.p (.sl 1 (List.map cstr r7.1))) rfl krf krf krf krf krf) (fun x8=>?_)
 refine xR 2 krf (xE (sNK ⟨[qq 3,(7,B r1),(10,I (Int.tmod (wi a1which) (lenI (mI a0n.Kids)))),(13,S x8)],hq65 a0n⟩ krf (sS (sG (xR 3 krf ?_)))))
 refine xG krf krf (aop_idxR (e:=24) (S:=5) (enc:=GN.cs) (dec:=GN.of) (l:=a0n.Kids) (k:=.i64) (n:=Int.tmod (wi a1which) (lenI (mI a0n.Kids))) (sv:=.p (.sl 5 (mI a0n.Kids))) GN.of_cs rfl krf krf krf krf krf) (fun x9=>?_)
 refine xR 3 krf (xE (sNK ⟨tq115 r1 (Int.tmod (wi a1which) (lenI (mI a0n.Kids))) x8,[(3,bGN24 a0n),(14,bGN24 x9)]⟩ krf (sRK tfm ⟨tq115 r1 (Int.tmod (wi a1which) (lenI (mI a0n.Kids))) x8,hq118 a0n x9.Kind x9.Name x9.N x9.At⟩ krf (sBi (fun j10=>⟨[qq 3,(7,B r1),(10,I (Int.tmod (wi a1which) (lenI (mI a0n.Kids)))),qq 14],hq119 a0n x9.Kind x9.Name x9.N x9.At j10⟩:(List (List PV))→St) ?_ ?_))))
 ·refine sS (sG (xR 3 krf ?_))
  refine xG krf krf (aop_idxR (e:=24) (S:=5) (enc:=GN.cs) (dec:=GN.of) (l:=a0n.Kids) (k:=.i64) (n:=Int.tmod (wi a1which) (lenI (mI a0n.Kids))) (sv:=.p (.sl 5 (mI a0n.Kids))) GN.of_cs rfl krf krf krf krf krf) (fun x11=>?_)
  refine xR 4 krf (xE (sNK ⟨tq116 r1 (Int.tmod (wi a1which) (lenI (mI a0n.Kids))) x8 x11 0,hq118 a0n x9.Kind x9.Name x9.N x9.At⟩ krf (sB (sPK ⟨tq116 r1 (Int.tmod (wi a1which) (lenI (mI a0n.Kids))) x8 x11 0,hq118 a0n x9.Kind x9.Name x9.N x9.At⟩ krf (sim_weak (weak_pn 24 5 98 [] [(14,4)] krf) (sim_loop (fun (l12_1,l12_2)=>⟨tq116 r1 (Int.tmod (wi a1which) (lenI (mI a0n.Kids))) x8 x11 l12_1,hq119 a0n x9.Kind x9.Name x9.N x9.At l12_2⟩:(Int × (List (List PV)))→St) (wsK krf) ?_))))))
  rintro recl12 ⟨l12_1,l12_2⟩
  show SimE (g_law04_SiteMissing_l12 x8 x11 recl12 l12_1 l12_2) _ _ _ _ _ _
  unfold g_law04_SiteMissing_l12
  refine sRK tfm ⟨[qq 3,(7,B r1),(10,I (Int.tmod (wi a1which) (lenI (mI a0n.Kids)))),(13,S x8),qq 14,(79, .p (.sl 5 (mI x11.Kids))),(80,I (lenI (mI x11.Kids))),(81,I l12_1),(82,B (ltI l12_1 (lenI (mI x11.Kids))))],hq119 a0n x9.Kind x9.Name x9.N x9.At l12_2⟩ krf (sS (sC (ltI l12_1 (lenI (mI x11.Kids))) krf ?_ ?_))
  rotate_left
  ·refine sim_exit (sq_x (kq_x (bq_hit ?_)))
   exact nqK l12_2 krf
  refine sK (sNK ⟨tq116 r1 (Int.tmod (wi a1which) (lenI (mI a0n.Kids))) x8 x11 l12_1,hq119 a0n x9.Kind x9.Name x9.N x9.At l12_2⟩ krf (sS (sB (sS (sG ?_)))))
  refine xG krf krf (aop_idxR (e:=24) (S:=5) (enc:=GN.cs) (dec:=GN.of) (l:=x11.Kids) (k:=.i64) (n:=l12_1) (sv:=.p (.sl 5 (mI x11.Kids))) GN.of_cs rfl krf krf krf krf krf) (fun x13=>?_)
  refine xR 3 krf (xE (sNK ⟨[qq 3,(7,B r1),(10,I (Int.tmod (wi a1which) (lenI (mI a0n.Kids)))),(13,S x8),qq 14,qq 16,(79, .p (.sl 5 (mI x11.Kids))),(80,I (lenI (mI x11.Kids))),(81,I l12_1)],hq120 a0n x9.Kind x9.Name x9.N x9.At l12_2 x13⟩ krf (sBi (fun j14=>⟨[qq 3,(7,B r1),(10,I (Int.tmod (wi a1which) (lenI (mI a0n.Kids)))),(13,S x8),qq 14,qq 16,(79, .p (.sl 5 (mI x11.Kids))),(80,I (lenI (mI x11.Kids))),(81,I l12_1),(93,B j14)],hq120 a0n x9.Kind x9.Name x9.N x9.At l12_2 x13⟩:Bool→St) ?_ ?_)))
  ·refine sG (xR 4 krf ?_)
   refine xS (!eqI x13.Kind 3) (fun h15=>?_) (fun h15=>?_)
   ·refine xN (want_ft krf h15) krf (xR 4 krf (xE ?_))
    exact nqK true krf
   refine xO (want_ff krf h15) krf (xR 4 krf (xE ?_))
   exact nqK (!eqS x13.Name x8) krf
  rintro j14
  refine sC j14 krf ?_ ?_
  ·refine sG (xR 4 krf (xF krf krf (aop_app (e:=24) (S:=5) (by_:=64) (enc:=idc) (tk:=98) (l:=l12_2) (l2:=[GN.cs x13]) (xv:=.tsl 5 (mI [GN.cs x13]) 97) rfl krf krf rfl krf krf krf rfl krf) (xR 2 krf (xE (bq_n (sNK ⟨tq116 r1 (Int.tmod (wi a1which) (lenI (mI a0n.Kids))) x8 x11 l12_1,[(3,bGN24 a0n),(14,(bq62 x9.Kind x9.Name x9.N x9.At (l12_2++[GN.cs x13]))),(98,(bq4 (l12_2++[GN.cs x13])))]⟩ krf (sL tfm krf ?_)))))))
   exact kqK (wi (l12_1+1),l12_2++[GN.cs x13]) krf
  refine sK (bq_n (sNK ⟨tq116 r1 (Int.tmod (wi a1which) (lenI (mI a0n.Kids))) x8 x11 l12_1,hq119 a0n x9.Kind x9.Name x9.N x9.At l12_2⟩ krf (sL tfm krf ?_)))
  exact kqK (wi (l12_1+1),l12_2) krf
 rintro j10
 refine sRK tfm ⟨tq117 r1 (Int.tmod (wi a1which) (lenI (mI a0n.Kids))),[(3,bGN24 a0n),(14,(bq62 x9.Kind x9.Name x9.N x9.At j10)),(17,bGN24 a0n),(98,amI24 j10)]⟩ krf (sS (sDr tfm rfl (xR 4 krf (xF krf krf (aop_slice (e:=24) (S:=5) (enc:=idc) (l:=a0n.Kids) (sv:=.p (.sl 5 (mI a0n.Kids))) (a:=0) (b:=Int.tmod (wi a1which) (lenI (mI a0n.Kids))) rfl krf krf krf krf krf krf) (xF krf krf (aop_vapp (e:=24) (S:=5) (by_:=64) (enc:=idc) (tk:=102) (l:=[]) (l2:=List.drop (Int.toNat 0) (List.take (Int.toNat (Int.tmod (wi a1which) (lenI (mI a0n.Kids)))) a0n.Kids)) (xv:=.p (.sl 5 (mI (List.drop (Int.toNat 0) (List.take (Int.toNat (Int.tmod (wi a1which) (lenI (mI a0n.Kids)))) a0n.Kids))))) (n:=(mI []).length) rfl krf krf rfl krf krf krf krf zq) (xR 2 krf (xF krf krf (aop_vapp (e:=24) (S:=5) (by_:=64) (enc:=idc) (tk:=102) (l:=[]++(List.drop (Int.toNat 0) (List.take (Int.toNat (Int.tmod (wi a1which) (lenI (mI a0n.Kids)))) a0n.Kids))) (l2:=[GN.cs (⟨x9.Kind,x9.Name,x9.N,x9.At,j10⟩:GN)]) (xv:=.tsl 5 (mI [GN.cs (⟨x9.Kind,x9.Name,x9.N,x9.At,j10⟩:GN)]) 109) (n:=(mI ([]++(List.drop (Int.toNat 0) (List.take (Int.toNat (Int.tmod (wi a1which) (lenI (mI a0n.Kids)))) a0n.Kids)))).length) rfl krf krf rfl krf krf krf krf zq) ?_)))))))
 refine xR 2 krf (xED krf (sNK ⟨tq117 r1 (Int.tmod (wi a1which) (lenI (mI a0n.Kids))),[(3,bGN24 a0n),(14,(bq62 x9.Kind x9.Name x9.N x9.At j10)),(17, .box 24 [I a0n.Kind,S a0n.Name,I a0n.N,I a0n.At, .vsl 5 102 (mI (([]++(List.drop (Int.toNat 0) (List.take (Int.toNat (Int.tmod (wi a1which) (lenI (mI a0n.Kids)))) a0n.Kids)))++[GN.cs (⟨x9.Kind,x9.Name,x9.N,x9.At,j10⟩:GN)])).length]),(98,amI24 j10),(102, .vec 24 5 (mI (([]++(List.drop (Int.toNat 0) (List.take (Int.toNat (Int.tmod (wi a1which) (lenI (mI a0n.Kids)))) a0n.Kids)))++[GN.cs (⟨x9.Kind,x9.Name,x9.N,x9.At,j10⟩:GN)])))]⟩ krf (sS (sDr tfm rfl (xR 6 krf (xF krf krf (aop_slice (e:=24) (S:=5) (enc:=idc) (l:=a0n.Kids) (sv:=.p (.sl 5 (mI a0n.Kids))) (a:=wi ((Int.tmod (wi a1which) (lenI (mI a0n.Kids)))+1)) (b:=lenI (mI a0n.Kids)) rfl krf krf krf krf krf krf) (xF krf krf (aop_vapp (e:=24) (S:=5) (by_:=64) (enc:=idc) (tk:=102) (l:=([]++(List.drop (Int.toNat 0) (List.take (Int.toNat (Int.tmod (wi a1which) (lenI (mI a0n.Kids)))) a0n.Kids)))++[GN.cs (⟨x9.Kind,x9.Name,x9.N,x9.At,j10⟩:GN)]) (l2:=List.drop (Int.toNat (wi ((Int.tmod (wi a1which) (lenI (mI a0n.Kids)))+1))) (List.take (Int.toNat (lenI (mI a0n.Kids))) a0n.Kids)) (xv:=.p (.sl 5 (mI (List.drop (Int.toNat (wi ((Int.tmod (wi a1which) (lenI (mI a0n.Kids)))+1))) (List.take (Int.toNat (lenI (mI a0n.Kids))) a0n.Kids))))) (n:=(mI (([]++(List.drop (Int.toNat 0) (List.take (Int.toNat (Int.tmod (wi a1which) (lenI (mI a0n.Kids)))) a0n.Kids)))++[GN.cs (⟨x9.Kind,x9.Name,x9.N,x9.At,j10⟩:GN)])).length) rfl krf krf rfl krf krf krf krf zq) ?_)))))))
 refine xR 2 krf (xED krf (sNK ⟨[(7,B r1),qq 14,qq 17],[(14,(bq62 x9.Kind x9.Name x9.N x9.At j10)),(17, .box 24 [I a0n.Kind,S a0n.Name,I a0n.N,I a0n.At, .vsl 5 102 (mI ((([]++(List.drop (Int.toNat 0) (List.take (Int.toNat (Int.tmod (wi a1which) (lenI (mI a0n.Kids)))) a0n.Kids)))++[GN.cs (⟨x9.Kind,x9.Name,x9.N,x9.At,j10⟩:GN)])++(List.drop (Int.toNat (wi ((Int.tmod (wi a1which) (lenI (mI a0n.Kids)))+1))) (List.take (Int.toNat (lenI (mI a0n.Kids))) a0n.Kids)))).length]),(98,amI24 j10),(102, .vec 24 5 (mI ((([]++(List.drop (Int.toNat 0) (List.take (Int.toNat (Int.tmod (wi a1which) (lenI (mI a0n.Kids)))) a0n.Kids)))++[GN.cs (⟨x9.Kind,x9.Name,x9.N,x9.At,j10⟩:GN)])++(List.drop (Int.toNat (wi ((Int.tmod (wi a1which) (lenI (mI a0n.Kids)))+1))) (List.take (Int.toNat (lenI (mI a0n.Kids))) a0n.Kids)))))]⟩ krf (sim_weak (weak_vfz 102 24 5 (mI ((([]++(List.drop (Int.toNat 0) (List.take (Int.toNat (Int.tmod (wi a1which) (lenI (mI a0n.Kids)))) a0n.Kids)))++[GN.cs (⟨x9.Kind,x9.Name,x9.N,x9.At,j10⟩:GN)])++(List.drop (Int.toNat (wi ((Int.tmod (wi a1which) (lenI (mI a0n.Kids)))+1))) (List.take (Int.toNat (lenI (mI a0n.Kids))) a0n.Kids)))) [(mI ((([]++(List.drop (Int.toNat 0) (List.take (Int.toNat (Int.tmod (wi a1which) (lenI (mI a0n.Kids)))) a0n.Kids)))++[GN.cs (⟨x9.Kind,x9.Name,x9.N,x9.At,j10⟩:GN)])++(List.drop (Int.toNat (wi ((Int.tmod (wi a1which) (lenI (mI a0n.Kids)))+1))) (List.take (Int.toNat (lenI (mI a0n.Kids))) a0n.Kids)))).length] krf krf zq krf krf) (sS (sS (sG (xR 1 krf ?_)))))))
 refine xC [] krf (g_ref02_Valid_ok n (⟨a0n.Kind,a0n.Name,a0n.N,a0n.At,(([]++(List.drop (Int.toNat 0) (List.take (Int.toNat (Int.tmod (wi a1which) (lenI (mI a0n.Kids)))) a0n.Kids)))++[GN.cs (⟨x9.Kind,x9.Name,x9.N,x9.At,j10⟩:GN)])++(List.drop (Int.toNat (wi ((Int.tmod (wi a1which) (lenI (mI a0n.Kids)))+1))) (List.take (Int.toNat (lenI (mI a0n.Kids))) a0n.Kids))⟩:GN)) krf krf kff (fun r16=>?_)
 refine xR 1 krf (xE (sNK ⟨[(7,B r1),qq 14,qq 17,(123,B (!r16))],hq121 x9.Kind x9.Name x9.N x9.At j10 ⟨a0n.Kind,a0n.Name,a0n.N,a0n.At,(([]++(List.drop (Int.toNat 0) (List.take (Int.toNat (Int.tmod (wi a1which) (lenI (mI a0n.Kids)))) a0n.Kids)))++[GN.cs (⟨x9.Kind,x9.Name,x9.N,x9.At,j10⟩:GN)])++(List.drop (Int.toNat (wi ((Int.tmod (wi a1which) (lenI (mI a0n.Kids)))+1))) (List.take (Int.toNat (lenI (mI a0n.Kids))) a0n.Kids))⟩⟩ krf (sC (!r16) krf ?_ ?_)))
 ·refine sRK tfm ⟨[(6,B r1)],[]⟩ krf (sT (sq_r ?_))
  exact qR (.id) krf krf krf
 refine sK (sNK ⟨[(7,B r1),qq 14,qq 17],hq121 x9.Kind x9.Name x9.N x9.At j10 ⟨a0n.Kind,a0n.Name,a0n.N,a0n.At,(([]++(List.drop (Int.toNat 0) (List.take (Int.toNat (Int.tmod (wi a1which) (lenI (mI a0n.Kids)))) a0n.Kids)))++[GN.cs (⟨x9.Kind,x9.Name,x9.N,x9.At,j10⟩:GN)])++(List.drop (Int.toNat (wi ((Int.tmod (wi a1which) (lenI (mI a0n.Kids)))+1))) (List.take (Int.toNat (lenI (mI a0n.Kids))) a0n.Kids))⟩⟩ krf (sS (sG (xR 1 krf ?_))))
 refine xC [] krf (g_site_Build_ok n (⟨a0n.Kind,a0n.Name,a0n.N,a0n.At,(([]++(List.drop (Int.toNat 0) (List.take (Int.toNat (Int.tmod (wi a1which) (lenI (mI a0n.Kids)))) a0n.Kids)))++[GN.cs (⟨x9.Kind,x9.Name,x9.N,x9.At,j10⟩:GN)])++(List.drop (Int.toNat (wi ((Int.tmod (wi a1which) (lenI (mI a0n.Kids)))+1))) (List.take (Int.toNat (lenI (mI a0n.Kids))) a0n.Kids))⟩:GN)) krf krf kff (fun r17=>?_)
 refine xR 6 krf (xE (sNK ⟨[(7,B r1),qq 14,(19, .p (.sl 2 (mDg r17.2)))],[(14,(bq62 x9.Kind x9.Name x9.N x9.At j10)),(98,amI24 j10)]⟩ krf (sS (sDr tfm rfl (xR 2 krf ?_)))))
 refine xS r1 (fun h18=>?_) (fun h18=>?_)
 rotate_left
 ·refine xN (want_tf krf h18) krf (xR 13 krf (xED krf (sNK ⟨[(6,B false)],[]⟩ krf (sT ?_))))
  exact qR (.id) krf krf krf
 refine xO (want_tt krf h18) krf (xR 4 krf ?_)
 refine xS (ltI 0 (lenI (mDg r17.2))) (fun h19=>?_) (fun h19=>?_)
 ·refine xO (want_tt krf h19) krf ?_
  refine xG krf krf (aop_idx (e:=65) (S:=2) (enc:=GDg.cs) (l:=r17.2) (k:=.i64) (n:=0) (sv:=.p (.sl 2 (mDg r17.2))) rfl krf krf krf krf krf) (fun x20=>?_)
  refine xR 4 krf (xs_u krf krf (aop_eql (xs:=[I x20.Err,I x20.At]) (ys:=[I 4,I x9.At]) (vx:=[.int .i64 x20.Err, .int .i64 x20.At]) (vy:=[.int .i64 4, .int .i64 x9.At]) (b:=(eqI x20.Err 4)&&((eqI x20.At x9.At)&&true)) rfl krf krf krf krf krf krf) (xR 2 krf (xED krf (sNK ⟨[(6,B (opq ((eqI x20.Err 4)&&((eqI x20.At x9.At)&&true))))],[]⟩ krf (sT ?_)))))
  exact qR (.id) krf krf krf
 refine xN (want_tf krf h19) krf (xR 8 krf (xED krf (sNK ⟨[(6,B false)],[]⟩ krf (sT ?_))))
 exact qR (.id) krf krf krf
structure GAr where
 Kind:Int
 Days:Int
 From:Int
 To:Int
 Price:Int
 Unit:Int
 Free:Int
deriving DecidableEq
def GAr.cs (x:GAr):List PV:=[VI x.Kind,VI x.Days,VI x.From,VI x.To,VI x.Price,VI x.Unit,VI x.Free]
structure GTr where
 article:GAr
 values:List (List PV)
 good:Bool
def GTr.cs (x:GTr):List PV:=[VI x.article.Kind,VI x.article.Days,VI x.article.From,VI x.article.To,VI x.article.Price,VI x.article.Unit,VI x.article.Free, .sl 5 (List.map idc x.values),VB x.good]
structure GTf where
 Name:List UInt8
 Articles:List GAr
deriving DecidableEq
def GTf.cs (x:GTf):List PV:=[VS x.Name, .sl 7 (List.map GAr.cs x.Articles)]
structure GCh where
 At:Int
 Offset:Int
deriving DecidableEq
def GCh.cs (x:GCh):List PV:=[VI x.At,VI x.Offset]
structure GCl where
 Offset:Int
 Changes:List GCh
 Holidays:List Int
deriving DecidableEq
def GCl.cs (x:GCl):List PV:=[VI x.Offset, .sl 2 (List.map GCh.cs x.Changes), .sl 1 (List.map ci x.Holidays)]
structure GQuoteQuoted where
 Tariff:GTf
 calendar:GCl
 from_:Int
 to_:Int
deriving DecidableEq
def GQuoteQuoted.cs (x:GQuoteQuoted):List PV:=[VS x.Tariff.Name, .sl 7 (List.map GAr.cs x.Tariff.Articles),VI x.calendar.Offset, .sl 2 (List.map GCh.cs x.calendar.Changes), .sl 1 (List.map ci x.calendar.Holidays),VI x.from_,VI x.to_]
structure GSl where
 Minute:Int
 Energy:Int
deriving DecidableEq
def GSl.cs (x:GSl):List PV:=[VI x.Minute,VI x.Energy]
structure GSs where
 From:Int
 To:Int
 End:Int
 Slices:List GSl
deriving DecidableEq
def GSs.cs (x:GSs):List PV:=[VI x.From,VI x.To,VI x.End, .sl 2 (List.map GSl.cs x.Slices)]
structure GLine where
 Article:Int
 Amount:Int
deriving DecidableEq
def GLine.cs (x:GLine):List PV:=[VI x.Article,VI x.Amount]
structure GBill where
 Lines:List GLine
 Net:Int
 Tax:Int
 Total:Int
deriving DecidableEq
def GBill.cs (x:GBill):List PV:=[.sl 2 (List.map GLine.cs x.Lines),VI x.Net,VI x.Tax,VI x.Total]
structure GBB where
 article:GAr
 calendar:GCl
 session:GSs
deriving DecidableEq
def GBB.cs (x:GBB):List PV:=[VI x.article.Kind,VI x.article.Days,VI x.article.From,VI x.article.To,VI x.article.Price,VI x.article.Unit,VI x.article.Free,VI x.calendar.Offset, .sl 2 (List.map GCh.cs x.calendar.Changes), .sl 1 (List.map ci x.calendar.Holidays),VI x.session.From,VI x.session.To,VI x.session.End, .sl 2 (List.map GSl.cs x.session.Slices)]
structure GReading where
 Serial:Int
 Number:Int
 Minute:Int
 Register:Int
 Link:Int
deriving DecidableEq
def GReading.cs (x:GReading):List PV:=[VI x.Serial,VI x.Number,VI x.Minute,VI x.Register,VU x.Link]
structure GClaim where
 Tariff:GTf
 Calendar:GCl
 Readings:List GReading
 Seed:Int
 Session:GSs
 Bill:GBill
deriving DecidableEq
def GClaim.cs (x:GClaim):List PV:=[VS x.Tariff.Name, .sl 7 (List.map GAr.cs x.Tariff.Articles),VI x.Calendar.Offset, .sl 2 (List.map GCh.cs x.Calendar.Changes), .sl 1 (List.map ci x.Calendar.Holidays), .sl 5 (List.map GReading.cs x.Readings),VU x.Seed,VI x.Session.From,VI x.Session.To,VI x.Session.End, .sl 2 (List.map GSl.cs x.Session.Slices), .sl 2 (List.map GLine.cs x.Bill.Lines),VI x.Bill.Net,VI x.Bill.Tax,VI x.Bill.Total]
structure GAE where
 Claim:GClaim
 follows:GSs
 bill:GBill
 rate:Int
deriving DecidableEq
def GAE.cs (x:GAE):List PV:=[VS x.Claim.Tariff.Name, .sl 7 (List.map GAr.cs x.Claim.Tariff.Articles),VI x.Claim.Calendar.Offset, .sl 2 (List.map GCh.cs x.Claim.Calendar.Changes), .sl 1 (List.map ci x.Claim.Calendar.Holidays), .sl 5 (List.map GReading.cs x.Claim.Readings),VU x.Claim.Seed,VI x.Claim.Session.From,VI x.Claim.Session.To,VI x.Claim.Session.End, .sl 2 (List.map GSl.cs x.Claim.Session.Slices), .sl 2 (List.map GLine.cs x.Claim.Bill.Lines),VI x.Claim.Bill.Net,VI x.Claim.Bill.Tax,VI x.Claim.Bill.Total,VI x.follows.From,VI x.follows.To,VI x.follows.End, .sl 2 (List.map GSl.cs x.follows.Slices), .sl 2 (List.map GLine.cs x.bill.Lines),VI x.bill.Net,VI x.bill.Tax,VI x.bill.Total,VI x.rate]
def g_a_isKey (n:Nat) (a0w:List UInt8):Option Bool :=
 (cond (eqS a0w [102,101,101,100,101,114])
  (some (eqS a0w [102,101,101,100,101,114]))
  (cond (eqS a0w [99,97,98,108,101])
   (some (eqS a0w [99,97,98,108,101]))
   (cond (eqS a0w [111,119,110,101,114])
    (some (eqS a0w [111,119,110,101,114]))
    (cond (eqS a0w [99,111,110,116,114,97,99,116])
     (some (eqS a0w [99,111,110,116,114,97,99,116]))
     (cond (eqS a0w [99,104,97,114,103,101,114])
      (some (eqS a0w [99,104,97,114,103,101,114]))
      (cond (eqS a0w [98,97,121])
       (some (eqS a0w [98,97,121]))
       (some (eqS a0w [116,97,114,105,102,102])))))))).bind fun j1 =>
 cond j1
  (some true)
  ((cond (eqS a0w [108,105,109,105,116])
   (some (eqS a0w [108,105,109,105,116]))
   (cond (eqS a0w [110,101,117,116,114,97,108])
    (some (eqS a0w [110,101,117,116,114,97,108]))
    (cond (eqS a0w [102,117,115,101])
     (some (eqS a0w [102,117,115,101]))
     (cond (eqS a0w [116,104,101,114,109,97,108])
      (some (eqS a0w [116,104,101,114,109,97,108]))
      (cond (eqS a0w [102,114,111,109])
       (some (eqS a0w [102,114,111,109]))
       (cond (eqS a0w [97,116])
        (some (eqS a0w [97,116]))
        (cond (eqS a0w [112,104,97,115,101,115])
         (some (eqS a0w [112,104,97,115,101,115]))
         (cond (eqS a0w [97,109,112,115])
          (some (eqS a0w [97,109,112,115]))
          (cond (eqS a0w [102,97,108,108,98,97,99,107])
           (some (eqS a0w [102,97,108,108,98,97,99,107]))
           (cond (eqS a0w [99,97,114,100])
            (some (eqS a0w [99,97,114,100]))
            (some (eqS a0w [114,97,110,107])))))))))))).bind fun j2 =>
  cond j2
   (some true)
   ((cond (eqS a0w [115,116,97,114,116])
    (some (eqS a0w [115,116,97,114,116]))
    (cond (eqS a0w [101,110,101,114,103,121])
     (some (eqS a0w [101,110,101,114,103,121]))
     (cond (eqS a0w [116,105,109,101])
      (some (eqS a0w [116,105,109,101]))
      (cond (eqS a0w [105,100,108,101])
       (some (eqS a0w [105,100,108,101]))
       (cond (eqS a0w [99,97,112])
        (some (eqS a0w [99,97,112]))
        (some (eqS a0w [116,97,120]))))))).bind fun j3 =>
   cond j3
    (some true)
    ((cond (eqS a0w [111,110])
     (some (eqS a0w [111,110]))
     (cond (eqS a0w [119,111,114,107])
      (some (eqS a0w [119,111,114,107]))
      (cond (eqS a0w [115,97,116,117,114,100,97,121])
       (some (eqS a0w [115,97,116,117,114,100,97,121]))
       (cond (eqS a0w [115,117,110,100,97,121])
        (some (eqS a0w [115,117,110,100,97,121]))
        (cond (eqS a0w [98,101,116,119,101,101,110])
         (some (eqS a0w [98,101,116,119,101,101,110]))
         (cond (eqS a0w [112,101,114])
          (some (eqS a0w [112,101,114]))
          (some (eqS a0w [102,114,101,101])))))))).bind fun j4 =>
    cond j4
     (some true)
     (some false))))
structure GLs where
 from_:Int
 to_:Int
deriving DecidableEq
def GLs.cs (x:GLs):List PV:=[VI x.from_,VI x.to_]
end Go.Proofs
namespace Go.Proofs
open Go Go.Abs Go.ChangeShapes Go.WideShapes Go.ChangeAt Go.RowKit Go.Proofs.YteakahdpnpecoaaGreat
set_option maxRecDepth 100000
def GN.wfd:Nat→GN→Prop
 | 0,_=>False
 | d+1,x=>i64b x.Kind∧strb x.Name∧i64b x.N∧i64b x.At∧(List.length x.Kids≤maxLen∧∀ k ∈ x.Kids,∃ y:GN,k=GN.cs y∧GN.wfd d y)
theorem GN.wfd_succ:∀ (d:Nat) (x:GN),GN.wfd d x→GN.wfd (d+1) x
 | 0,_,h=>h.elim
 | d+1,x,h=>by
  obtain ⟨h0,h1,h2,h3,h4⟩:=h
  exact ⟨h0,h1,h2,h3,⟨h4.1,fun k hk=>by obtain ⟨y,e,g⟩:=h4.2 k hk; exact ⟨y,e,GN.wfd_succ d y g⟩⟩⟩
theorem sh_GN:∀ (d:Nat) (cs:List PV),Sh Tryz.prog d 24 cs→∃ r:GN,cs=GN.cs r∧GN.wfd d r
 | 0,_,h=>h.elim
 | 1,cs,h=>by
  have h:=sh_struct Tryz.underlying24 h
  obtain ⟨_,_,rfl,h0,_,_,rfl,h1,_,_,rfl,h2,_,_,rfl,h3,_,_,rfl,h4,rfl⟩:=h
  exact h0.elim
 | d+2,cs,h=>by
  have h:=sh_struct Tryz.underlying24 h
  obtain ⟨_,_,rfl,h0,_,_,rfl,h1,_,_,rfl,h2,_,_,rfl,h3,_,_,rfl,h4,rfl⟩:=h
  obtain ⟨x0,rfl,w0⟩:=sh_i64 Tryz.underlying3 h0
  obtain ⟨x1,rfl,w1⟩:=sh_str Tryz.underlying9 h1
  obtain ⟨x2,rfl,w2⟩:=sh_i64 Tryz.underlying3 h2
  obtain ⟨x3,rfl,w3⟩:=sh_i64 Tryz.underlying3 h3
  simp only [Sh,Tryz.underlying22] at h4
  obtain ⟨x4,rfl,w4,g4⟩:=h4
  refine ⟨⟨x0,x1,x2,x3,x4⟩,?_,w0,w1,w2,w3,w4,fun k hk=>?_⟩
  ·simp only [GN.cs,map_idc,show Tryz.prog.cellsOf 24=5 from by kernel_rfl,List.cons_append,List.nil_append,List.append_nil]
  ·obtain ⟨y,e,g⟩:=sh_GN d k (g4 k hk)
   exact ⟨y,e,GN.wfd_succ d y g⟩
theorem sh_GN_ex {d:Nat} {cs:List PV} (h:Sh Tryz.prog d 24 cs):∃ r:GN,cs=GN.cs r∧∃ d,GN.wfd d r:=by
 obtain ⟨r,e,g⟩:=sh_GN d cs h
 exact ⟨r,e,d,g⟩
def SiteMissingPlain:Prop:=∀ (a0:GN) (a1:Int) (a2:Int),(fun x=>∃ d,GN.wfd d x) a0→u8b a1→u8b a2→∃ n,g_law04_SiteMissing n a0 a1 a2=some true
theorem siteMissing_call (h:SiteMissingPlain):∀ (D:Nat) xs,ArgsSh Tryz.prog (D+9) Tryz.f5.params.toList xs→PCall Tryz.prog 5 xs (.ret (.p (.val (.bool true)))):=by
 intro D xs ha
 rw [Tryz.params5] at ha
 obtain ⟨_,_,rfl,h0,_,_,rfl,h1,_,_,rfl,h2,rfl⟩:=ha
 obtain ⟨a0,rfl,w0⟩:=sh_GN_ex h0
 obtain ⟨a1,rfl,w1⟩:=sh_u8 Tryz.underlying5 h1
 obtain ⟨a2,rfl,w2⟩:=sh_u8 Tryz.underlying5 h2
 obtain ⟨n,hn⟩:=h a0 a1 a2 w0 w1 w2
 simp only [avOf_struct Tryz.underlying24,avOf_int Tryz.underlying5]
 exact g_law04_SiteMissing_ok n a0 a1 a2 true hn
set_option maxRecDepth 100000 in
theorem siteMissing_lifted (h:SiteMissingPlain) (os:Os) (started:os.Started) (H:Type) (enc:TypeId × Value→H) :
  ReturnsInHanded {} Tryz.checked os 5 .any (Rows.siteMissingSpec.pre6 enc Tryz.prog Tryz.f5 Rows.siteMissingRow.domain false) (Rows.siteMissingSpec.post enc Tryz.prog Tryz.f5 false true false false):=by
 refine returnsInHanded_of_change (C:=Tryz.checked) krf started krf Tryz.func5
  (ChangeSpec.witness6 (enc:=enc) (C:=Tryz.checked) false ⟨#[],#[.agg #[.int .i64 0, .string ⟨#[]⟩, .int .i64 0, .int .i64 0, .slice none 0 0], .int .u8 0, .int .u8 0],[]⟩ 8 krf krf krf krf) ?_
 intro W base args ds gs before hval hW _ _
 exact law_contractR (P:=Tryz.prog) (f:=5) (fn:=Tryz.f5) (s:=Rows.siteMissingSpec) (tb:=4) (TS:=[3,5,9,22,24]) krf krf krf krf krf Tryz.underlying4 rfl
  (fun ds hd=>by
   have hd:ds.length=3:=by rw [hd,show Tryz.f5.params.size=3 from by kernel_rfl]
   match ds,hd with
   | [d0,d1,d2],_=>rfl)
  (siteMissing_call h) hval hW
theorem siteMissing_said (h:SiteMissingPlain):Rows.SiteMissingSaid :=
 OpenClaim.holds_of_wide 5 Tryz.f5 rfl rfl rfl rfl rfl rfl rfl ⟨rfl,rfl,rfl,rfl,rfl⟩ rfl rfl rfl rfl rfl krf Tryz.func5 krf
  (of_decide_eq_true krf) (by unfold Func.isWrapper; first | (rw [if_pos (by decide +kernel)]; kernel_rfl) | (rw [if_neg (by decide +kernel)]; exact ⟨rfl,rfl⟩))
  (fun os started H enc _=>siteMissing_lifted h os started H enc)
end Go.Proofs
namespace Go.Proofs
open Go Go.Abs
set_option maxRecDepth 100000
def Does {α:Type} (m:Option α) (Q:α→Prop):Prop:=∃ r,m=some r∧Q r
section
variable {α β V R E:Type}
theorem does_some {x:α} {Q:α→Prop} (h:Q x):Does (some x) Q:=⟨x,rfl,h⟩
theorem does_mono {m:Option α} {Q Q':α→Prop} (h:Does m Q) (hq:∀ x,Q x→Q' x):Does m Q':=by obtain ⟨x,e,h⟩:=h; exact ⟨x,e,hq x h⟩
theorem does_bind {m:Option α} {k:α→Option β} {Q:α→Prop} {Q':β→Prop} (h:Does m Q) (hk:∀ x,Q x→Does (k x) Q'):Does (m.bind k) Q':=by
 obtain ⟨x,rfl,h⟩:=h
 exact hk x h
theorem does_cond {b:Bool} {x y:Option α} {Q:α→Prop} (h1:b=true→Does x Q) (h2:b=false→Does y Q):Does (cond b x y) Q:=by
 cases b
 ·exact h2 rfl
 ·exact h1 rfl
theorem does_loop {B:(V→Option R)→V→Option R} {Q:V→R→Prop} (μ:V→Nat) (Inv:V→Prop)
  (hB:∀ rec v,Inv v→(∀ v',Inv v'→μ v' < μ v→Does (rec v') (Q v'))→Does (B rec v) (Q v)):∀ {n:Nat} {v:V},Inv v→μ v < n→Does (loopN B n v) (Q v)
 | 0,_,_,h=>absurd h (Nat.not_lt_zero _)
 | n+1,v,hv,h=>hB _ v hv (fun v' h1 h2=>does_loop μ Inv hB h1 zo)
end
theorem getI_nat {α:Type} {l:List α} {i:Nat}:getI l (i:Int)=l[i]?:=by
 unfold getI; rw [if_neg zo]; simp
theorem wi_id {x:Int} (h1:-9223372036854775808≤x) (h2:x≤9223372036854775807):wi x=x:=by
 simp [wi,IntKind.wrap,IntKind.signed,IntKind.bits]; omega
def folB (a r:GReading):Bool:=if r.Serial=a.Serial then decide (a.Minute≤r.Minute∧a.Register≤r.Register) else decide (r.Minute=a.Minute)
def mixB (s x k:Int):Int:=wu ((bXor .u64 s (bAnd .u64 (shrI .u64 (wu x) k) 255)) * 1099511628211)
def mixW (s x:Int):Int:=[56,48,40,32,24,16,8,0].foldl (fun s k=>mixB s x k) s
def linkF (s:Int) (r:GReading):Int:=[r.Serial,r.Number,r.Minute,r.Register].foldl mixW s
def prevLink (seed:Int) (l:List GReading) (i:Nat):Int:=if i=0 then seed else ((l[i - 1]?).map (·.Link)).getD 0
def chainAt (seed:Int) (l:List GReading) (i:Nat):Prop:=∀ r ∈ l[i]?,(1≤r.Serial∧r.Serial≤1000000)∧r.Number=i+1∧(0≤r.Minute∧r.Minute≤52560000)∧(0≤r.Register∧r.Register≤1000000000) ∧
 (i ≠ 0→∀ a ∈ l[i - 1]?,folB a r=true)∧r.Link=linkF (prevLink seed l i) r
def chainOk (seed:Int) (l:List GReading):Prop:=(1≤l.length∧l.length≤64)∧∀ i,i < l.length→chainAt seed l i
theorem eqI_d (x y:Int):eqI x y=decide (x=y):=by unfold eqI; by_cases h:x=y <;> simp [h]
theorem cond_some {α:Type} {b:Bool} {x y:α}:cond b (some x) (some y)=some (cond b x y):=by cases b <;> rfl
def keyB (w:List UInt8):Bool:=(g_a_isKey 0 w).getD false
def chrB (x:UInt8):Bool:=decide ((97≤b2i x∧b2i x≤122)∨(48≤b2i x∧b2i x≤57)∨b2i x=95)
def nameB (s:List UInt8):Bool:=decide (1≤s.length∧s.length≤12)&&decide (∀ x ∈ s.head?,97≤b2i x∧b2i x≤122)&&!keyB s&&s.all chrB
theorem loop_list {α R:Type} {l:List α} {B:(Int→Option R)→Int→Option R} {F:List α→R} (hlen:l.length≤4611686018427387904)
  (hend:∀ rec,B rec (l.length:Int)=some (F []))
  (hstep:∀ (rec:Int→Option R) (i:Nat) (x:α) (r:List α),l.drop i=x :: r→l[i]?=some x→i < l.length→wi ((i:Int)+1)=((i+1:Nat):Int)→(rec ((i+1:Nat):Int)=some (F r))→B rec (i:Int)=some (F (x :: r))) :
  ∀ {n:Nat} (i:Nat),i≤l.length→l.length - i < n→loopN B n (i:Int)=some (F (l.drop i))
 | 0,_,_,h=>absurd h (Nat.not_lt_zero _)
 | n+1,i,hi,h=>by
  unfold loopN
  by_cases he:i=l.length
  ·subst he; rw [hend]; simp
  ·have hlt:i < l.length:=by omega
   have hd:l.drop i=l[i] :: l.drop (i+1):=by rw [List.drop_eq_getElem_cons hlt]
   rw [hd]
   exact hstep _ i _ _ hd (by simp [hlt]) hlt (by rw [wi_id] <;> omega) (loop_list hlen hend hstep (i+1) zo zo)
theorem chr_lem (c:Int):(bif decide (97≤c) then bif decide (c≤122) then false else bif decide (48≤c) then bif decide (c≤57) then false else !(c == 95) else !(c == 95)
  else bif decide (48≤c) then bif decide (c≤57) then false else !(c == 95) else !(c == 95))=!decide ((97≤c∧c≤122)∨(48≤c∧c≤57)∨c=95):=by
 by_cases h1:97≤c <;> by_cases h2:c≤122 <;> by_cases h3:48≤c <;> by_cases h4:c≤57 <;> by_cases h5:c=95 <;> simp [h1,h2,h3,h4,h5] <;> omega
theorem loop_gen {α R A V:Type} {l:List α} (S:A→Int→V) {B:(V→Option R)→V→Option R} {F:A→List α→R} (Inv:Nat→A→Prop) (hlen:l.length≤4611686018427387904)
  (hend:∀ rec a,Inv l.length a→B rec (S a (l.length:Int))=some (F a []))
  (hstep:∀ (rec:V→Option R) (a:A) (i:Nat) (x:α) (r:List α),Inv i a→l.drop i=x :: r→l[i]?=some x→i < l.length→wi ((i:Int)+1)=((i+1:Nat):Int)→(∀ a,Inv (i+1) a→rec (S a ((i+1:Nat):Int))=some (F a r))→B rec (S a (i:Int))=some (F a (x :: r))) :
  ∀ {n:Nat} (i:Nat) (a:A),Inv i a→i≤l.length→l.length - i < n→loopN B n (S a (i:Int))=some (F a (l.drop i))
 | 0,_,_,_,_,h=>absurd h (Nat.not_lt_zero _)
 | n+1,i,a,ha,hi,h=>by
  unfold loopN
  by_cases he:i=l.length
  ·subst he; rw [hend _ _ ha]; simp
  ·have hlt:i < l.length:=by omega
   have hd:l.drop i=l[i] :: l.drop (i+1):=by rw [List.drop_eq_getElem_cons hlt]
   rw [hd]
   exact hstep _ a i _ _ ha hd (by simp [hlt]) hlt (by rw [wi_id] <;> omega) (fun a ha=>loop_gen S Inv hlen hend hstep (i+1) a ha zo zo)
theorem loop_does {α R A V:Type} {l:List α} (S:A→Int→V) {B:(V→Option R)→V→Option R} {Q:A→List α→R→Prop} (Inv:Nat→A→Prop) (hlen:l.length≤4611686018427387904)
  (hend:∀ rec a,Inv l.length a→Does (B rec (S a (l.length:Int))) (Q a []))
  (hstep:∀ (rec:V→Option R) (a:A) (i:Nat) (x:α) (r:List α),Inv i a→l.drop i=x :: r→l[i]?=some x→i < l.length→wi ((i:Int)+1)=((i+1:Nat):Int)→(∀ a,Inv (i+1) a→Does (rec (S a ((i+1:Nat):Int))) (Q a r))→Does (B rec (S a (i:Int))) (Q a (x :: r))) :
  ∀ {n:Nat} (i:Nat) (a:A),Inv i a→i≤l.length→l.length - i < n→Does (loopN B n (S a (i:Int))) (Q a (l.drop i))
 | 0,_,_,_,_,h=>absurd h (Nat.not_lt_zero _)
 | n+1,i,a,ha,hi,h=>by
  unfold loopN
  by_cases he:i=l.length
  ·subst he; simpa using hend _ _ ha
  ·have hlt:i < l.length:=by omega
   have hd:l.drop i=l[i] :: l.drop (i+1):=by rw [List.drop_eq_getElem_cons hlt]
   rw [hd]
   exact hstep _ a i _ _ ha hd (by simp [hlt]) hlt (by rw [wi_id] <;> omega) (fun a ha=>loop_does S Inv hlen hend hstep (i+1) a ha zo zo)
def ks:List Nat:=[56,48,40,32,24,16,8,0]
theorem r_in (n:Nat) (l:List (List UInt8)) (s:List UInt8) (hn:1000≤n) (hl:l.length≤900):Does (g_ref02_In n l s) (fun r=>leI 0 r=l.contains s):=by
 unfold g_ref02_In
 have:=loop_does (l:=l) (fun (_:Unit) i=>i) (B:=fun recl1 l1=>g_ref02_In_l1 l s recl1 l1) (Q:=fun _ r x=>leI 0 x=r.contains s) (fun _ _=>True) zo ?_ ?_ (n:=n) 0 () trivial zo zo
 ·exact this
 ·intro rec a _
  simp only [g_ref02_In_l1,lenI,List.length_map,ltI]
  rw [dzF zo,cond_false]
  exact does_some rfl
 ·intro rec a i x r _ hd hx hi hw hr
  simp only [g_ref02_In_l1,lenI,List.length_map,ltI,getI_nat,hx,obs,eqS]
  rw [dzT zo,cond_true]
  by_cases h:x=s
  ·subst h
   rw [beq_self_eq_true,cond_true]
   refine does_some ?_
   simp [leI]
  ·rw [show (x == s)=false from by simpa using h,cond_false,hw]
   refine does_mono (hr () trivial) (fun y hy=>?_)
   rw [hy,List.contains_cons,show (s == x)=false from by simpa using fun e=>h e.symm,Bool.false_or]
def keyL:List (List UInt8):=((g_ref02_Kinds 0).getD [])++(((g_ref02_Attrs 0).getD [])++(((g_ref02_Articles 0).getD [])++((g_ref02_Words 0).getD [])))
theorem cse (b c:Bool):(bif b then b else c)=(b||c):=by cases b <;> rfl
theorem cst (b c:Bool):(bif b then true else c)=(b||c):=by cases b <;> rfl
def keyA:List (List UInt8):=[[102,101,101,100,101,114],[99,97,98,108,101],[111,119,110,101,114],[99,111,110,116,114,97,99,116],[99,104,97,114,103,101,114],[98,97,121],[116,97,114,105,102,102],[108,105,109,105,116],[110,101,117,116,114,97,108],[102,117,115,101],[116,104,101,114,109,97,108],[102,114,111,109],[97,116],[112,104,97,115,101,115],[97,109,112,115],[102,97,108,108,98,97,99,107],[99,97,114,100],[114,97,110,107],[115,116,97,114,116],[101,110,101,114,103,121],[116,105,109,101],[105,100,108,101],[99,97,112],[116,97,120],[111,110],[119,111,114,107],[115,97,116,117,114,100,97,121],[115,117,110,100,97,121],[98,101,116,119,101,101,110],[112,101,114],[102,114,101,101]]
theorem keyB_any (s:List UInt8):keyB s=keyA.contains s:=by
 unfold keyB g_a_isKey keyA
 simp only [cond_some,obs,Option.getD_some,cse,cst,eqS,List.contains_cons,List.contains_nil,Bool.or_assoc,Bool.or_false]
theorem keyB_mem (s:List UInt8):keyB s=keyL.contains s:=by
 rw [keyB_any,Bool.eq_iff_iff,List.contains_iff_mem,List.contains_iff_mem]
 have h1:∀ x ∈ keyA,x ∈ keyL:=by decide
 have h2:∀ x ∈ keyL,x ∈ keyA:=by decide
 exact ⟨h1 s,h2 s⟩
theorem r_namej (n:Nat) (s:List UInt8) (hn:1000≤n):g_ref02_Name_j1 n s=some (decide (1≤s.length∧s.length≤12)&&!keyB s):=by
 unfold g_ref02_Name_j1 g_ref02_Kinds g_ref02_Attrs g_ref02_Articles g_ref02_Words
 simp only [obs]
 rw [keyB_mem]
 unfold keyL g_ref02_Kinds g_ref02_Attrs g_ref02_Articles g_ref02_Words
 simp only [Option.getD_some]
 have e:=fun (l:List (List UInt8)) (hl:l.length≤900)=>r_in n l s hn hl
 obtain ⟨r1,e1,h1⟩:=e [[102,101,101,100,101,114],[99,97,98,108,101],[111,119,110,101,114],[99,111,110,116,114,97,99,116],[99,104,97,114,103,101,114],[98,97,121],[116,97,114,105,102,102]] (by decide)
 obtain ⟨r2,e2,h2⟩:=e [[108,105,109,105,116],[110,101,117,116,114,97,108],[102,117,115,101],[116,104,101,114,109,97,108],[102,114,111,109],[97,116],[112,104,97,115,101,115],[97,109,112,115],[102,97,108,108,98,97,99,107],[111,119,110,101,114],[99,97,114,100],[114,97,110,107],[99,104,97,114,103,101,114]] (by decide)
 obtain ⟨r3,e3,h3⟩:=e [[115,116,97,114,116],[101,110,101,114,103,121],[116,105,109,101],[105,100,108,101],[99,97,112],[116,97,120]] (by decide)
 obtain ⟨r4,e4,h4⟩:=e [[111,110],[119,111,114,107],[115,97,116,117,114,100,97,121],[115,117,110,100,97,121],[98,101,116,119,101,101,110],[112,101,114],[102,114,101,101]] (by decide)
 rw [e1,obs,e2,obs,e3,obs,e4,obs,h1,h2,h3,h4]
 have ha:∀ (a b:List (List UInt8)),(a++b).contains s=(a.contains s||b.contains s):=by intro a b; simp
 rw [ha,ha,ha]
 simp only [cond_some,obs,leI,lenI,cst]
 generalize ((_:Bool)||_)=k
 by_cases c1:1≤s.length
 ·by_cases c2:s.length≤12
  ·rw [dzT (show (1:Int)≤s.length by omega),dzT (show (s.length:Int)≤12 by omega),dzT (show 1≤s.length∧s.length≤12 from ⟨c1,c2⟩)]; rfl
  ·rw [dzT (show (1:Int)≤s.length by omega),dzF (show ¬ (s.length:Int)≤12 by omega),dzF (show ¬ (1≤s.length∧s.length≤12) from fun h=>c2 h.2)]; rfl
 ·rw [dzF (show ¬ (1:Int)≤s.length by omega),dzF (show ¬ (1≤s.length∧s.length≤12) from fun h=>c1 h.1)]; rfl
theorem chr_ref (c:Int) (z:Bool):(bif decide (c < 97) then bif z then true else bif decide (c < 48) then !decide (c=95) else bif decide (57 < c) then !decide (c=95) else false
  else bif decide (122 < c) then bif z then true else bif decide (c < 48) then !decide (c=95) else bif decide (57 < c) then !decide (c=95) else false else false)=!(bif z then decide (97≤c∧c≤122) else decide ((97≤c∧c≤122)∨(48≤c∧c≤57)∨c=95)):=by
 cases z <;> by_cases h1:c < 97 <;> by_cases h2:122 < c <;> by_cases h3:c < 48 <;> by_cases h4:57 < c <;> by_cases h5:c=95 <;> simp [h1,h2,h3,h4,h5] <;> omega
theorem r_name (n:Nat) (s:List UInt8) (hn:1000≤n) (hl:s.length≤900):g_ref02_Name n s=some (nameB s):=by
 unfold g_ref02_Name
 have h1:∀ (rec:Int→Option Bool) (a:Unit),(1≤s.length∨s.length=0)→g_ref02_Name_l16 n s rec (s.length:Int)=some (([]:List UInt8).all chrB&&(decide (1≤s.length∧s.length≤12)&&!keyB s)):=by
  intro rec a ha
  simp only [g_ref02_Name_l16,lenI,ltI]
  rw [dzF zo,cond_false,r_namej n s hn]
  rfl
 have h2:∀ (rec:Int→Option Bool) (a:Unit) (i:Nat) (x:UInt8) (r:List UInt8),(1≤i∨s.length=0)→s.drop i=x :: r→s[i]?=some x→i < s.length→wi ((i:Int)+1)=((i+1:Nat):Int) →
   (∀ a:Unit,(1≤i+1∨s.length=0)→rec ((i+1:Nat):Int)=some (r.all chrB&&(decide (1≤s.length∧s.length≤12)&&!keyB s)))→g_ref02_Name_l16 n s rec (i:Int)=some ((x :: r).all chrB&&(decide (1≤s.length∧s.length≤12)&&!keyB s)):=by
  intro rec a i x r ha hd hx hi hw hr
  simp only [g_ref02_Name_l16,lenI,ltI,getI_nat,hx,obs,hw,cond_some,eqI_d,chr_ref]
  rw [dzT zo,cond_true,dzF (show ¬ (i:Int)=0 by omega),cond_false,hr () (Or.inl zo),List.all_cons]
  show (bif !chrB x then some false else _)=_
  cases chrB x <;> rfl
 cases s with
 | nil =>
  have:=loop_gen (l:=[]) (fun (_:Unit) i=>i) (F:=fun _ r=>r.all chrB&&(decide (1≤([]:List UInt8).length∧([]:List UInt8).length≤12)&&!keyB [])) (fun i _=>1≤i∨([]:List UInt8).length=0) zq h1 h2 (n:=n) 0 () (Or.inr rfl) zq (by simp; omega)
  rw [show ((0:Nat):Int)=0 from rfl] at this
  rw [this]; rfl
 | cons x r =>
  obtain ⟨m,rfl⟩:∃ m,n=m+1:=⟨n - 1,by omega⟩
  have hs:=loop_gen (l:=x :: r) (fun (_:Unit) i=>i) (F:=fun _ q=>q.all chrB&&(decide (1≤(x :: r).length∧(x :: r).length≤12)&&!keyB (x :: r))) (fun i _=>1≤i∨(x :: r).length=0) zo h1 h2 (n:=m) 1 () (Or.inl (Nat.le_refl _)) zq (by simp at hl ⊢; omega)
  rw [show ((1:Nat):Int)=1 from rfl] at hs
  unfold loopN
  show g_ref02_Name_l16 (m+1) (x :: r) (loopN (g_ref02_Name_l16 (m+1) (x :: r)) m) 0=_
  generalize loopN (g_ref02_Name_l16 (m+1) (x :: r)) m=L at hs ⊢
  unfold g_ref02_Name_l16
  rw [show getI (x :: r) 0=some x from rfl]
  simp only [lenI,ltI,obs,cond_some,eqI_d,chr_ref,show wi (0+1)=1 from rfl]
  rw [hs,dzT (show (0:Int) < ((x :: r).length:Nat) by simp),cond_true,decide_true,cond_true]
  unfold nameB
  simp only [List.head?_cons,Option.mem_def,sie,forall_eq',List.drop_succ_cons,List.drop_zero,List.all_cons]
  by_cases hx:97≤b2i x∧b2i x≤122
  ·rw [dzT hx]
   have:chrB x=true:=by unfold chrB; rw [dzT]; exact Or.inl hx
   rw [this]
   cases decide (1≤(x :: r).length∧(x :: r).length≤12) <;> cases keyB (x :: r) <;> cases r.all chrB <;> rfl
  ·rw [dzF hx]
   cases decide (1≤(x :: r).length∧(x :: r).length≤12) <;> rfl
theorem b_goodWord (n:Nat) (s:List UInt8) (hn:1000≤n):g_p_goodWord n s=some (decide (1≤s.length∧s.length≤12)&&decide (∀ x ∈ s.head?,97≤b2i x∧b2i x≤122)&&s.all chrB):=by
 unfold g_p_goodWord
 simp only [lenI,ltI]
 cases s with
 | nil=>simp
 | cons x r =>
  rw [dzF (show ¬ (((x :: r).length:Nat):Int) < 1 by simp only [zLC]; omega),cond_false]
  by_cases hl:(x :: r).length≤12
  rotate_left
  ·rw [dzT (show (12:Int) < (((x :: r).length:Nat):Int) by omega),dzF (show ¬ (1≤(x :: r).length∧(x :: r).length≤12) by omega)]; rfl
  rw [dzF (show ¬ (12:Int) < (((x :: r).length:Nat):Int) by omega),cond_false,dzT (show 1≤(x :: r).length∧(x :: r).length≤12 by simp only [zLC] at hl ⊢; omega)]
  rw [show getI (x :: r) 0=some x from rfl]
  have hloop:loopN (fun recl7 l7=>g_p_goodWord_l7 (x :: r) recl7 l7) n 1=some (r.all chrB):=by
   have:=loop_list (l:=x :: r) (B:=fun recl7 l7=>g_p_goodWord_l7 (x :: r) recl7 l7) (F:=fun r=>r.all chrB) zo ?_ ?_ (n:=n) 1 zq zo
   ·simpa using this
   ·intro rec; simp [g_p_goodWord_l7,ltI,lenI]
   ·intro rec i y q hd hx hi hw hr
    unfold g_p_goodWord_l7
    simp only [lenI,getI_nat,hx,obs,hw,hr,ltI,leI,eqI,cond_some]
    rw [dzT zo,cond_true,List.all_cons]
    rw [chr_lem,chrB]
    cases decide ((97≤b2i y∧b2i y≤122)∨(48≤b2i y∧b2i y≤57)∨b2i y=95) <;> simp
  rw [hloop]
  simp only [obs,cond_some,List.head?_cons,Option.mem_def,sie,forall_eq',Bool.true_and,List.all_cons]
  by_cases h1:b2i x < 97
  ·rw [dzT h1,dzF (show ¬ (97≤b2i x∧b2i x≤122) by omega)]; rfl
  ·rw [dzF h1,cond_false]
   by_cases h2:122 < b2i x
   ·rw [dzT h2,dzF (show ¬ (97≤b2i x∧b2i x≤122) by omega)]; rfl
   ·have h3:97≤b2i x∧b2i x≤122:=by omega
    have h4:chrB x=true:=by unfold chrB; rw [dzT]; exact Or.inl h3
    rw [dzF h2,dzT h3,h4]; rfl
theorem cnz (b:Bool) (k r:Int) (hk:k ≠ 0):(!eqI (bif b then k else r) 0)=(b||!eqI r 0):=by
 cases b
 ·rfl
 ·simp [eqI,hk]
theorem b_isKey (n:Nat) (s:List UInt8):g_p_isKey n s=some (keyB s):=by
 unfold g_p_isKey g_p_kindOf g_p_isAttr g_p_isArticle g_p_isWord
 rw [keyB_mem]
 simp only [cond_some,obs,cse,cst,keyL,g_ref02_Kinds,g_ref02_Attrs,g_ref02_Articles,g_ref02_Words,Option.getD_some,List.cons_append,List.nil_append,List.contains_cons,List.contains_nil,Bool.or_false,eqS]
 rw [cnz _ 1 _ (by decide),cnz _ 2 _ (by decide),cnz _ 3 _ (by decide),cnz _ 4 _ (by decide),cnz _ 5 _ (by decide),cnz _ 6 _ (by decide),cnz _ 7 _ (by decide),show (!eqI 0 0)=false from rfl]
 simp only [Bool.or_assoc,Bool.or_false]
theorem b_goodName (n:Nat) (s:List UInt8) (hn:1000≤n):g_p_goodName n s=some (nameB s):=by
 unfold g_p_goodName nameB
 rw [b_goodWord n s hn,obs,b_isKey,obs,cond_some]
 generalize decide (1≤s.length∧s.length≤12)=a
 generalize decide (∀ x ∈ s.head?,97≤b2i x∧b2i x≤122)=b
 generalize s.all chrB=c
 generalize keyB s=d
 cases a <;> cases b <;> cases c <;> cases d <;> rfl
theorem of_cs' (k:Int) (s:List UInt8) (m t:Int) (l:List (List PV)):GN.of (GN.cs ⟨k,s,m,t,l⟩)=some ⟨k,s,m,t,l⟩:=by
 unfold GN.cs GN.of
 simp only [map_idc,byt_mkS,if_true]
theorem loopN_s {V R:Type} (B:(V→Option R)→V→Option R) (n:Nat) (v:V):loopN B (n+1) v=B (loopN B n) v:=rfl
def treeD:Nat→GN→Prop
 | 0,_=>False
 | d+1,x=>(-9223372036854775808≤x.Kind∧x.Kind≤9223372036854775807)∧(-9223372036854775808≤x.N∧x.N≤9223372036854775807)∧(-9223372036854775808≤x.At∧x.At≤9223372036854775807)∧x.Name.length≤maxLen∧x.Kids.length≤maxLen∧∀ k ∈ x.Kids,∃ y,GN.of k=some y∧treeD d y
def kidsD (d:Nat) (l:List (List PV)):Prop:=∀ k ∈ l,∃ y,GN.of k=some y∧treeD d y
theorem tree_kids {d:Nat} {x:GN} (h:treeD d x):∃ e,d=e+1∧x.Kids.length≤9223372036854775807∧x.Name.length≤9223372036854775807∧kidsD e x.Kids:=by
 cases d with
 | zero=>exact h.elim
 | succ e=>exact ⟨e,rfl,by have:=h.2.2.2.2.1; simpa [maxLen] using this,by have:=h.2.2.2.1; simpa [maxLen] using this,h.2.2.2.2.2⟩
theorem kid_at {d:Nat} {l:List (List PV)} (h:kidsD d l) {i:Nat} (hi:i < l.length):∃ y,Option.bind (getI l (i:Int)) GN.of=some y∧treeD d y∧(l.drop i=l[i]'hi :: l.drop (i+1)∧GN.of (l[i]'hi)=some y):=by
 obtain ⟨y,e,t⟩:=h (l[i]'hi) (List.getElem_mem hi)
 refine ⟨y,?_,t,List.drop_eq_getElem_cons hi,e⟩
 rw [getI_nat,List.getElem?_eq_getElem hi]
 exact e
def Tot {α:Type} (m:Option α):Prop:=Does m fun _=>True
theorem tot_some {α:Type} (x:α):Tot (some x):=⟨x,rfl,trivial⟩
theorem tot_cond {α:Type} {b:Bool} {x y:Option α} (h1:b=true→Tot x) (h2:b=false→Tot y):Tot (cond b x y):=does_cond h1 h2
theorem tot_bind {α β:Type} {m:Option α} {k:α→Option β} (h:Tot m) (hk:∀ x,Tot (k x)):Tot (m.bind k):=does_bind h fun x _=>hk x
theorem tot_eq {α:Type} {m:Option α} {x:α} (h:m=some x):Tot m:=⟨x,h,trivial⟩
theorem tot_of {α:Type} {m:Option α} {Q:α→Prop} (h:Does m Q):Tot m:=does_mono h fun _ _=>trivial
theorem tot_idx {R:Type} {B:(Int→Option R)→Int→Option R} {L:Nat} (hL:L≤9223372036854775807)
  (hB:∀ (rec:Int→Option R) (i:Nat),i≤L→(i < L→wi ((i:Int)+1)=((i+1:Nat):Int)∧Tot (rec ((i+1:Nat):Int)))→Tot (B rec (i:Int))) :
  ∀ {n:Nat} (i:Nat),i≤L→L - i < n→Tot (loopN B n (i:Int))
 | 0,_,_,h=>absurd h (Nat.not_lt_zero _)
 | n+1,i,hi,h=>hB _ i hi fun h1=>⟨by rw [wi_id zo zo]; omega,tot_idx hL hB (i+1) zo zo⟩
theorem count_tot:∀ (m n d:Nat) (x:GN) (most:Int),treeD d x→0≤most→most≤m→m≤1000000→m+3≤n→Does (g_ref02_Count n x most) (fun r=>1≤r∧r≤most+1):=by
 intro m
 induction m with
 | zero =>
  intro n d x most ht h0 h1 h2 h3
  obtain ⟨n,rfl⟩:∃ q,n=q+1+1:=⟨n - 2,by omega⟩
  obtain rfl:most=0:=by omega
  refine ⟨1,?_,by omega,by omega⟩
  unfold g_ref02_Count g_ref02_Count_body
  rw [loopN_s]
  unfold g_ref02_Count_l1
  simp only [show leI 1 0=false from rfl,cond_some,obs]
  cases ltI 0 (lenI (List.map idc x.Kids)) <;> rfl
 | succ m ih =>
  intro n d x most ht h0 h1 h2 h3
  obtain ⟨n,rfl⟩:∃ q,n=q+1:=⟨n - 1,by omega⟩
  obtain ⟨e,rfl,hl,_,hk⟩:=tree_kids ht
  unfold g_ref02_Count g_ref02_Count_body
  refine does_loop (Q:=fun _ r=>1≤r∧r≤most+1) (fun v=>(most+1 - v.1).toNat) (fun v=>1≤v.1∧v.1≤most+1∧∃ i:Nat,v.2=(i:Int)∧i≤x.Kids.length) ?_ ⟨by omega,by omega,0,rfl,by omega⟩ (by simp only; omega)
  rintro rec ⟨many,idx⟩ ⟨g1,g2,i,hi,hil⟩ hrec
  simp only at g1 g2 hi hrec ⊢
  subst hi
  unfold g_ref02_Count_l1
  simp only [lenI,List.length_map,ltI,leI]
  by_cases c1:i < x.Kids.length
  rotate_left
  ·rw [dzF zo]
   exact does_some ⟨g1,g2⟩
  rw [dzT zo]
  by_cases c2:many≤most
  rotate_left
  ·rw [dzF c2]
   exact does_some ⟨g1,g2⟩
  rw [dzT c2]
  obtain ⟨y,hy,hty,_⟩:=kid_at hk c1
  simp only [cond_true,obs]
  rw [hy,obs,wi_id (x:=most - many) zo zo]
  refine does_bind (ih n e y (most - many) hty zo zo zo zo) ?_
  rintro r ⟨r1,r2⟩
  rw [wi_id (x:=many+r) zo zo,wi_id (x:=(i:Int)+1) zo zo]
  exact hrec (many+r,(i:Int)+1) ⟨by simp only; omega,by simp only; omega,i+1,by simp,c1⟩ (by simp only; omega)
theorem names_tot:∀ (m n d:Nat) (x:GN) (depth:Int),treeD d x→0≤depth→depth≤m→m≤1000→m+9223372036854775810≤n→Tot (g_ref02_names n x depth):=by
 intro m
 induction m with
 | zero =>
  intro n d x depth ht h0 h1 h2 h3
  obtain ⟨n,rfl⟩:∃ q,n=q+1:=⟨n - 1,by omega⟩
  obtain rfl:depth=0:=by omega
  exact ⟨false,rfl,trivial⟩
 | succ m ih =>
  intro n d x depth ht h0 h1 h2 h3
  obtain ⟨n,rfl⟩:∃ q,n=q+1:=⟨n - 1,by omega⟩
  by_cases c0:depth=0
  ·subst c0
   exact ⟨false,rfl,trivial⟩
  obtain ⟨e,rfl,hl,_,hk⟩:=tree_kids ht
  unfold g_ref02_names g_ref02_names_body
  refine tot_bind (tot_cond (fun _=>tot_some _) (fun _=>tot_some _)) fun j1=>tot_cond (fun _=>tot_some _) fun _=>?_
  refine tot_idx (L:=x.Kids.length) hl (fun rec i hi hr=>?_) 0 zo zo
  unfold g_ref02_names_l3
  simp only [lenI,List.length_map,ltI]
  by_cases c1:i < x.Kids.length
  rotate_left
  ·rw [dzF zo]; exact tot_some _
  rw [dzT zo,cond_true]
  obtain ⟨y,hy,hty,_⟩:=kid_at hk c1
  obtain ⟨w1,w2⟩:=hr c1
  rw [hy,obs,wi_id (x:=depth - 1) zo zo,w1]
  exact tot_bind (ih n e y (depth - 1) hty zo zo zo zo) fun r=>tot_cond (fun _=>tot_some _) fun _=>w2
theorem in_tot {n:Nat} {l:List (List UInt8)} {s:List UInt8} (hn:9223372036854776000≤n) (hl:l.length≤900):Tot (g_ref02_In n l s):=tot_of (r_in n l s zo hl)
theorem name_tot {n:Nat} {s:List UInt8} (hn:9223372036854776000≤n) (hl:s.length≤9223372036854775807):Tot (g_ref02_Name n s):=by
 unfold g_ref02_Name
 refine tot_idx (L:=s.length) hl (fun rec i hi hr=>?_) 0 zo zo
 unfold g_ref02_Name_l16
 simp only [lenI,ltI]
 by_cases c1:i < s.length
 rotate_left
 ·rw [dzF zo,cond_false]; exact tot_eq (r_namej n s zo)
 obtain ⟨w1,w2⟩:=hr c1
 rw [dzT zo,cond_true,getI_nat,List.getElem?_eq_getElem c1,obs,w1]
 simp only [cond_some,obs]
 exact tot_cond (fun _=>tot_some _) fun _=>w2
theorem value_tot {n:Nat} {x:GN} {b:Bool} (hn:9223372036854776000≤n) (hl:x.Name.length≤9223372036854775807):Tot (g_ref02_value n x b):=by
 unfold g_ref02_value g_ref02_Words
 refine tot_cond (fun _=>tot_some _) fun _=>tot_cond (fun _=>?_) fun _=>?_
 ·simp only [cond_some,obs]; exact tot_some _
 ·refine tot_bind (tot_cond (fun _=>tot_cond (fun _=>tot_bind (name_tot hn hl) fun r=>tot_cond (fun _=>tot_some _) fun _=>tot_cond (fun _=>?_) fun _=>tot_some _) fun _=>tot_some _) fun _=>tot_some _) fun _=>tot_some _
  rw [obs]
  exact tot_bind (in_tot hn (by decide)) fun _=>tot_some _
theorem part_tot {n d:Nat} {x:GN} (ht:treeD d x) (hn:9223372036854776000≤n):Tot (g_ref02_part n x):=by
 obtain ⟨e,rfl,hl,_,hk⟩:=tree_kids ht
 unfold g_ref02_part g_ref02_Attrs g_ref02_Articles
 refine tot_bind ?_ fun j=>tot_cond (fun _=>tot_some _) fun _=>?_
 ·refine tot_cond (fun _=>tot_some _) fun _=>tot_cond (fun _=>?_) fun _=>tot_cond (fun _=>?_) fun _=>tot_some _
  ·rw [obs]
   refine tot_bind (in_tot hn (by decide)) fun _=>tot_cond (fun _=>tot_some _) fun _=>tot_cond (fun _=>?_) fun _=>tot_some _
   rw [obs]
   exact tot_bind (in_tot hn (by decide)) fun _=>tot_some _
  ·rw [obs]
   exact tot_bind (in_tot hn (by decide)) fun _=>tot_some _
 refine tot_idx (L:=x.Kids.length) hl (fun rec i hi hr=>?_) 0 zo zo
 unfold g_ref02_part_l13
 simp only [lenI,List.length_map,ltI]
 by_cases c1:i < x.Kids.length
 rotate_left
 ·rw [dzF zo]; exact tot_some _
 obtain ⟨y,hy,hty,_⟩:=kid_at hk c1
 obtain ⟨w1,w2⟩:=hr c1
 obtain ⟨_,_,_,hs,_⟩:=tree_kids hty
 rw [dzT zo,cond_true,hy,obs,w1]
 exact tot_bind (value_tot hn hs) fun r=>tot_cond (fun _=>tot_some _) fun _=>w2
theorem ritem_tot {n d:Nat} {x:GN} (ht:treeD d x) (hn:9223372036854776000≤n):Tot (g_ref02_item n x):=by
 obtain ⟨e,rfl,hl,hs,hk⟩:=tree_kids ht
 unfold g_ref02_item
 refine tot_bind ?_ fun j=>tot_cond (fun _=>tot_some _) fun _=>?_
 ·exact tot_cond (fun _=>tot_some _) fun _=>tot_cond (fun _=>tot_some _) fun _=>tot_cond (fun _=>tot_some _) fun _=>tot_bind (name_tot hn hs) fun _=>tot_some _
 refine tot_idx (L:=x.Kids.length) hl (fun rec i hi hr=>?_) 0 zo zo
 unfold g_ref02_item_l6
 simp only [lenI,List.length_map,ltI]
 by_cases c1:i < x.Kids.length
 rotate_left
 ·rw [dzF zo]; exact tot_some _
 obtain ⟨y,hy,hty,_⟩:=kid_at hk c1
 obtain ⟨w1,w2⟩:=hr c1
 have hprev:∀ f:GN→Bool,Tot (cond (decide (0 < (i:Int))) ((Option.bind (getI x.Kids (wi ((i:Int) - 1))) GN.of).bind fun x15=>some (f x15)) (some false)):=by
  intro f
  refine tot_cond (fun h=>?_) fun _=>tot_some _
  have h0:0 < i:=by have:=of_decide_eq_true h; omega
  obtain ⟨z,hz,_⟩:=kid_at hk (show i - 1 < x.Kids.length by omega)
  rw [wi_id (x:=(i:Int) - 1) zo zo,show (i:Int) - 1=((i - 1:Nat):Int) by omega,hz]
  exact tot_some _
 rw [dzT zo,cond_true,hy,obs,w1]
 refine tot_bind (tot_bind (part_tot hty hn) fun r=>tot_cond (fun _=>tot_some _) fun _=>tot_cond (fun _=>tot_cond (fun _=>tot_some _) fun _=>?_) fun _=>?_) fun j=>tot_cond (fun _=>tot_some _) fun _=>w2
 ·exact tot_cond (fun _=>hprev fun z=>eqI z.Kind 4) fun _=>tot_some _
 ·exact tot_cond (fun _=>hprev fun z=>eqI z.Kind 4) fun _=>tot_some _
theorem rvalid_tot {n d:Nat} {x:GN} (ht:treeD d x) (hn:9223372036854776000≤n):Tot (g_ref02_Valid n x):=by
 have ht':=ht
 obtain ⟨e,rfl,hl,hs,hk⟩:=tree_kids ht
 unfold g_ref02_Valid
 refine tot_bind ?_ fun j=>tot_cond (fun _=>tot_some _) fun _=>?_
 ·exact tot_cond (fun _=>tot_some _) fun _=>tot_cond (fun _=>tot_some _) fun _=>tot_cond (fun _=>tot_some _) fun _=>tot_bind (tot_of (count_tot 1500 n _ x 1500 ht' zo zo zo zo)) fun _=>tot_some _
 refine tot_idx (L:=x.Kids.length) hl (fun rec i hi hr=>?_) 0 zo zo
 unfold g_ref02_Valid_l6
 simp only [lenI,List.length_map,ltI]
 by_cases c1:i < x.Kids.length
 rotate_left
 ·rw [dzF zo]; exact tot_some _
 obtain ⟨y,hy,hty,_⟩:=kid_at hk c1
 obtain ⟨w1,w2⟩:=hr c1
 rw [dzT zo,cond_true,hy,obs,w1]
 exact tot_bind (ritem_tot hty hn) fun r=>tot_cond (fun _=>tot_some _) fun _=>w2
theorem len0 (l:List (List PV)):eqI (lenI (List.map idc l)) 0=decide (l=[]):=by
 rw [eqI_d,lenI,List.length_map]
 cases l
 ·rfl
 ·rw [dzF (by simp only [zLC]; omega),dzF (by intro h; cases h)]
theorem does_idx {R:Type} {B:(Int→Option R)→Int→Option R} {L:Nat} (Q:Nat→R→Prop) (hL:L≤9223372036854775807)
  (hB:∀ (rec:Int→Option R) (i:Nat),i≤L→(i < L→wi ((i:Int)+1)=((i+1:Nat):Int)∧Does (rec ((i+1:Nat):Int)) (Q (i+1)))→Does (B rec (i:Int)) (Q i)) :
  ∀ {n:Nat} (i:Nat),i≤L→L - i < n→Does (loopN B n (i:Int)) (Q i)
 | 0,_,_,h=>absurd h (Nat.not_lt_zero _)
 | n+1,i,hi,h=>hB _ i hi fun h1=>⟨by rw [wi_id zo zo]; omega,does_idx Q hL hB (i+1) zo zo⟩
def kidsL (l:List (List PV)):List GN:=l.filterMap GN.of
theorem kidL_at {d:Nat} {l:List (List PV)} (h:kidsD d l) {i:Nat} (hi:i < l.length):∃ y,Option.bind (getI l (i:Int)) GN.of=some y∧treeD d y∧kidsL (l.drop i)=y :: kidsL (l.drop (i+1)):=by
 obtain ⟨y,hy,ht,hd,hof⟩:=kid_at h hi
 refine ⟨y,hy,ht,?_⟩
 rw [hd]
 unfold kidsL
 rw [List.filterMap_cons,hof]
theorem kidL_end (l:List (List PV)) {i:Nat} (hi:l.length≤i):kidsL (l.drop i)=[]:=by
 rw [List.drop_eq_nil_of_le hi]; rfl
def attrB (s:List UInt8):Bool:=((g_ref02_Attrs 0).getD []).contains s
def artNB (s:List UInt8):Bool:=((g_ref02_Articles 0).getD []).contains s
def wordB (s:List UInt8):Bool:=((g_ref02_Words 0).getD []).contains s
theorem cse' (b c:Bool):(bif b then b else c)=(b||c):=by cases b <;> rfl
theorem pt_isAttr (n:Nat) (s:List UInt8):g_p_isAttr n s=some (attrB s):=by
 unfold g_p_isAttr attrB g_ref02_Attrs
 simp only [cond_some,obs,cse,cst,Option.getD_some,List.contains_cons,List.contains_nil,Bool.or_false,eqS]
theorem p_isArt (n:Nat) (s:List UInt8):g_p_isArticle n s=some (artNB s):=by
 unfold g_p_isArticle artNB g_ref02_Articles
 simp only [cond_some,obs,cse,cst,Option.getD_some,List.contains_cons,List.contains_nil,Bool.or_false,eqS]
theorem pt_isWord (n:Nat) (s:List UInt8):g_p_isWord n s=some (wordB s):=by
 unfold g_p_isWord wordB g_ref02_Words
 simp only [cond_some,obs,cse,cst,Option.getD_some,List.contains_cons,List.contains_nil,Bool.or_false,eqS]
theorem r_isAttr {n:Nat} {s:List UInt8} (hn:1000≤n):Does (g_ref02_In n ((g_ref02_Attrs 0).getD []) s) (fun r=>leI 0 r=attrB s):=r_in n _ s hn (by decide)
theorem r_isArt {n:Nat} {s:List UInt8} (hn:1000≤n):Does (g_ref02_In n ((g_ref02_Articles 0).getD []) s) (fun r=>leI 0 r=artNB s):=r_in n _ s hn (by decide)
theorem r_isWord {n:Nat} {s:List UInt8} (hn:1000≤n):Does (g_ref02_In n ((g_ref02_Words 0).getD []) s) (fun r=>leI 0 r=wordB s):=r_in n _ s hn (by decide)
theorem r_nameL {n:Nat} {s:List UInt8} (hn:9223372036854776000≤n) (hl:s.length≤9223372036854775807):g_ref02_Name n s=some (nameB s):=by
 by_cases h:s.length≤900
 ·exact r_name n s zo h
 have hb:nameB s=false:=by
  unfold nameB
  rw [show decide (1≤s.length∧s.length≤12)=false from dzF zo]
  rfl
 rw [hb]
 have:Does (g_ref02_Name n s) (fun r=>r=false):=by
  unfold g_ref02_Name
  refine does_idx (L:=s.length) (fun _ r=>r=false) hl (fun rec i hi hr=>?_) 0 zo zo
  unfold g_ref02_Name_l16
  simp only [lenI,ltI]
  by_cases c1:i < s.length
  rotate_left
  ·rw [dzF zo,cond_false,r_namej n s zo,dzF zo]; exact does_some rfl
  obtain ⟨w1,w2⟩:=hr c1
  rw [dzT zo,cond_true,getI_nat,List.getElem?_eq_getElem c1,obs,w1]
  simp only [cond_some,obs]
  exact does_cond (fun _=>does_some rfl) fun _=>w2
 obtain ⟨r,e,rfl⟩:=this
 exact e
def nvalB (words:Bool) (x:GN):Bool :=
 decide (x.Kids=[])&&(bif decide (x.Kind=6) then decide (x.Name=[])&&(decide (0≤x.N)&&decide (x.N≤1000000)) else decide (x.Kind=5)&&(decide (x.N=0)&&(nameB x.Name||(words&&wordB x.Name))))
theorem eqSn (s:List UInt8):eqS s []=decide (s=[]):=by
 cases s <;> rfl
theorem p_value {n:Nat} {x:GN} {b:Bool} (hn:1000≤n):g_p_validValue n x b=some (nvalB b x):=by
 unfold g_p_validValue nvalB
 rw [b_goodName n x.Name hn,pt_isWord,len0,eqSn]
 simp only [obs,cond_some,eqI_d,leI]
 by_cases k5:x.Kind=5
 ·rw [k5]
  simp only [decide_true,cond_true,show decide ((5:Int)=6)=false from rfl,cond_false]
  cases decide (x.Kids=[]) <;> cases decide (x.N=0) <;> cases nameB x.Name <;> cases b <;> cases wordB x.Name <;> rfl
 ·rw [dzF k5]
  cases decide (x.Kids=[]) <;> cases decide (x.Kind=6) <;> cases decide (x.Name=[]) <;> cases decide (0≤x.N) <;> cases decide (x.N≤1000000) <;> rfl
theorem lt0 (l:List (List PV)):ltI 0 (lenI (List.map idc l))=!decide (l=[]):=by
 cases l with
 | nil=>rfl
 | cons a r =>
  rw [dzF (by intro h; cases h)]
  exact dzT (by simp only [lenI,List.length_map,zLC]; omega)
theorem r_value {n:Nat} {x:GN} {b:Bool} (hn:9223372036854776000≤n) (hl:x.Name.length≤9223372036854775807):g_ref02_value n x b=some (nvalB b x):=by
 unfold g_ref02_value nvalB
 obtain ⟨r,e,h⟩:=r_isWord (n:=n) (s:=x.Name) zo
 rw [r_nameL hn hl,lt0,eqSn,show g_ref02_Words n=some ((g_ref02_Words 0).getD []) from rfl,obs,obs,e,obs,h]
 simp only [obs,cond_some,eqI_d,leI]
 cases decide (x.Kids=[]) <;> cases decide (x.Kind=5) <;> cases decide (x.Kind=6) <;> cases decide (x.Name=[]) <;> cases decide (0≤x.N) <;> cases decide (x.N≤1000000) <;> cases decide (x.N=0) <;> cases nameB x.Name <;> cases b <;> cases wordB x.Name <;> rfl
def npartB (x:GN):Bool:=decide (x.N=0)&&((decide (x.Kind=3)&&attrB x.Name||decide (x.Kind=4)&&artNB x.Name)&&(kidsL x.Kids).all (nvalB (decide (x.Kind=4))))
theorem r_part {n d:Nat} {x:GN} (ht:treeD d x) (hn:9223372036854776000≤n):g_ref02_part n x=some (npartB x):=by
 obtain ⟨e,rfl,hl,_,hk⟩:=tree_kids ht
 have hloop:loopN (fun recl13 l13=>g_ref02_part_l13 n x recl13 l13) n 0=some ((kidsL x.Kids).all (nvalB (decide (x.Kind=4)))):=by
  have:=does_idx (B:=fun recl13 l13=>g_ref02_part_l13 n x recl13 l13) (n:=n) (L:=x.Kids.length) (fun i r=>r=(kidsL (x.Kids.drop i)).all (nvalB (decide (x.Kind=4)))) hl (fun rec i hi hr=>?_) 0 zo zo
  ·obtain ⟨r,e,h⟩:=this
   rw [show ((0:Nat):Int)=0 from rfl] at e
   rw [e,h]; rfl
  unfold g_ref02_part_l13
  simp only [lenI,List.length_map,ltI]
  by_cases c1:i < x.Kids.length
  rotate_left
  ·rw [dzF zo,kidL_end _ zo]; exact does_some rfl
  obtain ⟨y,hy,hty,hc⟩:=kidL_at hk c1
  obtain ⟨w1,w2⟩:=hr c1
  obtain ⟨_,_,_,hs,_⟩:=tree_kids hty
  rw [dzT zo,cond_true,hy,obs,w1,r_value hn hs,obs,hc,List.all_cons,eqI_d]
  cases nvalB (decide (x.Kind=4)) y
  ·exact does_some rfl
  ·simpa using w2
 unfold g_ref02_part npartB
 obtain ⟨r1,e1,h1⟩:=r_isAttr (n:=n) (s:=x.Name) zo
 obtain ⟨r2,e2,h2⟩:=r_isArt (n:=n) (s:=x.Name) zo
 rw [hloop,show g_ref02_Attrs n=some ((g_ref02_Attrs 0).getD []) from rfl,show g_ref02_Articles n=some ((g_ref02_Articles 0).getD []) from rfl]
 simp only [obs,e1,e2,h1,h2,cond_some,eqI_d]
 cases decide (x.N=0) <;> cases decide (x.Kind=3) <;> cases decide (x.Kind=4) <;> cases attrB x.Name <;> cases artNB x.Name <;> rfl
theorem p_part {n d:Nat} {x:GN} {left:Int} (ht:treeD d x) (hn:9223372036854776000≤n) (hle:(x.Kids.length:Int)≤left∧left≤1500):Does (g_p_validPart n x left) (fun r=>r.1=npartB x∧(npartB x=true→r.2=left - x.Kids.length)):=by
 obtain ⟨e,rfl,hl,_,hk⟩:=tree_kids ht
 have hw:wi (left - lenI (List.map idc x.Kids))=left - x.Kids.length:=by
  simp only [lenI,List.length_map]; exact wi_id zo zo
 have hloop:loopN (fun recl9 l9=>g_p_validPart_l9 n x left recl9 l9) n 0=some ((kidsL x.Kids).all (nvalB (decide (x.Kind=4))),left - x.Kids.length):=by
  have:=does_idx (B:=fun recl9 l9=>g_p_validPart_l9 n x left recl9 l9) (n:=n) (L:=x.Kids.length) (fun i r=>r=((kidsL (x.Kids.drop i)).all (nvalB (decide (x.Kind=4))),left - (x.Kids.length:Int))) hl (fun rec i hi hr=>?_) 0 zo zo
  ·obtain ⟨r,e,h⟩:=this
   rw [show ((0:Nat):Int)=0 from rfl] at e
   rw [e,h]; rfl
  unfold g_p_validPart_l9
  rw [hw]
  simp only [lenI,List.length_map,ltI]
  by_cases c1:i < x.Kids.length
  rotate_left
  ·rw [dzF zo,kidL_end _ zo]; exact does_some rfl
  obtain ⟨y,hy,hty,hc⟩:=kidL_at hk c1
  obtain ⟨w1,w2⟩:=hr c1
  rw [dzT zo,cond_true,hy,obs,w1,p_value zo,obs,hc,List.all_cons,eqI_d]
  cases nvalB (decide (x.Kind=4)) y
  ·exact does_some rfl
  ·simpa using w2
 unfold g_p_validPart
 rw [hloop,pt_isAttr,p_isArt,hw,show ltI (left - (x.Kids.length:Int)) 0=false from ltI_f zo]
 simp only [obs,cond_some,eqI_d]
 have hp:npartB x=(decide (x.N=0)&&((decide (x.Kind=3)&&attrB x.Name||decide (x.Kind=4)&&artNB x.Name)&&(kidsL x.Kids).all (nvalB (decide (x.Kind=4))))):=rfl
 rw [hp]
 generalize (kidsL x.Kids).all (nvalB (decide (x.Kind=4)))=z
 by_cases k3:x.Kind=3
 ·rw [k3]
  cases decide (x.N=0) <;> cases attrB x.Name <;> cases z <;> exact does_some ⟨rfl,fun h=>by first | rfl | cases h⟩
 ·rw [dzF k3]
  cases decide (x.N=0) <;> cases decide (x.Kind=4) <;> cases artNB x.Name <;> cases z <;> exact does_some ⟨rfl,fun h=>by first | rfl | cases h⟩
def itemK (n7:Bool):Bool→List GN→Bool
 | _,[]=>true
 | p,k :: r=>(npartB k&&!(decide (k.Kind=4)&&!n7)&&!(decide (k.Kind=3)&&p))&&itemK n7 (decide (k.Kind=4)) r
def parsK (n7:Bool):Bool→List GN→Bool
 | fl,[]=>!fl||n7
 | fl,k :: r=>bif decide (k.Kind=4) then npartB k&&parsK n7 true r else bif fl then false else npartB k&&parsK n7 fl r
theorem part_kind {k:GN} (h:npartB k=true) (h4:decide (k.Kind=4)=false):decide (k.Kind=3)=true:=by
 unfold npartB at h
 rw [h4] at h
 cases h3:decide (k.Kind=3)
 ·rw [h3] at h
  simp at h
 ·rfl
theorem pars_item (n7:Bool):∀ (l:List GN) (fl:Bool),parsK n7 fl l=((!fl||n7)&&itemK n7 fl l)
 | [],fl=>by simp [parsK,itemK]
 | k :: r,fl=>by
  unfold parsK itemK
  rw [pars_item n7 r true,pars_item n7 r fl]
  cases hp:npartB k
  ·cases decide (k.Kind=4) <;> cases fl <;> simp
  cases h4:decide (k.Kind=4)
  ·rw [part_kind hp h4]
   cases fl <;> cases n7 <;> simp
  ·have h3:decide (k.Kind=3)=false:=by
    have:=of_decide_eq_true h4
    rw [this]; rfl
   rw [h3]
   cases fl <;> cases n7 <;> simp
def pwL (l:List GN):Int:=(l.map fun k=>(k.Kids.length:Int)).sum
def itemB (x:GN):Bool:=decide (x.Kind=2)&&(decide (1≤x.N)&&(decide (x.N≤7)&&(nameB x.Name&&itemK (decide (x.N=7)) false (kidsL x.Kids))))
theorem r_item {n d:Nat} {x:GN} (ht:treeD d x) (hn:9223372036854776000≤n):g_ref02_item n x=some (itemB x):=by
 obtain ⟨e,rfl,hl,hs,hk⟩:=tree_kids ht
 have hloop:loopN (fun recl6 l6=>g_ref02_item_l6 n x recl6 l6) n 0=some (itemK (decide (x.N=7)) false (kidsL x.Kids)):=by
  have:=does_idx (B:=fun recl6 l6=>g_ref02_item_l6 n x recl6 l6) (n:=n) (L:=x.Kids.length) (fun i r=>r=itemK (decide (x.N=7)) (decide (0 < i)&&((Option.bind (getI x.Kids ((i:Int) - 1)) GN.of).map fun z=>decide (z.Kind=4)).getD false) (kidsL (x.Kids.drop i))) hl (fun rec i hi hr=>?_) 0 zo zo
  ·obtain ⟨r,e,h⟩:=this
   rw [show ((0:Nat):Int)=0 from rfl] at e
   rw [e,h]; rfl
  unfold g_ref02_item_l6
  simp only [lenI,List.length_map,ltI]
  by_cases c1:i < x.Kids.length
  rotate_left
  ·rw [dzF zo,kidL_end _ zo]; exact does_some rfl
  obtain ⟨y,hy,hty,hc⟩:=kidL_at hk c1
  obtain ⟨w1,w2⟩:=hr c1
  have hprev:cond (decide (0 < (i:Int))) ((Option.bind (getI x.Kids (wi ((i:Int) - 1))) GN.of).bind fun x15=>some (eqI x15.Kind 4)) (some false)=some (decide (0 < i)&&((Option.bind (getI x.Kids ((i:Int) - 1)) GN.of).map fun z=>decide (z.Kind=4)).getD false):=by
   by_cases h0:0 < i
   ·obtain ⟨z,hz,_⟩:=kid_at hk (show i - 1 < x.Kids.length by omega)
    rw [wi_id (x:=(i:Int) - 1) zo zo,show (i:Int) - 1=((i - 1:Nat):Int) by omega,hz,dzT zo,dzT h0]
    simp only [cond_true,obs,eqI_d,Bool.true_and,Option.map_some,Option.getD_some]
   ·rw [dzF zo,dzF h0]; rfl
  rw [dzT zo,cond_true,hy,obs,w1,r_part hty hn,obs,hprev,hc,eqI_d,eqI_d,eqI_d]
  generalize (decide (0 < i)&&((Option.bind (getI x.Kids ((i:Int) - 1)) GN.of).map fun z=>decide (z.Kind=4)).getD false)=p
  have hp1:(decide (0 < i+1)&&((Option.bind (getI x.Kids (((i+1:Nat):Int) - 1)) GN.of).map fun z=>decide (z.Kind=4)).getD false)=decide (y.Kind=4):=by
   rw [dzT zo,show (((i+1:Nat):Int) - 1)=(i:Int) by omega,hy]
   rfl
  rw [hp1] at w2
  rw [show itemK (decide (x.N=7)) p (y :: kidsL (List.drop (i+1) x.Kids))=((npartB y&&!(decide (y.Kind=4)&&!decide (x.N=7))&&!(decide (y.Kind=3)&&p))&&itemK (decide (x.N=7)) (decide (y.Kind=4)) (kidsL (List.drop (i+1) x.Kids))) from rfl]
  generalize itemK (decide (x.N=7)) (decide (y.Kind=4)) (kidsL (List.drop (i+1) x.Kids))=z at w2 ⊢
  generalize rec ((i+1:Nat):Int)=q at w2 ⊢
  obtain ⟨r,rfl,rfl⟩:=w2
  cases npartB y <;> cases decide (y.Kind=4) <;> cases decide (x.N=7) <;> cases decide (y.Kind=3) <;> cases p <;> exact does_some rfl
 unfold g_ref02_item itemB
 rw [hloop,r_nameL hn hs]
 simp only [obs,cond_some,eqI_d,ltI]
 by_cases c1:x.N < 1
 ·rw [dzT c1,dzF (show ¬ 1≤x.N by omega)]
  cases decide (x.Kind=2) <;> rfl
 rw [dzF c1,dzT (show 1≤x.N by omega)]
 by_cases c2:7 < x.N
 ·rw [dzT c2,dzF (show ¬ x.N≤7 by omega)]
  cases decide (x.Kind=2) <;> rfl
 rw [dzF c2,dzT (show x.N≤7 by omega)]
 cases decide (x.Kind=2) <;> cases nameB x.Name <;> rfl
theorem pt_item {n d:Nat} {x:GN} {left:Int} (ht:treeD d x) (hn:9223372036854776000≤n) (hle:(x.Kids.length:Int)+pwL (kidsL x.Kids)≤left∧left≤1500) :
  Does (g_p_validItem n x left) (fun r=>r.1=itemB x∧(itemB x=true→r.2=left - x.Kids.length - pwL (kidsL x.Kids))):=by
 obtain ⟨e,rfl,hl,hs,hk⟩:=tree_kids ht
 have hpw:∀ l:List GN,0≤pwL l:=by
  intro l
  induction l with
  | nil=>exact Int.le_refl _
  | cons a l ih=>unfold pwL at ih ⊢; simp only [List.map_cons,List.sum_cons]; omega
 have hp0:=hpw (kidsL x.Kids)
 have hw:wi (left - lenI (List.map idc x.Kids))=left - x.Kids.length:=by
  simp only [lenI,List.length_map]; exact wi_id zo zo
 have hloop:Does (loopN (fun recl8 (v:Bool × Int × Int)=>g_p_validItem_l8 n x recl8 v.1 v.2.1 v.2.2) n (false,0,left - x.Kids.length)) (fun r=>r.1=parsK (decide (x.N=7)) false (kidsL x.Kids)∧(parsK (decide (x.N=7)) false (kidsL x.Kids)=true→r.2=left - x.Kids.length - pwL (kidsL x.Kids))):=by
  refine does_loop (Q:=fun (v:Bool × Int × Int) (r:Bool × Int)=>r.1=parsK (decide (x.N=7)) v.1 (kidsL (x.Kids.drop v.2.1.toNat))∧(parsK (decide (x.N=7)) v.1 (kidsL (x.Kids.drop v.2.1.toNat))=true→r.2=v.2.2 - pwL (kidsL (x.Kids.drop v.2.1.toNat)))) (fun v=>x.Kids.length - v.2.1.toNat)
   (fun (v:Bool × Int × Int)=>(∃ i:Nat,v.2.1=(i:Int)∧i≤x.Kids.length)∧pwL (kidsL (x.Kids.drop v.2.1.toNat))≤v.2.2∧v.2.2≤1500) ?_ ⟨⟨0,rfl,by omega⟩,by simp only [show (0:Int).toNat=0 from rfl,List.drop_zero]; omega,by simp only; omega⟩ (by simp only; omega)
  rintro rec ⟨fl,idx,lf⟩ ⟨⟨i,hi,hil⟩,g1,g2⟩ hrec
  simp only at hi hrec g1 g2 ⊢
  subst hi
  simp only [Int.toNat_natCast] at g1 ⊢
  unfold g_p_validItem_l8
  simp only [lenI,List.length_map,ltI]
  by_cases c1:i < x.Kids.length
  rotate_left
  ·rw [dzF zo,cond_false,kidL_end _ zo]
   unfold g_p_validItem_j6
   rw [eqI_d]
   cases fl
   ·exact does_some ⟨rfl,fun _=>by simp [pwL]⟩
   ·exact does_some ⟨rfl,fun _=>by simp [pwL]⟩
  obtain ⟨y,hy,hty,hc⟩:=kidL_at hk c1
  rw [hc] at g1 ⊢
  have hcons:pwL (y :: kidsL (List.drop (i+1) x.Kids))=(y.Kids.length:Int)+pwL (kidsL (List.drop (i+1) x.Kids)):=rfl
  rw [hcons] at g1 ⊢
  have h0:=hpw (kidsL (List.drop (i+1) x.Kids))
  rw [dzT zo,cond_true,hy,obs]
  have hj10:∀ b:Bool,Does (g_p_validItem_j10 n (i:Int) lf rec y b) fun r=>r.1=(npartB y&&parsK (decide (x.N=7)) b (kidsL (List.drop (i+1) x.Kids)))∧((npartB y&&parsK (decide (x.N=7)) b (kidsL (List.drop (i+1) x.Kids)))=true→r.2=lf - ((y.Kids.length:Int)+pwL (kidsL (List.drop (i+1) x.Kids)))):=by
   intro b
   unfold g_p_validItem_j10
   rw [wi_id (x:=(i:Int)+1) zo zo]
   refine does_bind (p_part hty hn ⟨by omega,g2⟩) ?_
   rintro ⟨r1,r2⟩ ⟨q1,q2⟩
   simp only at q1 q2 ⊢
   subst q1
   cases hb:npartB y
   ·exact does_some ⟨rfl,fun h=>by cases h⟩
   have q2:=q2 hb
   simp only [Bool.not_true,cond_false,Bool.true_and]
   refine does_mono (hrec (b,(i:Int)+1,r2) ⟨⟨i+1,by simp,c1⟩,by simp only [show ((i:Int)+1).toNat=i+1 by omega]; omega,by simp only; omega⟩ (by simp only; omega)) ?_
   rintro ⟨s1,s2⟩ ⟨t1,t2⟩
   simp only [show ((i:Int)+1).toNat=i+1 by omega] at t1 t2 ⊢
   exact ⟨t1,fun h=>by rw [t2 h]; omega⟩
  rw [eqI_d]
  unfold parsK
  cases decide (y.Kind=4)
  ·cases fl
   ·exact hj10 false
   ·exact does_some ⟨rfl,fun h=>by cases h⟩
  ·exact hj10 true
 unfold g_p_validItem
 rw [b_goodName n x.Name zo,hw,show ltI (left - (x.Kids.length:Int)) 0=false from ltI_f zo]
 simp only [obs,cond_some,eqI_d,ltI]
 have hb:itemB x=(decide (x.Kind=2)&&(decide (1≤x.N)&&(decide (x.N≤7)&&(nameB x.Name&&parsK (decide (x.N=7)) false (kidsL x.Kids))))):=by
  unfold itemB; rw [pars_item]; simp
 rw [hb]
 have hfalse:∀ b:Bool,b=false→Does (some (false,left)) (fun r=>r.1=b∧(b=true→r.2=left - x.Kids.length - pwL (kidsL x.Kids))):=by
  intro b h
  subst h
  exact does_some ⟨rfl,fun h=>by cases h⟩
 by_cases c0:x.Kind=2
 rotate_left
 ·rw [dzF c0]; exact hfalse _ rfl
 rw [dzT c0]
 by_cases c1:x.N < 1
 ·rw [dzT c1,dzF (show ¬ 1≤x.N by omega)]; exact hfalse _ rfl
 rw [dzF c1,dzT (show 1≤x.N by omega)]
 by_cases c2:7 < x.N
 ·rw [dzT c2,dzF (show ¬ x.N≤7 by omega)]; exact hfalse _ rfl
 rw [dzF c2,dzT (show x.N≤7 by omega)]
 cases nameB x.Name
 ·exact hfalse _ rfl
 ·exact hloop
def sz:Nat→GN→Int
 | 0,_=>1
 | k+1,x=>1+((kidsL x.Kids).map (sz k)).sum
theorem sum_nonneg {f:GN→Int} (hf:∀ y,0≤f y):∀ l:List GN,0≤(l.map f).sum
 | []=>Int.le_refl _
 | a :: l=>by have:=sum_nonneg hf l; have:=hf a; simp only [List.map_cons,List.sum_cons]; omega
theorem count_sz:∀ (m n d:Nat) (x:GN) (most:Int),treeD d x→0≤most→most≤m→m≤1000000→m+3≤n→Does (g_ref02_Count n x most) (fun r=>1≤r∧r≤most+1∧(r≤most→∀ k,sz k x≤r)):=by
 intro m
 induction m with
 | zero =>
  intro n d x most ht h0 h1 h2 h3
  obtain ⟨r,e,g1,g2⟩:=count_tot 0 n d x most ht h0 h1 h2 h3
  exact ⟨r,e,g1,g2,fun h=>by omega⟩
 | succ m ih =>
  intro n d x most ht h0 h1 h2 h3
  obtain ⟨n,rfl⟩:∃ q,n=q+1:=⟨n - 1,by omega⟩
  obtain ⟨e,rfl,hl,_,hk⟩:=tree_kids ht
  unfold g_ref02_Count g_ref02_Count_body
  have:=does_loop (n:=n) (v:=((1:Int),(0:Int))) (B:=fun recl1 (v:Int × Int)=>g_ref02_Count_l1 x most (g_ref02_Count n) recl1 v.1 v.2) (Q:=fun (v:Int × Int) r=>v.1≤r∧r≤most+1∧(r≤most→∀ k,v.1+((kidsL (x.Kids.drop v.2.toNat)).map (sz k)).sum≤r)) (fun v=>(most+1 - v.1).toNat) (fun v=>1≤v.1∧v.1≤most+1∧∃ i:Nat,v.2=(i:Int)∧i≤x.Kids.length) ?_ ⟨by omega,by omega,0,rfl,by omega⟩ (by simp only; omega)
  ·obtain ⟨r,e1,g1,g2,g3⟩:=this
   refine ⟨r,e1,g1,g2,fun h k=>?_⟩
   cases k with
   | zero=>exact g1
   | succ k=>exact g3 h k
  rintro rec ⟨many,idx⟩ ⟨g1,g2,i,hi,hil⟩ hrec
  simp only at g1 g2 hi hrec ⊢
  subst hi
  simp only [Int.toNat_natCast]
  unfold g_ref02_Count_l1
  simp only [lenI,List.length_map,ltI,leI]
  by_cases c1:i < x.Kids.length
  rotate_left
  ·rw [dzF zo]
   refine does_some ⟨Int.le_refl _,g2,fun _ k=>?_⟩
   rw [kidL_end _ zo]
   simp
  rw [dzT zo]
  by_cases c2:many≤most
  rotate_left
  ·rw [dzF c2]
   exact does_some ⟨Int.le_refl _,g2,fun h=>absurd h c2⟩
  rw [dzT c2]
  obtain ⟨y,hy,hty,hc⟩:=kidL_at hk c1
  simp only [cond_true,obs]
  rw [hy,obs,wi_id (x:=most - many) zo zo]
  refine does_bind (ih n e y (most - many) hty zo zo zo zo) ?_
  rintro r ⟨r1,r2,r3⟩
  rw [wi_id (x:=many+r) zo zo,wi_id (x:=(i:Int)+1) zo zo]
  refine does_mono (hrec (many+r,(i:Int)+1) ⟨by simp only; omega,by simp only; omega,i+1,by simp,c1⟩ (by simp only; omega)) ?_
  rintro q ⟨q1,q2,q3⟩
  simp only at q1 q3
  refine ⟨by omega,q2,fun h k=>?_⟩
  have:=q3 h k
  have:=r3 zo k
  rw [hc]
  simp only [show ((i:Int)+1).toNat=i+1 by omega,List.map_cons,List.sum_cons] at *
  omega
theorem kidsL_len {d:Nat}:∀ {l:List (List PV)},kidsD d l→(kidsL l).length=l.length
 | [],_=>rfl
 | c :: r,h=>by
  obtain ⟨y,e,_⟩:=h c zq
  have:=kidsL_len (l:=r) (fun k hk=>h k (by simp [hk]))
  unfold kidsL at this ⊢
  rw [List.filterMap_cons,e]
  simp [this]
theorem kidsL_mem {d:Nat} {l:List (List PV)} (h:kidsD d l):∀ y ∈ kidsL l,treeD d y:=by
 intro y hy
 obtain ⟨c,hc,e⟩:=List.mem_filterMap.1 hy
 obtain ⟨z,e',t⟩:=h c hc
 rw [e'] at e
 cases e
 exact t
theorem sz1 {d:Nat} {x:GN} (h:treeD d x):sz 1 x=1+x.Kids.length:=by
 obtain ⟨e,rfl,_,_,hk⟩:=tree_kids h
 have:∀ l:List GN,(l.map (sz 0)).sum=l.length:=by
  intro l
  induction l with
  | nil=>rfl
  | cons a l ih=>simp only [List.map_cons,List.sum_cons,sz,zLC] at ih ⊢; rw [ih]; omega
 show 1+((kidsL x.Kids).map (sz 0)).sum=_
 rw [this,kidsL_len hk]
theorem sz2 {d:Nat} {x:GN} (h:treeD d x):sz 2 x=1+x.Kids.length+pwL (kidsL x.Kids):=by
 obtain ⟨e,rfl,_,_,hk⟩:=tree_kids h
 have:∀ l:List GN,(∀ y ∈ l,treeD e y)→(l.map (sz 1)).sum=l.length+pwL l:=by
  intro l
  induction l with
  | nil=>intro _; rfl
  | cons a l ih =>
   intro hl
   have:=ih (fun y hy=>hl y (by simp [hy]))
   have h1:=sz1 (hl a zq)
   unfold pwL at this ⊢
   simp only [List.map_cons,List.sum_cons,zLC] at this ⊢
   rw [this,h1]; omega
 show 1+((kidsL x.Kids).map (sz 1)).sum=_
 rw [this _ (kidsL_mem hk),kidsL_len hk]
 omega
def swL (l:List GN):Int:=(l.map fun k=>(k.Kids.length:Int)+pwL (kidsL k.Kids)).sum
theorem sz3 {d:Nat} {x:GN} (h:treeD d x):sz 3 x=1+x.Kids.length+swL (kidsL x.Kids):=by
 obtain ⟨e,rfl,_,_,hk⟩:=tree_kids h
 have:∀ l:List GN,(∀ y ∈ l,treeD e y)→(l.map (sz 2)).sum=l.length+swL l:=by
  intro l
  induction l with
  | nil=>intro _; rfl
  | cons a l ih =>
   intro hl
   have:=ih (fun y hy=>hl y (by simp [hy]))
   have h1:=sz2 (hl a zq)
   unfold swL at this ⊢
   simp only [List.map_cons,List.sum_cons,zLC] at this ⊢
   rw [this,h1]; omega
 show 1+((kidsL x.Kids).map (sz 2)).sum=_
 rw [this _ (kidsL_mem hk),kidsL_len hk]
 omega
def validB (x:GN):Bool:=decide (x.Kind=1)&&(decide (x.Name=[])&&(decide (x.N=0)&&(kidsL x.Kids).all itemB))
theorem pw_nonneg (l:List GN):0≤pwL l:=sum_nonneg (fun y=>by omega) l
theorem sw_nonneg (l:List GN):0≤swL l:=sum_nonneg (fun y=>by have:=pw_nonneg (kidsL y.Kids); omega) l
theorem p_valid {n d:Nat} {x:GN} (ht:treeD d x) (hn:9223372036854776000≤n) (hs:1+(x.Kids.length:Int)+swL (kidsL x.Kids)≤1500):g_p_Valid n x=some (validB x):=by
 obtain ⟨e,rfl,hl,_,hk⟩:=tree_kids ht
 have hw:wi (1499 - lenI (List.map idc x.Kids))=1499 - x.Kids.length:=by
  simp only [lenI,List.length_map]; exact wi_id zo zo
 have hsw:=sw_nonneg (kidsL x.Kids)
 have hloop:Does (loopN (fun recl5 (v:Int × Int)=>g_p_Valid_l5 n x recl5 v.1 v.2) n (0,1499 - x.Kids.length)) (fun r=>r=(kidsL x.Kids).all itemB):=by
  refine does_loop (Q:=fun (v:Int × Int) (r:Bool)=>r=(kidsL (x.Kids.drop v.1.toNat)).all itemB) (fun v=>x.Kids.length - v.1.toNat) (fun v=>(∃ i:Nat,v.1=(i:Int)∧i≤x.Kids.length)∧swL (kidsL (x.Kids.drop v.1.toNat))≤v.2∧v.2≤1500) ?_ ⟨⟨0,rfl,by omega⟩,by simp only [show (0:Int).toNat=0 from rfl,List.drop_zero]; omega,by simp only; omega⟩ (by simp only; omega)
  rintro rec ⟨idx,lf⟩ ⟨⟨i,hi,hil⟩,g1,g2⟩ hrec
  simp only at hi hrec g1 g2 ⊢
  subst hi
  simp only [Int.toNat_natCast] at g1 ⊢
  unfold g_p_Valid_l5
  simp only [lenI,List.length_map,ltI]
  by_cases c1:i < x.Kids.length
  rotate_left
  ·rw [dzF zo,cond_false,kidL_end _ zo]
   exact does_some rfl
  obtain ⟨y,hy,hty,hc⟩:=kidL_at hk c1
  rw [hc] at g1 ⊢
  have hcons:swL (y :: kidsL (List.drop (i+1) x.Kids))=((y.Kids.length:Int)+pwL (kidsL y.Kids))+swL (kidsL (List.drop (i+1) x.Kids)):=rfl
  rw [hcons] at g1
  have h0:=sw_nonneg (kidsL (List.drop (i+1) x.Kids))
  rw [dzT zo,cond_true,hy,obs,List.all_cons,wi_id (x:=(i:Int)+1) zo zo]
  refine does_bind (pt_item hty hn ⟨by omega,g2⟩) ?_
  rintro ⟨r1,r2⟩ ⟨q1,q2⟩
  simp only at q1 q2 ⊢
  subst q1
  cases hb:itemB y
  ·exact does_some rfl
  have q2:=q2 hb
  have hpw:=pw_nonneg (kidsL y.Kids)
  simp only [Bool.not_true,cond_false,Bool.true_and]
  refine does_mono (hrec ((i:Int)+1,r2) ⟨⟨i+1,by simp,c1⟩,by simp only [show ((i:Int)+1).toNat=i+1 by omega]; omega,by simp only; omega⟩ (by simp only; omega)) ?_
  intro r hr
  simpa only [show ((i:Int)+1).toNat=i+1 by omega] using hr
 obtain ⟨r,er,rfl⟩:=hloop
 unfold g_p_Valid validB
 rw [hw,show ltI (1499 - (x.Kids.length:Int)) 0=false from ltI_f zo,eqSn]
 simp only [cond_some,obs,eqI_d]
 have er':loopN (fun recl5 (x_1:Int × Int)=>match x_1 with | (l5_1,l5_2)=>g_p_Valid_l5 n x recl5 l5_1 l5_2) n (0,1499 - (x.Kids.length:Int))=some ((kidsL x.Kids).all itemB):=er
 rw [er']
 cases decide (x.Kind=1) <;> cases decide (x.Name=[]) <;> cases decide (x.N=0) <;> rfl
theorem r_valid {n d:Nat} {x:GN} (ht:treeD d x) (hn:9223372036854776000≤n) {c:Int} (hc:g_ref02_Count n x 1500=some c) (h15:c≤1500):g_ref02_Valid n x=some (validB x):=by
 obtain ⟨e,rfl,hl,_,hk⟩:=tree_kids ht
 have hloop:Does (loopN (fun recl6 l6=>g_ref02_Valid_l6 n x recl6 l6) n 0) (fun r=>r=(kidsL x.Kids).all itemB):=by
  refine does_idx (B:=fun recl6 l6=>g_ref02_Valid_l6 n x recl6 l6) (n:=n) (L:=x.Kids.length) (fun i r=>r=(kidsL (x.Kids.drop i)).all itemB) hl (fun rec i hi hr=>?_) 0 zo zo
  unfold g_ref02_Valid_l6
  simp only [lenI,List.length_map,ltI]
  by_cases c1:i < x.Kids.length
  rotate_left
  ·rw [dzF zo,kidL_end _ zo]; exact does_some rfl
  obtain ⟨y,hy,hty,hc⟩:=kidL_at hk c1
  obtain ⟨w1,w2⟩:=hr c1
  rw [dzT zo,cond_true,hy,obs,w1,r_item hty hn,obs,hc,List.all_cons]
  cases itemB y
  ·exact does_some rfl
  ·simpa using w2
 obtain ⟨r,er,rfl⟩:=hloop
 unfold g_ref02_Valid validB
 rw [er,hc,eqSn]
 simp only [obs,cond_some,eqI_d,ltI]
 rw [dzF (show ¬ 1500 < c by omega)]
 cases decide (x.Kind=1) <;> cases decide (x.Name=[]) <;> cases decide (x.N=0) <;> rfl
theorem kidK {d:Nat} {l:List (List PV)} (h:kidsD d l):∀ {i:Nat},i < l.length→∃ y,Option.bind (getI l (i:Int)) GN.of=some y∧treeD d y∧(kidsL l)[i]?=some y:=by
 induction l with
 | nil=>intro i hi; cases hi
 | cons c l ih =>
  intro i hi
  obtain ⟨z,e,t⟩:=h c zq
  have hk:kidsL (c :: l)=z :: kidsL l:=by unfold kidsL; rw [List.filterMap_cons,e]
  rw [hk]
  cases i with
  | zero=>exact ⟨z,by rw [getI_nat]; exact e,t,rfl⟩
  | succ i =>
   obtain ⟨y,h1,h2,h3⟩:=ih (fun k hk=>h k (by simp [hk])) (i:=i) (by simpa using hi)
   refine ⟨y,?_,h2,h3⟩
   rw [getI_nat] at h1 ⊢
   exact h1
theorem getI_len {α:Type} {l:List α} {i:Nat} (h:i < l.length):∃ x,getI l (i:Int)=some x∧l[i]?=some x:=⟨l[i],by rw [getI_nat,List.getElem?_eq_getElem h],List.getElem?_eq_getElem h⟩
theorem r_rule {n:Nat} {l:List Int} {b:Bool} {k:Int} (hl:l.length≤1000) (hn:2000≤n):g_site_rule_of n l b k=some (l.contains k):=by
 unfold g_site_rule_of
 have:=does_idx (B:=fun recl1 l1=>g_site_rule_of_l1 l k recl1 l1) (n:=n) (L:=l.length) (fun i r=>r=(l.drop i).contains k) zo (fun rec i hi hr=>?_) 0 zo zo
 ·obtain ⟨r,e,h⟩:=this
  rw [show ((0:Nat):Int)=0 from rfl] at e
  rw [e,h]; rfl
 unfold g_site_rule_of_l1
 simp only [lenI,List.length_map,ltI]
 by_cases c1:i < l.length
 rotate_left
 ·rw [dzF zo,cond_false,List.drop_eq_nil_of_le zo]; exact does_some rfl
 obtain ⟨w1,w2⟩:=hr c1
 rw [dzT zo,cond_true,getI_nat,List.getElem?_eq_getElem c1,obs,w1,List.drop_eq_getElem_cons c1,List.contains_cons,eqI_d]
 generalize l[i]'c1=y
 by_cases h:y=k
 ·subst h
  rw [dzT rfl,cond_true,beq_self_eq_true,Bool.true_or]
  exact does_some rfl
 ·rw [dzF h,cond_false,show (k == y)=false from by simpa using fun e=>h e.symm,Bool.false_or]
  exact w2
def inSp (p:GN × GSp):Bool:=decide (p.2.from_≤p.1.N)&&decide (p.1.N≤p.2.to_)
def snR (a:GN) (sp:List GSp):Except (Int × Int) (List Int) :=
 if ((kidsL a.Kids).zip sp).all inSp then .ok ((kidsL a.Kids).map (·.N)) else .error (3,a.At)
def snF (a:GN) (sp:List GSp):Except (Int × Int) (List Int) :=
 if a.Kids.length=sp.length then if (kidsL a.Kids).all (fun y=>decide (y.Kind=6)) then snR a sp else .error (9,a.At) else .error (9,a.At)
theorem s_numbers1 {n d:Nat} {a:GN} {sp:List GSp} (ht:treeD d a) (hn:2000≤n) (hl:a.Kids.length=sp.length) (hs:sp.length≤10):g_site_numbers_j1 n a sp=some (snR a sp):=by
 obtain ⟨e,rfl,_,_,hk⟩:=tree_kids ht
 have hlen:=kidsL_len hk
 unfold g_site_numbers_j1
 simp only [lenI,List.length_map]
 rw [show makeB (sp.length:Int) (sp.length:Int) 8=true from by unfold makeB; simp; omega,cond_true]
 have:=does_loop (n:=n) (B:=fun recl2 (v:List Int × Int)=>g_site_numbers_l2 n a sp recl2 v.1 v.2) (v:=(List.replicate (Int.toNat (sp.length:Int)) 0,0))
  (Q:=fun v r=>∀ i:Nat,v.2=(i:Int)→r=if (((kidsL a.Kids).drop i).zip (sp.drop i)).all inSp then .ok ((kidsL a.Kids).map (·.N)) else .error (3,a.At))
  (fun v=>sp.length - v.2.toNat) (fun v=>∃ i:Nat,v.2=(i:Int)∧i≤sp.length∧v.1=((kidsL a.Kids).take i).map (·.N)++List.replicate (sp.length - i) 0) ?_ ⟨0,rfl,by omega,by simp⟩ (by simp only; omega)
 ·obtain ⟨r,e1,h⟩:=this
  rw [e1,h 0 rfl]; rfl
 rintro rec ⟨l,q⟩ ⟨i,hq,hi,hL⟩ hrec
 simp only at hq hL hrec ⊢
 subst hq
 unfold g_site_numbers_l2
 simp only [lenI,List.length_map,ltI]
 by_cases c1:i < a.Kids.length
 rotate_left
 ·rw [dzF zo,cond_false]
  refine does_some fun j hj=>?_
  obtain rfl:i=j:=by omega
  rw [List.drop_eq_nil_of_le (by omega:(kidsL a.Kids).length≤i),List.zip_nil_left,List.all_nil,if_pos rfl,hL,List.take_of_length_le zo,show sp.length - i=0 by omega]
  simp
 obtain ⟨y,hy,hty,hK⟩:=kidK hk c1
 obtain ⟨hKi,hKe⟩:=List.getElem?_eq_some_iff.1 hK
 have hKlen:(kidsL a.Kids).length=sp.length:=by omega
 obtain ⟨s,hs1,hs2⟩:=getI_len (l:=sp) (i:=i) zo
 obtain ⟨hsi,hse⟩:=List.getElem?_eq_some_iff.1 hs2
 have hlL:l.length=sp.length:=by rw [hL]; simp; omega
 obtain ⟨z,hz,_⟩:=getI_len (l:=l) (i:=i) zo
 rw [dzT zo,cond_true,hy,obs,hs1,obs]
 have hin:g_site_span_holds n s y.N=some (inSp (y,s)):=by
  unfold g_site_span_holds inSp leI
  cases decide (s.from_≤y.N) <;> rfl
 rw [hin,obs,hz,obs,wi_id (x:=(i:Int)+1) zo zo,Int.toNat_natCast]
 have hcons:((kidsL a.Kids).drop i).zip (sp.drop i)=(y,s) :: ((kidsL a.Kids).drop (i+1)).zip (sp.drop (i+1)):=by
  rw [List.drop_eq_getElem_cons hKi,List.drop_eq_getElem_cons hsi,hKe,hse,List.zip_cons_cons]
 cases hb:inSp (y,s)
 ·refine does_some fun j hj=>?_
  obtain rfl:i=j:=by omega
  rw [hcons,List.all_cons,hb]; rfl
 ·refine does_mono (hrec (l.set i y.N,(i:Int)+1) ⟨i+1,by simp,by omega,?_⟩ (by simp only; omega)) ?_
  ·simp only
   rw [hL,List.set_append,if_neg (by simp; omega)]
   simp only [List.length_map,List.length_take]
   rw [show i - min i (kidsL a.Kids).length=0 by omega,show sp.length - i=(sp.length - (i+1))+1 by omega,List.replicate_succ,List.set_cons_zero,List.take_add_one,hK]
   simp
  ·intro r hr j hj
   obtain rfl:i=j:=by omega
   rw [hcons,List.all_cons,hb,Bool.true_and]
   exact hr (i+1) zq
theorem s_numbers {n d:Nat} {a:GN} {sp:List GSp} (ht:treeD d a) (hn:9223372036854776000≤n) (hs:sp.length≤10):g_site_numbers n a sp=some (snF a sp):=by
 unfold g_site_numbers snF
 simp only [lenI,List.length_map]
 rw [eqI_d]
 by_cases h:a.Kids.length=sp.length
 rotate_left
 ·rw [dzF zo,if_neg h]; rfl
 rw [dzT zo,if_pos h,Bool.not_true,cond_false]
 obtain ⟨e,rfl,hl,_,hk⟩:=tree_kids ht
 have:=does_idx (B:=fun recl7 l7=>g_site_numbers_l7 n a sp recl7 l7) (n:=n) (L:=a.Kids.length) (fun i r=>r=if (kidsL (a.Kids.drop i)).all (fun y=>decide (y.Kind=6)) then snR a sp else .error (9,a.At)) hl (fun rec i hi hr=>?_) 0 zo zo
 ·obtain ⟨r,e1,h1⟩:=this
  rw [show ((0:Nat):Int)=0 from rfl] at e1
  rw [e1,h1]; rfl
 unfold g_site_numbers_l7
 simp only [lenI,List.length_map,ltI]
 by_cases c1:i < a.Kids.length
 rotate_left
 ·rw [dzF zo,cond_false,kidL_end _ zo,s_numbers1 ht zo h hs]; exact does_some rfl
 obtain ⟨y,hy,hty,hc⟩:=kidL_at hk c1
 obtain ⟨w1,w2⟩:=hr c1
 rw [dzT zo,cond_true,hy,obs,w1,hc,List.all_cons,eqI_d]
 cases decide (y.Kind=6)
 ·exact does_some rfl
 ·simpa using w2
theorem snF_len {a:GN} {sp:List GSp} {l:List Int} {d:Nat} (ht:treeD d a) (h:snF a sp=.ok l):l.length=sp.length∧l=(kidsL a.Kids).map (·.N)∧(((kidsL a.Kids).zip sp).all inSp)=true:=by
 unfold snF snR at h
 obtain ⟨e,rfl,_,_,hk⟩:=tree_kids ht
 have hlen:=kidsL_len hk
 split at h
 ·split at h
  ·split at h
   ·cases h
    rename_i h1 h2 h3
    exact ⟨by simp [hlen,h1],rfl,h3⟩
   ·cases h
  ·cases h
 ·cases h
def nmF (ks:List Int) (th:List (List UInt8 × GTh)) (a:GN):Except (Int × Int) Int :=
  match kidsL a.Kids with
  | [y]=>if y.Kind=5 then
      (match mget me_mst y.Name th with
       | some t=>if ks.contains t.kind then .ok t.index else .error (8,a.At)
       | none=>.error (8,a.At))
    else .error (9,a.At)
  | _=>.error (9,a.At)
theorem s_name {n d:Nat} {a h0:GN} {c:GCo} {k:GCt} {g:GCg} {b:GBay} {s:GSite} {f:Bool} {dd:List GDg} {h7 h10:List (List UInt8 × Bool)} {th:List (List UInt8 × GTh)} (ht:treeD d a) (hn:2000≤n):g_sr_name n a h0 c k g b s f dd h7 th h10=some (nmF [1,2] th a):=by
 obtain ⟨e,rfl,hl,_,hk⟩:=tree_kids ht
 have hlen:=kidsL_len hk
 unfold g_sr_name nmF
 simp only [lenI,List.length_map,eqI_d]
 by_cases h:a.Kids.length=1
 rotate_left
 ·rw [dzF zo]
  simp only [Bool.not_false,cond_true,obs]
  split
  ·rename_i y hy; rw [hy] at hlen; simp at hlen; omega
  ·rfl
 obtain ⟨y,hy,hty,hK⟩:=kidK hk (i:=0) zo
 rw [show ((0:Nat):Int)=0 from rfl] at hy
 have hks:kidsL a.Kids=[y]:=by
  match hq:kidsL a.Kids with
  | []=>rw [hq] at hlen; simp at hlen; omega
  | [z]=>rw [hq] at hK; simp at hK; rw [hK]
  | _ :: _ :: _=>rw [hq] at hlen; simp at hlen; omega
 rw [dzT zo,hy,hks]
 simp only [Bool.not_true,cond_false,obs]
 by_cases h5:y.Kind=5
 rotate_left
 ·rw [dzF h5,if_neg h5]; rfl
 rw [dzT h5,if_pos h5]
 simp only [Bool.not_true,cond_false]
 unfold mhas
 match hm:mget me_mst y.Name th with
 | none=>rfl
 | some t =>
  simp only [Option.isSome_some,cond_true]
  have hD:mgetD me_mst y.Name (⟨0,0⟩:GTh) th=t:=by unfold mgetD; rw [hm]; rfl
  have:=does_idx (B:=fun recl6 l6=>g_sr_name_l6 a th y recl6 l6) (n:=n) (L:=([1,2]:List Int).length) (fun i r=>r=if (([1,2]:List Int).drop i).contains t.kind then .ok t.index else .error (8,a.At)) zq (fun rec i hi hr=>?_) 0 zo (by simp; omega)
  ·obtain ⟨r,e1,h1⟩:=this
   rw [show ((0:Nat):Int)=0 from rfl] at e1
   rw [e1,h1]; rfl
  unfold g_sr_name_l6 g_sr_name_j5
  simp only [lenI,List.length_map,ltI,hD]
  by_cases c1:i < ([1,2]:List Int).length
  rotate_left
  ·rw [dzF zo,cond_false,List.drop_eq_nil_of_le zo]; exact does_some rfl
  obtain ⟨w1,w2⟩:=hr c1
  rw [dzT zo,cond_true,getI_nat,List.getElem?_eq_getElem c1,obs,w1,List.drop_eq_getElem_cons c1,List.contains_cons,eqI_d]
  generalize ([1,2]:List Int)[i]'c1=z
  by_cases h:z=t.kind
  ·subst h
   rw [dzT rfl,cond_true,beq_self_eq_true,Bool.true_or]
   exact does_some rfl
  ·rw [dzF h,cond_false,show (t.kind == z)=false from by simpa using fun e=>h e.symm,Bool.false_or]
   exact w2
theorem s_name_2 {n d:Nat} {a h0:GN} {c:GCo} {k:GCt} {g:GCg} {b:GBay} {s:GSite} {f:Bool} {dd:List GDg} {h7 h10:List (List UInt8 × Bool)} {th:List (List UInt8 × GTh)} (ht:treeD d a) (hn:2000≤n):g_sr_name_2 n a h0 c k g b s f dd h7 th h10=some (nmF [3] th a):=by
 obtain ⟨e,rfl,hl,_,hk⟩:=tree_kids ht
 have hlen:=kidsL_len hk
 unfold g_sr_name_2 nmF
 simp only [lenI,List.length_map,eqI_d]
 by_cases h:a.Kids.length=1
 rotate_left
 ·rw [dzF zo]
  simp only [Bool.not_false,cond_true,obs]
  split
  ·rename_i y hy; rw [hy] at hlen; simp at hlen; omega
  ·rfl
 obtain ⟨y,hy,hty,hK⟩:=kidK hk (i:=0) zo
 rw [show ((0:Nat):Int)=0 from rfl] at hy
 have hks:kidsL a.Kids=[y]:=by
  match hq:kidsL a.Kids with
  | []=>rw [hq] at hlen; simp at hlen; omega
  | [z]=>rw [hq] at hK; simp at hK; rw [hK]
  | _ :: _ :: _=>rw [hq] at hlen; simp at hlen; omega
 rw [dzT zo,hy,hks]
 simp only [Bool.not_true,cond_false,obs]
 by_cases h5:y.Kind=5
 rotate_left
 ·rw [dzF h5,if_neg h5]; rfl
 rw [dzT h5,if_pos h5]
 simp only [Bool.not_true,cond_false]
 unfold mhas
 match hm:mget me_mst y.Name th with
 | none=>rfl
 | some t =>
  simp only [Option.isSome_some,cond_true]
  have hD:mgetD me_mst y.Name (⟨0,0⟩:GTh) th=t:=by unfold mgetD; rw [hm]; rfl
  have:=does_idx (B:=fun recl6 l6=>g_sr_name_2_l6 a th y recl6 l6) (n:=n) (L:=([3]:List Int).length) (fun i r=>r=if (([3]:List Int).drop i).contains t.kind then .ok t.index else .error (8,a.At)) zq (fun rec i hi hr=>?_) 0 zo (by simp; omega)
  ·obtain ⟨r,e1,h1⟩:=this
   rw [show ((0:Nat):Int)=0 from rfl] at e1
   rw [e1,h1]; rfl
  unfold g_sr_name_2_l6 g_sr_name_2_j5
  simp only [lenI,List.length_map,ltI,hD]
  by_cases c1:i < ([3]:List Int).length
  rotate_left
  ·rw [dzF zo,cond_false,List.drop_eq_nil_of_le zo]; exact does_some rfl
  obtain ⟨w1,w2⟩:=hr c1
  rw [dzT zo,cond_true,getI_nat,List.getElem?_eq_getElem c1,obs,w1,List.drop_eq_getElem_cons c1,List.contains_cons,eqI_d]
  generalize ([3]:List Int)[i]'c1=z
  by_cases h:z=t.kind
  ·subst h
   rw [dzT rfl,cond_true,beq_self_eq_true,Bool.true_or]
   exact does_some rfl
  ·rw [dzF h,cond_false,show (t.kind == z)=false from by simpa using fun e=>h e.symm,Bool.false_or]
   exact w2
theorem s_name_3 {n d:Nat} {a h0:GN} {c:GCo} {k:GCt} {g:GCg} {b:GBay} {s:GSite} {f:Bool} {dd:List GDg} {h7 h10:List (List UInt8 × Bool)} {th:List (List UInt8 × GTh)} (ht:treeD d a) (hn:2000≤n):g_sr_name_3 n a h0 c k g b s f dd h7 th h10=some (nmF [5] th a):=by
 obtain ⟨e,rfl,hl,_,hk⟩:=tree_kids ht
 have hlen:=kidsL_len hk
 unfold g_sr_name_3 nmF
 simp only [lenI,List.length_map,eqI_d]
 by_cases h:a.Kids.length=1
 rotate_left
 ·rw [dzF zo]
  simp only [Bool.not_false,cond_true,obs]
  split
  ·rename_i y hy; rw [hy] at hlen; simp at hlen; omega
  ·rfl
 obtain ⟨y,hy,hty,hK⟩:=kidK hk (i:=0) zo
 rw [show ((0:Nat):Int)=0 from rfl] at hy
 have hks:kidsL a.Kids=[y]:=by
  match hq:kidsL a.Kids with
  | []=>rw [hq] at hlen; simp at hlen; omega
  | [z]=>rw [hq] at hK; simp at hK; rw [hK]
  | _ :: _ :: _=>rw [hq] at hlen; simp at hlen; omega
 rw [dzT zo,hy,hks]
 simp only [Bool.not_true,cond_false,obs]
 by_cases h5:y.Kind=5
 rotate_left
 ·rw [dzF h5,if_neg h5]; rfl
 rw [dzT h5,if_pos h5]
 simp only [Bool.not_true,cond_false]
 unfold mhas
 match hm:mget me_mst y.Name th with
 | none=>rfl
 | some t =>
  simp only [Option.isSome_some,cond_true]
  have hD:mgetD me_mst y.Name (⟨0,0⟩:GTh) th=t:=by unfold mgetD; rw [hm]; rfl
  have:=does_idx (B:=fun recl6 l6=>g_sr_name_3_l6 a th y recl6 l6) (n:=n) (L:=([5]:List Int).length) (fun i r=>r=if (([5]:List Int).drop i).contains t.kind then .ok t.index else .error (8,a.At)) zq (fun rec i hi hr=>?_) 0 zo (by simp; omega)
  ·obtain ⟨r,e1,h1⟩:=this
   rw [show ((0:Nat):Int)=0 from rfl] at e1
   rw [e1,h1]; rfl
  unfold g_sr_name_3_l6 g_sr_name_3_j5
  simp only [lenI,List.length_map,ltI,hD]
  by_cases c1:i < ([5]:List Int).length
  rotate_left
  ·rw [dzF zo,cond_false,List.drop_eq_nil_of_le zo]; exact does_some rfl
  obtain ⟨w1,w2⟩:=hr c1
  rw [dzT zo,cond_true,getI_nat,List.getElem?_eq_getElem c1,obs,w1,List.drop_eq_getElem_cons c1,List.contains_cons,eqI_d]
  generalize ([5]:List Int)[i]'c1=z
  by_cases h:z=t.kind
  ·subst h
   rw [dzT rfl,cond_true,beq_self_eq_true,Bool.true_or]
   exact does_some rfl
  ·rw [dzF h,cond_false,show (t.kind == z)=false from by simpa using fun e=>h e.symm,Bool.false_or]
   exact w2
def phL (a:GN):List Int→Int→Int→Except (Int × Int) Int
 | [],bits,_=>.ok bits
 | x :: l,bits,before=>if x≤before then .error (3,a.At) else phL a l (bOr .i64 bits (shlI .i64 1 (wi (x - 1)))) x
def phSp (a:GN):List GSp:=List.take a.Kids.length [(⟨1,3⟩:GSp),(⟨1,3⟩:GSp),(⟨1,3⟩:GSp)]
def eb {A B:Type} (x:Except (Int × Int) A) (k:A→Except (Int × Int) B):Except (Int × Int) B:=match x with
 | .ok a=>k a
 | .error e=>.error e
def phF (a:GN):Except (Int × Int) Int:=if 1≤a.Kids.length∧a.Kids.length≤3 then eb (snF a (phSp a)) fun l=>phL a l 0 0 else .error (9,a.At)
theorem kid_N {d:Nat} {l:List (List PV)} (h:kidsD d l):∀ x ∈ (kidsL l).map (·.N),-9223372036854775808≤x∧x≤9223372036854775807:=by
 intro x hx
 obtain ⟨y,hy,rfl⟩:=List.mem_map.1 hx
 have:=kidsL_mem h y hy
 obtain ⟨_,rfl,_⟩:=tree_kids this
 exact this.2.1
theorem s_phases {n d:Nat} {a:GN} (ht:treeD d a) (hn:9223372036854776000≤n):g_site_phases n a=some (phF a):=by
 have ht':=ht
 obtain ⟨e,rfl,hl,_,hk⟩:=tree_kids ht
 unfold g_site_phases phF
 simp only [lenI,List.length_map,ltI]
 by_cases h1:1≤a.Kids.length∧a.Kids.length≤3
 rotate_left
 ·rw [if_neg h1]
  by_cases h2:a.Kids.length < 1
  ·rw [dzT zo]; rfl
  ·rw [dzF zo,dzT zo]; rfl
 obtain ⟨h1,h2⟩:=h1
 rw [dzF zo,dzF zo,if_pos ⟨h1,h2⟩]
 simp only [cond_false,obs]
 rw [show sliceB 0 (a.Kids.length:Int) (List.length [(⟨1,3⟩:GSp),(⟨1,3⟩:GSp),(⟨1,3⟩:GSp)])=true from by unfold sliceB; simp; omega,cond_true]
 rw [show List.drop (Int.toNat 0) (List.take (Int.toNat (a.Kids.length:Int)) [(⟨1,3⟩:GSp),(⟨1,3⟩:GSp),(⟨1,3⟩:GSp)])=phSp a from by unfold phSp; simp]
 rw [s_numbers ht' hn (by unfold phSp; simp; omega),obs]
 match hq:snF a (phSp a) with
 | .error e=>rfl
 | .ok r =>
  obtain ⟨q1,q2,_⟩:=snF_len ht' hq
  have hr:=kid_N hk
  rw [← q2] at hr
  have hrl:r.length≤3:=by rw [q1]; unfold phSp; simp; omega
  show loopN _ n _=some (phL a r 0 0)
  have:=does_loop (n:=n) (B:=fun recl5 (v:Int × Int × Int)=>g_site_phases_l5 a r recl5 v.1 v.2.1 v.2.2) (v:=(0,0,0))
   (Q:=fun v z=>z=phL a (r.drop v.2.2.toNat) v.1 v.2.1) (fun v=>r.length - v.2.2.toNat) (fun v=>0≤v.2.1∧∃ i:Nat,v.2.2=(i:Int)∧i≤r.length) ?_ ⟨Int.le_refl _,0,rfl,by omega⟩ (by simp only; omega)
  ·obtain ⟨z,e1,h⟩:=this
   rw [e1,h]; rfl
  rintro rec ⟨bits,before,q⟩ ⟨hb,i,hi,hil⟩ hrec
  simp only at hb hi hrec ⊢
  subst hi
  unfold g_site_phases_l5
  simp only [lenI,List.length_map,ltI,Int.toNat_natCast,leI] at hrec ⊢
  by_cases c1:i < r.length
  rotate_left
  ·rw [dzF zo,cond_false,List.drop_eq_nil_of_le zo]; exact does_some rfl
  have hx:=hr (r[i]'c1) (List.getElem_mem c1)
  rw [dzT zo,cond_true,getI_nat,List.getElem?_eq_getElem c1,obs,List.drop_eq_getElem_cons c1]
  generalize r[i]'c1=x at hx
  unfold phL
  by_cases c2:x≤before
  ·rw [dzT c2,if_pos c2]; exact does_some rfl
  ·rw [dzF c2,if_neg c2,wi_id (x:=x - 1) zo zo,dzF zo,wi_id (x:=(i:Int)+1) zo zo]
   simp only [cond_false,cond_true,Bool.not_false]
   have:=hrec (bOr .i64 bits (shlI .i64 1 (x - 1)),x,(i:Int)+1) ⟨by simp only; omega,i+1,by simp,c1⟩ (by simp only; omega)
   simpa only [show ((i:Int)+1).toNat=i+1 by omega] using this
abbrev SQ:=GCo × GCt × GCg × GBay
abbrev HasM:=List (List UInt8 × Bool)
abbrev ThM:=List (List UInt8 × GTh)
def hasN (h:HasM) (s:List UInt8):Bool:=mgetD me_msb s false h
def numQ (a:GN) (sp:List GSp) (f:List Int→SQ):Except (Int × Int) SQ:=eb (snF a sp) fun l=>.ok (f l)
def nmQ (ks:List Int) (th:ThM) (a:GN) (f:Int→SQ):Except (Int × Int) SQ:=eb (nmF ks th a) fun x=>.ok (f x)
end Go.Proofs
