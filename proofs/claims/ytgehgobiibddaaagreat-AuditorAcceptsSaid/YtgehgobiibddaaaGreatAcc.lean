/-
  Proved: AuditorAccepts. For any tariff, calendar and steps of a meter, the claim with the chain that was appended reading by reading, the session with the energies of these steps, and the bill of package bill is accepted, and Replay returns this bill. No conditions beyond those of the given statement.
-/
import Derived.Test.YtgehgobiibddaaaGreatAcc04
namespace Go.Proofs
open Go Go.Abs
set_option maxRecDepth 100000
set_option linter.unusedVariables false
theorem g_law43_made_ok (n:Nat) (a0t:GTf) (a1c:GCl) (a2seed:Int) (a3from:Int) (a4steps:List (Int × Int)):∀ r,g_law43_made n a0t a1c a2seed a3from a4steps=some r→PCall Tryz.prog 8 [ag (GTf.cs a0t),ag (GCl.cs a1c),U a2seed,I a3from, .p (.sl 2 (List.map enc_2_uint8 a4steps))] (.ret (.tup [ag (GClaim.cs r.1),B r.2])):=by
 refine pcall_sim (X:=fun r:GClaim × Bool=>AEnd.ret (.tup [ag (GClaim.cs r.1),B r.2])) Tryz.func8 rfl Tryz.ntmps8 rfl ?_
 unfold g_law43_made
 refine sR tfm ⟨[2,3,4,5,6,10],[5,6,10],[],[]⟩ ⟨[(2,U a2seed),(3,I a3from),(4, .p (.sl 2 (List.map enc_2_uint8 a4steps))),(5, .ptr 5 0),(6, .ptr 6 0),(10, .ptr 10 0)],[(5, .box 24 (bxc (GTf.cs a0t))),(6, .box 28 (bxc (GCl.cs a1c))),(10, .box 41 [S [],zS,I 0,zS,zS,zS,U 0,I 0,I 0,I 0,zS,zS,I 0,I 0,I 0])]⟩ krf (sR tfm ⟨[2,3,4,5,6,10,12],[5,6,10,12],[],[]⟩ ⟨[(2,U a2seed),(3,I a3from),(4, .p (.sl 2 (List.map enc_2_uint8 a4steps))),(5, .ptr 5 0),(6, .ptr 6 0),(10, .ptr 10 0),(12, .ptr 12 0)],[(5, .box 24 (bxc (GTf.cs a0t))),(6, .box 28 (bxc (GCl.cs a1c))),(10, .box 41 [S [],zS,I 0,zS,zS,zS,U 0,I 0,I 0,I 0,zS,zS,I 0,I 0,I 0]),(12, .box 41 (List.set (List.set (List.set (bxc (GClaim.cs ⟨a0t,a1c,[],a2seed,(⟨a3from,a3from,a3from,[]⟩:GSs),(⟨[],0,0,0⟩:GBill)⟩)) 5 (zS)) 10 (zS)) 11 (zS)))]⟩ krf (sR tfm ⟨[2,4,5,6,10,12,13,14,15],[5,6,10,12],[],[]⟩ ⟨[(2,U a2seed),(4, .p (.sl 2 (List.map enc_2_uint8 a4steps))),(5, .ptr 5 0),(6, .ptr 6 0),(10, .ptr 10 0),(12, .ptr 12 0),(13,I 1),(14,I a3from),(15,I 0)],[(5, .box 24 (bxc (GTf.cs a0t))),(6, .box 28 (bxc (GCl.cs a1c))),(10, .box 41 [S [],zS,I 0,zS,zS,zS,U 0,I 0,I 0,I 0,zS,zS,I 0,I 0,I 0]),(12, .box 41 (List.set (List.set (List.set (bxc (GClaim.cs ⟨a0t,a1c,[],a2seed,(⟨a3from,a3from,a3from,[]⟩:GSs),(⟨[],0,0,0⟩:GBill)⟩)) 5 (zS)) 10 (zS)) 11 (zS)))]⟩ krf (sS (sG (xR 4 krf ?_)))))
 refine xC [.id, .sl 5, .id, .id, .id] krf (g_chain_Append_ok n a2seed [] 1 a3from 0) krf krf (fun _=>by kernel_rfl) (fun r1=>?_)
 refine xR 5 krf (xE (sN ⟨[2,4,5,6,10,12,13,14,15,16,17],[5,6,10,12],[],[]⟩ ⟨[(2,U a2seed),(4, .p (.sl 2 (List.map enc_2_uint8 a4steps))),(5, .ptr 5 0),(6, .ptr 6 0),(10, .ptr 10 0),(12, .ptr 12 0),(13,I 1),(14,I a3from),(15,I 0),(16, .p (.sl 5 (mReading r1.1))),(17,I r1.2)],[(5, .box 24 (bxc (GTf.cs a0t))),(6, .box 28 (bxc (GCl.cs a1c))),(10, .box 41 [S [],zS,I 0,zS,zS,zS,U 0,I 0,I 0,I 0,zS,zS,I 0,I 0,I 0]),(12, .box 41 (List.set (List.set (List.set (bxc (GClaim.cs ⟨a0t,a1c,[],a2seed,(⟨a3from,a3from,a3from,[]⟩:GSs),(⟨[],0,0,0⟩:GBill)⟩)) 5 (zS)) 10 (zS)) 11 (zS)))]⟩ krf (sim_cps (fun (j2_1,j2_2,j2_3,j2_4,j2_5)=>⟨[(5, .ptr 5 0),(6, .ptr 6 0),(10, .ptr 10 0),(12, .ptr 12 0),(14,I j2_1),(16, .p (.sl 5 (mReading j2_2))),(17,I j2_3)],[(5, .box 24 (bxc (GTf.cs a0t))),(6, .box 28 (bxc (GCl.cs a1c))),(10, .box 41 [S [],zS,I 0,zS,zS,zS,U 0,I 0,I 0,I 0,zS,zS,I 0,I 0,I 0]),(12, .box 41 (List.set (List.set (List.set (bxc (GClaim.cs ⟨a0t,a1c,[],a2seed,(⟨a3from,a3from,j2_4,[]⟩:GSs),(⟨[],0,0,0⟩:GBill)⟩)) 5 (zS)) 10 (osl 2 GSl.cs j2_5 76)) 11 (zS)))]++oarr 62 2 GSl.cs j2_5 76⟩:(Int × (List GReading) × Int × Int × (OL GSl))→St) (fun (j2_1,j2_2,j2_3,j2_4,j2_5)=>g_law43_made_j2 n a0t a1c a2seed a3from j2_1 j2_2 j2_3 j2_4 j2_5) ?_ ?_)))
 ·rintro ⟨j2_1,j2_2,j2_3,j2_4,j2_5⟩
  show SimE (g_law43_made_j2 n a0t a1c a2seed a3from j2_1 j2_2 j2_3 j2_4 j2_5) _ _ _ _ _ _
  unfold g_law43_made_j2
  rcases j2_5 with _ | ow_j2_5
  ·refine sR tfm ⟨[5,6,10,12,17],[5,6,10,12],[],[]⟩ ⟨[(5, .ptr 5 0),(6, .ptr 6 0),(10, .ptr 10 0),(12, .ptr 12 0),(17,I j2_3)],[(5, .box 24 (bxc (GTf.cs a0t))),(6, .box 28 (bxc (GCl.cs a1c))),(10, .box 41 [S [],zS,I 0,zS,zS,zS,U 0,I 0,I 0,I 0,zS,zS,I 0,I 0,I 0]),(12, .box 41 (List.set (List.set (bxc (GClaim.cs ⟨a0t,a1c,j2_2,a2seed,(⟨a3from,j2_1,j2_4,[]⟩:GSs),(⟨[],0,0,0⟩:GBill)⟩)) 10 (zS)) 11 (zS)))]⟩ krf (sS (sG (xR 4 krf ?_)))
   refine xC [.id, .id, .agg [.id, .id, .id, .sl 2]] krf (g_bill_Bill_ok n a0t a1c (⟨a3from,j2_1,j2_4,OL.nil.toL⟩:GSs)) krf krf (fun _=>by kernel_rfl) (fun r3=>?_)
   refine xR 6 krf (xE (sN ⟨[10,12,17,20,21],[10,12,20],[],[]⟩ ⟨[(10, .ptr 10 0),(12, .ptr 12 0),(17,I j2_3),(20, .ptr 20 0),(21,I r3.2)],[(10, .box 41 [S [],zS,I 0,zS,zS,zS,U 0,I 0,I 0,I 0,zS,zS,I 0,I 0,I 0]),(12, .box 41 (List.set (List.set (bxc (GClaim.cs ⟨a0t,a1c,j2_2,a2seed,(⟨a3from,j2_1,j2_4,[]⟩:GSs),(⟨[],0,0,0⟩:GBill)⟩)) 10 (zS)) 11 (zS))),(20, .box 39 (bxc (GBill.cs r3.1)))]⟩ krf (sR tfm ⟨[10,12,17,21],[10,12],[],[]⟩ ⟨[(10, .ptr 10 0),(12, .ptr 12 0),(17,I j2_3),(21,I r3.2)],[(10, .box 41 [S [],zS,I 0,zS,zS,zS,U 0,I 0,I 0,I 0,zS,zS,I 0,I 0,I 0]),(12, .box 41 (List.set (bxc (GClaim.cs ⟨a0t,a1c,j2_2,a2seed,(⟨a3from,j2_1,j2_4,[]⟩:GSs),r3.1⟩)) 10 (zS)))]⟩ krf (sS (sG (xR 4 krf ?_))))))
   refine xS (eqI j2_3 0) (fun h4=>?_) (fun h4=>?_)
   ·refine xO (want_tt krf h4) krf (xR 4 krf (xE (sN ⟨[10,11],[10],[],[]⟩ ⟨[(10, .ptr 10 0),(11,B (eqI r3.2 0))],[(10, .box 41 (List.set (bxc (GClaim.cs ⟨a0t,a1c,j2_2,a2seed,(⟨a3from,j2_1,j2_4,[]⟩:GSs),r3.1⟩)) 10 (zS)))]⟩ krf (sT ?_))))
    exact qR (.agg [.agg [.id, .id, .id, .id, .id, .id, .id, .id, .id, .id, .sl 2, .id, .id, .id, .id], .id]) krf krf krf
   ·refine xN (want_tf krf h4) krf (xR 4 krf (xE (sN ⟨[10,11],[10],[],[]⟩ ⟨[(10, .ptr 10 0),(11,B false)],[(10, .box 41 (List.set (bxc (GClaim.cs ⟨a0t,a1c,j2_2,a2seed,(⟨a3from,j2_1,j2_4,[]⟩:GSs),r3.1⟩)) 10 (zS)))]⟩ krf (sT ?_))))
    exact qR (.agg [.agg [.id, .id, .id, .id, .id, .id, .id, .id, .id, .id, .sl 2, .id, .id, .id, .id], .id]) krf krf krf
  ·refine sR tfm ⟨[5,6,10,12,17],[5,6,10,12,76],[],[]⟩ ⟨[(5, .ptr 5 0),(6, .ptr 6 0),(10, .ptr 10 0),(12, .ptr 12 0),(17,I j2_3)],[(5, .box 24 (bxc (GTf.cs a0t))),(6, .box 28 (bxc (GCl.cs a1c))),(10, .box 41 [S [],zS,I 0,zS,zS,zS,U 0,I 0,I 0,I 0,zS,zS,I 0,I 0,I 0]),(12, .box 41 (List.set (List.set (bxc (GClaim.cs ⟨a0t,a1c,j2_2,a2seed,(⟨a3from,j2_1,j2_4,[]⟩:GSs),(⟨[],0,0,0⟩:GBill)⟩)) 10 (.tsl 2 (mSl (OL.own ow_j2_5).toL) 76)) 11 (zS))),(76, .arr 62 2 (mSl (OL.own ow_j2_5).toL).length)]⟩ krf (sS (sG (xR 4 krf ?_)))
   refine xC [.id, .id, .agg [.id, .id, .id, .sl 2]] krf (g_bill_Bill_ok n a0t a1c (⟨a3from,j2_1,j2_4,(OL.own ow_j2_5).toL⟩:GSs)) krf krf (fun _=>by kernel_rfl) (fun r3=>?_)
   refine xR 6 krf (xE (sN ⟨[10,12,17,20,21],[10,12,20,76],[],[]⟩ ⟨[(10, .ptr 10 0),(12, .ptr 12 0),(17,I j2_3),(20, .ptr 20 0),(21,I r3.2)],[(10, .box 41 [S [],zS,I 0,zS,zS,zS,U 0,I 0,I 0,I 0,zS,zS,I 0,I 0,I 0]),(12, .box 41 (List.set (List.set (bxc (GClaim.cs ⟨a0t,a1c,j2_2,a2seed,(⟨a3from,j2_1,j2_4,[]⟩:GSs),(⟨[],0,0,0⟩:GBill)⟩)) 10 (.tsl 2 (mSl (OL.own ow_j2_5).toL) 76)) 11 (zS))),(20, .box 39 (bxc (GBill.cs r3.1))),(76, .arr 62 2 (mSl (OL.own ow_j2_5).toL).length)]⟩ krf (sR tfm ⟨[10,12,17,21],[10,12,76],[],[]⟩ ⟨[(10, .ptr 10 0),(12, .ptr 12 0),(17,I j2_3),(21,I r3.2)],[(10, .box 41 [S [],zS,I 0,zS,zS,zS,U 0,I 0,I 0,I 0,zS,zS,I 0,I 0,I 0]),(12, .box 41 (List.set (bxc (GClaim.cs ⟨a0t,a1c,j2_2,a2seed,(⟨a3from,j2_1,j2_4,[]⟩:GSs),r3.1⟩)) 10 (.tsl 2 (mSl (OL.own ow_j2_5).toL) 76))),(76, .arr 62 2 (mSl (OL.own ow_j2_5).toL).length)]⟩ krf (sS (sG (xR 4 krf ?_))))))
   refine xS (eqI j2_3 0) (fun h4=>?_) (fun h4=>?_)
   ·refine xO (want_tt krf h4) krf (xR 4 krf (xE (sN ⟨[10,11],[10,76],[],[]⟩ ⟨[(10, .ptr 10 0),(11,B (eqI r3.2 0))],[(10, .box 41 (List.set (bxc (GClaim.cs ⟨a0t,a1c,j2_2,a2seed,(⟨a3from,j2_1,j2_4,[]⟩:GSs),r3.1⟩)) 10 (.tsl 2 (mSl (OL.own ow_j2_5).toL) 76))),(76, .arr 62 2 (mSl (OL.own ow_j2_5).toL).length)]⟩ krf (sT ?_))))
    exact qR (.agg [.agg [.id, .id, .id, .id, .id, .id, .id, .id, .id, .id, .sl 2, .id, .id, .id, .id], .id]) krf krf krf
   ·refine xN (want_tf krf h4) krf (xR 4 krf (xE (sN ⟨[10,11],[10,76],[],[]⟩ ⟨[(10, .ptr 10 0),(11,B false)],[(10, .box 41 (List.set (bxc (GClaim.cs ⟨a0t,a1c,j2_2,a2seed,(⟨a3from,j2_1,j2_4,[]⟩:GSs),r3.1⟩)) 10 (.tsl 2 (mSl (OL.own ow_j2_5).toL) 76))),(76, .arr 62 2 (mSl (OL.own ow_j2_5).toL).length)]⟩ krf (sT ?_))))
    exact qR (.agg [.agg [.id, .id, .id, .id, .id, .id, .id, .id, .id, .id, .sl 2, .id, .id, .id, .id], .id]) krf krf krf
 ·refine sR tfm ⟨[2,5,6,10,12,13,14,15,16,17,39,40,41],[5,6,10,12],[],[]⟩ ⟨[(2,U a2seed),(5, .ptr 5 0),(6, .ptr 6 0),(10, .ptr 10 0),(12, .ptr 12 0),(13,I 1),(14,I a3from),(15,I 0),(16, .p (.sl 5 (mReading r1.1))),(17,I r1.2),(39, .p (.sl 2 (List.map enc_2_uint8 a4steps))),(40,I (lenI (List.map enc_2_uint8 a4steps))),(41,I 0)],[(5, .box 24 (bxc (GTf.cs a0t))),(6, .box 28 (bxc (GCl.cs a1c))),(10, .box 41 [S [],zS,I 0,zS,zS,zS,U 0,I 0,I 0,I 0,zS,zS,I 0,I 0,I 0]),(12, .box 41 (List.set (List.set (List.set (bxc (GClaim.cs ⟨a0t,a1c,[],a2seed,(⟨a3from,a3from,a3from,[]⟩:GSs),(⟨[],0,0,0⟩:GBill)⟩)) 5 (zS)) 10 (zS)) 11 (zS)))]⟩ krf (sB (sim_loop (fun (l5_1,l5_2,l5_3,l5_4,l5_5,l5_6,l5_7,l5_8)=>⟨[(2,U a2seed),(5, .ptr 5 0),(6, .ptr 6 0),(10, .ptr 10 0),(12, .ptr 12 0),(13,I l5_1),(14,I l5_2),(15,I l5_3),(16, .p (.sl 5 (mReading l5_4))),(17,I l5_5),(39, .p (.sl 2 (List.map enc_2_uint8 a4steps))),(40,I (lenI (List.map enc_2_uint8 a4steps))),(41,I l5_6)],[(5, .box 24 (bxc (GTf.cs a0t))),(6, .box 28 (bxc (GCl.cs a1c))),(10, .box 41 [S [],zS,I 0,zS,zS,zS,U 0,I 0,I 0,I 0,zS,zS,I 0,I 0,I 0]),(12, .box 41 (List.set (List.set (List.set (bxc (GClaim.cs ⟨a0t,a1c,[],a2seed,(⟨a3from,a3from,l5_7,[]⟩:GSs),(⟨[],0,0,0⟩:GBill)⟩)) 5 (zS)) 10 (osl 2 GSl.cs l5_8 76)) 11 (zS)))]++oarr 62 2 GSl.cs l5_8 76⟩:(Int × Int × Int × (List GReading) × Int × Int × Int × (OL GSl))→St) (weak_shr (K:=⟨[2,5,6,10,12,13,14,15,16,17,39,40,41],[5,6,10,12],[],[]⟩) krf) ?_))
  rintro recl5 ⟨l5_1,l5_2,l5_3,l5_4,l5_5,l5_6,l5_7,l5_8⟩
  show SimE (g_law43_made_l5 n a0t a1c a2seed a3from a4steps recl5 l5_1 l5_2 l5_3 l5_4 l5_5 l5_6 l5_7 l5_8) _ _ _ _ _ _
  unfold g_law43_made_l5
  rcases l5_8 with _ | ow_l5_8
  ·refine sR tfm ⟨[2,5,6,10,12,13,14,15,16,17,39,40,41,42],[5,6,10,12],[],[]⟩ ⟨[(2,U a2seed),(5, .ptr 5 0),(6, .ptr 6 0),(10, .ptr 10 0),(12, .ptr 12 0),(13,I l5_1),(14,I l5_2),(15,I l5_3),(16, .p (.sl 5 (mReading l5_4))),(17,I l5_5),(39, .p (.sl 2 (List.map enc_2_uint8 a4steps))),(40,I (lenI (List.map enc_2_uint8 a4steps))),(41,I l5_6),(42,B (ltI l5_6 (lenI (List.map enc_2_uint8 a4steps))))],[(5, .box 24 (bxc (GTf.cs a0t))),(6, .box 28 (bxc (GCl.cs a1c))),(10, .box 41 [S [],zS,I 0,zS,zS,zS,U 0,I 0,I 0,I 0,zS,zS,I 0,I 0,I 0]),(12, .box 41 (List.set (List.set (List.set (bxc (GClaim.cs ⟨a0t,a1c,[],a2seed,(⟨a3from,a3from,l5_7,[]⟩:GSs),(⟨[],0,0,0⟩:GBill)⟩)) 5 (zS)) 10 (zS)) 11 (zS)))]⟩ krf (sS (sC (ltI l5_6 (lenI (List.map enc_2_uint8 a4steps))) krf ?_ ?_))
   ·refine sK (sN ⟨[2,5,6,10,12,13,14,15,16,17,39,40,41],[5,6,10,12],[],[]⟩ ⟨[(2,U a2seed),(5, .ptr 5 0),(6, .ptr 6 0),(10, .ptr 10 0),(12, .ptr 12 0),(13,I l5_1),(14,I l5_2),(15,I l5_3),(16, .p (.sl 5 (mReading l5_4))),(17,I l5_5),(39, .p (.sl 2 (List.map enc_2_uint8 a4steps))),(40,I (lenI (List.map enc_2_uint8 a4steps))),(41,I l5_6)],[(5, .box 24 (bxc (GTf.cs a0t))),(6, .box 28 (bxc (GCl.cs a1c))),(10, .box 41 [S [],zS,I 0,zS,zS,zS,U 0,I 0,I 0,I 0,zS,zS,I 0,I 0,I 0]),(12, .box 41 (List.set (List.set (List.set (bxc (GClaim.cs ⟨a0t,a1c,[],a2seed,(⟨a3from,a3from,l5_7,[]⟩:GSs),(⟨[],0,0,0⟩:GBill)⟩)) 5 (zS)) 10 (zS)) 11 (zS)))]⟩ krf (sS (sB (sS (sG ?_)))))
    refine xG krf krf (aop_idx (e:=60) (S:=2) (enc:=enc_2_uint8) (l:=a4steps) (k:=.i64) (n:=l5_6) (sv:=.p (.sl 2 (List.map enc_2_uint8 a4steps))) rfl krf krf krf krf krf) (fun x6=>?_)
    refine xR 3 krf (xE (sN ⟨[2,5,6,10,12,13,14,15,16,17,19,39,40,41],[5,6,10,12,19],[],[]⟩ ⟨[(2,U a2seed),(5, .ptr 5 0),(6, .ptr 6 0),(10, .ptr 10 0),(12, .ptr 12 0),(13,I l5_1),(14,I l5_2),(15,I l5_3),(16, .p (.sl 5 (mReading l5_4))),(17,I l5_5),(19, .ptr 19 0),(39, .p (.sl 2 (List.map enc_2_uint8 a4steps))),(40,I (lenI (List.map enc_2_uint8 a4steps))),(41,I l5_6)],[(5, .box 24 (bxc (GTf.cs a0t))),(6, .box 28 (bxc (GCl.cs a1c))),(10, .box 41 [S [],zS,I 0,zS,zS,zS,U 0,I 0,I 0,I 0,zS,zS,I 0,I 0,I 0]),(12, .box 41 (List.set (List.set (List.set (bxc (GClaim.cs ⟨a0t,a1c,[],a2seed,(⟨a3from,a3from,l5_7,[]⟩:GSs),(⟨[],0,0,0⟩:GBill)⟩)) 5 (zS)) 10 (zS)) 11 (zS))),(19, .box 60 [B8 x6.1,B8 x6.2])]⟩ krf (sS (sR tfm ⟨[2,5,6,10,12,13,14,15,16,19,39,40,41,46],[5,6,10,12,19],[],[]⟩ ⟨[(2,U a2seed),(5, .ptr 5 0),(6, .ptr 6 0),(10, .ptr 10 0),(12, .ptr 12 0),(13,I l5_1),(14,I l5_2),(15,I l5_3),(16, .p (.sl 5 (mReading l5_4))),(19, .ptr 19 0),(39, .p (.sl 2 (List.map enc_2_uint8 a4steps))),(40,I (lenI (List.map enc_2_uint8 a4steps))),(41,I l5_6),(46,B (!eqI l5_5 0))],[(5, .box 24 (bxc (GTf.cs a0t))),(6, .box 28 (bxc (GCl.cs a1c))),(10, .box 41 [S [],zS,I 0,zS,zS,zS,U 0,I 0,I 0,I 0,zS,zS,I 0,I 0,I 0]),(12, .box 41 (List.set (List.set (List.set (bxc (GClaim.cs ⟨a0t,a1c,[],a2seed,(⟨a3from,a3from,l5_7,[]⟩:GSs),(⟨[],0,0,0⟩:GBill)⟩)) 5 (zS)) 10 (zS)) 11 (zS))),(19, .box 60 [B8 x6.1,B8 x6.2])]⟩ krf (sC (!eqI l5_5 0) krf ?_ ?_)))))
    ·refine sR tfm ⟨[10,11],[10],[],[]⟩ ⟨[(10, .ptr 10 0),(11,B false)],[(10, .box 41 (List.set (List.set (List.set (bxc (GClaim.cs ⟨a0t,a1c,[],a2seed,(⟨a3from,a3from,l5_7,[]⟩:GSs),(⟨[],0,0,0⟩:GBill)⟩)) 5 (zS)) 10 (zS)) 11 (zS)))]⟩ krf (sT (sq_r (bq_r (sq_r (kq_r (bq_r (kq_r ?_)))))))
     exact qR (.agg [.agg [.id, .id, .id, .id, .id, .sl 5, .id, .id, .id, .id, .sl 2, .sl 2, .id, .id, .id], .id]) krf krf krf
    ·refine sK (sN ⟨[2,5,6,10,12,13,14,15,16,19,39,40,41],[5,6,10,12,19],[],[]⟩ ⟨[(2,U a2seed),(5, .ptr 5 0),(6, .ptr 6 0),(10, .ptr 10 0),(12, .ptr 12 0),(13,I l5_1),(14,I l5_2),(15,I l5_3),(16, .p (.sl 5 (mReading l5_4))),(19, .ptr 19 0),(39, .p (.sl 2 (List.map enc_2_uint8 a4steps))),(40,I (lenI (List.map enc_2_uint8 a4steps))),(41,I l5_6)],[(5, .box 24 (bxc (GTf.cs a0t))),(6, .box 28 (bxc (GCl.cs a1c))),(10, .box 41 [S [],zS,I 0,zS,zS,zS,U 0,I 0,I 0,I 0,zS,zS,I 0,I 0,I 0]),(12, .box 41 (List.set (List.set (List.set (bxc (GClaim.cs ⟨a0t,a1c,[],a2seed,(⟨a3from,a3from,l5_7,[]⟩:GSs),(⟨[],0,0,0⟩:GBill)⟩)) 5 (zS)) 10 (zS)) 11 (zS))),(19, .box 60 [B8 x6.1,B8 x6.2])]⟩ krf (sR tfm ⟨[2,5,6,10,12,13,14,15,16,19,39,40,41],[5,6,10,12,19],[],[]⟩ ⟨[(2,U a2seed),(5, .ptr 5 0),(6, .ptr 6 0),(10, .ptr 10 0),(12, .ptr 12 0),(13,I l5_1),(14,I (wi (l5_2+(wi x6.1)))),(15,I (wi (l5_3+(wi x6.2)))),(16, .p (.sl 5 (mReading l5_4))),(19, .ptr 19 0),(39, .p (.sl 2 (List.map enc_2_uint8 a4steps))),(40,I (lenI (List.map enc_2_uint8 a4steps))),(41,I l5_6)],[(5, .box 24 (bxc (GTf.cs a0t))),(6, .box 28 (bxc (GCl.cs a1c))),(10, .box 41 [S [],zS,I 0,zS,zS,zS,U 0,I 0,I 0,I 0,zS,zS,I 0,I 0,I 0]),(12, .box 41 (List.set (List.set (List.set (bxc (GClaim.cs ⟨a0t,a1c,[],a2seed,(⟨a3from,a3from,l5_7,[]⟩:GSs),(⟨[],0,0,0⟩:GBill)⟩)) 5 (zS)) 10 (zS)) 11 (zS))),(19, .box 60 [B8 x6.1,B8 x6.2])]⟩ krf (sim_bind (fun (j7_1,j7_2)=>⟨[(2,U a2seed),(5, .ptr 5 0),(6, .ptr 6 0),(10, .ptr 10 0),(12, .ptr 12 0),(13,I l5_1),(14,I (wi (l5_2+(wi x6.1)))),(15,I (wi (l5_3+(wi x6.2)))),(16, .p (.sl 5 (mReading l5_4))),(19, .ptr 19 0),(39, .p (.sl 2 (List.map enc_2_uint8 a4steps))),(40,I (lenI (List.map enc_2_uint8 a4steps))),(41,I l5_6)],[(5, .box 24 (bxc (GTf.cs a0t))),(6, .box 28 (bxc (GCl.cs a1c))),(10, .box 41 [S [],zS,I 0,zS,zS,zS,U 0,I 0,I 0,I 0,zS,zS,I 0,I 0,I 0]),(12, .box 41 (List.set (List.set (List.set (bxc (GClaim.cs ⟨a0t,a1c,[],a2seed,(⟨a3from,a3from,j7_1,[]⟩:GSs),(⟨[],0,0,0⟩:GBill)⟩)) 5 (zS)) 10 (osl 2 GSl.cs j7_2 76)) 11 (zS))),(19, .box 60 [B8 x6.1,B8 x6.2])]++oarr 62 2 GSl.cs j7_2 76⟩:(Int × (OL GSl))→St) ?_ ?_)))
     ·refine sim_bind (fun j8=>⟨[(2,U a2seed),(5, .ptr 5 0),(6, .ptr 6 0),(10, .ptr 10 0),(12, .ptr 12 0),(13,I l5_1),(14,I (wi (l5_2+(wi x6.1)))),(15,I (wi (l5_3+(wi x6.2)))),(16, .p (.sl 5 (mReading l5_4))),(19, .ptr 19 0),(39, .p (.sl 2 (List.map enc_2_uint8 a4steps))),(40,I (lenI (List.map enc_2_uint8 a4steps))),(41,I l5_6),(65,B j8)],[(5, .box 24 (bxc (GTf.cs a0t))),(6, .box 28 (bxc (GCl.cs a1c))),(10, .box 41 [S [],zS,I 0,zS,zS,zS,U 0,I 0,I 0,I 0,zS,zS,I 0,I 0,I 0]),(12, .box 41 (List.set (List.set (List.set (bxc (GClaim.cs ⟨a0t,a1c,[],a2seed,(⟨a3from,a3from,l5_7,[]⟩:GSs),(⟨[],0,0,0⟩:GBill)⟩)) 5 (zS)) 10 (zS)) 11 (zS))),(19, .box 60 [B8 x6.1,B8 x6.2])]⟩:Bool→St) ?_ ?_
      ·refine sG (xR 4 krf ?_)
       refine xS (ltI 0 x6.1) (fun h9=>?_) (fun h9=>?_)
       ·refine xO (want_tt krf h9) krf (xR 3 krf (xE ?_))
        exact nq_n (ltI 0 x6.2) ⟨[2,5,6,10,12,13,14,15,16,19,39,40,41,65],[5,6,10,12,19],[],[]⟩ krf
       ·refine xN (want_tf krf h9) krf (xR 3 krf (xE ?_))
        exact nq_n false ⟨[2,5,6,10,12,13,14,15,16,19,39,40,41,65],[5,6,10,12,19],[],[]⟩ krf
      ·rintro j8
       refine sC j8 krf ?_ ?_
       ·refine sS (sG (xR 10 krf (xF krf krf (aop_app0 (e:=62) (S:=2) (by_:=16) (enc:=GSl.cs) (d:=76) (l2:=[(⟨wi ((wi (l5_2+(wi x6.1))) - 1),wi x6.2⟩:GSl)]) (xv:=.tsl 2 (mSl [(⟨wi ((wi (l5_2+(wi x6.1))) - 1),wi x6.2⟩:GSl)]) 75) rfl rfl krf krf rfl krf krf krf rfl krf) (xR 3 krf (xE (sN ⟨[2,5,6,10,12,13,14,15,16,19,39,40,41],[5,6,10,12,19,76],[],[]⟩ ⟨[(2,U a2seed),(5, .ptr 5 0),(6, .ptr 6 0),(10, .ptr 10 0),(12, .ptr 12 0),(13,I l5_1),(14,I (wi (l5_2+(wi x6.1)))),(15,I (wi (l5_3+(wi x6.2)))),(16, .p (.sl 5 (mReading l5_4))),(19, .ptr 19 0),(39, .p (.sl 2 (List.map enc_2_uint8 a4steps))),(40,I (lenI (List.map enc_2_uint8 a4steps))),(41,I l5_6)],[(5, .box 24 (bxc (GTf.cs a0t))),(6, .box 28 (bxc (GCl.cs a1c))),(10, .box 41 [S [],zS,I 0,zS,zS,zS,U 0,I 0,I 0,I 0,zS,zS,I 0,I 0,I 0]),(12, .box 41 (List.set (List.set (List.set (bxc (GClaim.cs ⟨a0t,a1c,[],a2seed,(⟨a3from,a3from,l5_7,[]⟩:GSs),(⟨[],0,0,0⟩:GBill)⟩)) 5 (zS)) 10 (.tsl 2 (mSl (OL.nil.toL++[(⟨wi ((wi (l5_2+(wi x6.1))) - 1),wi x6.2⟩:GSl)])) 76)) 11 (zS))),(19, .box 60 [B8 x6.1,B8 x6.2]),(76, .arr 62 2 (mSl (OL.nil.toL++[(⟨wi ((wi (l5_2+(wi x6.1))) - 1),wi x6.2⟩:GSl)])).length)]⟩ krf (sL tfm krf ?_)))))))
        exact nq_n (wi (l5_2+(wi x6.1)),OL.own (OL.nil.toL++[(⟨wi ((wi (l5_2+(wi x6.1))) - 1),wi x6.2⟩:GSl)])) ⟨[2,5,6,10,12,13,14,15,16,19,39,40,41],[5,6,10,12,19,76],[],[]⟩ krf
       ·refine sK ?_
        exact nq_n (l5_7,OL.nil) ⟨[2,5,6,10,12,13,14,15,16,19,39,40,41],[5,6,10,12,19],[],[]⟩ krf
     ·rintro ⟨j7_1,j7_2⟩
      rcases j7_2 with _ | ow_j7_2
      ·refine sim_bind (fun j10=>⟨[(2,U a2seed),(5, .ptr 5 0),(6, .ptr 6 0),(10, .ptr 10 0),(12, .ptr 12 0),(13,I l5_1),(14,I (wi (l5_2+(wi x6.1)))),(15,I j10),(16, .p (.sl 5 (mReading l5_4))),(19, .ptr 19 0),(39, .p (.sl 2 (List.map enc_2_uint8 a4steps))),(40,I (lenI (List.map enc_2_uint8 a4steps))),(41,I l5_6)],[(5, .box 24 (bxc (GTf.cs a0t))),(6, .box 28 (bxc (GCl.cs a1c))),(10, .box 41 [S [],zS,I 0,zS,zS,zS,U 0,I 0,I 0,I 0,zS,zS,I 0,I 0,I 0]),(12, .box 41 (List.set (List.set (List.set (bxc (GClaim.cs ⟨a0t,a1c,[],a2seed,(⟨a3from,a3from,j7_1,[]⟩:GSs),(⟨[],0,0,0⟩:GBill)⟩)) 5 (zS)) 10 (zS)) 11 (zS))),(19, .box 60 [B8 x6.1,B8 x6.2])]⟩:Int→St) ?_ ?_
       ·refine sR tfm ⟨[2,5,6,10,12,13,14,15,16,19,39,40,41,84],[5,6,10,12,19],[],[]⟩ ⟨[(2,U a2seed),(5, .ptr 5 0),(6, .ptr 6 0),(10, .ptr 10 0),(12, .ptr 12 0),(13,I l5_1),(14,I (wi (l5_2+(wi x6.1)))),(15,I (wi (l5_3+(wi x6.2)))),(16, .p (.sl 5 (mReading l5_4))),(19, .ptr 19 0),(39, .p (.sl 2 (List.map enc_2_uint8 a4steps))),(40,I (lenI (List.map enc_2_uint8 a4steps))),(41,I l5_6),(84,B (eqI x6.1 0))],[(5, .box 24 (bxc (GTf.cs a0t))),(6, .box 28 (bxc (GCl.cs a1c))),(10, .box 41 [S [],zS,I 0,zS,zS,zS,U 0,I 0,I 0,I 0,zS,zS,I 0,I 0,I 0]),(12, .box 41 (List.set (List.set (List.set (bxc (GClaim.cs ⟨a0t,a1c,[],a2seed,(⟨a3from,a3from,j7_1,[]⟩:GSs),(⟨[],0,0,0⟩:GBill)⟩)) 5 (zS)) 10 (zS)) 11 (zS))),(19, .box 60 [B8 x6.1,B8 x6.2])]⟩ krf (sC (eqI x6.1 0) krf ?_ ?_)
        ·refine sL tfm krf ?_
         exact nq_n (wi ((wi (l5_3+(wi x6.2))) - (wi x6.2))) ⟨[2,5,6,10,12,13,14,15,16,19,39,40,41],[5,6,10,12,19],[],[]⟩ krf
        ·refine sK ?_
         exact nq_n (wi (l5_3+(wi x6.2))) ⟨[2,5,6,10,12,13,14,15,16,19,39,40,41],[5,6,10,12,19],[],[]⟩ krf
       ·rintro j10
        refine sS (sG (xR 5 krf ?_))
        refine xC [] krf (g_chain_Append_ok n a2seed l5_4 l5_1 (wi (l5_2+(wi x6.1))) j10) krf krf (fun _=>by kernel_rfl) (fun r11=>?_)
        refine xR 5 krf (xE (sN ⟨[2,5,6,10,12,13,14,15,16,17,19,39,40,41],[5,6,10,12,19],[],[]⟩ ⟨[(2,U a2seed),(5, .ptr 5 0),(6, .ptr 6 0),(10, .ptr 10 0),(12, .ptr 12 0),(13,I l5_1),(14,I (wi (l5_2+(wi x6.1)))),(15,I j10),(16, .p (.sl 5 (mReading r11.1))),(17,I r11.2),(19, .ptr 19 0),(39, .p (.sl 2 (List.map enc_2_uint8 a4steps))),(40,I (lenI (List.map enc_2_uint8 a4steps))),(41,I l5_6)],[(5, .box 24 (bxc (GTf.cs a0t))),(6, .box 28 (bxc (GCl.cs a1c))),(10, .box 41 [S [],zS,I 0,zS,zS,zS,U 0,I 0,I 0,I 0,zS,zS,I 0,I 0,I 0]),(12, .box 41 (List.set (List.set (List.set (bxc (GClaim.cs ⟨a0t,a1c,[],a2seed,(⟨a3from,a3from,j7_1,[]⟩:GSs),(⟨[],0,0,0⟩:GBill)⟩)) 5 (zS)) 10 (zS)) 11 (zS))),(19, .box 60 [B8 x6.1,B8 x6.2])]⟩ krf (sim_bind (fun j12=>⟨[(2,U a2seed),(5, .ptr 5 0),(6, .ptr 6 0),(10, .ptr 10 0),(12, .ptr 12 0),(13,I l5_1),(14,I (wi (l5_2+(wi x6.1)))),(15,I j10),(16, .p (.sl 5 (mReading r11.1))),(17,I r11.2),(39, .p (.sl 2 (List.map enc_2_uint8 a4steps))),(40,I (lenI (List.map enc_2_uint8 a4steps))),(41,I l5_6),(106,B j12)],[(5, .box 24 (bxc (GTf.cs a0t))),(6, .box 28 (bxc (GCl.cs a1c))),(10, .box 41 [S [],zS,I 0,zS,zS,zS,U 0,I 0,I 0,I 0,zS,zS,I 0,I 0,I 0]),(12, .box 41 (List.set (List.set (List.set (bxc (GClaim.cs ⟨a0t,a1c,[],a2seed,(⟨a3from,a3from,j7_1,[]⟩:GSs),(⟨[],0,0,0⟩:GBill)⟩)) 5 (zS)) 10 (zS)) 11 (zS)))]⟩:Bool→St) ?_ ?_)))
        ·refine sG (xR 3 krf ?_)
         refine xS (eqI r11.2 0) (fun h13=>?_) (fun h13=>?_)
         ·refine xO (want_tt krf h13) krf (xR 4 krf (xE ?_))
          exact nq_n (eqI (Int.tmod x6.2 8) 7) ⟨[2,5,6,10,12,13,14,15,16,17,39,40,41,106],[5,6,10,12],[],[]⟩ krf
         ·refine xN (want_tf krf h13) krf (xR 4 krf (xE ?_))
          exact nq_n false ⟨[2,5,6,10,12,13,14,15,16,17,39,40,41,106],[5,6,10,12],[],[]⟩ krf
        ·rintro j12
         refine sC j12 krf ?_ ?_
         ·refine sR tfm ⟨[2,5,6,10,12,13,14,15,16,39,40,41],[5,6,10,12],[],[]⟩ ⟨[(2,U a2seed),(5, .ptr 5 0),(6, .ptr 6 0),(10, .ptr 10 0),(12, .ptr 12 0),(13,I (wi (l5_1+1))),(14,I (wi (l5_2+(wi x6.1)))),(15,I 5),(16, .p (.sl 5 (mReading r11.1))),(39, .p (.sl 2 (List.map enc_2_uint8 a4steps))),(40,I (lenI (List.map enc_2_uint8 a4steps))),(41,I l5_6)],[(5, .box 24 (bxc (GTf.cs a0t))),(6, .box 28 (bxc (GCl.cs a1c))),(10, .box 41 [S [],zS,I 0,zS,zS,zS,U 0,I 0,I 0,I 0,zS,zS,I 0,I 0,I 0]),(12, .box 41 (List.set (List.set (List.set (bxc (GClaim.cs ⟨a0t,a1c,[],a2seed,(⟨a3from,a3from,j7_1,[]⟩:GSs),(⟨[],0,0,0⟩:GBill)⟩)) 5 (zS)) 10 (zS)) 11 (zS)))]⟩ krf (sG (xR 5 krf ?_))
          refine xC [] krf (g_chain_Append_ok n a2seed r11.1 (wi (l5_1+1)) (wi (l5_2+(wi x6.1))) 5) krf krf (fun _=>by kernel_rfl) (fun r14=>?_)
          refine xR 5 krf (xE (bq_n (sN ⟨[2,5,6,10,12,13,14,15,16,17,39,40,41],[5,6,10,12],[],[]⟩ ⟨[(2,U a2seed),(5, .ptr 5 0),(6, .ptr 6 0),(10, .ptr 10 0),(12, .ptr 12 0),(13,I (wi (l5_1+1))),(14,I (wi (l5_2+(wi x6.1)))),(15,I 5),(16, .p (.sl 5 (mReading r14.1))),(17,I r14.2),(39, .p (.sl 2 (List.map enc_2_uint8 a4steps))),(40,I (lenI (List.map enc_2_uint8 a4steps))),(41,I l5_6)],[(5, .box 24 (bxc (GTf.cs a0t))),(6, .box 28 (bxc (GCl.cs a1c))),(10, .box 41 [S [],zS,I 0,zS,zS,zS,U 0,I 0,I 0,I 0,zS,zS,I 0,I 0,I 0]),(12, .box 41 (List.set (List.set (List.set (bxc (GClaim.cs ⟨a0t,a1c,[],a2seed,(⟨a3from,a3from,j7_1,[]⟩:GSs),(⟨[],0,0,0⟩:GBill)⟩)) 5 (zS)) 10 (zS)) 11 (zS)))]⟩ krf (sL tfm krf ?_))))
          exact kq_n (wi (l5_1+1),wi (l5_2+(wi x6.1)),5,r14.1,r14.2,wi (l5_6+1),j7_1,OL.nil) ⟨[2,5,6,10,12,13,14,15,16,17,39,40,41],[5,6,10,12],[],[]⟩ krf
         ·refine sK (bq_n (sN ⟨[2,5,6,10,12,13,14,15,16,17,39,40,41],[5,6,10,12],[],[]⟩ ⟨[(2,U a2seed),(5, .ptr 5 0),(6, .ptr 6 0),(10, .ptr 10 0),(12, .ptr 12 0),(13,I l5_1),(14,I (wi (l5_2+(wi x6.1)))),(15,I j10),(16, .p (.sl 5 (mReading r11.1))),(17,I r11.2),(39, .p (.sl 2 (List.map enc_2_uint8 a4steps))),(40,I (lenI (List.map enc_2_uint8 a4steps))),(41,I l5_6)],[(5, .box 24 (bxc (GTf.cs a0t))),(6, .box 28 (bxc (GCl.cs a1c))),(10, .box 41 [S [],zS,I 0,zS,zS,zS,U 0,I 0,I 0,I 0,zS,zS,I 0,I 0,I 0]),(12, .box 41 (List.set (List.set (List.set (bxc (GClaim.cs ⟨a0t,a1c,[],a2seed,(⟨a3from,a3from,j7_1,[]⟩:GSs),(⟨[],0,0,0⟩:GBill)⟩)) 5 (zS)) 10 (zS)) 11 (zS)))]⟩ krf (sL tfm krf ?_)))
          exact kq_n (l5_1,wi (l5_2+(wi x6.1)),j10,r11.1,r11.2,wi (l5_6+1),j7_1,OL.nil) ⟨[2,5,6,10,12,13,14,15,16,17,39,40,41],[5,6,10,12],[],[]⟩ krf
      ·refine sim_bind (fun j10=>⟨[(2,U a2seed),(5, .ptr 5 0),(6, .ptr 6 0),(10, .ptr 10 0),(12, .ptr 12 0),(13,I l5_1),(14,I (wi (l5_2+(wi x6.1)))),(15,I j10),(16, .p (.sl 5 (mReading l5_4))),(19, .ptr 19 0),(39, .p (.sl 2 (List.map enc_2_uint8 a4steps))),(40,I (lenI (List.map enc_2_uint8 a4steps))),(41,I l5_6)],[(5, .box 24 (bxc (GTf.cs a0t))),(6, .box 28 (bxc (GCl.cs a1c))),(10, .box 41 [S [],zS,I 0,zS,zS,zS,U 0,I 0,I 0,I 0,zS,zS,I 0,I 0,I 0]),(12, .box 41 (List.set (List.set (List.set (bxc (GClaim.cs ⟨a0t,a1c,[],a2seed,(⟨a3from,a3from,j7_1,[]⟩:GSs),(⟨[],0,0,0⟩:GBill)⟩)) 5 (zS)) 10 (.tsl 2 (mSl (OL.own ow_j7_2).toL) 76)) 11 (zS))),(19, .box 60 [B8 x6.1,B8 x6.2]),(76, .arr 62 2 (mSl (OL.own ow_j7_2).toL).length)]⟩:Int→St) ?_ ?_
       ·refine sR tfm ⟨[2,5,6,10,12,13,14,15,16,19,39,40,41,84],[5,6,10,12,19,76],[],[]⟩ ⟨[(2,U a2seed),(5, .ptr 5 0),(6, .ptr 6 0),(10, .ptr 10 0),(12, .ptr 12 0),(13,I l5_1),(14,I (wi (l5_2+(wi x6.1)))),(15,I (wi (l5_3+(wi x6.2)))),(16, .p (.sl 5 (mReading l5_4))),(19, .ptr 19 0),(39, .p (.sl 2 (List.map enc_2_uint8 a4steps))),(40,I (lenI (List.map enc_2_uint8 a4steps))),(41,I l5_6),(84,B (eqI x6.1 0))],[(5, .box 24 (bxc (GTf.cs a0t))),(6, .box 28 (bxc (GCl.cs a1c))),(10, .box 41 [S [],zS,I 0,zS,zS,zS,U 0,I 0,I 0,I 0,zS,zS,I 0,I 0,I 0]),(12, .box 41 (List.set (List.set (List.set (bxc (GClaim.cs ⟨a0t,a1c,[],a2seed,(⟨a3from,a3from,j7_1,[]⟩:GSs),(⟨[],0,0,0⟩:GBill)⟩)) 5 (zS)) 10 (.tsl 2 (mSl (OL.own ow_j7_2).toL) 76)) 11 (zS))),(19, .box 60 [B8 x6.1,B8 x6.2]),(76, .arr 62 2 (mSl (OL.own ow_j7_2).toL).length)]⟩ krf (sC (eqI x6.1 0) krf ?_ ?_)
        ·refine sL tfm krf ?_
         exact nq_n (wi ((wi (l5_3+(wi x6.2))) - (wi x6.2))) ⟨[2,5,6,10,12,13,14,15,16,19,39,40,41],[5,6,10,12,19,76],[],[]⟩ krf
        ·refine sK ?_
         exact nq_n (wi (l5_3+(wi x6.2))) ⟨[2,5,6,10,12,13,14,15,16,19,39,40,41],[5,6,10,12,19,76],[],[]⟩ krf
       ·rintro j10
        refine sS (sG (xR 5 krf ?_))
        refine xC [] krf (g_chain_Append_ok n a2seed l5_4 l5_1 (wi (l5_2+(wi x6.1))) j10) krf krf (fun _=>by kernel_rfl) (fun r11=>?_)
        refine xR 5 krf (xE (sN ⟨[2,5,6,10,12,13,14,15,16,17,19,39,40,41],[5,6,10,12,19,76],[],[]⟩ ⟨[(2,U a2seed),(5, .ptr 5 0),(6, .ptr 6 0),(10, .ptr 10 0),(12, .ptr 12 0),(13,I l5_1),(14,I (wi (l5_2+(wi x6.1)))),(15,I j10),(16, .p (.sl 5 (mReading r11.1))),(17,I r11.2),(19, .ptr 19 0),(39, .p (.sl 2 (List.map enc_2_uint8 a4steps))),(40,I (lenI (List.map enc_2_uint8 a4steps))),(41,I l5_6)],[(5, .box 24 (bxc (GTf.cs a0t))),(6, .box 28 (bxc (GCl.cs a1c))),(10, .box 41 [S [],zS,I 0,zS,zS,zS,U 0,I 0,I 0,I 0,zS,zS,I 0,I 0,I 0]),(12, .box 41 (List.set (List.set (List.set (bxc (GClaim.cs ⟨a0t,a1c,[],a2seed,(⟨a3from,a3from,j7_1,[]⟩:GSs),(⟨[],0,0,0⟩:GBill)⟩)) 5 (zS)) 10 (.tsl 2 (mSl (OL.own ow_j7_2).toL) 76)) 11 (zS))),(19, .box 60 [B8 x6.1,B8 x6.2]),(76, .arr 62 2 (mSl (OL.own ow_j7_2).toL).length)]⟩ krf (sim_bind (fun j12=>⟨[(2,U a2seed),(5, .ptr 5 0),(6, .ptr 6 0),(10, .ptr 10 0),(12, .ptr 12 0),(13,I l5_1),(14,I (wi (l5_2+(wi x6.1)))),(15,I j10),(16, .p (.sl 5 (mReading r11.1))),(17,I r11.2),(39, .p (.sl 2 (List.map enc_2_uint8 a4steps))),(40,I (lenI (List.map enc_2_uint8 a4steps))),(41,I l5_6),(106,B j12)],[(5, .box 24 (bxc (GTf.cs a0t))),(6, .box 28 (bxc (GCl.cs a1c))),(10, .box 41 [S [],zS,I 0,zS,zS,zS,U 0,I 0,I 0,I 0,zS,zS,I 0,I 0,I 0]),(12, .box 41 (List.set (List.set (List.set (bxc (GClaim.cs ⟨a0t,a1c,[],a2seed,(⟨a3from,a3from,j7_1,[]⟩:GSs),(⟨[],0,0,0⟩:GBill)⟩)) 5 (zS)) 10 (.tsl 2 (mSl (OL.own ow_j7_2).toL) 76)) 11 (zS))),(76, .arr 62 2 (mSl (OL.own ow_j7_2).toL).length)]⟩:Bool→St) ?_ ?_)))
        ·refine sG (xR 3 krf ?_)
         refine xS (eqI r11.2 0) (fun h13=>?_) (fun h13=>?_)
         ·refine xO (want_tt krf h13) krf (xR 4 krf (xE ?_))
          exact nq_n (eqI (Int.tmod x6.2 8) 7) ⟨[2,5,6,10,12,13,14,15,16,17,39,40,41,106],[5,6,10,12,76],[],[]⟩ krf
         ·refine xN (want_tf krf h13) krf (xR 4 krf (xE ?_))
          exact nq_n false ⟨[2,5,6,10,12,13,14,15,16,17,39,40,41,106],[5,6,10,12,76],[],[]⟩ krf
        ·rintro j12
         refine sC j12 krf ?_ ?_
         ·refine sR tfm ⟨[2,5,6,10,12,13,14,15,16,39,40,41],[5,6,10,12,76],[],[]⟩ ⟨[(2,U a2seed),(5, .ptr 5 0),(6, .ptr 6 0),(10, .ptr 10 0),(12, .ptr 12 0),(13,I (wi (l5_1+1))),(14,I (wi (l5_2+(wi x6.1)))),(15,I 5),(16, .p (.sl 5 (mReading r11.1))),(39, .p (.sl 2 (List.map enc_2_uint8 a4steps))),(40,I (lenI (List.map enc_2_uint8 a4steps))),(41,I l5_6)],[(5, .box 24 (bxc (GTf.cs a0t))),(6, .box 28 (bxc (GCl.cs a1c))),(10, .box 41 [S [],zS,I 0,zS,zS,zS,U 0,I 0,I 0,I 0,zS,zS,I 0,I 0,I 0]),(12, .box 41 (List.set (List.set (List.set (bxc (GClaim.cs ⟨a0t,a1c,[],a2seed,(⟨a3from,a3from,j7_1,[]⟩:GSs),(⟨[],0,0,0⟩:GBill)⟩)) 5 (zS)) 10 (.tsl 2 (mSl (OL.own ow_j7_2).toL) 76)) 11 (zS))),(76, .arr 62 2 (mSl (OL.own ow_j7_2).toL).length)]⟩ krf (sG (xR 5 krf ?_))
          refine xC [] krf (g_chain_Append_ok n a2seed r11.1 (wi (l5_1+1)) (wi (l5_2+(wi x6.1))) 5) krf krf (fun _=>by kernel_rfl) (fun r14=>?_)
          refine xR 5 krf (xE (bq_n (sN ⟨[2,5,6,10,12,13,14,15,16,17,39,40,41],[5,6,10,12,76],[],[]⟩ ⟨[(2,U a2seed),(5, .ptr 5 0),(6, .ptr 6 0),(10, .ptr 10 0),(12, .ptr 12 0),(13,I (wi (l5_1+1))),(14,I (wi (l5_2+(wi x6.1)))),(15,I 5),(16, .p (.sl 5 (mReading r14.1))),(17,I r14.2),(39, .p (.sl 2 (List.map enc_2_uint8 a4steps))),(40,I (lenI (List.map enc_2_uint8 a4steps))),(41,I l5_6)],[(5, .box 24 (bxc (GTf.cs a0t))),(6, .box 28 (bxc (GCl.cs a1c))),(10, .box 41 [S [],zS,I 0,zS,zS,zS,U 0,I 0,I 0,I 0,zS,zS,I 0,I 0,I 0]),(12, .box 41 (List.set (List.set (List.set (bxc (GClaim.cs ⟨a0t,a1c,[],a2seed,(⟨a3from,a3from,j7_1,[]⟩:GSs),(⟨[],0,0,0⟩:GBill)⟩)) 5 (zS)) 10 (.tsl 2 (mSl (OL.own ow_j7_2).toL) 76)) 11 (zS))),(76, .arr 62 2 (mSl (OL.own ow_j7_2).toL).length)]⟩ krf (sL tfm krf ?_))))
          exact kq_n (wi (l5_1+1),wi (l5_2+(wi x6.1)),5,r14.1,r14.2,wi (l5_6+1),j7_1,(OL.own ow_j7_2)) ⟨[2,5,6,10,12,13,14,15,16,17,39,40,41],[5,6,10,12,76],[],[]⟩ krf
         ·refine sK (bq_n (sN ⟨[2,5,6,10,12,13,14,15,16,17,39,40,41],[5,6,10,12,76],[],[]⟩ ⟨[(2,U a2seed),(5, .ptr 5 0),(6, .ptr 6 0),(10, .ptr 10 0),(12, .ptr 12 0),(13,I l5_1),(14,I (wi (l5_2+(wi x6.1)))),(15,I j10),(16, .p (.sl 5 (mReading r11.1))),(17,I r11.2),(39, .p (.sl 2 (List.map enc_2_uint8 a4steps))),(40,I (lenI (List.map enc_2_uint8 a4steps))),(41,I l5_6)],[(5, .box 24 (bxc (GTf.cs a0t))),(6, .box 28 (bxc (GCl.cs a1c))),(10, .box 41 [S [],zS,I 0,zS,zS,zS,U 0,I 0,I 0,I 0,zS,zS,I 0,I 0,I 0]),(12, .box 41 (List.set (List.set (List.set (bxc (GClaim.cs ⟨a0t,a1c,[],a2seed,(⟨a3from,a3from,j7_1,[]⟩:GSs),(⟨[],0,0,0⟩:GBill)⟩)) 5 (zS)) 10 (.tsl 2 (mSl (OL.own ow_j7_2).toL) 76)) 11 (zS))),(76, .arr 62 2 (mSl (OL.own ow_j7_2).toL).length)]⟩ krf (sL tfm krf ?_)))
          exact kq_n (l5_1,wi (l5_2+(wi x6.1)),j10,r11.1,r11.2,wi (l5_6+1),j7_1,(OL.own ow_j7_2)) ⟨[2,5,6,10,12,13,14,15,16,17,39,40,41],[5,6,10,12,76],[],[]⟩ krf
   ·refine sim_exit (sq_x (kq_x (bq_hit ?_)))
    exact kq_n (k:=fun (j2_1,j2_2,j2_3,j2_4,j2_5)=>g_law43_made_j2 n a0t a1c a2seed a3from j2_1 j2_2 j2_3 j2_4 j2_5) (l5_2,l5_4,l5_5,l5_7,OL.nil) ⟨[5,6,10,12,14,16,17],[5,6,10,12],[],[]⟩ krf
  ·refine sR tfm ⟨[2,5,6,10,12,13,14,15,16,17,39,40,41,42],[5,6,10,12,76],[],[]⟩ ⟨[(2,U a2seed),(5, .ptr 5 0),(6, .ptr 6 0),(10, .ptr 10 0),(12, .ptr 12 0),(13,I l5_1),(14,I l5_2),(15,I l5_3),(16, .p (.sl 5 (mReading l5_4))),(17,I l5_5),(39, .p (.sl 2 (List.map enc_2_uint8 a4steps))),(40,I (lenI (List.map enc_2_uint8 a4steps))),(41,I l5_6),(42,B (ltI l5_6 (lenI (List.map enc_2_uint8 a4steps))))],[(5, .box 24 (bxc (GTf.cs a0t))),(6, .box 28 (bxc (GCl.cs a1c))),(10, .box 41 [S [],zS,I 0,zS,zS,zS,U 0,I 0,I 0,I 0,zS,zS,I 0,I 0,I 0]),(12, .box 41 (List.set (List.set (List.set (bxc (GClaim.cs ⟨a0t,a1c,[],a2seed,(⟨a3from,a3from,l5_7,[]⟩:GSs),(⟨[],0,0,0⟩:GBill)⟩)) 5 (zS)) 10 (.tsl 2 (mSl (OL.own ow_l5_8).toL) 76)) 11 (zS))),(76, .arr 62 2 (mSl (OL.own ow_l5_8).toL).length)]⟩ krf (sS (sC (ltI l5_6 (lenI (List.map enc_2_uint8 a4steps))) krf ?_ ?_))
   ·refine sK (sN ⟨[2,5,6,10,12,13,14,15,16,17,39,40,41],[5,6,10,12,76],[],[]⟩ ⟨[(2,U a2seed),(5, .ptr 5 0),(6, .ptr 6 0),(10, .ptr 10 0),(12, .ptr 12 0),(13,I l5_1),(14,I l5_2),(15,I l5_3),(16, .p (.sl 5 (mReading l5_4))),(17,I l5_5),(39, .p (.sl 2 (List.map enc_2_uint8 a4steps))),(40,I (lenI (List.map enc_2_uint8 a4steps))),(41,I l5_6)],[(5, .box 24 (bxc (GTf.cs a0t))),(6, .box 28 (bxc (GCl.cs a1c))),(10, .box 41 [S [],zS,I 0,zS,zS,zS,U 0,I 0,I 0,I 0,zS,zS,I 0,I 0,I 0]),(12, .box 41 (List.set (List.set (List.set (bxc (GClaim.cs ⟨a0t,a1c,[],a2seed,(⟨a3from,a3from,l5_7,[]⟩:GSs),(⟨[],0,0,0⟩:GBill)⟩)) 5 (zS)) 10 (.tsl 2 (mSl (OL.own ow_l5_8).toL) 76)) 11 (zS))),(76, .arr 62 2 (mSl (OL.own ow_l5_8).toL).length)]⟩ krf (sS (sB (sS (sG ?_)))))
    refine xG krf krf (aop_idx (e:=60) (S:=2) (enc:=enc_2_uint8) (l:=a4steps) (k:=.i64) (n:=l5_6) (sv:=.p (.sl 2 (List.map enc_2_uint8 a4steps))) rfl krf krf krf krf krf) (fun x6=>?_)
    refine xR 3 krf (xE (sN ⟨[2,5,6,10,12,13,14,15,16,17,19,39,40,41],[5,6,10,12,19,76],[],[]⟩ ⟨[(2,U a2seed),(5, .ptr 5 0),(6, .ptr 6 0),(10, .ptr 10 0),(12, .ptr 12 0),(13,I l5_1),(14,I l5_2),(15,I l5_3),(16, .p (.sl 5 (mReading l5_4))),(17,I l5_5),(19, .ptr 19 0),(39, .p (.sl 2 (List.map enc_2_uint8 a4steps))),(40,I (lenI (List.map enc_2_uint8 a4steps))),(41,I l5_6)],[(5, .box 24 (bxc (GTf.cs a0t))),(6, .box 28 (bxc (GCl.cs a1c))),(10, .box 41 [S [],zS,I 0,zS,zS,zS,U 0,I 0,I 0,I 0,zS,zS,I 0,I 0,I 0]),(12, .box 41 (List.set (List.set (List.set (bxc (GClaim.cs ⟨a0t,a1c,[],a2seed,(⟨a3from,a3from,l5_7,[]⟩:GSs),(⟨[],0,0,0⟩:GBill)⟩)) 5 (zS)) 10 (.tsl 2 (mSl (OL.own ow_l5_8).toL) 76)) 11 (zS))),(19, .box 60 [B8 x6.1,B8 x6.2]),(76, .arr 62 2 (mSl (OL.own ow_l5_8).toL).length)]⟩ krf (sS (sR tfm ⟨[2,5,6,10,12,13,14,15,16,19,39,40,41,46],[5,6,10,12,19,76],[],[]⟩ ⟨[(2,U a2seed),(5, .ptr 5 0),(6, .ptr 6 0),(10, .ptr 10 0),(12, .ptr 12 0),(13,I l5_1),(14,I l5_2),(15,I l5_3),(16, .p (.sl 5 (mReading l5_4))),(19, .ptr 19 0),(39, .p (.sl 2 (List.map enc_2_uint8 a4steps))),(40,I (lenI (List.map enc_2_uint8 a4steps))),(41,I l5_6),(46,B (!eqI l5_5 0))],[(5, .box 24 (bxc (GTf.cs a0t))),(6, .box 28 (bxc (GCl.cs a1c))),(10, .box 41 [S [],zS,I 0,zS,zS,zS,U 0,I 0,I 0,I 0,zS,zS,I 0,I 0,I 0]),(12, .box 41 (List.set (List.set (List.set (bxc (GClaim.cs ⟨a0t,a1c,[],a2seed,(⟨a3from,a3from,l5_7,[]⟩:GSs),(⟨[],0,0,0⟩:GBill)⟩)) 5 (zS)) 10 (.tsl 2 (mSl (OL.own ow_l5_8).toL) 76)) 11 (zS))),(19, .box 60 [B8 x6.1,B8 x6.2]),(76, .arr 62 2 (mSl (OL.own ow_l5_8).toL).length)]⟩ krf (sC (!eqI l5_5 0) krf ?_ ?_)))))
    ·refine sR tfm ⟨[10,11],[10,76],[],[]⟩ ⟨[(10, .ptr 10 0),(11,B false)],[(10, .box 41 (List.set (List.set (List.set (bxc (GClaim.cs ⟨a0t,a1c,[],a2seed,(⟨a3from,a3from,l5_7,[]⟩:GSs),(⟨[],0,0,0⟩:GBill)⟩)) 5 (zS)) 10 (.tsl 2 (mSl (OL.own ow_l5_8).toL) 76)) 11 (zS))),(76, .arr 62 2 (mSl (OL.own ow_l5_8).toL).length)]⟩ krf (sT (sq_r (bq_r (sq_r (kq_r (bq_r (kq_r ?_)))))))
     exact qR (.agg [.agg [.id, .id, .id, .id, .id, .sl 5, .id, .id, .id, .id, .sl 2, .sl 2, .id, .id, .id], .id]) krf krf krf
    ·refine sK (sN ⟨[2,5,6,10,12,13,14,15,16,19,39,40,41],[5,6,10,12,19,76],[],[]⟩ ⟨[(2,U a2seed),(5, .ptr 5 0),(6, .ptr 6 0),(10, .ptr 10 0),(12, .ptr 12 0),(13,I l5_1),(14,I l5_2),(15,I l5_3),(16, .p (.sl 5 (mReading l5_4))),(19, .ptr 19 0),(39, .p (.sl 2 (List.map enc_2_uint8 a4steps))),(40,I (lenI (List.map enc_2_uint8 a4steps))),(41,I l5_6)],[(5, .box 24 (bxc (GTf.cs a0t))),(6, .box 28 (bxc (GCl.cs a1c))),(10, .box 41 [S [],zS,I 0,zS,zS,zS,U 0,I 0,I 0,I 0,zS,zS,I 0,I 0,I 0]),(12, .box 41 (List.set (List.set (List.set (bxc (GClaim.cs ⟨a0t,a1c,[],a2seed,(⟨a3from,a3from,l5_7,[]⟩:GSs),(⟨[],0,0,0⟩:GBill)⟩)) 5 (zS)) 10 (.tsl 2 (mSl (OL.own ow_l5_8).toL) 76)) 11 (zS))),(19, .box 60 [B8 x6.1,B8 x6.2]),(76, .arr 62 2 (mSl (OL.own ow_l5_8).toL).length)]⟩ krf (sR tfm ⟨[2,5,6,10,12,13,14,15,16,19,39,40,41],[5,6,10,12,19,76],[],[]⟩ ⟨[(2,U a2seed),(5, .ptr 5 0),(6, .ptr 6 0),(10, .ptr 10 0),(12, .ptr 12 0),(13,I l5_1),(14,I (wi (l5_2+(wi x6.1)))),(15,I (wi (l5_3+(wi x6.2)))),(16, .p (.sl 5 (mReading l5_4))),(19, .ptr 19 0),(39, .p (.sl 2 (List.map enc_2_uint8 a4steps))),(40,I (lenI (List.map enc_2_uint8 a4steps))),(41,I l5_6)],[(5, .box 24 (bxc (GTf.cs a0t))),(6, .box 28 (bxc (GCl.cs a1c))),(10, .box 41 [S [],zS,I 0,zS,zS,zS,U 0,I 0,I 0,I 0,zS,zS,I 0,I 0,I 0]),(12, .box 41 (List.set (List.set (List.set (bxc (GClaim.cs ⟨a0t,a1c,[],a2seed,(⟨a3from,a3from,l5_7,[]⟩:GSs),(⟨[],0,0,0⟩:GBill)⟩)) 5 (zS)) 10 (.tsl 2 (mSl (OL.own ow_l5_8).toL) 76)) 11 (zS))),(19, .box 60 [B8 x6.1,B8 x6.2]),(76, .arr 62 2 (mSl (OL.own ow_l5_8).toL).length)]⟩ krf (sim_bind (fun (j7_1,j7_2)=>⟨[(2,U a2seed),(5, .ptr 5 0),(6, .ptr 6 0),(10, .ptr 10 0),(12, .ptr 12 0),(13,I l5_1),(14,I (wi (l5_2+(wi x6.1)))),(15,I (wi (l5_3+(wi x6.2)))),(16, .p (.sl 5 (mReading l5_4))),(19, .ptr 19 0),(39, .p (.sl 2 (List.map enc_2_uint8 a4steps))),(40,I (lenI (List.map enc_2_uint8 a4steps))),(41,I l5_6)],[(5, .box 24 (bxc (GTf.cs a0t))),(6, .box 28 (bxc (GCl.cs a1c))),(10, .box 41 [S [],zS,I 0,zS,zS,zS,U 0,I 0,I 0,I 0,zS,zS,I 0,I 0,I 0]),(12, .box 41 (List.set (List.set (List.set (bxc (GClaim.cs ⟨a0t,a1c,[],a2seed,(⟨a3from,a3from,j7_1,[]⟩:GSs),(⟨[],0,0,0⟩:GBill)⟩)) 5 (zS)) 10 (osl 2 GSl.cs j7_2 76)) 11 (zS))),(19, .box 60 [B8 x6.1,B8 x6.2])]++oarr 62 2 GSl.cs j7_2 76⟩:(Int × (OL GSl))→St) ?_ ?_)))
     ·refine sim_bind (fun j8=>⟨[(2,U a2seed),(5, .ptr 5 0),(6, .ptr 6 0),(10, .ptr 10 0),(12, .ptr 12 0),(13,I l5_1),(14,I (wi (l5_2+(wi x6.1)))),(15,I (wi (l5_3+(wi x6.2)))),(16, .p (.sl 5 (mReading l5_4))),(19, .ptr 19 0),(39, .p (.sl 2 (List.map enc_2_uint8 a4steps))),(40,I (lenI (List.map enc_2_uint8 a4steps))),(41,I l5_6),(65,B j8)],[(5, .box 24 (bxc (GTf.cs a0t))),(6, .box 28 (bxc (GCl.cs a1c))),(10, .box 41 [S [],zS,I 0,zS,zS,zS,U 0,I 0,I 0,I 0,zS,zS,I 0,I 0,I 0]),(12, .box 41 (List.set (List.set (List.set (bxc (GClaim.cs ⟨a0t,a1c,[],a2seed,(⟨a3from,a3from,l5_7,[]⟩:GSs),(⟨[],0,0,0⟩:GBill)⟩)) 5 (zS)) 10 (.tsl 2 (mSl (OL.own ow_l5_8).toL) 76)) 11 (zS))),(19, .box 60 [B8 x6.1,B8 x6.2]),(76, .arr 62 2 (mSl (OL.own ow_l5_8).toL).length)]⟩:Bool→St) ?_ ?_
      ·refine sG (xR 4 krf ?_)
       refine xS (ltI 0 x6.1) (fun h9=>?_) (fun h9=>?_)
       ·refine xO (want_tt krf h9) krf (xR 3 krf (xE ?_))
        exact nq_n (ltI 0 x6.2) ⟨[2,5,6,10,12,13,14,15,16,19,39,40,41,65],[5,6,10,12,19,76],[],[]⟩ krf
       ·refine xN (want_tf krf h9) krf (xR 3 krf (xE ?_))
        exact nq_n false ⟨[2,5,6,10,12,13,14,15,16,19,39,40,41,65],[5,6,10,12,19,76],[],[]⟩ krf
      ·rintro j8
       refine sC j8 krf ?_ ?_
       ·refine sS (sG (xR 10 krf (xF krf krf (aop_app (e:=62) (S:=2) (by_:=16) (enc:=GSl.cs) (tk:=76) (l:=(OL.own ow_l5_8).toL) (l2:=[(⟨wi ((wi (l5_2+(wi x6.1))) - 1),wi x6.2⟩:GSl)]) (xv:=.tsl 2 (mSl [(⟨wi ((wi (l5_2+(wi x6.1))) - 1),wi x6.2⟩:GSl)]) 75) rfl krf krf rfl krf krf krf rfl krf) (xR 3 krf (xE (sN ⟨[2,5,6,10,12,13,14,15,16,19,39,40,41],[5,6,10,12,19,76],[],[]⟩ ⟨[(2,U a2seed),(5, .ptr 5 0),(6, .ptr 6 0),(10, .ptr 10 0),(12, .ptr 12 0),(13,I l5_1),(14,I (wi (l5_2+(wi x6.1)))),(15,I (wi (l5_3+(wi x6.2)))),(16, .p (.sl 5 (mReading l5_4))),(19, .ptr 19 0),(39, .p (.sl 2 (List.map enc_2_uint8 a4steps))),(40,I (lenI (List.map enc_2_uint8 a4steps))),(41,I l5_6)],[(5, .box 24 (bxc (GTf.cs a0t))),(6, .box 28 (bxc (GCl.cs a1c))),(10, .box 41 [S [],zS,I 0,zS,zS,zS,U 0,I 0,I 0,I 0,zS,zS,I 0,I 0,I 0]),(12, .box 41 (List.set (List.set (List.set (bxc (GClaim.cs ⟨a0t,a1c,[],a2seed,(⟨a3from,a3from,l5_7,[]⟩:GSs),(⟨[],0,0,0⟩:GBill)⟩)) 5 (zS)) 10 (.tsl 2 (mSl ((OL.own ow_l5_8).toL++[(⟨wi ((wi (l5_2+(wi x6.1))) - 1),wi x6.2⟩:GSl)])) 76)) 11 (zS))),(19, .box 60 [B8 x6.1,B8 x6.2]),(76, .arr 62 2 (mSl ((OL.own ow_l5_8).toL++[(⟨wi ((wi (l5_2+(wi x6.1))) - 1),wi x6.2⟩:GSl)])).length)]⟩ krf (sL tfm krf ?_)))))))
        exact nq_n (wi (l5_2+(wi x6.1)),OL.own ((OL.own ow_l5_8).toL++[(⟨wi ((wi (l5_2+(wi x6.1))) - 1),wi x6.2⟩:GSl)])) ⟨[2,5,6,10,12,13,14,15,16,19,39,40,41],[5,6,10,12,19,76],[],[]⟩ krf
       ·refine sK ?_
        exact nq_n (l5_7,(OL.own ow_l5_8)) ⟨[2,5,6,10,12,13,14,15,16,19,39,40,41],[5,6,10,12,19,76],[],[]⟩ krf
     ·rintro ⟨j7_1,j7_2⟩
      rcases j7_2 with _ | ow_j7_2
      ·refine sim_bind (fun j10=>⟨[(2,U a2seed),(5, .ptr 5 0),(6, .ptr 6 0),(10, .ptr 10 0),(12, .ptr 12 0),(13,I l5_1),(14,I (wi (l5_2+(wi x6.1)))),(15,I j10),(16, .p (.sl 5 (mReading l5_4))),(19, .ptr 19 0),(39, .p (.sl 2 (List.map enc_2_uint8 a4steps))),(40,I (lenI (List.map enc_2_uint8 a4steps))),(41,I l5_6)],[(5, .box 24 (bxc (GTf.cs a0t))),(6, .box 28 (bxc (GCl.cs a1c))),(10, .box 41 [S [],zS,I 0,zS,zS,zS,U 0,I 0,I 0,I 0,zS,zS,I 0,I 0,I 0]),(12, .box 41 (List.set (List.set (List.set (bxc (GClaim.cs ⟨a0t,a1c,[],a2seed,(⟨a3from,a3from,j7_1,[]⟩:GSs),(⟨[],0,0,0⟩:GBill)⟩)) 5 (zS)) 10 (zS)) 11 (zS))),(19, .box 60 [B8 x6.1,B8 x6.2])]⟩:Int→St) ?_ ?_
       ·refine sR tfm ⟨[2,5,6,10,12,13,14,15,16,19,39,40,41,84],[5,6,10,12,19],[],[]⟩ ⟨[(2,U a2seed),(5, .ptr 5 0),(6, .ptr 6 0),(10, .ptr 10 0),(12, .ptr 12 0),(13,I l5_1),(14,I (wi (l5_2+(wi x6.1)))),(15,I (wi (l5_3+(wi x6.2)))),(16, .p (.sl 5 (mReading l5_4))),(19, .ptr 19 0),(39, .p (.sl 2 (List.map enc_2_uint8 a4steps))),(40,I (lenI (List.map enc_2_uint8 a4steps))),(41,I l5_6),(84,B (eqI x6.1 0))],[(5, .box 24 (bxc (GTf.cs a0t))),(6, .box 28 (bxc (GCl.cs a1c))),(10, .box 41 [S [],zS,I 0,zS,zS,zS,U 0,I 0,I 0,I 0,zS,zS,I 0,I 0,I 0]),(12, .box 41 (List.set (List.set (List.set (bxc (GClaim.cs ⟨a0t,a1c,[],a2seed,(⟨a3from,a3from,j7_1,[]⟩:GSs),(⟨[],0,0,0⟩:GBill)⟩)) 5 (zS)) 10 (zS)) 11 (zS))),(19, .box 60 [B8 x6.1,B8 x6.2])]⟩ krf (sC (eqI x6.1 0) krf ?_ ?_)
        ·refine sL tfm krf ?_
         exact nq_n (wi ((wi (l5_3+(wi x6.2))) - (wi x6.2))) ⟨[2,5,6,10,12,13,14,15,16,19,39,40,41],[5,6,10,12,19],[],[]⟩ krf
        ·refine sK ?_
         exact nq_n (wi (l5_3+(wi x6.2))) ⟨[2,5,6,10,12,13,14,15,16,19,39,40,41],[5,6,10,12,19],[],[]⟩ krf
       ·rintro j10
        refine sS (sG (xR 5 krf ?_))
        refine xC [] krf (g_chain_Append_ok n a2seed l5_4 l5_1 (wi (l5_2+(wi x6.1))) j10) krf krf (fun _=>by kernel_rfl) (fun r11=>?_)
        refine xR 5 krf (xE (sN ⟨[2,5,6,10,12,13,14,15,16,17,19,39,40,41],[5,6,10,12,19],[],[]⟩ ⟨[(2,U a2seed),(5, .ptr 5 0),(6, .ptr 6 0),(10, .ptr 10 0),(12, .ptr 12 0),(13,I l5_1),(14,I (wi (l5_2+(wi x6.1)))),(15,I j10),(16, .p (.sl 5 (mReading r11.1))),(17,I r11.2),(19, .ptr 19 0),(39, .p (.sl 2 (List.map enc_2_uint8 a4steps))),(40,I (lenI (List.map enc_2_uint8 a4steps))),(41,I l5_6)],[(5, .box 24 (bxc (GTf.cs a0t))),(6, .box 28 (bxc (GCl.cs a1c))),(10, .box 41 [S [],zS,I 0,zS,zS,zS,U 0,I 0,I 0,I 0,zS,zS,I 0,I 0,I 0]),(12, .box 41 (List.set (List.set (List.set (bxc (GClaim.cs ⟨a0t,a1c,[],a2seed,(⟨a3from,a3from,j7_1,[]⟩:GSs),(⟨[],0,0,0⟩:GBill)⟩)) 5 (zS)) 10 (zS)) 11 (zS))),(19, .box 60 [B8 x6.1,B8 x6.2])]⟩ krf (sim_bind (fun j12=>⟨[(2,U a2seed),(5, .ptr 5 0),(6, .ptr 6 0),(10, .ptr 10 0),(12, .ptr 12 0),(13,I l5_1),(14,I (wi (l5_2+(wi x6.1)))),(15,I j10),(16, .p (.sl 5 (mReading r11.1))),(17,I r11.2),(39, .p (.sl 2 (List.map enc_2_uint8 a4steps))),(40,I (lenI (List.map enc_2_uint8 a4steps))),(41,I l5_6),(106,B j12)],[(5, .box 24 (bxc (GTf.cs a0t))),(6, .box 28 (bxc (GCl.cs a1c))),(10, .box 41 [S [],zS,I 0,zS,zS,zS,U 0,I 0,I 0,I 0,zS,zS,I 0,I 0,I 0]),(12, .box 41 (List.set (List.set (List.set (bxc (GClaim.cs ⟨a0t,a1c,[],a2seed,(⟨a3from,a3from,j7_1,[]⟩:GSs),(⟨[],0,0,0⟩:GBill)⟩)) 5 (zS)) 10 (zS)) 11 (zS)))]⟩:Bool→St) ?_ ?_)))
        ·refine sG (xR 3 krf ?_)
         refine xS (eqI r11.2 0) (fun h13=>?_) (fun h13=>?_)
         ·refine xO (want_tt krf h13) krf (xR 4 krf (xE ?_))
          exact nq_n (eqI (Int.tmod x6.2 8) 7) ⟨[2,5,6,10,12,13,14,15,16,17,39,40,41,106],[5,6,10,12],[],[]⟩ krf
         ·refine xN (want_tf krf h13) krf (xR 4 krf (xE ?_))
          exact nq_n false ⟨[2,5,6,10,12,13,14,15,16,17,39,40,41,106],[5,6,10,12],[],[]⟩ krf
        ·rintro j12
         refine sC j12 krf ?_ ?_
         ·refine sR tfm ⟨[2,5,6,10,12,13,14,15,16,39,40,41],[5,6,10,12],[],[]⟩ ⟨[(2,U a2seed),(5, .ptr 5 0),(6, .ptr 6 0),(10, .ptr 10 0),(12, .ptr 12 0),(13,I (wi (l5_1+1))),(14,I (wi (l5_2+(wi x6.1)))),(15,I 5),(16, .p (.sl 5 (mReading r11.1))),(39, .p (.sl 2 (List.map enc_2_uint8 a4steps))),(40,I (lenI (List.map enc_2_uint8 a4steps))),(41,I l5_6)],[(5, .box 24 (bxc (GTf.cs a0t))),(6, .box 28 (bxc (GCl.cs a1c))),(10, .box 41 [S [],zS,I 0,zS,zS,zS,U 0,I 0,I 0,I 0,zS,zS,I 0,I 0,I 0]),(12, .box 41 (List.set (List.set (List.set (bxc (GClaim.cs ⟨a0t,a1c,[],a2seed,(⟨a3from,a3from,j7_1,[]⟩:GSs),(⟨[],0,0,0⟩:GBill)⟩)) 5 (zS)) 10 (zS)) 11 (zS)))]⟩ krf (sG (xR 5 krf ?_))
          refine xC [] krf (g_chain_Append_ok n a2seed r11.1 (wi (l5_1+1)) (wi (l5_2+(wi x6.1))) 5) krf krf (fun _=>by kernel_rfl) (fun r14=>?_)
          refine xR 5 krf (xE (bq_n (sN ⟨[2,5,6,10,12,13,14,15,16,17,39,40,41],[5,6,10,12],[],[]⟩ ⟨[(2,U a2seed),(5, .ptr 5 0),(6, .ptr 6 0),(10, .ptr 10 0),(12, .ptr 12 0),(13,I (wi (l5_1+1))),(14,I (wi (l5_2+(wi x6.1)))),(15,I 5),(16, .p (.sl 5 (mReading r14.1))),(17,I r14.2),(39, .p (.sl 2 (List.map enc_2_uint8 a4steps))),(40,I (lenI (List.map enc_2_uint8 a4steps))),(41,I l5_6)],[(5, .box 24 (bxc (GTf.cs a0t))),(6, .box 28 (bxc (GCl.cs a1c))),(10, .box 41 [S [],zS,I 0,zS,zS,zS,U 0,I 0,I 0,I 0,zS,zS,I 0,I 0,I 0]),(12, .box 41 (List.set (List.set (List.set (bxc (GClaim.cs ⟨a0t,a1c,[],a2seed,(⟨a3from,a3from,j7_1,[]⟩:GSs),(⟨[],0,0,0⟩:GBill)⟩)) 5 (zS)) 10 (zS)) 11 (zS)))]⟩ krf (sL tfm krf ?_))))
          exact kq_n (wi (l5_1+1),wi (l5_2+(wi x6.1)),5,r14.1,r14.2,wi (l5_6+1),j7_1,OL.nil) ⟨[2,5,6,10,12,13,14,15,16,17,39,40,41],[5,6,10,12],[],[]⟩ krf
         ·refine sK (bq_n (sN ⟨[2,5,6,10,12,13,14,15,16,17,39,40,41],[5,6,10,12],[],[]⟩ ⟨[(2,U a2seed),(5, .ptr 5 0),(6, .ptr 6 0),(10, .ptr 10 0),(12, .ptr 12 0),(13,I l5_1),(14,I (wi (l5_2+(wi x6.1)))),(15,I j10),(16, .p (.sl 5 (mReading r11.1))),(17,I r11.2),(39, .p (.sl 2 (List.map enc_2_uint8 a4steps))),(40,I (lenI (List.map enc_2_uint8 a4steps))),(41,I l5_6)],[(5, .box 24 (bxc (GTf.cs a0t))),(6, .box 28 (bxc (GCl.cs a1c))),(10, .box 41 [S [],zS,I 0,zS,zS,zS,U 0,I 0,I 0,I 0,zS,zS,I 0,I 0,I 0]),(12, .box 41 (List.set (List.set (List.set (bxc (GClaim.cs ⟨a0t,a1c,[],a2seed,(⟨a3from,a3from,j7_1,[]⟩:GSs),(⟨[],0,0,0⟩:GBill)⟩)) 5 (zS)) 10 (zS)) 11 (zS)))]⟩ krf (sL tfm krf ?_)))
          exact kq_n (l5_1,wi (l5_2+(wi x6.1)),j10,r11.1,r11.2,wi (l5_6+1),j7_1,OL.nil) ⟨[2,5,6,10,12,13,14,15,16,17,39,40,41],[5,6,10,12],[],[]⟩ krf
      ·refine sim_bind (fun j10=>⟨[(2,U a2seed),(5, .ptr 5 0),(6, .ptr 6 0),(10, .ptr 10 0),(12, .ptr 12 0),(13,I l5_1),(14,I (wi (l5_2+(wi x6.1)))),(15,I j10),(16, .p (.sl 5 (mReading l5_4))),(19, .ptr 19 0),(39, .p (.sl 2 (List.map enc_2_uint8 a4steps))),(40,I (lenI (List.map enc_2_uint8 a4steps))),(41,I l5_6)],[(5, .box 24 (bxc (GTf.cs a0t))),(6, .box 28 (bxc (GCl.cs a1c))),(10, .box 41 [S [],zS,I 0,zS,zS,zS,U 0,I 0,I 0,I 0,zS,zS,I 0,I 0,I 0]),(12, .box 41 (List.set (List.set (List.set (bxc (GClaim.cs ⟨a0t,a1c,[],a2seed,(⟨a3from,a3from,j7_1,[]⟩:GSs),(⟨[],0,0,0⟩:GBill)⟩)) 5 (zS)) 10 (.tsl 2 (mSl (OL.own ow_j7_2).toL) 76)) 11 (zS))),(19, .box 60 [B8 x6.1,B8 x6.2]),(76, .arr 62 2 (mSl (OL.own ow_j7_2).toL).length)]⟩:Int→St) ?_ ?_
       ·refine sR tfm ⟨[2,5,6,10,12,13,14,15,16,19,39,40,41,84],[5,6,10,12,19,76],[],[]⟩ ⟨[(2,U a2seed),(5, .ptr 5 0),(6, .ptr 6 0),(10, .ptr 10 0),(12, .ptr 12 0),(13,I l5_1),(14,I (wi (l5_2+(wi x6.1)))),(15,I (wi (l5_3+(wi x6.2)))),(16, .p (.sl 5 (mReading l5_4))),(19, .ptr 19 0),(39, .p (.sl 2 (List.map enc_2_uint8 a4steps))),(40,I (lenI (List.map enc_2_uint8 a4steps))),(41,I l5_6),(84,B (eqI x6.1 0))],[(5, .box 24 (bxc (GTf.cs a0t))),(6, .box 28 (bxc (GCl.cs a1c))),(10, .box 41 [S [],zS,I 0,zS,zS,zS,U 0,I 0,I 0,I 0,zS,zS,I 0,I 0,I 0]),(12, .box 41 (List.set (List.set (List.set (bxc (GClaim.cs ⟨a0t,a1c,[],a2seed,(⟨a3from,a3from,j7_1,[]⟩:GSs),(⟨[],0,0,0⟩:GBill)⟩)) 5 (zS)) 10 (.tsl 2 (mSl (OL.own ow_j7_2).toL) 76)) 11 (zS))),(19, .box 60 [B8 x6.1,B8 x6.2]),(76, .arr 62 2 (mSl (OL.own ow_j7_2).toL).length)]⟩ krf (sC (eqI x6.1 0) krf ?_ ?_)
        ·refine sL tfm krf ?_
         exact nq_n (wi ((wi (l5_3+(wi x6.2))) - (wi x6.2))) ⟨[2,5,6,10,12,13,14,15,16,19,39,40,41],[5,6,10,12,19,76],[],[]⟩ krf
        ·refine sK ?_
         exact nq_n (wi (l5_3+(wi x6.2))) ⟨[2,5,6,10,12,13,14,15,16,19,39,40,41],[5,6,10,12,19,76],[],[]⟩ krf
       ·rintro j10
        refine sS (sG (xR 5 krf ?_))
        refine xC [] krf (g_chain_Append_ok n a2seed l5_4 l5_1 (wi (l5_2+(wi x6.1))) j10) krf krf (fun _=>by kernel_rfl) (fun r11=>?_)
        refine xR 5 krf (xE (sN ⟨[2,5,6,10,12,13,14,15,16,17,19,39,40,41],[5,6,10,12,19,76],[],[]⟩ ⟨[(2,U a2seed),(5, .ptr 5 0),(6, .ptr 6 0),(10, .ptr 10 0),(12, .ptr 12 0),(13,I l5_1),(14,I (wi (l5_2+(wi x6.1)))),(15,I j10),(16, .p (.sl 5 (mReading r11.1))),(17,I r11.2),(19, .ptr 19 0),(39, .p (.sl 2 (List.map enc_2_uint8 a4steps))),(40,I (lenI (List.map enc_2_uint8 a4steps))),(41,I l5_6)],[(5, .box 24 (bxc (GTf.cs a0t))),(6, .box 28 (bxc (GCl.cs a1c))),(10, .box 41 [S [],zS,I 0,zS,zS,zS,U 0,I 0,I 0,I 0,zS,zS,I 0,I 0,I 0]),(12, .box 41 (List.set (List.set (List.set (bxc (GClaim.cs ⟨a0t,a1c,[],a2seed,(⟨a3from,a3from,j7_1,[]⟩:GSs),(⟨[],0,0,0⟩:GBill)⟩)) 5 (zS)) 10 (.tsl 2 (mSl (OL.own ow_j7_2).toL) 76)) 11 (zS))),(19, .box 60 [B8 x6.1,B8 x6.2]),(76, .arr 62 2 (mSl (OL.own ow_j7_2).toL).length)]⟩ krf (sim_bind (fun j12=>⟨[(2,U a2seed),(5, .ptr 5 0),(6, .ptr 6 0),(10, .ptr 10 0),(12, .ptr 12 0),(13,I l5_1),(14,I (wi (l5_2+(wi x6.1)))),(15,I j10),(16, .p (.sl 5 (mReading r11.1))),(17,I r11.2),(39, .p (.sl 2 (List.map enc_2_uint8 a4steps))),(40,I (lenI (List.map enc_2_uint8 a4steps))),(41,I l5_6),(106,B j12)],[(5, .box 24 (bxc (GTf.cs a0t))),(6, .box 28 (bxc (GCl.cs a1c))),(10, .box 41 [S [],zS,I 0,zS,zS,zS,U 0,I 0,I 0,I 0,zS,zS,I 0,I 0,I 0]),(12, .box 41 (List.set (List.set (List.set (bxc (GClaim.cs ⟨a0t,a1c,[],a2seed,(⟨a3from,a3from,j7_1,[]⟩:GSs),(⟨[],0,0,0⟩:GBill)⟩)) 5 (zS)) 10 (.tsl 2 (mSl (OL.own ow_j7_2).toL) 76)) 11 (zS))),(76, .arr 62 2 (mSl (OL.own ow_j7_2).toL).length)]⟩:Bool→St) ?_ ?_)))
        ·refine sG (xR 3 krf ?_)
         refine xS (eqI r11.2 0) (fun h13=>?_) (fun h13=>?_)
         ·refine xO (want_tt krf h13) krf (xR 4 krf (xE ?_))
          exact nq_n (eqI (Int.tmod x6.2 8) 7) ⟨[2,5,6,10,12,13,14,15,16,17,39,40,41,106],[5,6,10,12,76],[],[]⟩ krf
         ·refine xN (want_tf krf h13) krf (xR 4 krf (xE ?_))
          exact nq_n false ⟨[2,5,6,10,12,13,14,15,16,17,39,40,41,106],[5,6,10,12,76],[],[]⟩ krf
        ·rintro j12
         refine sC j12 krf ?_ ?_
         ·refine sR tfm ⟨[2,5,6,10,12,13,14,15,16,39,40,41],[5,6,10,12,76],[],[]⟩ ⟨[(2,U a2seed),(5, .ptr 5 0),(6, .ptr 6 0),(10, .ptr 10 0),(12, .ptr 12 0),(13,I (wi (l5_1+1))),(14,I (wi (l5_2+(wi x6.1)))),(15,I 5),(16, .p (.sl 5 (mReading r11.1))),(39, .p (.sl 2 (List.map enc_2_uint8 a4steps))),(40,I (lenI (List.map enc_2_uint8 a4steps))),(41,I l5_6)],[(5, .box 24 (bxc (GTf.cs a0t))),(6, .box 28 (bxc (GCl.cs a1c))),(10, .box 41 [S [],zS,I 0,zS,zS,zS,U 0,I 0,I 0,I 0,zS,zS,I 0,I 0,I 0]),(12, .box 41 (List.set (List.set (List.set (bxc (GClaim.cs ⟨a0t,a1c,[],a2seed,(⟨a3from,a3from,j7_1,[]⟩:GSs),(⟨[],0,0,0⟩:GBill)⟩)) 5 (zS)) 10 (.tsl 2 (mSl (OL.own ow_j7_2).toL) 76)) 11 (zS))),(76, .arr 62 2 (mSl (OL.own ow_j7_2).toL).length)]⟩ krf (sG (xR 5 krf ?_))
          refine xC [] krf (g_chain_Append_ok n a2seed r11.1 (wi (l5_1+1)) (wi (l5_2+(wi x6.1))) 5) krf krf (fun _=>by kernel_rfl) (fun r14=>?_)
          refine xR 5 krf (xE (bq_n (sN ⟨[2,5,6,10,12,13,14,15,16,17,39,40,41],[5,6,10,12,76],[],[]⟩ ⟨[(2,U a2seed),(5, .ptr 5 0),(6, .ptr 6 0),(10, .ptr 10 0),(12, .ptr 12 0),(13,I (wi (l5_1+1))),(14,I (wi (l5_2+(wi x6.1)))),(15,I 5),(16, .p (.sl 5 (mReading r14.1))),(17,I r14.2),(39, .p (.sl 2 (List.map enc_2_uint8 a4steps))),(40,I (lenI (List.map enc_2_uint8 a4steps))),(41,I l5_6)],[(5, .box 24 (bxc (GTf.cs a0t))),(6, .box 28 (bxc (GCl.cs a1c))),(10, .box 41 [S [],zS,I 0,zS,zS,zS,U 0,I 0,I 0,I 0,zS,zS,I 0,I 0,I 0]),(12, .box 41 (List.set (List.set (List.set (bxc (GClaim.cs ⟨a0t,a1c,[],a2seed,(⟨a3from,a3from,j7_1,[]⟩:GSs),(⟨[],0,0,0⟩:GBill)⟩)) 5 (zS)) 10 (.tsl 2 (mSl (OL.own ow_j7_2).toL) 76)) 11 (zS))),(76, .arr 62 2 (mSl (OL.own ow_j7_2).toL).length)]⟩ krf (sL tfm krf ?_))))
          exact kq_n (wi (l5_1+1),wi (l5_2+(wi x6.1)),5,r14.1,r14.2,wi (l5_6+1),j7_1,(OL.own ow_j7_2)) ⟨[2,5,6,10,12,13,14,15,16,17,39,40,41],[5,6,10,12,76],[],[]⟩ krf
         ·refine sK (bq_n (sN ⟨[2,5,6,10,12,13,14,15,16,17,39,40,41],[5,6,10,12,76],[],[]⟩ ⟨[(2,U a2seed),(5, .ptr 5 0),(6, .ptr 6 0),(10, .ptr 10 0),(12, .ptr 12 0),(13,I l5_1),(14,I (wi (l5_2+(wi x6.1)))),(15,I j10),(16, .p (.sl 5 (mReading r11.1))),(17,I r11.2),(39, .p (.sl 2 (List.map enc_2_uint8 a4steps))),(40,I (lenI (List.map enc_2_uint8 a4steps))),(41,I l5_6)],[(5, .box 24 (bxc (GTf.cs a0t))),(6, .box 28 (bxc (GCl.cs a1c))),(10, .box 41 [S [],zS,I 0,zS,zS,zS,U 0,I 0,I 0,I 0,zS,zS,I 0,I 0,I 0]),(12, .box 41 (List.set (List.set (List.set (bxc (GClaim.cs ⟨a0t,a1c,[],a2seed,(⟨a3from,a3from,j7_1,[]⟩:GSs),(⟨[],0,0,0⟩:GBill)⟩)) 5 (zS)) 10 (.tsl 2 (mSl (OL.own ow_j7_2).toL) 76)) 11 (zS))),(76, .arr 62 2 (mSl (OL.own ow_j7_2).toL).length)]⟩ krf (sL tfm krf ?_)))
          exact kq_n (l5_1,wi (l5_2+(wi x6.1)),j10,r11.1,r11.2,wi (l5_6+1),j7_1,(OL.own ow_j7_2)) ⟨[2,5,6,10,12,13,14,15,16,17,39,40,41],[5,6,10,12,76],[],[]⟩ krf
   ·refine sim_exit (sq_x (kq_x (bq_hit ?_)))
    exact kq_n (k:=fun (j2_1,j2_2,j2_3,j2_4,j2_5)=>g_law43_made_j2 n a0t a1c a2seed a3from j2_1 j2_2 j2_3 j2_4 j2_5) (l5_2,l5_4,l5_5,l5_7,(OL.own ow_l5_8)) ⟨[5,6,10,12,14,16,17],[5,6,10,12,76],[],[]⟩ krf
def g_law43_AuditorAccepts (n:Nat) (a0t:GTf) (a1c:GCl) (a2seed:Int) (a3from:Int) (a4steps:List (Int × Int)):Option Bool :=
 (g_law43_head n).bind fun r1 =>
 ((g_ref33_Few n a0t a1c (⟨0,0,0,[]⟩:GSs)).bind fun r3 =>
 cond (!r3)
  (some true)
  (some (ltI 30 (lenI (List.map enc_2_uint8 a4steps))))).bind fun j2 =>
 cond j2
  (some r1)
  ((g_law43_made n a0t a1c a2seed a3from a4steps).bind fun r5 =>
  cond (!r5.2)
   (some r1)
   ((g_a_Replay n r5.1).bind fun r6 =>
   cond r1
    ((g_a_Verify n r5.1).bind fun r8 =>
    cond (eqI r8 0)
     (cond (eqI r6.2 0)
      ((g_ref33_Same n r6.1 r5.1.Bill).bind fun r11 =>
      some r11)
      (some false))
     (some false))
    (some false)))
theorem g_law43_AuditorAccepts_ok (n:Nat) (a0t:GTf) (a1c:GCl) (a2seed:Int) (a3from:Int) (a4steps:List (Int × Int)):∀ r,g_law43_AuditorAccepts n a0t a1c a2seed a3from a4steps=some r→PCall Tryz.prog 3 [ag (GTf.cs a0t),ag (GCl.cs a1c),U a2seed,I a3from, .p (.sl 2 (List.map enc_2_uint8 a4steps))] (.ret (B r)):=by
 refine pcall_sim (X:=fun r:Bool=>AEnd.ret (B r)) Tryz.func3 rfl Tryz.ntmps3 rfl ?_
 unfold g_law43_AuditorAccepts
 refine sR tfm ⟨[2,3,4,5,6],[5,6],[],[]⟩ ⟨[(2,U a2seed),(3,I a3from),(4, .p (.sl 2 (List.map enc_2_uint8 a4steps))),(5, .ptr 5 0),(6, .ptr 6 0)],[(5, .box 24 (bxc (GTf.cs a0t))),(6, .box 28 (bxc (GCl.cs a1c)))]⟩ krf (sS (sG ?_))
 refine xC [] krf (g_law43_head_ok n) krf krf (fun _=>by kernel_rfl) (fun r1=>?_)
 refine xR 1 krf (xE (sN ⟨[2,3,4,5,6,11],[5,6],[],[]⟩ ⟨[(2,U a2seed),(3,I a3from),(4, .p (.sl 2 (List.map enc_2_uint8 a4steps))),(5, .ptr 5 0),(6, .ptr 6 0),(11,B r1)],[(5, .box 24 (bxc (GTf.cs a0t))),(6, .box 28 (bxc (GCl.cs a1c)))]⟩ krf (sS (sim_bind (fun j2=>⟨[(2,U a2seed),(3,I a3from),(4, .p (.sl 2 (List.map enc_2_uint8 a4steps))),(5, .ptr 5 0),(6, .ptr 6 0),(11,B r1),(26,B j2)],[(5, .box 24 (bxc (GTf.cs a0t))),(6, .box 28 (bxc (GCl.cs a1c)))]⟩:Bool→St) ?_ ?_))))
 ·refine sG (xR 3 krf ?_)
  refine xC [.id, .id, .agg [.id, .id, .id, .sl 2]] krf (g_ref33_Few_ok n a0t a1c (⟨0,0,0,[]⟩:GSs)) krf krf (fun _=>by kernel_rfl) (fun r3=>?_)
  refine xR 2 krf ?_
  refine xS (!r3) (fun h4=>?_) (fun h4=>?_)
  ·refine xN (want_ft krf h4) krf (xR 3 krf (xE ?_))
   exact nq_n true ⟨[2,3,4,5,6,11,26],[5,6],[],[]⟩ krf
  ·refine xO (want_ff krf h4) krf (xR 3 krf (xE ?_))
   exact nq_n (ltI 30 (lenI (List.map enc_2_uint8 a4steps))) ⟨[2,3,4,5,6,11,26],[5,6],[],[]⟩ krf
 ·rintro j2
  refine sC j2 krf ?_ ?_
  ·refine sR tfm ⟨[10],[],[],[]⟩ ⟨[(10,B r1)],[]⟩ krf (sT (sq_r ?_))
   exact qR (.id) krf krf krf
  ·refine sK (sN ⟨[2,3,4,5,6,11],[5,6],[],[]⟩ ⟨[(2,U a2seed),(3,I a3from),(4, .p (.sl 2 (List.map enc_2_uint8 a4steps))),(5, .ptr 5 0),(6, .ptr 6 0),(11,B r1)],[(5, .box 24 (bxc (GTf.cs a0t))),(6, .box 28 (bxc (GCl.cs a1c)))]⟩ krf (sS (sG (xR 5 krf ?_))))
   refine xC [] krf (g_law43_made_ok n a0t a1c a2seed a3from a4steps) krf krf (fun _=>by kernel_rfl) (fun r5=>?_)
   refine xR 6 krf (xE (sN ⟨[11,12,13],[12],[],[]⟩ ⟨[(11,B r1),(12, .ptr 12 0),(13,B r5.2)],[(12, .box 41 (bxc (GClaim.cs r5.1)))]⟩ krf (sS (sR tfm ⟨[11,12,38],[12],[],[]⟩ ⟨[(11,B r1),(12, .ptr 12 0),(38,B (!r5.2))],[(12, .box 41 (bxc (GClaim.cs r5.1)))]⟩ krf (sC (!r5.2) krf ?_ ?_)))))
   ·refine sR tfm ⟨[10],[],[],[]⟩ ⟨[(10,B r1)],[]⟩ krf (sT (sq_r ?_))
    exact qR (.id) krf krf krf
   ·refine sK (sN ⟨[11,12],[12],[],[]⟩ ⟨[(11,B r1),(12, .ptr 12 0)],[(12, .box 41 (bxc (GClaim.cs r5.1)))]⟩ krf (sS (sG (xR 1 krf ?_))))
    refine xC [] krf (g_a_Replay_ok n r5.1) krf krf (fun _=>by kernel_rfl) (fun r6=>?_)
    refine xR 6 krf (xE (sN ⟨[11,12,14,15],[12,14],[],[]⟩ ⟨[(11,B r1),(12, .ptr 12 0),(14, .ptr 14 0),(15,I r6.2)],[(12, .box 41 (bxc (GClaim.cs r5.1))),(14, .box 39 (bxc (GBill.cs r6.1)))]⟩ krf (sS (sG (xR 2 krf ?_)))))
    refine xS r1 (fun h7=>?_) (fun h7=>?_)
    ·refine xO (want_tt krf h7) krf ?_
     refine xC [] krf (g_a_Verify_ok n r5.1) krf krf (fun _=>by kernel_rfl) (fun r8=>?_)
     refine xR 3 krf ?_
     refine xS (eqI r8 0) (fun h9=>?_) (fun h9=>?_)
     ·refine xO (want_tt krf h9) krf (xR 3 krf ?_)
      refine xS (eqI r6.2 0) (fun h10=>?_) (fun h10=>?_)
      ·refine xO (want_tt krf h10) krf (xR 2 krf ?_)
       refine xC [] krf (g_ref33_Same_ok n r6.1 r5.1.Bill) krf krf (fun _=>by kernel_rfl) (fun r11=>?_)
       refine xR 2 krf (xE (sN ⟨[10],[],[],[]⟩ ⟨[(10,B r11)],[]⟩ krf (sT ?_)))
       exact qR (.id) krf krf krf
      ·refine xN (want_tf krf h10) krf (xR 5 krf (xE (sN ⟨[10],[],[],[]⟩ ⟨[(10,B false)],[]⟩ krf (sT ?_))))
       exact qR (.id) krf krf krf
     ·refine xN (want_tf krf h9) krf (xR 9 krf (xE (sN ⟨[10],[],[],[]⟩ ⟨[(10,B false)],[]⟩ krf (sT ?_))))
      exact qR (.id) krf krf krf
    ·refine xN (want_tf krf h7) krf (xR 14 krf (xE (sN ⟨[10],[],[],[]⟩ ⟨[(10,B false)],[]⟩ krf (sT ?_))))
     exact qR (.id) krf krf krf
end Go.Proofs
namespace Go.Proofs
open Go Go.Abs
set_option maxRecDepth 100000
set_option linter.unusedVariables false
def g_ref02_Kinds (n:Nat):Option (List (List UInt8)) :=
 some [[102,101,101,100,101,114],[99,97,98,108,101],[111,119,110,101,114],[99,111,110,116,114,97,99,116],[99,104,97,114,103,101,114],[98,97,121],[116,97,114,105,102,102]]
def g_ref02_Attrs (n:Nat):Option (List (List UInt8)) :=
 some [[108,105,109,105,116],[110,101,117,116,114,97,108],[102,117,115,101],[116,104,101,114,109,97,108],[102,114,111,109],[97,116],[112,104,97,115,101,115],[97,109,112,115],[102,97,108,108,98,97,99,107],[111,119,110,101,114],[99,97,114,100],[114,97,110,107],[99,104,97,114,103,101,114]]
def g_ref02_Articles (n:Nat):Option (List (List UInt8)) :=
 some [[115,116,97,114,116],[101,110,101,114,103,121],[116,105,109,101],[105,100,108,101],[99,97,112],[116,97,120]]
def g_ref02_Words (n:Nat):Option (List (List UInt8)) :=
 some [[111,110],[119,111,114,107],[115,97,116,117,114,100,97,121],[115,117,110,100,97,121],[98,101,116,119,101,101,110],[112,101,114],[102,114,101,101]]
def g_ref32_Article (n:Nat) (a0a:GAr):Option Bool :=
 (cond (ltI a0a.Price 0)
  (some true)
  (cond (ltI 1000000 a0a.Price)
   (some true)
   (cond (ltI a0a.From 0)
    (some true)
    (cond (ltI 1439 a0a.From)
     (some true)
     (cond (leI a0a.To a0a.From)
      (some true)
      (cond (ltI 1440 a0a.To)
       (some true)
       (cond (ltI a0a.Days 1)
        (some true)
        (some (ltI 7 a0a.Days))))))))).bind fun j1 =>
 cond j1
  (some false)
  ((cond (eqI a0a.Kind 3)
   (some true)
   (some (eqI a0a.Kind 4))).bind fun j9 =>
  cond j9
   ((cond (leI 1 a0a.Unit)
    (cond (leI a0a.Unit 1440)
     (cond (leI 0 a0a.Free)
      (some (leI a0a.Free 1440))
      (some false))
     (some false))
    (some false)).bind fun j11 =>
   some j11)
   ((cond (!eqI a0a.Unit 0)
    (some true)
    (some (!eqI a0a.Free 0))).bind fun j15 =>
   cond j15
    (some false)
    ((cond (eqI a0a.From 0)
     (cond (eqI a0a.To 1440)
      (some (eqI a0a.Days 7))
      (some false))
     (some false)).bind fun j17 =>
    cond (eqI a0a.Kind 6)
     ((cond j17
      (some (leI a0a.Price 10000))
      (some false)).bind fun j20 =>
     some j20)
     (cond (eqI a0a.Kind 5)
      (some j17)
      (cond (eqI a0a.Kind 1)
       (some true)
       (some (eqI a0a.Kind 2)))))))
def g_ref26_offset (n:Nat) (a0n:Int):Option Bool :=
 cond (leI (-1440) a0n)
  (some (leI a0n 1440))
  (some false)
def g_ref26_Valid_l6 (a0c:GCl) (recl6:Int→Option Bool) (l6:Int):Option Bool :=
 cond (ltI l6 (lenI (List.map ci a0c.Holidays)))
  ((getI a0c.Holidays l6).bind fun x7 =>
  (cond (ltI x7 0)
   (some true)
   (cond (ltI 36500 x7)
    (some true)
    (cond (ltI 0 l6)
     ((getI a0c.Holidays (wi (l6 - 1))).bind fun x12 =>
     some (leI x7 x12))
     (some false)))).bind fun j8 =>
  cond j8
   (some false)
   (recl6 (wi (l6+1))))
  (some true)
def g_ref26_Valid_j5 (n:Nat) (a0c:GCl):Option Bool :=
 loopN (fun recl6 l6=>g_ref26_Valid_l6 a0c recl6 l6) n 0
def g_ref26_Valid_l13 (n:Nat) (a0c:GCl) (recl13:Int→Option Bool) (l13:Int):Option Bool :=
 cond (ltI l13 (lenI (List.map GCh.cs a0c.Changes)))
  ((getI a0c.Changes l13).bind fun x14 =>
  ((g_ref26_offset n x14.Offset).bind fun r16 =>
  cond (!r16)
   (some true)
   (cond (ltI x14.At 0)
    (some true)
    (cond (ltI 52560000 x14.At)
     (some true)
     (cond (ltI 0 l13)
      ((getI a0c.Changes (wi (l13 - 1))).bind fun x21 =>
      some (leI x14.At x21.At))
      (some false))))).bind fun j15 =>
  cond j15
   (some false)
   (recl13 (wi (l13+1))))
  (g_ref26_Valid_j5 n a0c)
def g_ref26_Valid (n:Nat) (a0c:GCl):Option Bool :=
 ((g_ref26_offset n a0c.Offset).bind fun r2 =>
 cond (!r2)
  (some true)
  (cond (ltI 16 (lenI (List.map GCh.cs a0c.Changes)))
   (some true)
   (some (ltI 32 (lenI (List.map ci a0c.Holidays)))))).bind fun j1 =>
 cond j1
  (some false)
  (loopN (fun recl13 l13=>g_ref26_Valid_l13 n a0c recl13 l13) n 0)
def g_ref33_Valid_l8 (a0s:GSs) (recl8:Int→Option Bool) (l8:Int):Option Bool :=
 cond (ltI l8 (lenI (List.map GSl.cs a0s.Slices)))
  ((getI a0s.Slices l8).bind fun x9 =>
  (cond (ltI x9.Minute a0s.From)
   (some true)
   (cond (leI a0s.End x9.Minute)
    (some true)
    (cond (ltI x9.Energy 0)
     (some true)
     (cond (ltI 10000 x9.Energy)
      (some true)
      (cond (ltI 0 l8)
       ((getI a0s.Slices (wi (l8 - 1))).bind fun x16 =>
       some (leI x9.Minute x16.Minute))
       (some false)))))).bind fun j10 =>
  cond j10
   (some false)
   (recl8 (wi (l8+1))))
  (some true)
def g_ref33_Valid (n:Nat) (a0s:GSs):Option Bool :=
 (cond (ltI a0s.From 0)
  (some true)
  (cond (leI a0s.To a0s.From)
   (some true)
   (cond (ltI 52560000 a0s.To)
    (some true)
    (cond (ltI 2880 (wi (a0s.To - a0s.From)))
     (some true)
     (cond (ltI a0s.End a0s.From)
      (some true)
      (cond (ltI a0s.To a0s.End)
       (some true)
       (some (ltI 48 (lenI (List.map GSl.cs a0s.Slices)))))))))).bind fun j1 =>
 cond j1
  (some false)
  (loopN (fun recl8 l8=>g_ref33_Valid_l8 a0s recl8 l8) n 0)
def g_ref26_Offset_l1 (a0c:GCl) (a1minute:Int) (recl1:(Int × Int)→Option Int) (l1_1:Int) (l1_2:Int):Option Int :=
 cond (ltI l1_2 (lenI (List.map GCh.cs a0c.Changes)))
  ((getI a0c.Changes l1_2).bind fun x2 =>
  cond (leI x2.At a1minute)
   ((getI a0c.Changes l1_2).bind fun x3 =>
   recl1 (x3.Offset,wi (l1_2+1)))
   (recl1 (l1_1,wi (l1_2+1))))
  (some l1_1)
def g_ref26_Offset (n:Nat) (a0c:GCl) (a1minute:Int):Option Int :=
 loopN (fun recl1 (l1_1,l1_2)=>g_ref26_Offset_l1 a0c a1minute recl1 l1_1 l1_2) n (a0c.Offset,0)
def g_ref26_Local (n:Nat) (a0c:GCl) (a1minute:Int):Option (Int × Int × Int) :=
 ((g_ref26_Valid n a0c).bind fun r2 =>
 cond (!r2)
  (some true)
  (cond (ltI a1minute 0)
   (some true)
   (some (ltI 52560000 a1minute)))).bind fun j1 =>
 cond j1
  (some (0,0,1))
  ((g_ref26_Offset n a0c a1minute).bind fun r5 =>
  cond (ltI (wi (a1minute+r5)) 0)
   (some ((-1),wi ((wi (a1minute+r5)) - (-1440)),0))
   (some (wi (Int.tdiv (wi (a1minute+r5)) 1440),wi ((wi (a1minute+r5)) - (wi (1440 * (wi (Int.tdiv (wi (a1minute+r5)) 1440))))),0)))
def g_ref26_Type_j5 (a1day:Int):Option (Int × Int) :=
 cond (eqI (Int.tmod (wi (a1day+7)) 7) 6)
  (some (2,0))
  (cond (eqI (Int.tmod (wi (a1day+7)) 7) 5)
   (some (1,0))
   (some (0,0)))
def g_ref26_Type_l6 (a0c:GCl) (a1day:Int) (recl6:Int→Option (Int × Int)) (l6:Int):Option (Int × Int) :=
 cond (ltI l6 (lenI (List.map ci a0c.Holidays)))
  ((getI a0c.Holidays l6).bind fun x7 =>
  cond (eqI x7 a1day)
   (some (2,0))
   (recl6 (wi (l6+1))))
  (g_ref26_Type_j5 a1day)
def g_ref26_Type (n:Nat) (a0c:GCl) (a1day:Int):Option (Int × Int) :=
 ((g_ref26_Valid n a0c).bind fun r2 =>
 cond (!r2)
  (some true)
  (cond (ltI a1day (-1))
   (some true)
   (some (ltI 36501 a1day)))).bind fun j1 =>
 cond j1
  (some (0,1))
  (loopN (fun recl6 l6=>g_ref26_Type_l6 a0c a1day recl6 l6) n 0)
def g_ref32_Applies (n:Nat) (a0a:GAr) (a1c:GCl) (a2minute:Int):Option Bool :=
 (g_ref32_Article n a0a).bind fun r1 =>
 cond (!r1)
  (some false)
  ((g_ref26_Local n a1c a2minute).bind fun r2 =>
  cond (!eqI r2.2.2 0)
   (some false)
   ((g_ref26_Type n a1c r2.1).bind fun r3 =>
   (cond (eqI r3.1 1)
    (some (eqI (Int.tmod (wi (Int.tdiv a0a.Days 2)) 2) 1))
    (some (eqI (Int.tmod a0a.Days 2) 1))).bind fun j4 =>
   (cond (eqI r3.1 2)
    (some (eqI (Int.tmod (wi (Int.tdiv a0a.Days 4)) 2) 1))
    (some j4)).bind fun j5 =>
   cond j5
    (cond (leI a0a.From r2.2.1)
     (some (ltI r2.2.1 a0a.To))
     (some false))
    (some false)))
def g_ref33_Minutes_l1 (n:Nat) (a0a:GAr) (a1c:GCl) (a3to:Int) (recl1:(Int × Int)→Option Int) (l1_1:Int) (l1_2:Int):Option Int :=
 cond (ltI l1_2 a3to)
  ((g_ref32_Applies n a0a a1c l1_2).bind fun r2 =>
  cond r2
   (recl1 (wi (l1_1+1),wi (l1_2+1)))
   (recl1 (l1_1,wi (l1_2+1))))
  (some l1_1)
def g_ref33_Minutes (n:Nat) (a0a:GAr) (a1c:GCl) (a2from:Int) (a3to:Int):Option Int :=
 loopN (fun recl1 (l1_1,l1_2)=>g_ref33_Minutes_l1 n a0a a1c a3to recl1 l1_1 l1_2) n (0,a2from)
def g_ref33_Energy_l1 (n:Nat) (a0a:GAr) (a1c:GCl) (a2s:GSs) (recl1:(Int × Int)→Option Int) (l1_1:Int) (l1_2:Int):Option Int :=
 cond (ltI l1_2 (lenI (List.map GSl.cs a2s.Slices)))
  ((getI a2s.Slices l1_2).bind fun x2 =>
  (g_ref32_Applies n a0a a1c x2.Minute).bind fun r3 =>
  cond r3
   ((getI a2s.Slices l1_2).bind fun x4 =>
   recl1 (wi (l1_1+x4.Energy),wi (l1_2+1)))
   (recl1 (l1_1,wi (l1_2+1))))
  (some l1_1)
def g_ref33_Energy (n:Nat) (a0a:GAr) (a1c:GCl) (a2s:GSs):Option Int :=
 loopN (fun recl1 (l1_1,l1_2)=>g_ref33_Energy_l1 n a0a a1c a2s recl1 l1_1 l1_2) n (0,0)
def g_ref31_amount (n:Nat) (a0n:Int):Option Bool :=
 cond (leI 0 a0n)
  (some (leI a0n 1000000000))
  (some false)
def g_ref31_divided (n:Nat) (a0n:Int) (a1d:Int):Option Int :=
 cond (!eqI (wi (2 * a1d)) 0) (
  some (wi (Int.tdiv (wi ((wi (2 * a0n))+a1d)) (wi (2 * a1d))))) none
def g_ref31_checked (n:Nat) (a0n:Int):Option (Int × Int) :=
 (g_ref31_amount n a0n).bind fun r1 =>
 cond (!r1)
  (some (0,3))
  (some (a0n,0))
def g_ref31_Times (n:Nat) (a0price:Int) (a1quantity:Int) (a2per:Int):Option (Int × Int) :=
 ((g_ref31_amount n a0price).bind fun r2 =>
 cond (!r2)
  (some true)
  ((g_ref31_amount n a1quantity).bind fun r4 =>
  cond (!r4)
   (some true)
   (cond (ltI a2per 1)
    (some true)
    (some (ltI 1000000000 a2per))))).bind fun j1 =>
 cond j1
  (some (0,1))
  ((g_ref31_divided n (wi (a0price * a1quantity)) a2per).bind fun r7 =>
  (g_ref31_checked n r7).bind fun r8 =>
  some (r8.1,r8.2))
def g_ref31_Started (n:Nat) (a0price:Int) (a1quantity:Int) (a2unit:Int):Option (Int × Int) :=
 ((g_ref31_amount n a0price).bind fun r2 =>
 cond (!r2)
  (some true)
  ((g_ref31_amount n a1quantity).bind fun r4 =>
  cond (!r4)
   (some true)
   (cond (ltI a2unit 1)
    (some true)
    (some (ltI 1000000000 a2unit))))).bind fun j1 =>
 cond j1
  (some (0,1))
  (cond (!eqI a2unit 0) (
   (g_ref31_checked n (wi (a0price * (wi (Int.tdiv (wi ((wi (a1quantity+a2unit)) - 1)) a2unit))))).bind fun r7 =>
   some (r7.1,r7.2)) none)
def g_ref33_Line (n:Nat) (a0a:GAr) (a1c:GCl) (a2s:GSs):Option (Int × Int) :=
 (g_ref32_Article n a0a).bind fun r1 =>
 (g_ref26_Valid n a1c).bind fun r2 =>
 (g_ref33_Valid n a2s).bind fun r3 =>
 (cond (!r1)
  (some true)
  (cond (!r2)
   (some true)
   (some (!r3)))).bind fun j4 =>
 cond j4
  (some (0,1))
  (cond (eqI a0a.Kind 1)
   ((g_ref33_Minutes n a0a a1c a2s.From (wi (a2s.From+1))).bind fun r7 =>
   some (wi (a0a.Price * r7),0))
   (cond (eqI a0a.Kind 2)
    ((g_ref33_Energy n a0a a1c a2s).bind fun r8 =>
    (g_ref31_Times n a0a.Price r8 1000).bind fun r9 =>
    some (r9.1,r9.2))
    (cond (eqI a0a.Kind 3)
     ((g_ref33_Minutes n a0a a1c a2s.From a2s.To).bind fun r10 =>
     (g_ref31_Started n a0a.Price (maxI 0 (wi (r10 - a0a.Free))) a0a.Unit).bind fun r11 =>
     some (r11.1,r11.2))
     (cond (eqI a0a.Kind 4)
      ((g_ref33_Minutes n a0a a1c a2s.End a2s.To).bind fun r12 =>
      (g_ref31_Started n a0a.Price (maxI 0 (wi (r12 - a0a.Free))) a0a.Unit).bind fun r13 =>
      some (r13.1,r13.2))
      (some (0,0))))))
def g_ref31_Tax (n:Nat) (a0n:Int) (a1rate:Int):Option (Int × Int) :=
 ((g_ref31_amount n a0n).bind fun r2 =>
 cond (!r2)
  (some true)
  (cond (ltI a1rate 0)
   (some true)
   (some (ltI 100000 a1rate)))).bind fun j1 =>
 cond j1
  (some (0,1))
  ((g_ref31_divided n (wi (a0n * a1rate)) 10000).bind fun r5 =>
  (g_ref31_checked n r5).bind fun r6 =>
  some (r6.1,r6.2))
end Go.Proofs
namespace Go.Proofs
open Go Go.Abs Go.ChangeShapes Go.WideShapes Go.ChangeAt Go.RowKit Go.Proofs.YtgehgobiibddaaaGreat
set_option maxRecDepth 100000
set_option linter.unusedVariables false
structure GAr.wf (x:GAr):Prop where
 Kind:i64b x.Kind
 Days:i64b x.Days
 From:i64b x.From
 To:i64b x.To
 Price:i64b x.Price
 Unit:i64b x.Unit
 Free:i64b x.Free
theorem sh_GAr {d:Nat} {cs:List PV} (h:Sh Tryz.prog (d+2) 73 cs):∃ r:GAr,cs=GAr.cs r∧GAr.wf r:=by
 have h:=sh_struct Tryz.underlying73 h
 obtain ⟨_,_,rfl,h0,_,_,rfl,h1,_,_,rfl,h2,_,_,rfl,h3,_,_,rfl,h4,_,_,rfl,h5,_,_,rfl,h6,rfl⟩:=h
 obtain ⟨x0,rfl,w0⟩:=sh_i64 Tryz.underlying3 h0
 obtain ⟨x1,rfl,w1⟩:=sh_i64 Tryz.underlying3 h1
 obtain ⟨x2,rfl,w2⟩:=sh_i64 Tryz.underlying3 h2
 obtain ⟨x3,rfl,w3⟩:=sh_i64 Tryz.underlying3 h3
 obtain ⟨x4,rfl,w4⟩:=sh_i64 Tryz.underlying3 h4
 obtain ⟨x5,rfl,w5⟩:=sh_i64 Tryz.underlying3 h5
 obtain ⟨x6,rfl,w6⟩:=sh_i64 Tryz.underlying3 h6
 exact ⟨⟨x0,x1,x2,x3,x4,x5,x6⟩,rfl,⟨w0,w1,w2,w3,w4,w5,w6⟩⟩
structure GTf.wf (x:GTf):Prop where
 Name:strb x.Name
 Articles:(listb GAr.wf) x.Articles
theorem sh_GTf {d:Nat} {cs:List PV} (h:Sh Tryz.prog (d+4) 24 cs):∃ r:GTf,cs=GTf.cs r∧GTf.wf r:=by
 have h:=sh_struct Tryz.underlying24 h
 obtain ⟨_,_,rfl,h0,_,_,rfl,h1,rfl⟩:=h
 obtain ⟨x0,rfl,w0⟩:=sh_str Tryz.underlying9 h0
 obtain ⟨x1,rfl,w1⟩:=sh_list (S:=7) (f:=GAr.cs) (W:=GAr.wf) Tryz.underlying22 krf (fun c h=>sh_GAr h) h1
 exact ⟨⟨x0,x1⟩,rfl,⟨w0,w1⟩⟩
structure GCh.wf (x:GCh):Prop where
 At:i64b x.At
 Offset:i64b x.Offset
theorem sh_GCh {d:Nat} {cs:List PV} (h:Sh Tryz.prog (d+2) 76 cs):∃ r:GCh,cs=GCh.cs r∧GCh.wf r:=by
 have h:=sh_struct Tryz.underlying76 h
 obtain ⟨_,_,rfl,h0,_,_,rfl,h1,rfl⟩:=h
 obtain ⟨x0,rfl,w0⟩:=sh_i64 Tryz.underlying3 h0
 obtain ⟨x1,rfl,w1⟩:=sh_i64 Tryz.underlying3 h1
 exact ⟨⟨x0,x1⟩,rfl,⟨w0,w1⟩⟩
structure GCl.wf (x:GCl):Prop where
 Offset:i64b x.Offset
 Changes:(listb GCh.wf) x.Changes
 Holidays:(listb i64b) x.Holidays
theorem sh_GCl {d:Nat} {cs:List PV} (h:Sh Tryz.prog (d+4) 28 cs):∃ r:GCl,cs=GCl.cs r∧GCl.wf r:=by
 have h:=sh_struct Tryz.underlying28 h
 obtain ⟨_,_,rfl,h0,_,_,rfl,h1,_,_,rfl,h2,rfl⟩:=h
 obtain ⟨x0,rfl,w0⟩:=sh_i64 Tryz.underlying3 h0
 obtain ⟨x1,rfl,w1⟩:=sh_list (S:=2) (f:=GCh.cs) (W:=GCh.wf) Tryz.underlying25 krf (fun c h=>sh_GCh h) h1
 obtain ⟨x2,rfl,w2⟩:=sh_list (S:=1) (f:=ci) (W:=i64b) Tryz.underlying26 krf (fun c h=>sh_i64 Tryz.underlying3 h) h2
 exact ⟨⟨x0,x1,x2⟩,rfl,⟨w0,w1,w2⟩⟩
def wfA60 (x:Int × Int):Prop:=u8b x.1∧u8b x.2
theorem shA60 {d:Nat} {cs:List PV} (h:Sh Tryz.prog (d+2) 60 cs):∃ r:Int × Int,cs=enc_2_uint8 r∧wfA60 r:=by
 have h:=sh_array Tryz.underlying60 h
 obtain ⟨_,_,rfl,h0,_,_,rfl,h1,rfl⟩:=h
 obtain ⟨x0,rfl,w0⟩:=sh_u8 Tryz.underlying5 h0
 obtain ⟨x1,rfl,w1⟩:=sh_u8 Tryz.underlying5 h1
 exact ⟨(x0,x1),rfl,w0,w1⟩
def AuditorAcceptsPlain:Prop:=∀ (a0:GTf) (a1:GCl) (a2:Int) (a3:Int) (a4:List (Int × Int)),GTf.wf a0→GCl.wf a1→u64b a2→i64b a3→(listb wfA60) a4→∃ n,g_law43_AuditorAccepts n a0 a1 a2 a3 a4=some true
theorem auditorAccepts_call (h:AuditorAcceptsPlain):∀ xs,ArgsSh Tryz.prog 9 Tryz.f3.params.toList xs→PCall Tryz.prog 3 xs (.ret (.p (.val (.bool true)))):=by
 intro xs ha
 rw [Tryz.params3] at ha
 obtain ⟨_,_,rfl,h0,_,_,rfl,h1,_,_,rfl,h2,_,_,rfl,h3,_,_,rfl,h4,rfl⟩:=ha
 obtain ⟨a0,rfl,w0⟩:=sh_GTf h0
 obtain ⟨a1,rfl,w1⟩:=sh_GCl h1
 obtain ⟨a2,rfl,w2⟩:=sh_u64 Tryz.underlying29 h2
 obtain ⟨a3,rfl,w3⟩:=sh_i64 Tryz.underlying3 h3
 obtain ⟨a4,rfl,w4⟩:=sh_list (S:=2) (f:=enc_2_uint8) (W:=wfA60) Tryz.underlying30 krf (fun c h=>shA60 h) h4
 obtain ⟨n,hn⟩:=h a0 a1 a2 a3 a4 w0 w1 w2 w3 w4
 simp only [avOf_struct Tryz.underlying24,avOf_struct Tryz.underlying28,avOf_int Tryz.underlying29,avOf_int Tryz.underlying3,avOf_slice Tryz.underlying30]
 exact g_law43_AuditorAccepts_ok n a0 a1 a2 a3 a4 true hn
set_option maxRecDepth 100000 in
theorem auditorAccepts_lifted (h:AuditorAcceptsPlain) (os:Os) (started:os.Started) (H:Type) (enc:TypeId × Value→H) :
  ReturnsInHanded {} Tryz.checked os 3 .any (Rows.auditorAcceptsSpec.pre6 enc Tryz.prog Tryz.f3 Rows.auditorAcceptsRow.domain false) (Rows.auditorAcceptsSpec.post enc Tryz.prog Tryz.f3 false true false false):=by
 refine returnsInHanded_of_change (C:=Tryz.checked) krf started krf Tryz.func3
  (ChangeSpec.witness6 (enc:=enc) (C:=Tryz.checked) false ⟨#[],#[.agg #[.string ⟨#[]⟩, .slice none 0 0], .agg #[.int .i64 0, .slice none 0 0, .slice none 0 0], .int .u64 0, .int .i64 0, .slice none 0 0],[]⟩ 8 krf krf krf krf) ?_
 intro W base args ds gs before hval hW _ _
 exact law_contract (P:=Tryz.prog) (f:=3) (fn:=Tryz.f3) (s:=Rows.auditorAcceptsSpec) (tb:=4) (d:=9) krf krf krf krf Tryz.underlying4 rfl
  (fun ds hd=>by
   have hd:ds.length=5:=by rw [hd,show Tryz.f3.params.size=5 from by kernel_rfl]
   match ds,hd with
   | [d0,d1,d2,d3,d4],_=>rfl)
  (auditorAccepts_call h) hval hW
theorem auditorAccepts_said (h:AuditorAcceptsPlain):Rows.AuditorAcceptsSaid :=
 OpenClaim.holds_of_wide 3 Tryz.f3 rfl rfl rfl rfl rfl rfl rfl ⟨rfl,rfl,rfl,rfl,rfl⟩ rfl rfl rfl rfl rfl krf Tryz.func3 krf
  (of_decide_eq_true krf) (by unfold Func.isWrapper; first | (rw [if_pos (by decide +kernel)]; kernel_rfl) | (rw [if_neg (by decide +kernel)]; exact ⟨rfl,rfl⟩))
  (fun os started H enc _=>auditorAccepts_lifted h os started H enc)
end Go.Proofs
namespace Go.Proofs
open Go Go.Abs
set_option maxRecDepth 100000
set_option linter.unusedVariables false
def Does {α:Type} (m:Option α) (Q:α→Prop):Prop:=∃ r,m=some r∧Q r
section
variable {α β V R E:Type}
theorem does_some {x:α} {Q:α→Prop} (h:Q x):Does (some x) Q:=⟨x,rfl,h⟩
theorem does_mono {m:Option α} {Q Q':α→Prop} (h:Does m Q) (hq:∀ x,Q x→Q' x):Does m Q':=by obtain ⟨x,e,h⟩:=h; exact ⟨x,e,hq x h⟩
theorem does_cond {b:Bool} {x y:Option α} {Q:α→Prop} (h1:b=true→Does x Q) (h2:b=false→Does y Q):Does (cond b x y) Q:=by
 cases b
 ·exact h2 rfl
 ·exact h1 rfl
theorem does_loop {B:(V→Option R)→V→Option R} {Q:V→R→Prop} (μ:V→Nat) (Inv:V→Prop)
  (hB:∀ rec v,Inv v→(∀ v',Inv v'→μ v' < μ v→Does (rec v') (Q v'))→Does (B rec v) (Q v)):∀ {n:Nat} {v:V},Inv v→μ v < n→Does (loopN B n v) (Q v)
 | 0,_,_,h=>absurd h (Nat.not_lt_zero _)
 | n+1,v,hv,h=>hB _ v hv (fun v' h1 h2=>does_loop μ Inv hB h1 (by omega))
end
theorem getI_nat {α:Type} {l:List α} {i:Nat}:getI l (i:Int)=l[i]?:=by
 unfold getI; rw [if_neg (by omega)]; simp
theorem wi_id {x:Int} (h1:-9223372036854775808≤x) (h2:x≤9223372036854775807):wi x=x:=by
 simp [wi,IntKind.wrap,IntKind.signed,IntKind.bits]; omega
theorem a_inside (n:Nat) (x a b:Int):g_a_inside n x a b=some (decide (a≤x∧x≤b)):=by
 unfold g_a_inside leI
 by_cases h:a≤x <;> simp [h]
def needE (b:Bool) (p:Int):Except Int Unit:=if b then .ok () else .error p
theorem a_need (n:Nat) (b:Bool) (p:Int):g_a_need n b p=some (needE b p):=by
 cases b <;> rfl
def folB (a r:GReading):Bool:=if r.Serial=a.Serial then decide (a.Minute≤r.Minute∧a.Register≤r.Register) else decide (r.Minute=a.Minute)
theorem a_follows (n:Nat) (a r:GReading):g_a_follows n a r=some (folB a r):=by
 unfold g_a_follows folB leI eqI
 by_cases h:r.Serial=a.Serial
 ·by_cases h2:a.Minute≤r.Minute <;> simp [h,h2]
 ·simp only [h,if_false]
  rw [show (r.Serial == a.Serial)=false from by simp [h]]
  simp only [cond_false,sie]
  by_cases h2:r.Minute=a.Minute <;> simp [h2]
def mixB (s x k:Int):Int:=wu ((bXor .u64 s (bAnd .u64 (shrI .u64 (wu x) k) 255)) * 1099511628211)
def mixW (s x:Int):Int:=[56,48,40,32,24,16,8,0].foldl (fun s k=>mixB s x k) s
def linkF (s:Int) (r:GReading):Int:=[r.Serial,r.Number,r.Minute,r.Register].foldl mixW s
theorem a_link (n:Nat) (s:Int) (r:GReading):g_a_link (n+100) s r=some (linkF s r):=by kernel_rfl
theorem exc_need {R:Type} {k:Unit→Option R} {e:Int→Option R} {b:Bool} {p:Int}:exc k e (needE b p)=cond b (k ()) (e p):=by cases b <;> rfl
def prevLink (seed:Int) (l:List GReading) (i:Nat):Int:=if i=0 then seed else ((l[i - 1]?).map (·.Link)).getD 0
def chainAt (seed:Int) (l:List GReading) (i:Nat):Prop:=∀ r ∈ l[i]?,(1≤r.Serial∧r.Serial≤1000000)∧r.Number=i+1∧(0≤r.Minute∧r.Minute≤52560000)∧(0≤r.Register∧r.Register≤1000000000) ∧
 (i ≠ 0→∀ a ∈ l[i - 1]?,folB a r=true)∧r.Link=linkF (prevLink seed l i) r
def chainOk (seed:Int) (l:List GReading):Prop:=(1≤l.length∧l.length≤64)∧∀ i,i < l.length→chainAt seed l i
open Classical in
noncomputable def okE (p:Prop) (e:Int):Except Int Unit:=needE (decide p) e
open Classical in
theorem okE_t {p:Prop} {e:Int} (h:p):okE p e=.ok ():=by unfold okE; rw [dzT h]; rfl
open Classical in
theorem okE_f {p:Prop} {e:Int} (h:¬ p):okE p e=.error e:=by unfold okE; rw [dzF h]; rfl
theorem a_chained (n:Nat) (e:GAE) (hn:1000≤n):g_ae_chained n e=some (okE (chainOk e.Claim.Seed e.Claim.Readings) 1):=by
 unfold g_ae_chained
 rw [a_inside,obs,a_need,obs,exc_need]
 generalize hl:e.Claim.Readings=l
 simp only [lenI,List.length_map]
 by_cases hb:(1:Int)≤l.length∧(l.length:Int)≤64
 rotate_left
 ·rw [dzF hb,cond_false,okE_f]
  intro h; exact hb ⟨by have:=h.1.1; omega,by have:=h.1.2; omega⟩
 rw [dzT hb,cond_true]
 obtain ⟨m,rfl⟩:∃ m,n=m+100:=⟨n - 100,by omega⟩
 have key:=does_loop (B:=fun recl4 (v:Int × Int)=>g_ae_chained_l4 (m+100) e recl4 v.1 v.2) (Q:=fun v r=>r=okE (∀ j:Nat,v.2≤j→j < l.length→chainAt e.Claim.Seed l j) 1)
  (fun v=>l.length - v.2.toNat) (fun v=>∃ i:Nat,v.2=i∧i≤l.length∧v.1=prevLink e.Claim.Seed l i) ?_ (n:=m+100) (v:=(e.Claim.Seed,0)) ⟨0,rfl,by omega,rfl⟩ (by simp; omega)
 ·obtain ⟨r,h1,h2⟩:=key
  refine h1.trans ?_
  rw [h2]
  congr 1
  by_cases hc:chainOk e.Claim.Seed l
  ·rw [okE_t hc,okE_t]
   intro j _ hj; exact hc.2 j hj
  ·rw [okE_f hc,okE_f]
   intro h; exact hc ⟨by omega,fun i hi=>h i (by simp) hi⟩
 ·rintro rec ⟨s,i'⟩ ⟨i,rfl,hi,hs⟩ hrec
  simp only at hs hrec
  subst hs
  unfold g_ae_chained_l4
  simp only [lenI,List.length_map,hl,getI_nat]
  refine does_cond (fun hlt=>?_) (fun hlt=>?_)
  rotate_left
  ·refine does_some ?_
   rw [okE_t]
   intro j h1 h2
   simp [ltI] at hlt
   omega
  ·simp only [ltI,decide_eq_true_eq] at hlt
   have hlt':i < l.length:=by omega
   obtain ⟨x,hx⟩:∃ x,l[i]?=some x:=⟨l[i],by simp [hlt']⟩
   have hw:wi ((i:Int)+1)=((i+1:Nat):Int):=by rw [wi_id] <;> omega
   have bad:¬ chainAt e.Claim.Seed l i→Does (some (.error 1:Except Int Unit)) (fun r=>r=okE (∀ j:Nat,(i:Int)≤j→j < l.length→chainAt e.Claim.Seed l j) 1):=by
    intro h
    refine does_some ?_
    rw [okE_f]
    intro h2; exact h (h2 i (by omega) hlt')
   have good:chainAt e.Claim.Seed l i→Does (rec (x.Link,((i+1:Nat):Int))) (fun r=>r=okE (∀ j:Nat,(i:Int)≤j→j < l.length→chainAt e.Claim.Seed l j) 1):=by
    intro h
    refine does_mono (hrec (x.Link,((i+1:Nat):Int)) ⟨i+1,rfl,by omega,by simp [prevLink,hx]⟩ (by simp; omega)) ?_
    intro r hr
    rw [hr]
    by_cases hc:∀ j:Nat,((i+1:Nat):Int)≤j→j < l.length→chainAt e.Claim.Seed l j
    ·rw [okE_t hc,okE_t]
     intro j h1 h2
     by_cases hj:j=i
     ·subst hj; exact h
     ·exact hc j (by omega) h2
    ·rw [okE_f hc,okE_f]
     intro h2; exact hc (fun j h3 h4=>h2 j (by omega) h4)
   simp only [hx,obs,a_inside,a_need,exc_need,hw,g_ae_chained_j6,g_ae_chained_j7,g_ae_chained_j8,a_link,hl,cond_false,cond_true]
   have hprev:maxI 0 (wi ((i:Int) - 1))=((i - 1:Nat):Int):=by rw [wi_id (by omega) (by omega)]; unfold maxI; split <;> omega
   simp only [hprev,getI_nat,a_follows]
   have chain:chainAt e.Claim.Seed l i↔(1≤x.Serial∧x.Serial≤1000000)∧x.Number=i+1∧(0≤x.Minute∧x.Minute≤52560000)∧(0≤x.Register∧x.Register≤1000000000) ∧
     (i ≠ 0→∀ a ∈ l[i - 1]?,folB a x=true)∧x.Link=linkF (prevLink e.Claim.Seed l i) x:=by
    constructor
    ·intro h; exact h x hx
    ·intro h r hr; rw [hx] at hr; cases hr; exact h
   refine does_cond (fun h1=>?_) (fun h1=>bad ?_)
   rotate_left
   ·rw [chain]; intro h; simp at h1; have:=h.1; omega
   refine does_cond (fun h2=>?_) (fun h2=>bad ?_)
   rotate_left
   ·rw [chain]; intro h; simp [eqI] at h2; exact h2 (by rw [h.2.1])
   refine does_cond (fun h3=>?_) (fun h3=>bad ?_)
   rotate_left
   ·rw [chain]; intro h; simp at h3; have:=h.2.2.1; omega
   refine does_cond (fun h4=>?_) (fun h4=>bad ?_)
   rotate_left
   ·rw [chain]; intro h; simp at h4; have:=h.2.2.2.1; omega
   simp only [decide_eq_true_eq,eqI,beq_iff_eq] at h1 h2 h3 h4
   have last:(i ≠ 0→∀ a ∈ l[i - 1]?,folB a x=true)→Does (cond (eqI x.Link (linkF (prevLink e.Claim.Seed l i) x)) (rec (x.Link,((i+1:Nat):Int))) (some (.error 1))) (fun r=>r=okE (∀ j:Nat,(i:Int)≤j→j < l.length→chainAt e.Claim.Seed l j) 1):=by
    intro hf
    refine does_cond (fun h5=>good ?_) (fun h5=>bad ?_)
    ·rw [chain]; exact ⟨h1,by rw [h2]; simp,h3,h4,hf,by simpa [eqI] using h5⟩
    ·rw [chain]; intro h; simp [eqI] at h5; exact h5 h.2.2.2.2.2
   refine does_cond (fun h6=>?_) (fun h6=>?_)
   ·refine last (fun h0=>?_)
    simp [eqI] at h6
    omega
   ·have h0:i ≠ 0:=by intro h; subst h; simp [eqI] at h6
    obtain ⟨a,ha⟩:∃ a,l[i - 1]?=some a:=⟨l[i - 1]'(by omega),by rw [List.getElem?_eq_getElem]⟩
    simp only [ha,obs]
    refine does_cond (fun h7=>last (fun _ a' ha'=>?_)) (fun h7=>bad ?_)
    ·rw [ha] at ha'; cases ha'; exact h7
    ·rw [chain]; intro h
     have:=h.2.2.2.2.1 h0 a ha
     rw [h7] at this; cases this
end Go.Proofs
namespace Go.Proofs
open Go Go.Abs
set_option maxRecDepth 100000
set_option linter.unusedVariables false
theorem eqI_d (x y:Int):eqI x y=decide (x=y):=by unfold eqI; by_cases h:x=y <;> simp [h]
theorem cond_some {α:Type} {b:Bool} {x y:α}:cond b (some x) (some y)=some (cond b x y):=by cases b <;> rfl
def keyB (w:List UInt8):Bool:=(g_a_isKey 0 w).getD false
theorem a_isKey (n:Nat) (w:List UInt8):g_a_isKey n w=some (keyB w):=by
 unfold keyB g_a_isKey
 simp only [cond_some,obs,Option.getD_some]
def artB (a:GAr):Bool:=(g_a_validArticle 0 a).getD false
theorem a_validArticle (n:Nat) (a:GAr):g_a_validArticle n a=some (artB a):=by
 unfold artB g_a_validArticle
 simp only [a_inside,cond_some,obs,Option.getD_some]
def chrB (x:UInt8):Bool:=decide ((97≤b2i x∧b2i x≤122)∨(48≤b2i x∧b2i x≤57)∨b2i x=95)
def nameB (s:List UInt8):Bool:=decide (1≤s.length∧s.length≤12)&&decide (∀ x ∈ s.head?,97≤b2i x∧b2i x≤122)&&!keyB s&&s.all chrB
theorem loop_list {α R:Type} {l:List α} {B:(Int→Option R)→Int→Option R} {F:List α→R} (hlen:l.length≤4611686018427387904)
  (hend:∀ rec,B rec (l.length:Int)=some (F []))
  (hstep:∀ (rec:Int→Option R) (i:Nat) (x:α) (r:List α),l.drop i=x :: r→l[i]?=some x→i < l.length→wi ((i:Int)+1)=((i+1:Nat):Int)→(rec ((i+1:Nat):Int)=some (F r))→B rec (i:Int)=some (F (x :: r))) :
  ∀ {n:Nat} (i:Nat),i≤l.length→l.length - i < n→loopN B n (i:Int)=some (F (l.drop i))
 | 0,_,_,h=>absurd h (Nat.not_lt_zero _)
 | n+1,i,hi,h=>by
  unfold loopN
  by_cases he:i=l.length
  ·subst he; rw [hend]; simp
  ·have hlt:i < l.length:=by omega
   have hd:l.drop i=l[i] :: l.drop (i+1):=by rw [List.drop_eq_getElem_cons hlt]
   rw [hd]
   exact hstep _ i _ _ hd (by simp [hlt]) hlt (by rw [wi_id] <;> omega) (loop_list hlen hend hstep (i+1) (by omega) (by omega))
theorem chr_lem (c:Int):(bif decide (97≤c) then bif decide (c≤122) then false else bif decide (48≤c) then bif decide (c≤57) then false else !(c == 95) else !(c == 95)
  else bif decide (48≤c) then bif decide (c≤57) then false else !(c == 95) else !(c == 95))=!decide ((97≤c∧c≤122)∨(48≤c∧c≤57)∨c=95):=by
 by_cases h1:97≤c <;> by_cases h2:c≤122 <;> by_cases h3:48≤c <;> by_cases h4:c≤57 <;> by_cases h5:c=95 <;> simp [h1,h2,h3,h4,h5] <;> omega
theorem a_isName (n:Nat) (s:List UInt8) (hn:1000≤n):g_a_isName n s=some (nameB s):=by
 unfold g_a_isName nameB
 simp only [a_inside,a_isKey,obs,lenI]
 by_cases hl:(1:Int)≤s.length∧(s.length:Int)≤12
 rotate_left
 ·rw [dzF hl]
  have:¬ (1≤s.length∧s.length≤12):=by omega
  simp [this]
 ·rw [dzT hl]
  have:1≤s.length∧s.length≤12:=by omega
  have hloop:loopN (fun recl9 l9=>g_a_isName_l9 s recl9 l9) n 0=some (s.all chrB):=by
   have:=loop_list (l:=s) (B:=fun recl9 l9=>g_a_isName_l9 s recl9 l9) (F:=fun r=>r.all chrB) (by omega) ?_ ?_ (n:=n) 0 (by omega) (by omega)
   ·simpa using this
   ·intro rec; simp [g_a_isName_l9,ltI,lenI]
   ·intro rec i x r hd hx hi hw hr
    unfold g_a_isName_l9
    simp only [lenI,getI_nat,hx,obs,hw,hr,ltI,leI,eqI,cond_some]
    rw [dzT (by omega),cond_true,List.all_cons]
    rw [chr_lem,chrB]
    cases decide ((97≤b2i x∧b2i x≤122)∨(48≤b2i x∧b2i x≤57)∨b2i x=95) <;> simp
  rw [hloop]
  match s,this with
  | x :: r,hh =>
   have hh2:r.length≤11:=by simpa using hh.2
   have h0:getI (x :: r) 0=some x:=rfl
   simp only [h0,obs,ltI,cond_some,Bool.not_true,cond_false]
   simp only [List.length_cons]
   rw [dzT (show 1≤r.length+1∧r.length+1≤12 from by omega)]
   simp only [List.head?_cons,Option.mem_def,sie,forall_eq',Bool.true_and]
   by_cases h1:b2i x < 97
   ·simp [h1]; omega
   ·by_cases h2:122 < b2i x
    ·simp [h1,h2]; omega
    ·have:97≤b2i x∧b2i x≤122:=by omega
     simp [h1,h2,this]
theorem loop_acc {α R A:Type} {l:List α} {B:(A × Int→Option R)→A × Int→Option R} {F:A→List α→R} (hlen:l.length≤4611686018427387904)
  (hend:∀ rec a,B rec (a,(l.length:Int))=some (F a []))
  (hstep:∀ (rec:A × Int→Option R) (a:A) (i:Nat) (x:α) (r:List α),l.drop i=x :: r→l[i]?=some x→i < l.length→wi ((i:Int)+1)=((i+1:Nat):Int)→(∀ a,rec (a,((i+1:Nat):Int))=some (F a r))→B rec (a,(i:Int))=some (F a (x :: r))) :
  ∀ {n:Nat} (i:Nat) (a:A),i≤l.length→l.length - i < n→loopN B n (a,(i:Int))=some (F a (l.drop i))
 | 0,_,_,_,h=>absurd h (Nat.not_lt_zero _)
 | n+1,i,a,hi,h=>by
  unfold loopN
  by_cases he:i=l.length
  ·subst he; rw [hend]; simp
  ·have hlt:i < l.length:=by omega
   have hd:l.drop i=l[i] :: l.drop (i+1):=by rw [List.drop_eq_getElem_cons hlt]
   rw [hd]
   exact hstep _ a i _ _ hd (by simp [hlt]) hlt (by rw [wi_id] <;> omega) (fun a=>loop_acc hlen hend hstep (i+1) a (by omega) (by omega))
def holB:Int→List Int→Bool
 | _,[]=>true
 | a,x :: r=>decide (a < x∧x≤36500)&&holB x r
def chgB:Int→List GCh→Bool
 | _,[]=>true
 | a,x :: r=>decide (a < x.At∧x.At≤52560000∧-1440≤x.Offset∧x.Offset≤1440)&&chgB x.At r
def calB (c:GCl):Bool:=decide (-1440≤c.Offset∧c.Offset≤1440)&&decide (c.Changes.length≤16)&&decide (c.Holidays.length≤32)&&chgB (-1) c.Changes&&holB (-1) c.Holidays
theorem a_dated5 (n:Nat) (e:GAE) (hn:1000≤n) (hl:e.Claim.Calendar.Holidays.length≤32):g_ae_dated_j5 n e=some (needE (holB (-1) e.Claim.Calendar.Holidays) 2):=by
 unfold g_ae_dated_j5
 have:=loop_acc (l:=e.Claim.Calendar.Holidays) (B:=fun recl6 (v:Int × Int)=>g_ae_dated_l6 n e recl6 v.1 v.2) (F:=fun a r=>needE (holB a r) 2) (by omega) ?_ ?_ (n:=n) 0 (-1) (by omega) (by omega)
 ·simpa using this
 ·intro rec a; simp [g_ae_dated_l6,ltI,lenI,holB,needE]
 ·intro rec a i x r hd hx hi hw hr
  simp only [g_ae_dated_l6,lenI,List.length_map,getI_nat,hx,obs,hw,hr,a_need,exc_need,ltI,leI]
  rw [dzT (by omega),cond_true,holB]
  by_cases h1:a < x <;> by_cases h2:x≤36500 <;> simp [h1,h2,needE]
theorem a_dated4 (n:Nat) (e:GAE) (hn:1000≤n) (hl:e.Claim.Calendar.Holidays.length≤32) (hl2:e.Claim.Calendar.Changes.length≤16):g_ae_dated_j4 n e=some (needE (chgB (-1) e.Claim.Calendar.Changes&&holB (-1) e.Claim.Calendar.Holidays) 2):=by
 unfold g_ae_dated_j4
 have:=loop_acc (l:=e.Claim.Calendar.Changes) (B:=fun recl6 (v:Int × Int)=>g_ae_dated_l13 n e recl6 v.1 v.2) (F:=fun a r=>needE (chgB a r&&holB (-1) e.Claim.Calendar.Holidays) 2) (by omega) ?_ ?_ (n:=n) 0 (-1) (by omega) (by omega)
 ·simpa using this
 ·intro rec a; simp [g_ae_dated_l13,ltI,lenI,chgB,a_dated5 n e hn hl]
 ·intro rec a i x r hd hx hi hw hr
  simp only [g_ae_dated_l13,lenI,List.length_map,getI_nat,hx,obs,hw,hr,a_need,a_inside,exc_need,ltI,leI]
  rw [dzT (by omega),cond_true,chgB]
  by_cases h1:a < x.At <;> by_cases h2:x.At≤52560000 <;> by_cases h3:-1440≤x.Offset∧x.Offset≤1440 <;> simp [h1,h2,h3,needE]
theorem a_dated (n:Nat) (e:GAE) (hn:1000≤n):g_ae_dated n e=some (needE (calB e.Claim.Calendar) 2):=by
 unfold g_ae_dated calB
 simp only [a_inside,a_need,exc_need,obs,lenI,List.length_map,leI]
 by_cases h1:-1440≤e.Claim.Calendar.Offset∧e.Claim.Calendar.Offset≤1440
 ·by_cases h2:e.Claim.Calendar.Changes.length≤16
  ·by_cases h3:e.Claim.Calendar.Holidays.length≤32
   ·rw [a_dated4 n e hn h3 h2]
    have h2':(e.Claim.Calendar.Changes.length:Int)≤16:=by omega
    have h3':(e.Claim.Calendar.Holidays.length:Int)≤32:=by omega
    simp [h1,h2,h3,h2',h3']
   ·have h2':(e.Claim.Calendar.Changes.length:Int)≤16:=by omega
    have h3':¬ (e.Claim.Calendar.Holidays.length:Int)≤32:=by omega
    simp [h1,h2,h3,h2',h3',needE]
  ·have h2':¬ (e.Claim.Calendar.Changes.length:Int)≤16:=by omega
   simp [h1,h2,h2',needE]
 ·simp [h1,needE]
theorem loop_gen {α R A V:Type} {l:List α} (S:A→Int→V) {B:(V→Option R)→V→Option R} {F:A→List α→R} (Inv:Nat→A→Prop) (hlen:l.length≤4611686018427387904)
  (hend:∀ rec a,Inv l.length a→B rec (S a (l.length:Int))=some (F a []))
  (hstep:∀ (rec:V→Option R) (a:A) (i:Nat) (x:α) (r:List α),Inv i a→l.drop i=x :: r→l[i]?=some x→i < l.length→wi ((i:Int)+1)=((i+1:Nat):Int)→(∀ a,Inv (i+1) a→rec (S a ((i+1:Nat):Int))=some (F a r))→B rec (S a (i:Int))=some (F a (x :: r))) :
  ∀ {n:Nat} (i:Nat) (a:A),Inv i a→i≤l.length→l.length - i < n→loopN B n (S a (i:Int))=some (F a (l.drop i))
 | 0,_,_,_,_,h=>absurd h (Nat.not_lt_zero _)
 | n+1,i,a,ha,hi,h=>by
  unfold loopN
  by_cases he:i=l.length
  ·subst he; rw [hend _ _ ha]; simp
  ·have hlt:i < l.length:=by omega
   have hd:l.drop i=l[i] :: l.drop (i+1):=by rw [List.drop_eq_getElem_cons hlt]
   rw [hd]
   exact hstep _ a i _ _ ha hd (by simp [hlt]) hlt (by rw [wi_id] <;> omega) (fun a ha=>loop_gen S Inv hlen hend hstep (i+1) a ha (by omega) (by omega))
def tarB:Int→List GAr→Bool
 | k,[]=>decide (k≤1)
 | k,a :: r=>artB a&&tarB (if a.Kind=6 then k+1 else k) r
def rateF:Int→List GAr→Int
 | z,[]=>z
 | z,a :: r=>rateF (if a.Kind=6 then a.Price else z) r
def tariffB (t:GTf):Bool:=nameB t.Name&&decide (t.Articles.length≤12)&&tarB 0 t.Articles
def tarM (e:GAE) (z:Int):GAE:=⟨e.Claim,⟨e.follows.From,e.follows.To,e.follows.End,[]⟩,⟨[],e.bill.Net,e.bill.Tax,e.bill.Total⟩,z⟩
def tarF (e:GAE):Int × Int→List GAr→Except (Int × GAE) GAE
 | (k,z),[]=>if k≤1 then .ok (tarM e z) else .error (2,tarM e z)
 | (k,z),a :: r=>if artB a then tarF e (if a.Kind=6 then (k+1,a.Price) else (k,z)) r else .error (2,tarM e z)
theorem tarF_eq (e:GAE):∀ (l:List GAr) (k z:Int),∃ e',tarF e (k,z) l=if tarB k l then .ok (tarM e (rateF z l)) else .error (2,e')
 | [],k,z=>⟨tarM e z,by simp [tarF,tarB,rateF]⟩
 | a :: r,k,z=>by
  cases h:artB a
  ·exact ⟨tarM e z,by simp [tarF,tarB,h]⟩
  ·by_cases h6:a.Kind=6
   ·obtain ⟨e',he⟩:=tarF_eq e r (k+1) a.Price
    exact ⟨e',by simp [tarF,tarB,rateF,h,h6,he]⟩
   ·obtain ⟨e',he⟩:=tarF_eq e r k z
    exact ⟨e',by simp [tarF,tarB,rateF,h,h6,he]⟩
theorem a_tariffed1 (n:Nat) (e:GAE) (hn:1000≤n) (hl:e.Claim.Tariff.Articles.length≤12):g_ae_tariffed_j1 n e=some (tarF e (0,e.rate) e.Claim.Tariff.Articles):=by
 unfold g_ae_tariffed_j1
 have:=loop_gen (l:=e.Claim.Tariff.Articles) (fun (a:Int × Int) i=>(a.1,i,a.2)) (B:=fun recl5 (v:Int × Int × Int)=>g_ae_tariffed_l5 n e recl5 v.1 v.2.1 v.2.2) (F:=tarF e) (fun i a=>0≤a.1∧a.1≤i) (by omega) ?_ ?_ (n:=n) 0 (0,e.rate) (by simp) (by omega) (by omega)
 ·simpa using this
 ·rintro rec ⟨k,z⟩ hk
  simp only [g_ae_tariffed_l5,lenI,List.length_map,ltI,g_ae_tariffed_j2,a_need,exc_need,obs,leI]
  rw [dzF (by omega),cond_false]
  by_cases h:k≤1 <;> simp [h,tarF,tarM]
 ·rintro rec ⟨k,z⟩ i x r hk hd hx hi hw hr
  simp only [g_ae_tariffed_l5,lenI,List.length_map,ltI,getI_nat,hx,obs,a_validArticle,a_need,exc_need,hw,eqI_d]
  rw [dzT (by omega),cond_true]
  simp only at hk
  have hk1:wi (k+1)=k+1:=by rw [wi_id] <;> omega
  cases ha:artB x
  ·simp [tarF,ha,tarM]
  ·rw [cond_true,hk1]
   by_cases h6:x.Kind=6
   ·have:=hr (k+1,x.Price) (by simp; omega)
    simp only at this
    rw [this]; simp [h6,tarF,ha]
   ·have:=hr (k,z) (by simp; omega)
    simp only at this
    rw [this]; simp [h6,tarF,ha]
theorem a_tariffed (n:Nat) (e:GAE) (hn:1000≤n):∃ e',g_ae_tariffed n e=some (if tariffB e.Claim.Tariff then .ok (tarM e (rateF e.rate e.Claim.Tariff.Articles)) else .error (2,e')):=by
 unfold g_ae_tariffed tariffB
 simp only [a_isName n _ hn,a_need,exc_need,obs,lenI,List.length_map,leI]
 cases h1:nameB e.Claim.Tariff.Name
 ·exact ⟨tarM e e.rate,by simp [tarM]⟩
 ·by_cases h2:e.Claim.Tariff.Articles.length≤12
  ·rw [a_tariffed1 n e hn h2]
   obtain ⟨e',he⟩:=tarF_eq e e.Claim.Tariff.Articles 0 e.rate
   have h2':(e.Claim.Tariff.Articles.length:Int)≤12:=by omega
   exact ⟨e',by simp [h2,h2',he]⟩
  ·have h2':¬ (e.Claim.Tariff.Articles.length:Int)≤12:=by omega
   exact ⟨tarM e e.rate,by simp [h2,h2',tarM]⟩
end Go.Proofs
namespace Go.Proofs
open Go Go.Abs
set_option maxRecDepth 100000
set_option linter.unusedVariables false
def addS (m d e:Int) (sl:List GSl):Int × List GSl:=(wi (m+1),sl++[⟨m,d⟩])
def derS (m0:Int) (p x:GReading) (e:Int) (sl:List GSl):Int × List GSl :=
 if x.Serial=p.Serial∧m0 < x.Minute then
  if wi (x.Register - p.Register)=0 then (e,sl)
  else match sl.getLast? with
   | some q=>if q.Minute=wi (x.Minute - 1) then (e,sl.set (sl.length - 1) ⟨q.Minute,wi (q.Energy+wi (x.Register - p.Register))⟩) else addS (wi (x.Minute - 1)) (wi (x.Register - p.Register)) e sl
   | none=>addS (wi (x.Minute - 1)) (wi (x.Register - p.Register)) e sl
 else (e,sl)
def derF (m0:Int):GReading→Int→List GSl→List GReading→Int × List GSl
 | _,e,sl,[]=>(e,sl)
 | p,e,sl,x :: r=>derF m0 x (derS m0 p x e sl).1 (derS m0 p x e sl).2 r
theorem getI_last {α:Type} {l:List α} (h:0 < l.length) (h2:l.length≤1000000):getI l (wi ((l.length:Int) - 1))=l.getLast?:=by
 rw [wi_id (by omega) (by omega),show ((l.length:Int) - 1)=((l.length - 1:Nat):Int) from by omega,getI_nat,List.getLast?_eq_getElem?]
theorem a_derive4 (n:Nat) (e:GAE) (x1:GReading) (hn:1000≤n) (hl:e.Claim.Readings.length≤64) {r:List GReading} (he:e.Claim.Readings=x1 :: r) :
  loopN (fun recl4 (v:Int × Int × (OL GSl))=>g_ae_derive_l4 e x1 recl4 v.1 v.2.1 v.2.2) n (1,x1.Minute,OL.nil)=some ((e.Claim.Readings.length:Int),derF x1.Minute x1 x1.Minute [] r):=by
 have:=loop_gen (l:=e.Claim.Readings) (fun (a:GReading × Int × OL GSl) i=>(i,a.2.1,a.2.2)) (B:=fun recl4 (v:Int × Int × (OL GSl))=>g_ae_derive_l4 e x1 recl4 v.1 v.2.1 v.2.2)
  (F:=fun a r=>((e.Claim.Readings.length:Int),derF x1.Minute a.1 a.2.1 a.2.2.toL r)) (fun i a=>1≤i∧e.Claim.Readings[i - 1]?=some a.1∧a.2.2.toL.length≤i) (by omega) ?_ ?_ (n:=n) 1 (x1,x1.Minute,OL.nil) (by simp [he]) (by simp [he]) (by omega)
 ·simpa [he] using this
 ·rintro rec ⟨p,en,ol⟩ ⟨h1,h2,h3⟩
  simp only [g_ae_derive_l4,lenI,List.length_map,ltI]
  rw [dzF (by omega),cond_false]
  simp [derF]
 ·rintro rec ⟨p,en,ol⟩ i x r' ⟨h1,h2,h3⟩ hd hx hi hw hr
  simp only at h2 h3 hr
  have hp:wi ((i:Int) - 1)=((i - 1:Nat):Int):=by rw [wi_id] <;> omega
  have hr':∀ (en:Int) (ol:OL GSl),ol.toL.length≤i+1→rec (((i+1:Nat):Int),en,ol)=some ((e.Claim.Readings.length:Int),derF x1.Minute x en ol.toL r'):=fun en ol ho=>hr (x,en,ol) ⟨by omega,by simpa using hx,ho⟩
  simp only [g_ae_derive_l4,lenI,List.length_map,ltI,hp,getI_nat,h2,hx,hw,obs,eqI_d,derF,cond_some]
  rw [dzT (by omega),cond_true]
  by_cases c1:x.Serial=p.Serial∧x1.Minute < x.Minute
  rotate_left
  ·have:(bif decide (x.Serial=p.Serial) then decide (x1.Minute < x.Minute) else false)=false:=by
    by_cases a:x.Serial=p.Serial <;> by_cases b:x1.Minute < x.Minute <;> simp [a,b]
    exact c1 ⟨a,b⟩
   rw [this,cond_false,hr' en ol (by omega)]
   simp only [derS,if_neg c1]
  ·have:(bif decide (x.Serial=p.Serial) then decide (x1.Minute < x.Minute) else false)=true:=by simp [c1.1,c1.2]
   rw [this,cond_true]
   simp only [derS,if_pos c1]
   by_cases c2:wi (x.Register - p.Register)=0
   ·simp only [c2,decide_true,cond_true,if_true]
    exact hr' en ol (by omega)
   ·simp only [c2,decide_false,cond_false,if_false]
    have hroom:∀ m d,roomB (List.length (ol.toL++[(⟨m,d⟩:GSl)])) 16=true:=by
     intro m d; simp [roomB]; omega
    have happ:(bif roomB (List.length (ol.toL++[(⟨wi (x.Minute - 1),wi (x.Register - p.Register)⟩:GSl)])) 16 then rec (((i+1:Nat):Int),wi (wi (x.Minute - 1)+1),OL.own (ol.toL++[⟨wi (x.Minute - 1),wi (x.Register - p.Register)⟩])) else none) =
      some ((e.Claim.Readings.length:Int),derF x1.Minute x (addS (wi (x.Minute - 1)) (wi (x.Register - p.Register)) en ol.toL).1 (addS (wi (x.Minute - 1)) (wi (x.Register - p.Register)) en ol.toL).2 r'):=by
     rw [hroom,cond_true,hr' _ _ (by simp; omega)]
     rfl
    by_cases c3:ol.toL=[]
    ·rw [happ]; simp [c3,addS]
    ·have hpos:0 < ol.toL.length:=List.length_pos_iff.2 c3
     obtain ⟨q,hq⟩:∃ q,ol.toL.getLast?=some q:=⟨_,List.getLast?_eq_some_getLast c3⟩
     simp only [getI_last hpos (by omega),hq,obs]
     rw [dzT (show (0:Int) < ol.toL.length from by omega),cond_true,obs]
     by_cases c4:q.Minute=wi (x.Minute - 1)
     ·simp only [c4,decide_true,cond_true,if_true]
      rw [hr' _ _ (by simp; omega)]
      rw [wi_id (x:=(ol.toL.length:Int) - 1) (by omega) (by omega),show ((ol.toL.length:Int) - 1).toNat=ol.toL.length - 1 from by omega]
      rfl
     ·simp only [c4,decide_false,cond_false,if_false]
      exact happ
def sesF:List GReading→GSs
 | []=>⟨0,0,0,[]⟩
 | x :: r=>⟨x.Minute,((x :: r).getLast (by simp)).Minute,(derF x.Minute x x.Minute [] r).1,(derF x.Minute x x.Minute [] r).2⟩
def sesB (s:GSs):Bool:=decide (s.From < s.To)&&decide (wi (s.To - s.From)≤2880)&&decide (s.Slices.length≤48)&&s.Slices.all (fun x=>decide (x.Energy≤10000))
theorem a_derive14 (n:Nat) (e:GAE) (x1 x2:GReading) (en:Int) (sl:List GSl) (hn:1000≤n) (hl:sl.length≤48) :
  ∃ e',g_ae_derive_j14 n e x1 x2 en sl=some (if sl.all (fun x=>decide (x.Energy≤10000)) then .ok ⟨e.Claim,⟨x1.Minute,x2.Minute,en,sl⟩,⟨[],e.bill.Net,e.bill.Tax,e.bill.Total⟩,e.rate⟩ else .error (3,e')):=by
 refine ⟨⟨e.Claim,⟨e.follows.From,e.follows.To,e.follows.End,[]⟩,⟨[],e.bill.Net,e.bill.Tax,e.bill.Total⟩,e.rate⟩,?_⟩
 unfold g_ae_derive_j14
 have:=loop_list (l:=sl) (B:=fun recl15 l15=>g_ae_derive_l15 n e x1 x2 en sl recl15 l15)
  (F:=fun r=>if r.all (fun x=>decide (x.Energy≤10000)) then .ok ⟨e.Claim,⟨x1.Minute,x2.Minute,en,sl⟩,⟨[],e.bill.Net,e.bill.Tax,e.bill.Total⟩,e.rate⟩ else .error (3,⟨e.Claim,⟨e.follows.From,e.follows.To,e.follows.End,[]⟩,⟨[],e.bill.Net,e.bill.Tax,e.bill.Total⟩,e.rate⟩))
  (by omega) ?_ ?_ (n:=n) 0 (by omega) (by omega)
 ·simpa using this
 ·intro rec
  simp only [g_ae_derive_l15,lenI,List.length_map,ltI]
  rw [dzF (by omega),cond_false]
  simp
 ·intro rec i x r hd hx hi hw hr
  simp only [g_ae_derive_l15,lenI,List.length_map,ltI,getI_nat,hx,obs,a_need,exc_need,hw,hr,leI,List.all_cons]
  rw [dzT (by omega),cond_true]
  by_cases h:x.Energy≤10000 <;> simp [h]
theorem a_derive (n:Nat) (e:GAE) (hn:1000≤n) (hne:e.Claim.Readings ≠ []) (hl:e.Claim.Readings.length≤64) :
  ∃ e',g_ae_derive n e=some (if sesB (sesF e.Claim.Readings) then .ok ⟨e.Claim,sesF e.Claim.Readings,⟨[],e.bill.Net,e.bill.Tax,e.bill.Total⟩,e.rate⟩ else .error (3,e')):=by
 obtain ⟨x1,r,he⟩:=List.exists_cons_of_ne_nil hne
 unfold g_ae_derive
 have hpos:0 < e.Claim.Readings.length:=List.length_pos_iff.2 hne
 have hx2:e.Claim.Readings.getLast?=some (e.Claim.Readings.getLast hne):=List.getLast?_eq_some_getLast hne
 have h0:getI e.Claim.Readings 0=some x1:=by rw [he]; rfl
 have h4:=a_derive4 n e x1 hn hl he
 simp only [lenI,List.length_map,h0,obs,getI_last hpos (by omega),hx2]
 have hmatch:∀ (k:Int × Int × List GSl→Option (Except (Int × GAE) GAE)),(loopN (fun recl4 x=>g_ae_derive_l4 e x1 recl4 x.1 x.2.1 x.2.2) n (1,x1.Minute,OL.nil)).bind k=k ((e.Claim.Readings.length:Int),derF x1.Minute x1 x1.Minute [] r):=by
  intro k; rw [h4]; rfl
 rw [hmatch]
 have hs:sesF e.Claim.Readings=⟨x1.Minute,(e.Claim.Readings.getLast hne).Minute,(derF x1.Minute x1 x1.Minute [] r).1,(derF x1.Minute x1 x1.Minute [] r).2⟩:=by
  have:∀ (l:List GReading) (h:l ≠ []),l=x1 :: r→sesF l=⟨x1.Minute,(l.getLast h).Minute,(derF x1.Minute x1 x1.Minute [] r).1,(derF x1.Minute x1 x1.Minute [] r).2⟩:=by
   intro l h hl; subst hl; rfl
  exact this _ hne he
 rw [hs]
 generalize (e.Claim.Readings.getLast hne)=x2
 generalize derF x1.Minute x1 x1.Minute [] r=q
 obtain ⟨en,sl⟩:=q
 simp only [a_need,exc_need,obs,ltI,leI,sesB]
 by_cases c1:x1.Minute < x2.Minute
 ·by_cases c2:wi (x2.Minute - x1.Minute)≤2880
  ·by_cases c3:sl.length≤48
   ·have c3':(sl.length:Int)≤48:=by omega
    obtain ⟨e',h⟩:=a_derive14 n e x1 x2 en sl hn c3
    exact ⟨e',by simp only [c1,c2,c3,c3',decide_true,cond_true,Bool.true_and]; exact h⟩
   ·have c3':¬ (sl.length:Int)≤48:=by omega
    exact ⟨_,by simp only [c1,c2,c3,c3',decide_true,decide_false,cond_true,cond_false,Bool.true_and,Bool.false_and,Bool.and_false,Bool.false_eq_true,if_false]; rfl⟩
  ·exact ⟨_,by simp only [c1,c2,decide_true,decide_false,cond_true,cond_false,Bool.false_and,Bool.and_false,Bool.false_eq_true,if_false]; rfl⟩
 ·exact ⟨_,by simp only [c1,decide_false,cond_false,Bool.false_and,Bool.false_eq_true,if_false]; rfl⟩
theorem a_sameSlice (n:Nat) (a b:List GSl) (hn:1000≤n) (hl:b.length≤900):g_a_same_api_Slice n a b=some (decide (a=b)):=by
 unfold g_a_same_api_Slice
 simp only [lenI,List.length_map,eqI_d]
 by_cases h:a.length=b.length
 rotate_left
 ·have h':¬ (a.length:Int)=b.length:=by omega
  have h2:¬ a=b:=fun h3=>h (by rw [h3])
  simp [h',h2]
 ·rw [dzT (show (a.length:Int)=b.length from by omega),Bool.not_true,cond_false]
  have:=loop_gen (l:=a) (fun (_:List GSl) i=>i) (B:=fun recl1 l1=>g_a_same_api_Slice_l1 a b recl1 l1) (F:=fun q r=>decide (r=q)) (fun i q=>b.drop i=q) (by omega) ?_ ?_ (n:=n) 0 b (by simp) (by omega) (by omega)
  ·simpa using this
  ·intro rec q hq
   simp only [g_a_same_api_Slice_l1,lenI,List.length_map,ltI]
   rw [dzF (by omega),cond_false]
   rw [h,List.drop_length] at hq
   subst hq; simp
  ·intro rec q i x r hq hd hx hi hw hr
   have hb:b[i]?=some b[i]:=by rw [List.getElem?_eq_getElem]
   have hq2:q=b[i] :: b.drop (i+1):=by rw [← hq,List.drop_eq_getElem_cons (by omega)]
   simp only [g_a_same_api_Slice_l1,lenI,List.length_map,ltI,getI_nat,hx,hb,obs,eqI_d,opq,hw]
   rw [dzT (by omega),cond_true,hr _ rfl,hq2]
   obtain ⟨xm,xe⟩:=x
   generalize b[i]=y
   obtain ⟨ym,ye⟩:=y
   by_cases h1:xm=ym <;> by_cases h2:xe=ye <;> simp [h1,h2]
theorem a_sameLine (n:Nat) (a b:List GLine) (hn:1000≤n) (hl:b.length≤900):g_a_same_api_Line n a b=some (decide (a=b)):=by
 unfold g_a_same_api_Line
 simp only [lenI,List.length_map,eqI_d]
 by_cases h:a.length=b.length
 rotate_left
 ·have h':¬ (a.length:Int)=b.length:=by omega
  have h2:¬ a=b:=fun h3=>h (by rw [h3])
  simp [h',h2]
 ·rw [dzT (show (a.length:Int)=b.length from by omega),Bool.not_true,cond_false]
  have:=loop_gen (l:=a) (fun (_:List GLine) i=>i) (B:=fun recl1 l1=>g_a_same_api_Line_l1 a b recl1 l1) (F:=fun q r=>decide (r=q)) (fun i q=>b.drop i=q) (by omega) ?_ ?_ (n:=n) 0 b (by simp) (by omega) (by omega)
  ·simpa using this
  ·intro rec q hq
   simp only [g_a_same_api_Line_l1,lenI,List.length_map,ltI]
   rw [dzF (by omega),cond_false]
   rw [h,List.drop_length] at hq
   subst hq; simp
  ·intro rec q i x r hq hd hx hi hw hr
   have hb:b[i]?=some b[i]:=by rw [List.getElem?_eq_getElem]
   have hq2:q=b[i] :: b.drop (i+1):=by rw [← hq,List.drop_eq_getElem_cons (by omega)]
   simp only [g_a_same_api_Line_l1,lenI,List.length_map,ltI,getI_nat,hx,hb,obs,eqI_d,opq,hw]
   rw [dzT (by omega),cond_true,hr _ rfl,hq2]
   obtain ⟨xm,xe⟩:=x
   generalize b[i]=y
   obtain ⟨ym,ye⟩:=y
   by_cases h1:xm=ym <;> by_cases h2:xe=ye <;> simp [h1,h2]
theorem a_compared (n:Nat) (e:GAE) (hn:1000≤n) (hl:e.follows.Slices.length≤900):g_ae_compared n e=some (needE (decide (e.Claim.Session=e.follows)) 3):=by
 unfold g_ae_compared
 simp only [a_sameSlice n _ _ hn hl,a_need,exc_need,obs,eqI_d]
 generalize e.Claim.Session=s
 generalize e.follows=t
 obtain ⟨a1,a2,a3,a4⟩:=s
 obtain ⟨b1,b2,b3,b4⟩:=t
 by_cases h1:a1=b1 <;> by_cases h2:a2=b2 <;> by_cases h3:a3=b3 <;> by_cases h4:a4=b4 <;> simp [h1,h2,h3,h4,needE]
end Go.Proofs
namespace Go.Proofs
open Go Go.Abs
set_option maxRecDepth 100000
set_option linter.unusedVariables false
theorem head_big:g_law43_head 36893488147419103232=some true:=by kernel_rfl
def offF (m:Int):Int→List GCh→Int
 | o,[]=>o
 | o,x :: r=>offF m (if x.At≤m then x.Offset else o) r
theorem a_offset (n:Nat) (e:GAE) (m:Int) (hn:1000≤n) (hl:e.Claim.Calendar.Changes.length≤900):g_ae_offset n e m=some (offF m e.Claim.Calendar.Offset e.Claim.Calendar.Changes):=by
 unfold g_ae_offset
 have:=loop_acc (l:=e.Claim.Calendar.Changes) (B:=fun recl1 (v:Int × Int)=>g_ae_offset_l1 e m recl1 v.1 v.2) (F:=offF m) (by omega) ?_ ?_ (n:=n) 0 e.Claim.Calendar.Offset (by omega) (by omega)
 ·simpa using this
 ·intro rec a; simp [g_ae_offset_l1,ltI,lenI,offF]
 ·intro rec a i x r hd hx hi hw hr
  simp only [g_ae_offset_l1,lenI,List.length_map,getI_nat,hx,obs,hw,hr,ltI,leI,offF]
  rw [dzT (by omega),cond_true]
  by_cases h:x.At≤m <;> simp [h]
def wkF (d:Int):Int:=if Int.tmod (wi (d+7)) 7=5 then 1 else if Int.tmod (wi (d+7)) 7=6 then 2 else 0
def typF (d:Int):List Int→Int
 | []=>wkF d
 | x :: r=>if x=d then 2 else typF d r
theorem typF_range (d:Int):∀ l,0≤typF d l∧typF d l≤2
 | []=>by
  unfold typF wkF
  split
  ·omega
  ·split <;> omega
 | x :: r=>by
  have:=typF_range d r
  unfold typF; split <;> omega
theorem a_typeOf (n:Nat) (e:GAE) (d:Int) (hn:1000≤n) (hl:e.Claim.Calendar.Holidays.length≤900):g_ae_typeOf n e d=some (typF d e.Claim.Calendar.Holidays):=by
 unfold g_ae_typeOf
 have:=loop_list (l:=e.Claim.Calendar.Holidays) (B:=fun recl2 l2=>g_ae_typeOf_l2 e d recl2 l2) (F:=typF d) (by omega) ?_ ?_ (n:=n) 0 (by omega) (by omega)
 ·simpa using this
 ·intro rec
  simp only [g_ae_typeOf_l2,lenI,List.length_map,ltI,g_ae_typeOf_j1,eqI_d]
  rw [dzF (by omega),cond_false,typF,wkF]
  by_cases h1:Int.tmod (wi (d+7)) 7=5 <;> by_cases h2:Int.tmod (wi (d+7)) 7=6 <;> simp [h1,h2]
 ·intro rec i x r hd hx hi hw hr
  simp only [g_ae_typeOf_l2,lenI,List.length_map,getI_nat,hx,obs,hw,hr,ltI,eqI_d,typF]
  rw [dzT (by omega),cond_true]
  by_cases h:x=d <;> simp [h]
def appB (c:GCl) (a:GAr) (m:Int):Bool :=
 let w:=wi (wi (m+offF m c.Offset c.Changes)+1440)
 decide (a.From≤Int.tmod w 1440)&&decide (Int.tmod w 1440 < a.To)&&!decide (bAnd .i64 a.Days (shlI .i64 1 (typF (wi (wi (Int.tdiv w 1440) - 1)) c.Holidays))=0)
theorem a_applies (n:Nat) (e:GAE) (a:GAr) (m:Int) (hn:1000≤n) (h1:e.Claim.Calendar.Changes.length≤900) (h2:e.Claim.Calendar.Holidays.length≤900) :
  g_ae_applies n e a m=some (appB e.Claim.Calendar a m):=by
 unfold g_ae_applies appB
 simp only [a_offset n e _ hn h1,a_typeOf n e _ hn h2,obs,leI,ltI,eqI_d]
 generalize wi (wi (m+offF m e.Claim.Calendar.Offset e.Claim.Calendar.Changes)+1440)=w
 have h3:=typF_range (wi (wi (Int.tdiv w 1440) - 1)) e.Claim.Calendar.Holidays
 rw [dzF (show ¬ typF (wi (wi (Int.tdiv w 1440) - 1)) e.Claim.Calendar.Holidays < 0 from by omega)]
 by_cases c1:a.From≤Int.tmod w 1440 <;> by_cases c2:Int.tmod w 1440 < a.To <;> simp [c1,c2]
def cntF (c:GCl) (a:GAr):Nat→Int→Int→Int
 | 0,_,z=>z
 | k+1,m,z=>cntF c a k (m+1) (if appB c a m then wi (z+1) else z)
def staF (c:GCl) (a:GAr) (f t:Int):Int :=
 wi (a.Price * wi (Int.tdiv (wi (wi (maxI 0 (cntF c a (t - f).toNat f (wi (0 - a.Free)))+a.Unit) - 1)) a.Unit))
theorem a_started (n:Nat) (e:GAE) (a:GAr) (f t:Int) (hn:1000≤n) (h1:e.Claim.Calendar.Changes.length≤900) (h2:e.Claim.Calendar.Holidays.length≤900) (hu:a.Unit ≠ 0) (hf:-9223372036854775808≤f) (ht:t≤9223372036854775807)
  (hk:(t - f).toNat < n):g_ae_started n e a f t=some (staF e.Claim.Calendar a f t):=by
 have key:∀ (k j:Nat) (z m:Int),(t - m).toNat=k→k < j→-9223372036854775808≤m →
   loopN (fun recl1 (v:Int × Int)=>g_ae_started_l1 n e a t recl1 v.1 v.2) j (z,m)=some (wi (a.Price * wi (Int.tdiv (wi (wi (maxI 0 (cntF e.Claim.Calendar a k m z)+a.Unit) - 1)) a.Unit))):=by
  intro k
  induction k with
  | zero =>
   intro j z m h3 h4 h5
   obtain ⟨j,rfl⟩:∃ i,j=i+1:=⟨j - 1,by omega⟩
   simp only [loopN,g_ae_started_l1,ltI,eqI_d,hu,cntF]
   rw [dzF (by omega)]
   simp
  | succ k ih =>
   intro j z m h3 h4 h5
   obtain ⟨j,rfl⟩:∃ i,j=i+1:=⟨j - 1,by omega⟩
   have hw:wi (m+1)=m+1:=by rw [wi_id] <;> omega
   have h6:=fun z=>ih j z (m+1) (by omega) (by omega) (by omega)
   rw [loopN]
   generalize loopN (fun recl1 (v:Int × Int)=>g_ae_started_l1 n e a t recl1 v.1 v.2) j=rec at h6 ⊢
   simp only [g_ae_started_l1,ltI,a_applies n e a m hn h1 h2,obs,hw,cntF]
   rw [dzT (by omega),cond_true]
   cases appB e.Claim.Calendar a m
   ·rw [cond_false,h6]; simp
   ·rw [cond_true,h6]; simp
 exact key _ n _ _ rfl hk hf
def eneF (c:GCl) (a:GAr):Int→List GSl→Int
 | z,[]=>z
 | z,x :: r=>eneF c a (if appB c a x.Minute then wi (z+x.Energy) else z) r
def cosF (c:GCl) (s:GSs) (a:GAr):Int :=
 if a.Kind=1 then (if appB c a s.From then a.Price else 0)
 else if a.Kind=2 then wi (Int.tdiv (wi (wi (wi (2 * a.Price) * eneF c a 0 s.Slices)+1000)) 2000)
 else if a.Kind=3 then staF c a s.From s.To
 else if a.Kind=4 then staF c a s.End s.To
 else 0
theorem a_cost2 (n:Nat) (e:GAE) (a:GAr) (hn:1000≤n) (h1:e.Claim.Calendar.Changes.length≤900) (h2:e.Claim.Calendar.Holidays.length≤900) (h3:e.follows.Slices.length≤900) :
  loopN (fun recl2 (v:Int × Int)=>g_ae_cost_l2 n e a recl2 v.1 v.2) n (0,0)=some (wi (Int.tdiv (wi (wi (wi (2 * a.Price) * eneF e.Claim.Calendar a 0 e.follows.Slices)+1000)) 2000)):=by
 have:=loop_acc (l:=e.follows.Slices) (B:=fun recl2 (v:Int × Int)=>g_ae_cost_l2 n e a recl2 v.1 v.2) (F:=fun z r=>wi (Int.tdiv (wi (wi (wi (2 * a.Price) * eneF e.Claim.Calendar a z r)+1000)) 2000)) (by omega) ?_ ?_ (n:=n) 0 0 (by omega) (by omega)
 ·exact this
 ·intro rec z
  have h:ltI ((e.follows.Slices.length:Nat):Int) (lenI (List.map GSl.cs e.follows.Slices))=false:=by simp [ltI,lenI]
  show g_ae_cost_l2 n e a rec z ((e.follows.Slices.length:Nat):Int)=_
  unfold g_ae_cost_l2
  rw [h]
  exact cond_false _ _
 ·intro rec z i x r hd hx hi hw hr
  have h:ltI (i:Int) (lenI (List.map GSl.cs e.follows.Slices))=true:=by simp [ltI,lenI]; omega
  show g_ae_cost_l2 n e a rec z (i:Int)=_
  unfold g_ae_cost_l2
  rw [h,cond_true,getI_nat,hx,obs,a_applies n e a _ hn h1 h2,obs,hw,hr,hr]
  have e1:eneF e.Claim.Calendar a z (x :: r)=eneF e.Claim.Calendar a (if appB e.Claim.Calendar a x.Minute then wi (z+x.Energy) else z) r:=rfl
  rw [e1]
  cases appB e.Claim.Calendar a x.Minute
  ·rw [cond_false,if_neg (by decide)]
  ·rw [cond_true,if_pos rfl]
theorem a_cost (n:Nat) (e:GAE) (a:GAr) (hn:36893488147419103232≤n) (h1:e.Claim.Calendar.Changes.length≤900) (h2:e.Claim.Calendar.Holidays.length≤900) (h3:e.follows.Slices.length≤900)
  (hu:a.Kind=3∨a.Kind=4→a.Unit ≠ 0) (b1:i64b e.follows.From) (b2:i64b e.follows.To) (b3:i64b e.follows.End):g_ae_cost n e a=some (cosF e.Claim.Calendar e.follows a):=by
 unfold g_ae_cost cosF
 simp only [a_applies n e a _ (by omega) h1 h2,obs,eqI_d]
 have hn':1000≤n:=by omega
 have hloop:=a_cost2 n e a hn' h1 h2 h3
 by_cases k1:a.Kind=1
 ·simp only [k1,decide_true,cond_true,if_true]
  cases appB e.Claim.Calendar a e.follows.From <;> simp
 ·by_cases k2:a.Kind=2
  ·simp only [k2,decide_true,cond_true,if_true,show ¬ ((2:Int)=1) from by decide,decide_false,cond_false,if_false]
   exact hloop
  ·unfold i64b at b1 b2 b3
   by_cases k3:a.Kind=3
   ·rw [a_started n e a _ _ (by omega) h1 h2 (hu (.inl k3)) (by omega) (by omega) (by omega)]
    simp [k3]
   ·by_cases k4:a.Kind=4
    ·rw [a_started n e a e.follows.End _ (by omega) h1 h2 (hu (.inr k4)) (by omega) (by omega) (by omega)]
     simp [k4]
    ·simp [k1,k2,k3,k4]
end Go.Proofs
namespace Go.Proofs
open Go Go.Abs
set_option maxRecDepth 100000
set_option linter.unusedVariables false
theorem loop_does {α R A V:Type} {l:List α} (S:A→Int→V) {B:(V→Option R)→V→Option R} {Q:A→List α→R→Prop} (Inv:Nat→A→Prop) (hlen:l.length≤4611686018427387904)
  (hend:∀ rec a,Inv l.length a→Does (B rec (S a (l.length:Int))) (Q a []))
  (hstep:∀ (rec:V→Option R) (a:A) (i:Nat) (x:α) (r:List α),Inv i a→l.drop i=x :: r→l[i]?=some x→i < l.length→wi ((i:Int)+1)=((i+1:Nat):Int)→(∀ a,Inv (i+1) a→Does (rec (S a ((i+1:Nat):Int))) (Q a r))→Does (B rec (S a (i:Int))) (Q a (x :: r))) :
  ∀ {n:Nat} (i:Nat) (a:A),Inv i a→i≤l.length→l.length - i < n→Does (loopN B n (S a (i:Int))) (Q a (l.drop i))
 | 0,_,_,_,_,h=>absurd h (Nat.not_lt_zero _)
 | n+1,i,a,ha,hi,h=>by
  unfold loopN
  by_cases he:i=l.length
  ·subst he; simpa using hend _ _ ha
  ·have hlt:i < l.length:=by omega
   have hd:l.drop i=l[i] :: l.drop (i+1):=by rw [List.drop_eq_getElem_cons hlt]
   rw [hd]
   exact hstep _ a i _ _ ha hd (by simp [hlt]) hlt (by rw [wi_id] <;> omega) (fun a ha=>loop_does S Inv hlen hend hstep (i+1) a ha (by omega) (by omega))
def linF (c:GCl) (s:GSs):Nat→List GAr→List GLine
 | _,[]=>[]
 | i,a :: r=>if a.Kind=5∨a.Kind=6 then linF c s (i+1) r else ⟨i,cosF c s a⟩ :: linF c s (i+1) r
def linB (l:List GLine):Bool:=l.all (fun x=>decide (x.Amount≤1000000000))
theorem a_price (n:Nat) (e:GAE) (hn:36893488147419103232≤n) (h1:e.Claim.Calendar.Changes.length≤900) (h2:e.Claim.Calendar.Holidays.length≤900) (h3:e.follows.Slices.length≤900) (h4:e.Claim.Tariff.Articles.length≤900)
  (hu:∀ a ∈ e.Claim.Tariff.Articles,a.Kind=3∨a.Kind=4→a.Unit ≠ 0) (b1:i64b e.follows.From) (b2:i64b e.follows.To) (b3:i64b e.follows.End) :
  ∃ e',g_ae_price n e=some (if linB (linF e.Claim.Calendar e.follows 0 e.Claim.Tariff.Articles) then .ok ⟨e.Claim,e.follows,⟨linF e.Claim.Calendar e.follows 0 e.Claim.Tariff.Articles,e.bill.Net,e.bill.Tax,e.bill.Total⟩,e.rate⟩ else .error (4,e')):=by
 have key:=loop_does (l:=e.Claim.Tariff.Articles) (fun (a:Nat × OL GLine) i=>(i,a.2)) (B:=fun recl1 (v:Int × OL GLine)=>g_ae_price_l1 n e recl1 v.1 v.2)
  (Q:=fun a r v=>∃ e',v=if linB (linF e.Claim.Calendar e.follows a.1 r) then .ok ⟨e.Claim,e.follows,⟨a.2.toL++linF e.Claim.Calendar e.follows a.1 r,e.bill.Net,e.bill.Tax,e.bill.Total⟩,e.rate⟩ else .error (4,e'))
  (fun i a=>a.1=i∧a.2.toL.length≤i) (by omega) ?_ ?_ (n:=n) 0 (0,OL.nil) (by simp) (by omega) (by omega)
 ·obtain ⟨v,g1,e',g2⟩:=key
  refine ⟨e',?_⟩
  unfold g_ae_price
  refine Eq.trans g1 ?_
  rw [g2]; rfl
 ·rintro rec ⟨k,ol⟩ ⟨rfl,ho⟩
  have h:ltI ((e.Claim.Tariff.Articles.length:Nat):Int) (lenI (List.map GAr.cs e.Claim.Tariff.Articles))=false:=by simp [ltI,lenI]
  show Does (g_ae_price_l1 n e rec ((e.Claim.Tariff.Articles.length:Nat):Int) ol) _
  unfold g_ae_price_l1
  rw [h,cond_false]
  refine does_some ⟨e,?_⟩
  simp [linF,linB]
 ·rintro rec ⟨k,ol⟩ i x r ⟨rfl,ho⟩ hd hx hi hw hr
  simp only at ho
  have h:ltI (k:Int) (lenI (List.map GAr.cs e.Claim.Tariff.Articles))=true:=by simp [ltI,lenI]; omega
  show Does (g_ae_price_l1 n e rec (k:Int) ol) _
  unfold g_ae_price_l1
  rw [h,cond_true,getI_nat,hx,obs]
  have hj:(bif eqI x.Kind 5 then some true else some (eqI x.Kind 6))=some (decide (x.Kind=5∨x.Kind=6)):=by
   simp only [eqI_d]
   by_cases c1:x.Kind=5 <;> by_cases c2:x.Kind=6 <;> simp [c1,c2]
  rw [hj,obs,hw]
  by_cases c:x.Kind=5∨x.Kind=6
  ·rw [dzT c,cond_true]
   refine does_mono (hr (k+1,ol) ⟨rfl,by simp; omega⟩) ?_
   rintro v ⟨e',hv⟩
   exact ⟨e',by rw [hv,linF,if_pos c]⟩
  ·rw [dzF c,cond_false]
   have hc:=a_cost n (⟨e.Claim,e.follows,⟨ol.toL,e.bill.Net,e.bill.Tax,e.bill.Total⟩,e.rate⟩:GAE) x hn h1 h2 h3 (hu x (List.mem_of_getElem? hx)) b1 b2 b3
   rw [hc,obs,a_need,obs,exc_need]
   simp only
   have hroom:roomB (List.length (ol.toL++[(⟨(k:Int),cosF e.Claim.Calendar e.follows x⟩:GLine)])) 16=true:=by simp [roomB]; omega
   rw [hroom,cond_true,leI]
   have e1:linF e.Claim.Calendar e.follows k (x :: r)=⟨(k:Int),cosF e.Claim.Calendar e.follows x⟩ :: linF e.Claim.Calendar e.follows (k+1) r:=by rw [linF,if_neg c]
   rw [e1]
   by_cases d:cosF e.Claim.Calendar e.follows x≤1000000000
   ·rw [dzT d,cond_true]
    refine does_mono (hr (k+1,OL.own _) ⟨rfl,by simp; omega⟩) ?_
    rintro v ⟨e',hv⟩
    exact ⟨e',by rw [hv]; simp [linB,d]⟩
   ·rw [dzF d,cond_false]
    exact does_some ⟨_,by simp [linB,d]; rfl⟩
def sumF:Int→List GLine→Int
 | z,[]=>z
 | z,x :: r=>sumF (wi (z+x.Amount)) r
def capF:Int→List GAr→Int
 | z,[]=>z
 | z,a :: r=>capF (if a.Kind=5 then minI z a.Price else z) r
def taxF (net rate:Int):Int:=wi (Int.tdiv (wi (wi (wi (2 * net) * rate)+10000)) 20000)
def netF (t:GTf) (z:Int) (l:List GLine):Int:=capF (sumF z l) t.Articles
def bilF (t:GTf) (rate z:Int) (l:List GLine):GBill:=⟨l,netF t z l,taxF (netF t z l) rate,wi (netF t z l+taxF (netF t z l) rate)⟩
def bilB (b:GBill):Bool:=decide (b.Net≤1000000000)&&decide (b.Total≤1000000000)
theorem a_add2 (n:Nat) (e:GAE) (z:Int) (hn:1000≤n) (hl:e.bill.Lines.length≤900):loopN (fun recl2 (v:Int × Int)=>g_ae_add_l2 e recl2 v.1 v.2) n (0,z)=some (sumF z e.bill.Lines):=by
 refine loop_gen (l:=e.bill.Lines) (fun (a:Int) i=>(i,a)) (B:=fun recl2 (v:Int × Int)=>g_ae_add_l2 e recl2 v.1 v.2) (F:=sumF) (fun _ _=>True) (by omega) ?_ ?_ (n:=n) 0 z trivial (by omega) (by omega)
 ·intro rec a _
  have h:ltI ((e.bill.Lines.length:Nat):Int) (lenI (List.map GLine.cs e.bill.Lines))=false:=by simp [ltI,lenI]
  show g_ae_add_l2 e rec ((e.bill.Lines.length:Nat):Int) a=_
  unfold g_ae_add_l2
  rw [h]; rfl
 ·intro rec a i x r _ hd hx hi hw hr
  have h:ltI (i:Int) (lenI (List.map GLine.cs e.bill.Lines))=true:=by simp [ltI,lenI]; omega
  show g_ae_add_l2 e rec (i:Int) a=_
  unfold g_ae_add_l2
  rw [h,cond_true,getI_nat,hx,obs,hw,hr _ trivial]; rfl
theorem a_add5 (n:Nat) (e:GAE) (z:Int) (hn:1000≤n) (hl:e.Claim.Tariff.Articles.length≤900):loopN (fun recl5 (v:Int × Int)=>g_ae_add_l5 e recl5 v.1 v.2) n (0,z)=some (capF z e.Claim.Tariff.Articles):=by
 refine loop_gen (l:=e.Claim.Tariff.Articles) (fun (a:Int) i=>(i,a)) (B:=fun recl5 (v:Int × Int)=>g_ae_add_l5 e recl5 v.1 v.2) (F:=capF) (fun _ _=>True) (by omega) ?_ ?_ (n:=n) 0 z trivial (by omega) (by omega)
 ·intro rec a _
  have h:ltI ((e.Claim.Tariff.Articles.length:Nat):Int) (lenI (List.map GAr.cs e.Claim.Tariff.Articles))=false:=by simp [ltI,lenI]
  show g_ae_add_l5 e rec ((e.Claim.Tariff.Articles.length:Nat):Int) a=_
  unfold g_ae_add_l5
  rw [h]; rfl
 ·intro rec a i x r _ hd hx hi hw hr
  have h:ltI (i:Int) (lenI (List.map GAr.cs e.Claim.Tariff.Articles))=true:=by simp [ltI,lenI]; omega
  show g_ae_add_l5 e rec (i:Int) a=_
  unfold g_ae_add_l5
  rw [h,cond_true,getI_nat,hx,obs,hw,hr _ trivial,hr _ trivial,eqI_d,capF]
  by_cases c:x.Kind=5 <;> simp [c]
theorem a_add (n:Nat) (e:GAE) (hn:1000≤n) (hl:e.bill.Lines.length≤900) (h4:e.Claim.Tariff.Articles.length≤900) :
  ∃ e',g_ae_add n e=some (if bilB (bilF e.Claim.Tariff e.rate e.bill.Net e.bill.Lines) then .ok ⟨e.Claim,e.follows,bilF e.Claim.Tariff e.rate e.bill.Net e.bill.Lines,e.rate⟩ else .error (5,e')):=by
 unfold g_ae_add
 have g1:=a_add2 n e e.bill.Net hn hl
 have g2:=a_add5 n e (sumF e.bill.Net e.bill.Lines) hn h4
 have k1:∀ (k:Int→Option (Except (Int × GAE) GAE)),(loopN (fun recl2 x=>g_ae_add_l2 e recl2 x.1 x.2) n (0,e.bill.Net)).bind k=k (sumF e.bill.Net e.bill.Lines):=fun k=>by rw [g1]; rfl
 have k2:∀ (k:Int→Option (Except (Int × GAE) GAE)),(loopN (fun recl5 x=>g_ae_add_l5 e recl5 x.1 x.2) n (0,sumF e.bill.Net e.bill.Lines)).bind k=k (capF (sumF e.bill.Net e.bill.Lines) e.Claim.Tariff.Articles):=fun k=>by rw [g2]; rfl
 rw [k1,k2]
 rw [show capF (sumF e.bill.Net e.bill.Lines) e.Claim.Tariff.Articles=netF e.Claim.Tariff e.bill.Net e.bill.Lines from rfl]
 unfold bilB bilF
 generalize netF e.Claim.Tariff e.bill.Net e.bill.Lines=w
 rw [show wi (Int.tdiv (wi (wi (wi (2 * w) * e.rate)+10000)) 20000)=taxF w e.rate from rfl]
 generalize taxF w e.rate=t
 rw [a_need,obs,exc_need,a_need,obs,exc_need,leI,leI]
 generalize wi (w+t)=tt
 by_cases c1:w≤1000000000
 ·by_cases c2:tt≤1000000000
  ·exact ⟨e,by simp [c1,c2]⟩
  ·exact ⟨_,by simp [c1,c2]; rfl⟩
 ·exact ⟨_,by simp [c1]; rfl⟩
end Go.Proofs
namespace Go.Proofs
open Go Go.Abs
set_option maxRecDepth 100000
set_option linter.unusedVariables false
theorem wi_b (x:Int):i64b (wi x):=by
 simp only [i64b,wi,IntKind.wrap,IntKind.signed,IntKind.bits]
 simp
 omega
theorem artB_unit {a:GAr} (h:artB a=true) (hk:a.Kind=3∨a.Kind=4):a.Unit ≠ 0:=by
 intro hu
 unfold artB g_a_validArticle at h
 simp only [a_inside,cond_some,obs,Option.getD_some,eqI_d,hu] at h
 rcases hk with hk | hk <;> simp [hk] at h
theorem tarB_all:∀ {l:List GAr} {k:Int},tarB k l=true→∀ a ∈ l,artB a=true
 | [],_,_,a,ha=>by cases ha
 | x :: r,k,h,a,ha=>by
  simp only [tarB,bae] at h
  rcases List.mem_cons.1 ha with rfl | ha
  ·exact h.1
  ·exact tarB_all h.2 a ha
theorem derF_end (m0:Int):∀ (l:List GReading) (p:GReading) (e:Int) (sl:List GSl),i64b e→i64b (derF m0 p e sl l).1
 | [],p,e,sl,h=>h
 | x :: r,p,e,sl,h=>by
  unfold derF
  refine derF_end m0 r x _ _ ?_
  unfold derS addS
  split
  ·split
   ·exact h
   ·split
    ·split
     ·exact h
     ·exact wi_b _
    ·exact wi_b _
  ·exact h
def linesOf (c:GClaim):List GLine:=linF c.Calendar (sesF c.Readings) 0 c.Tariff.Articles
def billOf (c:GClaim):GBill:=bilF c.Tariff (rateF 0 c.Tariff.Articles) 0 (linesOf c)
open Classical in
noncomputable def exa (c:GClaim) (own:Bool):Int :=
 if ¬ chainOk c.Seed c.Readings then 1
 else if tariffB c.Tariff=false then 2
 else if calB c.Calendar=false then 2
 else if sesB (sesF c.Readings)=false then 3
 else if own=true∧c.Session ≠ sesF c.Readings then 3
 else if linB (linesOf c)=false then 4
 else if own=true∧c.Bill.Lines ≠ linesOf c then 4
 else if bilB (billOf c)=false then 5
 else if own=true∧¬ (c.Bill.Net=(billOf c).Net∧c.Bill.Tax=(billOf c).Tax∧c.Bill.Total=(billOf c).Total) then 5
 else 0
theorem linF_len (c:GCl) (s:GSs):∀ (l:List GAr) (i:Nat),(linF c s i l).length≤l.length
 | [],_=>by simp [linF]
 | a :: r,i=>by
  have:=linF_len c s r (i+1)
  unfold linF
  split <;> simp <;> omega
theorem a_j12 (n:Nat) (c:GClaim) (own:Bool) (r:GAE) (hn:1000≤n) (hl:r.bill.Lines.length≤900) (h4:r.Claim.Tariff.Articles.length≤900) (b:GBill) (hb:bilF r.Claim.Tariff r.rate r.bill.Net r.bill.Lines=b) :
  ∃ e',g_a_examine_j12 n c own r=some (e',if bilB b=false then 5 else if own=true∧¬ (c.Bill.Net=b.Net∧c.Bill.Tax=b.Tax∧c.Bill.Total=b.Total) then 5 else 0)∧(bilB b=true→e'.bill=b):=by
 obtain ⟨e1,g1⟩:=a_add n r hn hl h4
 rw [hb] at g1
 unfold g_a_examine_j12
 rw [g1,obs]
 cases h:bilB b
 ·simp only [Bool.false_eq_true,if_false,exc,if_true]
  exact ⟨_,rfl,fun h=>by cases h⟩
 ·simp only [if_true,exc,Bool.true_eq_false,if_false,a_need,obs,eqI_d]
  cases own
  ·exact ⟨_,rfl,fun _=>rfl⟩
  ·simp only [Bool.not_true,cond_false,true_and]
   by_cases c1:c.Bill.Net=b.Net
   ·by_cases c2:c.Bill.Tax=b.Tax
    ·by_cases c3:c.Bill.Total=b.Total
     ·simp only [c1,c2,c3,decide_true,cond_true,needE,if_true,and_self,not_true_eq_false,if_false]
      exact ⟨_,rfl,fun _=>rfl⟩
     ·simp only [c1,c2,c3,decide_true,decide_false,cond_true,needE,if_true,and_false,not_false_eq_true,if_false,Bool.false_eq_true]
      exact ⟨_,rfl,fun _=>rfl⟩
    ·simp only [c1,c2,decide_true,decide_false,cond_true,cond_false,needE,if_true,and_false,false_and,not_false_eq_true,if_false,Bool.false_eq_true]
     exact ⟨_,rfl,fun _=>rfl⟩
   ·simp only [c1,decide_false,cond_false,needE,if_true,false_and,not_false_eq_true,if_false,Bool.false_eq_true]
    exact ⟨_,rfl,fun _=>rfl⟩
theorem a_j9 (n:Nat) (c:GClaim) (own:Bool) (hn:36893488147419103232≤n) (h1:chainOk c.Seed c.Readings) (h2:tariffB c.Tariff=true) (h3:calB c.Calendar=true) (h4:sesB (sesF c.Readings)=true) :
  ∃ e',g_a_examine_j9 n c own ⟨c,sesF c.Readings,⟨[],0,0,0⟩,rateF 0 c.Tariff.Articles⟩=some (e',if linB (linesOf c)=false then 4 else if own=true∧c.Bill.Lines ≠ linesOf c then 4 else if bilB (billOf c)=false then 5 else if own=true∧¬ (c.Bill.Net=(billOf c).Net∧c.Bill.Tax=(billOf c).Tax∧c.Bill.Total=(billOf c).Total) then 5 else 0) ∧
   ((if linB (linesOf c)=false then 4 else if own=true∧c.Bill.Lines ≠ linesOf c then 4 else if bilB (billOf c)=false then 5 else if own=true∧¬ (c.Bill.Net=(billOf c).Net∧c.Bill.Tax=(billOf c).Tax∧c.Bill.Total=(billOf c).Total) then 5 else 0)=(0:Int)→e'.bill=billOf c):=by
 have hn':1000≤n:=by omega
 simp only [calB,bae,decide_eq_true_eq] at h3
 simp only [tariffB,bae,decide_eq_true_eq] at h2
 have h4':=h4
 simp only [sesB,bae,decide_eq_true_eq] at h4'
 have hb:i64b (sesF c.Readings).From∧i64b (sesF c.Readings).To∧i64b (sesF c.Readings).End:=by
  have hm:∀ x ∈ c.Readings,i64b x.Minute:=by
   intro x hx
   obtain ⟨i,hi,hxi⟩:=List.mem_iff_getElem.1 hx
   have:=(h1.2 i hi x (by rw [List.getElem?_eq_getElem hi,hxi]; rfl)).2.2.1
   unfold i64b; omega
  cases hl:c.Readings with
  | nil=>rw [hl] at h4; exact absurd h4 (by decide)
  | cons x r =>
   rw [hl] at hm
   exact ⟨hm x (by simp),hm _ (List.getLast_mem _),derF_end _ _ _ _ _ (hm x (by simp))⟩
 have hll:=linF_len c.Calendar (sesF c.Readings) c.Tariff.Articles 0
 obtain ⟨e1,g1⟩:=a_price n (⟨c,sesF c.Readings,⟨[],0,0,0⟩,rateF 0 c.Tariff.Articles⟩:GAE) hn (by simp only; omega) (by simp only; omega) (by simp only; omega) (by simp only; omega) (fun a ha=>artB_unit (tarB_all h2.2 a ha)) hb.1 hb.2.1 hb.2.2
 simp only at g1
 obtain ⟨e2,g2,g3⟩:=a_j12 n c own (⟨c,sesF c.Readings,⟨linesOf c,0,0,0⟩,rateF 0 c.Tariff.Articles⟩:GAE) hn' (by simp only [linesOf]; omega) (by simp only; omega) (billOf c) rfl
 unfold g_a_examine_j9
 simp only
 rw [g1,obs]
 change ∃ e',(exc _ _ (if linB (linesOf c)=true then _ else _))=_∧_
 cases h5:linB (linesOf c)
 ·simp only [Bool.false_eq_true,if_false,exc,if_true]
  exact ⟨_,rfl,fun h=>absurd h (by decide)⟩
 ·simp only [if_true,exc,Bool.true_eq_false,if_false,a_need,obs]
  cases own
  ·simp only [Bool.not_false,cond_true,needE,if_true,Bool.false_eq_true,false_and,if_false] at g2 ⊢
   refine ⟨e2,g2,fun h=>g3 ?_⟩
   cases h6:bilB (billOf c)
   ·rw [h6] at h; exact absurd h (by decide)
   ·rfl
  ·rw [a_sameLine n _ _ hn' (by omega)]
   simp only [Bool.not_true,cond_false,obs,true_and] at g2 ⊢
   by_cases h7:c.Bill.Lines=linesOf c
   ·simp only [h7,ne_eq,not_true_eq_false,if_false]
    rw [show decide (linesOf c=linF c.Calendar (sesF c.Readings) 0 c.Tariff.Articles)=true from dzT rfl]
    simp only [needE,if_true]
    refine ⟨e2,g2,fun h=>g3 ?_⟩
    cases h6:bilB (billOf c)
    ·rw [h6,if_pos rfl] at h; exact absurd h (by decide)
    ·rfl
   ·rw [dzF (show ¬ c.Bill.Lines=linF c.Calendar (sesF c.Readings) 0 c.Tariff.Articles from h7)]
    simp only [needE,Bool.false_eq_true,if_false,h7,ne_eq,not_false_eq_true,if_true]
    exact ⟨_,rfl,fun h=>absurd h (by decide)⟩
theorem a_examine (n:Nat) (c:GClaim) (own:Bool) (hn:36893488147419103232≤n):∃ e',g_a_examine n c own=some (e',exa c own)∧(exa c own=0→e'.bill=billOf c):=by
 have hn':1000≤n:=by omega
 unfold g_a_examine exa
 rw [a_chained n _ hn',obs]
 by_cases h1:chainOk c.Seed c.Readings
 rotate_left
 ·rw [okE_f h1,if_pos h1]
  exact ⟨_,rfl,fun h=>absurd h (by decide)⟩
 rw [okE_t h1,if_neg (not_not_intro h1)]
 simp only [exc]
 obtain ⟨e1,g1⟩:=a_tariffed n (⟨c,(⟨0,0,0,[]⟩:GSs),(⟨[],0,0,0⟩:GBill),0⟩:GAE) hn'
 rw [g1,obs]
 simp only
 cases h2:tariffB c.Tariff
 ·simp only [Bool.false_eq_true,if_false,if_true]
  exact ⟨_,rfl,fun h=>absurd h (by decide)⟩
 simp only [if_true,Bool.true_eq_false,if_false,tarM,exc]
 rw [a_dated n _ hn',obs]
 simp only
 cases h3:calB c.Calendar
 ·simp only [if_true,needE,Bool.false_eq_true,if_false]
  exact ⟨_,rfl,fun h=>absurd h (by decide)⟩
 simp only [if_true,needE,Bool.true_eq_false,if_false,exc]
 have hne:c.Readings ≠ []:=by intro h; have:=h1.1.1; rw [h] at this; simp at this
 obtain ⟨e2,g2⟩:=a_derive n (⟨c,(⟨0,0,0,[]⟩:GSs),(⟨[],0,0,0⟩:GBill),rateF 0 c.Tariff.Articles⟩:GAE) hn' hne h1.1.2
 rw [g2,obs]
 simp only
 cases h4:sesB (sesF c.Readings)
 ·simp only [Bool.false_eq_true,if_false,if_true]
  exact ⟨_,rfl,fun h=>absurd h (by decide)⟩
 simp only [if_true,Bool.true_eq_false,if_false,exc]
 obtain ⟨e3,g3,g4⟩:=a_j9 n c own hn h1 h2 h3 h4
 cases own
 ·simp only [Bool.false_eq_true,false_and,if_false,cond_false] at g3 g4 ⊢
  exact ⟨e3,g3,g4⟩
 ·have h48:(sesF c.Readings).Slices.length≤900:=by
   simp only [sesB,bae,decide_eq_true_eq] at h4
   omega
  rw [cond_true,a_compared n _ hn' h48,obs]
  simp only [true_and] at g3 g4 ⊢
  by_cases h7:c.Session=sesF c.Readings
  ·simp only [h7,decide_true,needE,if_true,exc,ne_eq,not_true_eq_false,if_false]
   exact ⟨e3,g3,g4⟩
  ·simp only [h7,decide_false,needE,if_true,exc,ne_eq,not_false_eq_true,if_false,Bool.false_eq_true]
   exact ⟨_,rfl,fun h=>absurd h (by decide)⟩
end Go.Proofs
namespace Go.Proofs
open Go Go.Abs
set_option maxRecDepth 100000
set_option linter.unusedVariables false
theorem a_verify (n:Nat) (c:GClaim) (hn:36893488147419103232≤n):g_a_Verify n c=some (exa c true):=by
 obtain ⟨e,g,_⟩:=a_examine n c true hn
 unfold g_a_Verify
 rw [g]; rfl
end Go.Proofs
namespace Go.Proofs
open Go Go.Abs
set_option maxRecDepth 100000
set_option linter.unusedVariables false
theorem a_sameBill (n:Nat) (a b:GBill) (hn:1000≤n) (hl:b.Lines.length≤900):g_ref33_Same n a b=some (decide (a=b)):=by
 obtain ⟨al,an,at',ao⟩:=a
 obtain ⟨bl,bn,bt,bo⟩:=b
 unfold g_ref33_Same
 simp only [lenI,List.length_map,eqI_d] at hl ⊢
 by_cases h:al.length=bl.length
 rotate_left
 ·have h':¬ (al.length:Int)=bl.length:=by omega
  have h2:¬ al=bl:=fun h3=>h (by rw [h3])
  simp [h',h2]
 ·rw [dzT (show (al.length:Int)=bl.length from by omega),Bool.not_true,cond_false]
  have:=loop_gen (l:=al) (fun (_:List GLine) i=>i) (B:=fun recl4 l4=>g_ref33_Same_l4 ⟨al,an,at',ao⟩ ⟨bl,bn,bt,bo⟩ recl4 l4) (F:=fun q r=>decide (r=q)&&(decide (an=bn)&&(decide (at'=bt)&&decide (ao=bo)))) (fun i q=>bl.drop i=q) (by omega) ?_ ?_ (n:=n) 0 bl (by simp) (by omega) (by omega)
  ·rw [show (((0:Nat):Int))=0 from rfl] at this
   rw [this]
   simp
  ·intro rec q hq
   simp only [g_ref33_Same_l4,g_ref33_Same_j1,lenI,List.length_map,ltI,eqI_d]
   rw [dzF (by omega),cond_false]
   rw [h,List.drop_length] at hq
   subst hq
   by_cases k1:an=bn <;> by_cases k2:at'=bt <;> by_cases k3:ao=bo <;> simp [k1,k2,k3]
  ·intro rec q i x r hq hd hx hi hw hr
   have hb:bl[i]?=some bl[i]:=by rw [List.getElem?_eq_getElem]
   have hq2:q=bl[i] :: bl.drop (i+1):=by rw [← hq,List.drop_eq_getElem_cons (by omega)]
   simp only [g_ref33_Same_l4,lenI,List.length_map,ltI,getI_nat,hx,hb,obs,eqI_d,opq,hw]
   rw [dzT (by omega),cond_true,hr _ rfl,hq2]
   obtain ⟨xm,xe⟩:=x
   generalize bl[i]=y
   obtain ⟨ym,ye⟩:=y
   by_cases h1:xm=ym <;> by_cases h2:xe=ye <;> simp [h1,h2]
structure Half (c:GClaim):Prop where
 h1:chainOk c.Seed c.Readings
 h2:tariffB c.Tariff=true
 h3:calB c.Calendar=true
 h4:sesB (sesF c.Readings)=true
 h6:linB (linesOf c)=true
 h8:bilB (billOf c)=true
theorem half_exa {c:GClaim} (z:Half c):exa c false=0:=by
 unfold exa
 simp only [Bool.false_eq_true,false_and,if_false]
 rw [if_neg (not_not_intro z.h1),if_neg (by rw [z.h2]; decide),if_neg (by rw [z.h3]; decide),if_neg (by rw [z.h4]; decide),if_neg (by rw [z.h6]; decide),if_neg (by rw [z.h8]; decide)]
theorem exa_with {c:GClaim} (z:Half c) (b:GBill):exa ⟨c.Tariff,c.Calendar,c.Readings,c.Seed,c.Session,b⟩ true=if c.Session ≠ sesF c.Readings then 3 else if b.Lines ≠ linesOf c then 4 else if b=billOf c then 0 else 5:=by
 have e1:linesOf ⟨c.Tariff,c.Calendar,c.Readings,c.Seed,c.Session,b⟩=linesOf c:=rfl
 have e2:billOf ⟨c.Tariff,c.Calendar,c.Readings,c.Seed,c.Session,b⟩=billOf c:=rfl
 have e3:(billOf c).Lines=linesOf c:=rfl
 unfold exa
 rw [e1,e2]
 rw [if_neg (not_not_intro z.h1),if_neg (by rw [z.h2]; decide),if_neg (by rw [z.h3]; decide),if_neg (by rw [z.h4]; decide)]
 simp only [true_and]
 by_cases k1:c.Session=sesF c.Readings
 rotate_left
 ·rw [if_pos k1,if_pos k1]
 rw [if_neg (not_not_intro k1),if_neg (not_not_intro k1),if_neg (by rw [z.h6]; decide)]
 by_cases k2:b.Lines=linesOf c
 rotate_left
 ·rw [if_pos k2,if_pos k2]
 rw [if_neg (not_not_intro k2),if_neg (not_not_intro k2),if_neg (by rw [z.h8]; decide)]
 by_cases k3:b=billOf c
 ·rw [if_pos k3,if_neg]
  rw [k3]; simp
 ·rw [if_neg k3,if_pos]
  intro h
  apply k3
  rw [← e3] at k2
  obtain ⟨bl,bn,bt,bo⟩:=b
  simp only at k2 h
  rw [k2,h.1,h.2.1,h.2.2]
theorem a_replay (n:Nat) (c:GClaim) (hn:36893488147419103232≤n):∃ b e,g_a_Replay n c=some (b,e)∧(exa c false=0→b=billOf c∧e=0)∧(exa c false ≠ 0→e ≠ 0):=by
 obtain ⟨e,g,g2⟩:=a_examine n c false hn
 unfold g_a_Replay
 simp only [g,obs,eqI_d]
 by_cases h0:exa c false=0
 ·rw [dzT h0]
  exact ⟨_,_,rfl,fun _=>⟨g2 h0,rfl⟩,fun h=>absurd h0 h⟩
 rw [dzF h0,cond_false]
 by_cases h1:exa c false=1
 ·rw [dzT h1]
  exact ⟨_,_,rfl,fun h=>absurd h h0,fun h=>by decide⟩
 rw [dzF h1,cond_false]
 by_cases h2:exa c false=2
 ·rw [dzT h2]
  exact ⟨_,_,rfl,fun h=>absurd h h0,fun h=>by decide⟩
 rw [dzF h2,cond_false]
 by_cases h3:exa c false=3
 ·rw [dzT h3]
  exact ⟨_,_,rfl,fun h=>absurd h h0,fun h=>by decide⟩
 rw [dzF h3,cond_false]
 exact ⟨_,_,rfl,fun h=>absurd h h0,fun h=>by decide⟩
end Go.Proofs
namespace Go.Proofs
open Go Go.Abs
set_option maxRecDepth 100000
set_option linter.unusedVariables false
def ks:List Nat:=[56,48,40,32,24,16,8,0]
end Go.Proofs
namespace Go.Proofs
open Go Go.Abs
set_option maxRecDepth 100000
set_option linter.unusedVariables false
theorem and255 (w:Int) (h0:0≤w) (h1:w≤18446744073709551615):bAnd .u64 w 255=w % 256:=by
 obtain ⟨k,rfl⟩:∃ k:Nat,w=(k:Int):=⟨w.toNat,by omega⟩
 have hb:(BitVec.ofInt 64 (k:Int) &&& BitVec.ofInt 64 255).toNat=k % 256:=by
  rw [BitVec.toNat_and,BitVec.ofInt_natCast,BitVec.toNat_ofNat,show (BitVec.ofInt 64 255).toNat=2 ^ 8 - 1 from by decide,Nat.and_two_pow_sub_one_eq_mod,Nat.mod_eq_of_lt (by omega:k < 2 ^ 64)]
 have:bAnd .u64 (k:Int) 255=wu ((BitVec.ofInt 64 (k:Int) &&& BitVec.ofInt 64 255).toNat:Int):=rfl
 rw [this,hb]
 simp only [wu,IntKind.wrap,IntKind.signed,IntKind.bits]
 simp
 omega
theorem shrU (w:Int) (k:Nat) (hk:k≤64):shrI .u64 w (k:Int)=w / 2 ^ k:=by
 unfold shrI
 rw [show min ((k:Int)).toNat IntKind.u64.bits=k from by rw [Int.toNat_natCast]; exact Nat.min_eq_left hk]
 rw [Int.fdiv_eq_ediv_of_nonneg _ (by exact_mod_cast Nat.zero_le _)]
theorem wu_range (x:Int):0≤wu x∧wu x≤18446744073709551615:=by
 simp only [wu,IntKind.wrap,IntKind.signed,IntKind.bits]
 simp
 omega
def fitP (l:List GReading) (i:Nat):Prop:=i < 64∧∀ r ∈ l[i]?,(1≤r.Serial∧r.Serial≤1000000)∧r.Number=i+1∧(0≤r.Minute∧r.Minute≤52560000)∧(0≤r.Register∧r.Register≤1000000000) ∧
 (i ≠ 0→∀ a ∈ l[i - 1]?,folB a r=true)
theorem chain_fit (seed:Int) (l:List GReading) (i:Nat) (hi:i < l.length):(i < 64∧chainAt seed l i)↔fitP l i∧∀ r ∈ l[i]?,r.Link=linkF (prevLink seed l i) r:=by
 unfold chainAt fitP
 constructor
 ·rintro ⟨h1,h2⟩
  exact ⟨⟨h1,fun r hr=>⟨(h2 r hr).1,(h2 r hr).2.1,(h2 r hr).2.2.1,(h2 r hr).2.2.2.1,(h2 r hr).2.2.2.2.1⟩⟩,fun r hr=>(h2 r hr).2.2.2.2.2⟩
 ·rintro ⟨⟨h1,h2⟩,h3⟩
  exact ⟨h1,fun r hr=>⟨(h2 r hr).1,(h2 r hr).2.1,(h2 r hr).2.2.1,(h2 r hr).2.2.2.1,(h2 r hr).2.2.2.2,h3 r hr⟩⟩
end Go.Proofs
namespace Go.Proofs
open Go Go.Abs
set_option maxRecDepth 100000
set_option linter.unusedVariables false
def keyL:List (List UInt8):=((g_ref02_Kinds 0).getD [])++(((g_ref02_Attrs 0).getD [])++(((g_ref02_Articles 0).getD [])++((g_ref02_Words 0).getD [])))
theorem cse (b c:Bool):(bif b then b else c)=(b||c):=by cases b <;> rfl
theorem cst (b c:Bool):(bif b then true else c)=(b||c):=by cases b <;> rfl
def keyA:List (List UInt8):=[[102,101,101,100,101,114],[99,97,98,108,101],[111,119,110,101,114],[99,111,110,116,114,97,99,116],[99,104,97,114,103,101,114],[98,97,121],[116,97,114,105,102,102],[108,105,109,105,116],[110,101,117,116,114,97,108],[102,117,115,101],[116,104,101,114,109,97,108],[102,114,111,109],[97,116],[112,104,97,115,101,115],[97,109,112,115],[102,97,108,108,98,97,99,107],[99,97,114,100],[114,97,110,107],[115,116,97,114,116],[101,110,101,114,103,121],[116,105,109,101],[105,100,108,101],[99,97,112],[116,97,120],[111,110],[119,111,114,107],[115,97,116,117,114,100,97,121],[115,117,110,100,97,121],[98,101,116,119,101,101,110],[112,101,114],[102,114,101,101]]
theorem keyB_any (s:List UInt8):keyB s=keyA.contains s:=by
 unfold keyB g_a_isKey keyA
 simp only [cond_some,obs,Option.getD_some,cse,cst,eqS,List.contains_cons,List.contains_nil,Bool.or_assoc,Bool.or_false]
theorem keyB_mem (s:List UInt8):keyB s=keyL.contains s:=by
 rw [keyB_any,Bool.eq_iff_iff,List.contains_iff_mem,List.contains_iff_mem]
 have h1:∀ x ∈ keyA,x ∈ keyL:=by decide
 have h2:∀ x ∈ keyL,x ∈ keyA:=by decide
 exact ⟨h1 s,h2 s⟩
theorem r_article (n:Nat) (a:GAr):g_ref32_Article n a=some (artB a):=by
 unfold g_ref32_Article artB g_a_validArticle
 simp only [a_inside,cond_some,obs,Option.getD_some,eqI_d,ltI,leI]
 rw [sie,Bool.eq_iff_iff]
 obtain ⟨k,d,f,t,p,u,v⟩:=a
 simp only [Bool.cond_eq_ite]
 by_cases k1:k=1
 ·subst k1; simp; omega
 by_cases k2:k=2
 ·subst k2; simp; omega
 by_cases k3:k=3
 ·subst k3; simp; omega
 by_cases k4:k=4
 ·subst k4; simp; omega
 by_cases k5:k=5
 ·subst k5; simp; omega
 by_cases k6:k=6
 ·subst k6; simp; omega
 simp [k1,k2,k3,k4,k5,k6]
 omega
theorem r_off (n:Nat) (x:Int):g_ref26_offset n x=some (decide (-1440≤x∧x≤1440)):=by
 unfold g_ref26_offset
 by_cases h:-1440≤x <;> simp [leI,h]
theorem r_cal5 (n:Nat) (c:GCl) (hn:1000≤n) (hl:c.Holidays.length≤900):g_ref26_Valid_j5 n c=some (holB (-1) c.Holidays):=by
 unfold g_ref26_Valid_j5
 have:=loop_gen (l:=c.Holidays) (fun (_:Int) i=>i) (B:=fun recl6 l6=>g_ref26_Valid_l6 c recl6 l6) (F:=holB) (fun i a=>-1≤a∧(i=0→a=-1)∧(i ≠ 0→c.Holidays[i - 1]?=some a)) (by omega) ?_ ?_ (n:=n) 0 (-1) (by simp) (by omega) (by omega)
 ·exact this
 ·intro rec a ha
  simp only [g_ref26_Valid_l6,lenI,List.length_map,ltI]
  rw [dzF (by omega),cond_false]
  rfl
 ·intro rec a i x r ha hd hx hi hw hr
  simp only [g_ref26_Valid_l6,lenI,List.length_map,ltI,leI,getI_nat,hx,obs,hw]
  rw [dzT (by omega),cond_true,holB]
  by_cases c1:x < 0
  ·rw [dzT c1]
   simp only [cond_true,obs]
   rw [dzF (show ¬ (a < x∧x≤36500) by omega)]; rfl
  rw [dzF c1,cond_false]
  by_cases c2:36500 < x
  ·rw [dzT c2]
   simp only [cond_true,obs]
   rw [dzF (show ¬ (a < x∧x≤36500) by omega)]; rfl
  rw [dzF c2,cond_false]
  have hrr:=hr x ⟨by omega,by omega,fun _=>by simpa using hx⟩
  by_cases c3:i=0
  ·rw [dzF (show ¬ (0:Int) < i by omega)]
   simp only [cond_false,obs]
   rw [hrr,dzT (show a < x∧x≤36500 by have:=ha.2.1 c3; omega)]; rfl
  ·rw [dzT (show (0:Int) < i by omega),cond_true,show wi ((i:Int) - 1)=((i - 1:Nat):Int) from by rw [wi_id] <;> omega,getI_nat,ha.2.2 c3]
   simp only [obs]
   by_cases c4:x≤a
   ·rw [dzT c4,cond_true,dzF (show ¬ (a < x∧x≤36500) by omega)]; rfl
   ·rw [dzF c4,cond_false,hrr,dzT (show a < x∧x≤36500 by omega)]; rfl
theorem r_cal (n:Nat) (c:GCl) (hn:1000≤n) (h1:c.Changes.length≤900) (h2:c.Holidays.length≤900):g_ref26_Valid n c=some (calB c):=by
 have key:loopN (fun recl13 l13=>g_ref26_Valid_l13 n c recl13 l13) n 0=some (chgB (-1) c.Changes&&holB (-1) c.Holidays):=by
  have:=loop_gen (l:=c.Changes) (fun (_:Int) i=>i) (B:=fun recl13 l13=>g_ref26_Valid_l13 n c recl13 l13) (F:=fun a r=>chgB a r&&holB (-1) c.Holidays) (fun i a=>-1≤a∧(i=0→a=-1)∧(i ≠ 0→∃ x,c.Changes[i - 1]?=some x∧x.At=a)) (by omega) ?_ ?_ (n:=n) 0 (-1) (by simp) (by omega) (by omega)
  ·exact this
  ·intro rec a ha
   simp only [g_ref26_Valid_l13,lenI,List.length_map,ltI]
   rw [dzF (by omega),cond_false,r_cal5 n c hn h2]
   rfl
  ·intro rec a i x r ha hd hx hi hw hr
   simp only [g_ref26_Valid_l13,lenI,List.length_map,ltI,leI,getI_nat,hx,obs,hw,r_off]
   rw [dzT (by omega),cond_true,chgB]
   by_cases c0:-1440≤x.Offset∧x.Offset≤1440
   rotate_left
   ·rw [dzF c0]
    simp only [Bool.not_false,cond_true,obs]
    rw [dzF (show ¬ (a < x.At∧x.At≤52560000∧-1440≤x.Offset∧x.Offset≤1440) by omega)]; rfl
   rw [dzT c0,Bool.not_true,cond_false]
   by_cases c1:x.At < 0
   ·rw [dzT c1]
    simp only [cond_true,obs]
    rw [dzF (show ¬ (a < x.At∧x.At≤52560000∧-1440≤x.Offset∧x.Offset≤1440) by omega)]; rfl
   rw [dzF c1,cond_false]
   by_cases c2:52560000 < x.At
   ·rw [dzT c2]
    simp only [cond_true,obs]
    rw [dzF (show ¬ (a < x.At∧x.At≤52560000∧-1440≤x.Offset∧x.Offset≤1440) by omega)]; rfl
   rw [dzF c2,cond_false]
   have hrr:=hr x.At ⟨by omega,by omega,fun _=>⟨x,by simpa using hx,rfl⟩⟩
   by_cases c3:i=0
   ·rw [dzF (show ¬ (0:Int) < i by omega)]
    simp only [cond_false,obs]
    rw [hrr,dzT (show a < x.At∧x.At≤52560000∧-1440≤x.Offset∧x.Offset≤1440 by have:=ha.2.1 c3; omega)]; rfl
   ·obtain ⟨y,hy,hya⟩:=ha.2.2 c3
    rw [dzT (show (0:Int) < i by omega),cond_true,show wi ((i:Int) - 1)=((i - 1:Nat):Int) from by rw [wi_id] <;> omega,getI_nat,hy]
    simp only [obs,hya]
    by_cases c4:x.At≤a
    ·rw [dzT c4,cond_true,dzF (show ¬ (a < x.At∧x.At≤52560000∧-1440≤x.Offset∧x.Offset≤1440) by omega)]; rfl
    ·rw [dzF c4,cond_false,hrr,dzT (show a < x.At∧x.At≤52560000∧-1440≤x.Offset∧x.Offset≤1440 by omega)]; rfl
 unfold g_ref26_Valid calB
 rw [key]
 simp only [r_off,obs,cond_some,lenI,List.length_map,ltI]
 by_cases c0:-1440≤c.Offset∧c.Offset≤1440
 rotate_left
 ·rw [dzF c0]; rfl
 rw [dzT c0]
 by_cases c1:c.Changes.length≤16
 rotate_left
 ·rw [dzT (show (16:Int) < c.Changes.length by omega),dzF c1]; rfl
 rw [dzF (show ¬ (16:Int) < c.Changes.length by omega),dzT c1]
 by_cases c2:c.Holidays.length≤32
 rotate_left
 ·rw [dzT (show (32:Int) < c.Holidays.length by omega),dzF c2]; rfl
 rw [dzF (show ¬ (32:Int) < c.Holidays.length by omega),dzT c2]
 rfl
end Go.Proofs
namespace Go.Proofs
open Go Go.Abs
set_option maxRecDepth 100000
set_option linter.unusedVariables false
structure Art (a:GAr):Prop where
 days:1≤a.Days∧a.Days≤7
 from_:0≤a.From∧a.From≤1439
 to_:a.From < a.To∧a.To≤1440
 price:0≤a.Price∧a.Price≤1000000
 kind:1≤a.Kind∧a.Kind≤6
 unit:a.Kind=3∨a.Kind=4→1≤a.Unit∧a.Unit≤1440∧0≤a.Free∧a.Free≤1440
 rate:a.Kind=6→a.Price≤10000
theorem artB_art {a:GAr} (h:artB a=true):Art a:=by
 unfold artB g_a_validArticle at h
 simp only [a_inside,cond_some,obs,Option.getD_some,eqI_d,ltI,leI] at h
 obtain ⟨k,d,f,t,p,u,v⟩:=a
 simp only [Bool.cond_eq_ite] at h
 by_cases k1:k=1
 ·subst k1; simp at h; constructor <;> simp <;> omega
 by_cases k2:k=2
 ·subst k2; simp at h; constructor <;> simp <;> omega
 by_cases k3:k=3
 ·subst k3; simp at h; constructor <;> simp <;> omega
 by_cases k4:k=4
 ·subst k4; simp at h; constructor <;> simp <;> omega
 by_cases k5:k=5
 ·subst k5; simp at h; constructor <;> simp <;> omega
 by_cases k6:k=6
 ·subst k6; simp at h; constructor <;> simp <;> omega
 exfalso
 simp [k3,k4,k5,k6] at h
 omega
theorem offF_range (m:Int):∀ (l:List GCh) (p o:Int),chgB p l=true→(-1440≤o∧o≤1440)→-1440≤offF m o l∧offF m o l≤1440
 | [],_,o,_,h=>h
 | x :: r,p,o,hc,h=>by
  simp only [chgB,bae,decide_eq_true_eq] at hc
  unfold offF
  refine offF_range m r x.At _ hc.2 ?_
  split
  ·exact ⟨hc.1.2.2.1,hc.1.2.2.2⟩
  ·exact h
theorem cal_off {c:GCl} (m:Int) (h:calB c=true):-1440≤offF m c.Offset c.Changes∧offF m c.Offset c.Changes≤1440:=by
 simp only [calB,bae,decide_eq_true_eq] at h
 exact offF_range m _ _ _ h.1.2 h.1.1.1.1
theorem r_offset (n:Nat) (c:GCl) (m:Int) (hn:1000≤n) (hl:c.Changes.length≤900):g_ref26_Offset n c m=some (offF m c.Offset c.Changes):=by
 unfold g_ref26_Offset
 have:=loop_acc (l:=c.Changes) (B:=fun recl1 (v:Int × Int)=>g_ref26_Offset_l1 c m recl1 v.1 v.2) (F:=offF m) (by omega) ?_ ?_ (n:=n) 0 c.Offset (by omega) (by omega)
 ·exact this
 ·intro rec a; simp [g_ref26_Offset_l1,ltI,lenI,offF]
 ·intro rec a i x r hd hx hi hw hr
  simp only [g_ref26_Offset_l1,lenI,List.length_map,getI_nat,hx,obs,hw,hr,ltI,leI,offF]
  rw [dzT (by omega),cond_true]
  by_cases h:x.At≤m <;> simp [h]
theorem r_type (n:Nat) (c:GCl) (d:Int) (hn:1000≤n) (h1:c.Changes.length≤900) (h2:c.Holidays.length≤900) (hc:calB c=true) (hd:-1≤d∧d≤36501):g_ref26_Type n c d=some (typF d c.Holidays,0):=by
 unfold g_ref26_Type
 rw [r_cal n c hn h1 h2,hc]
 simp only [obs,Bool.not_true,cond_false,ltI]
 rw [dzF (show ¬ d < -1 by omega),cond_false,obs,dzF (show ¬ 36501 < d by omega),cond_false]
 have:=loop_list (l:=c.Holidays) (B:=fun recl6 l6=>g_ref26_Type_l6 c d recl6 l6) (F:=fun r=>(typF d r,(0:Int))) (by omega) ?_ ?_ (n:=n) 0 (by omega) (by omega)
 ·exact this
 ·intro rec
  simp only [g_ref26_Type_l6,g_ref26_Type_j5,lenI,List.length_map,ltI,eqI_d,typF,wkF]
  rw [dzF (by omega),cond_false]
  by_cases k1:Int.tmod (wi (d+7)) 7=5
  ·simp [k1]
  ·by_cases k2:Int.tmod (wi (d+7)) 7=6 <;> simp [k1,k2]
 ·intro rec i x r hd hx hi hw hr
  simp only [g_ref26_Type_l6,lenI,List.length_map,getI_nat,hx,obs,hw,hr,ltI,eqI_d,typF]
  rw [dzT (by omega),cond_true]
  by_cases h:x=d <;> simp [h]
theorem days_lem (d t:Int) (hd:1≤d∧d≤7) (ht:0≤t∧t≤2) :
  (bif decide (t=2) then decide (Int.tmod (wi (Int.tdiv d 4)) 2=1) else bif decide (t=1) then decide (Int.tmod (wi (Int.tdiv d 2)) 2=1) else decide (Int.tmod d 2=1))=!decide (bAnd .i64 d (shlI .i64 1 t)=0):=by
 have hd':d=1∨d=2∨d=3∨d=4∨d=5∨d=6∨d=7:=by omega
 have ht':t=0∨t=1∨t=2:=by omega
 rcases hd' with rfl | rfl | rfl | rfl | rfl | rfl | rfl <;> rcases ht' with rfl | rfl | rfl <;> decide
theorem r_applies (n:Nat) (c:GCl) (a:GAr) (m:Int) (hn:1000≤n) (h1:c.Changes.length≤900) (h2:c.Holidays.length≤900) (hc:calB c=true) (ha:artB a=true) (hm:0≤m∧m≤52560000) :
  g_ref32_Applies n a c m=some (appB c a m):=by
 have ho:=cal_off m hc
 have hA:=artB_art ha
 have hloc:g_ref26_Local n c m=some ((m+offF m c.Offset c.Changes+1440) / 1440 - 1,(m+offF m c.Offset c.Changes+1440) % 1440,0):=by
  unfold g_ref26_Local
  rw [r_cal n c hn h1 h2,hc]
  simp only [obs,Bool.not_true,cond_false,ltI]
  rw [dzF (show ¬ m < 0 by omega),cond_false,obs,dzF (show ¬ 52560000 < m by omega),cond_false,r_offset n c m hn h1,obs]
  generalize offF m c.Offset c.Changes=o at ho
  rw [wi_id (x:=m+o) (by omega) (by omega)]
  by_cases hneg:m+o < 0
  ·rw [dzT hneg,cond_true,wi_id (x:=m+o - -1440) (by omega) (by omega)]
   congr 2
   ·omega
   ·congr 1
    omega
  ·rw [dzF hneg,cond_false,Int.tdiv_eq_ediv_of_nonneg (by omega)]
   rw [wi_id (x:=(m+o) / 1440) (by omega) (by omega),wi_id (x:=1440 * ((m+o) / 1440)) (by omega) (by omega),wi_id (by omega) (by omega)]
   congr 2
   ·omega
   ·congr 1
    omega
 unfold g_ref32_Applies appB
 rw [r_article,ha,hloc]
 simp only [obs,Bool.not_true,cond_false,eqI_d,decide_true]
 generalize offF m c.Offset c.Changes=o at ho
 rw [wi_id (x:=m+o) (by omega) (by omega),wi_id (x:=m+o+1440) (by omega) (by omega)]
 rw [Int.tdiv_eq_ediv_of_nonneg (a:=m+o+1440) (by omega),Int.tmod_eq_emod_of_nonneg (a:=m+o+1440) (by omega)]
 rw [wi_id (x:=(m+o+1440) / 1440) (by omega) (by omega),wi_id (x:=(m+o+1440) / 1440 - 1) (by omega) (by omega)]
 rw [r_type n c _ hn h1 h2 hc (by omega)]
 simp only [obs,cond_some,leI,ltI]
 rw [days_lem _ _ hA.days (typF_range _ _)]
 generalize decide (bAnd .i64 a.Days (shlI .i64 1 (typF ((m+o+1440) / 1440 - 1) c.Holidays))=0)=b
 generalize decide (a.From≤(m+o+1440) % 1440)=b1
 generalize decide ((m+o+1440) % 1440 < a.To)=b2
 cases b <;> cases b1 <;> cases b2 <;> rfl
def cN (c:GCl) (a:GAr):Nat→Int→Int
 | 0,_=>0
 | k+1,m=>(if appB c a m then 1 else 0)+cN c a k (m+1)
theorem cN_range (c:GCl) (a:GAr):∀ (k:Nat) (m:Int),0≤cN c a k m∧cN c a k m≤k
 | 0,_=>by simp [cN]
 | k+1,m=>by
  have:=cN_range c a k (m+1)
  unfold cN
  split <;> omega
theorem cntF_cN (c:GCl) (a:GAr):∀ (k:Nat) (m z:Int),k≤1000000→-1000000≤z∧z≤2000000 - k→cntF c a k m z=z+cN c a k m
 | 0,m,z,_,_=>by simp [cntF,cN]
 | k+1,m,z,hk,hz=>by
  unfold cntF cN
  split
  ·rw [wi_id (by omega) (by omega),cntF_cN c a k (m+1) (z+1) (by omega) (by omega)]
   omega
  ·rw [cntF_cN c a k (m+1) z (by omega) (by omega)]
   omega
theorem r_minutes (n:Nat) (c:GCl) (a:GAr) (f t:Int) (hn:10000≤n) (h1:c.Changes.length≤900) (h2:c.Holidays.length≤900) (hc:calB c=true) (ha:artB a=true) (hf:0≤f) (ht:t≤52560000) (hk:t - f≤2880) :
  g_ref33_Minutes n a c f t=some (cN c a (t - f).toNat f):=by
 unfold g_ref33_Minutes
 have key:∀ (k j:Nat) (z m:Int),(t - m).toNat=k→k < j→0≤m→k≤2880→0≤z∧z≤3000 - k →
   loopN (fun recl1 (v:Int × Int)=>g_ref33_Minutes_l1 n a c t recl1 v.1 v.2) j (z,m)=some (z+cN c a k m):=by
  intro k
  induction k with
  | zero =>
   intro j z m h3 h4 h5 h6 h7
   obtain ⟨j,rfl⟩:∃ j',j=j'+1:=⟨j - 1,by omega⟩
   unfold loopN
   simp only [g_ref33_Minutes_l1,ltI]
   rw [dzF (by omega),cond_false]
   simp [cN]
  | succ k ih =>
   intro j z m h3 h4 h5 h6 h7
   obtain ⟨j,rfl⟩:∃ j',j=j'+1:=⟨j - 1,by omega⟩
   have i0:=ih j z (m+1) (by omega) (by omega) (by omega) (by omega) (by omega)
   have i1:=ih j (z+1) (m+1) (by omega) (by omega) (by omega) (by omega) (by omega)
   unfold loopN
   generalize loopN (fun recl1 (v:Int × Int)=>g_ref33_Minutes_l1 n a c t recl1 v.1 v.2) j=L at i0 i1 ⊢
   show g_ref33_Minutes_l1 n a c t L z m=_
   unfold g_ref33_Minutes_l1
   simp only [ltI]
   rw [dzT (by omega),cond_true,r_applies n c a m (by omega) h1 h2 hc ha (by omega),obs,wi_id (x:=m+1) (by omega) (by omega),wi_id (x:=z+1) (by omega) (by omega)]
   unfold cN
   cases appB c a m
   ·rw [cond_false,i0]
    simp
   ·rw [cond_true,i1]
    simp
    omega
 have:=key (t - f).toNat n 0 f rfl (by omega) hf (by omega) (by omega)
 rw [Int.zero_add] at this
 exact this
def slB (f e:Int):Int→List GSl→Bool
 | _,[]=>true
 | p,x :: r=>decide (f≤x.Minute∧x.Minute < e∧0≤x.Energy∧x.Energy≤10000∧p < x.Minute)&&slB f e x.Minute r
def valB (s:GSs):Bool:=decide (0≤s.From∧s.From < s.To∧s.To≤52560000∧s.To - s.From≤2880∧s.From≤s.End∧s.End≤s.To∧s.Slices.length≤48)&&slB s.From s.End (s.From - 1) s.Slices
theorem r_session_valid (n:Nat) (s:GSs) (hn:1000≤n) (hl:s.Slices.length≤900) (hb:i64b s.From):g_ref33_Valid n s=some (valB s):=by
 unfold i64b at hb
 unfold g_ref33_Valid valB
 simp only [ltI,leI,lenI,List.length_map]
 have key:loopN (fun recl8 l8=>g_ref33_Valid_l8 s recl8 l8) n 0=some (slB s.From s.End (s.From - 1) s.Slices):=by
  have:=loop_gen (l:=s.Slices) (fun (_:Int) i=>i) (B:=fun recl8 l8=>g_ref33_Valid_l8 s recl8 l8) (F:=slB s.From s.End) (fun i a=>s.From - 1≤a∧(i=0→a=s.From - 1)∧(i ≠ 0→∃ x,s.Slices[i - 1]?=some x∧x.Minute=a)) (by omega) ?_ ?_ (n:=n) 0 (s.From - 1) (by simp) (by omega) (by omega)
  ·exact this
  ·intro rec a ha
   simp only [g_ref33_Valid_l8,lenI,List.length_map,ltI]
   rw [dzF (by omega),cond_false]
   rfl
  ·intro rec a i x r ha hd hx hi hw hr
   simp only [g_ref33_Valid_l8,lenI,List.length_map,ltI,leI,getI_nat,hx,obs,hw]
   rw [dzT (by omega),cond_true,slB]
   by_cases c1:x.Minute < s.From
   ·rw [dzT c1,cond_true,obs,cond_true,dzF (by omega)]; rfl
   rw [dzF c1,cond_false]
   by_cases c2:s.End≤x.Minute
   ·rw [dzT c2,cond_true,obs,cond_true,dzF (by omega)]; rfl
   rw [dzF c2,cond_false]
   by_cases c3:x.Energy < 0
   ·rw [dzT c3,cond_true,obs,cond_true,dzF (by omega)]; rfl
   rw [dzF c3,cond_false]
   by_cases c4:10000 < x.Energy
   ·rw [dzT c4,cond_true,obs,cond_true,dzF (by omega)]; rfl
   rw [dzF c4,cond_false]
   have hrr:=hr x.Minute ⟨by omega,by omega,fun _=>⟨x,by simpa using hx,rfl⟩⟩
   by_cases c5:i=0
   ·rw [dzF (show ¬ (0:Int) < i by omega),cond_false,obs,cond_false,hrr,dzT (show s.From≤x.Minute∧x.Minute < s.End∧0≤x.Energy∧x.Energy≤10000∧a < x.Minute by have:=ha.2.1 c5; omega)]; rfl
   ·obtain ⟨y,hy,hya⟩:=ha.2.2 c5
    rw [dzT (show (0:Int) < i by omega),cond_true,show wi ((i:Int) - 1)=((i - 1:Nat):Int) from by rw [wi_id] <;> omega,getI_nat,hy]
    simp only [obs,hya]
    by_cases c6:x.Minute≤a
    ·rw [dzT c6,cond_true,dzF (show ¬ (s.From≤x.Minute∧x.Minute < s.End∧0≤x.Energy∧x.Energy≤10000∧a < x.Minute) by omega)]; rfl
    ·rw [dzF c6,cond_false,hrr,dzT (show s.From≤x.Minute∧x.Minute < s.End∧0≤x.Energy∧x.Energy≤10000∧a < x.Minute by omega)]; rfl
 rw [key]
 by_cases c1:s.From < 0
 ·rw [dzT c1,cond_true,obs,cond_true,dzF (by omega)]; rfl
 rw [dzF c1,cond_false]
 by_cases c2:s.To≤s.From
 ·rw [dzT c2,cond_true,obs,cond_true,dzF (by omega)]; rfl
 rw [dzF c2,cond_false]
 by_cases c3:52560000 < s.To
 ·rw [dzT c3,cond_true,obs,cond_true,dzF (by omega)]; rfl
 rw [dzF c3,cond_false,wi_id (x:=s.To - s.From) (by omega) (by omega)]
 by_cases c4:2880 < s.To - s.From
 ·rw [dzT c4,cond_true,obs,cond_true,dzF (by omega)]; rfl
 rw [dzF c4,cond_false]
 by_cases c5:s.End < s.From
 ·rw [dzT c5,cond_true,obs,cond_true,dzF (by omega)]; rfl
 rw [dzF c5,cond_false]
 by_cases c6:s.To < s.End
 ·rw [dzT c6,cond_true,obs,cond_true,dzF (by omega)]; rfl
 rw [dzF c6,cond_false,obs]
 by_cases c7:s.Slices.length≤48
 ·rw [dzF (show ¬ (48:Int) < s.Slices.length by omega),cond_false,dzT (show 0≤s.From∧s.From < s.To∧s.To≤52560000∧s.To - s.From≤2880∧s.From≤s.End∧s.End≤s.To∧s.Slices.length≤48 by omega)]; rfl
 ·rw [dzT (show (48:Int) < s.Slices.length by omega),cond_true,dzF (show ¬ (0≤s.From∧s.From < s.To∧s.To≤52560000∧s.To - s.From≤2880∧s.From≤s.End∧s.End≤s.To∧s.Slices.length≤48) by omega)]; rfl
end Go.Proofs
namespace Go.Proofs
open Go Go.Abs
set_option maxRecDepth 100000
set_option linter.unusedVariables false
theorem slB_mem {f e:Int}:∀ {l:List GSl} {p:Int},slB f e p l=true→∀ x ∈ l,f≤x.Minute∧x.Minute < e∧0≤x.Energy∧x.Energy≤10000
 | [],_,_,x,hx=>by cases hx
 | y :: r,p,h,x,hx=>by
  simp only [slB,bae,decide_eq_true_eq] at h
  rcases List.mem_cons.1 hx with rfl | hx
  ·omega
  ·exact slB_mem h.2 x hx
theorem eneF_range (c:GCl) (a:GAr):∀ (l:List GSl) (z:Int),(∀ x ∈ l,0≤x.Energy∧x.Energy≤10000)→0≤z→z+10000 * l.length≤10000000→0≤eneF c a z l∧eneF c a z l≤z+10000 * l.length
 | [],z,_,h0,h1=>by
  show 0≤z∧z≤z+10000 * ((0:Nat):Int)
  omega
 | x :: r,z,h,h0,h1=>by
  have hx:=h x List.mem_cons_self
  simp only [List.length_cons] at h1 ⊢
  unfold eneF
  split
  ·rw [wi_id (by omega) (by omega)]
   have:=eneF_range c a r (z+x.Energy) (fun y hy=>h y (List.mem_cons_of_mem _ hy)) (by omega) (by omega)
   omega
  ·have:=eneF_range c a r z (fun y hy=>h y (List.mem_cons_of_mem _ hy)) (by omega) (by omega)
   omega
theorem r_energy (n:Nat) (c:GCl) (a:GAr) (s:GSs) (hn:1000≤n) (h1:c.Changes.length≤900) (h2:c.Holidays.length≤900) (hc:calB c=true) (ha:artB a=true) (hl:s.Slices.length≤900) (hs:∀ x ∈ s.Slices,0≤x.Minute∧x.Minute≤52560000) :
  g_ref33_Energy n a c s=some (eneF c a 0 s.Slices):=by
 unfold g_ref33_Energy
 have:=loop_acc (l:=s.Slices) (B:=fun recl1 (v:Int × Int)=>g_ref33_Energy_l1 n a c s recl1 v.1 v.2) (F:=eneF c a) (by omega) ?_ ?_ (n:=n) 0 0 (by omega) (by omega)
 ·exact this
 ·intro rec z
  have h:ltI ((s.Slices.length:Nat):Int) (lenI (List.map GSl.cs s.Slices))=false:=by simp [ltI,lenI]
  show g_ref33_Energy_l1 n a c s rec z ((s.Slices.length:Nat):Int)=some z
  unfold g_ref33_Energy_l1
  rw [h,cond_false]
 ·intro rec z i x r hd hx hi hw hr
  have h3:ltI (i:Int) (lenI (List.map GSl.cs s.Slices))=true:=by
   simp only [ltI,lenI,List.length_map]
   rw [dzT (by omega)]
  show g_ref33_Energy_l1 n a c s rec z (i:Int)=some (eneF c a z (x :: r))
  unfold g_ref33_Energy_l1 eneF
  rw [h3,cond_true,getI_nat,hx,obs,r_applies n c a x.Minute hn h1 h2 hc ha (hs x (List.mem_of_getElem? hx)),obs,obs,hw,hr,hr]
  cases appB c a x.Minute
  ·rfl
  ·rfl
theorem r_amount (n:Nat) (x:Int):g_ref31_amount n x=some (decide (0≤x∧x≤1000000000)):=by
 unfold g_ref31_amount
 by_cases h:0≤x <;> simp [leI,h]
theorem r_checked (n:Nat) (x:Int) (h:0≤x):g_ref31_checked n x=some (if x≤1000000000 then (x,0) else (0,3)):=by
 unfold g_ref31_checked
 rw [r_amount,obs]
 by_cases h1:x≤1000000000
 ·rw [dzT ⟨h,h1⟩,if_pos h1]; rfl
 ·rw [dzF (fun h=>h1 h.2),if_neg h1]; rfl
theorem mul_bound {x y X Y:Int} (hx:0≤x∧x≤X) (hy:0≤y∧y≤Y):0≤x * y∧x * y≤X * Y :=
 ⟨Int.mul_nonneg hx.1 hy.1,Int.mul_le_mul hx.2 hy.2 hy.1 (Int.le_trans hx.1 hx.2)⟩
theorem r_times (n:Nat) (p q:Int) (hp:0≤p∧p≤1000000) (hq:0≤q∧q≤480000) :
  g_ref31_Times n p q 1000=some (if wi (Int.tdiv (wi (wi (wi (2 * p) * q)+1000)) 2000)≤1000000000 then (wi (Int.tdiv (wi (wi (wi (2 * p) * q)+1000)) 2000),0) else (0,3))∧0≤wi (Int.tdiv (wi (wi (wi (2 * p) * q)+1000)) 2000):=by
 have hb:=mul_bound hp hq
 have e1:wi (p * q)=p * q:=wi_id (by omega) (by omega)
 have e2:wi (2 * p)=2 * p:=wi_id (by omega) (by omega)
 have e3:2 * p * q=2 * (p * q):=Int.mul_assoc ..
 have e4:wi (2 * (p * q))=2 * (p * q):=wi_id (by omega) (by omega)
 have e5:wi (2 * (p * q)+1000)=2 * (p * q)+1000:=wi_id (by omega) (by omega)
 have e6:Int.tdiv (2 * (p * q)+1000) 2000=(2 * (p * q)+1000) / 2000:=Int.tdiv_eq_ediv_of_nonneg (by omega)
 have e7:wi ((2 * (p * q)+1000) / 2000)=(2 * (p * q)+1000) / 2000:=wi_id (by omega) (by omega)
 rw [e2,e3,e4,e5,e6,e7]
 refine ⟨?_,by omega⟩
 unfold g_ref31_Times g_ref31_divided
 simp only [r_amount,obs]
 rw [dzT (show 0≤p∧p≤1000000000 by omega),dzT (show 0≤q∧q≤1000000000 by omega)]
 simp only [Bool.not_true,cond_false,obs,show ltI 1000 1=false from rfl,show ltI 1000000000 1000=false from rfl]
 rw [show wi (2 * 1000)=2000 from rfl,show (!eqI 2000 0)=true from rfl,cond_true,obs,e1,e4,e5,e6,e7,r_checked n _ (by omega),obs]
theorem r_started (n:Nat) (p q u:Int) (hp:0≤p∧p≤1000000) (hq:0≤q∧q≤3000) (hu:1≤u∧u≤1440) :
  g_ref31_Started n p q u=some (if wi (p * wi (Int.tdiv (wi (wi (q+u) - 1)) u))≤1000000000 then (wi (p * wi (Int.tdiv (wi (wi (q+u) - 1)) u)),0) else (0,3))∧0≤wi (p * wi (Int.tdiv (wi (wi (q+u) - 1)) u)):=by
 have e1:wi (q+u)=q+u:=wi_id (by omega) (by omega)
 have e2:wi (q+u - 1)=q+u - 1:=wi_id (by omega) (by omega)
 have e3:Int.tdiv (q+u - 1) u=(q+u - 1) / u:=Int.tdiv_eq_ediv_of_nonneg (by omega)
 have hd:0≤(q+u - 1) / u∧(q+u - 1) / u≤5000:=by
  constructor
  ·exact Int.ediv_nonneg (by omega) (by omega)
  ·have:=Int.ediv_le_self (a:=q+u - 1) u (by omega)
   omega
 have e4:wi ((q+u - 1) / u)=(q+u - 1) / u:=wi_id (by omega) (by omega)
 have hb:=mul_bound hp hd
 have e5:wi (p * ((q+u - 1) / u))=p * ((q+u - 1) / u):=wi_id (by omega) (by omega)
 rw [e1,e2,e3,e4,e5]
 refine ⟨?_,hb.1⟩
 unfold g_ref31_Started
 simp only [r_amount,obs]
 rw [dzT (show 0≤p∧p≤1000000000 by omega),dzT (show 0≤q∧q≤1000000000 by omega)]
 simp only [Bool.not_true,cond_false,ltI,eqI_d]
 rw [dzF (show ¬ u < 1 by omega),cond_false,obs,dzF (show ¬ 1000000000 < u by omega),cond_false,dzF (show ¬ u=0 by omega),Bool.not_false,cond_true,e1,e2,e3,e4,e5,r_checked n _ hb.1,obs]
theorem r_sta (n:Nat) (c:GCl) (a:GAr) (f t:Int) (hn:10000≤n) (h1:c.Changes.length≤900) (h2:c.Holidays.length≤900) (hc:calB c=true) (ha:artB a=true) (hk34:a.Kind=3∨a.Kind=4) (hf:0≤f) (ht:t≤52560000) (hk:t - f≤2880) :
  ((g_ref33_Minutes n a c f t).bind fun r=>(g_ref31_Started n a.Price (maxI 0 (wi (r - a.Free))) a.Unit).bind fun r=>some (r.1,r.2))=some (if staF c a f t≤1000000000 then (staF c a f t,0) else (0,3))∧0≤staF c a f t:=by
 have hA:=artB_art ha
 have hU:=hA.unit hk34
 have hcn:=cN_range c a (t - f).toNat f
 have eq:maxI 0 (wi (cN c a (t - f).toNat f - a.Free))=maxI 0 (cntF c a (t - f).toNat f (wi (0 - a.Free))):=by
  rw [wi_id (x:=0 - a.Free) (by omega) (by omega),cntF_cN c a _ _ _ (by omega) (by omega),wi_id (by omega) (by omega)]
  congr 1
  omega
 have hq:0≤maxI 0 (wi (cN c a (t - f).toNat f - a.Free))∧maxI 0 (wi (cN c a (t - f).toNat f - a.Free))≤3000:=by
  rw [wi_id (by omega) (by omega)]
  unfold maxI
  split <;> omega
 have hs:=r_started n a.Price _ a.Unit hA.price hq ⟨hU.1,hU.2.1⟩
 rw [eq] at hs
 unfold staF
 refine ⟨?_,hs.2⟩
 rw [r_minutes n c a f t hn h1 h2 hc ha hf ht hk,obs,eq,hs.1,obs]
theorem r_line (n:Nat) (c:GCl) (a:GAr) (s:GSs) (hn:10000≤n) (h1:c.Changes.length≤900) (h2:c.Holidays.length≤900) (hc:calB c=true) (ha:artB a=true) (hv:valB s=true) :
  g_ref33_Line n a c s=some (if cosF c s a≤1000000000 then (cosF c s a,0) else (0,3))∧0≤cosF c s a:=by
 have hA:=artB_art ha
 have hv':=hv
 simp only [valB,bae,decide_eq_true_eq] at hv'
 obtain ⟨hr,hs⟩:=hv'
 unfold g_ref33_Line cosF
 rw [r_article,r_cal n c (by omega) h1 h2,r_session_valid n s (by omega) (by omega) (by unfold i64b; omega),ha,hc,hv]
 simp only [obs,Bool.not_true,cond_false,eqI_d]
 by_cases k1:a.Kind=1
 ·rw [dzT k1,cond_true,if_pos k1,wi_id (x:=s.From+1) (by omega) (by omega),r_minutes n c a s.From (s.From+1) hn h1 h2 hc ha hr.1 (by omega) (by omega),obs]
  rw [show (s.From+1 - s.From).toNat=1 from by omega]
  unfold cN cN
  have:=hA.price
  cases appB c a s.From
  ·refine ⟨?_,by simp⟩
   simp
   rfl
  ·rw [if_pos rfl,if_pos rfl,if_pos (by omega),show (1:Int)+0=1 from rfl,Int.mul_one,wi_id (by omega) (by omega)]
   exact ⟨rfl,this.1⟩
 rw [dzF k1,cond_false,if_neg k1]
 by_cases k2:a.Kind=2
 ·rw [dzT k2,cond_true,if_pos k2]
  have hm:=slB_mem hs
  rw [r_energy n c a s (by omega) h1 h2 hc ha (by omega) (fun x hx=>by have:=hm x hx; omega),obs]
  have he:=eneF_range c a s.Slices 0 (fun x hx=>by have:=hm x hx; omega) (by omega) (by omega)
  have ht:=r_times n a.Price (eneF c a 0 s.Slices) hA.price (by omega)
  refine ⟨?_,ht.2⟩
  rw [ht.1,obs]
 rw [dzF k2,cond_false,if_neg k2]
 by_cases k3:a.Kind=3
 ·rw [dzT k3,cond_true,if_pos k3]
  exact r_sta n c a s.From s.To hn h1 h2 hc ha (Or.inl k3) hr.1 (by omega) (by omega)
 rw [dzF k3,cond_false,if_neg k3]
 by_cases k4:a.Kind=4
 ·rw [dzT k4,cond_true,if_pos k4]
  exact r_sta n c a s.End s.To hn h1 h2 hc ha (Or.inr k4) (by omega) (by omega) (by omega)
 rw [dzF k4,cond_false,if_neg k4]
 exact ⟨rfl,by omega⟩
end Go.Proofs
namespace Go.Proofs
open Go Go.Abs
set_option maxRecDepth 100000
set_option linter.unusedVariables false
theorem drop_idx {α:Type} {l:List α} {i:Nat} {x:α} {r:List α} (h:l.drop i=x :: r) (hi:i < l.length):l.length - (r.length+1)=i∧l.length - r.length=i+1:=by
 have:=congrArg List.length h
 simp only [List.length_drop,List.length_cons] at this
 omega
theorem linB_cons (x:GLine) (r:List GLine):linB (x :: r)=(decide (x.Amount≤1000000000)&&linB r):=by
 unfold linB
 rw [List.all_cons]
def capR:Int→List GAr→Int
 | k,[]=>k
 | k,a :: r=>capR (if a.Kind=5 then (if k < 0∨a.Price < k then a.Price else k) else k) r
def capV (k z:Int):Int:=if 0≤k∧k < z then k else z
theorem capF_R:∀ (l:List GAr) (k z:Int),(∀ a ∈ l,0≤a.Price)→capF (capV k z) l=capV (capR k l) z
 | [],k,z,_=>rfl
 | a :: r,k,z,h=>by
  have ha:=h a List.mem_cons_self
  unfold capF capR
  by_cases h5:a.Kind=5
  ·rw [if_pos h5,if_pos h5,← capF_R r _ z (fun x hx=>h x (List.mem_cons_of_mem _ hx))]
   congr 1
   unfold capV minI
   by_cases c1:0≤k∧k < z
   ·rw [if_pos c1]
    by_cases c2:k < 0∨a.Price < k
    ·rw [if_pos c2]
     split <;> first | omega | (split <;> omega)
    ·rw [if_neg c2]
     split <;> first | omega | (split <;> omega)
   ·rw [if_neg c1]
    by_cases c2:k < 0∨a.Price < k
    ·rw [if_pos c2]
     split <;> first | omega | (split <;> omega)
    ·rw [if_neg c2]
     split <;> first | omega | (split <;> omega)
  ·rw [if_neg h5,if_neg h5]
   exact capF_R r k z (fun x hx=>h x (List.mem_cons_of_mem _ hx))
theorem r_tax (n:Nat) (net rate:Int) (hn:0≤net∧net≤1000000000) (hr:0≤rate∧rate≤10000):g_ref31_Tax n net rate=some (taxF net rate,0)∧0≤taxF net rate∧taxF net rate≤net+1:=by
 have hb:=mul_bound hn hr
 have hb2:net * rate≤net * 10000:=Int.mul_le_mul_of_nonneg_left hr.2 hn.1
 have e1:wi (net * rate)=net * rate:=wi_id (by omega) (by omega)
 have e2:wi (2 * net)=2 * net:=wi_id (by omega) (by omega)
 have e3:2 * net * rate=2 * (net * rate):=Int.mul_assoc ..
 have e4:wi (2 * (net * rate))=2 * (net * rate):=wi_id (by omega) (by omega)
 have e5:wi (2 * (net * rate)+10000)=2 * (net * rate)+10000:=wi_id (by omega) (by omega)
 have e6:Int.tdiv (2 * (net * rate)+10000) 20000=(2 * (net * rate)+10000) / 20000:=Int.tdiv_eq_ediv_of_nonneg (by omega)
 have e7:wi ((2 * (net * rate)+10000) / 20000)=(2 * (net * rate)+10000) / 20000:=wi_id (by omega) (by omega)
 unfold taxF
 rw [e2,e3,e4,e5,e6,e7]
 refine ⟨?_,by omega,by omega⟩
 unfold g_ref31_Tax g_ref31_divided
 simp only [r_amount,obs,ltI]
 rw [dzT (show 0≤net∧net≤1000000000 by omega),Bool.not_true,cond_false,dzF (show ¬ rate < 0 by omega),cond_false,obs,dzF (show ¬ 100000 < rate by omega),cond_false]
 rw [show wi (2 * 10000)=20000 from rfl,show (!eqI 20000 0)=true from rfl,cond_true,obs,e1,e4,e5,e6,e7,r_checked n _ (by omega),obs,if_pos (by omega)]
def zeroBill:GBill:=⟨[],0,0,0⟩
end Go.Proofs
namespace Go.Proofs
open Go Go.Abs
set_option maxRecDepth 100000
set_option linter.unusedVariables false
def OrdR:GReading→List GReading→Prop
 | _,[]=>True
 | p,x :: r=>(0≤x.Minute∧x.Minute≤52560000)∧(0≤x.Register∧x.Register≤1000000000)∧folB p x=true∧OrdR x r
def lst:GReading→List GReading→GReading
 | p,[]=>p
 | _,x :: r=>lst x r
def dE (p x:GReading):Int:=if x.Serial=p.Serial then x.Register - p.Register else 0
def sumE:GReading→List GReading→Int
 | _,[]=>0
 | p,x :: r=>dE p x+sumE x r
theorem fol_min {p x:GReading} (h:folB p x=true):p.Minute≤x.Minute:=by
 unfold folB at h
 split at h <;> simp only [decide_eq_true_eq] at h <;> omega
theorem dE_range {p x:GReading} (h:folB p x=true) (hp:0≤p.Register) (hx:x.Register≤1000000000):0≤dE p x∧dE p x≤1000000000:=by
 unfold folB at h
 unfold dE
 split at h <;> rename_i hs
 ·rw [if_pos hs]; simp only [decide_eq_true_eq] at h; omega
 ·rw [if_neg hs]; omega
theorem sumE_range:∀ (l:List GReading) (p:GReading),OrdR p l→0≤p.Register→0≤sumE p l∧sumE p l≤1000000000 * l.length
 | [],p,_,_=>by
  show (0:Int)≤0∧(0:Int)≤1000000000 * ((0:Nat):Int)
  omega
 | x :: r,p,h,hp=>by
  have h1:=dE_range h.2.2.1 hp h.2.1.2
  have h2:=sumE_range r x h.2.2.2 h.2.1.1
  unfold sumE
  simp only [List.length_cons]
  omega
theorem ord_app:∀ (a b:List GReading) (p:GReading),OrdR p (a++b)↔OrdR p a∧OrdR (lst p a) b
 | [],b,p=>by simp [OrdR,lst]
 | x :: a,b,p=>by
  have:=ord_app a b x
  simp only [List.cons_append,OrdR,lst,this]
  constructor
  ·rintro ⟨h1,h2,h3,h4,h5⟩; exact ⟨⟨h1,h2,h3,h4⟩,h5⟩
  ·rintro ⟨⟨h1,h2,h3,h4⟩,h5⟩; exact ⟨h1,h2,h3,h4,h5⟩
theorem ord_min:∀ (l:List GReading) (p:GReading),OrdR p l→∀ x ∈ l,p.Minute≤x.Minute
 | [],_,_,x,hx=>by cases hx
 | y :: r,p,h,x,hx=>by
  have h1:=fol_min h.2.2.1
  rcases List.mem_cons.1 hx with rfl | hx
  ·exact h1
  ·have:=ord_min r y h.2.2.2 x hx
   omega
theorem lst_app:∀ (a b:List GReading) (p:GReading),lst p (a++b)=lst (lst p a) b
 | [],_,_=>rfl
 | x :: a,b,p=>lst_app a b x
theorem ord_lst:∀ (l:List GReading) (p:GReading),OrdR p l→∀ x,x=p∨x ∈ l→x.Minute≤(lst p l).Minute
 | [],p,_,x,hx=>by
  rcases hx with rfl | hx
  ·exact Int.le_refl _
  ·cases hx
 | y :: r,p,h,x,hx=>by
  have h1:=fol_min h.2.2.1
  show x.Minute≤(lst y r).Minute
  rcases hx with rfl | hx
  ·have:=ord_lst r y h.2.2.2 y (Or.inl rfl)
   omega
  ·rcases List.mem_cons.1 hx with rfl | hx
   ·exact ord_lst r x h.2.2.2 x (Or.inl rfl)
   ·exact ord_lst r y h.2.2.2 x (Or.inr hx)
theorem lst_reg:∀ (l:List GReading) (p:GReading),OrdR p l→0≤p.Register→0≤(lst p l).Register
 | [],_,_,h=>h
 | x :: r,_,h,_=>lst_reg r x h.2.2.2 h.2.1.1
theorem derF_app (m0:Int):∀ (a b:List GReading) (p:GReading) (e:Int) (sl:List GSl),derF m0 p e sl (a++b)=derF m0 (lst p a) (derF m0 p e sl a).1 (derF m0 p e sl a).2 b
 | [],_,_,_,_=>rfl
 | x :: a,b,p,e,sl=>derF_app m0 a b x _ _
theorem derG2 (m0 m e:Int) (hm:m0≤m∧0≤m∧m≤52560000) (sl0:List GSl):∀ (g:List GReading) (p:GReading) (E:Int),OrdR p g→0≤p.Register→p.Register≤1000000000→(∀ x ∈ g,x.Minute=m+1)→0≤E→E+1000000000 * g.length≤1000000000000000 →
  derF m0 p e (sl0++[⟨m,E⟩]) g=(e,sl0++[⟨m,E+sumE p g⟩])
 | [],p,E,_,_,_,_,_,_=>by
  unfold derF sumE
  rw [Int.add_zero]
 | x :: r,p,E,h,hp,hp2,hg,hE,hb=>by
  have hx:=hg x List.mem_cons_self
  have hd:=dE_range h.2.2.1 hp h.2.1.2
  simp only [List.length_cons] at hb
  have step:derS m0 p x e (sl0++[⟨m,E⟩])=(e,sl0++[⟨m,E+dE p x⟩]):=by
   unfold derS
   by_cases hs:x.Serial=p.Serial
   ·rw [if_pos ⟨hs,by omega⟩]
    have ed:dE p x=x.Register - p.Register:=by unfold dE; rw [if_pos hs]
    have hr:=h.2.1
    rw [wi_id (x:=x.Register - p.Register) (by omega) (by omega),← ed]
    by_cases h0:dE p x=0
    ·rw [if_pos h0,h0,Int.add_zero]
    ·rw [if_neg h0]
     simp only [List.getLast?_append,List.getLast?_singleton,Option.some_or]
     rw [wi_id (x:=x.Minute - 1) (by omega) (by omega),if_pos (by omega),wi_id (x:=E+dE p x) (by omega) (by omega)]
     congr 1
     simp
   ·rw [if_neg (fun h=>hs h.1)]
    have ed:dE p x=0:=by unfold dE; rw [if_neg hs]
    rw [ed,Int.add_zero]
  unfold derF
  rw [step]
  simp only
  rw [derG2 m0 m e hm sl0 r x (E+dE p x) h.2.2.2 h.2.1.1 h.2.1.2 (fun y hy=>hg y (List.mem_cons_of_mem _ hy)) (by omega) (by omega)]
  rw [show sumE p (x :: r)=dE p x+sumE x r from rfl,Int.add_assoc]
theorem derG1 (m0 m e:Int) (hm:m0≤m∧0≤m∧m≤52560000) (sl:List GSl) (hl:∀ q ∈ sl,q.Minute < m):∀ (g:List GReading) (p:GReading),OrdR p g→0≤p.Register→p.Register≤1000000000→(∀ x ∈ g,x.Minute=m+1)→g.length≤1000 →
  derF m0 p e sl g=if sumE p g=0 then (e,sl) else (m+1,sl++[⟨m,sumE p g⟩])
 | [],p,_,_,_,_,_=>rfl
 | x :: r,p,h,hp,hp2,hg,hb=>by
  have hx:=hg x List.mem_cons_self
  have hd:=dE_range h.2.2.1 hp h.2.1.2
  have hsr:=sumE_range r x h.2.2.2 h.2.1.1
  simp only [List.length_cons] at hb
  have es:sumE p (x :: r)=dE p x+sumE x r:=rfl
  unfold derF
  by_cases h0:dE p x=0
  ·have step:derS m0 p x e sl=(e,sl):=by
    unfold derS
    by_cases hs:x.Serial=p.Serial
    ·rw [if_pos ⟨hs,by omega⟩]
     have ed:dE p x=x.Register - p.Register:=by unfold dE; rw [if_pos hs]
     have hr:=h.2.1
     rw [wi_id (x:=x.Register - p.Register) (by omega) (by omega),← ed,if_pos h0]
    ·rw [if_neg (fun h=>hs h.1)]
   rw [step]
   simp only
   rw [derG1 m0 m e hm sl hl r x h.2.2.2 h.2.1.1 h.2.1.2 (fun y hy=>hg y (List.mem_cons_of_mem _ hy)) (by omega),es,h0,Int.zero_add]
  ·have hs:x.Serial=p.Serial:=by
    apply Classical.byContradiction
    intro hs
    exact h0 (by unfold dE; rw [if_neg hs])
   have ed:dE p x=x.Register - p.Register:=by unfold dE; rw [if_pos hs]
   have hr:=h.2.1
   have step:derS m0 p x e sl=(m+1,sl++[⟨m,dE p x⟩]):=by
    have hadd:addS (wi (x.Minute - 1)) (dE p x) e sl=(m+1,sl++[⟨m,dE p x⟩]):=by
     unfold addS
     rw [wi_id (x:=x.Minute - 1) (by omega) (by omega),wi_id (by omega) (by omega),show x.Minute - 1=m from by omega]
    unfold derS
    rw [if_pos ⟨hs,by omega⟩,wi_id (x:=x.Register - p.Register) (by omega) (by omega),← ed,if_neg h0]
    split
    ·rename_i q hq
     have:=hl q (List.mem_of_getLast? hq)
     rw [if_neg (by rw [wi_id (x:=x.Minute - 1) (by omega) (by omega)]; omega),hadd]
    ·exact hadd
   rw [step]
   simp only
   rw [derG2 m0 m (m+1) hm sl r x (dE p x) h.2.2.2 h.2.1.1 h.2.1.2 (fun y hy=>hg y (List.mem_cons_of_mem _ hy)) (by omega) (by omega),es,if_neg (by omega)]
theorem getLast_lst:∀ (r:List GReading) (x:GReading) (h:x :: r ≠ []),(x :: r).getLast h=lst x r
 | [],x,_=>rfl
 | y :: r,x,_=>by
  rw [List.getLast_cons (by simp)]
  exact getLast_lst r y _
end Go.Proofs
namespace Go.Proofs
open Go Go.Abs
set_option maxRecDepth 100000
set_option linter.unusedVariables false
theorem chain_drop {seed:Int} {l:List GReading} (h:chainOk seed l):∀ (r:List GReading) (p:GReading) (i:Nat),l.drop i=p :: r→OrdR p r
 | [],_,_,_=>trivial
 | x :: r,p,i,hd=>by
  have hlen:i+1 < l.length:=by
   have:=congrArg List.length hd
   simp only [List.length_drop,List.length_cons] at this
   omega
  have e0:l[i]?=some p:=by
   have:=congrArg List.head? hd
   rw [List.head?_drop] at this
   exact this
  have hd1:l.drop (i+1)=x :: r:=by
   rw [← List.tail_drop,hd]; rfl
  have e1:l[i+1]?=some x:=by
   have:=congrArg List.head? hd1
   rw [List.head?_drop] at this
   exact this
  have hc:=h.2 (i+1) hlen x e1
  exact ⟨hc.2.2.1,hc.2.2.2.1,hc.2.2.2.2.1 (by omega) p (by simpa using e0),chain_drop h r x (i+1) hd1⟩
theorem post_split (m:Int):∀ (post:List GReading) (p:GReading),OrdR p post→(∀ x ∈ post,m < x.Minute)→∃ g post',post=g++post'∧(∀ x ∈ g,x.Minute=m+1)∧∀ x ∈ post',m+1 < x.Minute
 | [],_,_,_=>⟨[],[],rfl,(fun _ h=>by cases h),(fun _ h=>by cases h)⟩
 | x :: r,p,h,hp=>by
  have hx:=hp x List.mem_cons_self
  by_cases c:x.Minute=m+1
  ·obtain ⟨g,q,e,h1,h2⟩:=post_split m r x h.2.2.2 (fun y hy=>hp y (List.mem_cons_of_mem _ hy))
   refine ⟨x :: g,q,by rw [e]; rfl,fun y hy=>?_,h2⟩
   rcases List.mem_cons.1 hy with rfl | hy
   ·exact c
   ·exact h1 y hy
  ·refine ⟨[],x :: r,rfl,(fun _ h=>by cases h),fun y hy=>?_⟩
   rcases List.mem_cons.1 hy with rfl | hy
   ·omega
   ·have:=ord_min r x h.2.2.2 y hy
    omega
structure Good (f t e:Int) (sl:List GSl):Prop where
 all:∀ x ∈ sl,f≤x.Minute∧x.Minute < e∧0≤x.Energy
 pw:sl.Pairwise (fun a b=>a.Minute < b.Minute)
 lo:f≤e
 hi:e≤t
end Go.Proofs
namespace Go.Proofs
open Go Go.Abs
set_option maxRecDepth 100000
set_option linter.unusedVariables false
theorem slB_of (f e:Int):∀ (l:List GSl) (p:Int),(∀ x ∈ l,f≤x.Minute∧x.Minute < e∧0≤x.Energy)→(∀ x ∈ l,p < x.Minute)→l.Pairwise (fun a b=>a.Minute < b.Minute)→slB f e p l=l.all (fun x=>decide (x.Energy≤10000))
 | [],_,_,_,_=>rfl
 | x :: r,p,h1,h2,h3=>by
  have a1:=h1 x List.mem_cons_self
  have a2:=h2 x List.mem_cons_self
  rw [List.pairwise_cons] at h3
  unfold slB
  rw [List.all_cons,slB_of f e r x.Minute (fun y hy=>h1 y (List.mem_cons_of_mem _ hy)) (fun y hy=>h3.1 y hy) h3.2]
  congr 1
  by_cases c:x.Energy≤10000
  ·rw [dzT c,dzT (by omega)]
  ·rw [dzF c,dzF (by omega)]
end Go.Proofs
namespace Go.Proofs
open Go Go.Abs
set_option maxRecDepth 100000
set_option linter.unusedVariables false
theorem b_goodWord (n:Nat) (s:List UInt8) (hn:1000≤n):g_p_goodWord n s=some (decide (1≤s.length∧s.length≤12)&&decide (∀ x ∈ s.head?,97≤b2i x∧b2i x≤122)&&s.all chrB):=by
 unfold g_p_goodWord
 simp only [lenI,ltI]
 cases s with
 | nil=>simp
 | cons x r =>
  rw [dzF (show ¬ (((x :: r).length:Nat):Int) < 1 by simp only [List.length_cons]; omega),cond_false]
  by_cases hl:(x :: r).length≤12
  rotate_left
  ·rw [dzT (show (12:Int) < (((x :: r).length:Nat):Int) by omega),dzF (show ¬ (1≤(x :: r).length∧(x :: r).length≤12) by omega)]; rfl
  rw [dzF (show ¬ (12:Int) < (((x :: r).length:Nat):Int) by omega),cond_false,dzT (show 1≤(x :: r).length∧(x :: r).length≤12 by simp only [List.length_cons] at hl ⊢; omega)]
  rw [show getI (x :: r) 0=some x from rfl]
  have hloop:loopN (fun recl7 l7=>g_p_goodWord_l7 (x :: r) recl7 l7) n 1=some (r.all chrB):=by
   have:=loop_list (l:=x :: r) (B:=fun recl7 l7=>g_p_goodWord_l7 (x :: r) recl7 l7) (F:=fun r=>r.all chrB) (by omega) ?_ ?_ (n:=n) 1 (by simp) (by omega)
   ·simpa using this
   ·intro rec; simp [g_p_goodWord_l7,ltI,lenI]
   ·intro rec i y q hd hx hi hw hr
    unfold g_p_goodWord_l7
    simp only [lenI,getI_nat,hx,obs,hw,hr,ltI,leI,eqI,cond_some]
    rw [dzT (by omega),cond_true,List.all_cons]
    rw [chr_lem,chrB]
    cases decide ((97≤b2i y∧b2i y≤122)∨(48≤b2i y∧b2i y≤57)∨b2i y=95) <;> simp
  rw [hloop]
  simp only [obs,cond_some,List.head?_cons,Option.mem_def,sie,forall_eq',Bool.true_and,List.all_cons]
  by_cases h1:b2i x < 97
  ·rw [dzT h1,dzF (show ¬ (97≤b2i x∧b2i x≤122) by omega)]; rfl
  ·rw [dzF h1,cond_false]
   by_cases h2:122 < b2i x
   ·rw [dzT h2,dzF (show ¬ (97≤b2i x∧b2i x≤122) by omega)]; rfl
   ·have h3:97≤b2i x∧b2i x≤122:=by omega
    have h4:chrB x=true:=by unfold chrB; rw [dzT]; exact Or.inl h3
    rw [dzF h2,dzT h3,h4]; rfl
theorem cnz (b:Bool) (k r:Int) (hk:k ≠ 0):(!eqI (bif b then k else r) 0)=(b||!eqI r 0):=by
 cases b
 ·rfl
 ·simp [eqI,hk]
theorem b_isKey (n:Nat) (s:List UInt8):g_p_isKey n s=some (keyB s):=by
 unfold g_p_isKey g_p_kindOf g_p_isAttr g_p_isArticle g_p_isWord
 rw [keyB_mem]
 simp only [cond_some,obs,cse,cst,keyL,g_ref02_Kinds,g_ref02_Attrs,g_ref02_Articles,g_ref02_Words,Option.getD_some,List.cons_append,List.nil_append,List.contains_cons,List.contains_nil,Bool.or_false,eqS]
 rw [cnz _ 1 _ (by decide),cnz _ 2 _ (by decide),cnz _ 3 _ (by decide),cnz _ 4 _ (by decide),cnz _ 5 _ (by decide),cnz _ 6 _ (by decide),cnz _ 7 _ (by decide),show (!eqI 0 0)=false from rfl]
 simp only [Bool.or_assoc,Bool.or_false]
theorem b_goodName (n:Nat) (s:List UInt8) (hn:1000≤n):g_p_goodName n s=some (nameB s):=by
 unfold g_p_goodName nameB
 rw [b_goodWord n s hn,obs,b_isKey,obs,cond_some]
 generalize decide (1≤s.length∧s.length≤12)=a
 generalize decide (∀ x ∈ s.head?,97≤b2i x∧b2i x≤122)=b
 generalize s.all chrB=c
 generalize keyB s=d
 cases a <;> cases b <;> cases c <;> cases d <;> rfl
theorem of_cs' (k:Int) (s:List UInt8) (m t:Int) (l:List (List PV)):GNode.of (GNode.cs ⟨k,s,m,t,l⟩)=some ⟨k,s,m,t,l⟩:=by
 unfold GNode.cs GNode.of
 simp only [map_idc,byt_mkS,if_true]
theorem b_parser (n:Nat) (s:List UInt8) (hn:1000≤n):g_p_Valid n (⟨1,[],0,0,[GNode.cs (⟨2,s,3,0,[]⟩:GNode)]⟩:GNode)=some (nameB s):=by
 obtain ⟨m,rfl⟩:∃ m,n=m+2:=⟨n - 2,by omega⟩
 have hitem:g_p_validItem (m+2) (⟨2,s,3,0,[]⟩:GNode) 1498=some (nameB s,1498):=by
  unfold g_p_validItem
  rw [b_goodName (m+2) s hn]
  simp only [show (!eqI 2 2)=false from rfl,show ltI 3 1=false from rfl,show ltI 7 3=false from rfl,cond_false,obs]
  cases nameB s
  ·rfl
  ·unfold loopN; rfl
 unfold g_p_Valid
 have e1:((bif !eqI 1 1 then some true else bif !eqS [] [] then some true else bif !eqI 0 0 then some true else some (ltI (wi (1499 - lenI (List.map idc [GNode.cs (⟨2,s,3,0,[]⟩:GNode)]))) 0)))=some false:=rfl
 have e2:wi (1499 - lenI (List.map idc [GNode.cs (⟨2,s,3,0,[]⟩:GNode)]))=1498:=rfl
 simp only
 rw [e1,obs,cond_false,e2]
 unfold loopN
 simp only [g_p_Valid_l5]
 rw [show ltI 0 (lenI (List.map idc [GNode.cs (⟨2,s,3,0,[]⟩:GNode)]))=true from rfl,cond_true,show getI [GNode.cs (⟨2,s,3,0,[]⟩:GNode)] 0=some (GNode.cs (⟨2,s,3,0,[]⟩:GNode)) from rfl,obs,of_cs',obs,hitem,obs]
 cases nameB s
 ·rfl
 ·unfold loopN; rfl
theorem b_inside (n:Nat) (x a b:Int):g_t_inside n x a b=some (decide (a≤x∧x≤b)):=by
 unfold g_t_inside leI
 by_cases h:a≤x <;> simp [h]
theorem b_article (n:Nat) (a:GAr):g_t_validArticle n a=some (artB a):=by
 have bad:¬ Art a→some false=some (artB a):=by
  intro h
  cases hb:artB a
  ·rfl
  ·exact absurd (artB_art hb) h
 unfold g_t_validArticle g_t_isWhole g_t_isTime
 simp only [b_inside,obs]
 by_cases c2:1≤a.Kind∧a.Kind≤6
 rotate_left
 ·rw [dzF c2]; exact bad (fun h=>c2 h.kind)
 rw [dzT c2]
 by_cases c4:0≤a.From∧a.From≤1439
 rotate_left
 ·rw [dzF c4]; exact bad (fun h=>c4 h.from_)
 rw [dzT c4,wi_id (x:=a.From+1) (by omega) (by omega)]
 by_cases c6:a.From+1≤a.To∧a.To≤1440
 rotate_left
 ·rw [dzF c6]; exact bad (fun h=>by have:=h.to_; omega)
 rw [dzT c6]
 by_cases c8:1≤a.Days∧a.Days≤7
 rotate_left
 ·rw [dzF c8]; exact bad (fun h=>c8 h.days)
 rw [dzT c8]
 unfold artB g_a_validArticle
 simp only [a_inside,cond_some,obs,Option.getD_some,eqI_d,Bool.not_true,cond_false]
 rw [sie,Bool.eq_iff_iff]
 obtain ⟨k,d,f,t,p,u,v⟩:=a
 simp only at c2 c4 c6 c8
 simp only [Bool.cond_eq_ite]
 have hk:k=1∨k=2∨k=3∨k=4∨k=5∨k=6:=by omega
 rcases hk with rfl | rfl | rfl | rfl | rfl | rfl <;> simp [leI,ltI] <;> omega
theorem b_tariff (n:Nat) (t:GTf) (hn:1000≤n):g_t_Valid n t=some (tariffB t):=by
 unfold g_t_Valid tariffB
 rw [b_parser n t.Name hn]
 simp only [obs,cond_some,lenI,List.length_map,ltI]
 cases hname:nameB t.Name
 ·rfl
 by_cases h2:t.Articles.length≤12
 rotate_left
 ·rw [dzT (show (12:Int) < t.Articles.length by omega),dzF h2]; rfl
 rw [dzF (show ¬ (12:Int) < t.Articles.length by omega),dzT h2]
 simp only [Bool.not_true,cond_false,Bool.true_and]
 have:=loop_gen (l:=t.Articles) (fun (a:Int) i=>(a,i)) (B:=fun recl4 (v:Int × Int)=>g_t_Valid_l4 n t recl4 v.1 v.2) (F:=tarB) (fun i a=>0≤a∧a≤i) (by omega) ?_ ?_ (n:=n) 0 0 (by omega) (by omega) (by omega)
 ·exact this
 ·intro rec a ha
  simp only [g_t_Valid_l4,lenI,List.length_map,ltI,leI]
  rw [dzF (by omega),cond_false]
  rfl
 ·intro rec a i x r ha hd hx hi hw hr
  simp only [g_t_Valid_l4,lenI,List.length_map,ltI,getI_nat,hx,obs,b_article,hw,eqI_d]
  rw [dzT (by omega),cond_true,tarB]
  cases hb:artB x
  ·rfl
  ·have hw2:wi (a+1)=a+1:=wi_id (by omega) (by omega)
   simp only [Bool.not_true,cond_false,Bool.true_and]
   by_cases h6:x.Kind=6
   ·rw [dzT h6,cond_true,if_pos h6,hw2,hr _ (by omega)]
   ·rw [dzF h6,cond_false,if_neg h6,hr _ (by omega)]
def chK:Int→List GCh→Bool
 | _,[]=>true
 | a,x :: r=>decide (a < x.At∧x.At≤52560000)&&chK x.At r
def chO (l:List GCh):Bool:=l.all (fun x=>decide (-1440≤x.Offset∧x.Offset≤1440))
theorem chgB_KO:∀ (l:List GCh) (a:Int),chgB a l=(chO l&&chK a l)
 | [],_=>rfl
 | x :: r,a=>by
  unfold chgB chK
  rw [chgB_KO r x.At,show chO (x :: r)=(decide (-1440≤x.Offset∧x.Offset≤1440)&&chO r) from List.all_cons]
  by_cases c1:a < x.At∧x.At≤52560000
  ·by_cases c2:-1440≤x.Offset∧x.Offset≤1440
   ·rw [dzT (show a < x.At∧x.At≤52560000∧-1440≤x.Offset∧x.Offset≤1440 by omega),dzT c1,dzT c2]; rfl
   ·rw [dzF (show ¬ (a < x.At∧x.At≤52560000∧-1440≤x.Offset∧x.Offset≤1440) by omega),dzF c2]; rfl
  ·rw [dzF (show ¬ (a < x.At∧x.At≤52560000∧-1440≤x.Offset∧x.Offset≤1440) by omega),dzF c1]
   simp
theorem b_dinside (n:Nat) (x a b:Int):g_days_inside n x a b=some (decide (a≤x∧x≤b)):=by
 unfold g_days_inside leI
 by_cases h:a≤x <;> simp [h]
theorem b_listC (n:Nat) (l:List GCh) (hn:1000≤n) (hl:l.length≤900):g_dv_api_Change n l 52560000=some (chK (-1) l):=by
 unfold g_dv_api_Change
 have:=loop_acc (l:=l) (B:=fun recl1 (v:Int × Int)=>g_dv_api_Change_l1 n l 52560000 recl1 v.1 v.2) (F:=chK) (by omega) ?_ ?_ (n:=n) 0 (-1) (by omega) (by omega)
 ·exact this
 ·intro rec a; simp [g_dv_api_Change_l1,ltI,lenI,chK]
 ·intro rec a i x r hd hx hi hw hr
  simp only [g_dv_api_Change_l1,g_days_keys_1,lenI,List.length_map,getI_nat,hx,obs,hw,hr,ltI,leI,chK,cond_some]
  rw [dzT (by omega),cond_true]
  by_cases h1:x.At≤a
  ·rw [dzT h1,dzF (show ¬ (a < x.At∧x.At≤52560000) by omega)]; rfl
  ·rw [dzF h1]
   by_cases h2:52560000 < x.At
   ·rw [dzT h2,dzF (show ¬ (a < x.At∧x.At≤52560000) by omega)]; rfl
   ·rw [dzF h2,dzT (show a < x.At∧x.At≤52560000 by omega)]; rfl
theorem b_listI (n:Nat) (l:List Int) (hn:1000≤n) (hl:l.length≤900):g_dv_int n l 36500=some (holB (-1) l):=by
 unfold g_dv_int
 have:=loop_acc (l:=l) (B:=fun recl1 (v:Int × Int)=>g_dv_int_l1 n l 36500 recl1 v.1 v.2) (F:=holB) (by omega) ?_ ?_ (n:=n) 0 (-1) (by omega) (by omega)
 ·exact this
 ·intro rec a; simp [g_dv_int_l1,ltI,lenI,holB]
 ·intro rec a i x r hd hx hi hw hr
  simp only [g_dv_int_l1,g_days_keys_2,lenI,List.length_map,getI_nat,hx,obs,hw,hr,ltI,leI,holB,cond_some]
  rw [dzT (by omega),cond_true]
  by_cases h1:x≤a
  ·rw [dzT h1,dzF (show ¬ (a < x∧x≤36500) by omega)]; rfl
  ·rw [dzF h1]
   by_cases h2:36500 < x
   ·rw [dzT h2,dzF (show ¬ (a < x∧x≤36500) by omega)]; rfl
   ·rw [dzF h2,dzT (show a < x∧x≤36500 by omega)]; rfl
theorem b_cal (n:Nat) (c:GCl) (hn:1000≤n) (h1:c.Changes.length≤900) (h2:c.Holidays.length≤900):g_days_Valid n c=some (calB c):=by
 have key:loopN (fun recl9 l9=>g_days_Valid_l9 n c recl9 l9) n 0=some (chO c.Changes&&(chK (-1) c.Changes&&holB (-1) c.Holidays)):=by
  have:=loop_list (l:=c.Changes) (B:=fun recl9 l9=>g_days_Valid_l9 n c recl9 l9) (F:=fun r=>chO r&&(chK (-1) c.Changes&&holB (-1) c.Holidays)) (by omega) ?_ ?_ (n:=n) 0 (by omega) (by omega)
  ·exact this
  ·intro rec
   simp only [g_days_Valid_l9,g_days_Valid_j5,lenI,List.length_map,ltI,b_listC n _ hn h1,b_listI n _ hn h2,obs,cond_some]
   rw [dzF (by omega),cond_false]
   cases chK (-1) c.Changes <;> rfl
  ·intro rec i x r hd hx hi hw hr
   simp only [g_days_Valid_l9,lenI,List.length_map,getI_nat,hx,obs,hw,hr,ltI,b_dinside]
   rw [dzT (by omega),cond_true,show chO (x :: r)=(decide (-1440≤x.Offset∧x.Offset≤1440)&&chO r) from List.all_cons]
   cases decide (-1440≤x.Offset∧x.Offset≤1440) <;> rfl
 unfold g_days_Valid calB
 rw [key,chgB_KO]
 simp only [b_dinside,obs,cond_some,lenI,List.length_map,ltI]
 by_cases c1:c.Changes.length≤16
 rotate_left
 ·rw [dzT (show (16:Int) < c.Changes.length by omega),dzF c1]; simp
 rw [dzF (show ¬ (16:Int) < c.Changes.length by omega),dzT c1]
 by_cases c2:c.Holidays.length≤32
 rotate_left
 ·rw [dzT (show (32:Int) < c.Holidays.length by omega),dzF c2]; simp
 rw [dzF (show ¬ (32:Int) < c.Holidays.length by omega),dzT c2]
 generalize decide (-1440≤c.Offset∧c.Offset≤1440)=b0
 generalize chO c.Changes=b1
 generalize chK (-1) c.Changes=b2
 generalize holB (-1) c.Holidays=b3
 cases b0 <;> cases b1 <;> cases b2 <;> cases b3 <;> rfl
end Go.Proofs
namespace Go.Proofs
open Go Go.Abs
set_option maxRecDepth 100000
set_option linter.unusedVariables false
theorem chK_lt:∀ (l:List GCh) (a:Int),chK a l=true→(∀ x ∈ l,a < x.At)∧l.Pairwise (fun x y=>x.At < y.At)
 | [],_,_=>⟨(fun x h=>by cases h),List.Pairwise.nil⟩
 | x :: r,a,h=>by
  simp only [chK,bae,decide_eq_true_eq] at h
  obtain ⟨h1,h2⟩:=chK_lt r x.At h.2
  refine ⟨fun y hy=>?_,List.pairwise_cons.2 ⟨h1,h2⟩⟩
  rcases List.mem_cons.1 hy with rfl | hy
  ·exact h.1.1
  ·have:=h1 y hy; omega
theorem holB_lt:∀ (l:List Int) (a:Int),holB a l=true→(∀ x ∈ l,a < x)∧l.Pairwise (fun x y=>x < y)
 | [],_,_=>⟨(fun x h=>by cases h),List.Pairwise.nil⟩
 | x :: r,a,h=>by
  simp only [holB,bae,decide_eq_true_eq] at h
  obtain ⟨h1,h2⟩:=holB_lt r x h.2
  refine ⟨fun y hy=>?_,List.pairwise_cons.2 ⟨h1,h2⟩⟩
  rcases List.mem_cons.1 hy with rfl | hy
  ·exact h.1.1
  ·have:=h1 y hy; omega
structure LastOf {α:Type} (key:α→Int) (l:List α) (m r:Int):Prop where
 lo:-1≤r
 hi:r < l.length
 le:∀ (i:Nat) (x:α),(i:Int)≤r→l[i]?=some x→key x≤m
 gt:∀ (i:Nat) (x:α),r < (i:Int)→l[i]?=some x→m < key x
theorem last_gen {α:Type} {key:α→Int} {l:List α} {m:Int} {B:(Int × Int→Option Int)→Int × Int→Option Int} (hl:l.length≤900) (hs:l.Pairwise (fun x y=>key x < key y))
  (hB:∀ rec lo hi,B rec (lo,hi)=cond (ltI lo hi) ((getI l (wi (lo+wi (Int.tdiv (wi (wi (hi - lo)+1)) 2)))).bind fun x=>cond (leI (key x) m) (rec (wi (lo+wi (Int.tdiv (wi (wi (hi - lo)+1)) 2)),hi)) (rec (lo,wi (wi (lo+wi (Int.tdiv (wi (wi (hi - lo)+1)) 2)) - 1)))) (some lo))
  {n:Nat} (hn:1000≤n):Does (loopN B n (-1,(l.length:Int) - 1)) (LastOf key l m):=by
 have:=does_loop (B:=B) (Q:=fun _ r=>LastOf key l m r) (fun v=>(v.2 - v.1).toNat) (fun v=>-1≤v.1∧v.1≤v.2∧v.2 < l.length∧(∀ (i:Nat) (x:α),(i:Int)≤v.1→l[i]?=some x→key x≤m)∧(∀ (i:Nat) (x:α),v.2 < (i:Int)→l[i]?=some x→m < key x)) ?_ (n:=n) (v:=(-1,(l.length:Int) - 1)) ⟨by simp,by simp; omega,by simp; omega,fun i x h=>by simp only at h; omega,fun i x h hx=>by
  have:=(List.getElem?_eq_some_iff.1 hx).1
  simp only at h
  omega⟩ (by simp only; omega)
 ·exact this
 ·rintro rec ⟨lo,hi⟩ ⟨h1,h2,h3,h4,h5⟩ ih
  simp only at h1 h2 h3 h4 h5 ih
  rw [hB]
  by_cases hlt:lo < hi
  rotate_left
  ·rw [show ltI lo hi=false from by simp only [ltI]; rw [dzF hlt],cond_false]
   exact does_some ⟨h1,by omega,h4,fun i x hi' hx=>h5 i x (by omega) hx⟩
  rw [show ltI lo hi=true from by simp only [ltI]; rw [dzT hlt],cond_true]
  rw [wi_id (x:=hi - lo) (by omega) (by omega),wi_id (x:=hi - lo+1) (by omega) (by omega),Int.tdiv_eq_ediv_of_nonneg (by omega),wi_id (x:=(hi - lo+1) / 2) (by omega) (by omega),wi_id (x:=lo+(hi - lo+1) / 2) (by omega) (by omega),wi_id (x:=lo+(hi - lo+1) / 2 - 1) (by omega) (by omega)]
  generalize hmid:lo+(hi - lo+1) / 2=mid
  have hm:lo < mid∧mid≤hi:=by omega
  obtain ⟨j,rfl⟩:∃ j:Nat,mid=(j:Int):=⟨mid.toNat,by omega⟩
  have hx:l[j]?=some (l[j]'(by omega)):=by rw [List.getElem?_eq_getElem]
  generalize l[j]'(by omega)=x at hx
  rw [getI_nat,hx,obs]
  refine does_cond (fun hc=>?_) (fun hc=>?_)
  ·simp only [leI,decide_eq_true_eq] at hc
   refine ih (j,hi) ⟨by simp only; omega,by simp only; omega,h3,fun i y hi' hy=>?_,h5⟩ (by simp only; omega)
   simp only at hi'
   by_cases e:i=j
   ·subst e
    rw [hx] at hy; cases hy
    exact hc
   ·have hij:i < j:=by omega
    have hy':=List.getElem?_eq_some_iff.1 hy
    have hx':=List.getElem?_eq_some_iff.1 hx
    have:=List.pairwise_iff_getElem.1 hs i j hy'.1 hx'.1 hij
    rw [hy'.2,hx'.2] at this
    omega
  ·simp only [leI,decide_eq_false_iff_not] at hc
   refine ih (lo,(j:Int) - 1) ⟨h1,by simp only; omega,by simp only; omega,h4,fun i y hi' hy=>?_⟩ (by simp only; omega)
   simp only at hi'
   by_cases e:i=j
   ·subst e
    rw [hx] at hy; cases hy
    omega
   ·have hij:j < i:=by omega
    have hy':=List.getElem?_eq_some_iff.1 hy
    have hx':=List.getElem?_eq_some_iff.1 hx
    have:=List.pairwise_iff_getElem.1 hs j i hx'.1 hy'.1 hij
    rw [hy'.2,hx'.2] at this
    omega
theorem b_lastC (n:Nat) (l:List GCh) (m:Int) (hn:1000≤n) (hl:l.length≤900) (hs:chK (-1) l=true):Does (g_days_last_api_Change n l m) (LastOf GCh.At l m):=by
 unfold g_days_last_api_Change
 simp only [lenI,List.length_map]
 rw [wi_id (x:=(l.length:Int) - 1) (by omega) (by omega)]
 exact last_gen (B:=fun recl1 (v:Int × Int)=>g_days_last_api_Change_l1 n l m recl1 v.1 v.2) hl (chK_lt l _ hs).2 (fun rec lo hi=>rfl) hn
theorem b_lastI (n:Nat) (l:List Int) (m:Int) (hn:1000≤n) (hl:l.length≤900) (hs:holB (-1) l=true):Does (g_days_last_int n l m) (LastOf (fun x=>x) l m):=by
 unfold g_days_last_int
 simp only [lenI,List.length_map]
 rw [wi_id (x:=(l.length:Int) - 1) (by omega) (by omega)]
 exact last_gen (key:=fun x=>x) (B:=fun recl1 (v:Int × Int)=>g_days_last_int_l1 n l m recl1 v.1 v.2) hl (holB_lt l _ hs).2 (fun rec lo hi=>rfl) hn
theorem offF_gt (m:Int):∀ (l:List GCh) (o:Int),(∀ x ∈ l,m < x.At)→offF m o l=o
 | [],_,_=>rfl
 | x :: r,o,h=>by
  have:=h x List.mem_cons_self
  unfold offF
  rw [if_neg (by omega)]
  exact offF_gt m r o (fun y hy=>h y (List.mem_cons_of_mem _ hy))
theorem offF_at (m:Int):∀ (l:List GCh) (o:Int) (k:Nat) (x:GCh),l[k]?=some x→(∀ (i:Nat) (y:GCh),i≤k→l[i]?=some y→y.At≤m)→(∀ (i:Nat) (y:GCh),k < i→l[i]?=some y→m < y.At)→offF m o l=x.Offset
 | [],_,_,_,h,_,_=>by simp at h
 | z :: r,o,0,x,h,h1,h2=>by
  simp at h
  subst h
  unfold offF
  rw [if_pos (h1 0 z (Nat.le_refl _) rfl)]
  exact offF_gt m r _ (fun y hy=>by
   obtain ⟨i,hi⟩:=List.mem_iff_getElem?.1 hy
   exact h2 (i+1) y (by omega) (by simpa using hi))
 | z :: r,o,k+1,x,h,h1,h2=>by
  unfold offF
  exact offF_at m r _ k x (by simpa using h) (fun i y hi hy=>h1 (i+1) y (by omega) (by simpa using hy)) (fun i y hi hy=>h2 (i+1) y (by omega) (by simpa using hy))
theorem typF_mem (d:Int):∀ (l:List Int),typF d l=if d ∈ l then 2 else wkF d
 | []=>by simp [typF]
 | x :: r=>by
  unfold typF
  rw [typF_mem d r]
  by_cases h:x=d
  ·simp [h]
  ·simp [h,Ne.symm h]
theorem tdiv_neg' (x:Int) (b:Int) (h:x≤0):Int.tdiv x b=-((-x) / b)∧Int.tmod x b=-((-x) % b):=by
 obtain ⟨y,rfl⟩:∃ y:Int,x=-y:=⟨-x,by omega⟩
 rw [Int.neg_tdiv,Int.neg_tmod,Int.neg_neg,Int.tdiv_eq_ediv_of_nonneg (by omega),Int.tmod_eq_emod_of_nonneg (by omega)]
 exact ⟨rfl,rfl⟩
theorem b_split1440 (n:Nat) (x:Int) (h:-1440≤x∧x≤100000000):g_days_split n x 1440=some ((x+1440) / 1440 - 1,(x+1440) % 1440):=by
 unfold g_days_split
 rw [show (!eqI 1440 0)=true from rfl,cond_true,cond_true]
 simp only [ltI]
 by_cases hx:0≤x
 ·rw [Int.tdiv_eq_ediv_of_nonneg hx,Int.tmod_eq_emod_of_nonneg hx,dzF (by omega),cond_false,wi_id (x:=x / 1440) (by omega) (by omega)]
  congr 2
  ·omega
  ·omega
 ·obtain ⟨e1,e2⟩:=tdiv_neg' x 1440 (by omega)
  rw [e1,e2]
  by_cases hm:-((-x) % 1440) < 0
  ·rw [dzT hm,cond_true,wi_id (x:=-((-x) / 1440)) (by omega) (by omega),wi_id (by omega) (by omega),wi_id (by omega) (by omega)]
   congr 2
   ·omega
   ·omega
  ·rw [dzF hm,cond_false,wi_id (x:=-((-x) / 1440)) (by omega) (by omega)]
   congr 2
   ·omega
   ·omega
theorem b_local (n:Nat) (c:GCl) (m:Int) (hn:1000≤n) (h1:c.Changes.length≤900) (h2:c.Holidays.length≤900) (hc:calB c=true) (hm:0≤m∧m≤52560000) :
  g_days_Local n c m=some ((m+offF m c.Offset c.Changes+1440) / 1440 - 1,(m+offF m c.Offset c.Changes+1440) % 1440,0):=by
 have ho:=cal_off m hc
 have hc':=hc
 simp only [calB,bae] at hc'
 have hK:chK (-1) c.Changes=true:=by
  have:=hc'.1.2
  rw [chgB_KO,bae] at this
  exact this.2
 unfold g_days_Local
 rw [b_cal n c hn h1 h2,hc,b_dinside,dzT hm]
 simp only [obs,Bool.not_true,cond_false]
 obtain ⟨r,e,L⟩:=b_lastC n c.Changes m hn h1 hK
 rw [e]
 simp only [obs]
 have hoff:(bif leI 0 r then (getI c.Changes r).bind fun x7=>some x7.Offset else some c.Offset)=some (offF m c.Offset c.Changes):=by
  by_cases h0:0≤r
  ·obtain ⟨k,rfl⟩:∃ k:Nat,r=(k:Int):=⟨r.toNat,by omega⟩
   have hk:=L.hi
   have hx:c.Changes[k]?=some (c.Changes[k]'(by omega)):=by rw [List.getElem?_eq_getElem]
   rw [show leI 0 (k:Int)=true from by simp only [leI]; rw [dzT h0],cond_true,getI_nat,hx,obs]
   rw [offF_at m c.Changes c.Offset k _ hx (fun i y hi hy=>L.le i y (by omega) hy) (fun i y hi hy=>L.gt i y (by omega) hy)]
  ·rw [show leI 0 r=false from by simp only [leI]; rw [dzF h0],cond_false]
   rw [offF_gt m c.Changes c.Offset (fun x hx=>by
    obtain ⟨i,hi⟩:=List.mem_iff_getElem?.1 hx
    exact L.gt i x (by omega) hi)]
 rw [hoff,obs]
 generalize offF m c.Offset c.Changes=o at ho
 rw [wi_id (x:=m+o) (by omega) (by omega),b_split1440 n (m+o) (by omega),obs]
theorem b_split7 (n:Nat) (d:Int) (h:-1≤d∧d≤36501):g_days_split n d 7=some ((d+7) / 7 - 1,(d+7) % 7):=by
 unfold g_days_split
 rw [show (!eqI 7 0)=true from rfl,cond_true,cond_true]
 simp only [ltI]
 by_cases hx:0≤d
 ·rw [Int.tdiv_eq_ediv_of_nonneg hx,Int.tmod_eq_emod_of_nonneg hx,dzF (by omega),cond_false,wi_id (x:=d / 7) (by omega) (by omega)]
  congr 2
  ·omega
  ·omega
 ·have:d=-1:=by omega
  subst this
  rfl
theorem b_type (n:Nat) (c:GCl) (d:Int) (hn:1000≤n) (h1:c.Changes.length≤900) (h2:c.Holidays.length≤900) (hc:calB c=true) (hd:-1≤d∧d≤36501):g_days_Type n c d=some (typF d c.Holidays,0):=by
 have hc':=hc
 simp only [calB,bae] at hc'
 unfold g_days_Type
 rw [b_cal n c hn h1 h2,hc,b_dinside,dzT hd]
 simp only [obs,Bool.not_true,cond_false]
 obtain ⟨r,e,L⟩:=b_lastI n c.Holidays d hn h2 hc'.2
 have hpw:=(holB_lt _ _ hc'.2).2
 rw [e]
 simp only [obs]
 have hj:(bif leI 0 r then (getI c.Holidays r).bind fun x8=>some (eqI x8 d) else some false)=some (decide (d ∈ c.Holidays)):=by
  by_cases h0:0≤r
  ·obtain ⟨k,rfl⟩:∃ k:Nat,r=(k:Int):=⟨r.toNat,by omega⟩
   have hk:=L.hi
   have hx:c.Holidays[k]?=some (c.Holidays[k]'(by omega)):=by rw [List.getElem?_eq_getElem]
   rw [show leI 0 (k:Int)=true from by simp only [leI]; rw [dzT h0],cond_true,getI_nat,hx,obs,eqI_d]
   generalize c.Holidays[k]'(by omega)=x at hx
   by_cases hxd:x=d
   ·rw [dzT hxd,dzT]
    rw [← hxd]
    exact List.mem_of_getElem? hx
   ·rw [dzF hxd,dzF]
    intro hmem
    obtain ⟨i,hi⟩:=List.mem_iff_getElem?.1 hmem
    have hik:(i:Int)≤k:=by
     apply Classical.byContradiction
     intro h
     have:=L.gt i d (by omega) hi
     omega
    by_cases e:i=k
    ·subst e
     rw [hx] at hi; cases hi
     exact hxd rfl
    ·have hi':=List.getElem?_eq_some_iff.1 hi
     have hx':=List.getElem?_eq_some_iff.1 hx
     have:=List.pairwise_iff_getElem.1 hpw i k hi'.1 hx'.1 (by omega)
     rw [hi'.2,hx'.2] at this
     have:=L.le k x (Int.le_refl _) hx
     omega
  ·rw [show leI 0 r=false from by simp only [leI]; rw [dzF h0],cond_false,dzF]
   intro hmem
   obtain ⟨i,hi⟩:=List.mem_iff_getElem?.1 hmem
   have:=L.gt i d (by omega) hi
   omega
 rw [hj,obs,typF_mem]
 by_cases hmem:d ∈ c.Holidays
 ·rw [dzT hmem,if_pos hmem]; rfl
 ·rw [dzF hmem,if_neg hmem,cond_false,b_split7 n d hd]
  unfold g_days_week wkF
  simp only [obs]
  rw [wi_id (x:=d+7) (by omega) (by omega),Int.tmod_eq_emod_of_nonneg (a:=d+7) (by omega)]
  have hr:0≤(d+7) % 7∧(d+7) % 7 < 7:=by omega
  generalize (d+7) % 7=w at hr
  have hw:w=0∨w=1∨w=2∨w=3∨w=4∨w=5∨w=6:=by omega
  rcases hw with rfl | rfl | rfl | rfl | rfl | rfl | rfl <;> rfl
theorem b_applies (n:Nat) (c:GCl) (a:GAr) (m:Int) (hn:1000≤n) (h1:c.Changes.length≤900) (h2:c.Holidays.length≤900) (hc:calB c=true) (ha:artB a=true) (hm:0≤m∧m≤52560000) :
  g_t_Applies n a c m=some (appB c a m):=by
 have ho:=cal_off m hc
 unfold g_t_Applies appB
 rw [b_article,ha,b_local n c m hn h1 h2 hc hm]
 simp only [obs,Bool.not_true,cond_false,eqI_d,decide_true]
 generalize offF m c.Offset c.Changes=o at ho
 rw [wi_id (x:=m+o) (by omega) (by omega),wi_id (x:=m+o+1440) (by omega) (by omega)]
 rw [Int.tdiv_eq_ediv_of_nonneg (a:=m+o+1440) (by omega),Int.tmod_eq_emod_of_nonneg (a:=m+o+1440) (by omega)]
 rw [wi_id (x:=(m+o+1440) / 1440) (by omega) (by omega),wi_id (x:=(m+o+1440) / 1440 - 1) (by omega) (by omega)]
 rw [b_type n c _ hn h1 h2 hc (by omega)]
 have ht:=typF_range ((m+o+1440) / 1440 - 1) c.Holidays
 simp only [obs,cond_some,leI,ltI,decide_true,cond_true]
 rw [dzF (show ¬ typF ((m+o+1440) / 1440 - 1) c.Holidays < 0 by omega)]
 generalize decide (bAnd .i64 a.Days (shlI .i64 1 (typF ((m+o+1440) / 1440 - 1) c.Holidays))=0)=b
 generalize (m+o+1440) % 1440=w
 by_cases c1:a.From≤w
 ·by_cases c2:w < a.To
  ·rw [dzF (show ¬ w < a.From by omega),dzF (show ¬ a.To≤w by omega),dzT c1,dzT c2]
   cases b <;> rfl
  ·rw [dzF (show ¬ w < a.From by omega),dzT (show a.To≤w by omega),dzF c2]
   cases b <;> simp
 ·rw [dzT (show w < a.From by omega),dzF c1]; rfl
end Go.Proofs
namespace Go.Proofs
open Go Go.Abs
set_option maxRecDepth 100000
set_option linter.unusedVariables false
theorem b_minside (n:Nat) (x a b:Int):g_money_inside n x a b=some (decide (a≤x∧x≤b)):=by
 unfold g_money_inside leI
 by_cases h:a≤x <;> simp [h]
theorem b_amount (n:Nat) (x:Int):g_money_isAmount n x=some (decide (0≤x∧x≤1000000000)):=by
 unfold g_money_isAmount
 rw [b_minside,obs]
theorem b_need (n:Nat) (b:Bool) (e:Int):g_money_need n b e=some (needE b e):=by cases b <;> rfl
theorem b_checked (n:Nat) (x:Int):g_money_checked n x=some (if 0≤x∧x≤1000000000 then .ok x else .error 3):=by
 unfold g_money_checked
 rw [b_amount,obs,b_need,obs,exc_need]
 by_cases h:0≤x∧x≤1000000000
 ·rw [dzT h,if_pos h]; rfl
 ·rw [dzF h,if_neg h]; rfl
theorem r_checked' (n:Nat) (x:Int):g_ref31_checked n x=some (if 0≤x∧x≤1000000000 then (x,0) else (0,3)):=by
 unfold g_ref31_checked
 rw [r_amount,obs]
 by_cases h:0≤x∧x≤1000000000
 ·rw [dzT h,if_pos h]; rfl
 ·rw [dzF h,if_neg h]; rfl
theorem b_end (n:Nat) (x:Int):((g_money_checked n x).bind (exc (fun r3=>(g_money_caught n 0).bind fun r5=>some (r3,r5)) fun e4=>(g_money_caught_2 n e4 0).bind fun r6=>some (0,r6)))=((g_ref31_checked n x).bind fun r8=>some (r8.1,r8.2)):=by
 rw [b_checked,r_checked',obs,obs]
 by_cases h:0≤x∧x≤1000000000
 ·rw [if_pos h,if_pos h]; rfl
 ·rw [if_neg h,if_neg h]; rfl
theorem b_times (n:Nat) (p q d:Int):g_money_Times n p q d=g_ref31_Times n p q d:=by
 unfold g_money_Times g_ref31_Times g_money_Times_j1
 simp only [b_amount,r_amount,b_minside,b_need,obs,exc_need,b_end]
 unfold g_money_half g_ref31_divided
 by_cases c1:0≤p∧p≤1000000000
 rotate_left
 ·rw [dzF c1]; rfl
 rw [dzT c1]
 by_cases c2:0≤q∧q≤1000000000
 rotate_left
 ·rw [dzF c2]; rfl
 rw [dzT c2]
 simp only [Bool.not_true,cond_false,cond_true,ltI]
 by_cases c3:1≤d
 ·rw [dzF (show ¬ d < 1 by omega)]
  by_cases c4:d≤1000000000
  ·rw [dzT (show 1≤d∧d≤1000000000 from ⟨c3,c4⟩),dzF (show ¬ 1000000000 < d by omega)]; rfl
  ·rw [dzF (show ¬ (1≤d∧d≤1000000000) by omega),dzT (show 1000000000 < d by omega)]; rfl
 ·rw [dzT (show d < 1 by omega),dzF (show ¬ (1≤d∧d≤1000000000) by omega)]; rfl
theorem b_started (n:Nat) (p q u:Int):g_money_Started n p q u=g_ref31_Started n p q u:=by
 unfold g_money_Started g_ref31_Started g_money_Started_j1
 simp only [b_amount,r_amount,b_minside,b_need,obs,exc_need,b_end]
 by_cases c1:0≤p∧p≤1000000000
 rotate_left
 ·rw [dzF c1]; rfl
 rw [dzT c1]
 by_cases c2:0≤q∧q≤1000000000
 rotate_left
 ·rw [dzF c2]; rfl
 rw [dzT c2]
 simp only [Bool.not_true,cond_false,cond_true,ltI]
 by_cases c3:1≤u
 ·rw [dzF (show ¬ u < 1 by omega)]
  by_cases c4:u≤1000000000
  ·rw [dzT (show 1≤u∧u≤1000000000 from ⟨c3,c4⟩),dzF (show ¬ 1000000000 < u by omega)]; rfl
  ·rw [dzF (show ¬ (1≤u∧u≤1000000000) by omega),dzT (show 1000000000 < u by omega)]; rfl
 ·rw [dzT (show u < 1 by omega),dzF (show ¬ (1≤u∧u≤1000000000) by omega)]; rfl
theorem b_tax (n:Nat) (x r:Int):g_money_Tax n x r=g_ref31_Tax n x r:=by
 unfold g_money_Tax g_ref31_Tax g_money_Tax_j1
 simp only [b_amount,r_amount,b_minside,b_need,obs,exc_need,b_end]
 unfold g_money_half g_ref31_divided
 by_cases c1:0≤x∧x≤1000000000
 rotate_left
 ·rw [dzF c1]; rfl
 rw [dzT c1]
 simp only [Bool.not_true,cond_false,cond_true,ltI]
 by_cases c3:0≤r
 ·rw [dzF (show ¬ r < 0 by omega)]
  by_cases c4:r≤100000
  ·rw [dzT (show 0≤r∧r≤100000 from ⟨c3,c4⟩),dzF (show ¬ 100000 < r by omega)]; rfl
  ·rw [dzF (show ¬ (0≤r∧r≤100000) by omega),dzT (show 100000 < r by omega)]; rfl
 ·rw [dzT (show r < 0 by omega),dzF (show ¬ (0≤r∧r≤100000) by omega)]; rfl
def amt (x:Int):Except Int Int:=if x≤1000000000 then .ok x else .error 3
theorem b_must (n:Nat) (x:Int):g_bill_must n (if x≤1000000000 then (x,0) else (0,3):Int × Int).1 (if x≤1000000000 then (x,0) else (0,3):Int × Int).2=some (amt x):=by
 unfold amt
 by_cases h:x≤1000000000
 ·rw [if_pos h,if_pos h]; rfl
 ·rw [if_neg h,if_neg h]; rfl
theorem b_session (n:Nat) (s:GSs) (hn:1000≤n) (hl:s.Slices.length≤900) (hb:i64b s.To):g_bill_Valid n s=some (valB s):=by
 unfold i64b at hb
 unfold g_bill_Valid valB
 simp only [ltI,leI,lenI,List.length_map]
 by_cases c1:s.From < 0
 ·rw [dzT c1,cond_true,obs,cond_true,dzF (by omega)]; rfl
 rw [dzF c1,cond_false]
 by_cases c2:s.To≤s.From
 ·rw [dzT c2,cond_true,obs,cond_true,dzF (by omega)]; rfl
 rw [dzF c2,cond_false,wi_id (x:=s.To - s.From) (by omega) (by omega)]
 by_cases c4:2880 < s.To - s.From
 ·rw [dzT c4,cond_true,obs,cond_true,dzF (by omega)]; rfl
 rw [dzF c4,cond_false,obs]
 by_cases c3:52560000 < s.To
 ·rw [dzT c3,cond_true,dzF (by omega)]; rfl
 rw [dzF c3,cond_false]
 by_cases c5:s.End < s.From
 ·rw [dzT c5,cond_true,obs,cond_true,dzF (by omega)]; rfl
 rw [dzF c5,cond_false]
 by_cases c6:s.To < s.End
 ·rw [dzT c6,cond_true,obs,cond_true,dzF (by omega)]; rfl
 rw [dzF c6,cond_false,obs]
 by_cases c7:s.Slices.length≤48
 rotate_left
 ·rw [dzT (show (48:Int) < s.Slices.length by omega),cond_true,dzF (show ¬ (0≤s.From∧s.From < s.To∧s.To≤52560000∧s.To - s.From≤2880∧s.From≤s.End∧s.End≤s.To∧s.Slices.length≤48) by omega)]; rfl
 rw [dzF (show ¬ (48:Int) < s.Slices.length by omega),cond_false,dzT (show 0≤s.From∧s.From < s.To∧s.To≤52560000∧s.To - s.From≤2880∧s.From≤s.End∧s.End≤s.To∧s.Slices.length≤48 by omega),Bool.true_and,wi_id (x:=s.From - 1) (by omega) (by omega)]
 have:=loop_gen (l:=s.Slices) (fun (a:Int) i=>(a,i)) (B:=fun recl8 (v:Int × Int)=>g_bill_Valid_l8 s recl8 v.1 v.2) (F:=slB s.From s.End) (fun i a=>s.From - 1≤a) (by omega) ?_ ?_ (n:=n) 0 (s.From - 1) (Int.le_refl _) (by omega) (by omega)
 ·exact this
 ·intro rec a ha
  simp only [g_bill_Valid_l8,lenI,List.length_map,ltI]
  rw [dzF (by omega),cond_false]
  rfl
 ·intro rec a i x r ha hd hx hi hw hr
  simp only [g_bill_Valid_l8,lenI,List.length_map,ltI,leI,getI_nat,hx,obs,hw]
  rw [dzT (by omega),cond_true,slB]
  by_cases d1:x.Minute≤a
  ·rw [dzT d1,cond_true,obs,cond_true,dzF (by omega)]; rfl
  rw [dzF d1,cond_false]
  by_cases d2:s.End≤x.Minute
  ·rw [dzT d2,cond_true,obs,cond_true,dzF (by omega)]; rfl
  rw [dzF d2,cond_false]
  by_cases d3:x.Energy < 0
  ·rw [dzT d3,cond_true,obs,cond_true,dzF (by omega)]; rfl
  rw [dzF d3,cond_false,obs]
  by_cases d4:10000 < x.Energy
  ·rw [dzT d4,cond_true,dzF (by omega)]; rfl
  rw [dzF d4,cond_false,hr x.Minute (by omega),dzT (by omega)]; rfl
theorem b_stretch (n:Nat) (c:GCl) (a:GAr) (s:GSs) (f t:Int) (hn:10000≤n) (h1:c.Changes.length≤900) (h2:c.Holidays.length≤900) (hc:calB c=true) (ha:artB a=true) (hk34:a.Kind=3∨a.Kind=4) (hf:0≤f) (ht:t≤52560000) (hk:t - f≤2880) :
  g_bb_stretch n (⟨a,c,s⟩:GBB) f t=some (amt (staF c a f t)):=by
 unfold g_bb_stretch
 have key:∀ (k j:Nat) (z m:Int),(t - m).toNat=k→k < j→0≤m→k≤2880→0≤z∧z≤3000 - k →
   loopN (fun recl3 (v:Int × Int)=>g_bb_stretch_l3 n (⟨a,c,s⟩:GBB) t recl3 v.1 v.2) j (m,z)=some (z+cN c a k m):=by
  intro k
  induction k with
  | zero =>
   intro j z m h3 h4 h5 h6 h7
   obtain ⟨j,rfl⟩:∃ j',j=j'+1:=⟨j - 1,by omega⟩
   unfold loopN
   simp only [g_bb_stretch_l3,ltI]
   rw [dzF (by omega),cond_false]
   simp [cN]
  | succ k ih =>
   intro j z m h3 h4 h5 h6 h7
   obtain ⟨j,rfl⟩:∃ j',j=j'+1:=⟨j - 1,by omega⟩
   have i0:=ih j z (m+1) (by omega) (by omega) (by omega) (by omega) (by omega)
   have i1:=ih j (z+1) (m+1) (by omega) (by omega) (by omega) (by omega) (by omega)
   unfold loopN
   generalize loopN (fun recl3 (v:Int × Int)=>g_bb_stretch_l3 n (⟨a,c,s⟩:GBB) t recl3 v.1 v.2) j=L at i0 i1 ⊢
   show g_bb_stretch_l3 n (⟨a,c,s⟩:GBB) t L m z=_
   unfold g_bb_stretch_l3 g_bb_applies
   simp only [ltI]
   rw [dzT (by omega),cond_true,b_applies n c a m (by omega) h1 h2 hc ha (by omega),obs,obs,wi_id (x:=m+1) (by omega) (by omega),wi_id (x:=z+1) (by omega) (by omega)]
   unfold cN
   cases appB c a m
   ·rw [cond_false,obs,i0]
    simp
   ·rw [cond_true,obs,i1]
    simp
    omega
 have hloop:=key (t - f).toNat n 0 f rfl (by omega) hf (by omega) (by omega)
 rw [Int.zero_add] at hloop
 obtain ⟨g1,g2⟩:=r_sta n c a f t hn h1 h2 hc ha hk34 hf ht hk
 rw [r_minutes n c a f t hn h1 h2 hc ha hf ht hk,obs] at g1
 simp only
 refine (congrArg (fun o=>Option.bind o _) hloop).trans ?_
 rw [obs,b_started]
 cases hS:g_ref31_Started n a.Price (maxI 0 (wi (cN c a (t - f).toNat f - a.Free))) a.Unit with
 | none=>rw [hS] at g1; cases g1
 | some r =>
  rw [hS,obs] at g1
  have hr:r=if staF c a f t≤1000000000 then (staF c a f t,0) else (0,3):=Option.some.inj g1
  rw [obs,hr]
  rw [b_must n (staF c a f t),obs]
  unfold amt
  by_cases h:staF c a f t≤1000000000
  ·rw [if_pos h]; rfl
  ·rw [if_neg h]; rfl
def endE (rate net:Int) (l:List GLine):Except Int GBill :=
 if net≤1000000000∧wi (net+taxF net rate)≤1000000000 then .ok ⟨l,net,taxF net rate,wi (net+taxF net rate)⟩ else .error 3
theorem b_sum1 (n:Nat) (rate cap:Int) (l:OL GLine) (z:Int) (hr:0≤rate∧rate≤10000) (hz:0≤z):g_bill_sum_j1 n rate cap l z=some (endE rate (capV cap z) l.toL):=by
 unfold g_bill_sum_j1
 have e:(bif leI 0 cap then some (minI z cap) else some z)=some (capV cap z):=by
  unfold capV leI minI
  by_cases c1:0≤cap <;> by_cases c2:cap < z <;> simp [c1,c2]
 rw [e,obs]
 have hnet:0≤capV cap z:=by unfold capV; split <;> omega
 generalize capV cap z=net at hnet
 unfold endE
 rw [b_tax]
 by_cases c:1000000000 < net
 ·have:g_ref31_Tax n net rate=some (0,1):=by
   unfold g_ref31_Tax
   rw [r_amount,dzF (show ¬ (0≤net∧net≤1000000000) by omega)]; rfl
  rw [this,if_neg (by omega)]; rfl
 ·obtain ⟨g1,g2,g3⟩:=r_tax n net rate (by omega) hr
  rw [g1,obs]
  have hm:g_bill_must n (taxF net rate) 0=some (.ok (taxF net rate)):=rfl
  simp only [hm,obs,exc,ltI]
  by_cases c2:1000000000 < wi (net+taxF net rate)
  ·rw [dzT c2,cond_true,if_neg (by omega)]
  ·rw [dzF c2,cond_false,if_pos (by omega)]
theorem b_sum (n:Nat) (t:GTf) (c:GCl) (s:GSs) (hn:10000≤n) (h1:c.Changes.length≤900) (h2:c.Holidays.length≤900) (hc:calB c=true) (ht:tariffB t=true) (hv:valB s=true) :
  g_bill_sum n t c s=some (if linB (linF c s 0 t.Articles) then (if bilB (bilF t (rateF 0 t.Articles) 0 (linF c s 0 t.Articles)) then .ok (bilF t (rateF 0 t.Articles) 0 (linF c s 0 t.Articles)) else .error 3) else .error 3):=by
 have ht':=ht
 simp only [tariffB,bae,decide_eq_true_eq] at ht'
 have hall:=tarB_all ht'.2
 have hArt:=fun a h=>artB_art (hall a h)
 have hv':=hv
 simp only [valB,bae,decide_eq_true_eq] at hv'
 obtain ⟨hrng,hsl⟩:=hv'
 have hm:=slB_mem hsl
 unfold g_bill_sum
 have:=loop_gen (l:=t.Articles) (fun (a:Int × Int × OL GLine × Int) i=>(a.1,a.2.1,i,a.2.2.1,a.2.2.2)) (B:=fun recl6 (v:Int × Int × Int × (OL GLine) × Int)=>g_bill_sum_l6 n t c s recl6 v.1 v.2.1 v.2.2.1 v.2.2.2.1 v.2.2.2.2)
  (F:=fun a r=>if linB (linF c s (t.Articles.length - r.length) r) then endE (rateF a.1 r) (capV (capR a.2.1 r) (sumF a.2.2.2 (linF c s (t.Articles.length - r.length) r))) (a.2.2.1.toL++linF c s (t.Articles.length - r.length) r) else .error 3)
  (fun i a=>(0≤a.1∧a.1≤10000)∧a.2.2.1.toL.length≤i∧0≤a.2.2.2∧a.2.2.2≤1000000000 * i) (by omega) ?_ ?_ (n:=n) 0 (0,-1,OL.nil,0) (by simp) (by omega) (by omega)
 ·rw [show ((0:Nat):Int)=0 from rfl] at this
  refine this.trans ?_
  simp only [OL.toL_nil,List.nil_append,List.drop_zero,Nat.sub_self]
  rw [← capF_R _ _ _ (fun a h=>(hArt a h).price.1),show ∀ z,capV (-1) z=z from fun z=>by unfold capV; rw [if_neg (by omega)]]
  unfold endE bilF bilB netF
  simp only [bae,decide_eq_true_eq]
 ·intro rec a ha
  have h:ltI ((t.Articles.length:Nat):Int) (lenI (List.map GAr.cs t.Articles))=false:=by simp [ltI,lenI]
  show g_bill_sum_l6 n t c s rec a.1 a.2.1 ((t.Articles.length:Nat):Int) a.2.2.1 a.2.2.2=_
  unfold g_bill_sum_l6
  rw [h,cond_false,b_sum1 n _ _ _ _ ha.1 ha.2.2.1]
  simp [linF,linB,rateF,capR,sumF]
 ·intro rec a i x r hi0 hd hx hi hw hr
  have h3:ltI (i:Int) (lenI (List.map GAr.cs t.Articles))=true:=by
   simp only [ltI,lenI,List.length_map]
   rw [dzT (by omega)]
  have hidx:=drop_idx hd hi
  have hxa:=hall x (List.mem_of_getElem? hx)
  have hA:=artB_art hxa
  simp only [List.length_cons,hidx.1]
  simp only [hidx.2] at hr
  obtain ⟨rate,cap,acc,z⟩:=a
  simp only at hi0 ⊢
  show g_bill_sum_l6 n t c s rec rate cap (i:Int) acc z=_
  unfold g_bill_sum_l6
  rw [h3,cond_true,getI_nat,hx,obs,hw]
  simp only [eqI_d]
  unfold linF rateF capR
  by_cases k5:x.Kind=5
  ·rw [dzT k5,cond_true,if_pos (Or.inl k5),if_neg (show ¬ x.Kind=6 by omega),if_pos k5]
   have hcap:=fun k=>hr (rate,k,acc,z) ⟨hi0.1,by simp only; omega,hi0.2.2.1,by simp only; omega⟩
   simp only at hcap
   simp only [ltI,cond_some,obs]
   rw [hcap,hcap]
   by_cases c1:cap < 0
   ·simp [c1]
   ·by_cases c2:x.Price < cap <;> simp [c1,c2]
  rw [dzF k5,cond_false]
  by_cases k6:x.Kind=6
  ·have:=hr (x.Price,cap,acc,z) ⟨⟨hA.price.1,hA.rate k6⟩,by simp only; omega,by simp only; omega,by simp only; omega⟩
   simp only at this
   rw [dzT k6,cond_true,if_pos (Or.inr k6),if_pos k6,if_neg k5,this]
  rw [dzF k6,cond_false,if_neg (show ¬ (x.Kind=5∨x.Kind=6) by omega),if_neg k6,if_neg k5]
  have g2:=(r_line n c x s hn h1 h2 hc hxa hv).2
  have hj:∀ y,0≤y→y≤1000000000→g_bill_sum_j10 rate cap (i:Int) acc z rec y=some (if linB (linF c s (i+1) r) then endE (rateF rate r) (capV (capR cap r) (sumF (z+y) (linF c s (i+1) r))) (acc.toL++⟨(i:Int),y⟩ :: linF c s (i+1) r) else .error 3):=by
   intro y hy0 hy
   unfold g_bill_sum_j10
   have hroom:roomB (List.length (acc.toL++[(⟨(i:Int),y⟩:GLine)])) 16=true:=by
    simp only [roomB,List.length_append,List.length_cons,List.length_nil]
    rw [dzT]
    omega
   have:=hr (rate,cap,OL.own (acc.toL++[(⟨(i:Int),y⟩:GLine)]),z+y) ⟨hi0.1,by simp only [OL.toL_own,List.length_append,List.length_cons,List.length_nil]; omega,by simp only; omega,by simp only; omega⟩
   simp only at this
   rw [hroom,cond_true,wi_id (x:=z+y) (by omega) (by omega),hw,this]
   simp only [OL.toL_own,List.append_assoc,List.singleton_append]
  have hgoal:∀ (y:Int),cosF c s x=y→0≤y→∀ (p:Option (Except Int GBill)),p=(exc (fun y=>g_bill_sum_j10 rate cap (i:Int) acc z rec y) (fun e=>some (.error e)) (amt y)) →
    p=some (if linB (⟨(i:Int),cosF c s x⟩ :: linF c s (i+1) r) then endE (rateF rate r) (capV (capR cap r) (sumF z (⟨(i:Int),cosF c s x⟩ :: linF c s (i+1) r))) (acc.toL++⟨(i:Int),cosF c s x⟩ :: linF c s (i+1) r) else .error 3):=by
   rintro y rfl hy0 p rfl
   rw [linB_cons]
   unfold amt
   by_cases hb:cosF c s x≤1000000000
   ·rw [if_pos hb,dzT hb]
    simp only [exc,Bool.true_and]
    rw [hj _ hy0 hb,show ∀ l,sumF z (⟨(i:Int),cosF c s x⟩ :: l)=sumF (wi (z+cosF c s x)) l from fun _=>rfl,wi_id (x:=z+cosF c s x) (by omega) (by omega)]
   ·rw [if_neg hb,dzF hb]
    rfl
  have hcos:cosF c s x=if x.Kind=1 then (if appB c x s.From then x.Price else 0) else if x.Kind=2 then wi (Int.tdiv (wi (wi (wi (2 * x.Price) * eneF c x 0 s.Slices)+1000)) 2000) else if x.Kind=3 then staF c x s.From s.To else if x.Kind=4 then staF c x s.End s.To else 0:=rfl
  by_cases k1:x.Kind=1
  ·rw [dzT k1,cond_true]
   rw [if_pos k1] at hcos
   unfold g_bb_applies
   have hp:=hA.price
   rw [b_applies n c x s.From (by omega) h1 h2 hc hxa (by omega),obs,obs]
   cases happ:appB c x s.From
   ·rw [happ] at hcos
    refine hgoal 0 hcos (Int.le_refl _) _ ?_
    rfl
   ·rw [happ] at hcos
    refine hgoal x.Price hcos hp.1 _ ?_
    unfold amt
    rw [if_pos (by omega)]; rfl
  rw [dzF k1,cond_false]
  rw [if_neg k1] at hcos
  by_cases k2:x.Kind=2
  ·rw [dzT k2,cond_true]
   rw [if_pos k2] at hcos
   have hloop:loopN (fun recl13 (v:Int × Int)=>g_bill_sum_l13 n c s x recl13 v.1 v.2) n (0,0)=some (eneF c x 0 s.Slices):=by
    have:=loop_acc (l:=s.Slices) (B:=fun recl13 (v:Int × Int)=>g_bill_sum_l13 n c s x recl13 v.1 v.2) (F:=eneF c x) (by omega) ?_ ?_ (n:=n) 0 0 (by omega) (by omega)
    ·exact this
    ·intro rec z
     have h:ltI ((s.Slices.length:Nat):Int) (lenI (List.map GSl.cs s.Slices))=false:=by simp [ltI,lenI]
     show g_bill_sum_l13 n c s x rec z ((s.Slices.length:Nat):Int)=some z
     unfold g_bill_sum_l13
     rw [h,cond_false]
    ·intro rec z i y q hd hy hi hw hr
     have h3:ltI (i:Int) (lenI (List.map GSl.cs s.Slices))=true:=by
      simp only [ltI,lenI,List.length_map]
      rw [dzT (by omega)]
     have hym:=hm y (List.mem_of_getElem? hy)
     show g_bill_sum_l13 n c s x rec z (i:Int)=some (eneF c x z (y :: q))
     unfold g_bill_sum_l13 eneF g_bb_applies
     rw [h3,cond_true,getI_nat,hy,obs,b_applies n c x y.Minute (by omega) h1 h2 hc hxa (by omega),obs,obs,hw,hr,hr]
     cases appB c x y.Minute
     ·rfl
     ·rfl
   have he:=eneF_range c x s.Slices 0 (fun y hy=>by have:=hm y hy; omega) (by omega) (by omega)
   obtain ⟨g3,g4⟩:=r_times n x.Price (eneF c x 0 s.Slices) hA.price (by omega)
   refine hgoal _ hcos g4 _ ?_
   refine (congrArg (fun o=>Option.bind o _) hloop).trans ?_
   rw [obs,b_times,g3,obs]
   refine (congrArg (fun o=>Option.bind o _) (b_must n _)).trans ?_
   rw [obs]
  rw [dzF k2,cond_false]
  rw [if_neg k2] at hcos
  by_cases k3:x.Kind=3
  ·rw [dzT k3,cond_true]
   rw [if_pos k3] at hcos
   refine hgoal _ hcos (by rw [← hcos]; exact g2) _ ?_
   rw [b_stretch n c x s s.From s.To hn h1 h2 hc hxa (Or.inl k3) hrng.1 (by omega) (by omega),obs]
  rw [dzF k3,cond_false]
  rw [if_neg k3] at hcos
  by_cases k4:x.Kind=4
  ·rw [dzT k4,cond_true]
   rw [if_pos k4] at hcos
   refine hgoal _ hcos (by rw [← hcos]; exact g2) _ ?_
   rw [b_stretch n c x s s.End s.To hn h1 h2 hc hxa (Or.inr k4) (by omega) (by omega) (by omega),obs]
  have:=hA.kind
  omega
theorem b_bill (n:Nat) (t:GTf) (c:GCl) (s:GSs) (hn:10000≤n) (h1:c.Changes.length≤900) (h2:c.Holidays.length≤900) (h3:s.Slices.length≤900) (hb:i64b s.To) :
  g_bill_Bill n t c s=some (if (tariffB t&&calB c&&valB s)=true then (if linB (linF c s 0 t.Articles) then (if bilB (bilF t (rateF 0 t.Articles) 0 (linF c s 0 t.Articles)) then (bilF t (rateF 0 t.Articles) 0 (linF c s 0 t.Articles),0) else (zeroBill,3)) else (zeroBill,3)) else (zeroBill,1)):=by
 unfold g_bill_Bill
 rw [b_tariff n t (by omega),b_cal n c (by omega) h1 h2,b_session n s (by omega) h3 hb]
 simp only [obs,cond_some]
 cases ht:tariffB t
 ·rfl
 cases hc:calB c
 ·rfl
 cases hv:valB s
 ·rfl
 rw [b_sum n t c s hn h1 h2 hc ht hv]
 simp only [Bool.not_true,cond_false,obs,Bool.and_self,if_true]
 cases linB (linF c s 0 t.Articles)
 ·rfl
 ·cases bilB (bilF t (rateF 0 t.Articles) 0 (linF c s 0 t.Articles))
  ·rfl
  ·rfl
end Go.Proofs
namespace Go.Proofs
open Go Go.Abs
set_option maxRecDepth 100000
set_option linter.unusedVariables false
theorem lst_min:∀ (r:List GReading) (p:GReading),(0≤p.Minute∧p.Minute≤52560000)→OrdR p r→0≤(lst p r).Minute∧(lst p r).Minute≤52560000
 | [],_,hp,_=>hp
 | y :: r,_,_,h=>lst_min r y h.1 h.2.2.2
theorem lst_regU:∀ (r:List GReading) (p:GReading),p.Register≤1000000000→OrdR p r→(lst p r).Register≤1000000000
 | [],_,hp,_=>hp
 | y :: r,_,_,h=>lst_regU r y h.2.1.2 h.2.2.2
theorem der_zero (m0:Int):∀ (a:List GReading) (p:GReading),(∀ x ∈ a,x.Minute=m0)→derF m0 p m0 [] a=(m0,[])
 | [],_,_=>rfl
 | y :: r,p,h=>by
  have hy:=h y List.mem_cons_self
  unfold derF
  have:derS m0 p y m0 []=(m0,[]):=by
   unfold derS
   rw [if_neg (by omega)]
  rw [this]
  exact der_zero m0 r y (fun z hz=>h z (List.mem_cons_of_mem _ hz))
theorem minute_ind (x0:GReading) (rest:List GReading) (ho:OrdR x0 rest) (h0:0≤x0.Minute∧x0.Minute≤52560000) (hr0:0≤x0.Register∧x0.Register≤1000000000) (hlen:rest.length≤900)
  (I:Int→List GReading→List GReading→Int→List GSl→Prop)
  (hI:∀ a post,rest=a++post→(∀ x ∈ a,x.Minute=x0.Minute)→(∀ x ∈ post,x0.Minute < x.Minute)→I x0.Minute a post x0.Minute [])
  (hS:∀ (m:Int) (a g post:List GReading) (e:Int) (sl:List GSl),rest=a++(g++post)→x0.Minute≤m→m < (lst x0 rest).Minute→(∀ x ∈ a,x.Minute≤m)→(∀ x ∈ g,x.Minute=m+1)→(∀ x ∈ post,m+1 < x.Minute)→I m a (g++post) e sl→Good x0.Minute m e sl →
   0≤sumE (lst x0 a) g→sumE (lst x0 a) g≤1000000000 * g.length→I (m+1) (a++g) post (if sumE (lst x0 a) g=0 then e else m+1) (if sumE (lst x0 a) g=0 then sl else sl++[⟨m,sumE (lst x0 a) g⟩])) :
  I (lst x0 rest).Minute rest [] (derF x0.Minute x0 x0.Minute [] rest).1 (derF x0.Minute x0 x0.Minute [] rest).2∧Good x0.Minute (lst x0 rest).Minute (derF x0.Minute x0 x0.Minute [] rest).1 (derF x0.Minute x0 x0.Minute [] rest).2:=by
 have hto:=ord_lst rest x0 ho
 have hT:=lst_min rest x0 h0 ho
 have key:∀ (k:Nat) (m e:Int) (sl:List GSl) (a post:List GReading),rest=a++post→(∀ x ∈ a,x.Minute≤m)→(∀ x ∈ post,m < x.Minute)→derF x0.Minute x0 x0.Minute [] a=(e,sl)→Good x0.Minute m e sl→I m a post e sl→x0.Minute≤m→m≤(lst x0 rest).Minute→((lst x0 rest).Minute - m).toNat=k →
   I (lst x0 rest).Minute rest [] (derF x0.Minute x0 x0.Minute [] rest).1 (derF x0.Minute x0 x0.Minute [] rest).2∧Good x0.Minute (lst x0 rest).Minute (derF x0.Minute x0 x0.Minute [] rest).1 (derF x0.Minute x0 x0.Minute [] rest).2:=by
  intro k
  induction k with
  | zero =>
   intro m e sl a post hre ha hp hder hg hi hm1 hm2 hk
   have hpost:post=[]:=by
    cases post with
    | nil=>rfl
    | cons y r =>
     have h1:=hp y List.mem_cons_self
     have h2:=hto y (Or.inr (by rw [hre]; simp))
     omega
   subst hpost
   rw [List.append_nil] at hre
   have hmT:m=(lst x0 rest).Minute:=by omega
   rw [← hre] at hder hi
   rw [hder,← hmT]
   exact ⟨hi,hg⟩
  | succ k ih =>
   intro m e sl a post hre ha hp hder hg hi hm1 hm2 hk
   have hoa:=(ord_app a post x0).1 (hre ▸ ho)
   obtain ⟨g,post',hpg,hg1,hg2⟩:=post_split m post (lst x0 a) hoa.2 hp
   subst hpg
   have hog:=(ord_app g post' (lst x0 a)).1 hoa.2
   have hrl:=lst_regU a x0 hr0.2 hoa.1
   have hrn:=lst_reg a x0 hoa.1 hr0.1
   have hlens:a.length+(g.length+post'.length)≤900:=by
    have:=hlen
    rw [hre] at this
    simp only [List.length_append] at this
    omega
   have hdg:=derG1 x0.Minute m e (by omega) sl (fun q hq=>by have:=(hg.all q hq).2.1; have:=hg.hi; omega) g (lst x0 a) hog.1 hrn hrl hg1 (by omega)
   have hder':derF x0.Minute x0 x0.Minute [] (a++g)=if sumE (lst x0 a) g=0 then (e,sl) else (m+1,sl++[⟨m,sumE (lst x0 a) g⟩]):=by
    rw [derF_app,hder]
    exact hdg
   have hsum:=sumE_range g (lst x0 a) hog.1 hrn
   have hre':rest=(a++g)++post':=by rw [hre,List.append_assoc]
   have hag:∀ x ∈ a++g,x.Minute≤m+1:=by
    intro x hx
    rcases List.mem_append.1 hx with hx | hx
    ·have:=ha x hx; omega
    ·have:=hg1 x hx; omega
   have hI':=hS m a g post' e sl hre hm1 (by omega) ha hg1 hg2 hi hg hsum.1 hsum.2
   have hgall:=hg.all
   have hglo:=hg.lo
   have hghi:=hg.hi
   by_cases hz:sumE (lst x0 a) g=0
   ·rw [if_pos hz,if_pos hz] at hI'
    exact ih (m+1) e sl (a++g) post' hre' hag hg2 (by rw [hder',if_pos hz]) ⟨hgall,hg.pw,hglo,by omega⟩ hI' (by omega) (by omega) (by omega)
   ·rw [if_neg hz,if_neg hz] at hI'
    refine ih (m+1) (m+1) _ (a++g) post' hre' hag hg2 (by rw [hder',if_neg hz]) ⟨fun x hx=>?_,?_,by omega,Int.le_refl _⟩ hI' (by omega) (by omega) (by omega)
    ·rcases List.mem_append.1 hx with hx | hx
     ·have:=hgall x hx; omega
     ·rw [List.mem_singleton.1 hx]
      simp only
      omega
    ·rw [List.pairwise_append]
     refine ⟨hg.pw,List.pairwise_singleton _ _,fun x hx y hy=>?_⟩
     rw [List.mem_singleton.1 hy]
     have:=hgall x hx
     simp only
     omega
 obtain ⟨a,post,hre,ha,hp⟩:∃ a post,rest=a++post∧(∀ x ∈ a,x.Minute=x0.Minute)∧∀ x ∈ post,x0.Minute < x.Minute:=by
  obtain ⟨g,q,e,h1,h2⟩:=post_split (x0.Minute - 1) rest x0 ho (fun x hx=>by have:=ord_min rest x0 ho x hx; omega)
  exact ⟨g,q,e,fun x hx=>by have:=h1 x hx; omega,fun x hx=>by have:=h2 x hx; omega⟩
 have hT0:=hto x0 (Or.inl rfl)
 exact key ((lst x0 rest).Minute - x0.Minute).toNat x0.Minute x0.Minute [] a post hre (fun x hx=>by have:=ha x hx; omega) hp (der_zero x0.Minute a x0 ha) ⟨fun x hx=>by simp at hx,by simp,Int.le_refl _,Int.le_refl _⟩ (hI a post hre ha hp) (Int.le_refl _) hT0 rfl
theorem val_ses (seed:Int) (l:List GReading) (hc:chainOk seed l):sesB (sesF l)=true→valB (sesF l)=true:=by
 match l,hc with
 | [],hc=>exact absurd hc.1.1 (by simp)
 | x0 :: rest,hc =>
  intro hb
  have h0:=hc.2 0 (by simp) x0 rfl
  have ho:OrdR x0 rest:=chain_drop hc rest x0 0 rfl
  have hT:=lst_min rest x0 h0.2.2.1 ho
  have hll:=hc.1.2
  simp only [List.length_cons] at hll
  have hg:=(minute_ind x0 rest ho h0.2.2.1 h0.2.2.2.1 (by omega) (fun _ _ _ _ _=>True) (fun _ _ _ _ _=>trivial) (fun _ _ _ _ _ _ _ _ _ _ _ _ _ _ _ _=>trivial)).2
  have hf:(sesF (x0 :: rest)).From=x0.Minute:=rfl
  have ht:(sesF (x0 :: rest)).To=(lst x0 rest).Minute:=by
   have:(sesF (x0 :: rest)).To=((x0 :: rest).getLast (by simp)).Minute:=rfl
   rw [this,getLast_lst]
  have he:(sesF (x0 :: rest)).End=(derF x0.Minute x0 x0.Minute [] rest).1:=rfl
  have hs:(sesF (x0 :: rest)).Slices=(derF x0.Minute x0 x0.Minute [] rest).2:=rfl
  unfold sesB at hb
  unfold valB
  rw [hf,ht] at hb ⊢
  rw [he,hs]
  rw [hs] at hb
  simp only [bae,decide_eq_true_eq] at hb
  rw [wi_id (x:=(lst x0 rest).Minute - x0.Minute) (by omega) (by omega)] at hb
  have k1:=hg.lo
  have k2:=hg.hi
  rw [slB_of _ _ _ _ hg.all (fun x hx=>by have:=(hg.all x hx).1; omega) hg.pw,hb.2,Bool.and_true,dzT]
  omega
theorem a_few33 (n:Nat) (t:GTf) (k:GCl) (s:GSs):∃ b,g_ref33_Few n t k s=some b∧(b=true→t.Articles.length≤20∧s.Slices.length≤60∧k.Changes.length≤30∧k.Holidays.length≤60∧t.Name.length≤50):=by
 unfold g_ref33_Few g_ref26_Few
 simp only [cond_some,obs,lenI,List.length_map,leI]
 refine ⟨_,rfl,fun h=>?_⟩
 simp [Bool.cond_eq_ite] at h
 omega
end Go.Proofs
namespace Go.Proofs
open Go Go.Abs
set_option maxRecDepth 100000
set_option linter.unusedVariables false
def mixC (s x k:Int):Int:=wu ((bXor .u64 s (wu (w8 (shrI .u64 (wu x) k)))) * 1099511628211)
def linkC (s:Int) (r:GReading):Int:=[r.Serial,r.Number,r.Minute,r.Register].foldl (fun s x=>[56,48,40,32,24,16,8,0].foldl (fun s k=>mixC s x k) s) s
theorem c_link0 (n:Nat) (s:Int) (r:GReading):g_chain_Link (n+100) s r=some (linkC s r):=by kernel_rfl
theorem mixC_B (s x:Int) (k:Nat) (hk:k≤56):mixC s x (k:Int)=mixB s x (k:Int):=by
 unfold mixC mixB
 have hw:=wu_range x
 rw [shrU (wu x) k (by omega)]
 have h0:0≤wu x / 2 ^ k:=Int.ediv_nonneg hw.1 (by exact_mod_cast Nat.zero_le _)
 have h1:wu x / 2 ^ k≤18446744073709551615:=by
  have:=Int.ediv_le_self (a:=wu x) (2 ^ k) hw.1
  omega
 generalize wu x / 2 ^ k=y at h0 h1
 rw [and255 y h0 h1]
 congr 2
 simp only [wu,w8,IntKind.wrap,IntKind.signed,IntKind.bits]
 simp
 congr 1
 omega
theorem mixC_W (x s:Int):[56,48,40,32,24,16,8,0].foldl (fun s k=>mixC s x k) s=mixW s x:=by
 unfold mixW
 simp only [List.foldl_cons,List.foldl_nil]
 have e:=fun (s:Int) (k:Nat) hk=>mixC_B s x k hk
 have e56:=fun s=>e s 56 (by omega)
 have e48:=fun s=>e s 48 (by omega)
 have e40:=fun s=>e s 40 (by omega)
 have e32:=fun s=>e s 32 (by omega)
 have e24:=fun s=>e s 24 (by omega)
 have e16:=fun s=>e s 16 (by omega)
 have e8:=fun s=>e s 8 (by omega)
 have e0:=fun s=>e s 0 (by omega)
 simp only [Int.cast_ofNat_Int] at e56 e48 e40 e32 e24 e16 e8 e0
 rw [e56,e48,e40,e32,e24,e16,e8,e0]
theorem linkC_F (s:Int) (r:GReading):linkC s r=linkF s r:=by
 unfold linkC linkF
 rw [show (fun s x=>[56,48,40,32,24,16,8,0].foldl (fun s k=>mixC s x k) s)=mixW from by funext s x; exact mixC_W x s]
theorem c_link (n:Nat) (hn:1000≤n) (s:Int) (r:GReading):g_chain_Link n s r=some (linkF s r):=by
 obtain ⟨m,rfl⟩:∃ m,n=m+100:=⟨n - 100,by omega⟩
 rw [c_link0,linkC_F]
theorem c_inside (n:Nat) (x a b:Int):g_chain_inside n x a b=some (decide (a≤x∧x≤b)):=by
 unfold g_chain_inside leI
 by_cases h:a≤x <;> simp [h]
theorem and4 (p q r s:Prop) [Decidable p] [Decidable q] [Decidable r] [Decidable s]:(bif decide p then bif decide q then bif decide r then decide s else false else false else false)=decide (p∧q∧r∧s):=by
 by_cases h1:p <;> by_cases h2:q <;> by_cases h3:r <;> by_cases h4:s <;> simp [h1,h2,h3,h4]
theorem c_valid (n:Nat) (r:GReading):g_chain_valid n r=some (decide ((1≤r.Serial∧r.Serial≤1000000)∧(1≤r.Number∧r.Number≤64)∧(0≤r.Minute∧r.Minute≤52560000)∧(0≤r.Register∧r.Register≤1000000000))):=by
 unfold g_chain_valid
 simp only [c_inside,obs,cond_some]
 exact congrArg some (and4 _ _ _ _)
theorem c_old (n:Nat) (a r:GReading):((g_chain_isOld n a r).bind fun r11=>cond r11 (some true) ((g_chain_isLater n a r).bind fun r14=>some r14))=some (!folB a r):=by
 unfold g_chain_isOld g_chain_isLater folB
 simp only [ltI,eqI_d,cond_some,obs]
 by_cases h1:r.Minute < a.Minute <;> by_cases h2:r.Serial=a.Serial <;> by_cases h3:r.Minute=a.Minute <;> by_cases h4:r.Register < a.Register <;> simp [h1,h2,h3,h4] <;> omega
open Classical in
theorem c_fit (n:Nat) (l:List GReading) (i:Nat) (x:GReading) (hx:l[i]?=some x) (hl:l.length≤80) :
  (((g_chain_valid n x).bind fun r6=>cond (!r6) (some true) (some (!eqI x.Number (wi ((i:Int)+1))))).bind fun j5=>cond j5 (some false) ((cond (ltI 0 (i:Int)) ((getI l (wi ((i:Int) - 1))).bind fun x10=>(g_chain_isOld n x10 x).bind fun r11=>cond r11 (some true) ((getI l (wi ((i:Int) - 1))).bind fun x13=>(g_chain_isLater n x13 x).bind fun r14=>some r14)) (some false)).bind fun j8=>some (!j8)))=some (decide (fitP l i)):=by
 have hi:=(List.getElem?_eq_some_iff.1 hx).1
 have hp:fitP l i↔i < 64∧(1≤x.Serial∧x.Serial≤1000000)∧x.Number=i+1∧(0≤x.Minute∧x.Minute≤52560000)∧(0≤x.Register∧x.Register≤1000000000)∧(i ≠ 0→∀ a ∈ l[i - 1]?,folB a x=true):=by
  unfold fitP
  constructor
  ·intro h; exact ⟨h.1,h.2 x hx⟩
  ·intro h; exact ⟨h.1,fun r hr=>by rw [hx] at hr; cases hr; exact h.2⟩
 rw [c_valid,obs,wi_id (x:=(i:Int)+1) (by omega) (by omega),eqI_d]
 by_cases hv:(1≤x.Serial∧x.Serial≤1000000)∧(1≤x.Number∧x.Number≤64)∧(0≤x.Minute∧x.Minute≤52560000)∧(0≤x.Register∧x.Register≤1000000000)
 rotate_left
 ·have hnf:¬ fitP l i:=by
   intro h
   have:=hp.1 h
   exact hv ⟨this.2.1,by omega,this.2.2.2.1,this.2.2.2.2.1⟩
  rw [dzF hv,dzF hnf]; rfl
 rw [dzT hv,Bool.not_true,cond_false,obs]
 by_cases hnm:x.Number=(i:Int)+1
 rotate_left
 ·rw [dzF hnm,dzF (show ¬ fitP l i from fun h=>hnm (hp.1 h).2.2.1)]; rfl
 rw [dzT hnm,Bool.not_true,cond_false]
 simp only [ltI]
 by_cases h0:i=0
 ·rw [dzF (show ¬ (0:Int) < i by omega),cond_false,obs,dzT]
  ·rfl
  ·rw [hp]
   exact ⟨by omega,hv.1,hnm,hv.2.2.1,hv.2.2.2,fun h=>absurd h0 h⟩
 ·have hw1:wi ((i:Int) - 1)=((i - 1:Nat):Int):=by rw [wi_id] <;> omega
  obtain ⟨a,ha⟩:∃ a,l[i - 1]?=some a:=⟨l[i - 1]'(by omega),by rw [List.getElem?_eq_getElem]⟩
  rw [dzT (show (0:Int) < i by omega),cond_true,hw1,getI_nat,ha]
  simp only [obs]
  rw [c_old,obs,Bool.not_not]
  cases hf:folB a x
  ·rw [dzF]
   intro h
   have:=(hp.1 h).2.2.2.2.2 h0 a ha
   rw [hf] at this; cases this
  ·rw [dzT]
   rw [hp]
   exact ⟨by omega,hv.1,hnm,hv.2.2.1,hv.2.2.2,fun _ a' ha'=>by rw [ha] at ha'; cases ha'; exact hf⟩
theorem fit_use {R:Type} {A:Option Bool} {B:Option Bool} {d:Bool} {X Y:Option R} (h:(A.bind fun j5=>cond j5 (some false) (B.bind fun j8=>some (!j8)))=some d) :
  (A.bind fun j5=>cond j5 X (B.bind fun j8=>cond j8 X Y))=cond d Y X:=by
 cases A with
 | none=>cases h
 | some a =>
  cases a
  ·cases B with
   | none=>cases h
   | some b =>
    simp only [obs,cond_false] at h ⊢
    cases h
    cases b <;> rfl
  ·simp only [obs,cond_true] at h ⊢
   cases h
   rfl
open Classical in
theorem c_check (n:Nat) (seed:Int) (l:List GReading) (hn:1000≤n) (hl:l.length≤80):Does (g_chain_Check n seed l) (fun r=>r=-1↔∀ j:Nat,j < l.length→j < 64∧chainAt seed l j):=by
 unfold g_chain_Check
 have:=does_loop (B:=fun recl3 (v:Int × Int)=>g_chain_Check_l3 n l recl3 v.1 v.2) (Q:=fun v r=>r=-1↔∀ j:Nat,v.1≤(j:Int)→j < l.length→j < 64∧chainAt seed l j)
  (fun v=>l.length - v.1.toNat) (fun v=>∃ i:Nat,v.1=(i:Int)∧i≤l.length∧v.2=prevLink seed l i) ?_ (n:=n) (v:=(0,seed)) ⟨0,rfl,by omega,rfl⟩ (by simp only; omega)
 ·refine does_mono this (fun r h=>h.trans ⟨fun h j hj=>h j (by simp) hj,fun h j _ hj=>h j hj⟩)
 ·rintro rec ⟨y,x⟩ ⟨i,rfl,hi,hxp⟩ ih
  simp only at hxp ⊢
  unfold g_chain_Check_l3
  simp only [lenI,List.length_map,ltI]
  by_cases hlt:i < l.length
  rotate_left
  ·rw [dzF (by omega),cond_false]
   unfold g_chain_Check_j1
   simp only [lenI,List.length_map,ltI]
   rw [dzF (by omega),cond_false]
   refine does_some ⟨fun _ j h1 h2=>?_,fun _=>rfl⟩
   omega
  rw [dzT (by omega),cond_true]
  obtain ⟨r,hr⟩:∃ r,l[i]?=some r:=⟨l[i],by rw [List.getElem?_eq_getElem]⟩
  rw [getI_nat,hr,obs]
  have hcf:=chain_fit seed l i hlt
  have hj1:g_chain_Check_j1 l (i:Int)=some (i:Int):=by
   unfold g_chain_Check_j1
   simp only [lenI,List.length_map,ltI]
   rw [dzT (by omega),cond_true]
  have hfit:=c_fit n l i r hr hl
  simp only [ltI] at hfit
  rw [fit_use hfit]
  by_cases hf:fitP l i
  rotate_left
  ·rw [dzF hf,cond_false,hj1]
   refine does_some ⟨fun h=>by omega,fun h=>absurd (hcf.1 (h i (Int.le_refl _) hlt)).1 hf⟩
  rw [dzT hf,cond_true,c_link n hn,obs,eqI_d]
  by_cases hk:r.Link=linkF x r
  rotate_left
  ·rw [dzF hk,Bool.not_false,cond_true]
   refine does_some ⟨fun h=>by omega,fun h=>absurd ((hcf.1 (h i (Int.le_refl _) hlt)).2 r hr) (by rw [← hxp]; exact hk)⟩
  rw [dzT hk,Bool.not_true,cond_false]
  have hw:wi ((i:Int)+1)=((i+1:Nat):Int):=by rw [wi_id] <;> omega
  rw [hw]
  refine does_mono (ih (((i+1:Nat):Int),r.Link) ⟨i+1,rfl,by omega,?_⟩ (by simp only [Int.toNat_natCast]; omega)) (fun y h=>h.trans ⟨fun h j h1 h2=>?_,fun h j h1 h2=>h j ?_ h2⟩)
  ·unfold prevLink
   simp [hr]
  ·by_cases hj:j=i
   ·subst hj
    exact hcf.2 ⟨hf,fun r' hr'=>by rw [hr] at hr'; cases hr'; rw [← hxp]; exact hk⟩
   ·exact h j (by simp only; omega) h2
  ·simp only at h1; omega
end Go.Proofs
namespace Go.Proofs
open Go Go.Abs
set_option maxRecDepth 100000
set_option linter.unusedVariables false
theorem ses_val (seed:Int) (l:List GReading) (hc:chainOk seed l):valB (sesF l)=sesB (sesF l):=by
 cases hv:valB (sesF l)
 ·cases hs:sesB (sesF l)
  ·rfl
  ·rw [val_ses seed l hc hs] at hv; cases hv
 ·symm
  simp only [valB,bae,decide_eq_true_eq] at hv
  obtain ⟨hr,hs⟩:=hv
  have hm:=slB_mem hs
  unfold sesB
  rw [wi_id (x:=(sesF l).To - (sesF l).From) (by omega) (by omega),dzT hr.2.1,dzT hr.2.2.2.1,dzT hr.2.2.2.2.2.2]
  simp only [Bool.true_and]
  rw [List.all_eq_true]
  intro x hx
  rw [dzT]
  exact (hm x hx).2.2.2
end Go.Proofs
namespace Go.Proofs
open Go Go.Abs
set_option maxRecDepth 100000
set_option linter.unusedVariables false
def chainP (seed:Int) (l:List GReading):Prop:=∀ j:Nat,j < l.length→j < 64∧chainAt seed l j
theorem chainP_ok {seed:Int} {l:List GReading} (h:chainP seed l) (h0:l ≠ []):chainOk seed l:=by
 have hp:=List.length_pos_iff.2 h0
 refine ⟨⟨hp,?_⟩,fun i hi=>(h i hi).2⟩
 have:=(h (l.length - 1) (by omega)).1
 omega
theorem chainP_len {seed:Int} {l:List GReading} (h:chainP seed l):l.length≤64:=by
 by_cases h0:l.length=0
 ·omega
 ·have:=(h (l.length - 1) (by omega)).1
  omega
theorem prev_app (seed:Int) (l:List GReading) (r:GReading) (i:Nat) (hi:i≤l.length):prevLink seed (l++[r]) i=prevLink seed l i:=by
 unfold prevLink
 by_cases h:i=0
 ·rw [if_pos h,if_pos h]
 ·rw [if_neg h,if_neg h,List.getElem?_append_left (by omega)]
theorem chainP_app {seed:Int} {l:List GReading} {r:GReading} (h:chainP seed l) (hl:l.length < 64) (hr:(1≤r.Serial∧r.Serial≤1000000)∧r.Number=l.length+1∧(0≤r.Minute∧r.Minute≤52560000)∧(0≤r.Register∧r.Register≤1000000000))
  (hf:∀ a,l.getLast?=some a→folB a r=true) (hk:r.Link=linkF (prevLink seed l l.length) r):chainP seed (l++[r]):=by
 intro j hj
 simp only [List.length_append,List.length_cons,List.length_nil] at hj
 by_cases hj2:j < l.length
 ·refine ⟨(h j hj2).1,?_⟩
  intro x hx
  rw [List.getElem?_append_left hj2] at hx
  have:=(h j hj2).2 x hx
  refine ⟨this.1,this.2.1,this.2.2.1,this.2.2.2.1,fun h0 a ha=>?_,?_⟩
  ·rw [List.getElem?_append_left (by omega)] at ha
   exact this.2.2.2.2.1 h0 a ha
  ·rw [prev_app seed l r j (by omega)]
   exact this.2.2.2.2.2
 ·have hj3:j=l.length:=by omega
  subst hj3
  refine ⟨hl,?_⟩
  intro x hx
  rw [List.getElem?_append_right (Nat.le_refl _),Nat.sub_self] at hx
  simp only [List.getElem?_cons_zero,Option.mem_def,sie] at hx
  subst hx
  refine ⟨hr.1,by rw [hr.2.1],hr.2.2.1,hr.2.2.2,fun h0 a ha=>?_,?_⟩
  ·rw [List.getElem?_append_left (by omega)] at ha
   exact hf a (by rw [List.getLast?_eq_getElem?]; exact ha)
  ·rw [prev_app seed l r _ (Nat.le_refl _)]
   exact hk
theorem linkF_any (q s N m g k:Int):linkF q ⟨s,N,m,g,k⟩=linkF q ⟨s,N,m,g,0⟩:=by
 unfold linkF
 simp only
theorem folB_any (a:GReading) (s N m g k:Int):folB a ⟨s,N,m,g,k⟩=folB a ⟨s,N,m,g,0⟩:=by
 unfold folB
 simp only
theorem prev_last (seed:Int) (l:List GReading) (a:GReading) (h:l.getLast?=some a):prevLink seed l l.length=a.Link:=by
 unfold prevLink
 rw [List.getLast?_eq_getElem?] at h
 have hl:=(List.getElem?_eq_some_iff.1 h).1
 rw [if_neg (by omega),h]; rfl
theorem c_append (n:Nat) (seed:Int) (l:List GReading) (s m g:Int) (hn:1000≤n) (hc:chainP seed l) :
  ∃ r:List GReading × Int,g_chain_Append n seed l s m g=some r∧(r.2=0→chainP seed r.1∧∃ x:GReading,r.1=l++[x]∧x.Serial=s∧x.Minute=m∧x.Register=g):=by
 have hl:=chainP_len hc
 unfold g_chain_Append
 obtain ⟨k,e,hk⟩:=c_check n seed l hn (by omega)
 rw [e,obs,hk.2 hc]
 rw [show leI 0 (-1)=false from rfl,cond_false]
 simp only [lenI,List.length_map,eqI_d]
 by_cases h64:l.length=64
 ·rw [dzT (by omega),cond_true]
  exact ⟨_,rfl,fun h=>by cases h⟩
 rw [dzF (by omega),cond_false,wi_id (x:=(l.length:Int)+1) (by omega) (by omega),c_valid,obs]
 by_cases hv:(1≤s∧s≤1000000)∧(1≤(l.length:Int)+1∧(l.length:Int)+1≤64)∧(0≤m∧m≤52560000)∧(0≤g∧g≤1000000000)
 rotate_left
 ·rw [dzF hv]
  exact ⟨_,rfl,fun h=>by cases h⟩
 rw [dzT hv,Bool.not_true,cond_false]
 have hj3:∀ p,p=prevLink seed l l.length→(∀ a,l.getLast?=some a→folB a ⟨s,(l.length:Int)+1,m,g,0⟩=true) →
   ∃ r:List GReading × Int,g_chain_Append_j3 n l s m g p=some r∧(r.2=0→chainP seed r.1∧∃ x:GReading,r.1=l++[x]∧x.Serial=s∧x.Minute=m∧x.Register=g):=by
  intro p hp hf
  unfold g_chain_Append_j3
  simp only [lenI,List.length_map]
  rw [wi_id (x:=(l.length:Int)+1) (by omega) (by omega),c_link n hn,obs]
  have r1:makeB 0 ((l.length:Int)+1) 40=true:=by
   simp only [makeB]
   simp
   omega
  have r2:roomB (List.length ([]++l)) 40=true:=by simp [roomB]; omega
  rw [r1,cond_true,r2,cond_true]
  have r3:∀ x:GReading,roomB (List.length (([]++l)++[x])) 40=true:=by intro x; simp [roomB]; omega
  rw [r3,cond_true]
  refine ⟨_,rfl,fun _=>⟨?_,_,by rw [List.nil_append],rfl,rfl,rfl⟩⟩
  rw [List.nil_append]
  refine chainP_app hc (by omega) ⟨hv.1,rfl,hv.2.2.1,hv.2.2.2⟩ (fun a ha=>?_) ?_
  ·rw [folB_any]
   exact hf a ha
  ·rw [hp]
   exact (linkF_any _ _ _ _ _ _).symm
 by_cases h0:l.length=0
 ·have hnil:l=[]:=List.eq_nil_of_length_eq_zero h0
  rw [show ltI 0 (l.length:Int)=false from by simp [ltI]; omega,cond_false]
  refine hj3 seed ?_ (fun a ha=>?_)
  ·subst hnil; rfl
  ·subst hnil; cases ha
 ·rw [show ltI 0 (l.length:Int)=true from by simp [ltI]; omega,cond_true,getI_last (by omega) (by omega)]
  obtain ⟨a,ha⟩:∃ a,l.getLast?=some a:=by
   cases hla:l.getLast? with
   | none=>rw [List.getLast?_eq_none_iff] at hla; subst hla; exact absurd rfl h0
   | some a=>exact ⟨a,rfl⟩
  rw [ha,obs]
  have ho:=c_old n a ⟨s,(l.length:Int)+1,m,g,0⟩
  generalize (⟨s,(l.length:Int)+1,m,g,0⟩:GReading)=r at ho hj3 ⊢
  cases h1:g_chain_isOld n a r with
  | none=>rw [h1] at ho; cases ho
  | some b1 =>
   rw [h1,obs] at ho
   rw [obs]
   cases b1
   ·rw [cond_false] at ho ⊢
    cases h2:g_chain_isLater n a r with
    | none=>rw [h2] at ho; cases ho
    | some b2 =>
     rw [h2,obs] at ho
     rw [obs]
     cases b2
     ·rw [cond_false]
      refine hj3 a.Link (prev_last seed l a ha).symm (fun a' ha'=>?_)
      rw [ha] at ha'
      cases ha'
      cases hf:folB a r
      ·rw [hf] at ho; cases ho
      ·rfl
     ·exact ⟨_,rfl,fun h=>by cases h⟩
   ·exact ⟨_,rfl,fun h=>by cases h⟩
structure Mk (seed f s m g:Int) (l:List GReading) (en:Int) (sl:List GSl):Prop where
 ch:chainP seed l
 ex:∃ x0 rest,l=x0 :: rest∧x0.Minute=f∧(lst x0 rest).Serial=s∧(lst x0 rest).Minute=m∧(lst x0 rest).Register=g∧derF f x0 f [] rest=(en,sl)
 sm:∀ q ∈ sl,q.Minute < m
theorem mk_min {seed f s m g:Int} {l:List GReading} {en:Int} {sl:List GSl} (h:Mk seed f s m g l en sl):f≤m∧(0≤m∧m≤52560000)∧(0≤g∧g≤1000000000)∧(1≤s∧s≤1000000):=by
 obtain ⟨x0,rest,e,h1,h2,h3,h4,h5⟩:=h.ex
 have hc:=chainP_ok h.ch (by rw [e]; simp)
 subst e
 have ho:OrdR x0 rest:=chain_drop hc rest x0 0 rfl
 have:=ord_lst rest x0 ho x0 (Or.inl rfl)
 have hlast:(x0 :: rest)[rest.length]?=some (lst x0 rest):=by
  have:=getLast_lst rest x0 (by simp)
  rw [List.getLast_eq_getElem] at this
  rw [← this,List.getElem?_eq_getElem (by simp)]
  simp
 have hl:=(hc.2 rest.length (by simp)) _ hlast
 rw [h2,h3,h4] at hl
 exact ⟨by omega,hl.2.2.1,hl.2.2.2.1,hl.1⟩
theorem mk_ses {seed f s m g:Int} {l:List GReading} {en:Int} {sl:List GSl} (h:Mk seed f s m g l en sl):chainOk seed l∧sesF l=⟨f,m,en,sl⟩:=by
 obtain ⟨x0,rest,e,h1,h2,h3,h4,h5⟩:=h.ex
 refine ⟨chainP_ok h.ch (by rw [e]; simp),?_⟩
 subst e
 have ht:(sesF (x0 :: rest)).To=(lst x0 rest).Minute:=by
  have:(sesF (x0 :: rest)).To=((x0 :: rest).getLast (by simp)).Minute:=rfl
  rw [this,getLast_lst]
 have:sesF (x0 :: rest)=⟨x0.Minute,(sesF (x0 :: rest)).To,(derF x0.Minute x0 x0.Minute [] rest).1,(derF x0.Minute x0 x0.Minute [] rest).2⟩:=rfl
 rw [this,ht,h3,h1,h5]
theorem mk_step {seed f s m g:Int} {l:List GReading} {en:Int} {sl:List GSl} (h:Mk seed f s m g l en sl) (x:GReading) (hc:chainP seed (l++[x])) (en':Int) (sl':List GSl)
  (hd:∀ p:GReading,p.Serial=s→p.Minute=m→p.Register=g→derS f p x en sl=(en',sl')) (hs:∀ q ∈ sl',q.Minute < x.Minute):Mk seed f x.Serial x.Minute x.Register (l++[x]) en' sl':=by
 obtain ⟨x0,rest,e,h1,h2,h3,h4,h5⟩:=h.ex
 refine ⟨hc,⟨x0,rest++[x],by rw [e]; rfl,h1,?_,?_,?_,?_⟩,hs⟩
 ·rw [lst_app]; rfl
 ·rw [lst_app]; rfl
 ·rw [lst_app]; rfl
 ·rw [derF_app,h5]
  show (derS f (lst x0 rest) x en sl)=_
  exact hd _ h2 h3 h4
def MadeQ (n:Nat) (t:GTf) (c:GCl) (seed:Int) (x:GClaim × Bool):Prop :=
 x.2=true→x.1.Tariff=t∧x.1.Calendar=c∧x.1.Seed=seed∧chainOk seed x.1.Readings∧x.1.Session=sesF x.1.Readings∧x.1.Session.Slices.length≤30∧i64b x.1.Session.To∧g_bill_Bill n t c x.1.Session=some (x.1.Bill,0)
theorem c_made2 (n:Nat) (t:GTf) (c:GCl) (seed f s m g:Int) (l:List GReading) (e en:Int) (ol:OL GSl) (hn:10000≤n) (hm:i64b m) (h1:c.Changes.length≤900) (h2:c.Holidays.length≤900) (hs:ol.toL.length≤30) (h:e=0→Mk seed f s m g l en ol.toL) :
  Does (g_law43_made_j2 n t c seed f m l e en ol) (MadeQ n t c seed):=by
 unfold g_law43_made_j2
 generalize ol.toL=sl at hs h ⊢
 have hb:=b_bill n t c ⟨f,m,en,sl⟩ hn h1 h2 (by simp only; omega) hm
 generalize (if (tariffB t&&calB c&&valB ⟨f,m,en,sl⟩)=true then _ else _:GBill × Int)=B at hb
 rw [hb,obs,eqI_d]
 by_cases h0:e=0
 ·rw [dzT h0,cond_true]
  refine does_some (fun hok=>?_)
  simp only [eqI_d,decide_eq_true_eq] at hok
  have hk:=mk_ses (h h0)
  refine ⟨rfl,rfl,rfl,hk.1,hk.2.symm,hs,hm,?_⟩
  rw [hb]
  obtain ⟨b1,b2⟩:=B
  simp only at hok
  rw [hok]
 ·rw [dzF h0,cond_false]
  exact does_some (fun hok=>by cases hok)
theorem derS_same (f:Int) (p x:GReading) (en:Int) (sl:List GSl) (h:x.Serial ≠ p.Serial∨x.Minute≤f∨wi (x.Register - p.Register)=0):derS f p x en sl=(en,sl):=by
 unfold derS
 by_cases c:x.Serial=p.Serial∧f < x.Minute
 ·rw [if_pos c,if_pos]
  rcases h with h | h | h
  ·exact absurd c.1 h
  ·omega
  ·exact h
 ·rw [if_neg c]
theorem derS_new (f:Int) (p x:GReading) (en:Int) (sl:List GSl) (h1:x.Serial=p.Serial) (h2:f < x.Minute) (h3:wi (x.Register - p.Register) ≠ 0) (h4:0≤x.Minute∧x.Minute≤52560000) (h5:∀ q ∈ sl,q.Minute < x.Minute - 1) :
  derS f p x en sl=(x.Minute,sl++[⟨x.Minute - 1,wi (x.Register - p.Register)⟩]):=by
 unfold derS
 rw [if_pos ⟨h1,h2⟩,if_neg h3,wi_id (x:=x.Minute - 1) (by omega) (by omega)]
 have ha:addS (x.Minute - 1) (wi (x.Register - p.Register)) en sl=(x.Minute,sl++[⟨x.Minute - 1,wi (x.Register - p.Register)⟩]):=by
  unfold addS
  rw [wi_id (x:=x.Minute - 1+1) (by omega) (by omega),show x.Minute - 1+1=x.Minute from by omega]
 rw [ha]
 cases hl:sl.getLast? with
 | none=>rfl
 | some q =>
  have:=h5 q (List.mem_of_getLast? hl)
  simp only
  rw [if_neg (by omega)]
theorem c_made5 (n:Nat) (t:GTf) (c:GCl) (seed f:Int) (steps:List (Int × Int)) (hn:10000≤n) (h1:c.Changes.length≤900) (h2:c.Holidays.length≤900) (hl:steps.length≤30) (hu:∀ x ∈ steps,u8b x.1∧u8b x.2)
  (s m g:Int) (l:List GReading) (e en:Int) (hm:i64b m) (h:e=0→Mk seed f s m g l en []) :
  Does (loopN (fun recl5 (v:Int × Int × Int × (List GReading) × Int × Int × Int × (OL GSl))=>g_law43_made_l5 n t c seed f steps recl5 v.1 v.2.1 v.2.2.1 v.2.2.2.1 v.2.2.2.2.1 v.2.2.2.2.2.1 v.2.2.2.2.2.2.1 v.2.2.2.2.2.2.2) n (s,m,g,l,e,0,en,OL.nil)) (MadeQ n t c seed):=by
 have key:=loop_does (l:=steps) (fun (a:Int × Int × Int × List GReading × Int × Int × OL GSl) i=>(a.1,a.2.1,a.2.2.1,a.2.2.2.1,a.2.2.2.2.1,i,a.2.2.2.2.2.1,a.2.2.2.2.2.2)) (B:=fun recl5 (v:Int × Int × Int × (List GReading) × Int × Int × Int × (OL GSl))=>g_law43_made_l5 n t c seed f steps recl5 v.1 v.2.1 v.2.2.1 v.2.2.2.1 v.2.2.2.2.1 v.2.2.2.2.2.1 v.2.2.2.2.2.2.1 v.2.2.2.2.2.2.2)
  (Q:=fun _ _=>MadeQ n t c seed) (fun i a=>i64b a.2.1∧a.2.2.2.2.2.2.toL.length≤i∧(a.2.2.2.2.1=0→Mk seed f a.1 a.2.1 a.2.2.1 a.2.2.2.1 a.2.2.2.2.2.1 a.2.2.2.2.2.2.toL)) (by omega) ?_ ?_ (n:=n) 0 (s,m,g,l,e,en,OL.nil) ⟨hm,by simp,h⟩ (by omega) (by omega)
 ·exact key
 ·rintro rec ⟨s,m,g,l,e,en,ol⟩ ⟨i1,i2,i3⟩
  simp only at i1 i2 i3
  have hlt:ltI ((steps.length:Nat):Int) (lenI (List.map enc_2_uint8 steps))=false:=by simp [ltI,lenI]
  show Does (g_law43_made_l5 n t c seed f steps rec s m g l e ((steps.length:Nat):Int) en ol) _
  unfold g_law43_made_l5
  rw [hlt,cond_false]
  exact c_made2 n t c seed f s m g l e en ol hn i1 h1 h2 (by omega) i3
 ·rintro rec ⟨s,m,g,l,e,en,ol⟩ i x r ⟨i1,i2,i3⟩ hd hx hi hw hr
  simp only at i1 i2 i3
  have hlt:ltI (i:Int) (lenI (List.map enc_2_uint8 steps))=true:=by
   simp only [ltI,lenI,List.length_map]
   rw [dzT (by omega)]
  have hr':∀ s m g l e en (sl:OL GSl),i64b m→sl.toL.length≤i+1→(e=0→Mk seed f s m g l en sl.toL)→Does (rec (s,m,g,l,e,((i+1:Nat):Int),en,sl)) (MadeQ n t c seed):=fun s m g l e en sl a b c=>hr (s,m,g,l,e,en,sl) ⟨a,b,c⟩
  have hu8:=hu x (List.mem_of_getElem? hx)
  obtain ⟨x1,x2⟩:=x
  unfold u8b at hu8
  simp only at hu8
  show Does (g_law43_made_l5 n t c seed f steps rec s m g l e (i:Int) en ol) _
  unfold g_law43_made_l5
  rw [hlt,cond_true,getI_nat,hx,obs,eqI_d]
  by_cases he:e=0
  rotate_left
  ·rw [dzF he]
   exact does_some (fun hok=>by cases hok)
  rw [dzT he,Bool.not_true,cond_false]
  have mk:=i3 he
  have mm:=mk_min mk
  have wx1:wi x1=x1:=wi_id (by omega) (by omega)
  have wx2:wi x2=x2:=wi_id (by omega) (by omega)
  have wm:wi (m+x1)=m+x1:=wi_id (by omega) (by omega)
  have wm1:wi (m+x1 - 1)=m+x1 - 1:=wi_id (by omega) (by omega)
  have wg:wi (g+x2)=g+x2:=wi_id (by omega) (by omega)
  have wg2:wi (g+x2 - x2)=g:=by rw [show g+x2 - x2=g from by omega]; exact wi_id (by omega) (by omega)
  simp only [wx1,wx2,wm,wm1,wg,wg2,eqI_d,ltI,hw,cond_some,obs]
  have hroom:roomB (List.length (ol.toL++[(⟨m+x1 - 1,x2⟩:GSl)])) 16=true:=by simp [roomB]; omega
  rw [hroom]
  simp only [cond_true,cond_some,obs]
  have hj:∃ en' ol' g',(bif (bif decide (0 < x1) then decide (0 < x2) else false) then (m+x1,OL.own (ol.toL++[(⟨m+x1 - 1,x2⟩:GSl)])) else (en,ol))=(en',ol')∧(bif decide (x1=0) then g else g+x2)=g'∧ol'.toL.length≤i+1 ∧
    ∀ r:GReading,r.Serial=s→r.Minute=m+x1→r.Register=g'→chainP seed (l++[r])→Mk seed f s (m+x1) g' (l++[r]) en' ol'.toL:=by
   by_cases c1:0 < x1
   ·have c1':¬ x1=0:=by omega
    by_cases c2:0 < x2
    ·refine ⟨m+x1,OL.own (ol.toL++[⟨m+x1 - 1,x2⟩]),g+x2,by rw [dzT c1,dzT c2]; rfl,by rw [dzF c1']; rfl,by simp only [OL.toL_own,List.length_append,List.length_cons,List.length_nil]; omega,fun r r1 r2 r3 hc=>?_⟩
     have hdif:∀ p:GReading,p.Register=g→wi (r.Register - p.Register)=x2:=fun p hp=>by
      rw [r3,hp,show g+x2 - g=x2 from by omega]
      exact wx2
     have:=mk_step mk r hc (m+x1) (ol.toL++[⟨m+x1 - 1,x2⟩]) (fun p p1 p2 p3=>by
      have hd2:=hdif p p3
      rw [derS_new f p r en ol.toL (by rw [r1,p1]) (by omega) (by rw [hd2]; omega) ?_ ?_,hd2,r2]
      ·have hcc:=(hc l.length (by simp)).2 r (by simp)
       exact hcc.2.2.1
      ·intro q hq
       have:=mk.sm q hq
       omega) (fun q hq=>by
      rcases List.mem_append.1 hq with hq | hq
      ·have:=mk.sm q hq
       omega
      ·rw [List.mem_singleton.1 hq]
       simp only
       omega)
     rw [r1,r2,r3] at this
     exact this
    ·have hx2:x2=0:=by omega
     refine ⟨en,ol,g+x2,by rw [dzT c1,dzF c2]; rfl,by rw [dzF c1']; rfl,by omega,fun r r1 r2 r3 hc=>?_⟩
     have:=mk_step mk r hc en ol.toL (fun p p1 p2 p3=>derS_same f p r en ol.toL (Or.inr (Or.inr (by rw [r3,p3,hx2,show g+0 - g=0 from by omega]; rfl)))) (fun q hq=>by
      have:=mk.sm q hq
      omega)
     rw [r1,r2,r3] at this
     exact this
   ·have hx1:x1=0:=by omega
    refine ⟨en,ol,g,by rw [dzF c1]; rfl,by rw [dzT hx1]; rfl,by omega,fun r r1 r2 r3 hc=>?_⟩
    have:=mk_step mk r hc en ol.toL (fun p p1 p2 p3=>derS_same f p r en ol.toL (Or.inr (Or.inr (by rw [r3,p3,show g - g=0 from by omega]; rfl)))) (fun q hq=>by
     have:=mk.sm q hq
     omega)
    rw [r1,r2,r3] at this
    exact this
  obtain ⟨en',ol',g',hj1,hj2,hj3,hj4⟩:=hj
  rw [hj1,hj2]
  simp only
  obtain ⟨r1,e1,q1⟩:=c_append n seed l s (m+x1) g' (by omega) mk.ch
  rw [e1,obs]
  have hmb:i64b (m+x1):=⟨by omega,by omega⟩
  have hmk1:r1.2=0→Mk seed f s (m+x1) g' r1.1 en' ol'.toL:=by
   intro h0
   obtain ⟨k1,x,k2,k3,k4,k5⟩:=q1 h0
   have:=hj4 x k3 k4 k5 (by rw [← k2]; exact k1)
   rw [k2]
   exact this
  by_cases c3:r1.2=0
  rotate_left
  ·rw [dzF c3,cond_false,cond_false]
   exact hr' _ _ _ _ _ _ _ hmb hj3 hmk1
  rw [dzT c3,cond_true]
  have mk1:=hmk1 c3
  by_cases c4:Int.tmod x2 8=7
  rotate_left
  ·rw [dzF c4,cond_false]
   exact hr' _ _ _ _ _ _ _ hmb hj3 hmk1
  rw [dzT c4,cond_true]
  have ws:wi (s+1)=s+1:=wi_id (by omega) (by omega)
  rw [ws]
  obtain ⟨r2,e2,q2⟩:=c_append n seed r1.1 (s+1) (m+x1) 5 (by omega) mk1.ch
  rw [e2,obs]
  refine hr' _ _ _ _ _ _ _ hmb hj3 (fun h0=>?_)
  obtain ⟨k1,x,k2,k3,k4,k5⟩:=q2 h0
  have:=mk_step mk1 x (by rw [← k2]; exact k1) en' ol'.toL (fun p p1 p2 p3=>derS_same f p x en' ol'.toL (Or.inl (by rw [k3,p1]; omega))) (fun q hq=>by
   have:=mk1.sm q hq
   omega)
  rw [k3,k4,k5,← k2] at this
  exact this
theorem c_made (n:Nat) (t:GTf) (c:GCl) (seed f:Int) (steps:List (Int × Int)) (hn:10000≤n) (h1:c.Changes.length≤900) (h2:c.Holidays.length≤900) (hl:steps.length≤30) (hu:∀ x ∈ steps,u8b x.1∧u8b x.2) (hf:i64b f) :
  Does (g_law43_made n t c seed f steps) (MadeQ n t c seed):=by
 unfold g_law43_made
 obtain ⟨r,e,q⟩:=c_append n seed [] 1 f 0 (by omega) (fun j hj=>by simp at hj)
 rw [e,obs]
 refine c_made5 n t c seed f steps hn h1 h2 hl hu 1 f 0 r.1 r.2 f hf (fun h0=>?_)
 obtain ⟨k1,x,k2,k3,k4,k5⟩:=q h0
 exact ⟨k1,⟨x,[],by rw [k2]; rfl,k4,k3,k4,k5,rfl⟩,fun q hq=>by simp at hq⟩
theorem accepts_plain (t:GTf) (c:GCl) (seed f:Int) (steps:List (Int × Int)) (hu:∀ x ∈ steps,u8b x.1∧u8b x.2) (hf:i64b f):g_law43_AuditorAccepts 36893488147419103232 t c seed f steps=some true:=by
 unfold g_law43_AuditorAccepts
 generalize hn:(36893488147419103232:Nat)=n
 have hh:g_law43_head n=some true:=by rw [← hn]; exact head_big
 obtain ⟨b,f1,f2⟩:=a_few33 n t c ⟨0,0,0,[]⟩
 rw [hh,obs,f1,obs]
 cases b
 ·rfl
 have f3:=f2 rfl
 rw [Bool.not_true,cond_false,obs]
 simp only [lenI,List.length_map,ltI]
 by_cases hl:steps.length≤30
 rotate_left
 ·rw [dzT (by omega),cond_true]
 rw [dzF (by omega),cond_false]
 obtain ⟨⟨x,ok⟩,e,q⟩:=c_made n t c seed f steps (by omega) (by omega) (by omega) hl hu hf
 rw [e,obs]
 cases ok
 ·rfl
 obtain ⟨q1,q2,q3,q4,q5,q6,q7,q8⟩:=q rfl
 simp only at q1 q2 q3 q4 q5 q6 q7 q8
 obtain ⟨b,e2,g2,g3,hf9⟩:=a_replay n x (by omega)
 rw [Bool.not_true,cond_false,g2,obs,cond_true,a_verify n x (by omega),obs]
 have hb:=b_bill n t c x.Session (by omega) (by omega) (by omega) (by omega) q7
 rw [q8] at hb
 have hval:=ses_val seed x.Readings q4
 rw [← q5] at hval
 have e1:linesOf x=linF c x.Session 0 t.Articles:=by rw [q5,← q1,← q2]; rfl
 have e3:billOf x=bilF t (rateF 0 t.Articles) 0 (linF c x.Session 0 t.Articles):=by rw [q5,← q1,← q2]; rfl
 rw [← e1] at e3
 rw [← e1,← e3] at hb
 have hb:=Option.some.inj hb
 by_cases hv:(tariffB t&&calB c&&valB x.Session)=true
 rotate_left
 ·rw [if_neg hv] at hb
  exact absurd (show (0:Int)=1 from congrArg Prod.snd hb) (by decide)
 rw [if_pos hv] at hb
 cases h6:linB (linesOf x)
 ·rw [h6,if_neg (by decide)] at hb
  exact absurd (show (0:Int)=3 from congrArg Prod.snd hb) (by decide)
 rw [h6,if_pos rfl] at hb
 cases h8:bilB (billOf x)
 ·rw [h8,if_neg (by decide)] at hb
  exact absurd (show (0:Int)=3 from congrArg Prod.snd hb) (by decide)
 rw [h8,if_pos rfl] at hb
 have hbill:x.Bill=billOf x:=congrArg Prod.fst hb
 simp only [bae] at hv
 have half:Half x:=⟨by rw [q3]; exact q4,by rw [q1]; exact hv.1.1,by rw [q2]; exact hv.1.2,by rw [← q5,← hval]; exact hv.2,h6,h8⟩
 have hx:=exa_with half x.Bill
 have hx':exa x true=0:=by
  have e9:(⟨x.Tariff,x.Calendar,x.Readings,x.Seed,x.Session,x.Bill⟩:GClaim)=x:=rfl
  rw [e9] at hx
  rw [hx,if_neg (not_not_intro q5),if_neg (by rw [hbill]; exact not_not_intro rfl),if_pos hbill]
 have g4:=g3 (half_exa half)
 rw [hx',eqI_d,dzT rfl,cond_true,eqI_d,g4.2,dzT rfl,cond_true,g4.1,← hbill,a_sameBill n _ _ (by omega) ?_,obs,dzT rfl]
 rw [hbill]
 have h5:(billOf x).Lines=linesOf x:=rfl
 rw [h5,e1]
 have:=linF_len c x.Session t.Articles 0
 omega
end Go.Proofs
namespace Go.Proofs.YtgehgobiibddaaaGreat
open Go Go.Abs Go.Proofs
theorem auditorAccepts_holds:Rows.AuditorAcceptsSaid:=auditorAccepts_said fun t c seed f steps _ _ _ hf hs=>⟨_,accepts_plain t c seed f steps (fun x hx=>hs.2 x hx) hf⟩
end Go.Proofs.YtgehgobiibddaaaGreat
